/- Functions of the seat in the intermediate language, printed by a program out of the translation, and that each is the program's own. -/
import Derived.Test.YtmchkmpefhdolaaProg
import Derived.Test.YtmchkmpefhdolaaAbs14
import Derived.KernelRfl
namespace Go.Proofs.Ytmchkmpefhdolaa
open Go.Ai
set_option maxRecDepth 100000

/- pinball/wide.quoLimbs -/
def Try.i111 : IFunc := ⟨2, 282, [.tmp 4, .tmp 5],
  .seq (.region false [⟨some 4, .nlo 1, none, [241, 245]⟩,
   ⟨some 5, .nlo 1, none, [253, 262, 265, 267, 279]⟩])
  (.seq (.seq (.region false [⟨some 29, .mov (.t 0), none, []⟩,
   ⟨some 30, .mov (.t 1), none, []⟩,
   ⟨some 31, .call 118 [.t 29, .t 30], none, []⟩,
   ⟨some 32, .bin .lss (.t 31) (.c (.int .i64 0)), none, []⟩])
  (.cond (.t 32) (.seq (.region false [⟨some 33, .mov (.t 0), none, []⟩,
   ⟨some 34, .apd true (.c (.nil)) (.t 33) 1, none, []⟩,
   ⟨some 4, .nlo 1, none, [241, 245]⟩,
   ⟨some 5, .tra 34, none, [253, 262, 265, 267, 279]⟩])
  (.ret))
  (.skip)))
  (.seq (.seq (.region false [⟨some 35, .mov (.t 1), none, []⟩,
   ⟨some 36, .len (.t 35), none, []⟩,
   ⟨some 37, .bin .eql (.t 36) (.c (.int .i64 1)), none, []⟩])
  (.cond (.t 37) (.seq (.region false [⟨some 39, .mov (.t 0), none, []⟩,
   ⟨some 40, .mov (.t 1), none, []⟩,
   ⟨some 41, .ixa 40 (.c (.int .i64 0)) 1, none, []⟩,
   ⟨some 42, .ld 41 41 1 true, none, []⟩,
   ⟨some 43, .call 119 [.t 39, .t 42], none, []⟩,
   ⟨some 38, .mov (.t 43), none, []⟩,
   ⟨some 44, .ext (.t 38) 0, none, []⟩,
   ⟨some 45, .ext (.t 38) 1, none, []⟩,
   ⟨some 6, .mov (.t 44), none, []⟩,
   ⟨some 7, .mov (.t 45), none, []⟩])
  (.seq (.region false [⟨some 46, .mov (.t 6), none, []⟩,
   ⟨some 47, .mov (.t 7), none, []⟩,
   ⟨some 48, .blo 1 1 [.int .u32 0] [(0, 1, .t 47)], none, []⟩,
   ⟨some 4, .tra 46, none, [241, 245]⟩,
   ⟨some 5, .tra 48, none, [253, 262, 265, 267, 279]⟩])
  (.ret)))
  (.skip)))
  (.seq (.region false [⟨some 49, .mov (.t 1), none, []⟩,
   ⟨some 50, .mov (.t 1), none, []⟩,
   ⟨some 51, .len (.t 50), none, []⟩,
   ⟨some 52, .bin .sub (.t 51) (.c (.int .i64 1)), none, []⟩,
   ⟨some 53, .ixa 49 (.t 52) 1, none, []⟩,
   ⟨some 54, .ld 53 53 1 true, none, []⟩,
   ⟨some 55, .call 120 [.t 54], none, []⟩,
   ⟨some 8, .mov (.t 55), none, []⟩])
  (.seq (.region true [⟨some 56, .mov (.t 0), none, []⟩,
   ⟨some 57, .mov (.t 8), none, []⟩,
   ⟨some 58, .clo 121 [.t 56, .t 57], none, []⟩,
   ⟨some 59, .mov (.t 1), none, []⟩,
   ⟨some 60, .mov (.t 8), none, []⟩,
   ⟨some 61, .call 121 [.t 59, .t 60], none, []⟩,
   ⟨some 62, .mov (.t 1), none, []⟩,
   ⟨some 63, .len (.t 62), none, []⟩,
   ⟨some 64, .sli (.t 61) none (some (.t 63)) none 1, none, []⟩,
   ⟨some 9, .tra 58, none, [92, 96, 100, 105, 123, 128, 157, 161, 170, 178, 179, 183, 190, 196, 207, 211, 222, 230, 231, 235, 240, 255, 257, 269, 272]⟩,
   ⟨some 10, .mov (.t 64), none, []⟩])
  (.seq (.region false [⟨some 65, .mov (.t 1), none, []⟩,
   ⟨some 66, .len (.t 65), none, []⟩,
   ⟨some 67, .mov (.t 0), none, []⟩,
   ⟨some 68, .len (.t 67), none, []⟩,
   ⟨some 69, .mov (.t 1), none, []⟩,
   ⟨some 70, .len (.t 69), none, []⟩,
   ⟨some 71, .bin .sub (.t 68) (.t 70), none, []⟩,
   ⟨some 11, .mov (.t 66), none, []⟩,
   ⟨some 12, .mov (.t 71), none, []⟩])
  (.seq (.region false [⟨some 72, .mov (.t 12), none, []⟩,
   ⟨some 73, .bin .add (.t 72) (.c (.int .i64 1)), none, []⟩,
   ⟨some 74, .mks [.int .u32 0] (.t 73), none, []⟩,
   ⟨some 4, .tra 74, none, [241, 245]⟩])
  (.seq (.region true [⟨some 75, .mov (.t 10), none, []⟩,
   ⟨some 76, .mov (.t 11), none, []⟩,
   ⟨some 77, .bin .sub (.t 76) (.c (.int .i64 1)), none, []⟩,
   ⟨some 78, .ixa 75 (.t 77) 1, none, []⟩,
   ⟨some 79, .ld 78 78 1 true, none, []⟩,
   ⟨some 80, .cv .u64 (.t 79), none, []⟩,
   ⟨some 81, .mov (.t 10), none, []⟩,
   ⟨some 82, .mov (.t 11), none, []⟩,
   ⟨some 83, .bin .sub (.t 82) (.c (.int .i64 2)), none, []⟩,
   ⟨some 84, .ixa 81 (.t 83) 1, none, []⟩,
   ⟨some 85, .ld 84 84 1 true, none, []⟩,
   ⟨some 86, .cv .u64 (.t 85), none, []⟩,
   ⟨some 13, .mov (.t 80), none, []⟩,
   ⟨some 14, .mov (.t 86), none, []⟩])
  (.seq (.seq (.region false [⟨some 87, .mov (.t 12), none, []⟩,
   ⟨some 15, .mov (.t 87), none, []⟩])
  (.block 0 (.loop (.seq (.seq (.region false [⟨some 88, .mov (.t 15), none, []⟩,
   ⟨some 89, .bin .geq (.t 88) (.c (.int .i64 0)), none, []⟩])
  (.cond (.t 89) (.skip)
  (.exit 0)))
  (.seq (.block 1 (.seq (.region true [⟨some 92, .cpy 9, none, []⟩,
   ⟨some 93, .mov (.t 15), none, []⟩,
   ⟨some 94, .mov (.t 11), none, []⟩,
   ⟨some 95, .bin .add (.t 93) (.t 94), none, []⟩,
   ⟨some 96, .ixo 92 9 (.t 95) 1, none, []⟩,
   ⟨some 97, .ld 96 9 1 true, none, []⟩,
   ⟨some 98, .cv .u64 (.t 97), none, []⟩,
   ⟨some 99, .bin .shl (.t 98) (.c (.int .u64 32)), none, []⟩,
   ⟨some 100, .cpy 9, none, []⟩,
   ⟨some 101, .mov (.t 15), none, []⟩,
   ⟨some 102, .mov (.t 11), none, []⟩,
   ⟨some 103, .bin .add (.t 101) (.t 102), none, []⟩,
   ⟨some 104, .bin .sub (.t 103) (.c (.int .i64 1)), none, []⟩,
   ⟨some 105, .ixo 100 9 (.t 104) 1, none, []⟩,
   ⟨some 106, .ld 105 9 1 true, none, []⟩,
   ⟨some 107, .cv .u64 (.t 106), none, []⟩,
   ⟨some 108, .bin .or (.t 99) (.t 107), none, []⟩,
   ⟨some 16, .mov (.t 108), none, []⟩])
  (.seq (.region true [⟨some 109, .mov (.t 16), none, []⟩,
   ⟨some 110, .mov (.t 13), none, []⟩,
   ⟨some 111, .bin .quo (.t 109) (.t 110), none, []⟩,
   ⟨some 112, .mov (.t 16), none, []⟩,
   ⟨some 113, .mov (.t 13), none, []⟩,
   ⟨some 114, .bin .rem (.t 112) (.t 113), none, []⟩,
   ⟨some 17, .mov (.t 111), none, []⟩,
   ⟨some 18, .mov (.t 114), none, []⟩])
  (.seq (.block 2 (.loop (.seq (.seq (.region false [⟨some 115, .mov (.t 17), none, []⟩,
   ⟨some 116, .bin .geq (.t 115) (.c (.int .u64 4294967296)), none, []⟩,
   ⟨some 117, .mov (.t 116), none, []⟩,
   ⟨some 118, .mov (.t 17), some (117, false), []⟩,
   ⟨some 119, .mov (.t 14), some (117, false), []⟩,
   ⟨some 120, .bin .mul (.t 118) (.t 119), some (117, false), []⟩,
   ⟨some 121, .mov (.t 18), some (117, false), []⟩,
   ⟨some 122, .bin .shl (.t 121) (.c (.int .u64 32)), some (117, false), []⟩,
   ⟨some 123, .cpy 9, some (117, false), []⟩,
   ⟨some 124, .mov (.t 15), some (117, false), []⟩,
   ⟨some 125, .mov (.t 11), some (117, false), []⟩,
   ⟨some 126, .bin .add (.t 124) (.t 125), some (117, false), []⟩,
   ⟨some 127, .bin .sub (.t 126) (.c (.int .i64 2)), some (117, false), []⟩,
   ⟨some 128, .ixo 123 9 (.t 127) 1, some (117, false), []⟩,
   ⟨some 129, .ld 128 9 1 true, some (117, false), []⟩,
   ⟨some 130, .cv .u64 (.t 129), some (117, false), []⟩,
   ⟨some 131, .bin .or (.t 122) (.t 130), some (117, false), []⟩,
   ⟨some 132, .bin .gtr (.t 120) (.t 131), some (117, false), []⟩,
   ⟨some 133, .pick (.t 117) (.c (.bool true)) (.t 132), none, []⟩])
  (.cond (.t 133) (.skip)
  (.exit 2)))
  (.block 3 (.seq (.region false [⟨some 134, .mov (.t 17), none, []⟩,
   ⟨some 135, .bin .sub (.t 134) (.c (.int .u64 1)), none, []⟩,
   ⟨some 17, .mov (.t 135), none, []⟩])
  (.seq (.region false [⟨some 136, .mov (.t 18), none, []⟩,
   ⟨some 137, .mov (.t 13), none, []⟩,
   ⟨some 138, .bin .add (.t 136) (.t 137), none, []⟩,
   ⟨some 18, .mov (.t 138), none, []⟩])
  (.seq (.region false [⟨some 139, .mov (.t 18), none, []⟩,
   ⟨some 140, .bin .geq (.t 139) (.c (.int .u64 4294967296)), none, []⟩])
  (.cond (.t 140) (.exit 2)
  (.skip)))))))))
  (.seq (.region false [⟨some 19, .mov (.c (.int .u64 0)), none, []⟩,
   ⟨some 20, .mov (.c (.int .u64 0)), none, []⟩])
  (.seq (.seq (.region false [⟨some 21, .mov (.c (.int .i64 0)), none, []⟩])
  (.block 4 (.loop (.seq (.seq (.region false [⟨some 141, .mov (.t 21), none, []⟩,
   ⟨some 142, .mov (.t 11), none, []⟩,
   ⟨some 143, .bin .lss (.t 141) (.t 142), none, []⟩])
  (.cond (.t 143) (.skip)
  (.exit 4)))
  (.seq (.block 5 (.seq (.region false [⟨some 146, .mov (.t 17), none, []⟩,
   ⟨some 147, .mov (.t 10), none, []⟩,
   ⟨some 148, .mov (.t 21), none, []⟩,
   ⟨some 149, .ixa 147 (.t 148) 1, none, []⟩,
   ⟨some 150, .ld 149 149 1 true, none, []⟩,
   ⟨some 151, .cv .u64 (.t 150), none, []⟩,
   ⟨some 152, .bin .mul (.t 146) (.t 151), none, []⟩,
   ⟨some 153, .mov (.t 20), none, []⟩,
   ⟨some 154, .bin .add (.t 152) (.t 153), none, []⟩,
   ⟨some 22, .mov (.t 154), none, []⟩])
  (.seq (.region false [⟨some 155, .mov (.t 22), none, []⟩,
   ⟨some 156, .bin .shr (.t 155) (.c (.int .u64 32)), none, []⟩,
   ⟨some 20, .mov (.t 156), none, []⟩])
  (.seq (.region false [⟨some 157, .cpy 9, none, []⟩,
   ⟨some 158, .mov (.t 21), none, []⟩,
   ⟨some 159, .mov (.t 15), none, []⟩,
   ⟨some 160, .bin .add (.t 158) (.t 159), none, []⟩,
   ⟨some 161, .ixo 157 9 (.t 160) 1, none, []⟩,
   ⟨some 162, .ld 161 9 1 true, none, []⟩,
   ⟨some 163, .cv .u64 (.t 162), none, []⟩,
   ⟨some 164, .mov (.t 22), none, []⟩,
   ⟨some 165, .cv .u32 (.t 164), none, []⟩,
   ⟨some 166, .cv .u64 (.t 165), none, []⟩,
   ⟨some 167, .bin .sub (.t 163) (.t 166), none, []⟩,
   ⟨some 168, .mov (.t 19), none, []⟩,
   ⟨some 169, .bin .sub (.t 167) (.t 168), none, []⟩,
   ⟨some 23, .mov (.t 169), none, []⟩])
  (.region false [⟨some 170, .cpy 9, none, []⟩,
   ⟨some 171, .mov (.t 21), none, []⟩,
   ⟨some 172, .mov (.t 15), none, []⟩,
   ⟨some 173, .bin .add (.t 171) (.t 172), none, []⟩,
   ⟨some 174, .mov (.t 23), none, []⟩,
   ⟨some 175, .cv .u32 (.t 174), none, []⟩,
   ⟨some 176, .mov (.t 23), none, []⟩,
   ⟨some 177, .bin .shr (.t 176) (.c (.int .u64 63)), none, []⟩,
   ⟨some 178, .ixo 170 9 (.t 173) 1, none, []⟩,
   ⟨none, .st 178 9 1 (.t 175), none, []⟩,
   ⟨some 19, .mov (.t 177), none, []⟩])))))
  (.region false [⟨some 144, .mov (.t 21), none, []⟩,
   ⟨some 145, .bin .add (.t 144) (.c (.int .i64 1)), none, []⟩,
   ⟨some 21, .mov (.t 145), none, []⟩]))))))
  (.seq (.region false [⟨some 179, .cpy 9, none, []⟩,
   ⟨some 180, .mov (.t 15), none, []⟩,
   ⟨some 181, .mov (.t 11), none, []⟩,
   ⟨some 182, .bin .add (.t 180) (.t 181), none, []⟩,
   ⟨some 183, .ixo 179 9 (.t 182) 1, none, []⟩,
   ⟨some 184, .ld 183 9 1 true, none, []⟩,
   ⟨some 185, .cv .u64 (.t 184), none, []⟩,
   ⟨some 186, .mov (.t 20), none, []⟩,
   ⟨some 187, .bin .sub (.t 185) (.t 186), none, []⟩,
   ⟨some 188, .mov (.t 19), none, []⟩,
   ⟨some 189, .bin .sub (.t 187) (.t 188), none, []⟩,
   ⟨some 24, .mov (.t 189), none, []⟩])
  (.seq (.region false [⟨some 190, .cpy 9, none, []⟩,
   ⟨some 191, .mov (.t 15), none, []⟩,
   ⟨some 192, .mov (.t 11), none, []⟩,
   ⟨some 193, .bin .add (.t 191) (.t 192), none, []⟩,
   ⟨some 194, .mov (.t 24), none, []⟩,
   ⟨some 195, .cv .u32 (.t 194), none, []⟩,
   ⟨some 196, .ixo 190 9 (.t 193) 1, none, []⟩,
   ⟨none, .st 196 9 1 (.t 195), none, []⟩])
  (.seq (.seq (.region false [⟨some 197, .mov (.t 24), none, []⟩,
   ⟨some 198, .bin .shr (.t 197) (.c (.int .u64 63)), none, []⟩,
   ⟨some 199, .bin .neq (.t 198) (.c (.int .u64 0)), none, []⟩])
  (.cond (.t 199) (.seq (.region false [⟨some 200, .mov (.t 17), none, []⟩,
   ⟨some 201, .bin .sub (.t 200) (.c (.int .u64 1)), none, []⟩,
   ⟨some 17, .mov (.t 201), none, []⟩])
  (.seq (.region false [⟨some 25, .mov (.c (.int .u64 0)), none, []⟩])
  (.seq (.seq (.region false [⟨some 26, .mov (.c (.int .i64 0)), none, []⟩])
  (.block 6 (.loop (.seq (.seq (.region false [⟨some 202, .mov (.t 26), none, []⟩,
   ⟨some 203, .mov (.t 11), none, []⟩,
   ⟨some 204, .bin .lss (.t 202) (.t 203), none, []⟩])
  (.cond (.t 204) (.skip)
  (.exit 6)))
  (.seq (.block 7 (.seq (.region true [⟨some 207, .cpy 9, none, []⟩,
   ⟨some 208, .mov (.t 26), none, []⟩,
   ⟨some 209, .mov (.t 15), none, []⟩,
   ⟨some 210, .bin .add (.t 208) (.t 209), none, []⟩,
   ⟨some 211, .ixo 207 9 (.t 210) 1, none, []⟩,
   ⟨some 212, .ld 211 9 1 true, none, []⟩,
   ⟨some 213, .cv .u64 (.t 212), none, []⟩,
   ⟨some 214, .mov (.t 10), none, []⟩,
   ⟨some 215, .mov (.t 26), none, []⟩,
   ⟨some 216, .ixa 214 (.t 215) 1, none, []⟩,
   ⟨some 217, .ld 216 216 1 true, none, []⟩,
   ⟨some 218, .cv .u64 (.t 217), none, []⟩,
   ⟨some 219, .bin .add (.t 213) (.t 218), none, []⟩,
   ⟨some 220, .mov (.t 25), none, []⟩,
   ⟨some 221, .bin .add (.t 219) (.t 220), none, []⟩,
   ⟨some 27, .mov (.t 221), none, []⟩])
  (.region false [⟨some 222, .cpy 9, none, []⟩,
   ⟨some 223, .mov (.t 26), none, []⟩,
   ⟨some 224, .mov (.t 15), none, []⟩,
   ⟨some 225, .bin .add (.t 223) (.t 224), none, []⟩,
   ⟨some 226, .mov (.t 27), none, []⟩,
   ⟨some 227, .cv .u32 (.t 226), none, []⟩,
   ⟨some 228, .mov (.t 27), none, []⟩,
   ⟨some 229, .bin .shr (.t 228) (.c (.int .u64 32)), none, []⟩,
   ⟨some 230, .ixo 222 9 (.t 225) 1, none, []⟩,
   ⟨none, .st 230 9 1 (.t 227), none, []⟩,
   ⟨some 25, .mov (.t 229), none, []⟩])))
  (.region false [⟨some 205, .mov (.t 26), none, []⟩,
   ⟨some 206, .bin .add (.t 205) (.c (.int .i64 1)), none, []⟩,
   ⟨some 26, .mov (.t 206), none, []⟩]))))))
  (.region false [⟨some 231, .cpy 9, none, []⟩,
   ⟨some 232, .mov (.t 15), none, []⟩,
   ⟨some 233, .mov (.t 11), none, []⟩,
   ⟨some 234, .bin .add (.t 232) (.t 233), none, []⟩,
   ⟨some 235, .ixo 231 9 (.t 234) 1, none, []⟩,
   ⟨some 236, .ld 235 9 1 true, none, []⟩,
   ⟨some 237, .mov (.t 25), none, []⟩,
   ⟨some 238, .cv .u32 (.t 237), none, []⟩,
   ⟨some 239, .bin .add (.t 236) (.t 238), none, []⟩,
   ⟨some 240, .ixo 231 9 (.t 234) 1, none, []⟩,
   ⟨none, .st 240 9 1 (.t 239), none, []⟩]))))
  (.skip)))
  (.region false [⟨some 241, .cpy 4, none, []⟩,
   ⟨some 242, .mov (.t 15), none, []⟩,
   ⟨some 243, .mov (.t 17), none, []⟩,
   ⟨some 244, .cv .u32 (.t 243), none, []⟩,
   ⟨some 245, .ixo 241 4 (.t 242) 1, none, []⟩,
   ⟨none, .st 245 4 1 (.t 244), none, []⟩]))))))))))
  (.region false [⟨some 90, .mov (.t 15), none, []⟩,
   ⟨some 91, .bin .sub (.t 90) (.c (.int .i64 1)), none, []⟩,
   ⟨some 15, .mov (.t 91), none, []⟩]))))))
  (.seq (.region false [⟨some 246, .mov (.t 11), none, []⟩,
   ⟨some 247, .mks [.int .u32 0] (.t 246), none, []⟩,
   ⟨some 5, .tra 247, none, [253, 262, 265, 267, 279]⟩])
  (.seq (.seq (.region false [⟨some 28, .mov (.c (.int .i64 0)), none, []⟩])
  (.block 8 (.loop (.seq (.seq (.region false [⟨some 248, .mov (.t 28), none, []⟩,
   ⟨some 249, .mov (.t 11), none, []⟩,
   ⟨some 250, .bin .lss (.t 248) (.t 249), none, []⟩])
  (.cond (.t 250) (.skip)
  (.exit 8)))
  (.seq (.block 9 (.seq (.region false [⟨some 253, .cpy 5, none, []⟩,
   ⟨some 254, .mov (.t 28), none, []⟩,
   ⟨some 255, .cpy 9, none, []⟩,
   ⟨some 256, .mov (.t 28), none, []⟩,
   ⟨some 257, .ixo 255 9 (.t 256) 1, none, []⟩,
   ⟨some 258, .ld 257 9 1 true, none, []⟩,
   ⟨some 259, .mov (.t 8), none, []⟩,
   ⟨some 260, .cv .u64 (.t 259), none, []⟩,
   ⟨some 261, .bin .shr (.t 258) (.t 260), none, []⟩,
   ⟨some 262, .ixo 253 5 (.t 254) 1, none, []⟩,
   ⟨none, .st 262 5 1 (.t 261), none, []⟩])
  (.seq (.region false [⟨some 263, .mov (.t 8), none, []⟩,
   ⟨some 264, .bin .gtr (.t 263) (.c (.int .i64 0)), none, []⟩])
  (.cond (.t 264) (.region true [⟨some 265, .cpy 5, none, []⟩,
   ⟨some 266, .mov (.t 28), none, []⟩,
   ⟨some 267, .ixo 265 5 (.t 266) 1, none, []⟩,
   ⟨some 268, .ld 267 5 1 true, none, []⟩,
   ⟨some 269, .cpy 9, none, []⟩,
   ⟨some 270, .mov (.t 28), none, []⟩,
   ⟨some 271, .bin .add (.t 270) (.c (.int .i64 1)), none, []⟩,
   ⟨some 272, .ixo 269 9 (.t 271) 1, none, []⟩,
   ⟨some 273, .ld 272 9 1 true, none, []⟩,
   ⟨some 274, .mov (.t 8), none, []⟩,
   ⟨some 275, .bin .sub (.c (.int .i64 32)) (.t 274), none, []⟩,
   ⟨some 276, .cv .u64 (.t 275), none, []⟩,
   ⟨some 277, .bin .shl (.t 273) (.t 276), none, []⟩,
   ⟨some 278, .bin .or (.t 268) (.t 277), none, []⟩,
   ⟨some 279, .ixo 265 5 (.t 266) 1, none, []⟩,
   ⟨none, .st 279 5 1 (.t 278), none, []⟩])
  (.skip)))))
  (.region false [⟨some 251, .mov (.t 28), none, []⟩,
   ⟨some 252, .bin .add (.t 251) (.c (.int .i64 1)), none, []⟩,
   ⟨some 28, .mov (.t 252), none, []⟩]))))))
  (.seq (.region false [⟨some 280, .tra 4, none, []⟩,
   ⟨some 281, .tra 5, none, []⟩,
   ⟨some 4, .tra 280, none, [241, 245]⟩,
   ⟨some 5, .tra 281, none, [253, 262, 265, 267, 279]⟩])
  (.ret))))))))))))⟩
def Try.r111 : List (Nat × Nat) := [(92, 9), (96, 9), (100, 9), (105, 9), (123, 9), (128, 9), (157, 9), (161, 9), (170, 9), (178, 9), (179, 9), (183, 9), (190, 9), (196, 9), (207, 9), (211, 9), (222, 9), (230, 9), (231, 9), (235, 9), (240, 9), (241, 4), (245, 4), (253, 5), (255, 9), (257, 9), (262, 5), (265, 5), (267, 5), (269, 9), (272, 9), (279, 5)]
theorem Try.i111_ok : fnOk Try.prog Try.r111 Try.f111 Try.i111 = true := by kernel_rfl

/- pinball/wide.sum -/
def Try.i112 : IFunc := ⟨4, 31, [.cell 8 2 false],
  .seq (.region false [⟨some 8, .new [.bool false, .sl 0 []] [], none, []⟩])
  (.seq (.seq (.region false [⟨some 9, .mov (.t 0), none, []⟩,
   ⟨some 10, .mov (.t 2), none, []⟩,
   ⟨some 11, .eqb false (.t 9) (.t 10), none, []⟩])
  (.cond (.t 11) (.seq (.region false [⟨some 12, .mov (.t 0), none, []⟩,
   ⟨some 13, .mov (.t 1), none, []⟩,
   ⟨some 14, .mov (.t 3), none, []⟩,
   ⟨some 15, .call 122 [.t 13, .t 14], none, []⟩,
   ⟨some 16, .call 107 [.t 12, .t 15], none, []⟩,
   ⟨none, .st 8 8 2 (.t 16), none, []⟩])
  (.ret))
  (.skip)))
  (.seq (.seq (.region false [⟨some 17, .mov (.t 1), none, []⟩,
   ⟨some 18, .mov (.t 3), none, []⟩,
   ⟨some 19, .call 118 [.t 17, .t 18], none, []⟩,
   ⟨some 20, .bin .geq (.t 19) (.c (.int .i64 0)), none, []⟩])
  (.cond (.t 20) (.seq (.region false [⟨some 21, .mov (.t 0), none, []⟩,
   ⟨some 22, .mov (.t 1), none, []⟩,
   ⟨some 23, .mov (.t 3), none, []⟩,
   ⟨some 24, .call 123 [.t 22, .t 23], none, []⟩,
   ⟨some 25, .call 107 [.t 21, .t 24], none, []⟩,
   ⟨none, .st 8 8 2 (.t 25), none, []⟩])
  (.ret))
  (.skip)))
  (.seq (.region false [⟨some 26, .mov (.t 2), none, []⟩,
   ⟨some 27, .mov (.t 3), none, []⟩,
   ⟨some 28, .mov (.t 1), none, []⟩,
   ⟨some 29, .call 123 [.t 27, .t 28], none, []⟩,
   ⟨some 30, .call 107 [.t 26, .t 29], none, []⟩,
   ⟨none, .st 8 8 2 (.t 30), none, []⟩])
  (.ret))))⟩
def Try.r112 : List (Nat × Nat) := []
theorem Try.i112_ok : fnOk Try.prog Try.r112 Try.f112 Try.i112 = true := by kernel_rfl

/- pinball/pinballref01.mulMag -/
def Try.i113 : IFunc := ⟨2, 66, [.tmp 4],
  .seq (.region false [⟨some 4, .nlo 1, none, []⟩])
  (.seq (.region false [⟨some 9, .mov (.t 0), none, []⟩,
   ⟨some 10, .len (.t 9), none, []⟩,
   ⟨some 11, .mov (.t 1), none, []⟩,
   ⟨some 12, .len (.t 11), none, []⟩,
   ⟨some 13, .bin .add (.t 10) (.t 12), none, []⟩,
   ⟨some 14, .mks [.int .u32 0] (.t 13), none, []⟩,
   ⟨some 5, .tra 14, none, [28, 32, 48, 54, 57, 64]⟩])
  (.seq (.seq (.region false [⟨some 6, .mov (.c (.int .i64 0)), none, []⟩])
  (.block 0 (.loop (.seq (.seq (.region false [⟨some 15, .mov (.t 6), none, []⟩,
   ⟨some 16, .mov (.t 0), none, []⟩,
   ⟨some 17, .len (.t 16), none, []⟩,
   ⟨some 18, .bin .lss (.t 15) (.t 17), none, []⟩])
  (.cond (.t 18) (.skip)
  (.exit 0)))
  (.seq (.block 1 (.seq (.region false [⟨some 7, .mov (.c (.int .u64 0)), none, []⟩])
  (.seq (.seq (.region false [⟨some 8, .mov (.c (.int .i64 0)), none, []⟩])
  (.block 2 (.loop (.seq (.seq (.region false [⟨some 21, .mov (.t 8), none, []⟩,
   ⟨some 22, .mov (.t 1), none, []⟩,
   ⟨some 23, .len (.t 22), none, []⟩,
   ⟨some 24, .bin .lss (.t 21) (.t 23), none, []⟩])
  (.cond (.t 24) (.skip)
  (.exit 2)))
  (.seq (.block 3 (.seq (.region true [⟨some 27, .mov (.t 7), none, []⟩,
   ⟨some 28, .cpy 5, none, []⟩,
   ⟨some 29, .mov (.t 6), none, []⟩,
   ⟨some 30, .mov (.t 8), none, []⟩,
   ⟨some 31, .bin .add (.t 29) (.t 30), none, []⟩,
   ⟨some 32, .ixo 28 5 (.t 31) 1, none, []⟩,
   ⟨some 33, .ld 32 5 1 true, none, []⟩,
   ⟨some 34, .cv .u64 (.t 33), none, []⟩,
   ⟨some 35, .mov (.t 0), none, []⟩,
   ⟨some 36, .mov (.t 6), none, []⟩,
   ⟨some 37, .ixa 35 (.t 36) 1, none, []⟩,
   ⟨some 38, .ld 37 37 1 true, none, []⟩,
   ⟨some 39, .cv .u64 (.t 38), none, []⟩,
   ⟨some 40, .mov (.t 1), none, []⟩,
   ⟨some 41, .mov (.t 8), none, []⟩,
   ⟨some 42, .ixa 40 (.t 41) 1, none, []⟩,
   ⟨some 43, .ld 42 42 1 true, none, []⟩,
   ⟨some 44, .cv .u64 (.t 43), none, []⟩,
   ⟨some 45, .bin .mul (.t 39) (.t 44), none, []⟩,
   ⟨some 46, .bin .add (.t 34) (.t 45), none, []⟩,
   ⟨some 47, .bin .add (.t 27) (.t 46), none, []⟩,
   ⟨some 7, .mov (.t 47), none, []⟩])
  (.seq (.region false [⟨some 48, .cpy 5, none, []⟩,
   ⟨some 49, .mov (.t 6), none, []⟩,
   ⟨some 50, .mov (.t 8), none, []⟩,
   ⟨some 51, .bin .add (.t 49) (.t 50), none, []⟩,
   ⟨some 52, .mov (.t 7), none, []⟩,
   ⟨some 53, .cv .u32 (.t 52), none, []⟩,
   ⟨some 54, .ixo 48 5 (.t 51) 1, none, []⟩,
   ⟨none, .st 54 5 1 (.t 53), none, []⟩])
  (.region false [⟨some 55, .mov (.t 7), none, []⟩,
   ⟨some 56, .bin .shr (.t 55) (.c (.int .u64 32)), none, []⟩,
   ⟨some 7, .mov (.t 56), none, []⟩]))))
  (.region false [⟨some 25, .mov (.t 8), none, []⟩,
   ⟨some 26, .bin .add (.t 25) (.c (.int .i64 1)), none, []⟩,
   ⟨some 8, .mov (.t 26), none, []⟩]))))))
  (.region false [⟨some 57, .cpy 5, none, []⟩,
   ⟨some 58, .mov (.t 6), none, []⟩,
   ⟨some 59, .mov (.t 1), none, []⟩,
   ⟨some 60, .len (.t 59), none, []⟩,
   ⟨some 61, .bin .add (.t 58) (.t 60), none, []⟩,
   ⟨some 62, .mov (.t 7), none, []⟩,
   ⟨some 63, .cv .u32 (.t 62), none, []⟩,
   ⟨some 64, .ixo 57 5 (.t 61) 1, none, []⟩,
   ⟨none, .st 64 5 1 (.t 63), none, []⟩]))))
  (.region false [⟨some 19, .mov (.t 6), none, []⟩,
   ⟨some 20, .bin .add (.t 19) (.c (.int .i64 1)), none, []⟩,
   ⟨some 6, .mov (.t 20), none, []⟩]))))))
  (.seq (.region false [⟨some 65, .tra 5, none, []⟩,
   ⟨some 4, .tra 65, none, []⟩])
  (.ret))))⟩
def Try.r113 : List (Nat × Nat) := [(28, 5), (32, 5), (48, 5), (54, 5), (57, 5), (64, 5)]
theorem Try.i113_ok : fnOk Try.prog Try.r113 Try.f113 Try.i113 = true := by kernel_rfl

/- pinball/pinballref01.addMag -/
def Try.i114 : IFunc := ⟨2, 54, [.tmp 4],
  .seq (.region false [⟨some 4, .nlo 1, none, []⟩])
  (.seq (.region false [⟨some 5, .nlo 1, none, []⟩])
  (.seq (.region false [⟨some 6, .mov (.c (.int .u64 0)), none, []⟩])
  (.seq (.seq (.region false [⟨some 7, .mov (.c (.int .i64 0)), none, []⟩])
  (.block 0 (.loop (.seq (.seq (.region false [⟨some 8, .mov (.t 7), none, []⟩,
   ⟨some 9, .mov (.t 0), none, []⟩,
   ⟨some 10, .len (.t 9), none, []⟩,
   ⟨some 11, .bin .lss (.t 8) (.t 10), none, []⟩,
   ⟨some 12, .mov (.t 11), none, []⟩,
   ⟨some 13, .mov (.t 7), some (12, false), []⟩,
   ⟨some 14, .mov (.t 1), some (12, false), []⟩,
   ⟨some 15, .len (.t 14), some (12, false), []⟩,
   ⟨some 16, .bin .lss (.t 13) (.t 15), some (12, false), []⟩,
   ⟨some 17, .pick (.t 12) (.c (.bool true)) (.t 16), none, []⟩,
   ⟨some 18, .mov (.t 17), none, []⟩,
   ⟨some 19, .mov (.t 6), some (18, false), []⟩,
   ⟨some 20, .bin .gtr (.t 19) (.c (.int .u64 0)), some (18, false), []⟩,
   ⟨some 21, .pick (.t 18) (.c (.bool true)) (.t 20), none, []⟩])
  (.cond (.t 21) (.skip)
  (.exit 0)))
  (.seq (.block 1 (.seq (.seq (.region false [⟨some 24, .mov (.t 7), none, []⟩,
   ⟨some 25, .mov (.t 0), none, []⟩,
   ⟨some 26, .len (.t 25), none, []⟩,
   ⟨some 27, .bin .lss (.t 24) (.t 26), none, []⟩])
  (.cond (.t 27) (.region false [⟨some 28, .mov (.t 6), none, []⟩,
   ⟨some 29, .mov (.t 0), none, []⟩,
   ⟨some 30, .mov (.t 7), none, []⟩,
   ⟨some 31, .ixa 29 (.t 30) 1, none, []⟩,
   ⟨some 32, .ld 31 31 1 true, none, []⟩,
   ⟨some 33, .cv .u64 (.t 32), none, []⟩,
   ⟨some 34, .bin .add (.t 28) (.t 33), none, []⟩,
   ⟨some 6, .mov (.t 34), none, []⟩])
  (.skip)))
  (.seq (.seq (.region false [⟨some 35, .mov (.t 7), none, []⟩,
   ⟨some 36, .mov (.t 1), none, []⟩,
   ⟨some 37, .len (.t 36), none, []⟩,
   ⟨some 38, .bin .lss (.t 35) (.t 37), none, []⟩])
  (.cond (.t 38) (.region false [⟨some 39, .mov (.t 6), none, []⟩,
   ⟨some 40, .mov (.t 1), none, []⟩,
   ⟨some 41, .mov (.t 7), none, []⟩,
   ⟨some 42, .ixa 40 (.t 41) 1, none, []⟩,
   ⟨some 43, .ld 42 42 1 true, none, []⟩,
   ⟨some 44, .cv .u64 (.t 43), none, []⟩,
   ⟨some 45, .bin .add (.t 39) (.t 44), none, []⟩,
   ⟨some 6, .mov (.t 45), none, []⟩])
  (.skip)))
  (.seq (.region false [⟨some 46, .tra 5, none, []⟩,
   ⟨some 47, .mov (.t 6), none, []⟩,
   ⟨some 48, .cv .u32 (.t 47), none, []⟩,
   ⟨some 49, .bls 1 [.int .u32 0] [(0, 1, .t 48)], none, []⟩,
   ⟨some 50, .apd true (.t 46) (.t 49) 1, none, []⟩,
   ⟨some 5, .tra 50, none, []⟩])
  (.region false [⟨some 51, .mov (.t 6), none, []⟩,
   ⟨some 52, .bin .shr (.t 51) (.c (.int .u64 32)), none, []⟩,
   ⟨some 6, .mov (.t 52), none, []⟩])))))
  (.region false [⟨some 22, .mov (.t 7), none, []⟩,
   ⟨some 23, .bin .add (.t 22) (.c (.int .i64 1)), none, []⟩,
   ⟨some 7, .mov (.t 23), none, []⟩]))))))
  (.seq (.region false [⟨some 53, .tra 5, none, []⟩,
   ⟨some 4, .tra 53, none, []⟩])
  (.ret)))))⟩
def Try.r114 : List (Nat × Nat) := []
theorem Try.i114_ok : fnOk Try.prog Try.r114 Try.f114 Try.i114 = true := by kernel_rfl

/- pinball/pinballref01.CmpMag -/
def Try.i115 : IFunc := ⟨2, 41, [.tmp 4],
  .seq (.region false [⟨some 4, .mov (.c (.int .i64 0)), none, []⟩])
  (.seq (.seq (.region false [⟨some 6, .mov (.t 0), none, []⟩,
   ⟨some 7, .len (.t 6), none, []⟩,
   ⟨some 8, .mov (.t 1), none, []⟩,
   ⟨some 9, .len (.t 8), none, []⟩,
   ⟨some 10, .bin .neq (.t 7) (.t 9), none, []⟩])
  (.cond (.t 10) (.seq (.seq (.region false [⟨some 11, .mov (.t 0), none, []⟩,
   ⟨some 12, .len (.t 11), none, []⟩,
   ⟨some 13, .mov (.t 1), none, []⟩,
   ⟨some 14, .len (.t 13), none, []⟩,
   ⟨some 15, .bin .lss (.t 12) (.t 14), none, []⟩])
  (.cond (.t 15) (.seq (.region false [⟨some 4, .mov (.c (.int .i64 (-1))), none, []⟩])
  (.ret))
  (.skip)))
  (.seq (.region false [⟨some 4, .mov (.c (.int .i64 1)), none, []⟩])
  (.ret)))
  (.skip)))
  (.seq (.seq (.region false [⟨some 16, .mov (.t 0), none, []⟩,
   ⟨some 17, .len (.t 16), none, []⟩,
   ⟨some 18, .bin .sub (.t 17) (.c (.int .i64 1)), none, []⟩,
   ⟨some 5, .mov (.t 18), none, []⟩])
  (.block 0 (.loop (.seq (.seq (.region false [⟨some 19, .mov (.t 5), none, []⟩,
   ⟨some 20, .bin .geq (.t 19) (.c (.int .i64 0)), none, []⟩])
  (.cond (.t 20) (.skip)
  (.exit 0)))
  (.seq (.block 1 (.seq (.region true [⟨some 23, .mov (.t 0), none, []⟩,
   ⟨some 24, .mov (.t 5), none, []⟩,
   ⟨some 25, .ixa 23 (.t 24) 1, none, []⟩,
   ⟨some 26, .ld 25 25 1 true, none, []⟩,
   ⟨some 27, .mov (.t 1), none, []⟩,
   ⟨some 28, .mov (.t 5), none, []⟩,
   ⟨some 29, .ixa 27 (.t 28) 1, none, []⟩,
   ⟨some 30, .ld 29 29 1 true, none, []⟩,
   ⟨some 31, .bin .neq (.t 26) (.t 30), none, []⟩])
  (.cond (.t 31) (.seq (.seq (.region true [⟨some 32, .mov (.t 0), none, []⟩,
   ⟨some 33, .mov (.t 5), none, []⟩,
   ⟨some 34, .ixa 32 (.t 33) 1, none, []⟩,
   ⟨some 35, .ld 34 34 1 true, none, []⟩,
   ⟨some 36, .mov (.t 1), none, []⟩,
   ⟨some 37, .mov (.t 5), none, []⟩,
   ⟨some 38, .ixa 36 (.t 37) 1, none, []⟩,
   ⟨some 39, .ld 38 38 1 true, none, []⟩,
   ⟨some 40, .bin .lss (.t 35) (.t 39), none, []⟩])
  (.cond (.t 40) (.seq (.region false [⟨some 4, .mov (.c (.int .i64 (-1))), none, []⟩])
  (.ret))
  (.skip)))
  (.seq (.region false [⟨some 4, .mov (.c (.int .i64 1)), none, []⟩])
  (.ret)))
  (.skip))))
  (.region false [⟨some 21, .mov (.t 5), none, []⟩,
   ⟨some 22, .bin .sub (.t 21) (.c (.int .i64 1)), none, []⟩,
   ⟨some 5, .mov (.t 22), none, []⟩]))))))
  (.seq (.region false [⟨some 4, .mov (.c (.int .i64 0)), none, []⟩])
  (.ret))))⟩
def Try.r115 : List (Nat × Nat) := []
theorem Try.i115_ok : fnOk Try.prog Try.r115 Try.f115 Try.i115 = true := by kernel_rfl

/- pinball/pinballref01.subMag -/
def Try.i116 : IFunc := ⟨2, 42, [.tmp 4],
  .seq (.region false [⟨some 4, .nlo 1, none, []⟩])
  (.seq (.region false [⟨some 5, .nlo 1, none, []⟩])
  (.seq (.region false [⟨some 6, .mov (.c (.int .u64 0)), none, []⟩])
  (.seq (.seq (.region false [⟨some 7, .mov (.c (.int .i64 0)), none, []⟩])
  (.block 0 (.loop (.seq (.seq (.region false [⟨some 10, .mov (.t 7), none, []⟩,
   ⟨some 11, .mov (.t 0), none, []⟩,
   ⟨some 12, .len (.t 11), none, []⟩,
   ⟨some 13, .bin .lss (.t 10) (.t 12), none, []⟩])
  (.cond (.t 13) (.skip)
  (.exit 0)))
  (.seq (.block 1 (.seq (.region false [⟨some 8, .mov (.c (.int .u64 0)), none, []⟩])
  (.seq (.seq (.region false [⟨some 16, .mov (.t 7), none, []⟩,
   ⟨some 17, .mov (.t 1), none, []⟩,
   ⟨some 18, .len (.t 17), none, []⟩,
   ⟨some 19, .bin .lss (.t 16) (.t 18), none, []⟩])
  (.cond (.t 19) (.region false [⟨some 20, .mov (.t 1), none, []⟩,
   ⟨some 21, .mov (.t 7), none, []⟩,
   ⟨some 22, .ixa 20 (.t 21) 1, none, []⟩,
   ⟨some 23, .ld 22 22 1 true, none, []⟩,
   ⟨some 24, .cv .u64 (.t 23), none, []⟩,
   ⟨some 8, .mov (.t 24), none, []⟩])
  (.skip)))
  (.seq (.region false [⟨some 25, .mov (.t 0), none, []⟩,
   ⟨some 26, .mov (.t 7), none, []⟩,
   ⟨some 27, .ixa 25 (.t 26) 1, none, []⟩,
   ⟨some 28, .ld 27 27 1 true, none, []⟩,
   ⟨some 29, .cv .u64 (.t 28), none, []⟩,
   ⟨some 30, .mov (.t 8), none, []⟩,
   ⟨some 31, .bin .sub (.t 29) (.t 30), none, []⟩,
   ⟨some 32, .mov (.t 6), none, []⟩,
   ⟨some 33, .bin .sub (.t 31) (.t 32), none, []⟩,
   ⟨some 9, .mov (.t 33), none, []⟩])
  (.seq (.region false [⟨some 34, .tra 5, none, []⟩,
   ⟨some 35, .mov (.t 9), none, []⟩,
   ⟨some 36, .cv .u32 (.t 35), none, []⟩,
   ⟨some 37, .bls 1 [.int .u32 0] [(0, 1, .t 36)], none, []⟩,
   ⟨some 38, .apd true (.t 34) (.t 37) 1, none, []⟩,
   ⟨some 5, .tra 38, none, []⟩])
  (.region false [⟨some 39, .mov (.t 9), none, []⟩,
   ⟨some 40, .bin .shr (.t 39) (.c (.int .u64 63)), none, []⟩,
   ⟨some 6, .mov (.t 40), none, []⟩]))))))
  (.region false [⟨some 14, .mov (.t 7), none, []⟩,
   ⟨some 15, .bin .add (.t 14) (.c (.int .i64 1)), none, []⟩,
   ⟨some 7, .mov (.t 15), none, []⟩]))))))
  (.seq (.region false [⟨some 41, .tra 5, none, []⟩,
   ⟨some 4, .tra 41, none, []⟩])
  (.ret)))))⟩
def Try.r116 : List (Nat × Nat) := []
theorem Try.i116_ok : fnOk Try.prog Try.r116 Try.f116 Try.i116 = true := by kernel_rfl

/- pinball/pinballref01.divMag -/
def Try.i117 : IFunc := ⟨2, 307, [.tmp 4, .tmp 5],
  .seq (.region false [⟨some 4, .nlo 1, none, []⟩,
   ⟨some 5, .nlo 1, none, []⟩])
  (.seq (.seq (.region false [⟨some 25, .mov (.t 0), none, []⟩,
   ⟨some 26, .mov (.t 1), none, []⟩,
   ⟨some 27, .call 115 [.t 25, .t 26], none, []⟩,
   ⟨some 28, .bin .lss (.t 27) (.c (.int .i64 0)), none, []⟩])
  (.cond (.t 28) (.seq (.region false [⟨some 29, .mov (.t 0), none, []⟩,
   ⟨some 4, .nlo 1, none, []⟩,
   ⟨some 5, .tra 29, none, []⟩])
  (.ret))
  (.skip)))
  (.seq (.seq (.region false [⟨some 30, .mov (.t 1), none, []⟩,
   ⟨some 31, .len (.t 30), none, []⟩,
   ⟨some 32, .bin .eql (.t 31) (.c (.int .i64 1)), none, []⟩])
  (.cond (.t 32) (.seq (.region false [⟨some 33, .mov (.t 0), none, []⟩,
   ⟨some 34, .len (.t 33), none, []⟩,
   ⟨some 35, .mks [.int .u32 0] (.t 34), none, []⟩,
   ⟨some 6, .tra 35, none, [51, 60]⟩])
  (.seq (.region false [⟨some 7, .mov (.c (.int .u64 0)), none, []⟩])
  (.seq (.seq (.region false [⟨some 36, .mov (.t 0), none, []⟩,
   ⟨some 37, .len (.t 36), none, []⟩,
   ⟨some 38, .bin .sub (.t 37) (.c (.int .i64 1)), none, []⟩,
   ⟨some 8, .mov (.t 38), none, []⟩])
  (.block 0 (.loop (.seq (.seq (.region false [⟨some 39, .mov (.t 8), none, []⟩,
   ⟨some 40, .bin .geq (.t 39) (.c (.int .i64 0)), none, []⟩])
  (.cond (.t 40) (.skip)
  (.exit 0)))
  (.seq (.block 1 (.seq (.region false [⟨some 43, .mov (.t 7), none, []⟩,
   ⟨some 44, .bin .shl (.t 43) (.c (.int .u64 32)), none, []⟩,
   ⟨some 45, .mov (.t 0), none, []⟩,
   ⟨some 46, .mov (.t 8), none, []⟩,
   ⟨some 47, .ixa 45 (.t 46) 1, none, []⟩,
   ⟨some 48, .ld 47 47 1 true, none, []⟩,
   ⟨some 49, .cv .u64 (.t 48), none, []⟩,
   ⟨some 50, .bin .or (.t 44) (.t 49), none, []⟩,
   ⟨some 7, .mov (.t 50), none, []⟩])
  (.seq (.region false [⟨some 51, .cpy 6, none, []⟩,
   ⟨some 52, .mov (.t 8), none, []⟩,
   ⟨some 53, .mov (.t 7), none, []⟩,
   ⟨some 54, .mov (.t 1), none, []⟩,
   ⟨some 55, .ixa 54 (.c (.int .i64 0)) 1, none, []⟩,
   ⟨some 56, .ld 55 55 1 true, none, []⟩,
   ⟨some 57, .cv .u64 (.t 56), none, []⟩,
   ⟨some 58, .bin .quo (.t 53) (.t 57), none, []⟩,
   ⟨some 59, .cv .u32 (.t 58), none, []⟩,
   ⟨some 60, .ixo 51 6 (.t 52) 1, none, []⟩,
   ⟨none, .st 60 6 1 (.t 59), none, []⟩])
  (.region false [⟨some 61, .mov (.t 7), none, []⟩,
   ⟨some 62, .mov (.t 1), none, []⟩,
   ⟨some 63, .ixa 62 (.c (.int .i64 0)) 1, none, []⟩,
   ⟨some 64, .ld 63 63 1 true, none, []⟩,
   ⟨some 65, .cv .u64 (.t 64), none, []⟩,
   ⟨some 66, .bin .rem (.t 61) (.t 65), none, []⟩,
   ⟨some 7, .mov (.t 66), none, []⟩]))))
  (.region false [⟨some 41, .mov (.t 8), none, []⟩,
   ⟨some 42, .bin .sub (.t 41) (.c (.int .i64 1)), none, []⟩,
   ⟨some 8, .mov (.t 42), none, []⟩]))))))
  (.seq (.region false [⟨some 67, .frz 6, none, []⟩,
   ⟨some 68, .clo 97 [.t 67], none, []⟩,
   ⟨some 69, .mov (.t 7), none, []⟩,
   ⟨some 70, .cv .u32 (.t 69), none, []⟩,
   ⟨some 71, .bls 1 [.int .u32 0] [(0, 1, .t 70)], none, []⟩,
   ⟨some 72, .clo 97 [.t 71], none, []⟩,
   ⟨some 4, .tra 68, none, []⟩,
   ⟨some 5, .tra 72, none, []⟩])
  (.ret)))))
  (.skip)))
  (.seq (.region false [⟨some 9, .mov (.c (.int .i64 0)), none, []⟩])
  (.seq (.block 2 (.loop (.seq (.seq (.region false [⟨some 73, .mov (.t 1), none, []⟩,
   ⟨some 74, .mov (.t 1), none, []⟩,
   ⟨some 75, .len (.t 74), none, []⟩,
   ⟨some 76, .bin .sub (.t 75) (.c (.int .i64 1)), none, []⟩,
   ⟨some 77, .ixa 73 (.t 76) 1, none, []⟩,
   ⟨some 78, .ld 77 77 1 true, none, []⟩,
   ⟨some 79, .mov (.t 9), none, []⟩,
   ⟨some 80, .cv .u64 (.t 79), none, []⟩,
   ⟨some 81, .bin .shl (.t 78) (.t 80), none, []⟩,
   ⟨some 82, .bin .and (.t 81) (.c (.int .u32 2147483648)), none, []⟩,
   ⟨some 83, .bin .eql (.t 82) (.c (.int .u32 0)), none, []⟩])
  (.cond (.t 83) (.skip)
  (.exit 2)))
  (.block 3 (.region false [⟨some 84, .mov (.t 9), none, []⟩,
   ⟨some 85, .bin .add (.t 84) (.c (.int .i64 1)), none, []⟩,
   ⟨some 9, .mov (.t 85), none, []⟩])))))
  (.seq (.region false [⟨some 86, .mov (.t 1), none, []⟩,
   ⟨some 87, .bld [.bool false, .sl 0 []] [(1, 1, .t 86)], none, []⟩,
   ⟨some 88, .mov (.t 9), none, []⟩,
   ⟨some 89, .call 99 [.t 87, .t 88], none, []⟩,
   ⟨some 90, .fld (.t 89) 1 1 true, none, []⟩,
   ⟨some 10, .mov (.t 90), none, []⟩])
  (.seq (.region false [⟨some 91, .mov (.t 0), none, []⟩,
   ⟨some 92, .bld [.bool false, .sl 0 []] [(1, 1, .t 91)], none, []⟩,
   ⟨some 93, .mov (.t 9), none, []⟩,
   ⟨some 94, .call 99 [.t 92, .t 93], none, []⟩,
   ⟨some 95, .fld (.t 94) 1 1 true, none, []⟩,
   ⟨some 96, .bls 2 [.int .u32 0, .int .u32 0] [(0, 1, .c (.int .u32 0)), (1, 1, .c (.int .u32 0))], none, []⟩,
   ⟨some 97, .apd true (.t 95) (.t 96) 1, none, []⟩,
   ⟨some 11, .tra 97, none, [109, 114, 123, 127, 131, 136, 172, 177, 210, 214, 222, 228, 233, 237, 244, 250, 262, 266, 276, 282, 285, 289, 294]⟩])
  (.seq (.region false [⟨some 98, .frz 11, none, []⟩,
   ⟨some 99, .mov (.t 0), none, []⟩,
   ⟨some 100, .len (.t 99), none, []⟩,
   ⟨some 101, .bin .add (.t 100) (.c (.int .i64 1)), none, []⟩,
   ⟨some 102, .mov (.t 1), none, []⟩,
   ⟨some 103, .len (.t 102), none, []⟩,
   ⟨some 104, .bin .add (.t 103) (.c (.int .i64 1)), none, []⟩,
   ⟨some 105, .mx [.t 101, .t 104], none, []⟩,
   ⟨some 106, .sli (.t 98) none (some (.t 105)) none 1, none, []⟩,
   ⟨some 11, .tra 106, none, [109, 114, 123, 127, 131, 136, 172, 177, 210, 214, 222, 228, 233, 237, 244, 250, 262, 266, 276, 282, 285, 289, 294]⟩])
  (.seq (.region false [⟨some 107, .mov (.t 10), none, []⟩,
   ⟨some 108, .len (.t 107), none, []⟩,
   ⟨some 12, .mov (.t 108), none, []⟩])
  (.seq (.region false [⟨some 109, .cpy 11, none, []⟩,
   ⟨some 110, .lno 109 11, none, []⟩,
   ⟨some 111, .mov (.t 12), none, []⟩,
   ⟨some 112, .bin .sub (.t 110) (.t 111), none, []⟩,
   ⟨some 113, .mks [.int .u32 0] (.t 112), none, []⟩,
   ⟨some 13, .tra 113, none, [295, 299]⟩])
  (.seq (.seq (.region false [⟨some 114, .cpy 11, none, []⟩,
   ⟨some 115, .lno 114 11, none, []⟩,
   ⟨some 116, .mov (.t 12), none, []⟩,
   ⟨some 117, .bin .sub (.t 115) (.t 116), none, []⟩,
   ⟨some 118, .bin .sub (.t 117) (.c (.int .i64 1)), none, []⟩,
   ⟨some 14, .mov (.t 118), none, []⟩])
  (.block 4 (.loop (.seq (.seq (.region false [⟨some 119, .mov (.t 14), none, []⟩,
   ⟨some 120, .bin .geq (.t 119) (.c (.int .i64 0)), none, []⟩])
  (.cond (.t 120) (.skip)
  (.exit 4)))
  (.seq (.block 5 (.seq (.region true [⟨some 123, .cpy 11, none, []⟩,
   ⟨some 124, .mov (.t 14), none, []⟩,
   ⟨some 125, .mov (.t 12), none, []⟩,
   ⟨some 126, .bin .add (.t 124) (.t 125), none, []⟩,
   ⟨some 127, .ixo 123 11 (.t 126) 1, none, []⟩,
   ⟨some 128, .ld 127 11 1 true, none, []⟩,
   ⟨some 129, .cv .u64 (.t 128), none, []⟩,
   ⟨some 130, .bin .shl (.t 129) (.c (.int .u64 32)), none, []⟩,
   ⟨some 131, .cpy 11, none, []⟩,
   ⟨some 132, .mov (.t 14), none, []⟩,
   ⟨some 133, .mov (.t 12), none, []⟩,
   ⟨some 134, .bin .add (.t 132) (.t 133), none, []⟩,
   ⟨some 135, .bin .sub (.t 134) (.c (.int .i64 1)), none, []⟩,
   ⟨some 136, .ixo 131 11 (.t 135) 1, none, []⟩,
   ⟨some 137, .ld 136 11 1 true, none, []⟩,
   ⟨some 138, .cv .u64 (.t 137), none, []⟩,
   ⟨some 139, .bin .or (.t 130) (.t 138), none, []⟩,
   ⟨some 15, .mov (.t 139), none, []⟩])
  (.seq (.region true [⟨some 140, .mov (.t 15), none, []⟩,
   ⟨some 141, .mov (.t 10), none, []⟩,
   ⟨some 142, .mov (.t 12), none, []⟩,
   ⟨some 143, .bin .sub (.t 142) (.c (.int .i64 1)), none, []⟩,
   ⟨some 144, .ixa 141 (.t 143) 1, none, []⟩,
   ⟨some 145, .ld 144 144 1 true, none, []⟩,
   ⟨some 146, .cv .u64 (.t 145), none, []⟩,
   ⟨some 147, .bin .quo (.t 140) (.t 146), none, []⟩,
   ⟨some 148, .mov (.t 15), none, []⟩,
   ⟨some 149, .mov (.t 10), none, []⟩,
   ⟨some 150, .mov (.t 12), none, []⟩,
   ⟨some 151, .bin .sub (.t 150) (.c (.int .i64 1)), none, []⟩,
   ⟨some 152, .ixa 149 (.t 151) 1, none, []⟩,
   ⟨some 153, .ld 152 152 1 true, none, []⟩,
   ⟨some 154, .cv .u64 (.t 153), none, []⟩,
   ⟨some 155, .bin .rem (.t 148) (.t 154), none, []⟩,
   ⟨some 16, .mov (.t 147), none, []⟩,
   ⟨some 17, .mov (.t 155), none, []⟩])
  (.seq (.block 6 (.loop (.seq (.seq (.region true [⟨some 156, .mov (.t 16), none, []⟩,
   ⟨some 157, .bin .geq (.t 156) (.c (.int .u64 4294967296)), none, []⟩,
   ⟨some 158, .mov (.t 157), none, []⟩,
   ⟨some 159, .mov (.t 17), some (158, false), []⟩,
   ⟨some 160, .bin .lss (.t 159) (.c (.int .u64 4294967296)), some (158, false), []⟩,
   ⟨some 161, .mov (.t 160), some (158, false), []⟩,
   ⟨some 162, .mov (.t 16), some (161, true), []⟩,
   ⟨some 163, .mov (.t 10), some (161, true), []⟩,
   ⟨some 164, .mov (.t 12), some (161, true), []⟩,
   ⟨some 165, .bin .sub (.t 164) (.c (.int .i64 2)), some (161, true), []⟩,
   ⟨some 166, .ixa 163 (.t 165) 1, some (161, true), []⟩,
   ⟨some 167, .ld 166 166 1 true, some (161, true), []⟩,
   ⟨some 168, .cv .u64 (.t 167), some (161, true), []⟩,
   ⟨some 169, .bin .mul (.t 162) (.t 168), some (161, true), []⟩,
   ⟨some 170, .mov (.t 17), some (161, true), []⟩,
   ⟨some 171, .bin .shl (.t 170) (.c (.int .u64 32)), some (161, true), []⟩,
   ⟨some 172, .cpy 11, some (161, true), []⟩,
   ⟨some 173, .mov (.t 14), some (161, true), []⟩,
   ⟨some 174, .mov (.t 12), some (161, true), []⟩,
   ⟨some 175, .bin .add (.t 173) (.t 174), some (161, true), []⟩,
   ⟨some 176, .bin .sub (.t 175) (.c (.int .i64 2)), some (161, true), []⟩,
   ⟨some 177, .ixo 172 11 (.t 176) 1, some (161, true), []⟩,
   ⟨some 178, .ld 177 11 1 true, some (161, true), []⟩,
   ⟨some 179, .cv .u64 (.t 178), some (161, true), []⟩,
   ⟨some 180, .bin .or (.t 171) (.t 179), some (161, true), []⟩,
   ⟨some 181, .bin .gtr (.t 169) (.t 180), some (161, true), []⟩,
   ⟨some 182, .pick (.t 161) (.t 181) (.c (.bool false)), some (158, false), []⟩,
   ⟨some 183, .pick (.t 158) (.c (.bool true)) (.t 182), none, []⟩])
  (.cond (.t 183) (.skip)
  (.exit 6)))
  (.block 7 (.seq (.region false [⟨some 184, .mov (.t 16), none, []⟩,
   ⟨some 185, .bin .sub (.t 184) (.c (.int .u64 1)), none, []⟩,
   ⟨some 16, .mov (.t 185), none, []⟩])
  (.seq (.region false [⟨some 186, .mov (.t 17), none, []⟩,
   ⟨some 187, .mov (.t 10), none, []⟩,
   ⟨some 188, .mov (.t 12), none, []⟩,
   ⟨some 189, .bin .sub (.t 188) (.c (.int .i64 1)), none, []⟩,
   ⟨some 190, .ixa 187 (.t 189) 1, none, []⟩,
   ⟨some 191, .ld 190 190 1 true, none, []⟩,
   ⟨some 192, .cv .u64 (.t 191), none, []⟩,
   ⟨some 193, .bin .add (.t 186) (.t 192), none, []⟩,
   ⟨some 17, .mov (.t 193), none, []⟩])
  (.seq (.region false [⟨some 194, .mov (.t 17), none, []⟩,
   ⟨some 195, .bin .geq (.t 194) (.c (.int .u64 4294967296)), none, []⟩])
  (.cond (.t 195) (.exit 6)
  (.skip)))))))))
  (.seq (.region false [⟨some 18, .mov (.c (.int .u64 0)), none, []⟩,
   ⟨some 19, .mov (.c (.int .u64 0)), none, []⟩])
  (.seq (.seq (.region false [⟨some 20, .mov (.c (.int .i64 0)), none, []⟩])
  (.block 8 (.loop (.seq (.seq (.region false [⟨some 196, .mov (.t 20), none, []⟩,
   ⟨some 197, .mov (.t 12), none, []⟩,
   ⟨some 198, .bin .lss (.t 196) (.t 197), none, []⟩])
  (.cond (.t 198) (.skip)
  (.exit 8)))
  (.seq (.block 9 (.seq (.region false [⟨some 201, .mov (.t 19), none, []⟩,
   ⟨some 202, .mov (.t 16), none, []⟩,
   ⟨some 203, .mov (.t 10), none, []⟩,
   ⟨some 204, .mov (.t 20), none, []⟩,
   ⟨some 205, .ixa 203 (.t 204) 1, none, []⟩,
   ⟨some 206, .ld 205 205 1 true, none, []⟩,
   ⟨some 207, .cv .u64 (.t 206), none, []⟩,
   ⟨some 208, .bin .mul (.t 202) (.t 207), none, []⟩,
   ⟨some 209, .bin .add (.t 201) (.t 208), none, []⟩,
   ⟨some 19, .mov (.t 209), none, []⟩])
  (.seq (.region false [⟨some 210, .cpy 11, none, []⟩,
   ⟨some 211, .mov (.t 20), none, []⟩,
   ⟨some 212, .mov (.t 14), none, []⟩,
   ⟨some 213, .bin .add (.t 211) (.t 212), none, []⟩,
   ⟨some 214, .ixo 210 11 (.t 213) 1, none, []⟩,
   ⟨some 215, .ld 214 11 1 true, none, []⟩,
   ⟨some 216, .cv .u64 (.t 215), none, []⟩,
   ⟨some 217, .mov (.t 19), none, []⟩,
   ⟨some 218, .bin .and (.t 217) (.c (.int .u64 4294967295)), none, []⟩,
   ⟨some 219, .bin .sub (.t 216) (.t 218), none, []⟩,
   ⟨some 220, .mov (.t 18), none, []⟩,
   ⟨some 221, .bin .sub (.t 219) (.t 220), none, []⟩,
   ⟨some 21, .mov (.t 221), none, []⟩])
  (.seq (.region false [⟨some 222, .cpy 11, none, []⟩,
   ⟨some 223, .mov (.t 20), none, []⟩,
   ⟨some 224, .mov (.t 14), none, []⟩,
   ⟨some 225, .bin .add (.t 223) (.t 224), none, []⟩,
   ⟨some 226, .mov (.t 21), none, []⟩,
   ⟨some 227, .cv .u32 (.t 226), none, []⟩,
   ⟨some 228, .ixo 222 11 (.t 225) 1, none, []⟩,
   ⟨none, .st 228 11 1 (.t 227), none, []⟩])
  (.seq (.region false [⟨some 229, .mov (.t 21), none, []⟩,
   ⟨some 230, .bin .shr (.t 229) (.c (.int .u64 63)), none, []⟩,
   ⟨some 18, .mov (.t 230), none, []⟩])
  (.region false [⟨some 231, .mov (.t 19), none, []⟩,
   ⟨some 232, .bin .shr (.t 231) (.c (.int .u64 32)), none, []⟩,
   ⟨some 19, .mov (.t 232), none, []⟩]))))))
  (.region false [⟨some 199, .mov (.t 20), none, []⟩,
   ⟨some 200, .bin .add (.t 199) (.c (.int .i64 1)), none, []⟩,
   ⟨some 20, .mov (.t 200), none, []⟩]))))))
  (.seq (.region false [⟨some 233, .cpy 11, none, []⟩,
   ⟨some 234, .mov (.t 14), none, []⟩,
   ⟨some 235, .mov (.t 12), none, []⟩,
   ⟨some 236, .bin .add (.t 234) (.t 235), none, []⟩,
   ⟨some 237, .ixo 233 11 (.t 236) 1, none, []⟩,
   ⟨some 238, .ld 237 11 1 true, none, []⟩,
   ⟨some 239, .cv .u64 (.t 238), none, []⟩,
   ⟨some 240, .mov (.t 19), none, []⟩,
   ⟨some 241, .bin .sub (.t 239) (.t 240), none, []⟩,
   ⟨some 242, .mov (.t 18), none, []⟩,
   ⟨some 243, .bin .sub (.t 241) (.t 242), none, []⟩,
   ⟨some 22, .mov (.t 243), none, []⟩])
  (.seq (.region false [⟨some 244, .cpy 11, none, []⟩,
   ⟨some 245, .mov (.t 14), none, []⟩,
   ⟨some 246, .mov (.t 12), none, []⟩,
   ⟨some 247, .bin .add (.t 245) (.t 246), none, []⟩,
   ⟨some 248, .mov (.t 22), none, []⟩,
   ⟨some 249, .cv .u32 (.t 248), none, []⟩,
   ⟨some 250, .ixo 244 11 (.t 247) 1, none, []⟩,
   ⟨none, .st 250 11 1 (.t 249), none, []⟩])
  (.seq (.seq (.region false [⟨some 251, .mov (.t 22), none, []⟩,
   ⟨some 252, .bin .shr (.t 251) (.c (.int .u64 63)), none, []⟩,
   ⟨some 253, .bin .neq (.t 252) (.c (.int .u64 0)), none, []⟩])
  (.cond (.t 253) (.seq (.region false [⟨some 254, .mov (.t 16), none, []⟩,
   ⟨some 255, .bin .sub (.t 254) (.c (.int .u64 1)), none, []⟩,
   ⟨some 16, .mov (.t 255), none, []⟩])
  (.seq (.region false [⟨some 23, .mov (.c (.int .u64 0)), none, []⟩])
  (.seq (.seq (.region false [⟨some 24, .mov (.c (.int .i64 0)), none, []⟩])
  (.block 10 (.loop (.seq (.seq (.region false [⟨some 256, .mov (.t 24), none, []⟩,
   ⟨some 257, .mov (.t 12), none, []⟩,
   ⟨some 258, .bin .lss (.t 256) (.t 257), none, []⟩])
  (.cond (.t 258) (.skip)
  (.exit 10)))
  (.seq (.block 11 (.seq (.region true [⟨some 261, .mov (.t 23), none, []⟩,
   ⟨some 262, .cpy 11, none, []⟩,
   ⟨some 263, .mov (.t 24), none, []⟩,
   ⟨some 264, .mov (.t 14), none, []⟩,
   ⟨some 265, .bin .add (.t 263) (.t 264), none, []⟩,
   ⟨some 266, .ixo 262 11 (.t 265) 1, none, []⟩,
   ⟨some 267, .ld 266 11 1 true, none, []⟩,
   ⟨some 268, .cv .u64 (.t 267), none, []⟩,
   ⟨some 269, .mov (.t 10), none, []⟩,
   ⟨some 270, .mov (.t 24), none, []⟩,
   ⟨some 271, .ixa 269 (.t 270) 1, none, []⟩,
   ⟨some 272, .ld 271 271 1 true, none, []⟩,
   ⟨some 273, .cv .u64 (.t 272), none, []⟩,
   ⟨some 274, .bin .add (.t 268) (.t 273), none, []⟩,
   ⟨some 275, .bin .add (.t 261) (.t 274), none, []⟩,
   ⟨some 23, .mov (.t 275), none, []⟩])
  (.seq (.region false [⟨some 276, .cpy 11, none, []⟩,
   ⟨some 277, .mov (.t 24), none, []⟩,
   ⟨some 278, .mov (.t 14), none, []⟩,
   ⟨some 279, .bin .add (.t 277) (.t 278), none, []⟩,
   ⟨some 280, .mov (.t 23), none, []⟩,
   ⟨some 281, .cv .u32 (.t 280), none, []⟩,
   ⟨some 282, .ixo 276 11 (.t 279) 1, none, []⟩,
   ⟨none, .st 282 11 1 (.t 281), none, []⟩])
  (.region false [⟨some 283, .mov (.t 23), none, []⟩,
   ⟨some 284, .bin .shr (.t 283) (.c (.int .u64 32)), none, []⟩,
   ⟨some 23, .mov (.t 284), none, []⟩]))))
  (.region false [⟨some 259, .mov (.t 24), none, []⟩,
   ⟨some 260, .bin .add (.t 259) (.c (.int .i64 1)), none, []⟩,
   ⟨some 24, .mov (.t 260), none, []⟩]))))))
  (.region false [⟨some 285, .cpy 11, none, []⟩,
   ⟨some 286, .mov (.t 14), none, []⟩,
   ⟨some 287, .mov (.t 12), none, []⟩,
   ⟨some 288, .bin .add (.t 286) (.t 287), none, []⟩,
   ⟨some 289, .ixo 285 11 (.t 288) 1, none, []⟩,
   ⟨some 290, .ld 289 11 1 true, none, []⟩,
   ⟨some 291, .mov (.t 23), none, []⟩,
   ⟨some 292, .cv .u32 (.t 291), none, []⟩,
   ⟨some 293, .bin .add (.t 290) (.t 292), none, []⟩,
   ⟨some 294, .ixo 285 11 (.t 288) 1, none, []⟩,
   ⟨none, .st 294 11 1 (.t 293), none, []⟩]))))
  (.skip)))
  (.region false [⟨some 295, .cpy 13, none, []⟩,
   ⟨some 296, .mov (.t 14), none, []⟩,
   ⟨some 297, .mov (.t 16), none, []⟩,
   ⟨some 298, .cv .u32 (.t 297), none, []⟩,
   ⟨some 299, .ixo 295 13 (.t 296) 1, none, []⟩,
   ⟨none, .st 299 13 1 (.t 298), none, []⟩]))))))))))
  (.region false [⟨some 121, .mov (.t 14), none, []⟩,
   ⟨some 122, .bin .sub (.t 121) (.c (.int .i64 1)), none, []⟩,
   ⟨some 14, .mov (.t 122), none, []⟩]))))))
  (.seq (.region false [⟨some 300, .frz 13, none, []⟩,
   ⟨some 301, .clo 97 [.t 300], none, []⟩,
   ⟨some 302, .frz 11, none, []⟩,
   ⟨some 303, .bld [.bool false, .sl 0 []] [(1, 1, .t 302)], none, []⟩,
   ⟨some 304, .mov (.t 9), none, []⟩,
   ⟨some 305, .call 124 [.t 303, .t 304], none, []⟩,
   ⟨some 306, .fld (.t 305) 1 1 true, none, []⟩,
   ⟨some 4, .tra 301, none, []⟩,
   ⟨some 5, .tra 306, none, []⟩])
  (.ret))))))))))))⟩
def Try.r117 : List (Nat × Nat) := [(51, 6), (60, 6), (109, 11), (114, 11), (123, 11), (127, 11), (131, 11), (136, 11), (172, 11), (177, 11), (210, 11), (214, 11), (222, 11), (228, 11), (233, 11), (237, 11), (244, 11), (250, 11), (262, 11), (266, 11), (276, 11), (282, 11), (285, 11), (289, 11), (294, 11), (295, 13), (299, 13)]
theorem Try.i117_ok : fnOk Try.prog Try.r117 Try.f117 Try.i117 = true := by kernel_rfl

/- pinball/wide.cmpLimbs -/
def Try.i118 : IFunc := ⟨2, 41, [.tmp 4],
  .seq (.region false [⟨some 4, .mov (.c (.int .i64 0)), none, []⟩])
  (.seq (.seq (.region false [⟨some 6, .mov (.t 0), none, []⟩,
   ⟨some 7, .len (.t 6), none, []⟩,
   ⟨some 8, .mov (.t 1), none, []⟩,
   ⟨some 9, .len (.t 8), none, []⟩,
   ⟨some 10, .bin .neq (.t 7) (.t 9), none, []⟩])
  (.cond (.t 10) (.seq (.seq (.region false [⟨some 11, .mov (.t 0), none, []⟩,
   ⟨some 12, .len (.t 11), none, []⟩,
   ⟨some 13, .mov (.t 1), none, []⟩,
   ⟨some 14, .len (.t 13), none, []⟩,
   ⟨some 15, .bin .lss (.t 12) (.t 14), none, []⟩])
  (.cond (.t 15) (.seq (.region false [⟨some 4, .mov (.c (.int .i64 (-1))), none, []⟩])
  (.ret))
  (.skip)))
  (.seq (.region false [⟨some 4, .mov (.c (.int .i64 1)), none, []⟩])
  (.ret)))
  (.skip)))
  (.seq (.seq (.region false [⟨some 16, .mov (.t 0), none, []⟩,
   ⟨some 17, .len (.t 16), none, []⟩,
   ⟨some 18, .bin .sub (.t 17) (.c (.int .i64 1)), none, []⟩,
   ⟨some 5, .mov (.t 18), none, []⟩])
  (.block 0 (.loop (.seq (.seq (.region false [⟨some 19, .mov (.t 5), none, []⟩,
   ⟨some 20, .bin .geq (.t 19) (.c (.int .i64 0)), none, []⟩])
  (.cond (.t 20) (.skip)
  (.exit 0)))
  (.seq (.block 1 (.seq (.region true [⟨some 23, .mov (.t 0), none, []⟩,
   ⟨some 24, .mov (.t 5), none, []⟩,
   ⟨some 25, .ixa 23 (.t 24) 1, none, []⟩,
   ⟨some 26, .ld 25 25 1 true, none, []⟩,
   ⟨some 27, .mov (.t 1), none, []⟩,
   ⟨some 28, .mov (.t 5), none, []⟩,
   ⟨some 29, .ixa 27 (.t 28) 1, none, []⟩,
   ⟨some 30, .ld 29 29 1 true, none, []⟩,
   ⟨some 31, .bin .neq (.t 26) (.t 30), none, []⟩])
  (.cond (.t 31) (.seq (.seq (.region true [⟨some 32, .mov (.t 0), none, []⟩,
   ⟨some 33, .mov (.t 5), none, []⟩,
   ⟨some 34, .ixa 32 (.t 33) 1, none, []⟩,
   ⟨some 35, .ld 34 34 1 true, none, []⟩,
   ⟨some 36, .mov (.t 1), none, []⟩,
   ⟨some 37, .mov (.t 5), none, []⟩,
   ⟨some 38, .ixa 36 (.t 37) 1, none, []⟩,
   ⟨some 39, .ld 38 38 1 true, none, []⟩,
   ⟨some 40, .bin .lss (.t 35) (.t 39), none, []⟩])
  (.cond (.t 40) (.seq (.region false [⟨some 4, .mov (.c (.int .i64 (-1))), none, []⟩])
  (.ret))
  (.skip)))
  (.seq (.region false [⟨some 4, .mov (.c (.int .i64 1)), none, []⟩])
  (.ret)))
  (.skip))))
  (.region false [⟨some 21, .mov (.t 5), none, []⟩,
   ⟨some 22, .bin .sub (.t 21) (.c (.int .i64 1)), none, []⟩,
   ⟨some 5, .mov (.t 22), none, []⟩]))))))
  (.seq (.region false [⟨some 4, .mov (.c (.int .i64 0)), none, []⟩])
  (.ret))))⟩
def Try.r118 : List (Nat × Nat) := []
theorem Try.i118_ok : fnOk Try.prog Try.r118 Try.f118 Try.i118 = true := by kernel_rfl

/- pinball/wide.quoSmall -/
def Try.i119 : IFunc := ⟨2, 43, [.tmp 4, .tmp 5],
  .seq (.region false [⟨some 4, .nlo 1, none, []⟩,
   ⟨some 5, .mov (.c (.int .u32 0)), none, []⟩])
  (.seq (.region false [⟨some 10, .mov (.t 0), none, []⟩,
   ⟨some 11, .len (.t 10), none, []⟩,
   ⟨some 12, .mks [.int .u32 0] (.t 11), none, []⟩,
   ⟨some 6, .tra 12, none, [28, 39]⟩])
  (.seq (.region false [⟨some 7, .mov (.c (.int .u64 0)), none, []⟩])
  (.seq (.seq (.region false [⟨some 13, .mov (.t 0), none, []⟩,
   ⟨some 14, .len (.t 13), none, []⟩,
   ⟨some 15, .bin .sub (.t 14) (.c (.int .i64 1)), none, []⟩,
   ⟨some 8, .mov (.t 15), none, []⟩])
  (.block 0 (.loop (.seq (.seq (.region false [⟨some 16, .mov (.t 8), none, []⟩,
   ⟨some 17, .bin .geq (.t 16) (.c (.int .i64 0)), none, []⟩])
  (.cond (.t 17) (.skip)
  (.exit 0)))
  (.seq (.block 1 (.seq (.region false [⟨some 20, .mov (.t 7), none, []⟩,
   ⟨some 21, .bin .shl (.t 20) (.c (.int .u64 32)), none, []⟩,
   ⟨some 22, .mov (.t 0), none, []⟩,
   ⟨some 23, .mov (.t 8), none, []⟩,
   ⟨some 24, .ixa 22 (.t 23) 1, none, []⟩,
   ⟨some 25, .ld 24 24 1 true, none, []⟩,
   ⟨some 26, .cv .u64 (.t 25), none, []⟩,
   ⟨some 27, .bin .or (.t 21) (.t 26), none, []⟩,
   ⟨some 9, .mov (.t 27), none, []⟩])
  (.region true [⟨some 28, .cpy 6, none, []⟩,
   ⟨some 29, .mov (.t 8), none, []⟩,
   ⟨some 30, .mov (.t 9), none, []⟩,
   ⟨some 31, .mov (.t 1), none, []⟩,
   ⟨some 32, .cv .u64 (.t 31), none, []⟩,
   ⟨some 33, .bin .quo (.t 30) (.t 32), none, []⟩,
   ⟨some 34, .cv .u32 (.t 33), none, []⟩,
   ⟨some 35, .mov (.t 9), none, []⟩,
   ⟨some 36, .mov (.t 1), none, []⟩,
   ⟨some 37, .cv .u64 (.t 36), none, []⟩,
   ⟨some 38, .bin .rem (.t 35) (.t 37), none, []⟩,
   ⟨some 39, .ixo 28 6 (.t 29) 1, none, []⟩,
   ⟨none, .st 39 6 1 (.t 34), none, []⟩,
   ⟨some 7, .mov (.t 38), none, []⟩])))
  (.region false [⟨some 18, .mov (.t 8), none, []⟩,
   ⟨some 19, .bin .sub (.t 18) (.c (.int .i64 1)), none, []⟩,
   ⟨some 8, .mov (.t 19), none, []⟩]))))))
  (.seq (.region false [⟨some 40, .tra 6, none, []⟩,
   ⟨some 41, .mov (.t 7), none, []⟩,
   ⟨some 42, .cv .u32 (.t 41), none, []⟩,
   ⟨some 4, .tra 40, none, []⟩,
   ⟨some 5, .mov (.t 42), none, []⟩])
  (.ret)))))⟩
def Try.r119 : List (Nat × Nat) := [(28, 6), (39, 6)]
theorem Try.i119_ok : fnOk Try.prog Try.r119 Try.f119 Try.i119 = true := by kernel_rfl

/- math/bits.LeadingZeros32 -/
def Try.i120 : IFunc := ⟨1, 6, [.tmp 2],
  .seq (.region false [⟨some 2, .mov (.c (.int .i64 0)), none, []⟩])
  (.seq (.region false [⟨some 3, .mov (.t 0), none, []⟩,
   ⟨some 4, .call 95 [.t 3], none, []⟩,
   ⟨some 5, .bin .sub (.c (.int .i64 32)) (.t 4), none, []⟩,
   ⟨some 2, .mov (.t 5), none, []⟩])
  (.ret))⟩
def Try.r120 : List (Nat × Nat) := []
theorem Try.i120_ok : fnOk Try.prog Try.r120 Try.f120 Try.i120 = true := by kernel_rfl

/- pinball/wide.shifted -/
def Try.i121 : IFunc := ⟨2, 42, [.tmp 4],
  .seq (.region false [⟨some 4, .nlo 1, none, []⟩])
  (.seq (.region false [⟨some 9, .mov (.t 0), none, []⟩,
   ⟨some 10, .len (.t 9), none, []⟩,
   ⟨some 11, .bin .add (.t 10) (.c (.int .i64 1)), none, []⟩,
   ⟨some 12, .mks [.int .u32 0] (.t 11), none, []⟩,
   ⟨some 5, .tra 12, none, [25, 27, 32, 33, 39]⟩])
  (.seq (.seq (.region false [⟨some 13, .mov (.t 0), none, []⟩,
   ⟨some 14, .len (.t 13), none, []⟩,
   ⟨some 15, .mov (.c (.int .i64 0)), none, []⟩])
  (.block 0 (.loop (.seq (.region false [⟨some 16, .bin .lss (.t 15) (.t 14), none, []⟩])
  (.seq (.cond (.t 16) (.skip)
  (.exit 0))
  (.seq (.block 1 (.seq (.region false [⟨some 17, .mov (.t 15), none, []⟩,
   ⟨some 18, .ixa 13 (.t 15) 1, none, []⟩,
   ⟨some 19, .ld 18 18 1 true, none, []⟩,
   ⟨some 6, .mov (.t 17), none, []⟩,
   ⟨some 7, .mov (.t 19), none, []⟩])
  (.seq (.region false [⟨some 20, .mov (.t 7), none, []⟩,
   ⟨some 21, .cv .u64 (.t 20), none, []⟩,
   ⟨some 22, .mov (.t 1), none, []⟩,
   ⟨some 23, .cv .u64 (.t 22), none, []⟩,
   ⟨some 24, .bin .shl (.t 21) (.t 23), none, []⟩,
   ⟨some 8, .mov (.t 24), none, []⟩])
  (.seq (.region false [⟨some 25, .cpy 5, none, []⟩,
   ⟨some 26, .mov (.t 6), none, []⟩,
   ⟨some 27, .ixo 25 5 (.t 26) 1, none, []⟩,
   ⟨some 28, .ld 27 5 1 true, none, []⟩,
   ⟨some 29, .mov (.t 8), none, []⟩,
   ⟨some 30, .cv .u32 (.t 29), none, []⟩,
   ⟨some 31, .bin .or (.t 28) (.t 30), none, []⟩,
   ⟨some 32, .ixo 25 5 (.t 26) 1, none, []⟩,
   ⟨none, .st 32 5 1 (.t 31), none, []⟩])
  (.region false [⟨some 33, .cpy 5, none, []⟩,
   ⟨some 34, .mov (.t 6), none, []⟩,
   ⟨some 35, .bin .add (.t 34) (.c (.int .i64 1)), none, []⟩,
   ⟨some 36, .mov (.t 8), none, []⟩,
   ⟨some 37, .bin .shr (.t 36) (.c (.int .u64 32)), none, []⟩,
   ⟨some 38, .cv .u32 (.t 37), none, []⟩,
   ⟨some 39, .ixo 33 5 (.t 35) 1, none, []⟩,
   ⟨none, .st 39 5 1 (.t 38), none, []⟩])))))
  (.region false [⟨some 40, .bin .add (.t 15) (.c (.int .i64 1)), none, []⟩,
   ⟨some 15, .mov (.t 40), none, []⟩])))))))
  (.seq (.region false [⟨some 41, .tra 5, none, []⟩,
   ⟨some 4, .tra 41, none, []⟩])
  (.ret))))⟩
def Try.r121 : List (Nat × Nat) := [(25, 5), (27, 5), (32, 5), (33, 5), (39, 5)]
theorem Try.i121_ok : fnOk Try.prog Try.r121 Try.f121 Try.i121 = true := by kernel_rfl

/- pinball/wide.addLimbs -/
def Try.i122 : IFunc := ⟨2, 58, [.tmp 4],
  .seq (.region false [⟨some 4, .nlo 1, none, []⟩])
  (.seq (.seq (.region false [⟨some 9, .mov (.t 0), none, []⟩,
   ⟨some 10, .len (.t 9), none, []⟩,
   ⟨some 11, .mov (.t 1), none, []⟩,
   ⟨some 12, .len (.t 11), none, []⟩,
   ⟨some 13, .bin .lss (.t 10) (.t 12), none, []⟩])
  (.cond (.t 13) (.region false [⟨some 14, .mov (.t 1), none, []⟩,
   ⟨some 15, .mov (.t 0), none, []⟩,
   ⟨some 0, .mov (.t 14), none, []⟩,
   ⟨some 1, .mov (.t 15), none, []⟩])
  (.skip)))
  (.seq (.region false [⟨some 16, .mov (.t 0), none, []⟩,
   ⟨some 17, .len (.t 16), none, []⟩,
   ⟨some 18, .bin .add (.t 17) (.c (.int .i64 1)), none, []⟩,
   ⟨some 19, .mks [.int .u32 0] (.t 18), none, []⟩,
   ⟨some 5, .tra 19, none, [43, 49, 51, 56]⟩])
  (.seq (.region false [⟨some 6, .mov (.c (.int .u64 0)), none, []⟩])
  (.seq (.seq (.region false [⟨some 20, .mov (.t 0), none, []⟩,
   ⟨some 21, .len (.t 20), none, []⟩,
   ⟨some 22, .mov (.c (.int .i64 0)), none, []⟩])
  (.block 0 (.loop (.seq (.region false [⟨some 23, .bin .lss (.t 22) (.t 21), none, []⟩])
  (.seq (.cond (.t 23) (.skip)
  (.exit 0))
  (.seq (.block 1 (.seq (.region false [⟨some 24, .mov (.t 22), none, []⟩,
   ⟨some 7, .mov (.t 24), none, []⟩])
  (.seq (.region false [⟨some 25, .mov (.t 0), none, []⟩,
   ⟨some 26, .mov (.t 7), none, []⟩,
   ⟨some 27, .ixa 25 (.t 26) 1, none, []⟩,
   ⟨some 28, .ld 27 27 1 true, none, []⟩,
   ⟨some 29, .cv .u64 (.t 28), none, []⟩,
   ⟨some 30, .mov (.t 6), none, []⟩,
   ⟨some 31, .bin .add (.t 29) (.t 30), none, []⟩,
   ⟨some 8, .mov (.t 31), none, []⟩])
  (.seq (.seq (.region false [⟨some 32, .mov (.t 7), none, []⟩,
   ⟨some 33, .mov (.t 1), none, []⟩,
   ⟨some 34, .len (.t 33), none, []⟩,
   ⟨some 35, .bin .lss (.t 32) (.t 34), none, []⟩])
  (.cond (.t 35) (.region false [⟨some 36, .mov (.t 8), none, []⟩,
   ⟨some 37, .mov (.t 1), none, []⟩,
   ⟨some 38, .mov (.t 7), none, []⟩,
   ⟨some 39, .ixa 37 (.t 38) 1, none, []⟩,
   ⟨some 40, .ld 39 39 1 true, none, []⟩,
   ⟨some 41, .cv .u64 (.t 40), none, []⟩,
   ⟨some 42, .bin .add (.t 36) (.t 41), none, []⟩,
   ⟨some 8, .mov (.t 42), none, []⟩])
  (.skip)))
  (.region false [⟨some 43, .cpy 5, none, []⟩,
   ⟨some 44, .mov (.t 7), none, []⟩,
   ⟨some 45, .mov (.t 8), none, []⟩,
   ⟨some 46, .cv .u32 (.t 45), none, []⟩,
   ⟨some 47, .mov (.t 8), none, []⟩,
   ⟨some 48, .bin .shr (.t 47) (.c (.int .u64 32)), none, []⟩,
   ⟨some 49, .ixo 43 5 (.t 44) 1, none, []⟩,
   ⟨none, .st 49 5 1 (.t 46), none, []⟩,
   ⟨some 6, .mov (.t 48), none, []⟩])))))
  (.region false [⟨some 50, .bin .add (.t 22) (.c (.int .i64 1)), none, []⟩,
   ⟨some 22, .mov (.t 50), none, []⟩])))))))
  (.seq (.region false [⟨some 51, .cpy 5, none, []⟩,
   ⟨some 52, .mov (.t 0), none, []⟩,
   ⟨some 53, .len (.t 52), none, []⟩,
   ⟨some 54, .mov (.t 6), none, []⟩,
   ⟨some 55, .cv .u32 (.t 54), none, []⟩,
   ⟨some 56, .ixo 51 5 (.t 53) 1, none, []⟩,
   ⟨none, .st 56 5 1 (.t 55), none, []⟩])
  (.seq (.region false [⟨some 57, .tra 5, none, []⟩,
   ⟨some 4, .tra 57, none, []⟩])
  (.ret)))))))⟩
def Try.r122 : List (Nat × Nat) := [(43, 5), (49, 5), (51, 5), (56, 5)]
theorem Try.i122_ok : fnOk Try.prog Try.r122 Try.f122 Try.i122 = true := by kernel_rfl

/- pinball/wide.subLimbs -/
def Try.i123 : IFunc := ⟨2, 44, [.tmp 4],
  .seq (.region false [⟨some 4, .nlo 1, none, []⟩])
  (.seq (.region false [⟨some 9, .mov (.t 0), none, []⟩,
   ⟨some 10, .len (.t 9), none, []⟩,
   ⟨some 11, .mks [.int .u32 0] (.t 10), none, []⟩,
   ⟨some 5, .tra 11, none, [35, 41]⟩])
  (.seq (.region false [⟨some 6, .mov (.c (.int .u64 0)), none, []⟩])
  (.seq (.seq (.region false [⟨some 12, .mov (.t 0), none, []⟩,
   ⟨some 13, .len (.t 12), none, []⟩,
   ⟨some 14, .mov (.c (.int .i64 0)), none, []⟩])
  (.block 0 (.loop (.seq (.region false [⟨some 15, .bin .lss (.t 14) (.t 13), none, []⟩])
  (.seq (.cond (.t 15) (.skip)
  (.exit 0))
  (.seq (.block 1 (.seq (.region false [⟨some 16, .mov (.t 14), none, []⟩,
   ⟨some 7, .mov (.t 16), none, []⟩])
  (.seq (.region false [⟨some 17, .mov (.t 0), none, []⟩,
   ⟨some 18, .mov (.t 7), none, []⟩,
   ⟨some 19, .ixa 17 (.t 18) 1, none, []⟩,
   ⟨some 20, .ld 19 19 1 true, none, []⟩,
   ⟨some 21, .cv .u64 (.t 20), none, []⟩,
   ⟨some 22, .mov (.t 6), none, []⟩,
   ⟨some 23, .bin .sub (.t 21) (.t 22), none, []⟩,
   ⟨some 8, .mov (.t 23), none, []⟩])
  (.seq (.seq (.region false [⟨some 24, .mov (.t 7), none, []⟩,
   ⟨some 25, .mov (.t 1), none, []⟩,
   ⟨some 26, .len (.t 25), none, []⟩,
   ⟨some 27, .bin .lss (.t 24) (.t 26), none, []⟩])
  (.cond (.t 27) (.region false [⟨some 28, .mov (.t 8), none, []⟩,
   ⟨some 29, .mov (.t 1), none, []⟩,
   ⟨some 30, .mov (.t 7), none, []⟩,
   ⟨some 31, .ixa 29 (.t 30) 1, none, []⟩,
   ⟨some 32, .ld 31 31 1 true, none, []⟩,
   ⟨some 33, .cv .u64 (.t 32), none, []⟩,
   ⟨some 34, .bin .sub (.t 28) (.t 33), none, []⟩,
   ⟨some 8, .mov (.t 34), none, []⟩])
  (.skip)))
  (.region false [⟨some 35, .cpy 5, none, []⟩,
   ⟨some 36, .mov (.t 7), none, []⟩,
   ⟨some 37, .mov (.t 8), none, []⟩,
   ⟨some 38, .cv .u32 (.t 37), none, []⟩,
   ⟨some 39, .mov (.t 8), none, []⟩,
   ⟨some 40, .bin .shr (.t 39) (.c (.int .u64 63)), none, []⟩,
   ⟨some 41, .ixo 35 5 (.t 36) 1, none, []⟩,
   ⟨none, .st 41 5 1 (.t 38), none, []⟩,
   ⟨some 6, .mov (.t 40), none, []⟩])))))
  (.region false [⟨some 42, .bin .add (.t 14) (.c (.int .i64 1)), none, []⟩,
   ⟨some 14, .mov (.t 42), none, []⟩])))))))
  (.seq (.region false [⟨some 43, .tra 5, none, []⟩,
   ⟨some 4, .tra 43, none, []⟩])
  (.ret)))))⟩
def Try.r123 : List (Nat × Nat) := [(35, 5), (41, 5)]
theorem Try.i123_ok : fnOk Try.prog Try.r123 Try.f123 Try.i123 = true := by kernel_rfl

/- pinball/pinballref01.Down -/
def Try.i124 : IFunc := ⟨2, 104, [.cell 4 2 false],
  .seq (.region false [⟨some 2, .box (.t 0) [13, 91, 95], none, []⟩,
   ⟨some 4, .new [.bool false, .sl 0 []] [], none, []⟩])
  (.seq (.region false [⟨some 13, .adr 2 2 1, none, []⟩,
   ⟨some 14, .ld 13 2 1 true, none, []⟩,
   ⟨some 15, .call 97 [.t 14], none, []⟩,
   ⟨some 5, .mov (.t 15), none, []⟩])
  (.seq (.region false [⟨some 6, .nlo 1, none, []⟩])
  (.seq (.region false [⟨some 7, .mov (.c (.bool false)), none, []⟩])
  (.seq (.seq (.region false [⟨some 8, .mov (.c (.int .i64 0)), none, []⟩])
  (.block 0 (.loop (.seq (.seq (.region false [⟨some 16, .mov (.t 8), none, []⟩,
   ⟨some 17, .mov (.t 5), none, []⟩,
   ⟨some 18, .len (.t 17), none, []⟩,
   ⟨some 19, .bin .lss (.t 16) (.t 18), none, []⟩,
   ⟨some 20, .mov (.t 19), none, []⟩,
   ⟨some 21, .mov (.t 8), some (20, true), []⟩,
   ⟨some 22, .mov (.t 1), some (20, true), []⟩,
   ⟨some 23, .bin .quo (.t 22) (.c (.int .i64 32)), some (20, true), []⟩,
   ⟨some 24, .bin .lss (.t 21) (.t 23), some (20, true), []⟩,
   ⟨some 25, .pick (.t 20) (.t 24) (.c (.bool false)), none, []⟩])
  (.cond (.t 25) (.skip)
  (.exit 0)))
  (.seq (.block 1 (.region false [⟨some 28, .mov (.t 7), none, []⟩,
   ⟨some 29, .mov (.t 28), none, []⟩,
   ⟨some 30, .mov (.t 5), some (29, false), []⟩,
   ⟨some 31, .mov (.t 8), some (29, false), []⟩,
   ⟨some 32, .ixa 30 (.t 31) 1, some (29, false), []⟩,
   ⟨some 33, .ld 32 32 1 true, some (29, false), []⟩,
   ⟨some 34, .bin .neq (.t 33) (.c (.int .u32 0)), some (29, false), []⟩,
   ⟨some 35, .pick (.t 29) (.c (.bool true)) (.t 34), none, []⟩,
   ⟨some 7, .mov (.t 35), none, []⟩]))
  (.region false [⟨some 26, .mov (.t 8), none, []⟩,
   ⟨some 27, .bin .add (.t 26) (.c (.int .i64 1)), none, []⟩,
   ⟨some 8, .mov (.t 27), none, []⟩]))))))
  (.seq (.region false [⟨some 36, .mov (.t 1), none, []⟩,
   ⟨some 37, .bin .rem (.t 36) (.c (.int .i64 32)), none, []⟩,
   ⟨some 38, .cv .u64 (.t 37), none, []⟩,
   ⟨some 9, .mov (.t 38), none, []⟩])
  (.seq (.seq (.region false [⟨some 39, .mov (.t 1), none, []⟩,
   ⟨some 40, .bin .quo (.t 39) (.c (.int .i64 32)), none, []⟩,
   ⟨some 10, .mov (.t 40), none, []⟩])
  (.block 2 (.loop (.seq (.seq (.region false [⟨some 41, .mov (.t 10), none, []⟩,
   ⟨some 42, .mov (.t 5), none, []⟩,
   ⟨some 43, .len (.t 42), none, []⟩,
   ⟨some 44, .bin .lss (.t 41) (.t 43), none, []⟩])
  (.cond (.t 44) (.skip)
  (.exit 2)))
  (.seq (.block 3 (.seq (.region false [⟨some 47, .mov (.t 5), none, []⟩,
   ⟨some 48, .mov (.t 10), none, []⟩,
   ⟨some 49, .ixa 47 (.t 48) 1, none, []⟩,
   ⟨some 50, .ld 49 49 1 true, none, []⟩,
   ⟨some 51, .cv .u64 (.t 50), none, []⟩,
   ⟨some 11, .mov (.t 51), none, []⟩])
  (.seq (.seq (.region false [⟨some 52, .mov (.t 10), none, []⟩,
   ⟨some 53, .bin .add (.t 52) (.c (.int .i64 1)), none, []⟩,
   ⟨some 54, .mov (.t 5), none, []⟩,
   ⟨some 55, .len (.t 54), none, []⟩,
   ⟨some 56, .bin .lss (.t 53) (.t 55), none, []⟩])
  (.cond (.t 56) (.region false [⟨some 57, .mov (.t 11), none, []⟩,
   ⟨some 58, .mov (.t 5), none, []⟩,
   ⟨some 59, .mov (.t 10), none, []⟩,
   ⟨some 60, .bin .add (.t 59) (.c (.int .i64 1)), none, []⟩,
   ⟨some 61, .ixa 58 (.t 60) 1, none, []⟩,
   ⟨some 62, .ld 61 61 1 true, none, []⟩,
   ⟨some 63, .cv .u64 (.t 62), none, []⟩,
   ⟨some 64, .bin .shl (.t 63) (.c (.int .u64 32)), none, []⟩,
   ⟨some 65, .bin .or (.t 57) (.t 64), none, []⟩,
   ⟨some 11, .mov (.t 65), none, []⟩])
  (.skip)))
  (.region false [⟨some 66, .tra 6, none, []⟩,
   ⟨some 67, .mov (.t 11), none, []⟩,
   ⟨some 68, .mov (.t 9), none, []⟩,
   ⟨some 69, .bin .shr (.t 67) (.t 68), none, []⟩,
   ⟨some 70, .cv .u32 (.t 69), none, []⟩,
   ⟨some 71, .bls 1 [.int .u32 0] [(0, 1, .t 70)], none, []⟩,
   ⟨some 72, .apd true (.t 66) (.t 71) 1, none, []⟩,
   ⟨some 6, .tra 72, none, []⟩]))))
  (.region false [⟨some 45, .mov (.t 10), none, []⟩,
   ⟨some 46, .bin .add (.t 45) (.c (.int .i64 1)), none, []⟩,
   ⟨some 10, .mov (.t 46), none, []⟩]))))))
  (.seq (.seq (.region false [⟨some 73, .mov (.t 1), none, []⟩,
   ⟨some 74, .bin .quo (.t 73) (.c (.int .i64 32)), none, []⟩,
   ⟨some 75, .mov (.t 5), none, []⟩,
   ⟨some 76, .len (.t 75), none, []⟩,
   ⟨some 77, .bin .lss (.t 74) (.t 76), none, []⟩])
  (.cond (.t 77) (.region false [⟨some 78, .mov (.t 7), none, []⟩,
   ⟨some 79, .mov (.t 78), none, []⟩,
   ⟨some 80, .mov (.t 5), some (79, false), []⟩,
   ⟨some 81, .mov (.t 1), some (79, false), []⟩,
   ⟨some 82, .bin .quo (.t 81) (.c (.int .i64 32)), some (79, false), []⟩,
   ⟨some 83, .ixa 80 (.t 82) 1, some (79, false), []⟩,
   ⟨some 84, .ld 83 83 1 true, some (79, false), []⟩,
   ⟨some 85, .mov (.t 9), some (79, false), []⟩,
   ⟨some 86, .bin .shl (.c (.int .u32 1)) (.t 85), some (79, false), []⟩,
   ⟨some 87, .bin .sub (.t 86) (.c (.int .u32 1)), some (79, false), []⟩,
   ⟨some 88, .bin .and (.t 84) (.t 87), some (79, false), []⟩,
   ⟨some 89, .bin .neq (.t 88) (.c (.int .u32 0)), some (79, false), []⟩,
   ⟨some 90, .pick (.t 79) (.c (.bool true)) (.t 89), none, []⟩,
   ⟨some 7, .mov (.t 90), none, []⟩])
  (.skip)))
  (.seq (.region false [⟨some 91, .adr 2 2 0, none, []⟩,
   ⟨some 92, .ld 91 2 1 true, none, []⟩,
   ⟨some 93, .frz 6, none, []⟩,
   ⟨some 94, .call 106 [.t 92, .t 93], none, []⟩,
   ⟨some 12, .new [.bool false, .sl 0 []] [], none, []⟩,
   ⟨none, .st 12 12 2 (.t 94), none, []⟩])
  (.seq (.seq (.region false [⟨some 95, .adr 2 2 0, none, []⟩,
   ⟨some 96, .ld 95 2 1 true, none, []⟩,
   ⟨some 97, .mov (.t 96), none, []⟩,
   ⟨some 98, .mov (.t 7), some (97, true), []⟩,
   ⟨some 99, .pick (.t 97) (.t 98) (.c (.bool false)), none, []⟩])
  (.cond (.t 99) (.seq (.region true [⟨some 100, .ld 12 12 2 false, none, []⟩,
   ⟨some 101, .call 79 [.c (.int .i64 1)], none, []⟩,
   ⟨some 102, .call 90 [.t 100, .t 101], none, []⟩,
   ⟨none, .st 4 4 2 (.t 102), none, []⟩])
  (.ret))
  (.skip)))
  (.seq (.region false [⟨some 103, .ld 12 12 2 false, none, []⟩,
   ⟨none, .st 4 4 2 (.t 103), none, []⟩])
  (.ret)))))))))))⟩
def Try.r124 : List (Nat × Nat) := [(13, 2), (91, 2), (95, 2)]
theorem Try.i124_ok : fnOk Try.prog Try.r124 Try.f124 Try.i124 = true := by kernel_rfl

end Go.Proofs.Ytmchkmpefhdolaa
