/- Functions of the seat in the intermediate language, printed by a program out of the translation, and that each is the program's own. -/
import Derived.Test.YthakfjlnhldehaaGreatProg
import Derived.Test.YthakfjlnhldehaaGreatAbs14
import Derived.KernelRfl
namespace Go.Proofs.YthakfjlnhldehaaGreat
open Go.Ai
set_option maxRecDepth 100000

/- pinball/wide.limbs -/
def Tryz.i95 : IFunc := ⟨1, 31, [.tmp 2, .tmp 3],
  .seq (.region false [⟨some 1, .box (.t 0) [5, 11, 21, 27], none, []⟩,
   ⟨some 2, .mov (.c (.bool false)), none, []⟩,
   ⟨some 3, .nlo 1, none, []⟩])
  (.seq (.region false [⟨some 5, .adr 1 1 1, none, []⟩,
   ⟨some 6, .ld 5 1 1 true, none, []⟩,
   ⟨some 7, .len (.t 6), none, []⟩,
   ⟨some 4, .mov (.t 7), none, []⟩])
  (.seq (.block 0 (.loop (.seq (.seq (.region false [⟨some 8, .mov (.t 4), none, []⟩,
   ⟨some 9, .bin .gtr (.t 8) (.c (.int .i64 0)), none, []⟩,
   ⟨some 10, .mov (.t 9), none, []⟩,
   ⟨some 11, .adr 1 1 1, some (10, true), []⟩,
   ⟨some 12, .ld 11 1 1 true, some (10, true), []⟩,
   ⟨some 13, .mov (.t 4), some (10, true), []⟩,
   ⟨some 14, .bin .sub (.t 13) (.c (.int .i64 1)), some (10, true), []⟩,
   ⟨some 15, .ixa 12 (.t 14) 1, some (10, true), []⟩,
   ⟨some 16, .ld 15 15 1 true, some (10, true), []⟩,
   ⟨some 17, .bin .eql (.t 16) (.c (.int .u32 0)), some (10, true), []⟩,
   ⟨some 18, .pick (.t 10) (.t 17) (.c (.bool false)), none, []⟩])
  (.cond (.t 18) (.skip)
  (.exit 0)))
  (.block 1 (.region false [⟨some 19, .mov (.t 4), none, []⟩,
   ⟨some 20, .bin .sub (.t 19) (.c (.int .i64 1)), none, []⟩,
   ⟨some 4, .mov (.t 20), none, []⟩])))))
  (.seq (.region true [⟨some 21, .adr 1 1 0, none, []⟩,
   ⟨some 22, .ld 21 1 1 true, none, []⟩,
   ⟨some 23, .mov (.t 22), none, []⟩,
   ⟨some 24, .mov (.t 4), some (23, true), []⟩,
   ⟨some 25, .bin .gtr (.t 24) (.c (.int .i64 0)), some (23, true), []⟩,
   ⟨some 26, .pick (.t 23) (.t 25) (.c (.bool false)), none, []⟩,
   ⟨some 27, .adr 1 1 1, none, []⟩,
   ⟨some 28, .ld 27 1 1 true, none, []⟩,
   ⟨some 29, .mov (.t 4), none, []⟩,
   ⟨some 30, .sli (.t 28) none (some (.t 29)) none 1, none, []⟩,
   ⟨some 2, .mov (.t 26), none, []⟩,
   ⟨some 3, .tra 30, none, []⟩])
  (.ret))))⟩
def Tryz.r95 : List (Nat × Nat) := [(5, 1), (11, 1), (21, 1), (27, 1)]
theorem Tryz.i95_ok : fnOk Tryz.prog Tryz.r95 Tryz.f95 Tryz.i95 = true := by kernel_rfl

/- pinball/wide.sum -/
def Tryz.i96 : IFunc := ⟨4, 31, [.cell 8 2 false],
  .seq (.region false [⟨some 8, .new [.bool false, .sl 0 []] [], none, []⟩])
  (.seq (.seq (.region false [⟨some 9, .mov (.t 0), none, []⟩,
   ⟨some 10, .mov (.t 2), none, []⟩,
   ⟨some 11, .eqb false (.t 9) (.t 10), none, []⟩])
  (.cond (.t 11) (.seq (.region false [⟨some 12, .mov (.t 0), none, []⟩,
   ⟨some 13, .mov (.t 1), none, []⟩,
   ⟨some 14, .mov (.t 3), none, []⟩,
   ⟨some 15, .call 118 [.t 13, .t 14], none, []⟩,
   ⟨some 16, .call 97 [.t 12, .t 15], none, []⟩,
   ⟨none, .st 8 8 2 (.t 16), none, []⟩])
  (.ret))
  (.skip)))
  (.seq (.seq (.region false [⟨some 17, .mov (.t 1), none, []⟩,
   ⟨some 18, .mov (.t 3), none, []⟩,
   ⟨some 19, .call 119 [.t 17, .t 18], none, []⟩,
   ⟨some 20, .bin .geq (.t 19) (.c (.int .i64 0)), none, []⟩])
  (.cond (.t 20) (.seq (.region false [⟨some 21, .mov (.t 0), none, []⟩,
   ⟨some 22, .mov (.t 1), none, []⟩,
   ⟨some 23, .mov (.t 3), none, []⟩,
   ⟨some 24, .call 120 [.t 22, .t 23], none, []⟩,
   ⟨some 25, .call 97 [.t 21, .t 24], none, []⟩,
   ⟨none, .st 8 8 2 (.t 25), none, []⟩])
  (.ret))
  (.skip)))
  (.seq (.region false [⟨some 26, .mov (.t 2), none, []⟩,
   ⟨some 27, .mov (.t 3), none, []⟩,
   ⟨some 28, .mov (.t 1), none, []⟩,
   ⟨some 29, .call 120 [.t 27, .t 28], none, []⟩,
   ⟨some 30, .call 97 [.t 26, .t 29], none, []⟩,
   ⟨none, .st 8 8 2 (.t 30), none, []⟩])
  (.ret))))⟩
def Tryz.r96 : List (Nat × Nat) := []
theorem Tryz.i96_ok : fnOk Tryz.prog Tryz.r96 Tryz.f96 Tryz.i96 = true := by kernel_rfl

/- pinball/wide.made -/
def Tryz.i97 : IFunc := ⟨2, 29, [.cell 4 2 false],
  .seq (.region false [⟨some 4, .new [.bool false, .sl 0 []] [], none, []⟩])
  (.seq (.region false [⟨some 6, .mov (.t 1), none, []⟩,
   ⟨some 7, .len (.t 6), none, []⟩,
   ⟨some 5, .mov (.t 7), none, []⟩])
  (.seq (.block 0 (.loop (.seq (.seq (.region false [⟨some 8, .mov (.t 5), none, []⟩,
   ⟨some 9, .bin .gtr (.t 8) (.c (.int .i64 0)), none, []⟩,
   ⟨some 10, .mov (.t 9), none, []⟩,
   ⟨some 11, .mov (.t 1), some (10, true), []⟩,
   ⟨some 12, .mov (.t 5), some (10, true), []⟩,
   ⟨some 13, .bin .sub (.t 12) (.c (.int .i64 1)), some (10, true), []⟩,
   ⟨some 14, .ixa 11 (.t 13) 1, some (10, true), []⟩,
   ⟨some 15, .ld 14 14 1 true, some (10, true), []⟩,
   ⟨some 16, .bin .eql (.t 15) (.c (.int .u32 0)), some (10, true), []⟩,
   ⟨some 17, .pick (.t 10) (.t 16) (.c (.bool false)), none, []⟩])
  (.cond (.t 17) (.skip)
  (.exit 0)))
  (.block 1 (.region false [⟨some 18, .mov (.t 5), none, []⟩,
   ⟨some 19, .bin .sub (.t 18) (.c (.int .i64 1)), none, []⟩,
   ⟨some 5, .mov (.t 19), none, []⟩])))))
  (.seq (.seq (.region false [⟨some 20, .mov (.t 5), none, []⟩,
   ⟨some 21, .bin .eql (.t 20) (.c (.int .i64 0)), none, []⟩])
  (.cond (.t 21) (.seq (.region false [⟨some 22, .bld [.bool false, .sl 0 []] [], none, []⟩,
   ⟨none, .st 4 4 2 (.t 22), none, []⟩])
  (.ret))
  (.skip)))
  (.seq (.region false [⟨some 23, .mov (.t 0), none, []⟩,
   ⟨some 24, .mov (.t 1), none, []⟩,
   ⟨some 25, .mov (.t 5), none, []⟩,
   ⟨some 26, .mov (.t 5), none, []⟩,
   ⟨some 27, .sli (.t 24) none (some (.t 25)) (some (.t 26)) 1, none, []⟩,
   ⟨some 28, .bld [.bool false, .sl 0 []] [(0, 1, .t 23), (1, 1, .t 27)], none, []⟩,
   ⟨none, .st 4 4 2 (.t 28), none, []⟩])
  (.ret)))))⟩
def Tryz.r97 : List (Nat × Nat) := []
theorem Tryz.i97_ok : fnOk Tryz.prog Tryz.r97 Tryz.f97 Tryz.i97 = true := by kernel_rfl

/- pinball/wide.Trim -/
def Tryz.i98 : IFunc := ⟨1, 14, [.cell 2 2 false],
  .seq (.region false [⟨some 1, .box (.t 0) [], none, []⟩,
   ⟨some 2, .new [.bool false, .sl 0 []] [], none, []⟩])
  (.seq (.region false [⟨some 6, .ld 1 1 2 false, none, []⟩,
   ⟨some 7, .call 95 [.t 6], none, []⟩,
   ⟨some 5, .mov (.t 7), none, []⟩,
   ⟨some 8, .ext (.t 5) 0, none, []⟩,
   ⟨some 9, .ext (.t 5) 1, none, []⟩,
   ⟨some 3, .mov (.t 8), none, []⟩,
   ⟨some 4, .mov (.t 9), none, []⟩])
  (.seq (.region false [⟨some 10, .mov (.t 3), none, []⟩,
   ⟨some 11, .mov (.t 4), none, []⟩,
   ⟨some 12, .apd false (.c (.nil)) (.t 11) 1, none, []⟩,
   ⟨some 13, .call 97 [.t 10, .t 12], none, []⟩,
   ⟨none, .st 2 2 2 (.t 13), none, []⟩])
  (.ret)))⟩
def Tryz.r98 : List (Nat × Nat) := []
theorem Tryz.i98_ok : fnOk Tryz.prog Tryz.r98 Tryz.f98 Tryz.i98 = true := by kernel_rfl

/- pinball/wide.Neg -/
def Tryz.i99 : IFunc := ⟨1, 15, [.cell 2 2 false],
  .seq (.region false [⟨some 1, .box (.t 0) [], none, []⟩,
   ⟨some 2, .new [.bool false, .sl 0 []] [], none, []⟩])
  (.seq (.region false [⟨some 6, .ld 1 1 2 false, none, []⟩,
   ⟨some 7, .call 95 [.t 6], none, []⟩,
   ⟨some 5, .mov (.t 7), none, []⟩,
   ⟨some 8, .ext (.t 5) 0, none, []⟩,
   ⟨some 9, .ext (.t 5) 1, none, []⟩,
   ⟨some 3, .mov (.t 8), none, []⟩,
   ⟨some 4, .mov (.t 9), none, []⟩])
  (.seq (.region false [⟨some 10, .mov (.t 3), none, []⟩,
   ⟨some 11, .un .not (.t 10), none, []⟩,
   ⟨some 12, .mov (.t 4), none, []⟩,
   ⟨some 13, .apd false (.c (.nil)) (.t 12) 1, none, []⟩,
   ⟨some 14, .call 97 [.t 11, .t 13], none, []⟩,
   ⟨none, .st 2 2 2 (.t 14), none, []⟩])
  (.ret)))⟩
def Tryz.r99 : List (Nat × Nat) := []
theorem Tryz.i99_ok : fnOk Tryz.prog Tryz.r99 Tryz.f99 Tryz.i99 = true := by kernel_rfl

/- pinball/pinballref01.addMag -/
def Tryz.i100 : IFunc := ⟨2, 54, [.tmp 4],
  .seq (.region false [⟨some 4, .nlo 1, none, []⟩])
  (.seq (.region false [⟨some 5, .nlo 1, none, []⟩])
  (.seq (.region false [⟨some 6, .mov (.c (.int .u64 0)), none, []⟩])
  (.seq (.seq (.region false [⟨some 7, .mov (.c (.int .i64 0)), none, []⟩])
  (.block 0 (.loop (.seq (.seq (.region false [⟨some 8, .mov (.t 7), none, []⟩,
   ⟨some 9, .mov (.t 0), none, []⟩,
   ⟨some 10, .len (.t 9), none, []⟩,
   ⟨some 11, .bin .lss (.t 8) (.t 10), none, []⟩,
   ⟨some 12, .mov (.t 11), none, []⟩,
   ⟨some 13, .mov (.t 7), some (12, false), []⟩,
   ⟨some 14, .mov (.t 1), some (12, false), []⟩,
   ⟨some 15, .len (.t 14), some (12, false), []⟩,
   ⟨some 16, .bin .lss (.t 13) (.t 15), some (12, false), []⟩,
   ⟨some 17, .pick (.t 12) (.c (.bool true)) (.t 16), none, []⟩,
   ⟨some 18, .mov (.t 17), none, []⟩,
   ⟨some 19, .mov (.t 6), some (18, false), []⟩,
   ⟨some 20, .bin .gtr (.t 19) (.c (.int .u64 0)), some (18, false), []⟩,
   ⟨some 21, .pick (.t 18) (.c (.bool true)) (.t 20), none, []⟩])
  (.cond (.t 21) (.skip)
  (.exit 0)))
  (.seq (.block 1 (.seq (.seq (.region false [⟨some 24, .mov (.t 7), none, []⟩,
   ⟨some 25, .mov (.t 0), none, []⟩,
   ⟨some 26, .len (.t 25), none, []⟩,
   ⟨some 27, .bin .lss (.t 24) (.t 26), none, []⟩])
  (.cond (.t 27) (.region false [⟨some 28, .mov (.t 6), none, []⟩,
   ⟨some 29, .mov (.t 0), none, []⟩,
   ⟨some 30, .mov (.t 7), none, []⟩,
   ⟨some 31, .ixa 29 (.t 30) 1, none, []⟩,
   ⟨some 32, .ld 31 31 1 true, none, []⟩,
   ⟨some 33, .cv .u64 (.t 32), none, []⟩,
   ⟨some 34, .bin .add (.t 28) (.t 33), none, []⟩,
   ⟨some 6, .mov (.t 34), none, []⟩])
  (.skip)))
  (.seq (.seq (.region false [⟨some 35, .mov (.t 7), none, []⟩,
   ⟨some 36, .mov (.t 1), none, []⟩,
   ⟨some 37, .len (.t 36), none, []⟩,
   ⟨some 38, .bin .lss (.t 35) (.t 37), none, []⟩])
  (.cond (.t 38) (.region false [⟨some 39, .mov (.t 6), none, []⟩,
   ⟨some 40, .mov (.t 1), none, []⟩,
   ⟨some 41, .mov (.t 7), none, []⟩,
   ⟨some 42, .ixa 40 (.t 41) 1, none, []⟩,
   ⟨some 43, .ld 42 42 1 true, none, []⟩,
   ⟨some 44, .cv .u64 (.t 43), none, []⟩,
   ⟨some 45, .bin .add (.t 39) (.t 44), none, []⟩,
   ⟨some 6, .mov (.t 45), none, []⟩])
  (.skip)))
  (.seq (.region false [⟨some 46, .tra 5, none, []⟩,
   ⟨some 47, .mov (.t 6), none, []⟩,
   ⟨some 48, .cv .u32 (.t 47), none, []⟩,
   ⟨some 49, .bls 1 [.int .u32 0] [(0, 1, .t 48)], none, []⟩,
   ⟨some 50, .apd true (.t 46) (.t 49) 1, none, []⟩,
   ⟨some 5, .tra 50, none, []⟩])
  (.region false [⟨some 51, .mov (.t 6), none, []⟩,
   ⟨some 52, .bin .shr (.t 51) (.c (.int .u64 32)), none, []⟩,
   ⟨some 6, .mov (.t 52), none, []⟩])))))
  (.region false [⟨some 22, .mov (.t 7), none, []⟩,
   ⟨some 23, .bin .add (.t 22) (.c (.int .i64 1)), none, []⟩,
   ⟨some 7, .mov (.t 23), none, []⟩]))))))
  (.seq (.region false [⟨some 53, .tra 5, none, []⟩,
   ⟨some 4, .tra 53, none, []⟩])
  (.ret)))))⟩
def Tryz.r100 : List (Nat × Nat) := []
theorem Tryz.i100_ok : fnOk Tryz.prog Tryz.r100 Tryz.f100 Tryz.i100 = true := by kernel_rfl

/- pinball/pinballref01.subMag -/
def Tryz.i101 : IFunc := ⟨2, 42, [.tmp 4],
  .seq (.region false [⟨some 4, .nlo 1, none, []⟩])
  (.seq (.region false [⟨some 5, .nlo 1, none, []⟩])
  (.seq (.region false [⟨some 6, .mov (.c (.int .u64 0)), none, []⟩])
  (.seq (.seq (.region false [⟨some 7, .mov (.c (.int .i64 0)), none, []⟩])
  (.block 0 (.loop (.seq (.seq (.region false [⟨some 10, .mov (.t 7), none, []⟩,
   ⟨some 11, .mov (.t 0), none, []⟩,
   ⟨some 12, .len (.t 11), none, []⟩,
   ⟨some 13, .bin .lss (.t 10) (.t 12), none, []⟩])
  (.cond (.t 13) (.skip)
  (.exit 0)))
  (.seq (.block 1 (.seq (.region false [⟨some 8, .mov (.c (.int .u64 0)), none, []⟩])
  (.seq (.seq (.region false [⟨some 16, .mov (.t 7), none, []⟩,
   ⟨some 17, .mov (.t 1), none, []⟩,
   ⟨some 18, .len (.t 17), none, []⟩,
   ⟨some 19, .bin .lss (.t 16) (.t 18), none, []⟩])
  (.cond (.t 19) (.region false [⟨some 20, .mov (.t 1), none, []⟩,
   ⟨some 21, .mov (.t 7), none, []⟩,
   ⟨some 22, .ixa 20 (.t 21) 1, none, []⟩,
   ⟨some 23, .ld 22 22 1 true, none, []⟩,
   ⟨some 24, .cv .u64 (.t 23), none, []⟩,
   ⟨some 8, .mov (.t 24), none, []⟩])
  (.skip)))
  (.seq (.region false [⟨some 25, .mov (.t 0), none, []⟩,
   ⟨some 26, .mov (.t 7), none, []⟩,
   ⟨some 27, .ixa 25 (.t 26) 1, none, []⟩,
   ⟨some 28, .ld 27 27 1 true, none, []⟩,
   ⟨some 29, .cv .u64 (.t 28), none, []⟩,
   ⟨some 30, .mov (.t 8), none, []⟩,
   ⟨some 31, .bin .sub (.t 29) (.t 30), none, []⟩,
   ⟨some 32, .mov (.t 6), none, []⟩,
   ⟨some 33, .bin .sub (.t 31) (.t 32), none, []⟩,
   ⟨some 9, .mov (.t 33), none, []⟩])
  (.seq (.region false [⟨some 34, .tra 5, none, []⟩,
   ⟨some 35, .mov (.t 9), none, []⟩,
   ⟨some 36, .cv .u32 (.t 35), none, []⟩,
   ⟨some 37, .bls 1 [.int .u32 0] [(0, 1, .t 36)], none, []⟩,
   ⟨some 38, .apd true (.t 34) (.t 37) 1, none, []⟩,
   ⟨some 5, .tra 38, none, []⟩])
  (.region false [⟨some 39, .mov (.t 9), none, []⟩,
   ⟨some 40, .bin .shr (.t 39) (.c (.int .u64 63)), none, []⟩,
   ⟨some 6, .mov (.t 40), none, []⟩]))))))
  (.region false [⟨some 14, .mov (.t 7), none, []⟩,
   ⟨some 15, .bin .add (.t 14) (.c (.int .i64 1)), none, []⟩,
   ⟨some 7, .mov (.t 15), none, []⟩]))))))
  (.seq (.region false [⟨some 41, .tra 5, none, []⟩,
   ⟨some 4, .tra 41, none, []⟩])
  (.ret)))))⟩
def Tryz.r101 : List (Nat × Nat) := []
theorem Tryz.i101_ok : fnOk Tryz.prog Tryz.r101 Tryz.f101 Tryz.i101 = true := by kernel_rfl

/- pinball/pinballref05.choose -/
def Tryz.i102 : IFunc := ⟨2, 21, [.tmp 4],
  .seq (.region false [⟨some 4, .mov (.c (.int .i64 0)), none, []⟩])
  (.seq (.region false [⟨some 5, .mov (.c (.int .i64 1)), none, []⟩])
  (.seq (.seq (.region false [⟨some 6, .mov (.c (.int .i64 0)), none, []⟩])
  (.block 0 (.loop (.seq (.seq (.region false [⟨some 7, .mov (.t 6), none, []⟩,
   ⟨some 8, .mov (.t 1), none, []⟩,
   ⟨some 9, .bin .lss (.t 7) (.t 8), none, []⟩])
  (.cond (.t 9) (.skip)
  (.exit 0)))
  (.seq (.block 1 (.region false [⟨some 12, .mov (.t 5), none, []⟩,
   ⟨some 13, .mov (.t 0), none, []⟩,
   ⟨some 14, .mov (.t 6), none, []⟩,
   ⟨some 15, .bin .sub (.t 13) (.t 14), none, []⟩,
   ⟨some 16, .bin .mul (.t 12) (.t 15), none, []⟩,
   ⟨some 17, .mov (.t 6), none, []⟩,
   ⟨some 18, .bin .add (.t 17) (.c (.int .i64 1)), none, []⟩,
   ⟨some 19, .bin .quo (.t 16) (.t 18), none, []⟩,
   ⟨some 5, .mov (.t 19), none, []⟩]))
  (.region false [⟨some 10, .mov (.t 6), none, []⟩,
   ⟨some 11, .bin .add (.t 10) (.c (.int .i64 1)), none, []⟩,
   ⟨some 6, .mov (.t 11), none, []⟩]))))))
  (.seq (.region false [⟨some 20, .mov (.t 5), none, []⟩,
   ⟨some 4, .mov (.t 20), none, []⟩])
  (.ret))))⟩
def Tryz.r102 : List (Nat × Nat) := []
theorem Tryz.i102_ok : fnOk Tryz.prog Tryz.r102 Tryz.f102 Tryz.i102 = true := by kernel_rfl

/- pinball/pinballref05.common -/
def Tryz.i103 : IFunc := ⟨2, 12, [.tmp 4],
  .seq (.region false [⟨some 4, .mov (.c (.int .i64 0)), none, []⟩])
  (.seq (.block 0 (.loop (.seq (.seq (.region false [⟨some 5, .mov (.t 1), none, []⟩,
   ⟨some 6, .bin .gtr (.t 5) (.c (.int .i64 0)), none, []⟩])
  (.cond (.t 6) (.skip)
  (.exit 0)))
  (.block 1 (.region true [⟨some 7, .mov (.t 1), none, []⟩,
   ⟨some 8, .mov (.t 0), none, []⟩,
   ⟨some 9, .mov (.t 1), none, []⟩,
   ⟨some 10, .bin .rem (.t 8) (.t 9), none, []⟩,
   ⟨some 0, .mov (.t 7), none, []⟩,
   ⟨some 1, .mov (.t 10), none, []⟩])))))
  (.seq (.region false [⟨some 11, .mov (.t 0), none, []⟩,
   ⟨some 4, .mov (.t 11), none, []⟩])
  (.ret)))⟩
def Tryz.r103 : List (Nat × Nat) := []
theorem Tryz.i103_ok : fnOk Tryz.prog Tryz.r103 Tryz.f103 Tryz.i103 = true := by kernel_rfl

/- pinball/pinballref05.shape -/
def Tryz.i104 : IFunc := ⟨1, 45, [.tmp 2, .tmp 3, .tmp 4],
  .seq (.region false [⟨some 2, .mov (.c (.int .i64 0)), none, []⟩,
   ⟨some 3, .mov (.c (.int .i64 0)), none, []⟩,
   ⟨some 4, .mov (.c (.bool false)), none, []⟩])
  (.seq (.region false [⟨some 5, .mov (.c (.int .i64 0)), none, []⟩,
   ⟨some 6, .mov (.c (.int .i64 0)), none, []⟩,
   ⟨some 7, .mov (.c (.int .i64 0)), none, []⟩])
  (.seq (.region false [⟨some 8, .mov (.c (.bool false)), none, []⟩])
  (.seq (.seq (.region false [⟨some 9, .mov (.c (.int .i64 0)), none, []⟩])
  (.block 0 (.loop (.seq (.seq (.region false [⟨some 11, .mov (.t 9), none, []⟩,
   ⟨some 12, .mov (.t 0), none, []⟩,
   ⟨some 13, .len (.t 12), none, []⟩,
   ⟨some 14, .bin .lss (.t 11) (.t 13), none, []⟩])
  (.cond (.t 14) (.skip)
  (.exit 0)))
  (.seq (.block 1 (.seq (.region false [⟨some 17, .mov (.t 0), none, []⟩,
   ⟨some 18, .mov (.t 9), none, []⟩,
   ⟨some 19, .ixa 17 (.t 18) 2, none, []⟩,
   ⟨some 20, .ld 19 19 2 false, none, []⟩,
   ⟨some 21, .call 55 [.t 20], none, []⟩,
   ⟨some 10, .mov (.t 21), none, []⟩])
  (.seq (.seq (.region false [⟨some 22, .mov (.t 10), none, []⟩,
   ⟨some 23, .bin .eql (.t 22) (.c (.int .i64 0)), none, []⟩])
  (.cond (.t 23) (.exit 1)
  (.skip)))
  (.seq (.seq (.region false [⟨some 24, .mov (.t 5), none, []⟩,
   ⟨some 25, .bin .eql (.t 24) (.c (.int .i64 0)), none, []⟩])
  (.cond (.t 25) (.region false [⟨some 26, .mov (.t 10), none, []⟩,
   ⟨some 5, .mov (.t 26), none, []⟩])
  (.skip)))
  (.seq (.seq (.region false [⟨some 27, .mov (.t 6), none, []⟩,
   ⟨some 28, .bin .neq (.t 27) (.c (.int .i64 0)), none, []⟩,
   ⟨some 29, .mov (.t 28), none, []⟩,
   ⟨some 30, .mov (.t 10), some (29, true), []⟩,
   ⟨some 31, .mov (.t 6), some (29, true), []⟩,
   ⟨some 32, .bin .neq (.t 30) (.t 31), some (29, true), []⟩,
   ⟨some 33, .pick (.t 29) (.t 32) (.c (.bool false)), none, []⟩])
  (.cond (.t 33) (.region false [⟨some 34, .mov (.t 7), none, []⟩,
   ⟨some 35, .bin .add (.t 34) (.c (.int .i64 1)), none, []⟩,
   ⟨some 7, .mov (.t 35), none, []⟩])
  (.skip)))
  (.seq (.region false [⟨some 36, .mov (.t 10), none, []⟩,
   ⟨some 6, .mov (.t 36), none, []⟩])
  (.region false [⟨some 37, .mov (.t 8), none, []⟩,
   ⟨some 38, .mov (.t 37), none, []⟩,
   ⟨some 39, .mov (.t 10), some (38, false), []⟩,
   ⟨some 40, .bin .gtr (.t 39) (.c (.int .i64 0)), some (38, false), []⟩,
   ⟨some 41, .pick (.t 38) (.c (.bool true)) (.t 40), none, []⟩,
   ⟨some 8, .mov (.t 41), none, []⟩])))))))
  (.region false [⟨some 15, .mov (.t 9), none, []⟩,
   ⟨some 16, .bin .add (.t 15) (.c (.int .i64 1)), none, []⟩,
   ⟨some 9, .mov (.t 16), none, []⟩]))))))
  (.seq (.region false [⟨some 42, .mov (.t 5), none, []⟩,
   ⟨some 43, .mov (.t 7), none, []⟩,
   ⟨some 44, .mov (.t 8), none, []⟩,
   ⟨some 2, .mov (.t 42), none, []⟩,
   ⟨some 3, .mov (.t 43), none, []⟩,
   ⟨some 4, .mov (.t 44), none, []⟩])
  (.ret)))))⟩
def Tryz.r104 : List (Nat × Nat) := []
theorem Tryz.i104_ok : fnOk Tryz.prog Tryz.r104 Tryz.f104 Tryz.i104 = true := by kernel_rfl

/- pinball/pinballref04.Exact -/
def Tryz.i105 : IFunc := ⟨1, 19, [.cell 2 7 false],
  .seq (.region false [⟨some 1, .box (.t 0) [], none, []⟩,
   ⟨some 2, .new [.sl 0 [], .bool false, .sl 0 [], .int .i64 0, .bool false, .sl 0 [], .int .i64 0] [], none, []⟩])
  (.seq (.region false [⟨some 5, .ld 1 1 3 false, none, []⟩,
   ⟨some 6, .call 121 [.t 5], none, []⟩,
   ⟨some 3, .new [.bool false, .sl 0 [], .int .i64 0] [7, 11], none, []⟩,
   ⟨none, .st 3 3 3 (.t 6), none, []⟩])
  (.seq (.region true [⟨some 7, .adr 3 3 0, none, []⟩,
   ⟨some 8, .ld 7 3 2 false, none, []⟩,
   ⟨some 9, .call 117 [.t 8], none, []⟩,
   ⟨some 10, .call 34 [.c (.int .i64 1)], none, []⟩,
   ⟨some 11, .adr 3 3 2, none, []⟩,
   ⟨some 12, .ld 11 3 1 true, none, []⟩,
   ⟨some 13, .call 81 [.t 10, .t 12], none, []⟩,
   ⟨some 14, .bls 2 [.bool false, .sl 0 [], .bool false, .sl 0 []] [(0, 2, .t 9), (2, 2, .t 13)], none, []⟩,
   ⟨some 4, .mov (.t 14), none, []⟩])
  (.seq (.region false [⟨some 15, .mov (.t 4), none, []⟩,
   ⟨some 16, .ld 3 3 3 false, none, []⟩,
   ⟨some 17, .ld 3 3 3 false, none, []⟩,
   ⟨some 18, .bld [.sl 0 [], .bool false, .sl 0 [], .int .i64 0, .bool false, .sl 0 [], .int .i64 0] [(0, 1, .t 15), (1, 3, .t 16), (4, 3, .t 17)], none, []⟩,
   ⟨none, .st 2 2 7 (.t 18), none, []⟩])
  (.ret))))⟩
def Tryz.r105 : List (Nat × Nat) := [(7, 3), (11, 3)]
theorem Tryz.i105_ok : fnOk Tryz.prog Tryz.r105 Tryz.f105 Tryz.i105 = true := by kernel_rfl

/- pinball/pinballref05.halves -/
def Tryz.i106 : IFunc := ⟨1, 74, [.tmp 2, .tmp 3],
  .seq (.region false [⟨some 2, .nlo 2, none, []⟩,
   ⟨some 3, .nlo 2, none, []⟩])
  (.seq (.region false [⟨some 10, .mov (.t 0), none, []⟩,
   ⟨some 11, .len (.t 10), none, []⟩,
   ⟨some 12, .bin .sub (.t 11) (.c (.int .i64 1)), none, []⟩,
   ⟨some 4, .mov (.t 12), none, []⟩])
  (.seq (.region false [⟨some 13, .mov (.t 0), none, []⟩,
   ⟨some 14, .apd true (.c (.nil)) (.t 13) 2, none, []⟩,
   ⟨some 5, .tra 14, none, [28, 29, 40, 44, 59, 61, 63, 65, 68, 71]⟩])
  (.seq (.region true [⟨some 15, .mov (.t 4), none, []⟩,
   ⟨some 16, .bin .add (.t 15) (.c (.int .i64 1)), none, []⟩,
   ⟨some 17, .mks [.bool false, .sl 0 []] (.t 16), none, []⟩,
   ⟨some 18, .mov (.t 4), none, []⟩,
   ⟨some 19, .bin .add (.t 18) (.c (.int .i64 1)), none, []⟩,
   ⟨some 20, .mks [.bool false, .sl 0 []] (.t 19), none, []⟩,
   ⟨some 6, .tra 17, none, [26, 35]⟩,
   ⟨some 7, .tra 20, none, [36, 50]⟩])
  (.seq (.seq (.region false [⟨some 8, .mov (.c (.int .i64 0)), none, []⟩])
  (.block 0 (.loop (.seq (.seq (.region false [⟨some 21, .mov (.t 8), none, []⟩,
   ⟨some 22, .mov (.t 4), none, []⟩,
   ⟨some 23, .bin .leq (.t 21) (.t 22), none, []⟩])
  (.cond (.t 23) (.skip)
  (.exit 0)))
  (.seq (.block 1 (.seq (.region false [⟨some 26, .cpy 6, none, []⟩,
   ⟨some 27, .mov (.t 8), none, []⟩,
   ⟨some 28, .cpy 5, none, []⟩,
   ⟨some 29, .ixo 28 5 (.c (.int .i64 0)) 2, none, []⟩,
   ⟨some 30, .ld 29 5 2 false, none, []⟩,
   ⟨some 31, .mov (.t 4), none, []⟩,
   ⟨some 32, .mov (.t 8), none, []⟩,
   ⟨some 33, .bin .sub (.t 31) (.t 32), none, []⟩,
   ⟨some 34, .call 81 [.t 30, .t 33], none, []⟩,
   ⟨some 35, .ixo 26 6 (.t 27) 2, none, []⟩,
   ⟨none, .st 35 6 2 (.t 34), none, []⟩])
  (.seq (.region false [⟨some 36, .cpy 7, none, []⟩,
   ⟨some 37, .mov (.t 4), none, []⟩,
   ⟨some 38, .mov (.t 8), none, []⟩,
   ⟨some 39, .bin .sub (.t 37) (.t 38), none, []⟩,
   ⟨some 40, .cpy 5, none, []⟩,
   ⟨some 41, .mov (.t 4), none, []⟩,
   ⟨some 42, .mov (.t 8), none, []⟩,
   ⟨some 43, .bin .sub (.t 41) (.t 42), none, []⟩,
   ⟨some 44, .ixo 40 5 (.t 43) 2, none, []⟩,
   ⟨some 45, .ld 44 5 2 false, none, []⟩,
   ⟨some 46, .mov (.t 4), none, []⟩,
   ⟨some 47, .mov (.t 8), none, []⟩,
   ⟨some 48, .bin .sub (.t 46) (.t 47), none, []⟩,
   ⟨some 49, .call 81 [.t 45, .t 48], none, []⟩,
   ⟨some 50, .ixo 36 7 (.t 39) 2, none, []⟩,
   ⟨none, .st 50 7 2 (.t 49), none, []⟩])
  (.seq (.region false [⟨some 9, .mov (.c (.int .i64 0)), none, []⟩])
  (.block 2 (.loop (.seq (.seq (.region false [⟨some 51, .mov (.t 9), none, []⟩,
   ⟨some 52, .bin .add (.t 51) (.c (.int .i64 1)), none, []⟩,
   ⟨some 53, .mov (.t 4), none, []⟩,
   ⟨some 54, .mov (.t 8), none, []⟩,
   ⟨some 55, .bin .sub (.t 53) (.t 54), none, []⟩,
   ⟨some 56, .bin .leq (.t 52) (.t 55), none, []⟩])
  (.cond (.t 56) (.skip)
  (.exit 2)))
  (.seq (.block 3 (.region true [⟨some 59, .cpy 5, none, []⟩,
   ⟨some 60, .mov (.t 9), none, []⟩,
   ⟨some 61, .cpy 5, none, []⟩,
   ⟨some 62, .mov (.t 9), none, []⟩,
   ⟨some 63, .ixo 61 5 (.t 62) 2, none, []⟩,
   ⟨some 64, .ld 63 5 2 false, none, []⟩,
   ⟨some 65, .cpy 5, none, []⟩,
   ⟨some 66, .mov (.t 9), none, []⟩,
   ⟨some 67, .bin .add (.t 66) (.c (.int .i64 1)), none, []⟩,
   ⟨some 68, .ixo 65 5 (.t 67) 2, none, []⟩,
   ⟨some 69, .ld 68 5 2 false, none, []⟩,
   ⟨some 70, .call 80 [.t 64, .t 69], none, []⟩,
   ⟨some 71, .ixo 59 5 (.t 60) 2, none, []⟩,
   ⟨none, .st 71 5 2 (.t 70), none, []⟩]))
  (.region false [⟨some 57, .mov (.t 9), none, []⟩,
   ⟨some 58, .bin .add (.t 57) (.c (.int .i64 1)), none, []⟩,
   ⟨some 9, .mov (.t 58), none, []⟩])))))))))
  (.region false [⟨some 24, .mov (.t 8), none, []⟩,
   ⟨some 25, .bin .add (.t 24) (.c (.int .i64 1)), none, []⟩,
   ⟨some 8, .mov (.t 25), none, []⟩]))))))
  (.seq (.region false [⟨some 72, .tra 6, none, []⟩,
   ⟨some 73, .tra 7, none, []⟩,
   ⟨some 2, .tra 72, none, []⟩,
   ⟨some 3, .tra 73, none, []⟩])
  (.ret))))))⟩
def Tryz.r106 : List (Nat × Nat) := [(26, 6), (28, 5), (29, 5), (35, 6), (36, 7), (40, 5), (44, 5), (50, 7), (59, 5), (61, 5), (63, 5), (65, 5), (68, 5), (71, 5)]
theorem Tryz.i106_ok : fnOk Tryz.prog Tryz.r106 Tryz.f106 Tryz.i106 = true := by kernel_rfl

/- pinball/pinballref05.Times -/
def Tryz.i107 : IFunc := ⟨1, 75, [.tmp 2],
  .seq (.region false [⟨some 2, .nlo 7, none, []⟩])
  (.seq (.region false [⟨some 3, .mov (.c (.sl 0 [])), none, []⟩])
  (.seq (.seq (.region false [⟨some 4, .mov (.c (.int .i64 0)), none, []⟩])
  (.block 0 (.loop (.seq (.seq (.region false [⟨some 10, .mov (.t 4), none, []⟩,
   ⟨some 11, .mov (.t 0), none, []⟩,
   ⟨some 12, .len (.t 11), none, []⟩,
   ⟨some 13, .bin .lss (.t 10) (.t 12), none, []⟩])
  (.cond (.t 13) (.skip)
  (.exit 0)))
  (.seq (.block 1 (.seq (.seq (.region false [⟨some 16, .mov (.t 0), none, []⟩,
   ⟨some 17, .mov (.t 4), none, []⟩,
   ⟨some 18, .ixa 16 (.t 17) 1, none, []⟩,
   ⟨some 19, .ld 18 18 1 true, none, []⟩,
   ⟨some 20, .call 122 [.t 19], none, []⟩,
   ⟨some 21, .bin .lss (.t 20) (.c (.int .i64 1)), none, []⟩])
  (.cond (.t 21) (.exit 1)
  (.skip)))
  (.seq (.region true [⟨some 22, .mov (.t 0), none, []⟩,
   ⟨some 23, .mov (.t 4), none, []⟩,
   ⟨some 24, .ixa 22 (.t 23) 1, none, []⟩,
   ⟨some 25, .ld 24 24 1 true, none, []⟩,
   ⟨some 26, .call 108 [.c (.int .i64 0)], none, []⟩,
   ⟨some 27, .call 108 [.c (.int .i64 1)], none, []⟩,
   ⟨some 28, .call 123 [.t 25, .t 26, .t 27], none, []⟩,
   ⟨some 5, .mov (.t 28), none, []⟩])
  (.seq (.region false [⟨some 6, .mov (.c (.int .i64 0)), none, []⟩])
  (.block 2 (.loop (.seq (.seq (.region false [⟨some 29, .mov (.t 6), none, []⟩,
   ⟨some 30, .mov (.t 5), none, []⟩,
   ⟨some 31, .len (.t 30), none, []⟩,
   ⟨some 32, .bin .lss (.t 29) (.t 31), none, []⟩])
  (.cond (.t 32) (.skip)
  (.exit 2)))
  (.seq (.block 3 (.seq (.region false [⟨some 7, .mov (.c (.int .i64 0)), none, []⟩,
   ⟨some 8, .mov (.c (.bool false)), none, []⟩])
  (.seq (.block 4 (.loop (.seq (.seq (.region false [⟨some 35, .mov (.t 7), none, []⟩,
   ⟨some 36, .mov (.t 3), none, []⟩,
   ⟨some 37, .len (.t 36), none, []⟩,
   ⟨some 38, .bin .lss (.t 35) (.t 37), none, []⟩,
   ⟨some 39, .mov (.t 38), none, []⟩,
   ⟨some 40, .mov (.t 8), some (39, true), []⟩,
   ⟨some 41, .un .not (.t 40), some (39, true), []⟩,
   ⟨some 42, .pick (.t 39) (.t 41) (.c (.bool false)), none, []⟩])
  (.cond (.t 42) (.skip)
  (.exit 4)))
  (.block 5 (.seq (.region true [⟨some 43, .mov (.t 3), none, []⟩,
   ⟨some 44, .mov (.t 7), none, []⟩,
   ⟨some 45, .ixa 43 (.t 44) 7, none, []⟩,
   ⟨some 46, .ld 45 45 7 false, none, []⟩,
   ⟨some 47, .mov (.t 5), none, []⟩,
   ⟨some 48, .mov (.t 6), none, []⟩,
   ⟨some 49, .ixa 47 (.t 48) 7, none, []⟩,
   ⟨some 50, .ld 49 49 7 false, none, []⟩,
   ⟨some 51, .call 59 [.t 46, .t 50], none, []⟩,
   ⟨some 9, .mov (.t 51), none, []⟩])
  (.seq (.region false [⟨some 52, .mov (.t 9), none, []⟩,
   ⟨some 53, .bin .eql (.t 52) (.c (.int .i64 0)), none, []⟩,
   ⟨some 8, .mov (.t 53), none, []⟩])
  (.seq (.seq (.region false [⟨some 54, .mov (.t 9), none, []⟩,
   ⟨some 55, .bin .geq (.t 54) (.c (.int .i64 0)), none, []⟩])
  (.cond (.t 55) (.exit 4)
  (.skip)))
  (.region false [⟨some 56, .mov (.t 7), none, []⟩,
   ⟨some 57, .bin .add (.t 56) (.c (.int .i64 1)), none, []⟩,
   ⟨some 7, .mov (.t 57), none, []⟩]))))))))
  (.seq (.region false [⟨some 58, .mov (.t 8), none, []⟩,
   ⟨some 59, .un .not (.t 58), none, []⟩])
  (.cond (.t 59) (.region true [⟨some 60, .mov (.t 3), none, []⟩,
   ⟨some 61, .mov (.t 7), none, []⟩,
   ⟨some 62, .sli (.t 60) none (some (.t 61)) none 7, none, []⟩,
   ⟨some 63, .apd true (.c (.nil)) (.t 62) 7, none, []⟩,
   ⟨some 64, .mov (.t 5), none, []⟩,
   ⟨some 65, .mov (.t 6), none, []⟩,
   ⟨some 66, .ixa 64 (.t 65) 7, none, []⟩,
   ⟨some 67, .ld 66 66 7 false, none, []⟩,
   ⟨some 68, .bls 1 [.sl 0 [], .bool false, .sl 0 [], .int .i64 0, .bool false, .sl 0 [], .int .i64 0] [(0, 7, .t 67)], none, []⟩,
   ⟨some 69, .apd true (.t 63) (.t 68) 7, none, []⟩,
   ⟨some 70, .mov (.t 3), none, []⟩,
   ⟨some 71, .mov (.t 7), none, []⟩,
   ⟨some 72, .sli (.t 70) (some (.t 71)) none none 7, none, []⟩,
   ⟨some 73, .apd false (.t 69) (.t 72) 7, none, []⟩,
   ⟨some 3, .mov (.t 73), none, []⟩])
  (.skip))))))
  (.region false [⟨some 33, .mov (.t 6), none, []⟩,
   ⟨some 34, .bin .add (.t 33) (.c (.int .i64 1)), none, []⟩,
   ⟨some 6, .mov (.t 34), none, []⟩])))))))))
  (.region false [⟨some 14, .mov (.t 4), none, []⟩,
   ⟨some 15, .bin .add (.t 14) (.c (.int .i64 1)), none, []⟩,
   ⟨some 4, .mov (.t 15), none, []⟩]))))))
  (.seq (.region false [⟨some 74, .mov (.t 3), none, []⟩,
   ⟨some 2, .tra 74, none, []⟩])
  (.ret))))⟩
def Tryz.r107 : List (Nat × Nat) := []
theorem Tryz.i107_ok : fnOk Tryz.prog Tryz.r107 Tryz.f107 Tryz.i107 = true := by kernel_rfl

/- pinball/pinballref05.number -/
def Tryz.i108 : IFunc := ⟨1, 6, [.cell 2 3 false],
  .seq (.region false [⟨some 2, .new [.bool false, .sl 0 [], .int .i64 0] [], none, []⟩])
  (.seq (.region false [⟨some 3, .mov (.t 0), none, []⟩,
   ⟨some 4, .call 34 [.t 3], none, []⟩,
   ⟨some 5, .bld [.bool false, .sl 0 [], .int .i64 0] [(0, 2, .t 4)], none, []⟩,
   ⟨none, .st 2 2 3 (.t 5), none, []⟩])
  (.ret))⟩
def Tryz.r108 : List (Nat × Nat) := []
theorem Tryz.i108_ok : fnOk Tryz.prog Tryz.r108 Tryz.f108 Tryz.i108 = true := by kernel_rfl

/- pinball/pinballref05.positive -/
def Tryz.i109 : IFunc := ⟨2, 26, [.tmp 4],
  .seq (.region false [⟨some 3, .box (.t 1) [19, 21], none, []⟩,
   ⟨some 4, .mov (.c (.bool false)), none, []⟩])
  (.seq (.seq (.region false [⟨some 5, .mov (.c (.int .i64 0)), none, []⟩])
  (.block 0 (.loop (.seq (.seq (.region false [⟨some 7, .mov (.t 5), none, []⟩,
   ⟨some 8, .mov (.t 0), none, []⟩,
   ⟨some 9, .len (.t 8), none, []⟩,
   ⟨some 10, .bin .lss (.t 7) (.t 9), none, []⟩])
  (.cond (.t 10) (.skip)
  (.exit 0)))
  (.seq (.block 1 (.seq (.region false [⟨some 13, .mov (.t 0), none, []⟩,
   ⟨some 14, .mov (.t 5), none, []⟩,
   ⟨some 15, .ixa 13 (.t 14) 1, none, []⟩,
   ⟨some 16, .ld 15 15 1 true, none, []⟩,
   ⟨some 17, .call 54 [.t 16], none, []⟩,
   ⟨some 6, .mov (.t 17), none, []⟩])
  (.seq (.region false [⟨some 18, .mov (.t 6), none, []⟩,
   ⟨some 19, .adr 3 3 0, none, []⟩,
   ⟨some 20, .ld 19 3 2 false, none, []⟩,
   ⟨some 21, .adr 3 3 2, none, []⟩,
   ⟨some 22, .ld 21 3 1 true, none, []⟩,
   ⟨some 23, .call 56 [.t 18, .t 20, .t 22], none, []⟩,
   ⟨some 24, .call 55 [.t 23], none, []⟩,
   ⟨some 25, .bin .leq (.t 24) (.c (.int .i64 0)), none, []⟩])
  (.cond (.t 25) (.seq (.region false [⟨some 4, .mov (.c (.bool false)), none, []⟩])
  (.ret))
  (.skip)))))
  (.region false [⟨some 11, .mov (.t 5), none, []⟩,
   ⟨some 12, .bin .add (.t 11) (.c (.int .i64 1)), none, []⟩,
   ⟨some 5, .mov (.t 12), none, []⟩]))))))
  (.seq (.region false [⟨some 4, .mov (.c (.bool true)), none, []⟩])
  (.ret)))⟩
def Tryz.r109 : List (Nat × Nat) := [(19, 3), (21, 3)]
theorem Tryz.i109_ok : fnOk Tryz.prog Tryz.r109 Tryz.f109 Tryz.i109 = true := by kernel_rfl

/- pinball/pinballref05.between -/
def Tryz.i110 : IFunc := ⟨4, 30, [.cell 8 3 false],
  .seq (.region false [⟨some 4, .box (.t 0) [14], none, []⟩,
   ⟨some 6, .box (.t 2) [17], none, []⟩,
   ⟨some 8, .new [.bool false, .sl 0 [], .int .i64 0] [], none, []⟩])
  (.block 0 (.loop (.block 1 (.seq (.region false [⟨some 11, .call 108 [.c (.int .i64 0)], none, []⟩,
   ⟨some 12, .call 108 [.c (.int .i64 1)], none, []⟩,
   ⟨some 9, .new [.bool false, .sl 0 [], .int .i64 0] [], none, []⟩,
   ⟨some 10, .new [.bool false, .sl 0 [], .int .i64 0] [], none, []⟩,
   ⟨none, .st 9 9 3 (.t 11), none, []⟩,
   ⟨none, .st 10 10 3 (.t 12), none, []⟩])
  (.seq (.seq (.region false [⟨some 13, .mov (.t 1), none, []⟩])
  (.cond (.t 13) (.region false [⟨some 14, .adr 4 4 4, none, []⟩,
   ⟨some 15, .ld 14 4 3 false, none, []⟩,
   ⟨none, .st 9 9 3 (.t 15), none, []⟩])
  (.skip)))
  (.seq (.seq (.region false [⟨some 16, .mov (.t 3), none, []⟩])
  (.cond (.t 16) (.region false [⟨some 17, .adr 6 6 1, none, []⟩,
   ⟨some 18, .ld 17 6 3 false, none, []⟩,
   ⟨none, .st 10 10 3 (.t 18), none, []⟩])
  (.skip)))
  (.seq (.seq (.region false [⟨some 19, .ld 9 9 3 false, none, []⟩,
   ⟨some 20, .ld 10 10 3 false, none, []⟩,
   ⟨some 21, .call 85 [.t 19, .t 20], none, []⟩,
   ⟨some 22, .bin .lss (.t 21) (.c (.int .i64 0)), none, []⟩])
  (.cond (.t 22) (.seq (.region false [⟨some 23, .ld 9 9 3 false, none, []⟩,
   ⟨some 24, .ld 10 10 3 false, none, []⟩,
   ⟨some 25, .call 116 [.t 23, .t 24], none, []⟩,
   ⟨none, .st 8 8 3 (.t 25), none, []⟩])
  (.ret))
  (.skip)))
  (.region true [⟨some 26, .ld 4 4 7 false, none, []⟩,
   ⟨some 27, .call 90 [.t 26], none, []⟩,
   ⟨some 28, .ld 6 6 7 false, none, []⟩,
   ⟨some 29, .call 90 [.t 28], none, []⟩,
   ⟨none, .st 4 4 7 (.t 27), none, []⟩,
   ⟨none, .st 6 6 7 (.t 29), none, []⟩]))))))))⟩
def Tryz.r110 : List (Nat × Nat) := [(14, 4), (17, 6)]
theorem Tryz.i110_ok : fnOk Tryz.prog Tryz.r110 Tryz.f110 Tryz.i110 = true := by kernel_rfl

/- pinball/pinballref04.zero -/
def Tryz.i111 : IFunc := ⟨2, 13, [.tmp 4],
  .seq (.region false [⟨some 3, .box (.t 1) [6, 8], none, []⟩,
   ⟨some 4, .mov (.c (.bool false)), none, []⟩])
  (.seq (.region false [⟨some 5, .mov (.t 0), none, []⟩,
   ⟨some 6, .adr 3 3 0, none, []⟩,
   ⟨some 7, .ld 6 3 2 false, none, []⟩,
   ⟨some 8, .adr 3 3 2, none, []⟩,
   ⟨some 9, .ld 8 3 1 true, none, []⟩,
   ⟨some 10, .call 56 [.t 5, .t 7, .t 9], none, []⟩,
   ⟨some 11, .call 55 [.t 10], none, []⟩,
   ⟨some 12, .bin .eql (.t 11) (.c (.int .i64 0)), none, []⟩,
   ⟨some 4, .mov (.t 12), none, []⟩])
  (.ret))⟩
def Tryz.r111 : List (Nat × Nat) := [(6, 3), (8, 3)]
theorem Tryz.i111_ok : fnOk Tryz.prog Tryz.r111 Tryz.f111 Tryz.i111 = true := by kernel_rfl

/- pinball/pinballref03.Roots -/
def Tryz.i112 : IFunc := ⟨3, 17, [.tmp 6],
  .seq (.region false [⟨some 4, .box (.t 1) [], none, []⟩,
   ⟨some 5, .box (.t 2) [], none, []⟩,
   ⟨some 6, .mov (.c (.int .i64 0)), none, []⟩])
  (.seq (.region false [⟨some 8, .mov (.t 0), none, []⟩,
   ⟨some 9, .call 124 [.t 8], none, []⟩,
   ⟨some 7, .mov (.t 9), none, []⟩])
  (.seq (.region true [⟨some 10, .mov (.t 7), none, []⟩,
   ⟨some 11, .ld 4 4 3 false, none, []⟩,
   ⟨some 12, .call 125 [.t 10, .t 11], none, []⟩,
   ⟨some 13, .mov (.t 7), none, []⟩,
   ⟨some 14, .ld 5 5 3 false, none, []⟩,
   ⟨some 15, .call 125 [.t 13, .t 14], none, []⟩,
   ⟨some 16, .bin .sub (.t 12) (.t 15), none, []⟩,
   ⟨some 6, .mov (.t 16), none, []⟩])
  (.ret)))⟩
def Tryz.r112 : List (Nat × Nat) := []
theorem Tryz.i112_ok : fnOk Tryz.prog Tryz.r112 Tryz.f112 Tryz.i112 = true := by kernel_rfl

/- pinball/pinballref02.Prim -/
def Tryz.i113 : IFunc := ⟨1, 34, [.tmp 2],
  .seq (.region false [⟨some 2, .nlo 2, none, []⟩])
  (.seq (.region false [⟨some 8, .mov (.t 0), none, []⟩,
   ⟨some 9, .call 126 [.t 8], none, []⟩,
   ⟨some 3, .new [.bool false, .sl 0 []] [], none, []⟩,
   ⟨none, .st 3 3 2 (.t 9), none, []⟩])
  (.seq (.seq (.region false [⟨some 10, .ld 3 3 2 false, none, []⟩,
   ⟨some 11, .call 55 [.t 10], none, []⟩,
   ⟨some 12, .bin .eql (.t 11) (.c (.int .i64 0)), none, []⟩])
  (.cond (.t 12) (.seq (.region false [⟨some 2, .nlo 2, none, []⟩])
  (.ret))
  (.skip)))
  (.seq (.region false [⟨some 4, .nlo 2, none, []⟩])
  (.seq (.seq (.region false [⟨some 5, .mov (.c (.int .i64 0)), none, []⟩])
  (.block 0 (.loop (.seq (.seq (.region false [⟨some 13, .mov (.t 5), none, []⟩,
   ⟨some 14, .mov (.t 0), none, []⟩,
   ⟨some 15, .len (.t 14), none, []⟩,
   ⟨some 16, .bin .lss (.t 13) (.t 15), none, []⟩])
  (.cond (.t 16) (.skip)
  (.exit 0)))
  (.seq (.block 1 (.seq (.region true [⟨some 20, .mov (.t 0), none, []⟩,
   ⟨some 21, .mov (.t 5), none, []⟩,
   ⟨some 22, .ixa 20 (.t 21) 2, none, []⟩,
   ⟨some 23, .ld 22 22 2 false, none, []⟩,
   ⟨some 24, .ld 3 3 2 false, none, []⟩,
   ⟨some 25, .call 127 [.t 23, .t 24], none, []⟩,
   ⟨some 19, .mov (.t 25), none, []⟩,
   ⟨some 26, .ext (.t 19) 0, none, []⟩,
   ⟨some 27, .ext (.t 19) 1, none, []⟩,
   ⟨some 6, .new [.bool false, .sl 0 []] [], none, []⟩,
   ⟨some 7, .new [.bool false, .sl 0 []] [], none, []⟩,
   ⟨none, .st 6 6 2 (.t 26), none, []⟩,
   ⟨none, .st 7 7 2 (.t 27), none, []⟩])
  (.region false [⟨some 28, .tra 4, none, []⟩,
   ⟨some 29, .ld 6 6 2 false, none, []⟩,
   ⟨some 30, .bls 1 [.bool false, .sl 0 []] [(0, 2, .t 29)], none, []⟩,
   ⟨some 31, .apd true (.t 28) (.t 30) 2, none, []⟩,
   ⟨some 4, .tra 31, none, []⟩])))
  (.region false [⟨some 17, .mov (.t 5), none, []⟩,
   ⟨some 18, .bin .add (.t 17) (.c (.int .i64 1)), none, []⟩,
   ⟨some 5, .mov (.t 18), none, []⟩]))))))
  (.seq (.region false [⟨some 32, .frz 4, none, []⟩,
   ⟨some 33, .clo 54 [.t 32], none, []⟩,
   ⟨some 2, .tra 33, none, []⟩])
  (.ret))))))⟩
def Tryz.r113 : List (Nat × Nat) := []
theorem Tryz.i113_ok : fnOk Tryz.prog Tryz.r113 Tryz.f113 Tryz.i113 = true := by kernel_rfl

/- pinball/pinballref02.Rest -/
def Tryz.i114 : IFunc := ⟨2, 80, [.tmp 4],
  .seq (.region false [⟨some 4, .nlo 2, none, []⟩])
  (.seq (.region false [⟨some 13, .mov (.t 0), none, []⟩,
   ⟨some 14, .call 113 [.t 13], none, []⟩,
   ⟨some 15, .mov (.t 1), none, []⟩,
   ⟨some 16, .call 54 [.t 15], none, []⟩,
   ⟨some 5, .mov (.t 14), none, []⟩,
   ⟨some 6, .mov (.t 16), none, []⟩])
  (.seq (.region false [⟨some 17, .mov (.t 6), none, []⟩,
   ⟨some 18, .mov (.t 6), none, []⟩,
   ⟨some 19, .len (.t 18), none, []⟩,
   ⟨some 20, .bin .sub (.t 19) (.c (.int .i64 1)), none, []⟩,
   ⟨some 21, .ixa 17 (.t 20) 2, none, []⟩,
   ⟨some 22, .ld 21 21 2 false, none, []⟩,
   ⟨some 7, .new [.bool false, .sl 0 []] [51], none, []⟩,
   ⟨none, .st 7 7 2 (.t 22), none, []⟩])
  (.seq (.block 0 (.loop (.seq (.seq (.region false [⟨some 23, .mov (.t 5), none, []⟩,
   ⟨some 24, .len (.t 23), none, []⟩,
   ⟨some 25, .mov (.t 6), none, []⟩,
   ⟨some 26, .len (.t 25), none, []⟩,
   ⟨some 27, .bin .geq (.t 24) (.t 26), none, []⟩])
  (.cond (.t 27) (.skip)
  (.exit 0)))
  (.block 1 (.seq (.region false [⟨some 28, .mov (.t 5), none, []⟩,
   ⟨some 29, .mov (.t 5), none, []⟩,
   ⟨some 30, .len (.t 29), none, []⟩,
   ⟨some 31, .bin .sub (.t 30) (.c (.int .i64 1)), none, []⟩,
   ⟨some 32, .ixa 28 (.t 31) 2, none, []⟩,
   ⟨some 33, .ld 32 32 2 false, none, []⟩,
   ⟨some 8, .new [.bool false, .sl 0 []] [], none, []⟩,
   ⟨none, .st 8 8 2 (.t 33), none, []⟩])
  (.seq (.seq (.region false [⟨some 34, .ld 7 7 2 false, none, []⟩,
   ⟨some 35, .call 55 [.t 34], none, []⟩,
   ⟨some 36, .bin .lss (.t 35) (.c (.int .i64 0)), none, []⟩])
  (.cond (.t 36) (.region false [⟨some 37, .ld 8 8 2 false, none, []⟩,
   ⟨some 38, .call 117 [.t 37], none, []⟩,
   ⟨none, .st 8 8 2 (.t 38), none, []⟩])
  (.skip)))
  (.seq (.region false [⟨some 39, .mov (.t 5), none, []⟩,
   ⟨some 40, .len (.t 39), none, []⟩,
   ⟨some 41, .mov (.t 6), none, []⟩,
   ⟨some 42, .len (.t 41), none, []⟩,
   ⟨some 43, .bin .sub (.t 40) (.t 42), none, []⟩,
   ⟨some 9, .mov (.t 43), none, []⟩])
  (.seq (.region false [⟨some 10, .nlo 2, none, []⟩])
  (.seq (.seq (.region false [⟨some 11, .mov (.c (.int .i64 0)), none, []⟩])
  (.block 2 (.loop (.seq (.seq (.region false [⟨some 44, .mov (.t 11), none, []⟩,
   ⟨some 45, .mov (.t 5), none, []⟩,
   ⟨some 46, .len (.t 45), none, []⟩,
   ⟨some 47, .bin .sub (.t 46) (.c (.int .i64 1)), none, []⟩,
   ⟨some 48, .bin .lss (.t 44) (.t 47), none, []⟩])
  (.cond (.t 48) (.skip)
  (.exit 2)))
  (.seq (.block 3 (.seq (.region true [⟨some 51, .adr 7 7 1, none, []⟩,
   ⟨some 52, .ld 51 7 1 true, none, []⟩,
   ⟨some 53, .bld [.bool false, .sl 0 []] [(1, 1, .t 52)], none, []⟩,
   ⟨some 54, .mov (.t 5), none, []⟩,
   ⟨some 55, .mov (.t 11), none, []⟩,
   ⟨some 56, .ixa 54 (.t 55) 2, none, []⟩,
   ⟨some 57, .ld 56 56 2 false, none, []⟩,
   ⟨some 58, .call 37 [.t 53, .t 57], none, []⟩,
   ⟨some 12, .new [.bool false, .sl 0 []] [], none, []⟩,
   ⟨none, .st 12 12 2 (.t 58), none, []⟩])
  (.seq (.seq (.region false [⟨some 59, .mov (.t 11), none, []⟩,
   ⟨some 60, .mov (.t 9), none, []⟩,
   ⟨some 61, .bin .geq (.t 59) (.t 60), none, []⟩])
  (.cond (.t 61) (.region true [⟨some 62, .ld 12 12 2 false, none, []⟩,
   ⟨some 63, .ld 8 8 2 false, none, []⟩,
   ⟨some 64, .mov (.t 6), none, []⟩,
   ⟨some 65, .mov (.t 11), none, []⟩,
   ⟨some 66, .mov (.t 9), none, []⟩,
   ⟨some 67, .bin .sub (.t 65) (.t 66), none, []⟩,
   ⟨some 68, .ixa 64 (.t 67) 2, none, []⟩,
   ⟨some 69, .ld 68 68 2 false, none, []⟩,
   ⟨some 70, .call 37 [.t 63, .t 69], none, []⟩,
   ⟨some 71, .call 92 [.t 62, .t 70], none, []⟩,
   ⟨none, .st 12 12 2 (.t 71), none, []⟩])
  (.skip)))
  (.region false [⟨some 72, .tra 10, none, []⟩,
   ⟨some 73, .ld 12 12 2 false, none, []⟩,
   ⟨some 74, .bls 1 [.bool false, .sl 0 []] [(0, 2, .t 73)], none, []⟩,
   ⟨some 75, .apd true (.t 72) (.t 74) 2, none, []⟩,
   ⟨some 10, .tra 75, none, []⟩]))))
  (.region false [⟨some 49, .mov (.t 11), none, []⟩,
   ⟨some 50, .bin .add (.t 49) (.c (.int .i64 1)), none, []⟩,
   ⟨some 11, .mov (.t 50), none, []⟩]))))))
  (.region false [⟨some 76, .frz 10, none, []⟩,
   ⟨some 77, .call 54 [.t 76], none, []⟩,
   ⟨some 78, .call 113 [.t 77], none, []⟩,
   ⟨some 5, .mov (.t 78), none, []⟩]))))))))))
  (.seq (.region false [⟨some 79, .mov (.t 5), none, []⟩,
   ⟨some 4, .tra 79, none, []⟩])
  (.ret)))))⟩
def Tryz.r114 : List (Nat × Nat) := [(51, 7)]
theorem Tryz.i114_ok : fnOk Tryz.prog Tryz.r114 Tryz.f114 Tryz.i114 = true := by kernel_rfl

/- pinball/pinballref02.positive -/
def Tryz.i115 : IFunc := ⟨1, 19, [.tmp 2],
  .seq (.region false [⟨some 2, .nlo 2, none, []⟩])
  (.seq (.seq (.region false [⟨some 3, .mov (.t 0), none, []⟩,
   ⟨some 4, .len (.t 3), none, []⟩,
   ⟨some 5, .bin .gtr (.t 4) (.c (.int .i64 0)), none, []⟩,
   ⟨some 6, .mov (.t 5), none, []⟩,
   ⟨some 7, .mov (.t 0), some (6, true), []⟩,
   ⟨some 8, .mov (.t 0), some (6, true), []⟩,
   ⟨some 9, .len (.t 8), some (6, true), []⟩,
   ⟨some 10, .bin .sub (.t 9) (.c (.int .i64 1)), some (6, true), []⟩,
   ⟨some 11, .ixa 7 (.t 10) 2, some (6, true), []⟩,
   ⟨some 12, .ld 11 11 2 false, some (6, true), []⟩,
   ⟨some 13, .call 55 [.t 12], some (6, true), []⟩,
   ⟨some 14, .bin .lss (.t 13) (.c (.int .i64 0)), some (6, true), []⟩,
   ⟨some 15, .pick (.t 6) (.t 14) (.c (.bool false)), none, []⟩])
  (.cond (.t 15) (.seq (.region false [⟨some 16, .mov (.t 0), none, []⟩,
   ⟨some 17, .clo 128 [.t 16], none, []⟩,
   ⟨some 2, .tra 17, none, []⟩])
  (.ret))
  (.skip)))
  (.seq (.region false [⟨some 18, .mov (.t 0), none, []⟩,
   ⟨some 2, .tra 18, none, []⟩])
  (.ret)))⟩
def Tryz.r115 : List (Nat × Nat) := []
theorem Tryz.i115_ok : fnOk Tryz.prog Tryz.r115 Tryz.f115 Tryz.i115 = true := by kernel_rfl

/- pinball/pinballref03.Half -/
def Tryz.i116 : IFunc := ⟨2, 32, [.cell 4 3 false],
  .seq (.region false [⟨some 2, .box (.t 0) [7, 12, 15], none, []⟩,
   ⟨some 3, .box (.t 1) [9, 19, 22], none, []⟩,
   ⟨some 4, .new [.bool false, .sl 0 [], .int .i64 0] [], none, []⟩])
  (.seq (.region false [⟨some 7, .adr 2 2 2, none, []⟩,
   ⟨some 8, .ld 7 2 1 true, none, []⟩,
   ⟨some 9, .adr 3 3 2, none, []⟩,
   ⟨some 10, .ld 9 3 1 true, none, []⟩,
   ⟨some 11, .mx [.t 8, .t 10], none, []⟩,
   ⟨some 5, .mov (.t 11), none, []⟩])
  (.seq (.region true [⟨some 12, .adr 2 2 0, none, []⟩,
   ⟨some 13, .ld 12 2 2 false, none, []⟩,
   ⟨some 14, .mov (.t 5), none, []⟩,
   ⟨some 15, .adr 2 2 2, none, []⟩,
   ⟨some 16, .ld 15 2 1 true, none, []⟩,
   ⟨some 17, .bin .sub (.t 14) (.t 16), none, []⟩,
   ⟨some 18, .call 81 [.t 13, .t 17], none, []⟩,
   ⟨some 19, .adr 3 3 0, none, []⟩,
   ⟨some 20, .ld 19 3 2 false, none, []⟩,
   ⟨some 21, .mov (.t 5), none, []⟩,
   ⟨some 22, .adr 3 3 2, none, []⟩,
   ⟨some 23, .ld 22 3 1 true, none, []⟩,
   ⟨some 24, .bin .sub (.t 21) (.t 23), none, []⟩,
   ⟨some 25, .call 81 [.t 20, .t 24], none, []⟩,
   ⟨some 26, .call 80 [.t 18, .t 25], none, []⟩,
   ⟨some 6, .new [.bool false, .sl 0 []] [], none, []⟩,
   ⟨none, .st 6 6 2 (.t 26), none, []⟩])
  (.seq (.region false [⟨some 27, .ld 6 6 2 false, none, []⟩,
   ⟨some 28, .mov (.t 5), none, []⟩,
   ⟨some 29, .bin .add (.t 28) (.c (.int .i64 1)), none, []⟩,
   ⟨some 30, .bld [.bool false, .sl 0 [], .int .i64 0] [(0, 2, .t 27), (2, 1, .t 29)], none, []⟩,
   ⟨some 31, .call 121 [.t 30], none, []⟩,
   ⟨none, .st 4 4 3 (.t 31), none, []⟩])
  (.ret))))⟩
def Tryz.r116 : List (Nat × Nat) := [(7, 2), (9, 3), (12, 2), (15, 2), (19, 3), (22, 3)]
theorem Tryz.i116_ok : fnOk Tryz.prog Tryz.r116 Tryz.f116 Tryz.i116 = true := by kernel_rfl

/- pinball/pinballref01.Neg -/
def Tryz.i117 : IFunc := ⟨1, 9, [.cell 2 2 false],
  .seq (.region false [⟨some 1, .box (.t 0) [3, 6], none, []⟩,
   ⟨some 2, .new [.bool false, .sl 0 []] [], none, []⟩])
  (.seq (.region false [⟨some 3, .adr 1 1 0, none, []⟩,
   ⟨some 4, .ld 3 1 1 true, none, []⟩,
   ⟨some 5, .un .not (.t 4), none, []⟩,
   ⟨some 6, .adr 1 1 1, none, []⟩,
   ⟨some 7, .ld 6 1 1 true, none, []⟩,
   ⟨some 8, .call 65 [.t 5, .t 7], none, []⟩,
   ⟨none, .st 2 2 2 (.t 8), none, []⟩])
  (.ret))⟩
def Tryz.r117 : List (Nat × Nat) := [(3, 1), (6, 1)]
theorem Tryz.i117_ok : fnOk Tryz.prog Tryz.r117 Tryz.f117 Tryz.i117 = true := by kernel_rfl

/- pinball/wide.addLimbs -/
def Tryz.i118 : IFunc := ⟨2, 58, [.tmp 4],
  .seq (.region false [⟨some 4, .nlo 1, none, []⟩])
  (.seq (.seq (.region false [⟨some 9, .mov (.t 0), none, []⟩,
   ⟨some 10, .len (.t 9), none, []⟩,
   ⟨some 11, .mov (.t 1), none, []⟩,
   ⟨some 12, .len (.t 11), none, []⟩,
   ⟨some 13, .bin .lss (.t 10) (.t 12), none, []⟩])
  (.cond (.t 13) (.region false [⟨some 14, .mov (.t 1), none, []⟩,
   ⟨some 15, .mov (.t 0), none, []⟩,
   ⟨some 0, .mov (.t 14), none, []⟩,
   ⟨some 1, .mov (.t 15), none, []⟩])
  (.skip)))
  (.seq (.region false [⟨some 16, .mov (.t 0), none, []⟩,
   ⟨some 17, .len (.t 16), none, []⟩,
   ⟨some 18, .bin .add (.t 17) (.c (.int .i64 1)), none, []⟩,
   ⟨some 19, .mks [.int .u32 0] (.t 18), none, []⟩,
   ⟨some 5, .tra 19, none, [43, 49, 51, 56]⟩])
  (.seq (.region false [⟨some 6, .mov (.c (.int .u64 0)), none, []⟩])
  (.seq (.seq (.region false [⟨some 20, .mov (.t 0), none, []⟩,
   ⟨some 21, .len (.t 20), none, []⟩,
   ⟨some 22, .mov (.c (.int .i64 0)), none, []⟩])
  (.block 0 (.loop (.seq (.region false [⟨some 23, .bin .lss (.t 22) (.t 21), none, []⟩])
  (.seq (.cond (.t 23) (.skip)
  (.exit 0))
  (.seq (.block 1 (.seq (.region false [⟨some 24, .mov (.t 22), none, []⟩,
   ⟨some 7, .mov (.t 24), none, []⟩])
  (.seq (.region false [⟨some 25, .mov (.t 0), none, []⟩,
   ⟨some 26, .mov (.t 7), none, []⟩,
   ⟨some 27, .ixa 25 (.t 26) 1, none, []⟩,
   ⟨some 28, .ld 27 27 1 true, none, []⟩,
   ⟨some 29, .cv .u64 (.t 28), none, []⟩,
   ⟨some 30, .mov (.t 6), none, []⟩,
   ⟨some 31, .bin .add (.t 29) (.t 30), none, []⟩,
   ⟨some 8, .mov (.t 31), none, []⟩])
  (.seq (.seq (.region false [⟨some 32, .mov (.t 7), none, []⟩,
   ⟨some 33, .mov (.t 1), none, []⟩,
   ⟨some 34, .len (.t 33), none, []⟩,
   ⟨some 35, .bin .lss (.t 32) (.t 34), none, []⟩])
  (.cond (.t 35) (.region false [⟨some 36, .mov (.t 8), none, []⟩,
   ⟨some 37, .mov (.t 1), none, []⟩,
   ⟨some 38, .mov (.t 7), none, []⟩,
   ⟨some 39, .ixa 37 (.t 38) 1, none, []⟩,
   ⟨some 40, .ld 39 39 1 true, none, []⟩,
   ⟨some 41, .cv .u64 (.t 40), none, []⟩,
   ⟨some 42, .bin .add (.t 36) (.t 41), none, []⟩,
   ⟨some 8, .mov (.t 42), none, []⟩])
  (.skip)))
  (.region false [⟨some 43, .cpy 5, none, []⟩,
   ⟨some 44, .mov (.t 7), none, []⟩,
   ⟨some 45, .mov (.t 8), none, []⟩,
   ⟨some 46, .cv .u32 (.t 45), none, []⟩,
   ⟨some 47, .mov (.t 8), none, []⟩,
   ⟨some 48, .bin .shr (.t 47) (.c (.int .u64 32)), none, []⟩,
   ⟨some 49, .ixo 43 5 (.t 44) 1, none, []⟩,
   ⟨none, .st 49 5 1 (.t 46), none, []⟩,
   ⟨some 6, .mov (.t 48), none, []⟩])))))
  (.region false [⟨some 50, .bin .add (.t 22) (.c (.int .i64 1)), none, []⟩,
   ⟨some 22, .mov (.t 50), none, []⟩])))))))
  (.seq (.region false [⟨some 51, .cpy 5, none, []⟩,
   ⟨some 52, .mov (.t 0), none, []⟩,
   ⟨some 53, .len (.t 52), none, []⟩,
   ⟨some 54, .mov (.t 6), none, []⟩,
   ⟨some 55, .cv .u32 (.t 54), none, []⟩,
   ⟨some 56, .ixo 51 5 (.t 53) 1, none, []⟩,
   ⟨none, .st 56 5 1 (.t 55), none, []⟩])
  (.seq (.region false [⟨some 57, .tra 5, none, []⟩,
   ⟨some 4, .tra 57, none, []⟩])
  (.ret)))))))⟩
def Tryz.r118 : List (Nat × Nat) := [(43, 5), (49, 5), (51, 5), (56, 5)]
theorem Tryz.i118_ok : fnOk Tryz.prog Tryz.r118 Tryz.f118 Tryz.i118 = true := by kernel_rfl

/- pinball/wide.cmpLimbs -/
def Tryz.i119 : IFunc := ⟨2, 41, [.tmp 4],
  .seq (.region false [⟨some 4, .mov (.c (.int .i64 0)), none, []⟩])
  (.seq (.seq (.region false [⟨some 6, .mov (.t 0), none, []⟩,
   ⟨some 7, .len (.t 6), none, []⟩,
   ⟨some 8, .mov (.t 1), none, []⟩,
   ⟨some 9, .len (.t 8), none, []⟩,
   ⟨some 10, .bin .neq (.t 7) (.t 9), none, []⟩])
  (.cond (.t 10) (.seq (.seq (.region false [⟨some 11, .mov (.t 0), none, []⟩,
   ⟨some 12, .len (.t 11), none, []⟩,
   ⟨some 13, .mov (.t 1), none, []⟩,
   ⟨some 14, .len (.t 13), none, []⟩,
   ⟨some 15, .bin .lss (.t 12) (.t 14), none, []⟩])
  (.cond (.t 15) (.seq (.region false [⟨some 4, .mov (.c (.int .i64 (-1))), none, []⟩])
  (.ret))
  (.skip)))
  (.seq (.region false [⟨some 4, .mov (.c (.int .i64 1)), none, []⟩])
  (.ret)))
  (.skip)))
  (.seq (.seq (.region false [⟨some 16, .mov (.t 0), none, []⟩,
   ⟨some 17, .len (.t 16), none, []⟩,
   ⟨some 18, .bin .sub (.t 17) (.c (.int .i64 1)), none, []⟩,
   ⟨some 5, .mov (.t 18), none, []⟩])
  (.block 0 (.loop (.seq (.seq (.region false [⟨some 19, .mov (.t 5), none, []⟩,
   ⟨some 20, .bin .geq (.t 19) (.c (.int .i64 0)), none, []⟩])
  (.cond (.t 20) (.skip)
  (.exit 0)))
  (.seq (.block 1 (.seq (.region true [⟨some 23, .mov (.t 0), none, []⟩,
   ⟨some 24, .mov (.t 5), none, []⟩,
   ⟨some 25, .ixa 23 (.t 24) 1, none, []⟩,
   ⟨some 26, .ld 25 25 1 true, none, []⟩,
   ⟨some 27, .mov (.t 1), none, []⟩,
   ⟨some 28, .mov (.t 5), none, []⟩,
   ⟨some 29, .ixa 27 (.t 28) 1, none, []⟩,
   ⟨some 30, .ld 29 29 1 true, none, []⟩,
   ⟨some 31, .bin .neq (.t 26) (.t 30), none, []⟩])
  (.cond (.t 31) (.seq (.seq (.region true [⟨some 32, .mov (.t 0), none, []⟩,
   ⟨some 33, .mov (.t 5), none, []⟩,
   ⟨some 34, .ixa 32 (.t 33) 1, none, []⟩,
   ⟨some 35, .ld 34 34 1 true, none, []⟩,
   ⟨some 36, .mov (.t 1), none, []⟩,
   ⟨some 37, .mov (.t 5), none, []⟩,
   ⟨some 38, .ixa 36 (.t 37) 1, none, []⟩,
   ⟨some 39, .ld 38 38 1 true, none, []⟩,
   ⟨some 40, .bin .lss (.t 35) (.t 39), none, []⟩])
  (.cond (.t 40) (.seq (.region false [⟨some 4, .mov (.c (.int .i64 (-1))), none, []⟩])
  (.ret))
  (.skip)))
  (.seq (.region false [⟨some 4, .mov (.c (.int .i64 1)), none, []⟩])
  (.ret)))
  (.skip))))
  (.region false [⟨some 21, .mov (.t 5), none, []⟩,
   ⟨some 22, .bin .sub (.t 21) (.c (.int .i64 1)), none, []⟩,
   ⟨some 5, .mov (.t 22), none, []⟩]))))))
  (.seq (.region false [⟨some 4, .mov (.c (.int .i64 0)), none, []⟩])
  (.ret))))⟩
def Tryz.r119 : List (Nat × Nat) := []
theorem Tryz.i119_ok : fnOk Tryz.prog Tryz.r119 Tryz.f119 Tryz.i119 = true := by kernel_rfl

/- pinball/wide.subLimbs -/
def Tryz.i120 : IFunc := ⟨2, 44, [.tmp 4],
  .seq (.region false [⟨some 4, .nlo 1, none, []⟩])
  (.seq (.region false [⟨some 9, .mov (.t 0), none, []⟩,
   ⟨some 10, .len (.t 9), none, []⟩,
   ⟨some 11, .mks [.int .u32 0] (.t 10), none, []⟩,
   ⟨some 5, .tra 11, none, [35, 41]⟩])
  (.seq (.region false [⟨some 6, .mov (.c (.int .u64 0)), none, []⟩])
  (.seq (.seq (.region false [⟨some 12, .mov (.t 0), none, []⟩,
   ⟨some 13, .len (.t 12), none, []⟩,
   ⟨some 14, .mov (.c (.int .i64 0)), none, []⟩])
  (.block 0 (.loop (.seq (.region false [⟨some 15, .bin .lss (.t 14) (.t 13), none, []⟩])
  (.seq (.cond (.t 15) (.skip)
  (.exit 0))
  (.seq (.block 1 (.seq (.region false [⟨some 16, .mov (.t 14), none, []⟩,
   ⟨some 7, .mov (.t 16), none, []⟩])
  (.seq (.region false [⟨some 17, .mov (.t 0), none, []⟩,
   ⟨some 18, .mov (.t 7), none, []⟩,
   ⟨some 19, .ixa 17 (.t 18) 1, none, []⟩,
   ⟨some 20, .ld 19 19 1 true, none, []⟩,
   ⟨some 21, .cv .u64 (.t 20), none, []⟩,
   ⟨some 22, .mov (.t 6), none, []⟩,
   ⟨some 23, .bin .sub (.t 21) (.t 22), none, []⟩,
   ⟨some 8, .mov (.t 23), none, []⟩])
  (.seq (.seq (.region false [⟨some 24, .mov (.t 7), none, []⟩,
   ⟨some 25, .mov (.t 1), none, []⟩,
   ⟨some 26, .len (.t 25), none, []⟩,
   ⟨some 27, .bin .lss (.t 24) (.t 26), none, []⟩])
  (.cond (.t 27) (.region false [⟨some 28, .mov (.t 8), none, []⟩,
   ⟨some 29, .mov (.t 1), none, []⟩,
   ⟨some 30, .mov (.t 7), none, []⟩,
   ⟨some 31, .ixa 29 (.t 30) 1, none, []⟩,
   ⟨some 32, .ld 31 31 1 true, none, []⟩,
   ⟨some 33, .cv .u64 (.t 32), none, []⟩,
   ⟨some 34, .bin .sub (.t 28) (.t 33), none, []⟩,
   ⟨some 8, .mov (.t 34), none, []⟩])
  (.skip)))
  (.region false [⟨some 35, .cpy 5, none, []⟩,
   ⟨some 36, .mov (.t 7), none, []⟩,
   ⟨some 37, .mov (.t 8), none, []⟩,
   ⟨some 38, .cv .u32 (.t 37), none, []⟩,
   ⟨some 39, .mov (.t 8), none, []⟩,
   ⟨some 40, .bin .shr (.t 39) (.c (.int .u64 63)), none, []⟩,
   ⟨some 41, .ixo 35 5 (.t 36) 1, none, []⟩,
   ⟨none, .st 41 5 1 (.t 38), none, []⟩,
   ⟨some 6, .mov (.t 40), none, []⟩])))))
  (.region false [⟨some 42, .bin .add (.t 14) (.c (.int .i64 1)), none, []⟩,
   ⟨some 14, .mov (.t 42), none, []⟩])))))))
  (.seq (.region false [⟨some 43, .tra 5, none, []⟩,
   ⟨some 4, .tra 43, none, []⟩])
  (.ret)))))⟩
def Tryz.r120 : List (Nat × Nat) := [(35, 5), (41, 5)]
theorem Tryz.i120_ok : fnOk Tryz.prog Tryz.r120 Tryz.f120 Tryz.i120 = true := by kernel_rfl

/- pinball/pinballref03.Reduce -/
def Tryz.i121 : IFunc := ⟨1, 33, [.cell 2 3 false],
  .seq (.region false [⟨some 1, .box (.t 0) [5, 8], none, []⟩,
   ⟨some 2, .new [.bool false, .sl 0 [], .int .i64 0] [], none, []⟩])
  (.seq (.region true [⟨some 5, .adr 1 1 0, none, []⟩,
   ⟨some 6, .ld 5 1 2 false, none, []⟩,
   ⟨some 7, .call 79 [.t 6], none, []⟩,
   ⟨some 8, .adr 1 1 2, none, []⟩,
   ⟨some 9, .ld 8 1 1 true, none, []⟩,
   ⟨some 3, .new [.bool false, .sl 0 []] [13, 18], none, []⟩,
   ⟨none, .st 3 3 2 (.t 7), none, []⟩,
   ⟨some 4, .mov (.t 9), none, []⟩])
  (.seq (.block 0 (.loop (.seq (.seq (.region false [⟨some 10, .mov (.t 4), none, []⟩,
   ⟨some 11, .bin .gtr (.t 10) (.c (.int .i64 0)), none, []⟩,
   ⟨some 12, .mov (.t 11), none, []⟩,
   ⟨some 13, .adr 3 3 1, some (12, true), []⟩,
   ⟨some 14, .ld 13 3 1 true, some (12, true), []⟩,
   ⟨some 15, .len (.t 14), some (12, true), []⟩,
   ⟨some 16, .bin .eql (.t 15) (.c (.int .i64 0)), some (12, true), []⟩,
   ⟨some 17, .mov (.t 16), some (12, true), []⟩,
   ⟨some 18, .adr 3 3 1, some (17, false), []⟩,
   ⟨some 19, .ld 18 3 1 true, some (17, false), []⟩,
   ⟨some 20, .ixa 19 (.c (.int .i64 0)) 1, some (17, false), []⟩,
   ⟨some 21, .ld 20 20 1 true, some (17, false), []⟩,
   ⟨some 22, .bin .and (.t 21) (.c (.int .u32 1)), some (17, false), []⟩,
   ⟨some 23, .bin .eql (.t 22) (.c (.int .u32 0)), some (17, false), []⟩,
   ⟨some 24, .pick (.t 17) (.c (.bool true)) (.t 23), some (12, true), []⟩,
   ⟨some 25, .pick (.t 12) (.t 24) (.c (.bool false)), none, []⟩])
  (.cond (.t 25) (.skip)
  (.exit 0)))
  (.block 1 (.region false [⟨some 26, .ld 3 3 2 false, none, []⟩,
   ⟨some 27, .call 91 [.t 26, .c (.int .i64 1)], none, []⟩,
   ⟨some 28, .mov (.t 4), none, []⟩,
   ⟨some 29, .bin .sub (.t 28) (.c (.int .i64 1)), none, []⟩,
   ⟨none, .st 3 3 2 (.t 27), none, []⟩,
   ⟨some 4, .mov (.t 29), none, []⟩])))))
  (.seq (.region false [⟨some 30, .ld 3 3 2 false, none, []⟩,
   ⟨some 31, .mov (.t 4), none, []⟩,
   ⟨some 32, .bld [.bool false, .sl 0 [], .int .i64 0] [(0, 2, .t 30), (2, 1, .t 31)], none, []⟩,
   ⟨none, .st 2 2 3 (.t 32), none, []⟩])
  (.ret))))⟩
def Tryz.r121 : List (Nat × Nat) := [(5, 1), (8, 1), (13, 3), (18, 3)]
theorem Tryz.i121_ok : fnOk Tryz.prog Tryz.r121 Tryz.f121 Tryz.i121 = true := by kernel_rfl

/- pinball/pinballref02.Degree -/
def Tryz.i122 : IFunc := ⟨1, 7, [.tmp 2],
  .seq (.region false [⟨some 2, .mov (.c (.int .i64 0)), none, []⟩])
  (.seq (.region false [⟨some 3, .mov (.t 0), none, []⟩,
   ⟨some 4, .call 54 [.t 3], none, []⟩,
   ⟨some 5, .len (.t 4), none, []⟩,
   ⟨some 6, .bin .sub (.t 5) (.c (.int .i64 1)), none, []⟩,
   ⟨some 2, .mov (.t 6), none, []⟩])
  (.ret))⟩
def Tryz.r122 : List (Nat × Nat) := []
theorem Tryz.i122_ok : fnOk Tryz.prog Tryz.r122 Tryz.f122 Tryz.i122 = true := by kernel_rfl

/- pinball/pinballref04.List -/
def Tryz.i123 : IFunc := ⟨3, 29, [.tmp 6],
  .seq (.region false [⟨some 4, .box (.t 1) [], none, []⟩,
   ⟨some 5, .box (.t 2) [], none, []⟩,
   ⟨some 6, .nlo 7, none, []⟩])
  (.seq (.region false [⟨some 8, .mov (.t 0), none, []⟩,
   ⟨some 9, .call 124 [.t 8], none, []⟩,
   ⟨some 7, .mov (.t 9), none, []⟩])
  (.seq (.seq (.region false [⟨some 10, .mov (.t 7), none, []⟩,
   ⟨some 11, .len (.t 10), none, []⟩,
   ⟨some 12, .bin .lss (.t 11) (.c (.int .i64 2)), none, []⟩,
   ⟨some 13, .mov (.t 12), none, []⟩,
   ⟨some 14, .ld 4 4 3 false, some (13, false), []⟩,
   ⟨some 15, .ld 5 5 3 false, some (13, false), []⟩,
   ⟨some 16, .call 85 [.t 14, .t 15], some (13, false), []⟩,
   ⟨some 17, .bin .geq (.t 16) (.c (.int .i64 0)), some (13, false), []⟩,
   ⟨some 18, .pick (.t 13) (.c (.bool true)) (.t 17), none, []⟩])
  (.cond (.t 18) (.seq (.region false [⟨some 6, .nlo 7, none, []⟩])
  (.ret))
  (.skip)))
  (.seq (.region true [⟨some 19, .mov (.t 7), none, []⟩,
   ⟨some 20, .ld 4 4 3 false, none, []⟩,
   ⟨some 21, .ld 5 5 3 false, none, []⟩,
   ⟨some 22, .mov (.t 7), none, []⟩,
   ⟨some 23, .ld 4 4 3 false, none, []⟩,
   ⟨some 24, .call 125 [.t 22, .t 23], none, []⟩,
   ⟨some 25, .mov (.t 7), none, []⟩,
   ⟨some 26, .ld 5 5 3 false, none, []⟩,
   ⟨some 27, .call 125 [.t 25, .t 26], none, []⟩,
   ⟨some 28, .clo 129 [.c (.sl 0 []), .t 19, .t 20, .t 21, .t 24, .t 27], none, []⟩,
   ⟨some 6, .tra 28, none, []⟩])
  (.ret))))⟩
def Tryz.r123 : List (Nat × Nat) := []
theorem Tryz.i123_ok : fnOk Tryz.prog Tryz.r123 Tryz.f123 Tryz.i123 = true := by kernel_rfl

/- pinball/pinballref03.Sequence -/
def Tryz.i124 : IFunc := ⟨1, 33, [.tmp 2],
  .seq (.region false [⟨some 2, .nlo 1, none, []⟩])
  (.seq (.region false [⟨some 6, .mov (.t 0), none, []⟩,
   ⟨some 7, .call 130 [.t 6], none, []⟩,
   ⟨some 3, .mov (.t 7), none, []⟩])
  (.seq (.seq (.region false [⟨some 8, .mov (.t 3), none, []⟩,
   ⟨some 9, .len (.t 8), none, []⟩,
   ⟨some 10, .bin .eql (.t 9) (.c (.int .i64 0)), none, []⟩])
  (.cond (.t 10) (.seq (.region false [⟨some 2, .nlo 1, none, []⟩])
  (.ret))
  (.skip)))
  (.seq (.region false [⟨some 11, .mov (.t 3), none, []⟩,
   ⟨some 12, .blo 1 1 [.sl 0 []] [(0, 1, .t 11)], none, []⟩,
   ⟨some 4, .tra 12, none, [23, 24, 27]⟩])
  (.seq (.region false [⟨some 13, .mov (.t 3), none, []⟩,
   ⟨some 14, .call 131 [.t 13], none, []⟩,
   ⟨some 15, .call 113 [.t 14], none, []⟩,
   ⟨some 5, .mov (.t 15), none, []⟩])
  (.seq (.block 0 (.loop (.seq (.seq (.region false [⟨some 16, .mov (.t 5), none, []⟩,
   ⟨some 17, .len (.t 16), none, []⟩,
   ⟨some 18, .bin .gtr (.t 17) (.c (.int .i64 0)), none, []⟩])
  (.cond (.t 18) (.skip)
  (.exit 0)))
  (.block 1 (.seq (.region false [⟨some 19, .tra 4, none, []⟩,
   ⟨some 20, .mov (.t 5), none, []⟩,
   ⟨some 21, .bls 1 [.sl 0 []] [(0, 1, .t 20)], none, []⟩,
   ⟨some 22, .apd true (.t 19) (.t 21) 1, none, []⟩,
   ⟨some 4, .tra 22, none, [23, 24, 27]⟩])
  (.region false [⟨some 23, .cpy 4, none, []⟩,
   ⟨some 24, .cpy 4, none, []⟩,
   ⟨some 25, .lno 24 4, none, []⟩,
   ⟨some 26, .bin .sub (.t 25) (.c (.int .i64 2)), none, []⟩,
   ⟨some 27, .ixo 23 4 (.t 26) 1, none, []⟩,
   ⟨some 28, .ld 27 4 1 true, none, []⟩,
   ⟨some 29, .mov (.t 5), none, []⟩,
   ⟨some 30, .call 114 [.t 28, .t 29], none, []⟩,
   ⟨some 31, .call 128 [.t 30], none, []⟩,
   ⟨some 5, .mov (.t 31), none, []⟩]))))))
  (.seq (.region false [⟨some 32, .tra 4, none, []⟩,
   ⟨some 2, .tra 32, none, []⟩])
  (.ret)))))))⟩
def Tryz.r124 : List (Nat × Nat) := [(23, 4), (24, 4), (27, 4)]
theorem Tryz.i124_ok : fnOk Tryz.prog Tryz.r124 Tryz.f124 Tryz.i124 = true := by kernel_rfl

/- pinball/pinballref03.Variations -/
def Tryz.i125 : IFunc := ⟨2, 42, [.tmp 4],
  .seq (.region false [⟨some 3, .box (.t 1) [19, 21], none, []⟩,
   ⟨some 4, .mov (.c (.int .i64 0)), none, []⟩])
  (.seq (.region false [⟨some 5, .mov (.c (.int .i64 0)), none, []⟩,
   ⟨some 6, .mov (.c (.int .i64 0)), none, []⟩])
  (.seq (.seq (.region false [⟨some 7, .mov (.c (.int .i64 0)), none, []⟩])
  (.block 0 (.loop (.seq (.seq (.region false [⟨some 9, .mov (.t 7), none, []⟩,
   ⟨some 10, .mov (.t 0), none, []⟩,
   ⟨some 11, .len (.t 10), none, []⟩,
   ⟨some 12, .bin .lss (.t 9) (.t 11), none, []⟩])
  (.cond (.t 12) (.skip)
  (.exit 0)))
  (.seq (.block 1 (.seq (.region true [⟨some 15, .mov (.t 0), none, []⟩,
   ⟨some 16, .mov (.t 7), none, []⟩,
   ⟨some 17, .ixa 15 (.t 16) 1, none, []⟩,
   ⟨some 18, .ld 17 17 1 true, none, []⟩,
   ⟨some 19, .adr 3 3 0, none, []⟩,
   ⟨some 20, .ld 19 3 2 false, none, []⟩,
   ⟨some 21, .adr 3 3 2, none, []⟩,
   ⟨some 22, .ld 21 3 1 true, none, []⟩,
   ⟨some 23, .call 56 [.t 18, .t 20, .t 22], none, []⟩,
   ⟨some 24, .call 55 [.t 23], none, []⟩,
   ⟨some 8, .mov (.t 24), none, []⟩])
  (.seq (.seq (.region false [⟨some 25, .mov (.t 8), none, []⟩,
   ⟨some 26, .bin .neq (.t 25) (.c (.int .i64 0)), none, []⟩,
   ⟨some 27, .mov (.t 26), none, []⟩,
   ⟨some 28, .mov (.t 6), some (27, true), []⟩,
   ⟨some 29, .bin .neq (.t 28) (.c (.int .i64 0)), some (27, true), []⟩,
   ⟨some 30, .pick (.t 27) (.t 29) (.c (.bool false)), none, []⟩,
   ⟨some 31, .mov (.t 30), none, []⟩,
   ⟨some 32, .mov (.t 8), some (31, true), []⟩,
   ⟨some 33, .mov (.t 6), some (31, true), []⟩,
   ⟨some 34, .bin .neq (.t 32) (.t 33), some (31, true), []⟩,
   ⟨some 35, .pick (.t 31) (.t 34) (.c (.bool false)), none, []⟩])
  (.cond (.t 35) (.region false [⟨some 36, .mov (.t 5), none, []⟩,
   ⟨some 37, .bin .add (.t 36) (.c (.int .i64 1)), none, []⟩,
   ⟨some 5, .mov (.t 37), none, []⟩])
  (.skip)))
  (.seq (.region false [⟨some 38, .mov (.t 8), none, []⟩,
   ⟨some 39, .bin .neq (.t 38) (.c (.int .i64 0)), none, []⟩])
  (.cond (.t 39) (.region false [⟨some 40, .mov (.t 8), none, []⟩,
   ⟨some 6, .mov (.t 40), none, []⟩])
  (.skip))))))
  (.region false [⟨some 13, .mov (.t 7), none, []⟩,
   ⟨some 14, .bin .add (.t 13) (.c (.int .i64 1)), none, []⟩,
   ⟨some 7, .mov (.t 14), none, []⟩]))))))
  (.seq (.region false [⟨some 41, .mov (.t 5), none, []⟩,
   ⟨some 4, .mov (.t 41), none, []⟩])
  (.ret))))⟩
def Tryz.r125 : List (Nat × Nat) := [(19, 3), (21, 3)]
theorem Tryz.i125_ok : fnOk Tryz.prog Tryz.r125 Tryz.f125 Tryz.i125 = true := by kernel_rfl

/- pinball/pinballref02.Inner -/
def Tryz.i126 : IFunc := ⟨1, 19, [.cell 2 2 false],
  .seq (.region false [⟨some 2, .new [.bool false, .sl 0 []] [], none, []⟩])
  (.seq (.region false [⟨some 5, .bld [.bool false, .sl 0 []] [], none, []⟩,
   ⟨some 3, .new [.bool false, .sl 0 []] [], none, []⟩,
   ⟨none, .st 3 3 2 (.t 5), none, []⟩])
  (.seq (.seq (.region false [⟨some 4, .mov (.c (.int .i64 0)), none, []⟩])
  (.block 0 (.loop (.seq (.seq (.region false [⟨some 6, .mov (.t 4), none, []⟩,
   ⟨some 7, .mov (.t 0), none, []⟩,
   ⟨some 8, .len (.t 7), none, []⟩,
   ⟨some 9, .bin .lss (.t 6) (.t 8), none, []⟩])
  (.cond (.t 9) (.skip)
  (.exit 0)))
  (.seq (.block 1 (.region true [⟨some 12, .ld 3 3 2 false, none, []⟩,
   ⟨some 13, .mov (.t 0), none, []⟩,
   ⟨some 14, .mov (.t 4), none, []⟩,
   ⟨some 15, .ixa 13 (.t 14) 2, none, []⟩,
   ⟨some 16, .ld 15 15 2 false, none, []⟩,
   ⟨some 17, .call 132 [.t 12, .t 16], none, []⟩,
   ⟨none, .st 3 3 2 (.t 17), none, []⟩]))
  (.region false [⟨some 10, .mov (.t 4), none, []⟩,
   ⟨some 11, .bin .add (.t 10) (.c (.int .i64 1)), none, []⟩,
   ⟨some 4, .mov (.t 11), none, []⟩]))))))
  (.seq (.region false [⟨some 18, .ld 3 3 2 false, none, []⟩,
   ⟨none, .st 2 2 2 (.t 18), none, []⟩])
  (.ret))))⟩
def Tryz.r126 : List (Nat × Nat) := []
theorem Tryz.i126_ok : fnOk Tryz.prog Tryz.r126 Tryz.f126 Tryz.i126 = true := by kernel_rfl

/- pinball/pinballref01.Div -/
def Tryz.i127 : IFunc := ⟨2, 29, [.cell 4 2 false, .cell 5 2 false],
  .seq (.region false [⟨some 2, .box (.t 0) [9, 18, 25], none, []⟩,
   ⟨some 3, .box (.t 1) [12, 20], none, []⟩,
   ⟨some 4, .new [.bool false, .sl 0 []] [], none, []⟩,
   ⟨some 5, .new [.bool false, .sl 0 []] [], none, []⟩])
  (.seq (.region true [⟨some 9, .adr 2 2 1, none, []⟩,
   ⟨some 10, .ld 9 2 1 true, none, []⟩,
   ⟨some 11, .call 67 [.t 10], none, []⟩,
   ⟨some 12, .adr 3 3 1, none, []⟩,
   ⟨some 13, .ld 12 3 1 true, none, []⟩,
   ⟨some 14, .call 67 [.t 13], none, []⟩,
   ⟨some 15, .call 133 [.t 11, .t 14], none, []⟩,
   ⟨some 8, .mov (.t 15), none, []⟩,
   ⟨some 16, .ext (.t 8) 0, none, []⟩,
   ⟨some 17, .ext (.t 8) 1, none, []⟩,
   ⟨some 6, .mov (.t 16), none, []⟩,
   ⟨some 7, .mov (.t 17), none, []⟩])
  (.seq (.region true [⟨some 18, .adr 2 2 0, none, []⟩,
   ⟨some 19, .ld 18 2 1 true, none, []⟩,
   ⟨some 20, .adr 3 3 0, none, []⟩,
   ⟨some 21, .ld 20 3 1 true, none, []⟩,
   ⟨some 22, .eqb true (.t 19) (.t 21), none, []⟩,
   ⟨some 23, .mov (.t 6), none, []⟩,
   ⟨some 24, .call 65 [.t 22, .t 23], none, []⟩,
   ⟨some 25, .adr 2 2 0, none, []⟩,
   ⟨some 26, .ld 25 2 1 true, none, []⟩,
   ⟨some 27, .mov (.t 7), none, []⟩,
   ⟨some 28, .call 65 [.t 26, .t 27], none, []⟩,
   ⟨none, .st 4 4 2 (.t 24), none, []⟩,
   ⟨none, .st 5 5 2 (.t 28), none, []⟩])
  (.ret)))⟩
def Tryz.r127 : List (Nat × Nat) := [(9, 2), (12, 3), (18, 2), (20, 3), (25, 2)]
theorem Tryz.i127_ok : fnOk Tryz.prog Tryz.r127 Tryz.f127 Tryz.i127 = true := by kernel_rfl

/- pinball/pinballref02.Neg -/
def Tryz.i128 : IFunc := ⟨1, 21, [.tmp 2],
  .seq (.region false [⟨some 2, .nlo 2, none, []⟩])
  (.seq (.region false [⟨some 3, .nlo 2, none, []⟩])
  (.seq (.seq (.region false [⟨some 4, .mov (.c (.int .i64 0)), none, []⟩])
  (.block 0 (.loop (.seq (.seq (.region false [⟨some 5, .mov (.t 4), none, []⟩,
   ⟨some 6, .mov (.t 0), none, []⟩,
   ⟨some 7, .len (.t 6), none, []⟩,
   ⟨some 8, .bin .lss (.t 5) (.t 7), none, []⟩])
  (.cond (.t 8) (.skip)
  (.exit 0)))
  (.seq (.block 1 (.region false [⟨some 11, .tra 3, none, []⟩,
   ⟨some 12, .mov (.t 0), none, []⟩,
   ⟨some 13, .mov (.t 4), none, []⟩,
   ⟨some 14, .ixa 12 (.t 13) 2, none, []⟩,
   ⟨some 15, .ld 14 14 2 false, none, []⟩,
   ⟨some 16, .call 117 [.t 15], none, []⟩,
   ⟨some 17, .bls 1 [.bool false, .sl 0 []] [(0, 2, .t 16)], none, []⟩,
   ⟨some 18, .apd true (.t 11) (.t 17) 2, none, []⟩,
   ⟨some 3, .tra 18, none, []⟩]))
  (.region false [⟨some 9, .mov (.t 4), none, []⟩,
   ⟨some 10, .bin .add (.t 9) (.c (.int .i64 1)), none, []⟩,
   ⟨some 4, .mov (.t 10), none, []⟩]))))))
  (.seq (.region false [⟨some 19, .frz 3, none, []⟩,
   ⟨some 20, .clo 54 [.t 19], none, []⟩,
   ⟨some 2, .tra 20, none, []⟩])
  (.ret))))⟩
def Tryz.r128 : List (Nat × Nat) := []
theorem Tryz.i128_ok : fnOk Tryz.prog Tryz.r128 Tryz.f128 Tryz.i128 = true := by kernel_rfl

/- pinball/pinballref04.split -/
def Tryz.i129 : IFunc := ⟨6, 51, [.tmp 12],
  .seq (.region false [⟨some 8, .box (.t 2) [], none, []⟩,
   ⟨some 9, .box (.t 3) [], none, []⟩,
   ⟨some 12, .nlo 7, none, []⟩])
  (.seq (.seq (.region false [⟨some 15, .mov (.t 4), none, []⟩,
   ⟨some 16, .mov (.t 5), none, []⟩,
   ⟨some 17, .bin .eql (.t 15) (.t 16), none, []⟩])
  (.cond (.t 17) (.seq (.region false [⟨some 18, .tra 0, none, []⟩,
   ⟨some 12, .tra 18, none, []⟩])
  (.ret))
  (.skip)))
  (.seq (.seq (.region false [⟨some 19, .mov (.t 4), none, []⟩,
   ⟨some 20, .mov (.t 5), none, []⟩,
   ⟨some 21, .bin .sub (.t 19) (.t 20), none, []⟩,
   ⟨some 22, .bin .eql (.t 21) (.c (.int .i64 1)), none, []⟩])
  (.cond (.t 22) (.seq (.region true [⟨some 23, .tra 0, none, []⟩,
   ⟨some 24, .mov (.t 1), none, []⟩,
   ⟨some 25, .ixa 24 (.c (.int .i64 0)) 1, none, []⟩,
   ⟨some 26, .ld 25 25 1 true, none, []⟩,
   ⟨some 27, .ld 8 8 3 false, none, []⟩,
   ⟨some 28, .ld 9 9 3 false, none, []⟩,
   ⟨some 29, .bld [.sl 0 [], .bool false, .sl 0 [], .int .i64 0, .bool false, .sl 0 [], .int .i64 0] [(0, 1, .t 26), (1, 3, .t 27), (4, 3, .t 28)], none, []⟩,
   ⟨some 30, .bls 1 [.sl 0 [], .bool false, .sl 0 [], .int .i64 0, .bool false, .sl 0 [], .int .i64 0] [(0, 7, .t 29)], none, []⟩,
   ⟨some 31, .apd true (.t 23) (.t 30) 7, none, []⟩,
   ⟨some 12, .tra 31, none, []⟩])
  (.ret))
  (.skip)))
  (.seq (.region false [⟨some 32, .ld 8 8 3 false, none, []⟩,
   ⟨some 33, .ld 9 9 3 false, none, []⟩,
   ⟨some 34, .call 116 [.t 32, .t 33], none, []⟩,
   ⟨some 13, .new [.bool false, .sl 0 [], .int .i64 0] [], none, []⟩,
   ⟨none, .st 13 13 3 (.t 34), none, []⟩])
  (.seq (.region false [⟨some 35, .mov (.t 1), none, []⟩,
   ⟨some 36, .ld 13 13 3 false, none, []⟩,
   ⟨some 37, .call 125 [.t 35, .t 36], none, []⟩,
   ⟨some 14, .mov (.t 37), none, []⟩])
  (.seq (.region true [⟨some 38, .frz 0, none, []⟩,
   ⟨some 39, .mov (.t 1), none, []⟩,
   ⟨some 40, .ld 8 8 3 false, none, []⟩,
   ⟨some 41, .ld 13 13 3 false, none, []⟩,
   ⟨some 42, .mov (.t 4), none, []⟩,
   ⟨some 43, .mov (.t 14), none, []⟩,
   ⟨some 44, .call 129 [.t 38, .t 39, .t 40, .t 41, .t 42, .t 43], none, []⟩,
   ⟨some 45, .mov (.t 1), none, []⟩,
   ⟨some 46, .ld 13 13 3 false, none, []⟩,
   ⟨some 47, .ld 9 9 3 false, none, []⟩,
   ⟨some 48, .mov (.t 14), none, []⟩,
   ⟨some 49, .mov (.t 5), none, []⟩,
   ⟨some 50, .clo 129 [.t 44, .t 45, .t 46, .t 47, .t 48, .t 49], none, []⟩,
   ⟨some 12, .tra 50, none, []⟩])
  (.ret))))))⟩
def Tryz.r129 : List (Nat × Nat) := []
theorem Tryz.i129_ok : fnOk Tryz.prog Tryz.r129 Tryz.f129 Tryz.i129 = true := by kernel_rfl

/- pinball/pinballref02.Simple -/
def Tryz.i130 : IFunc := ⟨1, 19, [.tmp 2],
  .seq (.region false [⟨some 2, .nlo 2, none, []⟩])
  (.seq (.region false [⟨some 5, .mov (.t 0), none, []⟩,
   ⟨some 6, .call 113 [.t 5], none, []⟩,
   ⟨some 7, .call 115 [.t 6], none, []⟩,
   ⟨some 3, .mov (.t 7), none, []⟩])
  (.seq (.seq (.region false [⟨some 8, .mov (.t 3), none, []⟩,
   ⟨some 9, .len (.t 8), none, []⟩,
   ⟨some 10, .bin .leq (.t 9) (.c (.int .i64 1)), none, []⟩])
  (.cond (.t 10) (.seq (.region false [⟨some 11, .mov (.t 3), none, []⟩,
   ⟨some 2, .tra 11, none, []⟩])
  (.ret))
  (.skip)))
  (.seq (.region false [⟨some 12, .mov (.t 3), none, []⟩,
   ⟨some 13, .mov (.t 3), none, []⟩,
   ⟨some 14, .call 131 [.t 13], none, []⟩,
   ⟨some 15, .call 88 [.t 12, .t 14], none, []⟩,
   ⟨some 4, .mov (.t 15), none, []⟩])
  (.seq (.region false [⟨some 16, .mov (.t 3), none, []⟩,
   ⟨some 17, .mov (.t 4), none, []⟩,
   ⟨some 18, .clo 134 [.t 16, .t 17], none, []⟩,
   ⟨some 2, .tra 18, none, []⟩])
  (.ret)))))⟩
def Tryz.r130 : List (Nat × Nat) := []
theorem Tryz.i130_ok : fnOk Tryz.prog Tryz.r130 Tryz.f130 Tryz.i130 = true := by kernel_rfl

/- pinball/pinballref02.Derivative -/
def Tryz.i131 : IFunc := ⟨1, 23, [.tmp 2],
  .seq (.region false [⟨some 2, .nlo 2, none, []⟩])
  (.seq (.region false [⟨some 3, .nlo 2, none, []⟩])
  (.seq (.seq (.region false [⟨some 4, .mov (.c (.int .i64 1)), none, []⟩])
  (.block 0 (.loop (.seq (.seq (.region false [⟨some 5, .mov (.t 4), none, []⟩,
   ⟨some 6, .mov (.t 0), none, []⟩,
   ⟨some 7, .len (.t 6), none, []⟩,
   ⟨some 8, .bin .lss (.t 5) (.t 7), none, []⟩])
  (.cond (.t 8) (.skip)
  (.exit 0)))
  (.seq (.block 1 (.region true [⟨some 11, .tra 3, none, []⟩,
   ⟨some 12, .mov (.t 4), none, []⟩,
   ⟨some 13, .call 34 [.t 12], none, []⟩,
   ⟨some 14, .mov (.t 0), none, []⟩,
   ⟨some 15, .mov (.t 4), none, []⟩,
   ⟨some 16, .ixa 14 (.t 15) 2, none, []⟩,
   ⟨some 17, .ld 16 16 2 false, none, []⟩,
   ⟨some 18, .call 37 [.t 13, .t 17], none, []⟩,
   ⟨some 19, .bls 1 [.bool false, .sl 0 []] [(0, 2, .t 18)], none, []⟩,
   ⟨some 20, .apd true (.t 11) (.t 19) 2, none, []⟩,
   ⟨some 3, .tra 20, none, []⟩]))
  (.region false [⟨some 9, .mov (.t 4), none, []⟩,
   ⟨some 10, .bin .add (.t 9) (.c (.int .i64 1)), none, []⟩,
   ⟨some 4, .mov (.t 10), none, []⟩]))))))
  (.seq (.region false [⟨some 21, .frz 3, none, []⟩,
   ⟨some 22, .clo 54 [.t 21], none, []⟩,
   ⟨some 2, .tra 22, none, []⟩])
  (.ret))))⟩
def Tryz.r131 : List (Nat × Nat) := []
theorem Tryz.i131_ok : fnOk Tryz.prog Tryz.r131 Tryz.f131 Tryz.i131 = true := by kernel_rfl

/- pinball/pinballref01.Common -/
def Tryz.i132 : IFunc := ⟨2, 27, [.cell 4 2 false],
  .seq (.region false [⟨some 2, .box (.t 0) [9], none, []⟩,
   ⟨some 3, .box (.t 1) [12], none, []⟩,
   ⟨some 4, .new [.bool false, .sl 0 []] [], none, []⟩])
  (.seq (.region true [⟨some 9, .adr 2 2 1, none, []⟩,
   ⟨some 10, .ld 9 2 1 true, none, []⟩,
   ⟨some 11, .call 65 [.c (.bool false), .t 10], none, []⟩,
   ⟨some 12, .adr 3 3 1, none, []⟩,
   ⟨some 13, .ld 12 3 1 true, none, []⟩,
   ⟨some 14, .call 65 [.c (.bool false), .t 13], none, []⟩,
   ⟨some 5, .new [.bool false, .sl 0 []] [], none, []⟩,
   ⟨some 6, .new [.bool false, .sl 0 []] [], none, []⟩,
   ⟨none, .st 5 5 2 (.t 11), none, []⟩,
   ⟨none, .st 6 6 2 (.t 14), none, []⟩])
  (.seq (.block 0 (.loop (.seq (.seq (.region false [⟨some 15, .ld 6 6 2 false, none, []⟩,
   ⟨some 16, .call 55 [.t 15], none, []⟩,
   ⟨some 17, .bin .neq (.t 16) (.c (.int .i64 0)), none, []⟩])
  (.cond (.t 17) (.skip)
  (.exit 0)))
  (.block 1 (.seq (.region false [⟨some 19, .ld 5 5 2 false, none, []⟩,
   ⟨some 20, .ld 6 6 2 false, none, []⟩,
   ⟨some 21, .call 127 [.t 19, .t 20], none, []⟩,
   ⟨some 18, .mov (.t 21), none, []⟩,
   ⟨some 22, .ext (.t 18) 0, none, []⟩,
   ⟨some 23, .ext (.t 18) 1, none, []⟩,
   ⟨some 7, .new [.bool false, .sl 0 []] [], none, []⟩,
   ⟨some 8, .new [.bool false, .sl 0 []] [], none, []⟩,
   ⟨none, .st 7 7 2 (.t 22), none, []⟩,
   ⟨none, .st 8 8 2 (.t 23), none, []⟩])
  (.region true [⟨some 24, .ld 6 6 2 false, none, []⟩,
   ⟨some 25, .ld 8 8 2 false, none, []⟩,
   ⟨none, .st 5 5 2 (.t 24), none, []⟩,
   ⟨none, .st 6 6 2 (.t 25), none, []⟩]))))))
  (.seq (.region false [⟨some 26, .ld 5 5 2 false, none, []⟩,
   ⟨none, .st 4 4 2 (.t 26), none, []⟩])
  (.ret))))⟩
def Tryz.r132 : List (Nat × Nat) := [(9, 2), (12, 3)]
theorem Tryz.i132_ok : fnOk Tryz.prog Tryz.r132 Tryz.f132 Tryz.i132 = true := by kernel_rfl

/- pinball/pinballref01.divMag -/
def Tryz.i133 : IFunc := ⟨2, 307, [.tmp 4, .tmp 5],
  .seq (.region false [⟨some 4, .nlo 1, none, []⟩,
   ⟨some 5, .nlo 1, none, []⟩])
  (.seq (.seq (.region false [⟨some 25, .mov (.t 0), none, []⟩,
   ⟨some 26, .mov (.t 1), none, []⟩,
   ⟨some 27, .call 66 [.t 25, .t 26], none, []⟩,
   ⟨some 28, .bin .lss (.t 27) (.c (.int .i64 0)), none, []⟩])
  (.cond (.t 28) (.seq (.region false [⟨some 29, .mov (.t 0), none, []⟩,
   ⟨some 4, .nlo 1, none, []⟩,
   ⟨some 5, .tra 29, none, []⟩])
  (.ret))
  (.skip)))
  (.seq (.seq (.region false [⟨some 30, .mov (.t 1), none, []⟩,
   ⟨some 31, .len (.t 30), none, []⟩,
   ⟨some 32, .bin .eql (.t 31) (.c (.int .i64 1)), none, []⟩])
  (.cond (.t 32) (.seq (.region false [⟨some 33, .mov (.t 0), none, []⟩,
   ⟨some 34, .len (.t 33), none, []⟩,
   ⟨some 35, .mks [.int .u32 0] (.t 34), none, []⟩,
   ⟨some 6, .tra 35, none, [51, 60]⟩])
  (.seq (.region false [⟨some 7, .mov (.c (.int .u64 0)), none, []⟩])
  (.seq (.seq (.region false [⟨some 36, .mov (.t 0), none, []⟩,
   ⟨some 37, .len (.t 36), none, []⟩,
   ⟨some 38, .bin .sub (.t 37) (.c (.int .i64 1)), none, []⟩,
   ⟨some 8, .mov (.t 38), none, []⟩])
  (.block 0 (.loop (.seq (.seq (.region false [⟨some 39, .mov (.t 8), none, []⟩,
   ⟨some 40, .bin .geq (.t 39) (.c (.int .i64 0)), none, []⟩])
  (.cond (.t 40) (.skip)
  (.exit 0)))
  (.seq (.block 1 (.seq (.region false [⟨some 43, .mov (.t 7), none, []⟩,
   ⟨some 44, .bin .shl (.t 43) (.c (.int .u64 32)), none, []⟩,
   ⟨some 45, .mov (.t 0), none, []⟩,
   ⟨some 46, .mov (.t 8), none, []⟩,
   ⟨some 47, .ixa 45 (.t 46) 1, none, []⟩,
   ⟨some 48, .ld 47 47 1 true, none, []⟩,
   ⟨some 49, .cv .u64 (.t 48), none, []⟩,
   ⟨some 50, .bin .or (.t 44) (.t 49), none, []⟩,
   ⟨some 7, .mov (.t 50), none, []⟩])
  (.seq (.region false [⟨some 51, .cpy 6, none, []⟩,
   ⟨some 52, .mov (.t 8), none, []⟩,
   ⟨some 53, .mov (.t 7), none, []⟩,
   ⟨some 54, .mov (.t 1), none, []⟩,
   ⟨some 55, .ixa 54 (.c (.int .i64 0)) 1, none, []⟩,
   ⟨some 56, .ld 55 55 1 true, none, []⟩,
   ⟨some 57, .cv .u64 (.t 56), none, []⟩,
   ⟨some 58, .bin .quo (.t 53) (.t 57), none, []⟩,
   ⟨some 59, .cv .u32 (.t 58), none, []⟩,
   ⟨some 60, .ixo 51 6 (.t 52) 1, none, []⟩,
   ⟨none, .st 60 6 1 (.t 59), none, []⟩])
  (.region false [⟨some 61, .mov (.t 7), none, []⟩,
   ⟨some 62, .mov (.t 1), none, []⟩,
   ⟨some 63, .ixa 62 (.c (.int .i64 0)) 1, none, []⟩,
   ⟨some 64, .ld 63 63 1 true, none, []⟩,
   ⟨some 65, .cv .u64 (.t 64), none, []⟩,
   ⟨some 66, .bin .rem (.t 61) (.t 65), none, []⟩,
   ⟨some 7, .mov (.t 66), none, []⟩]))))
  (.region false [⟨some 41, .mov (.t 8), none, []⟩,
   ⟨some 42, .bin .sub (.t 41) (.c (.int .i64 1)), none, []⟩,
   ⟨some 8, .mov (.t 42), none, []⟩]))))))
  (.seq (.region false [⟨some 67, .frz 6, none, []⟩,
   ⟨some 68, .clo 67 [.t 67], none, []⟩,
   ⟨some 69, .mov (.t 7), none, []⟩,
   ⟨some 70, .cv .u32 (.t 69), none, []⟩,
   ⟨some 71, .bls 1 [.int .u32 0] [(0, 1, .t 70)], none, []⟩,
   ⟨some 72, .clo 67 [.t 71], none, []⟩,
   ⟨some 4, .tra 68, none, []⟩,
   ⟨some 5, .tra 72, none, []⟩])
  (.ret)))))
  (.skip)))
  (.seq (.region false [⟨some 9, .mov (.c (.int .i64 0)), none, []⟩])
  (.seq (.block 2 (.loop (.seq (.seq (.region false [⟨some 73, .mov (.t 1), none, []⟩,
   ⟨some 74, .mov (.t 1), none, []⟩,
   ⟨some 75, .len (.t 74), none, []⟩,
   ⟨some 76, .bin .sub (.t 75) (.c (.int .i64 1)), none, []⟩,
   ⟨some 77, .ixa 73 (.t 76) 1, none, []⟩,
   ⟨some 78, .ld 77 77 1 true, none, []⟩,
   ⟨some 79, .mov (.t 9), none, []⟩,
   ⟨some 80, .cv .u64 (.t 79), none, []⟩,
   ⟨some 81, .bin .shl (.t 78) (.t 80), none, []⟩,
   ⟨some 82, .bin .and (.t 81) (.c (.int .u32 2147483648)), none, []⟩,
   ⟨some 83, .bin .eql (.t 82) (.c (.int .u32 0)), none, []⟩])
  (.cond (.t 83) (.skip)
  (.exit 2)))
  (.block 3 (.region false [⟨some 84, .mov (.t 9), none, []⟩,
   ⟨some 85, .bin .add (.t 84) (.c (.int .i64 1)), none, []⟩,
   ⟨some 9, .mov (.t 85), none, []⟩])))))
  (.seq (.region false [⟨some 86, .mov (.t 1), none, []⟩,
   ⟨some 87, .bld [.bool false, .sl 0 []] [(1, 1, .t 86)], none, []⟩,
   ⟨some 88, .mov (.t 9), none, []⟩,
   ⟨some 89, .call 81 [.t 87, .t 88], none, []⟩,
   ⟨some 90, .fld (.t 89) 1 1 true, none, []⟩,
   ⟨some 10, .mov (.t 90), none, []⟩])
  (.seq (.region false [⟨some 91, .mov (.t 0), none, []⟩,
   ⟨some 92, .bld [.bool false, .sl 0 []] [(1, 1, .t 91)], none, []⟩,
   ⟨some 93, .mov (.t 9), none, []⟩,
   ⟨some 94, .call 81 [.t 92, .t 93], none, []⟩,
   ⟨some 95, .fld (.t 94) 1 1 true, none, []⟩,
   ⟨some 96, .bls 2 [.int .u32 0, .int .u32 0] [(0, 1, .c (.int .u32 0)), (1, 1, .c (.int .u32 0))], none, []⟩,
   ⟨some 97, .apd true (.t 95) (.t 96) 1, none, []⟩,
   ⟨some 11, .tra 97, none, [109, 114, 123, 127, 131, 136, 172, 177, 210, 214, 222, 228, 233, 237, 244, 250, 262, 266, 276, 282, 285, 289, 294]⟩])
  (.seq (.region false [⟨some 98, .frz 11, none, []⟩,
   ⟨some 99, .mov (.t 0), none, []⟩,
   ⟨some 100, .len (.t 99), none, []⟩,
   ⟨some 101, .bin .add (.t 100) (.c (.int .i64 1)), none, []⟩,
   ⟨some 102, .mov (.t 1), none, []⟩,
   ⟨some 103, .len (.t 102), none, []⟩,
   ⟨some 104, .bin .add (.t 103) (.c (.int .i64 1)), none, []⟩,
   ⟨some 105, .mx [.t 101, .t 104], none, []⟩,
   ⟨some 106, .sli (.t 98) none (some (.t 105)) none 1, none, []⟩,
   ⟨some 11, .tra 106, none, [109, 114, 123, 127, 131, 136, 172, 177, 210, 214, 222, 228, 233, 237, 244, 250, 262, 266, 276, 282, 285, 289, 294]⟩])
  (.seq (.region false [⟨some 107, .mov (.t 10), none, []⟩,
   ⟨some 108, .len (.t 107), none, []⟩,
   ⟨some 12, .mov (.t 108), none, []⟩])
  (.seq (.region false [⟨some 109, .cpy 11, none, []⟩,
   ⟨some 110, .lno 109 11, none, []⟩,
   ⟨some 111, .mov (.t 12), none, []⟩,
   ⟨some 112, .bin .sub (.t 110) (.t 111), none, []⟩,
   ⟨some 113, .mks [.int .u32 0] (.t 112), none, []⟩,
   ⟨some 13, .tra 113, none, [295, 299]⟩])
  (.seq (.seq (.region false [⟨some 114, .cpy 11, none, []⟩,
   ⟨some 115, .lno 114 11, none, []⟩,
   ⟨some 116, .mov (.t 12), none, []⟩,
   ⟨some 117, .bin .sub (.t 115) (.t 116), none, []⟩,
   ⟨some 118, .bin .sub (.t 117) (.c (.int .i64 1)), none, []⟩,
   ⟨some 14, .mov (.t 118), none, []⟩])
  (.block 4 (.loop (.seq (.seq (.region false [⟨some 119, .mov (.t 14), none, []⟩,
   ⟨some 120, .bin .geq (.t 119) (.c (.int .i64 0)), none, []⟩])
  (.cond (.t 120) (.skip)
  (.exit 4)))
  (.seq (.block 5 (.seq (.region true [⟨some 123, .cpy 11, none, []⟩,
   ⟨some 124, .mov (.t 14), none, []⟩,
   ⟨some 125, .mov (.t 12), none, []⟩,
   ⟨some 126, .bin .add (.t 124) (.t 125), none, []⟩,
   ⟨some 127, .ixo 123 11 (.t 126) 1, none, []⟩,
   ⟨some 128, .ld 127 11 1 true, none, []⟩,
   ⟨some 129, .cv .u64 (.t 128), none, []⟩,
   ⟨some 130, .bin .shl (.t 129) (.c (.int .u64 32)), none, []⟩,
   ⟨some 131, .cpy 11, none, []⟩,
   ⟨some 132, .mov (.t 14), none, []⟩,
   ⟨some 133, .mov (.t 12), none, []⟩,
   ⟨some 134, .bin .add (.t 132) (.t 133), none, []⟩,
   ⟨some 135, .bin .sub (.t 134) (.c (.int .i64 1)), none, []⟩,
   ⟨some 136, .ixo 131 11 (.t 135) 1, none, []⟩,
   ⟨some 137, .ld 136 11 1 true, none, []⟩,
   ⟨some 138, .cv .u64 (.t 137), none, []⟩,
   ⟨some 139, .bin .or (.t 130) (.t 138), none, []⟩,
   ⟨some 15, .mov (.t 139), none, []⟩])
  (.seq (.region true [⟨some 140, .mov (.t 15), none, []⟩,
   ⟨some 141, .mov (.t 10), none, []⟩,
   ⟨some 142, .mov (.t 12), none, []⟩,
   ⟨some 143, .bin .sub (.t 142) (.c (.int .i64 1)), none, []⟩,
   ⟨some 144, .ixa 141 (.t 143) 1, none, []⟩,
   ⟨some 145, .ld 144 144 1 true, none, []⟩,
   ⟨some 146, .cv .u64 (.t 145), none, []⟩,
   ⟨some 147, .bin .quo (.t 140) (.t 146), none, []⟩,
   ⟨some 148, .mov (.t 15), none, []⟩,
   ⟨some 149, .mov (.t 10), none, []⟩,
   ⟨some 150, .mov (.t 12), none, []⟩,
   ⟨some 151, .bin .sub (.t 150) (.c (.int .i64 1)), none, []⟩,
   ⟨some 152, .ixa 149 (.t 151) 1, none, []⟩,
   ⟨some 153, .ld 152 152 1 true, none, []⟩,
   ⟨some 154, .cv .u64 (.t 153), none, []⟩,
   ⟨some 155, .bin .rem (.t 148) (.t 154), none, []⟩,
   ⟨some 16, .mov (.t 147), none, []⟩,
   ⟨some 17, .mov (.t 155), none, []⟩])
  (.seq (.block 6 (.loop (.seq (.seq (.region true [⟨some 156, .mov (.t 16), none, []⟩,
   ⟨some 157, .bin .geq (.t 156) (.c (.int .u64 4294967296)), none, []⟩,
   ⟨some 158, .mov (.t 157), none, []⟩,
   ⟨some 159, .mov (.t 17), some (158, false), []⟩,
   ⟨some 160, .bin .lss (.t 159) (.c (.int .u64 4294967296)), some (158, false), []⟩,
   ⟨some 161, .mov (.t 160), some (158, false), []⟩,
   ⟨some 162, .mov (.t 16), some (161, true), []⟩,
   ⟨some 163, .mov (.t 10), some (161, true), []⟩,
   ⟨some 164, .mov (.t 12), some (161, true), []⟩,
   ⟨some 165, .bin .sub (.t 164) (.c (.int .i64 2)), some (161, true), []⟩,
   ⟨some 166, .ixa 163 (.t 165) 1, some (161, true), []⟩,
   ⟨some 167, .ld 166 166 1 true, some (161, true), []⟩,
   ⟨some 168, .cv .u64 (.t 167), some (161, true), []⟩,
   ⟨some 169, .bin .mul (.t 162) (.t 168), some (161, true), []⟩,
   ⟨some 170, .mov (.t 17), some (161, true), []⟩,
   ⟨some 171, .bin .shl (.t 170) (.c (.int .u64 32)), some (161, true), []⟩,
   ⟨some 172, .cpy 11, some (161, true), []⟩,
   ⟨some 173, .mov (.t 14), some (161, true), []⟩,
   ⟨some 174, .mov (.t 12), some (161, true), []⟩,
   ⟨some 175, .bin .add (.t 173) (.t 174), some (161, true), []⟩,
   ⟨some 176, .bin .sub (.t 175) (.c (.int .i64 2)), some (161, true), []⟩,
   ⟨some 177, .ixo 172 11 (.t 176) 1, some (161, true), []⟩,
   ⟨some 178, .ld 177 11 1 true, some (161, true), []⟩,
   ⟨some 179, .cv .u64 (.t 178), some (161, true), []⟩,
   ⟨some 180, .bin .or (.t 171) (.t 179), some (161, true), []⟩,
   ⟨some 181, .bin .gtr (.t 169) (.t 180), some (161, true), []⟩,
   ⟨some 182, .pick (.t 161) (.t 181) (.c (.bool false)), some (158, false), []⟩,
   ⟨some 183, .pick (.t 158) (.c (.bool true)) (.t 182), none, []⟩])
  (.cond (.t 183) (.skip)
  (.exit 6)))
  (.block 7 (.seq (.region false [⟨some 184, .mov (.t 16), none, []⟩,
   ⟨some 185, .bin .sub (.t 184) (.c (.int .u64 1)), none, []⟩,
   ⟨some 16, .mov (.t 185), none, []⟩])
  (.seq (.region false [⟨some 186, .mov (.t 17), none, []⟩,
   ⟨some 187, .mov (.t 10), none, []⟩,
   ⟨some 188, .mov (.t 12), none, []⟩,
   ⟨some 189, .bin .sub (.t 188) (.c (.int .i64 1)), none, []⟩,
   ⟨some 190, .ixa 187 (.t 189) 1, none, []⟩,
   ⟨some 191, .ld 190 190 1 true, none, []⟩,
   ⟨some 192, .cv .u64 (.t 191), none, []⟩,
   ⟨some 193, .bin .add (.t 186) (.t 192), none, []⟩,
   ⟨some 17, .mov (.t 193), none, []⟩])
  (.seq (.region false [⟨some 194, .mov (.t 17), none, []⟩,
   ⟨some 195, .bin .geq (.t 194) (.c (.int .u64 4294967296)), none, []⟩])
  (.cond (.t 195) (.exit 6)
  (.skip)))))))))
  (.seq (.region false [⟨some 18, .mov (.c (.int .u64 0)), none, []⟩,
   ⟨some 19, .mov (.c (.int .u64 0)), none, []⟩])
  (.seq (.seq (.region false [⟨some 20, .mov (.c (.int .i64 0)), none, []⟩])
  (.block 8 (.loop (.seq (.seq (.region false [⟨some 196, .mov (.t 20), none, []⟩,
   ⟨some 197, .mov (.t 12), none, []⟩,
   ⟨some 198, .bin .lss (.t 196) (.t 197), none, []⟩])
  (.cond (.t 198) (.skip)
  (.exit 8)))
  (.seq (.block 9 (.seq (.region false [⟨some 201, .mov (.t 19), none, []⟩,
   ⟨some 202, .mov (.t 16), none, []⟩,
   ⟨some 203, .mov (.t 10), none, []⟩,
   ⟨some 204, .mov (.t 20), none, []⟩,
   ⟨some 205, .ixa 203 (.t 204) 1, none, []⟩,
   ⟨some 206, .ld 205 205 1 true, none, []⟩,
   ⟨some 207, .cv .u64 (.t 206), none, []⟩,
   ⟨some 208, .bin .mul (.t 202) (.t 207), none, []⟩,
   ⟨some 209, .bin .add (.t 201) (.t 208), none, []⟩,
   ⟨some 19, .mov (.t 209), none, []⟩])
  (.seq (.region false [⟨some 210, .cpy 11, none, []⟩,
   ⟨some 211, .mov (.t 20), none, []⟩,
   ⟨some 212, .mov (.t 14), none, []⟩,
   ⟨some 213, .bin .add (.t 211) (.t 212), none, []⟩,
   ⟨some 214, .ixo 210 11 (.t 213) 1, none, []⟩,
   ⟨some 215, .ld 214 11 1 true, none, []⟩,
   ⟨some 216, .cv .u64 (.t 215), none, []⟩,
   ⟨some 217, .mov (.t 19), none, []⟩,
   ⟨some 218, .bin .and (.t 217) (.c (.int .u64 4294967295)), none, []⟩,
   ⟨some 219, .bin .sub (.t 216) (.t 218), none, []⟩,
   ⟨some 220, .mov (.t 18), none, []⟩,
   ⟨some 221, .bin .sub (.t 219) (.t 220), none, []⟩,
   ⟨some 21, .mov (.t 221), none, []⟩])
  (.seq (.region false [⟨some 222, .cpy 11, none, []⟩,
   ⟨some 223, .mov (.t 20), none, []⟩,
   ⟨some 224, .mov (.t 14), none, []⟩,
   ⟨some 225, .bin .add (.t 223) (.t 224), none, []⟩,
   ⟨some 226, .mov (.t 21), none, []⟩,
   ⟨some 227, .cv .u32 (.t 226), none, []⟩,
   ⟨some 228, .ixo 222 11 (.t 225) 1, none, []⟩,
   ⟨none, .st 228 11 1 (.t 227), none, []⟩])
  (.seq (.region false [⟨some 229, .mov (.t 21), none, []⟩,
   ⟨some 230, .bin .shr (.t 229) (.c (.int .u64 63)), none, []⟩,
   ⟨some 18, .mov (.t 230), none, []⟩])
  (.region false [⟨some 231, .mov (.t 19), none, []⟩,
   ⟨some 232, .bin .shr (.t 231) (.c (.int .u64 32)), none, []⟩,
   ⟨some 19, .mov (.t 232), none, []⟩]))))))
  (.region false [⟨some 199, .mov (.t 20), none, []⟩,
   ⟨some 200, .bin .add (.t 199) (.c (.int .i64 1)), none, []⟩,
   ⟨some 20, .mov (.t 200), none, []⟩]))))))
  (.seq (.region false [⟨some 233, .cpy 11, none, []⟩,
   ⟨some 234, .mov (.t 14), none, []⟩,
   ⟨some 235, .mov (.t 12), none, []⟩,
   ⟨some 236, .bin .add (.t 234) (.t 235), none, []⟩,
   ⟨some 237, .ixo 233 11 (.t 236) 1, none, []⟩,
   ⟨some 238, .ld 237 11 1 true, none, []⟩,
   ⟨some 239, .cv .u64 (.t 238), none, []⟩,
   ⟨some 240, .mov (.t 19), none, []⟩,
   ⟨some 241, .bin .sub (.t 239) (.t 240), none, []⟩,
   ⟨some 242, .mov (.t 18), none, []⟩,
   ⟨some 243, .bin .sub (.t 241) (.t 242), none, []⟩,
   ⟨some 22, .mov (.t 243), none, []⟩])
  (.seq (.region false [⟨some 244, .cpy 11, none, []⟩,
   ⟨some 245, .mov (.t 14), none, []⟩,
   ⟨some 246, .mov (.t 12), none, []⟩,
   ⟨some 247, .bin .add (.t 245) (.t 246), none, []⟩,
   ⟨some 248, .mov (.t 22), none, []⟩,
   ⟨some 249, .cv .u32 (.t 248), none, []⟩,
   ⟨some 250, .ixo 244 11 (.t 247) 1, none, []⟩,
   ⟨none, .st 250 11 1 (.t 249), none, []⟩])
  (.seq (.seq (.region false [⟨some 251, .mov (.t 22), none, []⟩,
   ⟨some 252, .bin .shr (.t 251) (.c (.int .u64 63)), none, []⟩,
   ⟨some 253, .bin .neq (.t 252) (.c (.int .u64 0)), none, []⟩])
  (.cond (.t 253) (.seq (.region false [⟨some 254, .mov (.t 16), none, []⟩,
   ⟨some 255, .bin .sub (.t 254) (.c (.int .u64 1)), none, []⟩,
   ⟨some 16, .mov (.t 255), none, []⟩])
  (.seq (.region false [⟨some 23, .mov (.c (.int .u64 0)), none, []⟩])
  (.seq (.seq (.region false [⟨some 24, .mov (.c (.int .i64 0)), none, []⟩])
  (.block 10 (.loop (.seq (.seq (.region false [⟨some 256, .mov (.t 24), none, []⟩,
   ⟨some 257, .mov (.t 12), none, []⟩,
   ⟨some 258, .bin .lss (.t 256) (.t 257), none, []⟩])
  (.cond (.t 258) (.skip)
  (.exit 10)))
  (.seq (.block 11 (.seq (.region true [⟨some 261, .mov (.t 23), none, []⟩,
   ⟨some 262, .cpy 11, none, []⟩,
   ⟨some 263, .mov (.t 24), none, []⟩,
   ⟨some 264, .mov (.t 14), none, []⟩,
   ⟨some 265, .bin .add (.t 263) (.t 264), none, []⟩,
   ⟨some 266, .ixo 262 11 (.t 265) 1, none, []⟩,
   ⟨some 267, .ld 266 11 1 true, none, []⟩,
   ⟨some 268, .cv .u64 (.t 267), none, []⟩,
   ⟨some 269, .mov (.t 10), none, []⟩,
   ⟨some 270, .mov (.t 24), none, []⟩,
   ⟨some 271, .ixa 269 (.t 270) 1, none, []⟩,
   ⟨some 272, .ld 271 271 1 true, none, []⟩,
   ⟨some 273, .cv .u64 (.t 272), none, []⟩,
   ⟨some 274, .bin .add (.t 268) (.t 273), none, []⟩,
   ⟨some 275, .bin .add (.t 261) (.t 274), none, []⟩,
   ⟨some 23, .mov (.t 275), none, []⟩])
  (.seq (.region false [⟨some 276, .cpy 11, none, []⟩,
   ⟨some 277, .mov (.t 24), none, []⟩,
   ⟨some 278, .mov (.t 14), none, []⟩,
   ⟨some 279, .bin .add (.t 277) (.t 278), none, []⟩,
   ⟨some 280, .mov (.t 23), none, []⟩,
   ⟨some 281, .cv .u32 (.t 280), none, []⟩,
   ⟨some 282, .ixo 276 11 (.t 279) 1, none, []⟩,
   ⟨none, .st 282 11 1 (.t 281), none, []⟩])
  (.region false [⟨some 283, .mov (.t 23), none, []⟩,
   ⟨some 284, .bin .shr (.t 283) (.c (.int .u64 32)), none, []⟩,
   ⟨some 23, .mov (.t 284), none, []⟩]))))
  (.region false [⟨some 259, .mov (.t 24), none, []⟩,
   ⟨some 260, .bin .add (.t 259) (.c (.int .i64 1)), none, []⟩,
   ⟨some 24, .mov (.t 260), none, []⟩]))))))
  (.region false [⟨some 285, .cpy 11, none, []⟩,
   ⟨some 286, .mov (.t 14), none, []⟩,
   ⟨some 287, .mov (.t 12), none, []⟩,
   ⟨some 288, .bin .add (.t 286) (.t 287), none, []⟩,
   ⟨some 289, .ixo 285 11 (.t 288) 1, none, []⟩,
   ⟨some 290, .ld 289 11 1 true, none, []⟩,
   ⟨some 291, .mov (.t 23), none, []⟩,
   ⟨some 292, .cv .u32 (.t 291), none, []⟩,
   ⟨some 293, .bin .add (.t 290) (.t 292), none, []⟩,
   ⟨some 294, .ixo 285 11 (.t 288) 1, none, []⟩,
   ⟨none, .st 294 11 1 (.t 293), none, []⟩]))))
  (.skip)))
  (.region false [⟨some 295, .cpy 13, none, []⟩,
   ⟨some 296, .mov (.t 14), none, []⟩,
   ⟨some 297, .mov (.t 16), none, []⟩,
   ⟨some 298, .cv .u32 (.t 297), none, []⟩,
   ⟨some 299, .ixo 295 13 (.t 296) 1, none, []⟩,
   ⟨none, .st 299 13 1 (.t 298), none, []⟩]))))))))))
  (.region false [⟨some 121, .mov (.t 14), none, []⟩,
   ⟨some 122, .bin .sub (.t 121) (.c (.int .i64 1)), none, []⟩,
   ⟨some 14, .mov (.t 122), none, []⟩]))))))
  (.seq (.region false [⟨some 300, .frz 13, none, []⟩,
   ⟨some 301, .clo 67 [.t 300], none, []⟩,
   ⟨some 302, .frz 11, none, []⟩,
   ⟨some 303, .bld [.bool false, .sl 0 []] [(1, 1, .t 302)], none, []⟩,
   ⟨some 304, .mov (.t 9), none, []⟩,
   ⟨some 305, .call 91 [.t 303, .t 304], none, []⟩,
   ⟨some 306, .fld (.t 305) 1 1 true, none, []⟩,
   ⟨some 4, .tra 301, none, []⟩,
   ⟨some 5, .tra 306, none, []⟩])
  (.ret))))))))))))⟩
def Tryz.r133 : List (Nat × Nat) := [(51, 6), (60, 6), (109, 11), (114, 11), (123, 11), (127, 11), (131, 11), (136, 11), (172, 11), (177, 11), (210, 11), (214, 11), (222, 11), (228, 11), (233, 11), (237, 11), (244, 11), (250, 11), (262, 11), (266, 11), (276, 11), (282, 11), (285, 11), (289, 11), (294, 11), (295, 13), (299, 13)]
theorem Tryz.i133_ok : fnOk Tryz.prog Tryz.r133 Tryz.f133 Tryz.i133 = true := by kernel_rfl

/- pinball/pinballref02.Over -/
def Tryz.i134 : IFunc := ⟨2, 103, [.tmp 4],
  .seq (.region false [⟨some 4, .nlo 2, none, []⟩])
  (.seq (.region false [⟨some 15, .mov (.t 0), none, []⟩,
   ⟨some 16, .call 54 [.t 15], none, []⟩,
   ⟨some 17, .mov (.t 1), none, []⟩,
   ⟨some 18, .call 54 [.t 17], none, []⟩,
   ⟨some 5, .mov (.t 16), none, []⟩,
   ⟨some 6, .mov (.t 18), none, []⟩])
  (.seq (.region false [⟨some 19, .mov (.t 6), none, []⟩,
   ⟨some 20, .mov (.t 6), none, []⟩,
   ⟨some 21, .len (.t 20), none, []⟩,
   ⟨some 22, .bin .sub (.t 21) (.c (.int .i64 1)), none, []⟩,
   ⟨some 23, .ixa 19 (.t 22) 2, none, []⟩,
   ⟨some 24, .ld 23 23 2 false, none, []⟩,
   ⟨some 7, .new [.bool false, .sl 0 []] [], none, []⟩,
   ⟨none, .st 7 7 2 (.t 24), none, []⟩])
  (.seq (.region false [⟨some 25, .mov (.t 5), none, []⟩,
   ⟨some 26, .len (.t 25), none, []⟩,
   ⟨some 27, .mov (.t 6), none, []⟩,
   ⟨some 28, .len (.t 27), none, []⟩,
   ⟨some 29, .bin .sub (.t 26) (.t 28), none, []⟩,
   ⟨some 30, .bin .add (.t 29) (.c (.int .i64 1)), none, []⟩,
   ⟨some 31, .mks [.bool false, .sl 0 []] (.t 30), none, []⟩,
   ⟨some 8, .tra 31, none, [49, 54, 56, 58, 62, 63, 66]⟩])
  (.seq (.block 0 (.loop (.seq (.seq (.region false [⟨some 32, .mov (.t 5), none, []⟩,
   ⟨some 33, .len (.t 32), none, []⟩,
   ⟨some 34, .mov (.t 6), none, []⟩,
   ⟨some 35, .len (.t 34), none, []⟩,
   ⟨some 36, .bin .geq (.t 33) (.t 35), none, []⟩])
  (.cond (.t 36) (.skip)
  (.exit 0)))
  (.block 1 (.seq (.region false [⟨some 37, .mov (.t 5), none, []⟩,
   ⟨some 38, .mov (.t 5), none, []⟩,
   ⟨some 39, .len (.t 38), none, []⟩,
   ⟨some 40, .bin .sub (.t 39) (.c (.int .i64 1)), none, []⟩,
   ⟨some 41, .ixa 37 (.t 40) 2, none, []⟩,
   ⟨some 42, .ld 41 41 2 false, none, []⟩,
   ⟨some 9, .new [.bool false, .sl 0 []] [], none, []⟩,
   ⟨none, .st 9 9 2 (.t 42), none, []⟩])
  (.seq (.region false [⟨some 43, .mov (.t 5), none, []⟩,
   ⟨some 44, .len (.t 43), none, []⟩,
   ⟨some 45, .mov (.t 6), none, []⟩,
   ⟨some 46, .len (.t 45), none, []⟩,
   ⟨some 47, .bin .sub (.t 44) (.t 46), none, []⟩,
   ⟨some 10, .mov (.t 47), none, []⟩])
  (.seq (.seq (.region false [⟨some 11, .mov (.c (.int .i64 0)), none, []⟩])
  (.block 2 (.loop (.seq (.seq (.region false [⟨some 48, .mov (.t 11), none, []⟩,
   ⟨some 49, .cpy 8, none, []⟩,
   ⟨some 50, .lno 49 8, none, []⟩,
   ⟨some 51, .bin .lss (.t 48) (.t 50), none, []⟩])
  (.cond (.t 51) (.skip)
  (.exit 2)))
  (.seq (.block 3 (.region true [⟨some 54, .cpy 8, none, []⟩,
   ⟨some 55, .mov (.t 11), none, []⟩,
   ⟨some 56, .cpy 8, none, []⟩,
   ⟨some 57, .mov (.t 11), none, []⟩,
   ⟨some 58, .ixo 56 8 (.t 57) 2, none, []⟩,
   ⟨some 59, .ld 58 8 2 false, none, []⟩,
   ⟨some 60, .ld 7 7 2 false, none, []⟩,
   ⟨some 61, .call 37 [.t 59, .t 60], none, []⟩,
   ⟨some 62, .ixo 54 8 (.t 55) 2, none, []⟩,
   ⟨none, .st 62 8 2 (.t 61), none, []⟩]))
  (.region false [⟨some 52, .mov (.t 11), none, []⟩,
   ⟨some 53, .bin .add (.t 52) (.c (.int .i64 1)), none, []⟩,
   ⟨some 11, .mov (.t 53), none, []⟩]))))))
  (.seq (.region false [⟨some 63, .cpy 8, none, []⟩,
   ⟨some 64, .mov (.t 10), none, []⟩,
   ⟨some 65, .ld 9 9 2 false, none, []⟩,
   ⟨some 66, .ixo 63 8 (.t 64) 2, none, []⟩,
   ⟨none, .st 66 8 2 (.t 65), none, []⟩])
  (.seq (.region false [⟨some 12, .nlo 2, none, []⟩])
  (.seq (.seq (.region false [⟨some 13, .mov (.c (.int .i64 0)), none, []⟩])
  (.block 4 (.loop (.seq (.seq (.region false [⟨some 67, .mov (.t 13), none, []⟩,
   ⟨some 68, .mov (.t 5), none, []⟩,
   ⟨some 69, .len (.t 68), none, []⟩,
   ⟨some 70, .bin .sub (.t 69) (.c (.int .i64 1)), none, []⟩,
   ⟨some 71, .bin .lss (.t 67) (.t 70), none, []⟩])
  (.cond (.t 71) (.skip)
  (.exit 4)))
  (.seq (.block 5 (.seq (.region true [⟨some 74, .ld 7 7 2 false, none, []⟩,
   ⟨some 75, .mov (.t 5), none, []⟩,
   ⟨some 76, .mov (.t 13), none, []⟩,
   ⟨some 77, .ixa 75 (.t 76) 2, none, []⟩,
   ⟨some 78, .ld 77 77 2 false, none, []⟩,
   ⟨some 79, .call 37 [.t 74, .t 78], none, []⟩,
   ⟨some 14, .new [.bool false, .sl 0 []] [], none, []⟩,
   ⟨none, .st 14 14 2 (.t 79), none, []⟩])
  (.seq (.seq (.region false [⟨some 80, .mov (.t 13), none, []⟩,
   ⟨some 81, .mov (.t 10), none, []⟩,
   ⟨some 82, .bin .geq (.t 80) (.t 81), none, []⟩])
  (.cond (.t 82) (.region true [⟨some 83, .ld 14 14 2 false, none, []⟩,
   ⟨some 84, .ld 9 9 2 false, none, []⟩,
   ⟨some 85, .mov (.t 6), none, []⟩,
   ⟨some 86, .mov (.t 13), none, []⟩,
   ⟨some 87, .mov (.t 10), none, []⟩,
   ⟨some 88, .bin .sub (.t 86) (.t 87), none, []⟩,
   ⟨some 89, .ixa 85 (.t 88) 2, none, []⟩,
   ⟨some 90, .ld 89 89 2 false, none, []⟩,
   ⟨some 91, .call 37 [.t 84, .t 90], none, []⟩,
   ⟨some 92, .call 92 [.t 83, .t 91], none, []⟩,
   ⟨none, .st 14 14 2 (.t 92), none, []⟩])
  (.skip)))
  (.region false [⟨some 93, .tra 12, none, []⟩,
   ⟨some 94, .ld 14 14 2 false, none, []⟩,
   ⟨some 95, .bls 1 [.bool false, .sl 0 []] [(0, 2, .t 94)], none, []⟩,
   ⟨some 96, .apd true (.t 93) (.t 95) 2, none, []⟩,
   ⟨some 12, .tra 96, none, []⟩]))))
  (.region false [⟨some 72, .mov (.t 13), none, []⟩,
   ⟨some 73, .bin .add (.t 72) (.c (.int .i64 1)), none, []⟩,
   ⟨some 13, .mov (.t 73), none, []⟩]))))))
  (.region false [⟨some 97, .frz 12, none, []⟩,
   ⟨some 98, .call 54 [.t 97], none, []⟩,
   ⟨some 5, .mov (.t 98), none, []⟩])))))))))))
  (.seq (.region false [⟨some 99, .frz 8, none, []⟩,
   ⟨some 100, .call 54 [.t 99], none, []⟩,
   ⟨some 101, .call 113 [.t 100], none, []⟩,
   ⟨some 102, .clo 115 [.t 101], none, []⟩,
   ⟨some 4, .tra 102, none, []⟩])
  (.ret))))))⟩
def Tryz.r134 : List (Nat × Nat) := [(49, 8), (54, 8), (56, 8), (58, 8), (62, 8), (63, 8), (66, 8)]
theorem Tryz.i134_ok : fnOk Tryz.prog Tryz.r134 Tryz.f134 Tryz.i134 = true := by kernel_rfl

end Go.Proofs.YthakfjlnhldehaaGreat
