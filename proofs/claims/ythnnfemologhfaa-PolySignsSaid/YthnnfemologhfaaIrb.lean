/- Functions of the seat in the intermediate language, printed by a program out of the translation, and that each is the program's own. -/
import Derived.Test.YthnnfemologhfaaProg
import Derived.Test.YthnnfemologhfaaAbs14
import Derived.KernelRfl
namespace Go.Proofs.Ythnnfemologhfaa
open Go.Ai
set_option maxRecDepth 100000

/- math/bits.LeadingZeros32 -/
def Try.i154 : IFunc := ⟨1, 6, [.tmp 2],
  .seq (.region false [o1 2 (.mov (.c (.int .i64 0)))])
  (.seq (.region false [oM 3 0,
   oC 4 123 [3],
   o1 5 (.bin .sub (.c (.int .i64 32)) (.t 4)),
   oM 2 5])
  (.ret))⟩
def Try.r154 : List (Nat × Nat) := []
theorem Try.i154_ok : fnOk Try.prog Try.r154 Try.f154 Try.i154 = true := by kernel_rfl

/- pinball/wide.shifted -/
def Try.i155 : IFunc := ⟨2, 42, [.tmp 4],
  .seq (.region false [o1 4 (.nlo 1)])
  (.seq (.region false [oM 9 0,
   o1 10 (.len (.t 9)),
   o1 11 (.bin .add (.t 10) (.c (.int .i64 1))),
   o1 12 (.mks [.int .u32 0] (.t 11)),
   ⟨some 5, .tra 12, none, [25, 27, 32, 33, 39]⟩])
  (.seq (.seq (.region false [oM 13 0,
   o1 14 (.len (.t 13)),
   o1 15 (.mov (.c (.int .i64 0)))])
  (.block 0 (.loop (.seq (.region false [oB 16 .lss 15 14])
  (.seq (.cond (.t 16) (.skip)
  (.exit 0))
  (.seq (.block 1 (.seq (.region false [oM 17 15,
   o1 18 (.ixa 13 (.t 15) 1),
   o1 19 (.ld 18 18 1 true),
   oM 6 17,
   oM 7 19])
  (.seq (.region false [oM 20 7,
   o1 21 (.cv .u64 (.t 20)),
   oM 22 1,
   o1 23 (.cv .u64 (.t 22)),
   oB 24 .shl 21 23,
   oM 8 24])
  (.seq (.region false [o1 25 (.cpy 5),
   oM 26 6,
   o1 27 (.ixo 25 5 (.t 26) 1),
   o1 28 (.ld 27 5 1 true),
   oM 29 8,
   o1 30 (.cv .u32 (.t 29)),
   oB 31 .or 28 30,
   o1 32 (.ixo 25 5 (.t 26) 1),
   oN (.st 32 5 1 (.t 31))])
  (.region false [o1 33 (.cpy 5),
   oM 34 6,
   o1 35 (.bin .add (.t 34) (.c (.int .i64 1))),
   oM 36 8,
   o1 37 (.bin .shr (.t 36) (.c (.int .u64 32))),
   o1 38 (.cv .u32 (.t 37)),
   o1 39 (.ixo 33 5 (.t 35) 1),
   oN (.st 39 5 1 (.t 38))])))))
  (.region false [o1 40 (.bin .add (.t 15) (.c (.int .i64 1))),
   oM 15 40])))))))
  (.seq (.region false [o1 41 (.tra 5),
   o1 4 (.tra 41)])
  (.ret))))⟩
def Try.r155 : List (Nat × Nat) := [(25, 5), (27, 5), (32, 5), (33, 5), (39, 5)]
theorem Try.i155_ok : fnOk Try.prog Try.r155 Try.f155 Try.i155 = true := by kernel_rfl

/- pinball/wide.addLimbs -/
def Try.i156 : IFunc := ⟨2, 58, [.tmp 4],
  .seq (.region false [o1 4 (.nlo 1)])
  (.seq (.seq (.region false [oM 9 0,
   o1 10 (.len (.t 9)),
   oM 11 1,
   o1 12 (.len (.t 11)),
   oB 13 .lss 10 12])
  (.cond (.t 13) (.region false [oM 14 1,
   oM 15 0,
   oM 0 14,
   oM 1 15])
  (.skip)))
  (.seq (.region false [oM 16 0,
   o1 17 (.len (.t 16)),
   o1 18 (.bin .add (.t 17) (.c (.int .i64 1))),
   o1 19 (.mks [.int .u32 0] (.t 18)),
   ⟨some 5, .tra 19, none, [43, 49, 51, 56]⟩])
  (.seq (.region false [o1 6 (.mov (.c (.int .u64 0)))])
  (.seq (.seq (.region false [oM 20 0,
   o1 21 (.len (.t 20)),
   o1 22 (.mov (.c (.int .i64 0)))])
  (.block 0 (.loop (.seq (.region false [oB 23 .lss 22 21])
  (.seq (.cond (.t 23) (.skip)
  (.exit 0))
  (.seq (.block 1 (.seq (.region false [oM 24 22,
   oM 7 24])
  (.seq (.region false [oM 25 0,
   oM 26 7,
   o1 27 (.ixa 25 (.t 26) 1),
   o1 28 (.ld 27 27 1 true),
   o1 29 (.cv .u64 (.t 28)),
   oM 30 6,
   oB 31 .add 29 30,
   oM 8 31])
  (.seq (.seq (.region false [oM 32 7,
   oM 33 1,
   o1 34 (.len (.t 33)),
   oB 35 .lss 32 34])
  (.cond (.t 35) (.region false [oM 36 8,
   oM 37 1,
   oM 38 7,
   o1 39 (.ixa 37 (.t 38) 1),
   o1 40 (.ld 39 39 1 true),
   o1 41 (.cv .u64 (.t 40)),
   oB 42 .add 36 41,
   oM 8 42])
  (.skip)))
  (.region false [o1 43 (.cpy 5),
   oM 44 7,
   oM 45 8,
   o1 46 (.cv .u32 (.t 45)),
   oM 47 8,
   o1 48 (.bin .shr (.t 47) (.c (.int .u64 32))),
   o1 49 (.ixo 43 5 (.t 44) 1),
   oN (.st 49 5 1 (.t 46)),
   oM 6 48])))))
  (.region false [o1 50 (.bin .add (.t 22) (.c (.int .i64 1))),
   oM 22 50])))))))
  (.seq (.region false [o1 51 (.cpy 5),
   oM 52 0,
   o1 53 (.len (.t 52)),
   oM 54 6,
   o1 55 (.cv .u32 (.t 54)),
   o1 56 (.ixo 51 5 (.t 53) 1),
   oN (.st 56 5 1 (.t 55))])
  (.seq (.region false [o1 57 (.tra 5),
   o1 4 (.tra 57)])
  (.ret)))))))⟩
def Try.r156 : List (Nat × Nat) := [(43, 5), (49, 5), (51, 5), (56, 5)]
theorem Try.i156_ok : fnOk Try.prog Try.r156 Try.f156 Try.i156 = true := by kernel_rfl

/- pinball/wide.subLimbs -/
def Try.i157 : IFunc := ⟨2, 44, [.tmp 4],
  .seq (.region false [o1 4 (.nlo 1)])
  (.seq (.region false [oM 9 0,
   o1 10 (.len (.t 9)),
   o1 11 (.mks [.int .u32 0] (.t 10)),
   ⟨some 5, .tra 11, none, [35, 41]⟩])
  (.seq (.region false [o1 6 (.mov (.c (.int .u64 0)))])
  (.seq (.seq (.region false [oM 12 0,
   o1 13 (.len (.t 12)),
   o1 14 (.mov (.c (.int .i64 0)))])
  (.block 0 (.loop (.seq (.region false [oB 15 .lss 14 13])
  (.seq (.cond (.t 15) (.skip)
  (.exit 0))
  (.seq (.block 1 (.seq (.region false [oM 16 14,
   oM 7 16])
  (.seq (.region false [oM 17 0,
   oM 18 7,
   o1 19 (.ixa 17 (.t 18) 1),
   o1 20 (.ld 19 19 1 true),
   o1 21 (.cv .u64 (.t 20)),
   oM 22 6,
   oB 23 .sub 21 22,
   oM 8 23])
  (.seq (.seq (.region false [oM 24 7,
   oM 25 1,
   o1 26 (.len (.t 25)),
   oB 27 .lss 24 26])
  (.cond (.t 27) (.region false [oM 28 8,
   oM 29 1,
   oM 30 7,
   o1 31 (.ixa 29 (.t 30) 1),
   o1 32 (.ld 31 31 1 true),
   o1 33 (.cv .u64 (.t 32)),
   oB 34 .sub 28 33,
   oM 8 34])
  (.skip)))
  (.region false [o1 35 (.cpy 5),
   oM 36 7,
   oM 37 8,
   o1 38 (.cv .u32 (.t 37)),
   oM 39 8,
   o1 40 (.bin .shr (.t 39) (.c (.int .u64 63))),
   o1 41 (.ixo 35 5 (.t 36) 1),
   oN (.st 41 5 1 (.t 38)),
   oM 6 40])))))
  (.region false [o1 42 (.bin .add (.t 14) (.c (.int .i64 1))),
   oM 14 42])))))))
  (.seq (.region false [o1 43 (.tra 5),
   o1 4 (.tra 43)])
  (.ret)))))⟩
def Try.r157 : List (Nat × Nat) := [(35, 5), (41, 5)]
theorem Try.i157_ok : fnOk Try.prog Try.r157 Try.f157 Try.i157 = true := by kernel_rfl

/- pinball/wide.trimmed -/
def Try.i158 : IFunc := ⟨1, 21, [.tmp 2],
  .seq (.region false [o1 2 (.nlo 1)])
  (.seq (.region false [oM 4 0,
   o1 5 (.len (.t 4)),
   oM 3 5])
  (.seq (.block 0 (.loop (.seq (.seq (.region false [oM 6 3,
   o1 7 (.bin .gtr (.t 6) (.c (.int .i64 0))),
   oM 8 7,
   oG 9 (.mov (.t 0)) 8 true,
   oG 10 (.mov (.t 3)) 8 true,
   oG 11 (.bin .sub (.t 10) (.c (.int .i64 1))) 8 true,
   oG 12 (.ixa 9 (.t 11) 1) 8 true,
   oG 13 (.ld 12 12 1 true) 8 true,
   oG 14 (.bin .eql (.t 13) (.c (.int .u32 0))) 8 true,
   o1 15 (.pick (.t 8) (.t 14) (.c (.bool false)))])
  (.cond (.t 15) (.skip)
  (.exit 0)))
  (.block 1 (.region false [oM 16 3,
   o1 17 (.bin .sub (.t 16) (.c (.int .i64 1))),
   oM 3 17])))))
  (.seq (.region false [oM 18 0,
   oM 19 3,
   o1 20 (.sli (.t 18) none (some (.t 19)) none 1),
   o1 2 (.tra 20)])
  (.ret))))⟩
def Try.r158 : List (Nat × Nat) := []
theorem Try.i158_ok : fnOk Try.prog Try.r158 Try.f158 Try.i158 = true := by kernel_rfl

end Go.Proofs.Ythnnfemologhfaa
