/- Texts of the proof of PolyFree, packed by pack.py: part 5 of 19. -/
import Derived.Test.YthnnfemologhfaaProg
import Derived.KernelRfl
import Derived.Test.YthnnfemologhfaaPfr4
namespace Go.Proofs.Ythnnfemologhfaa
open Go.Ai
set_option maxRecDepth 100000
def Try.i3 : IFunc := ⟨2, 91, [.tmp 4],
  .seq (.region false [o1 4 (.mov (.c (.bool false)))])
  (.seq (.seq (.region false [oC 17 13 [],
   o1 18 (.un .not (.t 17))])
  (.cond (.t 18) (.seq (.region false [o1 4 (.mov (.c (.bool false)))])
  (.ret))
  (.skip)))
  (.seq (.seq (.region false [oM 19 0,
   o1 20 (.len (.t 19)),
   o1 21 (.bin .gtr (.t 20) (.c (.int .i64 9))),
   oM 22 21,
   oG 23 (.mov (.t 1)) 22 false,
   oG 24 (.len (.t 23)) 22 false,
   oG 25 (.bin .gtr (.t 24) (.c (.int .i64 9))) 22 false,
   o1 26 (.pick (.t 22) (.c (.bool true)) (.t 25)),
   oM 27 26,
   oG 28 (.mov (.t 0)) 27 false,
   oG 29 (.call 14 [.t 28]) 27 false,
   oG 30 (.un .not (.t 29)) 27 false,
   o1 31 (.pick (.t 27) (.c (.bool true)) (.t 30)),
   oM 32 31,
   oG 33 (.mov (.t 1)) 32 false,
   oG 34 (.call 14 [.t 33]) 32 false,
   oG 35 (.un .not (.t 34)) 32 false,
   o1 36 (.pick (.t 32) (.c (.bool true)) (.t 35))])
  (.cond (.t 36) (.seq (.region false [oC 37 13 [],
   oM 4 37])
  (.ret))
  (.skip)))
  (.seq (.region false [oM 39 0,
   oM 40 1,
   oC 41 15 [39, 40],
   oM 38 41,
   o1 42 (.ext (.t 38) 0),
   o1 43 (.ext (.t 38) 1),
   oM 5 42,
   oM 6 43])
  (.seq (.region false [oM 45 0,
   oM 46 1,
   oC 47 16 [45, 46],
   oM 44 47,
   o1 48 (.ext (.t 44) 0),
   o1 49 (.ext (.t 44) 1),
   oM 7 48,
   oM 8 49])
  (.seq (.region false [oM 51 0,
   oC 52 17 [51],
   oM 50 52,
   o1 53 (.ext (.t 50) 0),
   o1 54 (.ext (.t 50) 1),
   oM 9 53,
   oM 10 54])
  (.seq (.region false [oM 56 0,
   oM 57 1,
   oC 58 18 [56, 57],
   oM 55 58,
   o1 59 (.ext (.t 55) 0),
   o1 60 (.ext (.t 55) 1),
   oM 11 59,
   oM 12 60])
  (.seq (.region false [oM 62 0,
   oM 63 1,
   oC 64 19 [62, 63],
   oM 61 64,
   o1 65 (.ext (.t 61) 0),
   o1 66 (.ext (.t 61) 1),
   oM 13 65,
   oM 14 66])
  (.seq (.region false [oM 68 0,
   oC 69 20 [68],
   oM 67 69,
   o1 70 (.ext (.t 67) 0),
   o1 71 (.ext (.t 67) 1),
   oM 15 70,
   oM 16 71])
  (.seq (.region false [oM 72 5,
   oM 73 6,
   oM 74 11,
   oM 75 12,
   oC 76 21 [72, 73, 74, 75],
   oM 77 76,
   oG 78 (.mov (.t 7)) 77 true,
   oG 79 (.mov (.t 8)) 77 true,
   oG 80 (.mov (.t 13)) 77 true,
   oG 81 (.mov (.t 14)) 77 true,
   oG 82 (.call 21 [.t 78, .t 79, .t 80, .t 81]) 77 true,
   o1 83 (.pick (.t 77) (.t 82) (.c (.bool false))),
   oM 84 83,
   oG 85 (.mov (.t 9)) 84 true,
   oG 86 (.mov (.t 10)) 84 true,
   oG 87 (.mov (.t 15)) 84 true,
   oG 88 (.mov (.t 16)) 84 true,
   oG 89 (.call 21 [.t 85, .t 86, .t 87, .t 88]) 84 true,
   o1 90 (.pick (.t 84) (.t 89) (.c (.bool false))),
   oM 4 90])
  (.ret))))))))))⟩
def Try.r3 : List (Nat × Nat) := []
theorem Try.i3_ok : fnOk Try.prog Try.r3 Try.f3 Try.i3 = true := by kernel_rfl
def Try.i4 : IFunc := ⟨3, 172, [.tmp 6],
  .seq (.region false [o1 6 (.mov (.c (.bool false)))])
  (.seq (.seq (.region false [oC 22 13 [],
   o1 23 (.un .not (.t 22))])
  (.cond (.t 23) (.seq (.region false [o1 6 (.mov (.c (.bool false)))])
  (.ret))
  (.skip)))
  (.seq (.seq (.region false [oM 24 0,
   o1 25 (.len (.t 24)),
   o1 26 (.bin .gtr (.t 25) (.c (.int .i64 4))),
   oM 27 26,
   oG 28 (.mov (.t 1)) 27 false,
   oG 29 (.len (.t 28)) 27 false,
   oG 30 (.bin .gtr (.t 29) (.c (.int .i64 4))) 27 false,
   o1 31 (.pick (.t 27) (.c (.bool true)) (.t 30)),
   oM 32 31,
   oG 33 (.mov (.t 2)) 32 false,
   oG 34 (.len (.t 33)) 32 false,
   oG 35 (.bin .gtr (.t 34) (.c (.int .i64 4))) 32 false,
   o1 36 (.pick (.t 32) (.c (.bool true)) (.t 35)),
   oM 37 36,
   oG 38 (.mov (.t 0)) 37 false,
   oG 39 (.call 22 [.t 38]) 37 false,
   oG 40 (.un .not (.t 39)) 37 false,
   o1 41 (.pick (.t 37) (.c (.bool true)) (.t 40)),
   oM 42 41,
   oG 43 (.mov (.t 1)) 42 false,
   oG 44 (.call 22 [.t 43]) 42 false,
   oG 45 (.un .not (.t 44)) 42 false,
   o1 46 (.pick (.t 42) (.c (.bool true)) (.t 45)),
   oM 47 46,
   oG 48 (.mov (.t 2)) 47 false,
   oG 49 (.call 22 [.t 48]) 47 false,
   oG 50 (.un .not (.t 49)) 47 false,
   o1 51 (.pick (.t 47) (.c (.bool true)) (.t 50)),
   oM 52 51,
   oG 53 (.mov (.t 0)) 52 false,
   oG 54 (.call 23 [.t 53]) 52 false,
   oG 55 (.bin .lss (.t 54) (.c (.int .i64 0))) 52 false,
   o1 56 (.pick (.t 52) (.c (.bool true)) (.t 55)),
   oM 57 56,
   oG 58 (.mov (.t 1)) 57 false,
   oG 59 (.call 23 [.t 58]) 57 false,
   oG 60 (.bin .lss (.t 59) (.c (.int .i64 0))) 57 false,
   o1 61 (.pick (.t 57) (.c (.bool true)) (.t 60)),
   oM 62 61,
   oG 63 (.mov (.t 2)) 62 false,
   oG 64 (.call 23 [.t 63]) 62 false,
   oG 65 (.bin .lss (.t 64) (.c (.int .i64 0))) 62 false,
   o1 66 (.pick (.t 62) (.c (.bool true)) (.t 65))])
  (.cond (.t 66) (.seq (.region false [oC 67 13 [],
   oM 6 67])
  (.ret))
  (.skip)))
  (.seq (.region false [oM 69 0,
   oM 70 2,
   oC 71 24 [69, 70],
   oM 68 71,
   o1 72 (.ext (.t 68) 0),
   o1 73 (.ext (.t 68) 1),
   oM 7 72,
   oM 8 73])
  (.seq (.region false [oM 75 1,
   oM 76 2,
   oC 77 24 [75, 76],
   oM 74 77,
   o1 78 (.ext (.t 74) 0),
   o1 79 (.ext (.t 74) 1),
   oM 9 78,
   oM 10 79])
  (.seq (.region false [oM 81 7,
   oM 82 9,
   oC 83 16 [81, 82],
   oM 80 83,
   o1 84 (.ext (.t 80) 0),
   o1 85 (.ext (.t 80) 1),
   oM 11 84,
   oM 12 85])
  (.seq (.region false [oM 87 0,
   oM 88 1,
   oC 89 16 [87, 88],
   oM 86 89,
   o1 90 (.ext (.t 86) 0),
   o1 91 (.ext (.t 86) 1),
   oM 13 90,
   oM 14 91])
  (.seq (.region false [oM 93 7,
   oM 94 11,
   oC 95 15 [93, 94],
   oM 92 95,
   o1 96 (.ext (.t 92) 0),
   o1 97 (.ext (.t 92) 1),
   oM 15 96,
   oM 16 97])
  (.seq (.region false [oM 99 9,
   oM 100 11,
   oC 101 15 [99, 100],
   oM 98 101,
   o1 102 (.ext (.t 98) 0),
   o1 103 (.ext (.t 98) 1),
   oM 17 102,
   oM 18 103])
  (.seq (.region false [oM 105 11,
   oM 106 2,
   oC 107 15 [105, 106],
   oM 104 107,
   o1 108 (.ext (.t 104) 0),
   o1 109 (.ext (.t 104) 1),
   oM 19 108,
   oM 20 109])
  (.seq (.region false [oM 110 8,
   o1 111 (.bin .eql (.t 110) (.c (.int .i64 0))),
   oM 112 111,
   oG 113 (.mov (.t 10)) 112 true,
   oG 114 (.bin .eql (.t 113) (.c (.int .i64 0))) 112 true,
   o1 115 (.pick (.t 112) (.t 114) (.c (.bool false))),
   oM 116 115,
   oG 117 (.mov (.t 12)) 116 true,
   oG 118 (.bin .eql (.t 117) (.c (.int .i64 0))) 116 true,
   o1 119 (.pick (.t 116) (.t 118) (.c (.bool false))),
   oM 120 119,
   oG 121 (.mov (.t 14)) 120 true,
   oG 122 (.bin .eql (.t 121) (.c (.int .i64 0))) 120 true,
   o1 123 (.pick (.t 120) (.t 122) (.c (.bool false))),
   oM 124 123,
   oG 125 (.mov (.t 16)) 124 true,
   oG 126 (.bin .eql (.t 125) (.c (.int .i64 0))) 124 true,
   o1 127 (.pick (.t 124) (.t 126) (.c (.bool false))),
   oM 128 127,
   oG 129 (.mov (.t 18)) 128 true,
   oG 130 (.bin .eql (.t 129) (.c (.int .i64 0))) 128 true,
   o1 131 (.pick (.t 128) (.t 130) (.c (.bool false))),
   oM 132 131,
   oG 133 (.mov (.t 20)) 132 true,
   oG 134 (.bin .eql (.t 133) (.c (.int .i64 0))) 132 true,
   o1 135 (.pick (.t 132) (.t 134) (.c (.bool false))),
   oM 21 135])
  (.seq (.region false [oM 136 21,
   oM 137 136,
   oG 138 (.mov (.t 15)) 137 true,
   oG 139 (.len (.t 138)) 137 true,
   oG 140 (.bin .eql (.t 139) (.c (.int .i64 0))) 137 true,
   o1 141 (.pick (.t 137) (.t 140) (.c (.bool false))),
   oM 142 141,
   oG 143 (.mov (.t 17)) 142 true,
   oG 144 (.len (.t 143)) 142 true,
   oG 145 (.bin .eql (.t 144) (.c (.int .i64 0))) 142 true,
   o1 146 (.pick (.t 142) (.t 145) (.c (.bool false))),
   oM 147 146,
   oG 148 (.mov (.t 19)) 147 true,
   oG 149 (.len (.t 148)) 147 true,
   oG 150 (.bin .eql (.t 149) (.c (.int .i64 0))) 147 true,
   o1 151 (.pick (.t 147) (.t 150) (.c (.bool false))),
   oM 152 151,
   oG 153 (.mov (.t 11)) 152 true,
   oG 154 (.call 23 [.t 153]) 152 true,
   oG 155 (.mov (.t 13)) 152 true,
   oG 156 (.call 23 [.t 155]) 152 true,
   oG 157 (.mov (.t 2)) 152 true,
   oG 158 (.call 23 [.t 157]) 152 true,
   oG 159 (.bin .add (.t 156) (.t 158)) 152 true,
   oG 160 (.bin .eql (.t 154) (.t 159)) 152 true,
   o1 161 (.pick (.t 152) (.t 160) (.c (.bool false))),
   oM 162 161,
   oG 163 (.mov (.t 11)) 162 true,
   oG 164 (.mov (.t 11)) 162 true,
   oG 165 (.len (.t 164)) 162 true,
   oG 166 (.bin .sub (.t 165) (.c (.int .i64 1))) 162 true,
   oG 167 (.ixa 163 (.t 166) 2) 162 true,
   oG 168 (.ld 167 167 2 false) 162 true,
   oG 169 (.call 25 [.t 168]) 162 true,
   oG 170 (.bin .gtr (.t 169) (.c (.int .i64 0))) 162 true,
   o1 171 (.pick (.t 162) (.t 170) (.c (.bool false))),
   oM 6 171])
  (.ret))))))))))))⟩
def Try.r4 : List (Nat × Nat) := []
theorem Try.i4_ok : fnOk Try.prog Try.r4 Try.f4 Try.i4 = true := by kernel_rfl
def Try.i5 : IFunc := ⟨3, 154, [.tmp 6],
  .seq (.region false [o1 6 (.mov (.c (.bool false)))])
  (.seq (.seq (.region false [oC 22 13 [],
   o1 23 (.un .not (.t 22))])
  (.cond (.t 23) (.seq (.region false [o1 6 (.mov (.c (.bool false)))])
  (.ret))
  (.skip)))
  (.seq (.seq (.region false [oM 24 0,
   o1 25 (.len (.t 24)),
   o1 26 (.bin .lss (.t 25) (.c (.int .i64 2))),
   oM 27 26,
   oG 28 (.mov (.t 1)) 27 false,
   oG 29 (.bin .lss (.t 28) (.c (.int .i64 0))) 27 false,
   o1 30 (.pick (.t 27) (.c (.bool true)) (.t 29)),
   oM 31 30,
   oG 32 (.mov (.t 1)) 31 false,
   oG 33 (.bin .gtr (.t 32) (.c (.int .i64 4))) 31 false,
   o1 34 (.pick (.t 31) (.c (.bool true)) (.t 33)),
   oM 35 34,
   oG 36 (.mov (.t 2)) 35 false,
   oG 37 (.len (.t 36)) 35 false,
   oG 38 (.bin .gtr (.t 37) (.c (.int .i64 6))) 35 false,
   o1 39 (.pick (.t 35) (.c (.bool true)) (.t 38)),
   oM 40 39,
   oG 41 (.mov (.t 2)) 40 false,
   oG 42 (.call 22 [.t 41]) 40 false,
   oG 43 (.un .not (.t 42)) 40 false,
   o1 44 (.pick (.t 40) (.c (.bool true)) (.t 43)),
   oM 45 44,
   oG 46 (.mov (.t 2)) 45 false,
   oG 47 (.call 23 [.t 46]) 45 false,
   oG 48 (.bin .lss (.t 47) (.c (.int .i64 1))) 45 false,
   o1 49 (.pick (.t 45) (.c (.bool true)) (.t 48))])
  (.cond (.t 49) (.seq (.region false [oC 50 13 [],
   oM 6 50])
  (.ret))
  (.skip)))
  (.seq (.region true [oM 51 0,
   o1 52 (.ixa 51 (.c (.int .i64 0)) 1),
   o1 53 (.ld 52 52 1 true),
   o1 54 (.bin .rem (.t 53) (.c (.int .i64 1000))),
   oM 55 0,
   o1 56 (.ixa 55 (.c (.int .i64 1)) 1),
   o1 57 (.ld 56 56 1 true),
   o1 58 (.bin .rem (.t 57) (.c (.int .i64 1000))),
   oM 7 54,
   oM 8 58])
  (.seq (.region false [o1 59 (.bls 1 [.int .i64 0] [(0, 1, .c (.int .i64 1))]),
   oC 60 26 [59],
   oM 9 60])
  (.seq (.region false [o1 10 (.mov (.c (.int .i64 0)))])
  (.seq (.seq (.region false [o1 11 (.mov (.c (.int .i64 0)))])
  (.block 0 (.loop (.seq (.seq (.region false [oM 61 11,
   oM 62 1,
   oB 63 .lss 61 62])
  (.cond (.t 63) (.skip)
  (.exit 0)))
  (.seq (.block 1 (.seq (.region false [oM 67 9,
   oM 68 7,
   o1 69 (.un .neg (.t 68)),
   o1 70 (.bls 2 [.int .i64 0, .int .i64 0] [(0, 1, .t 69), (1, 1, .c (.int .i64 1))]),
   oC 71 26 [70],
   oC 72 24 [67, 71],
   oM 66 72,
   o1 73 (.ext (.t 66) 0),
   o1 74 (.ext (.t 66) 1),
   oM 9 73])
  (.region false [oM 76 9,
   oM 77 8,
   o1 78 (.un .neg (.t 77)),
   o1 79 (.bls 2 [.int .i64 0, .int .i64 0] [(0, 1, .t 78), (1, 1, .c (.int .i64 2))]),
   oC 80 26 [79],
   oC 81 24 [76, 80],
   oM 75 81,
   o1 82 (.ext (.t 75) 0),
   o1 83 (.ext (.t 75) 1),
   oM 9 82])))
  (.region false [oM 64 11,
   o1 65 (.bin .add (.t 64) (.c (.int .i64 1))),
   oM 11 65]))))))
  (.seq (.seq (.region false [oM 84 1,
   o1 85 (.bin .gtr (.t 84) (.c (.int .i64 0)))])
  (.cond (.t 85) (.region false [o1 10 (.mov (.c (.int .i64 2)))])
  (.skip)))
  (.seq (.seq (.region false [oM 86 1,
   o1 87 (.bin .gtr (.t 86) (.c (.int .i64 0))),
   oM 88 87,
   oG 89 (.mov (.t 7)) 88 true,
   oG 90 (.bin .mul (.c (.int .i64 2)) (.t 89)) 88 true,
   oG 91 (.mov (.t 8)) 88 true,
   oG 92 (.bin .eql (.t 90) (.t 91)) 88 true,
   o1 93 (.pick (.t 88) (.t 92) (.c (.bool false)))])
  (.cond (.t 93) (.region false [o1 10 (.mov (.c (.int .i64 1)))])
  (.skip)))
  (.seq (.region false [oM 95 9,
   oC 96 17 [95],
   oM 94 96,
   o1 97 (.ext (.t 94) 0),
   o1 98 (.ext (.t 94) 1),
   oM 12 97,
   oM 13 98])
  (.seq (.region false [oM 100 2,
   oC 101 17 [100],
   oM 99 101,
   o1 102 (.ext (.t 99) 0),
   o1 103 (.ext (.t 99) 1),
   oM 14 102,
   oM 15 103])
  (.seq (.region false [oM 105 14,
   oC 106 17 [105],
   oM 104 106,
   o1 107 (.ext (.t 104) 0),
   o1 108 (.ext (.t 104) 1),
   oM 16 107,
   oM 17 108])
  (.seq (.region false [oM 110 14,
   oC 111 27 [110],
   oM 109 111,
   o1 112 (.ext (.t 109) 0),
   o1 113 (.ext (.t 109) 1),
   oM 18 112,
   oM 19 113])
  (.seq (.region false [oM 115 14,
   oM 116 18,
   oC 117 16 [115, 116],
   oM 114 117,
   o1 118 (.ext (.t 114) 0),
   o1 119 (.ext (.t 114) 1),
   oM 20 118,
   oM 21 119])
  (.seq (.region false [oM 120 13,
   o1 121 (.bin .eql (.t 120) (.c (.int .i64 0))),
   oM 122 121,
   oG 123 (.mov (.t 15)) 122 true,
   oG 124 (.bin .eql (.t 123) (.c (.int .i64 0))) 122 true,
   o1 125 (.pick (.t 122) (.t 124) (.c (.bool false))),
   oM 126 125,
   oG 127 (.mov (.t 17)) 126 true,
   oG 128 (.bin .eql (.t 127) (.c (.int .i64 0))) 126 true,
   o1 129 (.pick (.t 126) (.t 128) (.c (.bool false))),
   oM 130 129,
   oG 131 (.mov (.t 19)) 130 true,
   oG 132 (.bin .eql (.t 131) (.c (.int .i64 0))) 130 true,
   o1 133 (.pick (.t 130) (.t 132) (.c (.bool false))),
   oM 134 133,
   oG 135 (.mov (.t 21)) 134 true,
   oG 136 (.bin .eql (.t 135) (.c (.int .i64 0))) 134 true,
   o1 137 (.pick (.t 134) (.t 136) (.c (.bool false))),
   oM 138 137,
   oG 139 (.mov (.t 12)) 138 true,
   oG 140 (.call 23 [.t 139]) 138 true,
   oG 141 (.mov (.t 10)) 138 true,
   oG 142 (.bin .eql (.t 140) (.t 141)) 138 true,
   o1 143 (.pick (.t 138) (.t 142) (.c (.bool false))),
   oM 144 143,
   oG 145 (.mov (.t 14)) 144 true,
   oG 146 (.mov (.t 16)) 144 true,
   oG 147 (.call 28 [.t 145, .t 146]) 144 true,
   o1 148 (.pick (.t 144) (.t 147) (.c (.bool false))),
   oM 149 148,
   oG 150 (.mov (.t 20)) 149 true,
   oG 151 (.call 23 [.t 150]) 149 true,
   oG 152 (.bin .eql (.t 151) (.c (.int .i64 0))) 149 true,
   o1 153 (.pick (.t 149) (.t 152) (.c (.bool false))),
   oM 6 153])
  (.ret)))))))))))))))⟩
def Try.r5 : List (Nat × Nat) := []
theorem Try.i5_ok : fnOk Try.prog Try.r5 Try.f5 Try.i5 = true := by kernel_rfl
def Try.i6 : IFunc := ⟨2, 42, [.tmp 4],
  .seq (.region false [o1 3 (.box (.t 1) [15, 16]),
   o1 4 (.mov (.c (.bool false)))])
  (.seq (.seq (.region false [oC 9 13 [],
   o1 10 (.un .not (.t 9))])
  (.cond (.t 10) (.seq (.region false [o1 4 (.mov (.c (.bool false)))])
  (.ret))
  (.skip)))
  (.seq (.seq (.region false [oM 11 0,
   oC 12 14 [11],
   o1 13 (.un .not (.t 12)),
   oM 14 13,
   oG 15 (.adr 3 3 0) 14 false,
   oG 16 (.adr 15 3 1) 14 false,
   oG 17 (.ld 16 3 1 true) 14 false,
   oG 18 (.len (.t 17)) 14 false,
   oG 19 (.bin .gtr (.t 18) (.c (.int .i64 20))) 14 false,
   o1 20 (.pick (.t 14) (.c (.bool true)) (.t 19))])
  (.cond (.t 20) (.seq (.region false [oC 21 13 [],
   oM 4 21])
  (.ret))
  (.skip)))
  (.seq (.region false [oM 23 0,
   o1 24 (.ld 3 3 3 false),
   oC 25 29 [23, 24],
   oM 22 25,
   o1 26 (.ext (.t 22) 0),
   o1 27 (.ext (.t 22) 1),
   oM 5 26,
   oM 6 27])
  (.seq (.region false [oM 29 0,
   o1 30 (.ld 3 3 3 false),
   oC 31 30 [29, 30],
   oM 28 31,
   o1 32 (.ext (.t 28) 0),
   o1 33 (.ext (.t 28) 1),
   oM 7 32,
   oM 8 33])
  (.seq (.region false [oM 34 5,
   oM 35 7,
   oB 36 .eql 34 35,
   oM 37 36,
   oG 38 (.mov (.t 6)) 37 true,
   oG 39 (.mov (.t 8)) 37 true,
   oG 40 (.bin .eql (.t 38) (.t 39)) 37 true,
   o1 41 (.pick (.t 37) (.t 40) (.c (.bool false))),
   oM 4 41])
  (.ret))))))⟩
def Try.r6 : List (Nat × Nat) := [(15, 3), (16, 3)]
theorem Try.i6_ok : fnOk Try.prog Try.r6 Try.f6 Try.i6 = true := by kernel_rfl
def Try.i7 : IFunc := ⟨2, 165, [.tmp 4],
  .seq (.region false [o1 4 (.mov (.c (.bool false)))])
  (.seq (.seq (.region false [oC 30 13 [],
   o1 31 (.un .not (.t 30))])
  (.cond (.t 31) (.seq (.region false [o1 4 (.mov (.c (.bool false)))])
  (.ret))
  (.skip)))
  (.seq (.seq (.region false [oM 32 0,
   oC 33 14 [32],
   o1 34 (.un .not (.t 33)),
   oM 35 34,
   oG 36 (.mov (.t 1)) 35 false,
   oG 37 (.call 14 [.t 36]) 35 false,
   oG 38 (.un .not (.t 37)) 35 false,
   o1 39 (.pick (.t 35) (.c (.bool true)) (.t 38))])
  (.cond (.t 39) (.seq (.region false [oC 40 13 [],
   oM 4 40])
  (.ret))
  (.skip)))
  (.seq (.region false [oM 42 0,
   oM 43 1,
   oC 44 31 [42, 43],
   oM 41 44,
   o1 45 (.ext (.t 41) 0),
   o1 46 (.ext (.t 41) 1),
   oM 5 45,
   oM 6 46])
  (.seq (.region false [oM 48 0,
   oM 49 1,
   oC 50 32 [48, 49],
   oM 47 50,
   o1 51 (.ext (.t 47) 0),
   o1 52 (.ext (.t 47) 1),
   oM 7 51,
   oM 8 52])
  (.seq (.region false [oM 54 0,
   oM 55 1,
   oC 56 24 [54, 55],
   oM 53 56,
   o1 57 (.ext (.t 53) 0),
   o1 58 (.ext (.t 53) 1),
   oM 9 57,
   oM 10 58])
  (.seq (.region false [oM 60 0,
   oC 61 27 [60],
   oM 59 61,
   o1 62 (.ext (.t 59) 0),
   o1 63 (.ext (.t 59) 1),
   oM 11 62,
   oM 12 63])
  (.seq (.region false [oM 65 0,
   oC 66 33 [65],
   oM 64 66,
   o1 67 (.ext (.t 64) 0),
   o1 68 (.ext (.t 64) 1),
   o1 13 (.new [.bool false, .sl 0 []] []),
   oN (.st 13 13 2 (.t 67)),
   oM 14 68])
  (.seq (.region false [oM 70 0,
   oC 71 34 [70],
   oM 69 71,
   o1 72 (.ext (.t 69) 0),
   o1 73 (.ext (.t 69) 1),
   oM 15 72,
   oM 16 73])
  (.seq (.region false [oM 75 0,
   oM 76 1,
   oC 77 35 [75, 76],
   oM 74 77,
   o1 78 (.ext (.t 74) 0),
   o1 79 (.ext (.t 74) 1),
   oM 17 78,
   oM 18 79])
  (.seq (.region false [oM 81 0,
   oM 82 1,
   oC 83 36 [81, 82],
   oM 80 83,
   o1 84 (.ext (.t 80) 0),
   o1 85 (.ext (.t 80) 1),
   oM 19 84,
   oM 20 85])
  (.seq (.region false [oM 87 0,
   oM 88 1,
   oC 89 37 [87, 88],
   oM 86 89,
   o1 90 (.ext (.t 86) 0),
   o1 91 (.ext (.t 86) 1),
   oM 21 90,
   oM 22 91])
  (.seq (.region false [oM 93 0,
   oC 94 38 [93],
   oM 92 94,
   o1 95 (.ext (.t 92) 0),
   o1 96 (.ext (.t 92) 1),
   oM 23 95,
   oM 24 96])
  (.seq (.region false [oM 98 0,
   oC 99 39 [98],
   oM 97 99,
   o1 100 (.ext (.t 97) 0),
   o1 101 (.ext (.t 97) 1),
   o1 25 (.new [.bool false, .sl 0 []] []),
   oN (.st 25 25 2 (.t 100)),
   oM 26 101])
  (.seq (.region false [oM 103 0,
   oC 104 40 [103],
   oM 102 104,
   o1 105 (.ext (.t 102) 0),
   o1 106 (.ext (.t 102) 1),
   oM 27 105,
   oM 28 106])
  (.seq (.region false [oM 107 5,
   oM 108 6,
   oM 109 17,
   oM 110 18,
   oC 111 21 [107, 108, 109, 110],
   oM 112 111,
   oG 113 (.mov (.t 7)) 112 true,
   oG 114 (.mov (.t 8)) 112 true,
   oG 115 (.mov (.t 19)) 112 true,
   oG 116 (.mov (.t 20)) 112 true,
   oG 117 (.call 21 [.t 113, .t 114, .t 115, .t 116]) 112 true,
   o1 118 (.pick (.t 112) (.t 117) (.c (.bool false))),
   oM 119 118,
   oG 120 (.mov (.t 9)) 119 true,
   oG 121 (.mov (.t 10)) 119 true,
   oG 122 (.mov (.t 21)) 119 true,
   oG 123 (.mov (.t 22)) 119 true,
   oG 124 (.call 21 [.t 120, .t 121, .t 122, .t 123]) 119 true,
   o1 125 (.pick (.t 119) (.t 124) (.c (.bool false))),
   oM 126 125,
   oG 127 (.mov (.t 11)) 126 true,
   oG 128 (.mov (.t 12)) 126 true,
   oG 129 (.mov (.t 23)) 126 true,
   oG 130 (.mov (.t 24)) 126 true,
   oG 131 (.call 21 [.t 127, .t 128, .t 129, .t 130]) 126 true,
   o1 132 (.pick (.t 126) (.t 131) (.c (.bool false))),
   oM 133 132,
   oG 134 (.mov (.t 15)) 133 true,
   oG 135 (.mov (.t 16)) 133 true,
   oG 136 (.mov (.t 27)) 133 true,
   oG 137 (.mov (.t 28)) 133 true,
   oG 138 (.call 21 [.t 134, .t 135, .t 136, .t 137]) 133 true,
   o1 139 (.pick (.t 133) (.t 138) (.c (.bool false))),
   oM 140 139,
   oG 141 (.mov (.t 14)) 140 true,
   oG 142 (.mov (.t 26)) 140 true,
   oG 143 (.bin .eql (.t 141) (.t 142)) 140 true,
   o1 144 (.pick (.t 140) (.t 143) (.c (.bool false))),
   oM 145 144,
   oG 146 (.ld 13 13 2 false) 145 true,
   oG 147 (.ld 25 25 2 false) 145 true,
   oG 148 (.call 41 [.t 146, .t 147]) 145 true,
   o1 149 (.pick (.t 145) (.t 148) (.c (.bool false))),
   oM 29 149])
  (.seq (.region false [oM 150 29,
   oM 151 150,
   oG 152 (.mov (.t 0)) 151 true,
   oG 153 (.call 42 [.t 152]) 151 true,
   oG 154 (.mov (.t 0)) 151 true,
   oG 155 (.call 43 [.t 154]) 151 true,
   oG 156 (.call 28 [.t 153, .t 155]) 151 true,
   o1 157 (.pick (.t 151) (.t 156) (.c (.bool false))),
   oM 158 157,
   oG 159 (.mov (.t 0)) 158 true,
   oG 160 (.call 23 [.t 159]) 158 true,
   oG 161 (.mov (.t 0)) 158 true,
   oG 162 (.call 44 [.t 161]) 158 true,
   oG 163 (.bin .eql (.t 160) (.t 162)) 158 true,
   o1 164 (.pick (.t 158) (.t 163) (.c (.bool false))),
   oM 4 164])
  (.ret)))))))))))))))))⟩
def Try.r7 : List (Nat × Nat) := []
theorem Try.i7_ok : fnOk Try.prog Try.r7 Try.f7 Try.i7 = true := by kernel_rfl
def Try.i8 : IFunc := ⟨1, 129, [.tmp 2],
  .seq (.region false [o1 2 (.mov (.c (.bool false)))])
  (.seq (.seq (.region false [oC 23 13 [],
   o1 24 (.un .not (.t 23))])
  (.cond (.t 24) (.seq (.region false [o1 2 (.mov (.c (.bool false)))])
  (.ret))
  (.skip)))
  (.seq (.region false [oM 25 0,
   o1 26 (.call 45 [.t 25, .c (.int .i64 4)]),
   o1 27 (.bin .add (.t 26) (.c (.int .i64 16))),
   o1 28 (.bin .sub (.t 27) (.c (.int .i64 1))),
   oM 3 28])
  (.seq (.region false [oM 29 3,
   o1 30 (.bin .add (.t 29) (.c (.int .i64 1))),
   o1 31 (.mks [.bool false, .sl 0 []] (.t 30)),
   ⟨some 4, .tra 31, none, [37, 40]⟩])
  (.seq (.seq (.region false [o1 5 (.mov (.c (.int .i64 0)))])
  (.block 0 (.loop (.seq (.seq (.region false [oM 32 5,
   oM 33 3,
   oB 34 .leq 32 33])
  (.cond (.t 34) (.skip)
  (.exit 0)))
  (.seq (.block 1 (.region false [o1 37 (.cpy 4),
   oM 38 5,
   o1 39 (.call 46 [.c (.int .i64 1)]),
   o1 40 (.ixo 37 4 (.t 38) 2),
   oN (.st 40 4 2 (.t 39))]))
  (.region false [oM 35 5,
   o1 36 (.bin .add (.t 35) (.c (.int .i64 1))),
   oM 5 36]))))))
  (.seq (.region false [o1 6 (.mov (.c (.int .i64 0))),
   o1 7 (.mov (.c (.int .i64 0)))])
  (.seq (.seq (.region false [oM 41 3,
   o1 42 (.bin .gtr (.t 41) (.c (.int .i64 16)))])
  (.cond (.t 42) (.region false [o1 6 (.mov (.c (.int .i64 2)))])
  (.skip)))
  (.seq (.seq (.region false [oM 43 3,
   o1 44 (.bin .geq (.t 43) (.c (.int .i64 16)))])
  (.cond (.t 44) (.region false [o1 7 (.mov (.c (.int .i64 2)))])
  (.skip)))
  (.seq (.region false [o1 46 (.frz 4),
   o1 47 (.bls 1 [.int .i64 0] [(0, 1, .c (.int .i64 1))]),
   oC 48 26 [47],
   oC 49 31 [46, 48],
   oM 45 49,
   o1 50 (.ext (.t 45) 0),
   o1 51 (.ext (.t 45) 1),
   oM 8 50,
   oM 9 51])
  (.seq (.region false [o1 53 (.frz 4),
   o1 54 (.bls 2 [.int .i64 0, .int .i64 0] [(0, 1, .c (.int .i64 0)), (1, 1, .c (.int .i64 1))]),
   oC 55 26 [54],
   oC 56 24 [53, 55],
   oM 52 56,
   o1 57 (.ext (.t 52) 0),
   o1 58 (.ext (.t 52) 1),
   oM 10 57,
   oM 11 58])
  (.seq (.region false [o1 60 (.frz 4),
   oC 61 27 [60],
   oM 59 61,
   o1 62 (.ext (.t 59) 0),
   o1 63 (.ext (.t 59) 1),
   oM 12 62,
   oM 13 63])
  (.seq (.region false [o1 65 (.frz 4),
   o1 66 (.bld [.bool false, .sl 0 [], .int .i64 0] []),
   oC 67 29 [65, 66],
   oM 64 67,
   o1 68 (.ext (.t 64) 0),
   o1 69 (.ext (.t 64) 1),
   oM 14 68,
   oM 15 69])
  (.seq (.region false [o1 71 (.frz 4),
   o1 72 (.call 15 [.t 71, .c (.sl 0 [])]),
   oM 70 72,
   o1 73 (.ext (.t 70) 0),
   o1 74 (.ext (.t 70) 1),
   oM 16 73,
   oM 17 74])
  (.seq (.region false [o1 18 (.mov (.c (.int .i64 3)))])
  (.seq (.seq (.region false [oM 75 6,
   o1 76 (.bin .neq (.t 75) (.c (.int .i64 0)))])
  (.cond (.t 76) (.region false [oM 77 6,
   oM 18 77])
  (.skip)))
  (.seq (.region false [o1 79 (.bls 1 [.int .i64 0] [(0, 1, .c (.int .i64 1))]),
   oC 80 26 [79],
   o1 81 (.bld [.bool false, .sl 0 [], .int .i64 0] [(2, 1, .c (.int .i64 (-1)))]),
   oC 82 29 [80, 81],
   oM 78 82,
   o1 83 (.ext (.t 78) 0),
   o1 84 (.ext (.t 78) 1),
   oM 19 83,
   oM 20 84])
  (.seq (.region false [o1 86 (.bls 1 [.int .i64 0] [(0, 1, .c (.int .i64 1))]),
   oC 87 26 [86],
   o1 88 (.bld [.bool false, .sl 0 [], .int .i64 0] [(2, 1, .c (.int .i64 4097))]),
   oC 89 29 [87, 88],
   oM 85 89,
   o1 90 (.ext (.t 85) 0),
   o1 91 (.ext (.t 85) 1),
   oM 21 90,
   oM 22 91])
  (.seq (.region false [oM 92 9,
   oM 93 6,
   oB 94 .eql 92 93,
   oM 95 94,
   oG 96 (.mov (.t 11)) 95 true,
   oG 97 (.mov (.t 7)) 95 true,
   oG 98 (.bin .eql (.t 96) (.t 97)) 95 true,
   o1 99 (.pick (.t 95) (.t 98) (.c (.bool false))),
   oM 100 99,
   oG 101 (.mov (.t 13)) 100 true,
   oG 102 (.mov (.t 6)) 100 true,
   oG 103 (.bin .eql (.t 101) (.t 102)) 100 true,
   o1 104 (.pick (.t 100) (.t 103) (.c (.bool false))),
   oM 105 104,
   oG 106 (.mov (.t 15)) 105 true,
   oG 107 (.mov (.t 6)) 105 true,
   oG 108 (.bin .eql (.t 106) (.t 107)) 105 true,
   o1 109 (.pick (.t 105) (.t 108) (.c (.bool false))),
   oM 110 109,
   oG 111 (.mov (.t 17)) 110 true,
   oG 112 (.mov (.t 18)) 110 true,
   oG 113 (.bin .eql (.t 111) (.t 112)) 110 true,
   o1 114 (.pick (.t 110) (.t 113) (.c (.bool false))),
   oM 115 114,
   oG 116 (.mov (.t 20)) 115 true,
   oG 117 (.bin .eql (.t 116) (.c (.int .i64 1))) 115 true,
   o1 118 (.pick (.t 115) (.t 117) (.c (.bool false))),
   oM 119 118,
   oG 120 (.mov (.t 22)) 119 true,
   oG 121 (.bin .eql (.t 120) (.c (.int .i64 1))) 119 true,
   o1 122 (.pick (.t 119) (.t 121) (.c (.bool false))),
   oM 123 122,
   oG 124 (.frz 4) 123 true,
   oG 125 (.call 23 [.t 124]) 123 true,
   oG 126 (.mov (.t 3)) 123 true,
   oG 127 (.bin .eql (.t 125) (.t 126)) 123 true,
   o1 128 (.pick (.t 123) (.t 127) (.c (.bool false))),
   oM 2 128])
  (.ret))))))))))))))))))⟩
def Try.r8 : List (Nat × Nat) := [(37, 4), (40, 4)]
theorem Try.i8_ok : fnOk Try.prog Try.r8 Try.f8 Try.i8 = true := by kernel_rfl
def Try.i9 : IFunc := ⟨3, 59, [.tmp 6],
  .seq (.region false [o1 4 (.box (.t 1) [27]),
   o1 5 (.box (.t 2) [32]),
   o1 6 (.mov (.c (.bool false)))])
  (.seq (.seq (.region false [oC 11 47 [],
   o1 12 (.un .not (.t 11))])
  (.cond (.t 12) (.seq (.region false [o1 6 (.mov (.c (.bool false)))])
  (.ret))
  (.skip)))
  (.seq (.seq (.region false [oM 13 0,
   oC 14 48 [13],
   o1 15 (.un .not (.t 14)),
   oM 16 15,
   oG 17 (.ld 4 4 3 false) 16 false,
   oG 18 (.call 49 [.t 17]) 16 false,
   oG 19 (.un .not (.t 18)) 16 false,
   o1 20 (.pick (.t 16) (.c (.bool true)) (.t 19)),
   oM 21 20,
   oG 22 (.ld 5 5 3 false) 21 false,
   oG 23 (.call 49 [.t 22]) 21 false,
   oG 24 (.un .not (.t 23)) 21 false,
   o1 25 (.pick (.t 21) (.c (.bool true)) (.t 24)),
   oM 26 25,
   oG 27 (.adr 4 4 2) 26 false,
   oG 28 (.ld 27 4 1 true) 26 false,
   oG 29 (.bin .gtr (.t 28) (.c (.int .i64 300))) 26 false,
   o1 30 (.pick (.t 26) (.c (.bool true)) (.t 29)),
   oM 31 30,
   oG 32 (.adr 5 5 2) 31 false,
   oG 33 (.ld 32 5 1 true) 31 false,
   oG 34 (.bin .gtr (.t 33) (.c (.int .i64 300))) 31 false,
   o1 35 (.pick (.t 31) (.c (.bool true)) (.t 34))])
  (.cond (.t 35) (.seq (.region false [oC 36 47 [],
   oM 6 36])
  (.ret))
  (.skip)))
  (.seq (.region false [oM 38 0,
   o1 39 (.ld 4 4 3 false),
   o1 40 (.ld 5 5 3 false),
   oC 41 50 [38, 39, 40],
   oM 37 41,
   o1 42 (.ext (.t 37) 0),
   o1 43 (.ext (.t 37) 1),
   oM 7 42,
   oM 8 43])
  (.seq (.region false [oM 45 0,
   o1 46 (.ld 4 4 3 false),
   o1 47 (.ld 5 5 3 false),
   oC 48 51 [45, 46, 47],
   oM 44 48,
   o1 49 (.ext (.t 44) 0),
   o1 50 (.ext (.t 44) 1),
   oM 9 49,
   oM 10 50])
  (.seq (.region false [oM 51 7,
   oM 52 9,
   oB 53 .eql 51 52,
   oM 54 53,
   oG 55 (.mov (.t 8)) 54 true,
   oG 56 (.mov (.t 10)) 54 true,
   oG 57 (.bin .eql (.t 55) (.t 56)) 54 true,
   o1 58 (.pick (.t 54) (.t 57) (.c (.bool false))),
   oM 6 58])
  (.ret))))))⟩
def Try.r9 : List (Nat × Nat) := [(27, 4), (32, 5)]
theorem Try.i9_ok : fnOk Try.prog Try.r9 Try.f9 Try.i9 = true := by kernel_rfl
def Try.i10 : IFunc := ⟨3, 98, [.tmp 6],
  .seq (.region false [o1 6 (.mov (.c (.bool false)))])
  (.seq (.seq (.region false [oC 15 47 [],
   o1 16 (.un .not (.t 15))])
  (.cond (.t 16) (.seq (.region false [o1 6 (.mov (.c (.bool false)))])
  (.ret))
  (.skip)))
  (.seq (.seq (.region false [oM 17 0,
   o1 18 (.len (.t 17)),
   o1 19 (.bin .gtr (.t 18) (.c (.int .i64 7))),
   oM 20 19,
   oG 21 (.mov (.t 1)) 20 false,
   oG 22 (.bin .lss (.t 21) (.c (.int .i64 (-1000)))) 20 false,
   o1 23 (.pick (.t 20) (.c (.bool true)) (.t 22)),
   oM 24 23,
   oG 25 (.mov (.t 2)) 24 false,
   oG 26 (.bin .gtr (.t 25) (.c (.int .i64 1000))) 24 false,
   o1 27 (.pick (.t 24) (.c (.bool true)) (.t 26)),
   oM 28 27,
   oG 29 (.mov (.t 1)) 28 false,
   oG 30 (.mov (.t 2)) 28 false,
   oG 31 (.bin .gtr (.t 29) (.t 30)) 28 false,
   o1 32 (.pick (.t 28) (.c (.bool true)) (.t 31))])
  (.cond (.t 32) (.seq (.region false [oC 33 47 [],
   oM 6 33])
  (.ret))
  (.skip)))
  (.seq (.region false [o1 34 (.bls 1 [.int .i64 0] [(0, 1, .c (.int .i64 1))]),
   oC 35 52 [34],
   oM 7 35])
  (.seq (.region false [o1 8 (.mov (.c (.int .i64 0)))])
  (.seq (.seq (.region false [o1 9 (.mov (.c (.int .i64 0)))])
  (.block 0 (.loop (.seq (.seq (.region false [oM 36 9,
   oM 37 0,
   o1 38 (.len (.t 37)),
   oB 39 .lss 36 38])
  (.cond (.t 39) (.skip)
  (.exit 0)))
  (.seq (.block 1 (.seq (.region false [oM 42 0,
   oM 43 9,
   o1 44 (.ixa 42 (.t 43) 1),
   o1 45 (.ld 44 44 1 true),
   o1 46 (.bin .rem (.t 45) (.c (.int .i64 50))),
   oM 10 46])
  (.seq (.region false [oM 47 7,
   oM 48 10,
   o1 49 (.un .neg (.t 48)),
   o1 50 (.bls 2 [.int .i64 0, .int .i64 0] [(0, 1, .t 49), (1, 1, .c (.int .i64 2))]),
   oC 51 52 [50],
   oC 52 53 [47, 51],
   oM 7 52])
  (.seq (.region false [oM 53 10,
   oM 54 1,
   o1 55 (.bin .mul (.c (.int .i64 2)) (.t 54)),
   oB 56 .leq 53 55,
   oM 57 56,
   oG 58 (.mov (.t 10)) 57 false,
   oG 59 (.mov (.t 2)) 57 false,
   oG 60 (.bin .mul (.c (.int .i64 2)) (.t 59)) 57 false,
   oG 61 (.bin .gtr (.t 58) (.t 60)) 57 false,
   o1 62 (.pick (.t 57) (.c (.bool true)) (.t 61)),
   oM 11 62])
  (.seq (.seq (.region false [o1 12 (.mov (.c (.int .i64 0)))])
  (.block 2 (.loop (.seq (.seq (.region false [oM 63 12,
   oM 64 9,
   oB 65 .lss 63 64])
  (.cond (.t 65) (.skip)
  (.exit 2)))
  (.seq (.block 3 (.region false [oM 68 11,
   oM 69 68,
   oG 70 (.mov (.t 0)) 69 false,
   oG 71 (.mov (.t 12)) 69 false,
   oG 72 (.ixa 70 (.t 71) 1) 69 false,
   oG 73 (.ld 72 72 1 true) 69 false,
   oG 74 (.bin .rem (.t 73) (.c (.int .i64 50))) 69 false,
   oG 75 (.mov (.t 10)) 69 false,
   oG 76 (.bin .eql (.t 74) (.t 75)) 69 false,
   o1 77 (.pick (.t 69) (.c (.bool true)) (.t 76)),
   oM 11 77]))
  (.region false [oM 66 12,
   o1 67 (.bin .add (.t 66) (.c (.int .i64 1))),
   oM 12 67]))))))
  (.seq (.region false [oM 78 11,
   o1 79 (.un .not (.t 78))])
  (.cond (.t 79) (.region false [oM 80 8,
   o1 81 (.bin .add (.t 80) (.c (.int .i64 1))),
   oM 8 81])
  (.skip))))))))
  (.region false [oM 40 9,
   o1 41 (.bin .add (.t 40) (.c (.int .i64 1))),
   oM 9 41]))))))
  (.seq (.region false [oM 83 7,
   oM 84 1,
   oC 85 54 [84],
   oM 86 2,
   oC 87 54 [86],
   oC 88 50 [83, 85, 87],
   oM 82 88,
   o1 89 (.ext (.t 82) 0),
   o1 90 (.ext (.t 82) 1),
   oM 13 89,
   oM 14 90])
  (.seq (.region false [oM 91 14,
   o1 92 (.bin .eql (.t 91) (.c (.int .i64 0))),
   oM 93 92,
   oG 94 (.mov (.t 13)) 93 true,
   oG 95 (.mov (.t 8)) 93 true,
   oG 96 (.bin .eql (.t 94) (.t 95)) 93 true,
   o1 97 (.pick (.t 93) (.t 96) (.c (.bool false))),
   oM 6 97])
  (.ret))))))))⟩
def Try.r10 : List (Nat × Nat) := []
theorem Try.i10_ok : fnOk Try.prog Try.r10 Try.f10 Try.i10 = true := by kernel_rfl
def Try.i11 : IFunc := ⟨2, 95, [.tmp 4],
  .seq (.region false [o1 4 (.mov (.c (.bool false)))])
  (.seq (.seq (.region false [oC 13 47 [],
   o1 14 (.un .not (.t 13))])
  (.cond (.t 14) (.seq (.region false [o1 4 (.mov (.c (.bool false)))])
  (.ret))
  (.skip)))
  (.seq (.seq (.region false [oM 15 0,
   oC 16 48 [15],
   o1 17 (.un .not (.t 16)),
   oM 18 17,
   oG 19 (.mov (.t 0)) 18 false,
   oG 20 (.call 44 [.t 19]) 18 false,
   oG 21 (.bin .lss (.t 20) (.c (.int .i64 0))) 18 false,
   o1 22 (.pick (.t 18) (.c (.bool true)) (.t 21)),
   oM 23 22,
   oG 24 (.mov (.t 1)) 23 false,
   oG 25 (.len (.t 24)) 23 false,
   oG 26 (.bin .gtr (.t 25) (.c (.int .i64 12))) 23 false,
   o1 27 (.pick (.t 23) (.c (.bool true)) (.t 26))])
  (.cond (.t 27) (.seq (.region false [oC 28 47 [],
   oM 4 28])
  (.ret))
  (.skip)))
  (.seq (.region false [o1 5 (.mov (.c (.int .i64 (-60))))])
  (.seq (.region false [o1 6 (.mov (.c (.int .i64 0)))])
  (.seq (.seq (.region false [o1 7 (.mov (.c (.int .i64 0)))])
  (.block 0 (.loop (.seq (.seq (.region false [oM 29 7,
   oM 30 1,
   o1 31 (.len (.t 30)),
   oB 32 .lss 29 31])
  (.cond (.t 32) (.skip)
  (.exit 0)))
  (.seq (.block 1 (.seq (.region false [oM 35 5,
   oM 36 1,
   oM 37 7,
   o1 38 (.ixa 36 (.t 37) 1),
   o1 39 (.ld 38 38 1 true),
   o1 40 (.call 55 [.t 39, .c (.int .i64 9)]),
   oB 41 .add 35 40,
   oM 8 41])
  (.seq (.region false [oM 43 0,
   oM 44 5,
   oC 45 56 [44],
   o1 46 (.bld [.bool false, .sl 0 [], .int .i64 0] [(0, 2, .t 45), (2, 1, .c (.int .i64 1))]),
   oM 47 8,
   oC 48 56 [47],
   o1 49 (.bld [.bool false, .sl 0 [], .int .i64 0] [(0, 2, .t 48), (2, 1, .c (.int .i64 1))]),
   oC 50 50 [43, 46, 49],
   oM 42 50,
   o1 51 (.ext (.t 42) 0),
   o1 52 (.ext (.t 42) 1),
   oM 9 51,
   oM 10 52])
  (.seq (.seq (.region false [oM 53 10,
   o1 54 (.bin .neq (.t 53) (.c (.int .i64 0))),
   oM 55 54,
   oG 56 (.mov (.t 9)) 55 false,
   oG 57 (.bin .lss (.t 56) (.c (.int .i64 0))) 55 false,
   o1 58 (.pick (.t 55) (.c (.bool true)) (.t 57)),
   oM 59 58,
   oG 60 (.mov (.t 8)) 59 false,
   oG 61 (.mov (.t 5)) 59 false,
   oG 62 (.bin .eql (.t 60) (.t 61)) 59 false,
   oG 63 (.mov (.t 62)) 59 false,
   oG 64 (.mov (.t 9)) 63 true,
   oG 65 (.bin .neq (.t 64) (.c (.int .i64 0))) 63 true,
   oG 66 (.pick (.t 63) (.t 65) (.c (.bool false))) 59 false,
   o1 67 (.pick (.t 59) (.c (.bool true)) (.t 66))])
  (.cond (.t 67) (.seq (.region false [o1 4 (.mov (.c (.bool false)))])
  (.ret))
  (.skip)))
  (.seq (.region false [oM 68 6,
   oM 69 9,
   oB 70 .add 68 69,
   oM 6 70])
  (.region false [oM 71 8,
   oM 5 71]))))))
  (.region false [oM 33 7,
   o1 34 (.bin .add (.t 33) (.c (.int .i64 1))),
   oM 7 34]))))))
  (.seq (.region false [oM 73 0,
   o1 74 (.call 56 [.c (.int .i64 (-60))]),
   o1 75 (.bld [.bool false, .sl 0 [], .int .i64 0] [(0, 2, .t 74), (2, 1, .c (.int .i64 1))]),
   oM 76 5,
   oC 77 56 [76],
   o1 78 (.bld [.bool false, .sl 0 [], .int .i64 0] [(0, 2, .t 77), (2, 1, .c (.int .i64 1))]),
   oC 79 50 [73, 75, 78],
   oM 72 79,
   o1 80 (.ext (.t 72) 0),
   o1 81 (.ext (.t 72) 1),
   oM 11 80,
   oM 12 81])
  (.seq (.region false [oM 82 12,
   o1 83 (.bin .eql (.t 82) (.c (.int .i64 0))),
   oM 84 83,
   oG 85 (.mov (.t 11)) 84 true,
   oG 86 (.mov (.t 6)) 84 true,
   oG 87 (.bin .eql (.t 85) (.t 86)) 84 true,
   o1 88 (.pick (.t 84) (.t 87) (.c (.bool false))),
   oM 89 88,
   oG 90 (.mov (.t 6)) 89 true,
   oG 91 (.mov (.t 0)) 89 true,
   oG 92 (.call 44 [.t 91]) 89 true,
   oG 93 (.bin .leq (.t 90) (.t 92)) 89 true,
   o1 94 (.pick (.t 89) (.t 93) (.c (.bool false))),
   oM 4 94])
  (.ret))))))))⟩
def Try.r11 : List (Nat × Nat) := []
theorem Try.i11_ok : fnOk Try.prog Try.r11 Try.f11 Try.i11 = true := by kernel_rfl
def Try.i12 : IFunc := ⟨2, 75, [.tmp 4],
  .seq (.region false [o1 2 (.box (.t 0) []),
   o1 3 (.box (.t 1) []),
   o1 4 (.mov (.c (.bool false)))])
  (.seq (.seq (.region false [oC 13 47 [],
   o1 14 (.un .not (.t 13))])
  (.cond (.t 14) (.seq (.region false [o1 4 (.mov (.c (.bool false)))])
  (.ret))
  (.skip)))
  (.seq (.seq (.region false [o1 15 (.ld 2 2 3 false),
   oC 16 49 [15],
   o1 17 (.un .not (.t 16)),
   oM 18 17,
   oG 19 (.ld 3 3 3 false) 18 false,
   oG 20 (.call 49 [.t 19]) 18 false,
   oG 21 (.un .not (.t 20)) 18 false,
   o1 22 (.pick (.t 18) (.c (.bool true)) (.t 21))])
  (.cond (.t 22) (.seq (.region false [oC 23 47 [],
   oM 4 23])
  (.ret))
  (.skip)))
  (.seq (.region false [o1 25 (.ld 2 2 3 false),
   o1 26 (.ld 3 3 3 false),
   oC 27 57 [25, 26],
   oM 24 27,
   o1 28 (.ext (.t 24) 0),
   o1 29 (.ext (.t 24) 1),
   oM 5 28,
   oM 6 29])
  (.seq (.region false [o1 31 (.ld 2 2 3 false),
   o1 32 (.ld 3 3 3 false),
   oC 33 58 [31, 32],
   oM 30 33,
   o1 34 (.ext (.t 30) 0),
   o1 35 (.ext (.t 30) 1),
   oM 7 34,
   oM 8 35])
  (.seq (.region false [o1 37 (.ld 2 2 3 false),
   o1 38 (.ld 3 3 3 false),
   oC 39 59 [37, 38],
   oM 36 39,
   o1 40 (.ext (.t 36) 0),
   o1 41 (.ext (.t 36) 1),
   o1 9 (.new [.bool false, .sl 0 [], .int .i64 0] [62, 69]),
   oN (.st 9 9 3 (.t 40)),
   oM 10 41])
  (.seq (.region false [o1 43 (.ld 2 2 3 false),
   o1 44 (.ld 3 3 3 false),
   oC 45 60 [43, 44],
   oM 42 45,
   o1 46 (.ext (.t 42) 0),
   o1 47 (.ext (.t 42) 1),
   o1 11 (.new [.bool false, .sl 0 [], .int .i64 0] [64, 71]),
   oN (.st 11 11 3 (.t 46)),
   oM 12 47])
  (.seq (.region false [oM 48 5,
   oM 49 7,
   oB 50 .eql 48 49,
   oM 51 50,
   oG 52 (.mov (.t 6)) 51 true,
   oG 53 (.mov (.t 8)) 51 true,
   oG 54 (.bin .eql (.t 52) (.t 53)) 51 true,
   o1 55 (.pick (.t 51) (.t 54) (.c (.bool false))),
   oM 56 55,
   oG 57 (.mov (.t 10)) 56 true,
   oG 58 (.mov (.t 12)) 56 true,
   oG 59 (.bin .eql (.t 57) (.t 58)) 56 true,
   o1 60 (.pick (.t 56) (.t 59) (.c (.bool false))),
   oM 61 60,
   oG 62 (.adr 9 9 2) 61 true,
   oG 63 (.ld 62 9 1 true) 61 true,
   oG 64 (.adr 11 11 2) 61 true,
   oG 65 (.ld 64 11 1 true) 61 true,
   oG 66 (.bin .eql (.t 63) (.t 65)) 61 true,
   o1 67 (.pick (.t 61) (.t 66) (.c (.bool false))),
   oM 68 67,
   oG 69 (.adr 9 9 0) 68 true,
   oG 70 (.ld 69 9 2 false) 68 true,
   oG 71 (.adr 11 11 0) 68 true,
   oG 72 (.ld 71 11 2 false) 68 true,
   oG 73 (.call 41 [.t 70, .t 72]) 68 true,
   o1 74 (.pick (.t 68) (.t 73) (.c (.bool false))),
   oM 4 74])
  (.ret))))))))⟩
def Try.r12 : List (Nat × Nat) := [(62, 9), (64, 11), (69, 9), (71, 11)]
theorem Try.i12_ok : fnOk Try.prog Try.r12 Try.f12 Try.i12 = true := by kernel_rfl
def Try.i13 : IFunc := ⟨0, 101, [.tmp 0],
  .seq (.region false [o1 0 (.mov (.c (.bool false)))])
  (.seq (.region false [o1 13 (.bls 3 [.int .i64 0, .int .i64 0, .int .i64 0] [(0, 1, .c (.int .i64 0)), (1, 1, .c (.int .i64 0)), (2, 1, .c (.int .i64 1))]),
   oC 14 26 [13],
   o1 15 (.bls 2 [.int .i64 0, .int .i64 0] [(0, 1, .c (.int .i64 (-1))), (1, 1, .c (.int .i64 1))]),
   oC 16 26 [15],
   oC 17 15 [14, 16],
   oM 12 17,
   o1 18 (.ext (.t 12) 0),
   o1 19 (.ext (.t 12) 1),
   oM 1 18,
   oM 2 19])
  (.seq (.region false [o1 21 (.bls 3 [.int .i64 0, .int .i64 0, .int .i64 0] [(0, 1, .c (.int .i64 0)), (1, 1, .c (.int .i64 0)), (2, 1, .c (.int .i64 (-1)))]),
   oC 22 26 [21],
   o1 23 (.bls 2 [.int .i64 0, .int .i64 0] [(0, 1, .c (.int .i64 (-1))), (1, 1, .c (.int .i64 2))]),
   oC 24 26 [23],
   oC 25 15 [22, 24],
   oM 20 25,
   o1 26 (.ext (.t 20) 0),
   o1 27 (.ext (.t 20) 1),
   oM 3 26,
   oM 4 27])
  (.seq (.region false [o1 29 (.bls 3 [.int .i64 0, .int .i64 0, .int .i64 0] [(0, 1, .c (.int .i64 (-1))), (1, 1, .c (.int .i64 0)), (2, 1, .c (.int .i64 1))]),
   oC 30 26 [29],
   o1 31 (.bls 2 [.int .i64 0, .int .i64 0] [(0, 1, .c (.int .i64 (-2))), (1, 1, .c (.int .i64 2))]),
   oC 32 26 [31],
   oC 33 16 [30, 32],
   oM 28 33,
   o1 34 (.ext (.t 28) 0),
   o1 35 (.ext (.t 28) 1),
   oM 5 34,
   oM 6 35])
  (.seq (.region false [o1 37 (.bls 4 [.int .i64 0, .int .i64 0, .int .i64 0, .int .i64 0] [(0, 1, .c (.int .i64 0)), (1, 1, .c (.int .i64 0)), (2, 1, .c (.int .i64 (-4))), (3, 1, .c (.int .i64 4))]),
   oC 38 26 [37],
   oC 39 17 [38],
   oM 36 39,
   o1 40 (.ext (.t 36) 0),
   o1 41 (.ext (.t 36) 1),
   oM 7 40,
   oM 8 41])
  (.seq (.region false [o1 43 (.bls 2 [.int .i64 0, .int .i64 0] [(0, 1, .c (.int .i64 6)), (1, 1, .c (.int .i64 (-4)))]),
   oC 44 26 [43],
   oC 45 34 [44],
   oM 42 45,
   o1 46 (.ext (.t 42) 0),
   o1 47 (.ext (.t 42) 1),
   oM 9 46,
   oM 10 47])
  (.seq (.region false [oM 48 2,
   o1 49 (.bin .eql (.t 48) (.c (.int .i64 0))),
   oM 50 49,
   oG 51 (.mov (.t 4)) 50 true,
   oG 52 (.bin .eql (.t 51) (.c (.int .i64 0))) 50 true,
   o1 53 (.pick (.t 50) (.t 52) (.c (.bool false))),
   oM 54 53,
   oG 55 (.mov (.t 6)) 54 true,
   oG 56 (.bin .eql (.t 55) (.c (.int .i64 0))) 54 true,
   o1 57 (.pick (.t 54) (.t 56) (.c (.bool false))),
   oM 58 57,
   oG 59 (.mov (.t 8)) 58 true,
   oG 60 (.bin .eql (.t 59) (.c (.int .i64 0))) 58 true,
   o1 61 (.pick (.t 58) (.t 60) (.c (.bool false))),
   oM 62 61,
   oG 63 (.mov (.t 10)) 62 true,
   oG 64 (.bin .eql (.t 63) (.c (.int .i64 0))) 62 true,
   o1 65 (.pick (.t 62) (.t 64) (.c (.bool false))),
   oM 11 65])
  (.seq (.region false [oM 66 11,
   oM 67 66,
   oG 68 (.mov (.t 1)) 67 true,
   oG 69 (.bls 1 [.int .i64 0] [(0, 1, .c (.int .i64 1))]) 67 true,
   oG 70 (.call 52 [.t 69]) 67 true,
   oG 71 (.call 28 [.t 68, .t 70]) 67 true,
   o1 72 (.pick (.t 67) (.t 71) (.c (.bool false))),
   oM 73 72,
   oG 74 (.mov (.t 3)) 73 true,
   oG 75 (.bls 1 [.int .i64 0] [(0, 1, .c (.int .i64 (-1)))]) 73 true,
   oG 76 (.call 52 [.t 75]) 73 true,
   oG 77 (.call 28 [.t 74, .t 76]) 73 true,
   o1 78 (.pick (.t 73) (.t 77) (.c (.bool false))),
   oM 79 78,
   oG 80 (.mov (.t 5)) 79 true,
   oG 81 (.bls 2 [.int .i64 0, .int .i64 0] [(0, 1, .c (.int .i64 (-1))), (1, 1, .c (.int .i64 1))]) 79 true,
   oG 82 (.call 52 [.t 81]) 79 true,
   oG 83 (.call 28 [.t 80, .t 82]) 79 true,
   o1 84 (.pick (.t 79) (.t 83) (.c (.bool false))),
   oM 85 84,
   oG 86 (.mov (.t 7)) 85 true,
   oG 87 (.bls 3 [.int .i64 0, .int .i64 0, .int .i64 0] [(0, 1, .c (.int .i64 0)), (1, 1, .c (.int .i64 (-1))), (2, 1, .c (.int .i64 1))]) 85 true,
   oG 88 (.call 52 [.t 87]) 85 true,
   oG 89 (.call 28 [.t 86, .t 88]) 85 true,
   o1 90 (.pick (.t 85) (.t 89) (.c (.bool false))),
   oM 91 90,
   oG 92 (.mov (.t 9)) 91 true,
   oG 93 (.bls 2 [.int .i64 0, .int .i64 0] [(0, 1, .c (.int .i64 3)), (1, 1, .c (.int .i64 (-2)))]) 91 true,
   oG 94 (.call 52 [.t 93]) 91 true,
   oG 95 (.call 28 [.t 92, .t 94]) 91 true,
   o1 96 (.pick (.t 91) (.t 95) (.c (.bool false))),
   oM 97 96,
   oG 98 (.call 23 [.c (.sl 0 [])]) 97 true,
   oG 99 (.bin .eql (.t 98) (.c (.int .i64 (-1)))) 97 true,
   o1 100 (.pick (.t 97) (.t 99) (.c (.bool false))),
   oM 0 100])
  (.ret))))))))⟩
def Try.r13 : List (Nat × Nat) := []
theorem Try.i13_ok : fnOk Try.prog Try.r13 Try.f13 Try.i13 = true := by kernel_rfl
def Try.i14 : IFunc := ⟨1, 20, [.tmp 2],
  .seq (.region false [o1 2 (.mov (.c (.bool false)))])
  (.seq (.seq (.region false [oM 4 0,
   o1 5 (.len (.t 4)),
   o1 6 (.bin .gtr (.t 5) (.c (.int .i64 10)))])
  (.cond (.t 6) (.seq (.region false [o1 2 (.mov (.c (.bool false)))])
  (.ret))
  (.skip)))
  (.seq (.seq (.region false [o1 3 (.mov (.c (.int .i64 0)))])
  (.block 0 (.loop (.seq (.seq (.region false [oM 7 3,
   oM 8 0,
   o1 9 (.len (.t 8)),
   oB 10 .lss 7 9])
  (.cond (.t 10) (.skip)
  (.exit 0)))
  (.seq (.block 1 (.seq (.region false [oM 13 0,
   oM 14 3,
   o1 15 (.ixa 13 (.t 14) 2),
   o1 16 (.adr 15 20 1),
   o1 17 (.ld 16 16 1 true),
   o1 18 (.len (.t 17)),
   o1 19 (.bin .gtr (.t 18) (.c (.int .i64 6)))])
  (.cond (.t 19) (.seq (.region false [o1 2 (.mov (.c (.bool false)))])
  (.ret))
  (.skip))))
  (.region false [oM 11 3,
   o1 12 (.bin .add (.t 11) (.c (.int .i64 1))),
   oM 3 12]))))))
  (.seq (.region false [o1 2 (.mov (.c (.bool true)))])
  (.ret))))⟩
def Try.r14 : List (Nat × Nat) := [(16, 20)]
theorem Try.i14_ok : fnOk Try.prog Try.r14 Try.f14 Try.i14 = true := by kernel_rfl
def Try.i15 : IFunc := ⟨2, 19, [.tmp 4, .tmp 5],
  .seq (.region false [o1 4 (.nlo 2),
   o1 5 (.mov (.c (.int .i64 0)))])
  (.seq (.seq (.region false [oM 6 0,
   oM 7 1,
   o1 8 (.bls 2 [.sl 0 [], .sl 0 []] [(0, 1, .t 6), (1, 1, .t 7)]),
   oC 9 61 [8]])
  (.cond (.t 9) (.seq (.region false [o1 4 (.nlo 2),
   o1 5 (.mov (.c (.int .i64 2)))])
  (.ret))
  (.skip)))
  (.seq (.seq (.region false [oM 10 1,
   oC 11 62 [10],
   o1 12 (.bin .lss (.t 11) (.c (.int .i64 0)))])
  (.cond (.t 12) (.seq (.region false [o1 4 (.nlo 2),
   o1 5 (.mov (.c (.int .i64 3)))])
  (.ret))
  (.skip)))
  (.seq (.region false [oM 13 0,
   oM 14 1,
   oC 15 64 [13, 14],
   oC 16 63 [15],
   o1 17 (.ext (.t 16) 0),
   o1 18 (.ext (.t 16) 1),
   o1 4 (.tra 17),
   oM 5 18])
  (.ret))))⟩
def Try.r15 : List (Nat × Nat) := []
theorem Try.i15_ok : fnOk Try.prog Try.r15 Try.f15 Try.i15 = true := by kernel_rfl
def Try.i16 : IFunc := ⟨2, 16, [.tmp 4, .tmp 5],
  .seq (.region false [o1 4 (.nlo 2),
   o1 5 (.mov (.c (.int .i64 0)))])
  (.seq (.seq (.region false [oM 6 0,
   oM 7 1,
   o1 8 (.bls 2 [.sl 0 [], .sl 0 []] [(0, 1, .t 6), (1, 1, .t 7)]),
   oC 9 61 [8]])
  (.cond (.t 9) (.seq (.region false [o1 4 (.nlo 2),
   o1 5 (.mov (.c (.int .i64 2)))])
  (.ret))
  (.skip)))
  (.seq (.region false [oM 10 0,
   oM 11 1,
   oC 12 65 [10, 11],
   oC 13 63 [12],
   o1 14 (.ext (.t 13) 0),
   o1 15 (.ext (.t 13) 1),
   o1 4 (.tra 14),
   oM 5 15])
  (.ret)))⟩
def Try.r16 : List (Nat × Nat) := []
theorem Try.i16_ok : fnOk Try.prog Try.r16 Try.f16 Try.i16 = true := by kernel_rfl
def Try.i17 : IFunc := ⟨1, 12, [.tmp 2, .tmp 3],
  .seq (.region false [o1 2 (.nlo 2),
   o1 3 (.mov (.c (.int .i64 0)))])
  (.seq (.seq (.region false [oM 4 0,
   o1 5 (.bls 1 [.sl 0 []] [(0, 1, .t 4)]),
   oC 6 61 [5]])
  (.cond (.t 6) (.seq (.region false [o1 2 (.nlo 2),
   o1 3 (.mov (.c (.int .i64 2)))])
  (.ret))
  (.skip)))
  (.seq (.region false [oM 7 0,
   oC 8 66 [7],
   oC 9 63 [8],
   o1 10 (.ext (.t 9) 0),
   o1 11 (.ext (.t 9) 1),
   o1 2 (.tra 10),
   oM 3 11])
  (.ret)))⟩
def Try.r17 : List (Nat × Nat) := []
theorem Try.i17_ok : fnOk Try.prog Try.r17 Try.f17 Try.i17 = true := by kernel_rfl
def Try.i18 : IFunc := ⟨2, 23, [.tmp 4, .tmp 5],
  .seq (.region false [o1 4 (.nlo 2),
   o1 5 (.mov (.c (.int .i64 0)))])
  (.seq (.seq (.region false [oM 6 0,
   oC 7 67 [6],
   oM 8 7,
   oG 9 (.mov (.t 1)) 8 false,
   oG 10 (.call 67 [.t 9]) 8 false,
   o1 11 (.pick (.t 8) (.c (.bool true)) (.t 10))])
  (.cond (.t 11) (.seq (.region false [o1 4 (.nlo 2),
   o1 5 (.mov (.c (.int .i64 2)))])
  (.ret))
  (.skip)))
  (.seq (.seq (.region false [oM 12 1,
   oC 13 44 [12],
   o1 14 (.bin .lss (.t 13) (.c (.int .i64 0)))])
  (.cond (.t 14) (.seq (.region false [o1 4 (.nlo 2),
   o1 5 (.mov (.c (.int .i64 3)))])
  (.ret))
  (.skip)))
  (.seq (.region false [oM 15 0,
   oM 16 1,
   oM 17 0,
   oM 18 1,
   oC 19 69 [17, 18],
   oC 20 68 [15, 16, 19],
   o1 21 (.ext (.t 20) 0),
   o1 22 (.ext (.t 20) 1),
   o1 4 (.tra 21),
   oM 5 22])
  (.ret))))⟩
def Try.r18 : List (Nat × Nat) := []
theorem Try.i18_ok : fnOk Try.prog Try.r18 Try.f18 Try.i18 = true := by kernel_rfl
def Try.i19 : IFunc := ⟨2, 20, [.tmp 4, .tmp 5],
  .seq (.region false [o1 4 (.nlo 2),
   o1 5 (.mov (.c (.int .i64 0)))])
  (.seq (.seq (.region false [oM 6 0,
   oC 7 67 [6],
   oM 8 7,
   oG 9 (.mov (.t 1)) 8 false,
   oG 10 (.call 67 [.t 9]) 8 false,
   o1 11 (.pick (.t 8) (.c (.bool true)) (.t 10))])
  (.cond (.t 11) (.seq (.region false [o1 4 (.nlo 2),
   o1 5 (.mov (.c (.int .i64 2)))])
  (.ret))
  (.skip)))
  (.seq (.region false [oM 12 0,
   oM 13 1,
   oM 14 0,
   oM 15 1,
   oC 16 70 [14, 15],
   oC 17 68 [12, 13, 16],
   o1 18 (.ext (.t 17) 0),
   o1 19 (.ext (.t 17) 1),
   o1 4 (.tra 18),
   oM 5 19])
  (.ret)))⟩
def Try.r19 : List (Nat × Nat) := []
theorem Try.i19_ok : fnOk Try.prog Try.r19 Try.f19 Try.i19 = true := by kernel_rfl
def Try.i20 : IFunc := ⟨1, 13, [.tmp 2, .tmp 3],
  .seq (.region false [o1 2 (.nlo 2),
   o1 3 (.mov (.c (.int .i64 0)))])
  (.seq (.seq (.region false [oM 4 0,
   oC 5 67 [4]])
  (.cond (.t 5) (.seq (.region false [o1 2 (.nlo 2),
   o1 3 (.mov (.c (.int .i64 2)))])
  (.ret))
  (.skip)))
  (.seq (.region false [oM 6 0,
   oM 7 0,
   oM 8 0,
   oC 9 71 [8],
   oC 10 68 [6, 7, 9],
   o1 11 (.ext (.t 10) 0),
   o1 12 (.ext (.t 10) 1),
   o1 2 (.tra 11),
   oM 3 12])
  (.ret)))⟩
def Try.r20 : List (Nat × Nat) := []
theorem Try.i20_ok : fnOk Try.prog Try.r20 Try.f20 Try.i20 = true := by kernel_rfl
def Try.i21 : IFunc := ⟨4, 17, [.tmp 8],
  .seq (.region false [o1 8 (.mov (.c (.bool false)))])
  (.seq (.region false [oM 9 1,
   oM 10 3,
   oB 11 .eql 9 10,
   oM 12 11,
   oG 13 (.mov (.t 0)) 12 true,
   oG 14 (.mov (.t 2)) 12 true,
   oG 15 (.call 28 [.t 13, .t 14]) 12 true,
   o1 16 (.pick (.t 12) (.t 15) (.c (.bool false))),
   oM 8 16])
  (.ret))⟩
def Try.r21 : List (Nat × Nat) := []
theorem Try.i21_ok : fnOk Try.prog Try.r21 Try.f21 Try.i21 = true := by kernel_rfl
def Try.i22 : IFunc := ⟨1, 17, [.tmp 2],
  .seq (.region false [o1 2 (.mov (.c (.bool false)))])
  (.seq (.seq (.region false [o1 3 (.mov (.c (.int .i64 0)))])
  (.block 0 (.loop (.seq (.seq (.region false [oM 4 3,
   oM 5 0,
   o1 6 (.len (.t 5)),
   oB 7 .lss 4 6])
  (.cond (.t 7) (.skip)
  (.exit 0)))
  (.seq (.block 1 (.seq (.region false [oM 10 0,
   oM 11 3,
   o1 12 (.ixa 10 (.t 11) 2),
   o1 13 (.adr 12 17 1),
   o1 14 (.ld 13 13 1 true),
   o1 15 (.len (.t 14)),
   o1 16 (.bin .gtr (.t 15) (.c (.int .i64 3)))])
  (.cond (.t 16) (.seq (.region false [o1 2 (.mov (.c (.bool false)))])
  (.ret))
  (.skip))))
  (.region false [oM 8 3,
   o1 9 (.bin .add (.t 8) (.c (.int .i64 1))),
   oM 3 9]))))))
  (.seq (.region false [o1 2 (.mov (.c (.bool true)))])
  (.ret)))⟩
def Try.r22 : List (Nat × Nat) := [(13, 17)]
theorem Try.i22_ok : fnOk Try.prog Try.r22 Try.f22 Try.i22 = true := by kernel_rfl
def Try.i23 : IFunc := ⟨1, 5, [.tmp 2],
  .seq (.region false [o1 2 (.mov (.c (.int .i64 0)))])
  (.seq (.region false [oM 3 0,
   oC 4 62 [3],
   oM 2 4])
  (.ret))⟩
def Try.r23 : List (Nat × Nat) := []
theorem Try.i23_ok : fnOk Try.prog Try.r23 Try.f23 Try.i23 = true := by kernel_rfl
def Try.i24 : IFunc := ⟨2, 16, [.tmp 4, .tmp 5],
  .seq (.region false [o1 4 (.nlo 2),
   o1 5 (.mov (.c (.int .i64 0)))])
  (.seq (.seq (.region false [oM 6 0,
   oM 7 1,
   o1 8 (.bls 2 [.sl 0 [], .sl 0 []] [(0, 1, .t 6), (1, 1, .t 7)]),
   oC 9 61 [8]])
  (.cond (.t 9) (.seq (.region false [o1 4 (.nlo 2),
   o1 5 (.mov (.c (.int .i64 2)))])
  (.ret))
  (.skip)))
  (.seq (.region false [oM 10 0,
   oM 11 1,
   oC 12 72 [10, 11],
   oC 13 63 [12],
   o1 14 (.ext (.t 13) 0),
   o1 15 (.ext (.t 13) 1),
   o1 4 (.tra 14),
   oM 5 15])
  (.ret)))⟩
def Try.r24 : List (Nat × Nat) := []
theorem Try.i24_ok : fnOk Try.prog Try.r24 Try.f24 Try.i24 = true := by kernel_rfl
def Try.i25 : IFunc := ⟨1, 5, [.tmp 2],
  .seq (.region false [o1 1 (.box (.t 0) []),
   o1 2 (.mov (.c (.int .i64 0)))])
  (.seq (.region false [o1 3 (.ld 1 1 2 false),
   oC 4 73 [3],
   oM 2 4])
  (.ret))⟩
def Try.r25 : List (Nat × Nat) := []
theorem Try.i25_ok : fnOk Try.prog Try.r25 Try.f25 Try.i25 = true := by kernel_rfl
def Try.i26 : IFunc := ⟨1, 5, [.tmp 2],
  .seq (.region false [o1 2 (.nlo 2)])
  (.seq (.region false [oM 3 0,
   o1 4 (.clo 74 [.t 3]),
   o1 2 (.tra 4)])
  (.ret))⟩
def Try.r26 : List (Nat × Nat) := []
theorem Try.i26_ok : fnOk Try.prog Try.r26 Try.f26 Try.i26 = true := by kernel_rfl
def Try.i27 : IFunc := ⟨1, 12, [.tmp 2, .tmp 3],
  .seq (.region false [o1 2 (.nlo 2),
   o1 3 (.mov (.c (.int .i64 0)))])
  (.seq (.seq (.region false [oM 4 0,
   o1 5 (.bls 1 [.sl 0 []] [(0, 1, .t 4)]),
   oC 6 61 [5]])
  (.cond (.t 6) (.seq (.region false [o1 2 (.nlo 2),
   o1 3 (.mov (.c (.int .i64 2)))])
  (.ret))
  (.skip)))
  (.seq (.region false [oM 7 0,
   oC 8 75 [7],
   oC 9 63 [8],
   o1 10 (.ext (.t 9) 0),
   o1 11 (.ext (.t 9) 1),
   o1 2 (.tra 10),
   oM 3 11])
  (.ret)))⟩
def Try.r27 : List (Nat × Nat) := []
theorem Try.i27_ok : fnOk Try.prog Try.r27 Try.f27 Try.i27 = true := by kernel_rfl
def Try.i28 : IFunc := ⟨2, 27, [.tmp 4],
  .seq (.region false [o1 4 (.mov (.c (.bool false)))])
  (.seq (.seq (.region false [oM 6 0,
   o1 7 (.len (.t 6)),
   oM 8 1,
   o1 9 (.len (.t 8)),
   oB 10 .neq 7 9])
  (.cond (.t 10) (.seq (.region false [o1 4 (.mov (.c (.bool false)))])
  (.ret))
  (.skip)))
  (.seq (.seq (.region false [o1 5 (.mov (.c (.int .i64 0)))])
  (.block 0 (.loop (.seq (.seq (.region false [oM 11 5,
   oM 12 0,
   o1 13 (.len (.t 12)),
   oB 14 .lss 11 13])
  (.cond (.t 14) (.skip)
  (.exit 0)))
  (.seq (.block 1 (.seq (.region true [oM 17 0,
   oM 18 5,
   o1 19 (.ixa 17 (.t 18) 2),
   o1 20 (.ld 19 19 2 false),
   oM 21 1,
   oM 22 5,
   o1 23 (.ixa 21 (.t 22) 2),
   o1 24 (.ld 23 23 2 false),
   oC 25 41 [20, 24],
   o1 26 (.un .not (.t 25))])
  (.cond (.t 26) (.seq (.region false [o1 4 (.mov (.c (.bool false)))])
  (.ret))
  (.skip))))
  (.region false [oM 15 5,
   o1 16 (.bin .add (.t 15) (.c (.int .i64 1))),
   oM 5 16]))))))
  (.seq (.region false [o1 4 (.mov (.c (.bool true)))])
  (.ret))))⟩
def Try.r28 : List (Nat × Nat) := []
theorem Try.i28_ok : fnOk Try.prog Try.r28 Try.f28 Try.i28 = true := by kernel_rfl
def Try.i29 : IFunc := ⟨2, 48, [.tmp 4, .tmp 5],
  .seq (.region false [o1 3 (.box (.t 1) [14, 20, 24, 32, 35]),
   o1 4 (.mov (.c (.int .i64 0))),
   o1 5 (.mov (.c (.int .i64 0)))])
  (.seq (.region false [oM 7 0,
   oC 8 62 [7],
   oM 6 8])
  (.seq (.block 0 (.seq (.region false [oM 10 0,
   o1 11 (.bls 1 [.sl 0 []] [(0, 1, .t 10)]),
   oC 12 61 [11],
   oM 13 12,
   oG 14 (.adr 3 3 0) 13 false,
   oG 15 (.ld 14 3 2 false) 13 false,
   oG 16 (.call 76 [.t 15]) 13 false,
   oG 17 (.bin .gtr (.t 16) (.c (.int .i64 256))) 13 false,
   o1 18 (.pick (.t 13) (.c (.bool true)) (.t 17)),
   oM 9 18])
  (.cond (.t 9) (.seq (.region false [o1 4 (.mov (.c (.int .i64 0))),
   o1 5 (.mov (.c (.int .i64 2)))])
  (.ret))
  (.seq (.region false [o1 20 (.adr 3 3 2),
   o1 21 (.ld 20 3 1 true),
   o1 22 (.bin .lss (.t 21) (.c (.int .i64 0))),
   oM 23 22,
   oG 24 (.adr 3 3 2) 23 false,
   oG 25 (.ld 24 3 1 true) 23 false,
   oG 26 (.bin .gtr (.t 25) (.c (.int .i64 4096))) 23 false,
   o1 27 (.pick (.t 23) (.c (.bool true)) (.t 26)),
   oM 19 27])
  (.cond (.t 19) (.seq (.region false [o1 4 (.mov (.c (.int .i64 0))),
   o1 5 (.mov (.c (.int .i64 1)))])
  (.ret))
  (.seq (.region true [oM 29 6,
   o1 30 (.bin .gtr (.t 29) (.c (.int .i64 0))),
   oM 31 30,
   oG 32 (.adr 3 3 0) 31 true,
   oG 33 (.ld 32 3 2 false) 31 true,
   oG 34 (.call 77 [.t 33]) 31 true,
   oG 35 (.adr 3 3 2) 31 true,
   oG 36 (.ld 35 3 1 true) 31 true,
   oG 37 (.bin .add (.t 34) (.t 36)) 31 true,
   oG 38 (.mov (.t 6)) 31 true,
   oG 39 (.bin .mul (.t 37) (.t 38)) 31 true,
   oG 40 (.bin .gtr (.t 39) (.c (.int .i64 8192))) 31 true,
   o1 41 (.pick (.t 31) (.t 40) (.c (.bool false))),
   oM 28 41])
  (.cond (.t 28) (.seq (.region false [o1 4 (.mov (.c (.int .i64 0))),
   o1 5 (.mov (.c (.int .i64 2)))])
  (.ret))
  (.skip))))))))
  (.seq (.region true [oM 42 0,
   oM 43 6,
   o1 44 (.bin .add (.t 43) (.c (.int .i64 1))),
   o1 45 (.sli (.t 42) none (some (.t 44)) none 2),
   o1 46 (.ld 3 3 3 false),
   oC 47 78 [45, 46],
   oM 4 47,
   o1 5 (.mov (.c (.int .i64 0)))])
  (.ret))))⟩
def Try.r29 : List (Nat × Nat) := [(14, 3), (20, 3), (24, 3), (32, 3), (35, 3)]
theorem Try.i29_ok : fnOk Try.prog Try.r29 Try.f29 Try.i29 = true := by kernel_rfl
def Try.i30 : IFunc := ⟨2, 44, [.tmp 4, .tmp 5],
  .seq (.region false [o1 3 (.box (.t 1) [10, 14, 18, 27, 30, 38, 40]),
   o1 4 (.mov (.c (.int .i64 0))),
   o1 5 (.mov (.c (.int .i64 0)))])
  (.seq (.seq (.region false [oM 7 0,
   oC 8 67 [7],
   oM 9 8,
   oG 10 (.adr 3 3 0) 9 false,
   oG 11 (.ld 10 3 2 false) 9 false,
   oG 12 (.call 79 [.t 11]) 9 false,
   o1 13 (.pick (.t 9) (.c (.bool true)) (.t 12))])
  (.cond (.t 13) (.seq (.region false [o1 4 (.mov (.c (.int .i64 0))),
   o1 5 (.mov (.c (.int .i64 2)))])
  (.ret))
  (.skip)))
  (.seq (.seq (.region false [o1 14 (.adr 3 3 2),
   o1 15 (.ld 14 3 1 true),
   o1 16 (.bin .lss (.t 15) (.c (.int .i64 0))),
   oM 17 16,
   oG 18 (.adr 3 3 2) 17 false,
   oG 19 (.ld 18 3 1 true) 17 false,
   oG 20 (.bin .gtr (.t 19) (.c (.int .i64 4096))) 17 false,
   o1 21 (.pick (.t 17) (.c (.bool true)) (.t 20))])
  (.cond (.t 21) (.seq (.region false [o1 4 (.mov (.c (.int .i64 0))),
   o1 5 (.mov (.c (.int .i64 1)))])
  (.ret))
  (.skip)))
  (.seq (.region false [oM 22 0,
   oC 23 44 [22],
   oM 6 23])
  (.seq (.seq (.region true [oM 24 6,
   o1 25 (.bin .gtr (.t 24) (.c (.int .i64 0))),
   oM 26 25,
   oG 27 (.adr 3 3 0) 26 true,
   oG 28 (.ld 27 3 2 false) 26 true,
   oG 29 (.call 80 [.t 28]) 26 true,
   oG 30 (.adr 3 3 2) 26 true,
   oG 31 (.ld 30 3 1 true) 26 true,
   oG 32 (.bin .add (.t 29) (.t 31)) 26 true,
   oG 33 (.mov (.t 6)) 26 true,
   oG 34 (.bin .mul (.t 32) (.t 33)) 26 true,
   oG 35 (.bin .gtr (.t 34) (.c (.int .i64 8192))) 26 true,
   o1 36 (.pick (.t 26) (.t 35) (.c (.bool false)))])
  (.cond (.t 36) (.seq (.region false [o1 4 (.mov (.c (.int .i64 0))),
   o1 5 (.mov (.c (.int .i64 2)))])
  (.ret))
  (.skip)))
  (.seq (.region false [oM 37 0,
   o1 38 (.adr 3 3 0),
   o1 39 (.ld 38 3 2 false),
   o1 40 (.adr 3 3 2),
   o1 41 (.ld 40 3 1 true),
   oC 42 82 [37, 39, 41],
   oC 43 81 [42],
   oM 4 43,
   o1 5 (.mov (.c (.int .i64 0)))])
  (.ret))))))⟩
def Try.r30 : List (Nat × Nat) := [(10, 3), (14, 3), (18, 3), (27, 3), (30, 3), (38, 3), (40, 3)]
theorem Try.i30_ok : fnOk Try.prog Try.r30 Try.f30 Try.i30 = true := by kernel_rfl
def Try.i31 : IFunc := ⟨2, 16, [.tmp 4, .tmp 5],
  .seq (.region false [o1 4 (.nlo 2),
   o1 5 (.mov (.c (.int .i64 0)))])
  (.seq (.seq (.region false [oM 6 0,
   oM 7 1,
   o1 8 (.bls 2 [.sl 0 [], .sl 0 []] [(0, 1, .t 6), (1, 1, .t 7)]),
   oC 9 61 [8]])
  (.cond (.t 9) (.seq (.region false [o1 4 (.nlo 2),
   o1 5 (.mov (.c (.int .i64 2)))])
  (.ret))
  (.skip)))
  (.seq (.region false [oM 10 0,
   oM 11 1,
   oC 12 83 [10, 11],
   oC 13 63 [12],
   o1 14 (.ext (.t 13) 0),
   o1 15 (.ext (.t 13) 1),
   o1 4 (.tra 14),
   oM 5 15])
  (.ret)))⟩
def Try.r31 : List (Nat × Nat) := []
theorem Try.i31_ok : fnOk Try.prog Try.r31 Try.f31 Try.i31 = true := by kernel_rfl
def Try.i32 : IFunc := ⟨2, 16, [.tmp 4, .tmp 5],
  .seq (.region false [o1 4 (.nlo 2),
   o1 5 (.mov (.c (.int .i64 0)))])
  (.seq (.seq (.region false [oM 6 0,
   oM 7 1,
   o1 8 (.bls 2 [.sl 0 [], .sl 0 []] [(0, 1, .t 6), (1, 1, .t 7)]),
   oC 9 61 [8]])
  (.cond (.t 9) (.seq (.region false [o1 4 (.nlo 2),
   o1 5 (.mov (.c (.int .i64 2)))])
  (.ret))
  (.skip)))
  (.seq (.region false [oM 10 0,
   oM 11 1,
   oC 12 84 [10, 11],
   oC 13 63 [12],
   o1 14 (.ext (.t 13) 0),
   o1 15 (.ext (.t 13) 1),
   o1 4 (.tra 14),
   oM 5 15])
  (.ret)))⟩
def Try.r32 : List (Nat × Nat) := []
theorem Try.i32_ok : fnOk Try.prog Try.r32 Try.f32 Try.i32 = true := by kernel_rfl
def Try.i33 : IFunc := ⟨1, 14, [.cell 2 2 false, .tmp 3],
  .seq (.region false [o1 2 (.new [.bool false, .sl 0 []] []),
   o1 3 (.mov (.c (.int .i64 0)))])
  (.seq (.seq (.region false [oM 4 0,
   o1 5 (.bls 1 [.sl 0 []] [(0, 1, .t 4)]),
   oC 6 61 [5]])
  (.cond (.t 6) (.seq (.region false [o1 7 (.bld [.bool false, .sl 0 []] []),
   oN (.st 2 2 2 (.t 7)),
   o1 3 (.mov (.c (.int .i64 2)))])
  (.ret))
  (.skip)))
  (.seq (.region false [oM 8 0,
   oM 9 0,
   oC 10 62 [9],
   o1 11 (.bin .add (.t 10) (.c (.int .i64 1))),
   o1 12 (.sli (.t 8) none (some (.t 11)) none 2),
   oC 13 85 [12],
   oN (.st 2 2 2 (.t 13)),
   o1 3 (.mov (.c (.int .i64 0)))])
  (.ret)))⟩
def Try.r33 : List (Nat × Nat) := []
theorem Try.i33_ok : fnOk Try.prog Try.r33 Try.f33 Try.i33 = true := by kernel_rfl
def Try.i34 : IFunc := ⟨1, 9, [.tmp 2, .tmp 3],
  .seq (.region false [o1 2 (.nlo 2),
   o1 3 (.mov (.c (.int .i64 0)))])
  (.seq (.seq (.region false [oM 4 0,
   o1 5 (.bls 1 [.sl 0 []] [(0, 1, .t 4)]),
   oC 6 61 [5]])
  (.cond (.t 6) (.seq (.region false [o1 2 (.nlo 2),
   o1 3 (.mov (.c (.int .i64 2)))])
  (.ret))
  (.skip)))
  (.seq (.region false [oM 7 0,
   o1 8 (.clo 86 [.t 7]),
   o1 2 (.tra 8),
   o1 3 (.mov (.c (.int .i64 0)))])
  (.ret)))⟩
def Try.r34 : List (Nat × Nat) := []
theorem Try.i34_ok : fnOk Try.prog Try.r34 Try.f34 Try.i34 = true := by kernel_rfl
def Try.i35 : IFunc := ⟨2, 14, [.tmp 4, .tmp 5],
  .seq (.region false [o1 4 (.nlo 2),
   o1 5 (.mov (.c (.int .i64 0)))])
  (.seq (.region false [oM 6 0,
   oM 7 1,
   oM 8 0,
   oM 9 1,
   oC 10 87 [8, 9],
   oC 11 68 [6, 7, 10],
   o1 12 (.ext (.t 11) 0),
   o1 13 (.ext (.t 11) 1),
   o1 4 (.tra 12),
   oM 5 13])
  (.ret))⟩
def Try.r35 : List (Nat × Nat) := []
theorem Try.i35_ok : fnOk Try.prog Try.r35 Try.f35 Try.i35 = true := by kernel_rfl
def Try.i36 : IFunc := ⟨2, 14, [.tmp 4, .tmp 5],
  .seq (.region false [o1 4 (.nlo 2),
   o1 5 (.mov (.c (.int .i64 0)))])
  (.seq (.region false [oM 6 0,
   oM 7 1,
   oM 8 0,
   oM 9 1,
   oC 10 88 [8, 9],
   oC 11 68 [6, 7, 10],
   o1 12 (.ext (.t 11) 0),
   o1 13 (.ext (.t 11) 1),
   o1 4 (.tra 12),
   oM 5 13])
  (.ret))⟩
def Try.r36 : List (Nat × Nat) := []
theorem Try.i36_ok : fnOk Try.prog Try.r36 Try.f36 Try.i36 = true := by kernel_rfl
def Try.i37 : IFunc := ⟨2, 22, [.tmp 4, .tmp 5],
  .seq (.region false [o1 4 (.nlo 2),
   o1 5 (.mov (.c (.int .i64 0)))])
  (.seq (.seq (.region false [oM 6 0,
   oC 7 67 [6],
   oM 8 7,
   oG 9 (.mov (.t 1)) 8 false,
   oG 10 (.call 67 [.t 9]) 8 false,
   o1 11 (.pick (.t 8) (.c (.bool true)) (.t 10))])
  (.cond (.t 11) (.seq (.region false [o1 4 (.nlo 2),
   o1 5 (.mov (.c (.int .i64 2)))])
  (.ret))
  (.skip)))
  (.seq (.region false [oM 12 0,
   oM 13 1,
   oM 14 0,
   oC 15 43 [14],
   oM 16 1,
   oC 17 43 [16],
   oC 18 53 [15, 17],
   oC 19 68 [12, 13, 18],
   o1 20 (.ext (.t 19) 0),
   o1 21 (.ext (.t 19) 1),
   o1 4 (.tra 20),
   oM 5 21])
  (.ret)))⟩
def Try.r37 : List (Nat × Nat) := []
theorem Try.i37_ok : fnOk Try.prog Try.r37 Try.f37 Try.i37 = true := by kernel_rfl
def Try.i38 : IFunc := ⟨1, 11, [.tmp 2, .tmp 3],
  .seq (.region false [o1 2 (.nlo 2),
   o1 3 (.mov (.c (.int .i64 0)))])
  (.seq (.region false [oM 4 0,
   oM 5 0,
   oM 6 0,
   oC 7 89 [6],
   oC 8 68 [4, 5, 7],
   o1 9 (.ext (.t 8) 0),
   o1 10 (.ext (.t 8) 1),
   o1 2 (.tra 9),
   oM 3 10])
  (.ret))⟩
def Try.r38 : List (Nat × Nat) := []
theorem Try.i38_ok : fnOk Try.prog Try.r38 Try.f38 Try.i38 = true := by kernel_rfl
def Try.i39 : IFunc := ⟨1, 9, [.cell 2 2 false, .tmp 3],
  .seq (.region false [o1 2 (.new [.bool false, .sl 0 []] []),
   o1 3 (.mov (.c (.int .i64 0)))])
  (.seq (.seq (.region false [oM 4 0,
   oC 5 67 [4]])
  (.cond (.t 5) (.seq (.region false [o1 6 (.bld [.bool false, .sl 0 []] []),
   oN (.st 2 2 2 (.t 6)),
   o1 3 (.mov (.c (.int .i64 2)))])
  (.ret))
  (.skip)))
  (.seq (.region false [oM 7 0,
   oC 8 90 [7],
   oN (.st 2 2 2 (.t 8)),
   o1 3 (.mov (.c (.int .i64 0)))])
  (.ret)))⟩
def Try.r39 : List (Nat × Nat) := []
theorem Try.i39_ok : fnOk Try.prog Try.r39 Try.f39 Try.i39 = true := by kernel_rfl
def Try.i40 : IFunc := ⟨1, 8, [.tmp 2, .tmp 3],
  .seq (.region false [o1 2 (.nlo 2),
   o1 3 (.mov (.c (.int .i64 0)))])
  (.seq (.seq (.region false [oM 4 0,
   oC 5 67 [4]])
  (.cond (.t 5) (.seq (.region false [o1 2 (.nlo 2),
   o1 3 (.mov (.c (.int .i64 2)))])
  (.ret))
  (.skip)))
  (.seq (.region false [oM 6 0,
   o1 7 (.clo 91 [.t 6]),
   o1 2 (.tra 7),
   o1 3 (.mov (.c (.int .i64 0)))])
  (.ret)))⟩
def Try.r40 : List (Nat × Nat) := []
theorem Try.i40_ok : fnOk Try.prog Try.r40 Try.f40 Try.i40 = true := by kernel_rfl
def Try.i41 : IFunc := ⟨2, 38, [.tmp 4],
  .seq (.region false [o1 2 (.box (.t 0) [6, 12, 21, 27]),
   o1 3 (.box (.t 1) [8, 15, 32]),
   o1 4 (.mov (.c (.bool false)))])
  (.seq (.seq (.region false [o1 6 (.adr 2 2 0),
   o1 7 (.ld 6 2 1 true),
   o1 8 (.adr 3 3 0),
   o1 9 (.ld 8 3 1 true),
   o1 10 (.eqb true (.t 7) (.t 9)),
   oM 11 10,
   oG 12 (.adr 2 2 1) 11 false,
   oG 13 (.ld 12 2 1 true) 11 false,
   oG 14 (.len (.t 13)) 11 false,
   oG 15 (.adr 3 3 1) 11 false,
   oG 16 (.ld 15 3 1 true) 11 false,
   oG 17 (.len (.t 16)) 11 false,
   oG 18 (.bin .neq (.t 14) (.t 17)) 11 false,
   o1 19 (.pick (.t 11) (.c (.bool true)) (.t 18))])
  (.cond (.t 19) (.seq (.region false [o1 4 (.mov (.c (.bool false)))])
  (.ret))
  (.skip)))
  (.seq (.seq (.region false [o1 5 (.mov (.c (.int .i64 0)))])
  (.block 0 (.loop (.seq (.seq (.region false [oM 20 5,
   o1 21 (.adr 2 2 1),
   o1 22 (.ld 21 2 1 true),
   o1 23 (.len (.t 22)),
   oB 24 .lss 20 23])
  (.cond (.t 24) (.skip)
  (.exit 0)))
  (.seq (.block 1 (.seq (.region true [o1 27 (.adr 2 2 1),
   o1 28 (.ld 27 2 1 true),
   oM 29 5,
   o1 30 (.ixa 28 (.t 29) 1),
   o1 31 (.ld 30 30 1 true),
   o1 32 (.adr 3 3 1),
   o1 33 (.ld 32 3 1 true),
   oM 34 5,
   o1 35 (.ixa 33 (.t 34) 1),
   o1 36 (.ld 35 35 1 true),
   oB 37 .neq 31 36])
  (.cond (.t 37) (.seq (.region false [o1 4 (.mov (.c (.bool false)))])
  (.ret))
  (.skip))))
  (.region false [oM 25 5,
   o1 26 (.bin .add (.t 25) (.c (.int .i64 1))),
   oM 5 26]))))))
  (.seq (.region false [o1 4 (.mov (.c (.bool true)))])
  (.ret))))⟩
def Try.r41 : List (Nat × Nat) := [(6, 2), (8, 3), (12, 2), (15, 3), (21, 2), (27, 2), (32, 3)]
theorem Try.i41_ok : fnOk Try.prog Try.r41 Try.f41 Try.i41 = true := by kernel_rfl
def Try.i42 : IFunc := ⟨1, 5, [.tmp 2],
  .seq (.region false [o1 2 (.nlo 2)])
  (.seq (.region false [oM 3 0,
   o1 4 (.clo 92 [.t 3]),
   o1 2 (.tra 4)])
  (.ret))⟩
def Try.r42 : List (Nat × Nat) := []
theorem Try.i42_ok : fnOk Try.prog Try.r42 Try.f42 Try.i42 = true := by kernel_rfl
def Try.i43 : IFunc := ⟨1, 35, [.tmp 2],
  .seq (.region false [o1 2 (.nlo 2)])
  (.seq (.region false [oM 6 0,
   o1 7 (.len (.t 6)),
   oM 3 7])
  (.seq (.block 0 (.loop (.seq (.seq (.region false [oM 8 3,
   o1 9 (.bin .gtr (.t 8) (.c (.int .i64 0))),
   oM 10 9,
   oG 11 (.mov (.t 0)) 10 true,
   oG 12 (.mov (.t 3)) 10 true,
   oG 13 (.bin .sub (.t 12) (.c (.int .i64 1))) 10 true,
   oG 14 (.ixa 11 (.t 13) 2) 10 true,
   oG 15 (.ld 14 14 2 false) 10 true,
   oG 16 (.call 81 [.t 15]) 10 true,
   oG 17 (.bin .eql (.t 16) (.c (.int .i64 0))) 10 true,
   o1 18 (.pick (.t 10) (.t 17) (.c (.bool false)))])
  (.cond (.t 18) (.skip)
  (.exit 0)))
  (.block 1 (.region false [oM 19 3,
   o1 20 (.bin .sub (.t 19) (.c (.int .i64 1))),
   oM 3 20])))))
  (.seq (.region false [o1 4 (.nlo 2)])
  (.seq (.seq (.region false [o1 5 (.mov (.c (.int .i64 0)))])
  (.block 2 (.loop (.seq (.seq (.region false [oM 21 5,
   oM 22 3,
   oB 23 .lss 21 22])
  (.cond (.t 23) (.skip)
  (.exit 2)))
  (.seq (.block 3 (.region false [o1 26 (.tra 4),
   oM 27 0,
   oM 28 5,
   o1 29 (.ixa 27 (.t 28) 2),
   o1 30 (.ld 29 29 2 false),
   oC 31 93 [30],
   o1 32 (.bls 1 [.bool false, .sl 0 []] [(0, 2, .t 31)]),
   o1 33 (.apd true (.t 26) (.t 32) 2),
   o1 4 (.tra 33)]))
  (.region false [oM 24 5,
   o1 25 (.bin .add (.t 24) (.c (.int .i64 1))),
   oM 5 25]))))))
  (.seq (.region false [o1 34 (.tra 4),
   o1 2 (.tra 34)])
  (.ret))))))⟩
def Try.r43 : List (Nat × Nat) := []
theorem Try.i43_ok : fnOk Try.prog Try.r43 Try.f43 Try.i43 = true := by kernel_rfl
def Try.i44 : IFunc := ⟨1, 7, [.tmp 2],
  .seq (.region false [o1 2 (.mov (.c (.int .i64 0)))])
  (.seq (.region false [oM 3 0,
   oC 4 43 [3],
   o1 5 (.len (.t 4)),
   o1 6 (.bin .sub (.t 5) (.c (.int .i64 1))),
   oM 2 6])
  (.ret))⟩
def Try.r44 : List (Nat × Nat) := []
theorem Try.i44_ok : fnOk Try.prog Try.r44 Try.f44 Try.i44 = true := by kernel_rfl
def Try.i45 : IFunc := ⟨2, 14, [.tmp 4],
  .seq (.region false [o1 4 (.mov (.c (.int .i64 0)))])
  (.seq (.region false [oM 5 0,
   oM 6 1,
   oB 7 .rem 5 6,
   oM 0 7])
  (.seq (.seq (.region false [oM 8 0,
   o1 9 (.bin .lss (.t 8) (.c (.int .i64 0)))])
  (.cond (.t 9) (.region false [oM 10 0,
   oM 11 1,
   oB 12 .add 10 11,
   oM 0 12])
  (.skip)))
  (.seq (.region false [oM 13 0,
   oM 4 13])
  (.ret))))⟩
def Try.r45 : List (Nat × Nat) := []
theorem Try.i45_ok : fnOk Try.prog Try.r45 Try.f45 Try.i45 = true := by kernel_rfl
def Try.i46 : IFunc := ⟨1, 5, [.cell 2 2 false],
  .seq (.region false [o1 2 (.new [.bool false, .sl 0 []] [])])
  (.seq (.region false [oM 3 0,
   oC 4 94 [3],
   oN (.st 2 2 2 (.t 4))])
  (.ret))⟩
def Try.r46 : List (Nat × Nat) := []
theorem Try.i46_ok : fnOk Try.prog Try.r46 Try.f46 Try.i46 = true := by kernel_rfl
def Try.i47 : IFunc := ⟨0, 86, [.tmp 0],
  .seq (.region false [o1 0 (.mov (.c (.bool false)))])
  (.seq (.region false [o1 11 (.bls 3 [.int .i64 0, .int .i64 0, .int .i64 0] [(0, 1, .c (.int .i64 (-2))), (1, 1, .c (.int .i64 0)), (2, 1, .c (.int .i64 1))]),
   oC 12 52 [11],
   o1 13 (.bls 3 [.int .i64 0, .int .i64 0, .int .i64 0] [(0, 1, .c (.int .i64 0)), (1, 1, .c (.int .i64 (-1))), (2, 1, .c (.int .i64 1))]),
   oC 14 52 [13],
   oM 1 12,
   oM 2 14])
  (.seq (.region false [oM 16 1,
   o1 17 (.call 54 [.c (.int .i64 0)]),
   o1 18 (.call 54 [.c (.int .i64 2)]),
   oC 19 50 [16, 17, 18],
   oM 15 19,
   o1 20 (.ext (.t 15) 0),
   o1 21 (.ext (.t 15) 1),
   oM 3 20,
   oM 4 21])
  (.seq (.region false [oM 23 2,
   o1 24 (.call 54 [.c (.int .i64 0)]),
   o1 25 (.call 54 [.c (.int .i64 1)]),
   oC 26 50 [23, 24, 25],
   oM 22 26,
   o1 27 (.ext (.t 22) 0),
   o1 28 (.ext (.t 22) 1),
   oM 5 27,
   oM 6 28])
  (.seq (.region false [oM 30 1,
   oC 31 95 [30],
   oM 29 31,
   o1 32 (.ext (.t 29) 0),
   o1 33 (.ext (.t 29) 1),
   oM 7 32,
   oM 8 33])
  (.seq (.region false [o1 35 (.call 54 [.c (.int .i64 1)]),
   o1 36 (.call 54 [.c (.int .i64 2)]),
   oC 37 59 [35, 36],
   oM 34 37,
   o1 38 (.ext (.t 34) 0),
   o1 39 (.ext (.t 34) 1),
   o1 9 (.new [.bool false, .sl 0 [], .int .i64 0] [76, 81]),
   oN (.st 9 9 3 (.t 38)),
   oM 10 39])
  (.seq (.region true [oM 40 4,
   o1 41 (.bin .eql (.t 40) (.c (.int .i64 0))),
   oM 42 41,
   oG 43 (.mov (.t 6)) 42 true,
   oG 44 (.bin .eql (.t 43) (.c (.int .i64 0))) 42 true,
   o1 45 (.pick (.t 42) (.t 44) (.c (.bool false))),
   oM 46 45,
   oG 47 (.mov (.t 8)) 46 true,
   oG 48 (.bin .eql (.t 47) (.c (.int .i64 0))) 46 true,
   o1 49 (.pick (.t 46) (.t 48) (.c (.bool false))),
   oM 50 49,
   oG 51 (.mov (.t 10)) 50 true,
   oG 52 (.bin .eql (.t 51) (.c (.int .i64 0))) 50 true,
   o1 53 (.pick (.t 50) (.t 52) (.c (.bool false))),
   oM 54 53,
   oG 55 (.mov (.t 3)) 54 true,
   oG 56 (.bin .eql (.t 55) (.c (.int .i64 1))) 54 true,
   o1 57 (.pick (.t 54) (.t 56) (.c (.bool false))),
   oM 58 57,
   oG 59 (.mov (.t 5)) 58 true,
   oG 60 (.bin .eql (.t 59) (.c (.int .i64 1))) 58 true,
   o1 61 (.pick (.t 58) (.t 60) (.c (.bool false))),
   oM 62 61,
   oG 63 (.mov (.t 7)) 62 true,
   oG 64 (.len (.t 63)) 62 true,
   oG 65 (.bin .eql (.t 64) (.c (.int .i64 3))) 62 true,
   o1 66 (.pick (.t 62) (.t 65) (.c (.bool false))),
   oM 67 66,
   oG 68 (.mov (.t 7)) 67 true,
   oG 69 (.ixa 68 (.c (.int .i64 2)) 1) 67 true,
   oG 70 (.ld 69 69 1 true) 67 true,
   oG 71 (.bls 1 [.int .i64 0] [(0, 1, .c (.int .i64 1))]) 67 true,
   oG 72 (.call 52 [.t 71]) 67 true,
   oG 73 (.call 28 [.t 70, .t 72]) 67 true,
   o1 74 (.pick (.t 67) (.t 73) (.c (.bool false))),
   oM 75 74,
   oG 76 (.adr 9 9 2) 75 true,
   oG 77 (.ld 76 9 1 true) 75 true,
   oG 78 (.bin .eql (.t 77) (.c (.int .i64 1))) 75 true,
   o1 79 (.pick (.t 75) (.t 78) (.c (.bool false))),
   oM 80 79,
   oG 81 (.adr 9 9 0) 80 true,
   oG 82 (.ld 81 9 2 false) 80 true,
   oG 83 (.call 56 [.c (.int .i64 3)]) 80 true,
   oG 84 (.call 41 [.t 82, .t 83]) 80 true,
   o1 85 (.pick (.t 80) (.t 84) (.c (.bool false))),
   oM 0 85])
  (.ret)))))))⟩
def Try.r47 : List (Nat × Nat) := [(76, 9), (81, 9)]
theorem Try.i47_ok : fnOk Try.prog Try.r47 Try.f47 Try.i47 = true := by kernel_rfl
def Try.i48 : IFunc := ⟨1, 20, [.tmp 2],
  .seq (.region false [o1 2 (.mov (.c (.bool false)))])
  (.seq (.seq (.region false [oM 4 0,
   o1 5 (.len (.t 4)),
   o1 6 (.bin .gtr (.t 5) (.c (.int .i64 9)))])
  (.cond (.t 6) (.seq (.region false [o1 2 (.mov (.c (.bool false)))])
  (.ret))
  (.skip)))
  (.seq (.seq (.region false [o1 3 (.mov (.c (.int .i64 0)))])
  (.block 0 (.loop (.seq (.seq (.region false [oM 7 3,
   oM 8 0,
   o1 9 (.len (.t 8)),
   oB 10 .lss 7 9])
  (.cond (.t 10) (.skip)
  (.exit 0)))
  (.seq (.block 1 (.seq (.region false [oM 13 0,
   oM 14 3,
   o1 15 (.ixa 13 (.t 14) 2),
   o1 16 (.adr 15 20 1),
   o1 17 (.ld 16 16 1 true),
   o1 18 (.len (.t 17)),
   o1 19 (.bin .gtr (.t 18) (.c (.int .i64 4)))])
  (.cond (.t 19) (.seq (.region false [o1 2 (.mov (.c (.bool false)))])
  (.ret))
  (.skip))))
  (.region false [oM 11 3,
   o1 12 (.bin .add (.t 11) (.c (.int .i64 1))),
   oM 3 12]))))))
  (.seq (.region false [o1 2 (.mov (.c (.bool true)))])
  (.ret))))⟩
def Try.r48 : List (Nat × Nat) := [(16, 20)]
theorem Try.i48_ok : fnOk Try.prog Try.r48 Try.f48 Try.i48 = true := by kernel_rfl
def Try.i49 : IFunc := ⟨1, 8, [.tmp 2],
  .seq (.region false [o1 1 (.box (.t 0) [3, 4]),
   o1 2 (.mov (.c (.bool false)))])
  (.seq (.region false [o1 3 (.adr 1 1 0),
   o1 4 (.adr 3 1 1),
   o1 5 (.ld 4 1 1 true),
   o1 6 (.len (.t 5)),
   o1 7 (.bin .leq (.t 6) (.c (.int .i64 8))),
   oM 2 7])
  (.ret))⟩
def Try.r49 : List (Nat × Nat) := [(3, 1), (4, 1)]
theorem Try.i49_ok : fnOk Try.prog Try.r49 Try.f49 Try.i49 = true := by kernel_rfl
def Try.i50 : IFunc := ⟨3, 49, [.tmp 6, .tmp 7],
  .seq (.region false [o1 4 (.box (.t 1) []),
   o1 5 (.box (.t 2) []),
   o1 6 (.mov (.c (.int .i64 0))),
   o1 7 (.mov (.c (.int .i64 0)))])
  (.seq (.seq (.region false [oM 13 0,
   oC 14 34 [13],
   oM 12 14,
   o1 15 (.ext (.t 12) 0),
   o1 16 (.ext (.t 12) 1),
   oM 8 15,
   oM 9 16])
  (.seq (.region false [oM 17 9,
   o1 18 (.bin .neq (.t 17) (.c (.int .i64 0)))])
  (.cond (.t 18) (.seq (.region false [oM 19 9,
   o1 6 (.mov (.c (.int .i64 0))),
   oM 7 19])
  (.ret))
  (.skip))))
  (.seq (.region false [oM 20 0,
   oC 21 96 [20],
   o1 10 (.new [.sl 0 []] []),
   oN (.st 10 10 1 (.t 21))])
  (.seq (.block 0 (.seq (.region false [o1 23 (.ld 10 10 1 true),
   o1 24 (.len (.t 23)),
   o1 25 (.bin .eql (.t 24) (.c (.int .i64 0))),
   oM 22 25])
  (.cond (.t 22) (.seq (.region false [o1 6 (.mov (.c (.int .i64 0))),
   o1 7 (.mov (.c (.int .i64 3)))])
  (.ret))
  (.seq (.region false [o1 27 (.ld 4 4 3 false),
   oC 28 97 [27],
   o1 29 (.un .not (.t 28)),
   oM 30 29,
   oG 31 (.ld 5 5 3 false) 30 false,
   oG 32 (.call 97 [.t 31]) 30 false,
   oG 33 (.un .not (.t 32)) 30 false,
   o1 34 (.pick (.t 30) (.c (.bool true)) (.t 33)),
   oM 35 34,
   oG 36 (.ld 4 4 3 false) 35 false,
   oG 37 (.ld 5 5 3 false) 35 false,
   oG 38 (.call 98 [.t 36, .t 37]) 35 false,
   oG 39 (.bin .gtr (.t 38) (.c (.int .i64 0))) 35 false,
   o1 40 (.pick (.t 35) (.c (.bool true)) (.t 39)),
   oM 26 40])
  (.cond (.t 26) (.seq (.region false [o1 6 (.mov (.c (.int .i64 0))),
   o1 7 (.mov (.c (.int .i64 1)))])
  (.ret))
  (.skip))))))
  (.seq (.region false [o1 41 (.bad),
   oM 11 41])
  (.seq (.region true [oM 42 11,
   o1 43 (.ld 4 4 3 false),
   o1 44 (.bad),
   oM 45 11,
   o1 46 (.ld 5 5 3 false),
   o1 47 (.bad),
   oB 48 .sub 44 47,
   oM 6 48,
   o1 7 (.mov (.c (.int .i64 0)))])
  (.ret))))))⟩
def Try.r50 : List (Nat × Nat) := []
theorem Try.i50_ok : fnOk Try.prog Try.r50 Try.f50 Try.i50 = true := by kernel_rfl
def Try.i51 : IFunc := ⟨3, 34, [.tmp 6, .tmp 7],
  .seq (.region false [o1 4 (.box (.t 1) []),
   o1 5 (.box (.t 2) []),
   o1 6 (.mov (.c (.int .i64 0))),
   o1 7 (.mov (.c (.int .i64 0)))])
  (.seq (.block 0 (.seq (.region false [oM 9 0,
   oC 10 67 [9],
   oM 8 10])
  (.cond (.t 8) (.seq (.region false [o1 6 (.mov (.c (.int .i64 0))),
   o1 7 (.mov (.c (.int .i64 2)))])
  (.ret))
  (.seq (.region false [oM 12 0,
   oC 13 44 [12],
   o1 14 (.bin .lss (.t 13) (.c (.int .i64 0))),
   oM 11 14])
  (.cond (.t 11) (.seq (.region false [o1 6 (.mov (.c (.int .i64 0))),
   o1 7 (.mov (.c (.int .i64 3)))])
  (.ret))
  (.seq (.region false [o1 16 (.ld 4 4 3 false),
   oC 17 101 [16],
   o1 18 (.un .not (.t 17)),
   oM 19 18,
   oG 20 (.ld 5 5 3 false) 19 false,
   oG 21 (.call 101 [.t 20]) 19 false,
   oG 22 (.un .not (.t 21)) 19 false,
   o1 23 (.pick (.t 19) (.c (.bool true)) (.t 22)),
   oM 24 23,
   oG 25 (.ld 4 4 3 false) 24 false,
   oG 26 (.ld 5 5 3 false) 24 false,
   oG 27 (.call 102 [.t 25, .t 26]) 24 false,
   oG 28 (.bin .gtr (.t 27) (.c (.int .i64 0))) 24 false,
   o1 29 (.pick (.t 24) (.c (.bool true)) (.t 28)),
   oM 15 29])
  (.cond (.t 15) (.seq (.region false [o1 6 (.mov (.c (.int .i64 0))),
   o1 7 (.mov (.c (.int .i64 1)))])
  (.ret))
  (.skip))))))))
  (.seq (.region false [oM 30 0,
   o1 31 (.ld 4 4 3 false),
   o1 32 (.ld 5 5 3 false),
   oC 33 103 [30, 31, 32],
   oM 6 33,
   o1 7 (.mov (.c (.int .i64 0)))])
  (.ret)))⟩
def Try.r51 : List (Nat × Nat) := []
theorem Try.i51_ok : fnOk Try.prog Try.r51 Try.f51 Try.i51 = true := by kernel_rfl
def Try.i52 : IFunc := ⟨1, 21, [.tmp 2],
  .seq (.region false [o1 2 (.nlo 2)])
  (.seq (.region false [o1 3 (.nlo 2)])
  (.seq (.seq (.region false [o1 4 (.mov (.c (.int .i64 0)))])
  (.block 0 (.loop (.seq (.seq (.region false [oM 5 4,
   oM 6 0,
   o1 7 (.len (.t 6)),
   oB 8 .lss 5 7])
  (.cond (.t 8) (.skip)
  (.exit 0)))
  (.seq (.block 1 (.region false [o1 11 (.tra 3),
   oM 12 0,
   oM 13 4,
   o1 14 (.ixa 12 (.t 13) 1),
   o1 15 (.ld 14 14 1 true),
   oC 16 56 [15],
   o1 17 (.bls 1 [.bool false, .sl 0 []] [(0, 2, .t 16)]),
   o1 18 (.apd true (.t 11) (.t 17) 2),
   o1 3 (.tra 18)]))
  (.region false [oM 9 4,
   o1 10 (.bin .add (.t 9) (.c (.int .i64 1))),
   oM 4 10]))))))
  (.seq (.region false [o1 19 (.frz 3),
   o1 20 (.clo 43 [.t 19]),
   o1 2 (.tra 20)])
  (.ret))))⟩
def Try.r52 : List (Nat × Nat) := []
theorem Try.i52_ok : fnOk Try.prog Try.r52 Try.f52 Try.i52 = true := by kernel_rfl
def Try.i53 : IFunc := ⟨2, 58, [.tmp 4],
  .seq (.region false [o1 4 (.nlo 2)])
  (.seq (.seq (.region false [oM 8 0,
   o1 9 (.len (.t 8)),
   o1 10 (.bin .eql (.t 9) (.c (.int .i64 0))),
   oM 11 10,
   oG 12 (.mov (.t 1)) 11 false,
   oG 13 (.len (.t 12)) 11 false,
   oG 14 (.bin .eql (.t 13) (.c (.int .i64 0))) 11 false,
   o1 15 (.pick (.t 11) (.c (.bool true)) (.t 14))])
  (.cond (.t 15) (.seq (.region false [o1 4 (.nlo 2)])
  (.ret))
  (.skip)))
  (.seq (.region false [oM 16 0,
   o1 17 (.len (.t 16)),
   oM 18 1,
   o1 19 (.len (.t 18)),
   oB 20 .add 17 19,
   o1 21 (.bin .sub (.t 20) (.c (.int .i64 1))),
   o1 22 (.mks [.bool false, .sl 0 []] (.t 21)),
   ⟨some 5, .tra 22, none, [35, 39, 43, 55]⟩])
  (.seq (.seq (.region false [o1 6 (.mov (.c (.int .i64 0)))])
  (.block 0 (.loop (.seq (.seq (.region false [oM 23 6,
   oM 24 0,
   o1 25 (.len (.t 24)),
   oB 26 .lss 23 25])
  (.cond (.t 26) (.skip)
  (.exit 0)))
  (.seq (.block 1 (.seq (.region false [o1 7 (.mov (.c (.int .i64 0)))])
  (.block 2 (.loop (.seq (.seq (.region false [oM 29 7,
   oM 30 1,
   o1 31 (.len (.t 30)),
   oB 32 .lss 29 31])
  (.cond (.t 32) (.skip)
  (.exit 2)))
  (.seq (.block 3 (.region true [o1 35 (.cpy 5),
   oM 36 6,
   oM 37 7,
   oB 38 .add 36 37,
   o1 39 (.cpy 5),
   oM 40 6,
   oM 41 7,
   oB 42 .add 40 41,
   o1 43 (.ixo 39 5 (.t 42) 2),
   o1 44 (.ld 43 5 2 false),
   oM 45 0,
   oM 46 6,
   o1 47 (.ixa 45 (.t 46) 2),
   o1 48 (.ld 47 47 2 false),
   oM 49 1,
   oM 50 7,
   o1 51 (.ixa 49 (.t 50) 2),
   o1 52 (.ld 51 51 2 false),
   oC 53 105 [48, 52],
   oC 54 104 [44, 53],
   o1 55 (.ixo 35 5 (.t 38) 2),
   oN (.st 55 5 2 (.t 54))]))
  (.region false [oM 33 7,
   o1 34 (.bin .add (.t 33) (.c (.int .i64 1))),
   oM 7 34])))))))
  (.region false [oM 27 6,
   o1 28 (.bin .add (.t 27) (.c (.int .i64 1))),
   oM 6 28]))))))
  (.seq (.region false [o1 56 (.frz 5),
   o1 57 (.clo 43 [.t 56]),
   o1 4 (.tra 57)])
  (.ret)))))⟩
def Try.r53 : List (Nat × Nat) := [(35, 5), (39, 5), (43, 5), (55, 5)]
theorem Try.i53_ok : fnOk Try.prog Try.r53 Try.f53 Try.i53 = true := by kernel_rfl
def Try.i54 : IFunc := ⟨1, 6, [.cell 2 3 false],
  .seq (.region false [o1 2 (.new [.bool false, .sl 0 [], .int .i64 0] [])])
  (.seq (.region false [oM 3 0,
   oC 4 56 [3],
   o1 5 (.bld [.bool false, .sl 0 [], .int .i64 0] [(0, 2, .t 4)]),
   oN (.st 2 2 3 (.t 5))])
  (.ret))⟩
def Try.r54 : List (Nat × Nat) := []
theorem Try.i54_ok : fnOk Try.prog Try.r54 Try.f54 Try.i54 = true := by kernel_rfl
def Try.i55 : IFunc := ⟨2, 14, [.tmp 4],
  .seq (.region false [o1 4 (.mov (.c (.int .i64 0)))])
  (.seq (.region false [oM 5 0,
   oM 6 1,
   oB 7 .rem 5 6,
   oM 0 7])
  (.seq (.seq (.region false [oM 8 0,
   o1 9 (.bin .lss (.t 8) (.c (.int .i64 0)))])
  (.cond (.t 9) (.region false [oM 10 0,
   oM 11 1,
   oB 12 .add 10 11,
   oM 0 12])
  (.skip)))
  (.seq (.region false [oM 13 0,
   oM 4 13])
  (.ret))))⟩
def Try.r55 : List (Nat × Nat) := []
theorem Try.i55_ok : fnOk Try.prog Try.r55 Try.f55 Try.i55 = true := by kernel_rfl
def Try.i56 : IFunc := ⟨1, 19, [.cell 2 2 false],
  .seq (.region false [o1 2 (.new [.bool false, .sl 0 []] [])])
  (.seq (.region false [oM 4 0,
   o1 5 (.cv .u64 (.t 4)),
   oM 3 5])
  (.seq (.seq (.region false [oM 6 0,
   o1 7 (.bin .lss (.t 6) (.c (.int .i64 0)))])
  (.cond (.t 7) (.region false [oM 8 3,
   o1 9 (.un .neg (.t 8)),
   oM 3 9])
  (.skip)))
  (.seq (.region false [oM 10 0,
   o1 11 (.bin .lss (.t 10) (.c (.int .i64 0))),
   oM 12 3,
   o1 13 (.cv .u32 (.t 12)),
   oM 14 3,
   o1 15 (.bin .shr (.t 14) (.c (.int .u64 32))),
   o1 16 (.cv .u32 (.t 15)),
   o1 17 (.bls 2 [.int .u32 0, .int .u32 0] [(0, 1, .t 13), (1, 1, .t 16)]),
   oC 18 106 [11, 17],
   oN (.st 2 2 2 (.t 18))])
  (.ret))))⟩
def Try.r56 : List (Nat × Nat) := []
theorem Try.i56_ok : fnOk Try.prog Try.r56 Try.f56 Try.i56 = true := by kernel_rfl
def Try.i57 : IFunc := ⟨2, 17, [.tmp 4, .tmp 5],
  .seq (.region false [o1 2 (.box (.t 0) []),
   o1 3 (.box (.t 1) []),
   o1 4 (.mov (.c (.int .i64 0))),
   o1 5 (.mov (.c (.int .i64 0)))])
  (.seq (.seq (.region false [o1 6 (.ld 2 2 3 false),
   oC 7 97 [6],
   o1 8 (.un .not (.t 7)),
   oM 9 8,
   oG 10 (.ld 3 3 3 false) 9 false,
   oG 11 (.call 97 [.t 10]) 9 false,
   oG 12 (.un .not (.t 11)) 9 false,
   o1 13 (.pick (.t 9) (.c (.bool true)) (.t 12))])
  (.cond (.t 13) (.seq (.region false [o1 4 (.mov (.c (.int .i64 0))),
   o1 5 (.mov (.c (.int .i64 1)))])
  (.ret))
  (.skip)))
  (.seq (.region false [o1 14 (.ld 2 2 3 false),
   o1 15 (.ld 3 3 3 false),
   oC 16 98 [14, 15],
   oM 4 16,
   o1 5 (.mov (.c (.int .i64 0)))])
  (.ret)))⟩
def Try.r57 : List (Nat × Nat) := []
theorem Try.i57_ok : fnOk Try.prog Try.r57 Try.f57 Try.i57 = true := by kernel_rfl
def Try.i58 : IFunc := ⟨2, 17, [.tmp 4, .tmp 5],
  .seq (.region false [o1 2 (.box (.t 0) []),
   o1 3 (.box (.t 1) []),
   o1 4 (.mov (.c (.int .i64 0))),
   o1 5 (.mov (.c (.int .i64 0)))])
  (.seq (.seq (.region false [o1 6 (.ld 2 2 3 false),
   oC 7 101 [6],
   o1 8 (.un .not (.t 7)),
   oM 9 8,
   oG 10 (.ld 3 3 3 false) 9 false,
   oG 11 (.call 101 [.t 10]) 9 false,
   oG 12 (.un .not (.t 11)) 9 false,
   o1 13 (.pick (.t 9) (.c (.bool true)) (.t 12))])
  (.cond (.t 13) (.seq (.region false [o1 4 (.mov (.c (.int .i64 0))),
   o1 5 (.mov (.c (.int .i64 1)))])
  (.ret))
  (.skip)))
  (.seq (.region false [o1 14 (.ld 2 2 3 false),
   o1 15 (.ld 3 3 3 false),
   oC 16 102 [14, 15],
   oM 4 16,
   o1 5 (.mov (.c (.int .i64 0)))])
  (.ret)))⟩
def Try.r58 : List (Nat × Nat) := []
theorem Try.i58_ok : fnOk Try.prog Try.r58 Try.f58 Try.i58 = true := by kernel_rfl
def Try.i59 : IFunc := ⟨2, 24, [.cell 4 3 false, .tmp 5],
  .seq (.region false [o1 2 (.box (.t 0) []),
   o1 3 (.box (.t 1) []),
   o1 4 (.new [.bool false, .sl 0 [], .int .i64 0] []),
   o1 5 (.mov (.c (.int .i64 0)))])
  (.seq (.seq (.region false [o1 7 (.ld 2 2 3 false),
   oC 8 97 [7],
   o1 9 (.un .not (.t 8)),
   oM 10 9,
   oG 11 (.ld 3 3 3 false) 10 false,
   oG 12 (.call 97 [.t 11]) 10 false,
   oG 13 (.un .not (.t 12)) 10 false,
   o1 14 (.pick (.t 10) (.c (.bool true)) (.t 13))])
  (.cond (.t 14) (.seq (.region false [o1 15 (.bld [.bool false, .sl 0 [], .int .i64 0] []),
   oN (.st 4 4 3 (.t 15)),
   o1 5 (.mov (.c (.int .i64 1)))])
  (.ret))
  (.skip)))
  (.seq (.region false [o1 16 (.ld 2 2 3 false),
   o1 17 (.ld 3 3 3 false),
   oC 18 107 [16, 17],
   o1 6 (.new [.bool false, .sl 0 [], .int .i64 0] []),
   oN (.st 6 6 3 (.t 18))])
  (.seq (.seq (.region false [o1 19 (.ld 6 6 3 false),
   oC 20 97 [19],
   o1 21 (.un .not (.t 20))])
  (.cond (.t 21) (.seq (.region false [o1 22 (.bld [.bool false, .sl 0 [], .int .i64 0] []),
   oN (.st 4 4 3 (.t 22)),
   o1 5 (.mov (.c (.int .i64 2)))])
  (.ret))
  (.skip)))
  (.seq (.region false [o1 23 (.ld 6 6 3 false),
   oN (.st 4 4 3 (.t 23)),
   o1 5 (.mov (.c (.int .i64 0)))])
  (.ret)))))⟩
def Try.r59 : List (Nat × Nat) := []
theorem Try.i59_ok : fnOk Try.prog Try.r59 Try.f59 Try.i59 = true := by kernel_rfl
def Try.i60 : IFunc := ⟨2, 24, [.cell 4 3 false, .tmp 5],
  .seq (.region false [o1 2 (.box (.t 0) []),
   o1 3 (.box (.t 1) []),
   o1 4 (.new [.bool false, .sl 0 [], .int .i64 0] []),
   o1 5 (.mov (.c (.int .i64 0)))])
  (.seq (.seq (.region false [o1 7 (.ld 2 2 3 false),
   oC 8 101 [7],
   o1 9 (.un .not (.t 8)),
   oM 10 9,
   oG 11 (.ld 3 3 3 false) 10 false,
   oG 12 (.call 101 [.t 11]) 10 false,
   oG 13 (.un .not (.t 12)) 10 false,
   o1 14 (.pick (.t 10) (.c (.bool true)) (.t 13))])
  (.cond (.t 14) (.seq (.region false [o1 15 (.bld [.bool false, .sl 0 [], .int .i64 0] []),
   oN (.st 4 4 3 (.t 15)),
   o1 5 (.mov (.c (.int .i64 1)))])
  (.ret))
  (.skip)))
  (.seq (.region false [o1 16 (.ld 2 2 3 false),
   o1 17 (.ld 3 3 3 false),
   oC 18 108 [16, 17],
   o1 6 (.new [.bool false, .sl 0 [], .int .i64 0] []),
   oN (.st 6 6 3 (.t 18))])
  (.seq (.seq (.region false [o1 19 (.ld 6 6 3 false),
   oC 20 101 [19],
   o1 21 (.un .not (.t 20))])
  (.cond (.t 21) (.seq (.region false [o1 22 (.bld [.bool false, .sl 0 [], .int .i64 0] []),
   oN (.st 4 4 3 (.t 22)),
   o1 5 (.mov (.c (.int .i64 2)))])
  (.ret))
  (.skip)))
  (.seq (.region false [o1 23 (.ld 6 6 3 false),
   oN (.st 4 4 3 (.t 23)),
   o1 5 (.mov (.c (.int .i64 0)))])
  (.ret)))))⟩
def Try.r60 : List (Nat × Nat) := []
theorem Try.i60_ok : fnOk Try.prog Try.r60 Try.f60 Try.i60 = true := by kernel_rfl
def Try.i61 : IFunc := ⟨1, 29, [.tmp 2],
  .seq (.region false [o1 2 (.mov (.c (.bool false)))])
  (.seq (.seq (.region false [oM 7 0,
   o1 8 (.len (.t 7)),
   o1 9 (.mov (.c (.int .i64 0)))])
  (.block 0 (.loop (.seq (.region false [oB 10 .lss 9 8])
  (.seq (.cond (.t 10) (.skip)
  (.exit 0))
  (.seq (.block 1 (.seq (.region false [o1 11 (.ixa 7 (.t 9) 1),
   o1 12 (.ld 11 11 1 true),
   oM 4 12])
  (.seq (.region false [oM 13 4,
   oC 14 62 [13],
   oM 5 14])
  (.seq (.seq (.region false [oM 15 5,
   o1 16 (.bin .gtr (.t 15) (.c (.int .i64 16)))])
  (.cond (.t 16) (.seq (.region false [o1 2 (.mov (.c (.bool true)))])
  (.ret))
  (.skip)))
  (.seq (.region false [o1 6 (.mov (.c (.int .i64 0)))])
  (.block 2 (.loop (.seq (.seq (.region false [oM 17 6,
   oM 18 5,
   oB 19 .leq 17 18])
  (.cond (.t 19) (.skip)
  (.exit 2)))
  (.seq (.block 3 (.seq (.region false [oM 22 4,
   oM 23 6,
   o1 24 (.ixa 22 (.t 23) 2),
   o1 25 (.ld 24 24 2 false),
   oC 26 76 [25],
   o1 27 (.bin .gtr (.t 26) (.c (.int .i64 256)))])
  (.cond (.t 27) (.seq (.region false [o1 2 (.mov (.c (.bool true)))])
  (.ret))
  (.skip))))
  (.region false [oM 20 6,
   o1 21 (.bin .add (.t 20) (.c (.int .i64 1))),
   oM 6 21]))))))))))
  (.region false [o1 28 (.bin .add (.t 9) (.c (.int .i64 1))),
   oM 9 28])))))))
  (.seq (.region false [o1 2 (.mov (.c (.bool false)))])
  (.ret)))⟩
def Try.r61 : List (Nat × Nat) := []
theorem Try.i61_ok : fnOk Try.prog Try.r61 Try.f61 Try.i61 = true := by kernel_rfl
def Try.i62 : IFunc := ⟨1, 20, [.tmp 2],
  .seq (.region false [o1 2 (.mov (.c (.int .i64 0)))])
  (.seq (.region false [oM 4 0,
   o1 5 (.len (.t 4)),
   o1 6 (.bin .sub (.t 5) (.c (.int .i64 1))),
   oM 3 6])
  (.seq (.block 0 (.loop (.seq (.seq (.region false [oM 7 3,
   o1 8 (.bin .geq (.t 7) (.c (.int .i64 0))),
   oM 9 8,
   oG 10 (.mov (.t 0)) 9 true,
   oG 11 (.mov (.t 3)) 9 true,
   oG 12 (.ixa 10 (.t 11) 2) 9 true,
   oG 13 (.ld 12 12 2 false) 9 true,
   oG 14 (.call 73 [.t 13]) 9 true,
   oG 15 (.bin .eql (.t 14) (.c (.int .i64 0))) 9 true,
   o1 16 (.pick (.t 9) (.t 15) (.c (.bool false)))])
  (.cond (.t 16) (.skip)
  (.exit 0)))
  (.block 1 (.region false [oM 17 3,
   o1 18 (.bin .sub (.t 17) (.c (.int .i64 1))),
   oM 3 18])))))
  (.seq (.region false [oM 19 3,
   oM 2 19])
  (.ret))))⟩
def Try.r62 : List (Nat × Nat) := []
theorem Try.i62_ok : fnOk Try.prog Try.r62 Try.f62 Try.i62 = true := by kernel_rfl
def Try.i63 : IFunc := ⟨1, 8, [.tmp 2, .tmp 3],
  .seq (.region false [o1 2 (.nlo 2),
   o1 3 (.mov (.c (.int .i64 0)))])
  (.seq (.seq (.region false [oM 4 0,
   o1 5 (.bls 1 [.sl 0 []] [(0, 1, .t 4)]),
   oC 6 61 [5]])
  (.cond (.t 6) (.seq (.region false [o1 2 (.nlo 2),
   o1 3 (.mov (.c (.int .i64 2)))])
  (.ret))
  (.skip)))
  (.seq (.region false [oM 7 0,
   o1 2 (.tra 7),
   o1 3 (.mov (.c (.int .i64 0)))])
  (.ret)))⟩
def Try.r63 : List (Nat × Nat) := []
theorem Try.i63_ok : fnOk Try.prog Try.r63 Try.f63 Try.i63 = true := by kernel_rfl
def Try.i64 : IFunc := ⟨2, 99, [.tmp 4],
  .seq (.region false [o1 4 (.nlo 2)])
  (.seq (.region false [oM 15 0,
   o1 16 (.clo 86 [.t 15]),
   oM 17 1,
   oC 18 86 [17],
   ⟨some 5, .tra 16, none, [25, 30, 31, 34, 57, 62, 67, 69, 71, 75, 79, 81, 83, 94]⟩,
   oM 1 18])
  (.seq (.region false [oM 19 1,
   oM 20 1,
   o1 21 (.len (.t 20)),
   o1 22 (.bin .sub (.t 21) (.c (.int .i64 1))),
   o1 23 (.ixa 19 (.t 22) 2),
   o1 24 (.ld 23 23 2 false),
   o1 6 (.new [.bool false, .sl 0 []] []),
   oN (.st 6 6 2 (.t 24))])
  (.seq (.block 0 (.loop (.seq (.seq (.region false [o1 25 (.cpy 5),
   o1 26 (.lno 25 5),
   oM 27 1,
   o1 28 (.len (.t 27)),
   oB 29 .geq 26 28])
  (.cond (.t 29) (.skip)
  (.exit 0)))
  (.block 1 (.seq (.region false [o1 30 (.cpy 5),
   o1 31 (.cpy 5),
   o1 32 (.lno 31 5),
   o1 33 (.bin .sub (.t 32) (.c (.int .i64 1))),
   o1 34 (.ixo 30 5 (.t 33) 2),
   o1 35 (.ld 34 5 2 false),
   o1 7 (.new [.bool false, .sl 0 []] []),
   oN (.st 7 7 2 (.t 35))])
  (.seq (.region false [o1 36 (.ld 6 6 2 false),
   o1 37 (.ld 7 7 2 false),
   oC 38 109 [36, 37],
   o1 8 (.new [.bool false, .sl 0 []] []),
   oN (.st 8 8 2 (.t 38))])
  (.seq (.region true [o1 40 (.ld 6 6 2 false),
   oC 41 111 [40],
   o1 42 (.ld 8 8 2 false),
   oC 43 110 [41, 42],
   oM 39 43,
   o1 44 (.ext (.t 39) 0),
   o1 45 (.ext (.t 39) 1),
   o1 9 (.new [.bool false, .sl 0 []] []),
   o1 10 (.new [.bool false, .sl 0 []] []),
   oN (.st 9 9 2 (.t 44)),
   oN (.st 10 10 2 (.t 45))])
  (.seq (.region false [o1 47 (.ld 7 7 2 false),
   o1 48 (.ld 8 8 2 false),
   oC 49 110 [47, 48],
   oM 46 49,
   o1 50 (.ext (.t 46) 0),
   o1 51 (.ext (.t 46) 1),
   o1 11 (.new [.bool false, .sl 0 []] []),
   o1 12 (.new [.bool false, .sl 0 []] []),
   oN (.st 11 11 2 (.t 50)),
   oN (.st 12 12 2 (.t 51))])
  (.seq (.seq (.region false [o1 52 (.ld 6 6 2 false),
   oC 53 73 [52],
   o1 54 (.bin .lss (.t 53) (.c (.int .i64 0)))])
  (.cond (.t 54) (.region false [o1 55 (.ld 11 11 2 false),
   oC 56 112 [55],
   oN (.st 11 11 2 (.t 56))])
  (.skip)))
  (.seq (.region false [o1 57 (.cpy 5),
   o1 58 (.lno 57 5),
   oM 59 1,
   o1 60 (.len (.t 59)),
   oB 61 .sub 58 60,
   oM 13 61])
  (.seq (.seq (.region false [o1 62 (.cpy 5),
   o1 63 (.lno 62 5),
   o1 64 (.mov (.c (.int .i64 0)))])
  (.block 2 (.loop (.seq (.region false [oB 65 .lss 64 63])
  (.seq (.cond (.t 65) (.skip)
  (.exit 2))
  (.seq (.block 3 (.seq (.region false [oM 66 64,
   oM 14 66])
  (.seq (.region true [o1 67 (.cpy 5),
   oM 68 14,
   o1 69 (.cpy 5),
   oM 70 14,
   o1 71 (.ixo 69 5 (.t 70) 2),
   o1 72 (.ld 71 5 2 false),
   o1 73 (.ld 9 9 2 false),
   oC 74 113 [72, 73],
   o1 75 (.ixo 67 5 (.t 68) 2),
   oN (.st 75 5 2 (.t 74))])
  (.seq (.region false [oM 76 14,
   oM 77 13,
   oB 78 .geq 76 77])
  (.cond (.t 78) (.region true [o1 79 (.cpy 5),
   oM 80 14,
   o1 81 (.cpy 5),
   oM 82 14,
   o1 83 (.ixo 81 5 (.t 82) 2),
   o1 84 (.ld 83 5 2 false),
   o1 85 (.ld 11 11 2 false),
   oM 86 1,
   oM 87 14,
   oM 88 13,
   oB 89 .sub 87 88,
   o1 90 (.ixa 86 (.t 89) 2),
   o1 91 (.ld 90 90 2 false),
   oC 92 113 [85, 91],
   oC 93 114 [84, 92],
   o1 94 (.ixo 79 5 (.t 80) 2),
   oN (.st 94 5 2 (.t 93))])
  (.skip))))))
  (.region false [o1 95 (.bin .add (.t 64) (.c (.int .i64 1))),
   oM 64 95])))))))
  (.region false [o1 96 (.frz 5),
   o1 97 (.clo 86 [.t 96]),
   ⟨some 5, .tra 97, none, [25, 30, 31, 34, 57, 62, 67, 69, 71, 75, 79, 81, 83, 94]⟩]))))))))))))
  (.seq (.region false [o1 98 (.tra 5),
   o1 4 (.tra 98)])
  (.ret)))))⟩
def Try.r64 : List (Nat × Nat) := [(25, 5), (30, 5), (31, 5), (34, 5), (57, 5), (62, 5), (67, 5), (69, 5), (71, 5), (75, 5), (79, 5), (81, 5), (83, 5), (94, 5)]
theorem Try.i64_ok : fnOk Try.prog Try.r64 Try.f64 Try.i64 = true := by kernel_rfl
def Try.i65 : IFunc := ⟨2, 20, [.tmp 4],
  .seq (.region false [o1 4 (.nlo 2)])
  (.seq (.region false [oM 7 0,
   oC 8 86 [7],
   oM 9 1,
   oC 10 86 [9],
   oM 5 8,
   oM 6 10])
  (.seq (.block 0 (.loop (.seq (.seq (.region false [oM 11 6,
   o1 12 (.len (.t 11)),
   o1 13 (.bin .gtr (.t 12) (.c (.int .i64 0)))])
  (.cond (.t 13) (.skip)
  (.exit 0)))
  (.block 1 (.region false [oM 14 6,
   oM 15 5,
   oM 16 6,
   oC 17 64 [15, 16],
   oM 5 14,
   oM 6 17])))))
  (.seq (.region false [oM 18 5,
   o1 19 (.clo 115 [.t 18]),
   o1 4 (.tra 19)])
  (.ret))))⟩
def Try.r65 : List (Nat × Nat) := []
theorem Try.i65_ok : fnOk Try.prog Try.r65 Try.f65 Try.i65 = true := by kernel_rfl
def Try.i66 : IFunc := ⟨1, 23, [.tmp 2],
  .seq (.region false [o1 2 (.nlo 2)])
  (.seq (.region false [oM 5 0,
   oC 6 86 [5],
   oC 7 115 [6],
   oM 3 7])
  (.seq (.seq (.region false [oM 8 3,
   o1 9 (.len (.t 8)),
   o1 10 (.bin .lss (.t 9) (.c (.int .i64 2)))])
  (.cond (.t 10) (.seq (.region false [oM 11 3,
   o1 2 (.tra 11)])
  (.ret))
  (.skip)))
  (.seq (.region false [oM 12 3,
   oM 13 3,
   oC 14 75 [13],
   oC 15 65 [12, 14],
   oM 4 15])
  (.seq (.seq (.region false [oM 16 4,
   o1 17 (.len (.t 16)),
   o1 18 (.bin .lss (.t 17) (.c (.int .i64 2)))])
  (.cond (.t 18) (.seq (.region false [oM 19 3,
   o1 2 (.tra 19)])
  (.ret))
  (.skip)))
  (.seq (.region false [oM 20 3,
   oM 21 4,
   o1 22 (.clo 116 [.t 20, .t 21]),
   o1 2 (.tra 22)])
  (.ret))))))⟩
def Try.r66 : List (Nat × Nat) := []
theorem Try.i66_ok : fnOk Try.prog Try.r66 Try.f66 Try.i66 = true := by kernel_rfl
def Try.i67 : IFunc := ⟨1, 22, [.tmp 2],
  .seq (.region false [o1 2 (.mov (.c (.bool false)))])
  (.seq (.region false [oM 5 0,
   oC 6 43 [5],
   oM 3 6])
  (.seq (.seq (.region false [oM 7 3,
   o1 8 (.len (.t 7)),
   o1 9 (.bin .sub (.t 8) (.c (.int .i64 1))),
   o1 10 (.bin .gtr (.t 9) (.c (.int .i64 16)))])
  (.cond (.t 10) (.seq (.region false [o1 2 (.mov (.c (.bool true)))])
  (.ret))
  (.skip)))
  (.seq (.seq (.region false [o1 4 (.mov (.c (.int .i64 0)))])
  (.block 0 (.loop (.seq (.seq (.region false [oM 11 4,
   oM 12 3,
   o1 13 (.len (.t 12)),
   oB 14 .lss 11 13])
  (.cond (.t 14) (.skip)
  (.exit 0)))
  (.seq (.block 1 (.seq (.region false [oM 17 3,
   oM 18 4,
   o1 19 (.ixa 17 (.t 18) 2),
   o1 20 (.ld 19 19 2 false),
   oC 21 79 [20]])
  (.cond (.t 21) (.seq (.region false [o1 2 (.mov (.c (.bool true)))])
  (.ret))
  (.skip))))
  (.region false [oM 15 4,
   o1 16 (.bin .add (.t 15) (.c (.int .i64 1))),
   oM 4 16]))))))
  (.seq (.region false [o1 2 (.mov (.c (.bool false)))])
  (.ret)))))⟩
def Try.r67 : List (Nat × Nat) := []
theorem Try.i67_ok : fnOk Try.prog Try.r67 Try.f67 Try.i67 = true := by kernel_rfl
def Try.i68 : IFunc := ⟨3, 19, [.tmp 6, .tmp 7],
  .seq (.region false [o1 6 (.nlo 2),
   o1 7 (.mov (.c (.int .i64 0)))])
  (.seq (.seq (.region false [oM 8 0,
   oC 9 67 [8],
   oM 10 9,
   oG 11 (.mov (.t 1)) 10 false,
   oG 12 (.call 67 [.t 11]) 10 false,
   o1 13 (.pick (.t 10) (.c (.bool true)) (.t 12)),
   oM 14 13,
   oG 15 (.mov (.t 2)) 14 false,
   oG 16 (.call 67 [.t 15]) 14 false,
   o1 17 (.pick (.t 14) (.c (.bool true)) (.t 16))])
  (.cond (.t 17) (.seq (.region false [o1 6 (.nlo 2),
   o1 7 (.mov (.c (.int .i64 2)))])
  (.ret))
  (.skip)))
  (.seq (.region false [oM 18 2,
   o1 6 (.tra 18),
   o1 7 (.mov (.c (.int .i64 0)))])
  (.ret)))⟩
def Try.r68 : List (Nat × Nat) := []
theorem Try.i68_ok : fnOk Try.prog Try.r68 Try.f68 Try.i68 = true := by kernel_rfl
def Try.i69 : IFunc := ⟨2, 80, [.tmp 4],
  .seq (.region false [o1 4 (.nlo 2)])
  (.seq (.region false [oM 13 0,
   oC 14 91 [13],
   oM 15 1,
   oC 16 43 [15],
   oM 5 14,
   oM 6 16])
  (.seq (.region false [oM 17 6,
   oM 18 6,
   o1 19 (.len (.t 18)),
   o1 20 (.bin .sub (.t 19) (.c (.int .i64 1))),
   o1 21 (.ixa 17 (.t 20) 2),
   o1 22 (.ld 21 21 2 false),
   o1 7 (.new [.bool false, .sl 0 []] [51]),
   oN (.st 7 7 2 (.t 22))])
  (.seq (.block 0 (.loop (.seq (.seq (.region false [oM 23 5,
   o1 24 (.len (.t 23)),
   oM 25 6,
   o1 26 (.len (.t 25)),
   oB 27 .geq 24 26])
  (.cond (.t 27) (.skip)
  (.exit 0)))
  (.block 1 (.seq (.region false [oM 28 5,
   oM 29 5,
   o1 30 (.len (.t 29)),
   o1 31 (.bin .sub (.t 30) (.c (.int .i64 1))),
   o1 32 (.ixa 28 (.t 31) 2),
   o1 33 (.ld 32 32 2 false),
   o1 8 (.new [.bool false, .sl 0 []] []),
   oN (.st 8 8 2 (.t 33))])
  (.seq (.seq (.region false [o1 34 (.ld 7 7 2 false),
   oC 35 81 [34],
   o1 36 (.bin .lss (.t 35) (.c (.int .i64 0)))])
  (.cond (.t 36) (.region false [o1 37 (.ld 8 8 2 false),
   oC 38 117 [37],
   oN (.st 8 8 2 (.t 38))])
  (.skip)))
  (.seq (.region false [oM 39 5,
   o1 40 (.len (.t 39)),
   oM 41 6,
   o1 42 (.len (.t 41)),
   oB 43 .sub 40 42,
   oM 9 43])
  (.seq (.region false [o1 10 (.nlo 2)])
  (.seq (.seq (.region false [o1 11 (.mov (.c (.int .i64 0)))])
  (.block 2 (.loop (.seq (.seq (.region false [oM 44 11,
   oM 45 5,
   o1 46 (.len (.t 45)),
   o1 47 (.bin .sub (.t 46) (.c (.int .i64 1))),
   oB 48 .lss 44 47])
  (.cond (.t 48) (.skip)
  (.exit 2)))
  (.seq (.block 3 (.seq (.region true [o1 51 (.adr 7 7 1),
   o1 52 (.ld 51 7 1 true),
   o1 53 (.bld [.bool false, .sl 0 []] [(1, 1, .t 52)]),
   oM 54 5,
   oM 55 11,
   o1 56 (.ixa 54 (.t 55) 2),
   o1 57 (.ld 56 56 2 false),
   oC 58 105 [53, 57],
   o1 12 (.new [.bool false, .sl 0 []] []),
   oN (.st 12 12 2 (.t 58))])
  (.seq (.seq (.region false [oM 59 11,
   oM 60 9,
   oB 61 .geq 59 60])
  (.cond (.t 61) (.region true [o1 62 (.ld 12 12 2 false),
   o1 63 (.ld 8 8 2 false),
   oM 64 6,
   oM 65 11,
   oM 66 9,
   oB 67 .sub 65 66,
   o1 68 (.ixa 64 (.t 67) 2),
   o1 69 (.ld 68 68 2 false),
   oC 70 105 [63, 69],
   oC 71 118 [62, 70],
   oN (.st 12 12 2 (.t 71))])
  (.skip)))
  (.region false [o1 72 (.tra 10),
   o1 73 (.ld 12 12 2 false),
   o1 74 (.bls 1 [.bool false, .sl 0 []] [(0, 2, .t 73)]),
   o1 75 (.apd true (.t 72) (.t 74) 2),
   o1 10 (.tra 75)]))))
  (.region false [oM 49 11,
   o1 50 (.bin .add (.t 49) (.c (.int .i64 1))),
   oM 11 50]))))))
  (.region false [o1 76 (.frz 10),
   oC 77 43 [76],
   oC 78 91 [77],
   oM 5 78]))))))))))
  (.seq (.region false [oM 79 5,
   o1 4 (.tra 79)])
  (.ret)))))⟩
def Try.r69 : List (Nat × Nat) := [(51, 7)]
theorem Try.i69_ok : fnOk Try.prog Try.r69 Try.f69 Try.i69 = true := by kernel_rfl
def Try.i70 : IFunc := ⟨2, 22, [.tmp 4],
  .seq (.region false [o1 4 (.nlo 2)])
  (.seq (.region false [oM 8 0,
   oC 9 91 [8],
   oM 10 1,
   oC 11 91 [10],
   oM 5 9,
   oM 6 11])
  (.seq (.block 0 (.loop (.seq (.seq (.region false [oM 12 6,
   o1 13 (.len (.t 12)),
   o1 14 (.bin .gtr (.t 13) (.c (.int .i64 0)))])
  (.cond (.t 14) (.skip)
  (.exit 0)))
  (.block 1 (.seq (.region false [oM 15 5,
   oM 16 6,
   oC 17 69 [15, 16],
   oM 7 17])
  (.region false [oM 18 6,
   oM 19 7,
   oM 5 18,
   oM 6 19]))))))
  (.seq (.region false [oM 20 5,
   o1 21 (.clo 119 [.t 20]),
   o1 4 (.tra 21)])
  (.ret))))⟩
def Try.r70 : List (Nat × Nat) := []
theorem Try.i70_ok : fnOk Try.prog Try.r70 Try.f70 Try.i70 = true := by kernel_rfl
def Try.i71 : IFunc := ⟨1, 19, [.tmp 2],
  .seq (.region false [o1 2 (.nlo 2)])
  (.seq (.region false [oM 5 0,
   oC 6 91 [5],
   oC 7 119 [6],
   oM 3 7])
  (.seq (.seq (.region false [oM 8 3,
   o1 9 (.len (.t 8)),
   o1 10 (.bin .leq (.t 9) (.c (.int .i64 1)))])
  (.cond (.t 10) (.seq (.region false [oM 11 3,
   o1 2 (.tra 11)])
  (.ret))
  (.skip)))
  (.seq (.region false [oM 12 3,
   oM 13 3,
   oC 14 89 [13],
   oC 15 70 [12, 14],
   oM 4 15])
  (.seq (.region false [oM 16 3,
   oM 17 4,
   o1 18 (.clo 120 [.t 16, .t 17]),
   o1 2 (.tra 18)])
  (.ret)))))⟩
def Try.r71 : List (Nat × Nat) := []
theorem Try.i71_ok : fnOk Try.prog Try.r71 Try.f71 Try.i71 = true := by kernel_rfl
def Try.i72 : IFunc := ⟨2, 60, [.tmp 4],
  .seq (.region false [o1 4 (.nlo 2)])
  (.seq (.region false [oM 10 0,
   oC 11 62 [10],
   o1 12 (.bin .add (.t 11) (.c (.int .i64 1))),
   oM 13 1,
   oC 14 62 [13],
   o1 15 (.bin .add (.t 14) (.c (.int .i64 1))),
   oM 5 12,
   oM 6 15])
  (.seq (.seq (.region false [oM 16 5,
   o1 17 (.bin .eql (.t 16) (.c (.int .i64 0))),
   oM 18 17,
   oG 19 (.mov (.t 6)) 18 false,
   oG 20 (.bin .eql (.t 19) (.c (.int .i64 0))) 18 false,
   o1 21 (.pick (.t 18) (.c (.bool true)) (.t 20))])
  (.cond (.t 21) (.seq (.region false [o1 4 (.nlo 2)])
  (.ret))
  (.skip)))
  (.seq (.region false [oM 22 5,
   oM 23 6,
   oB 24 .add 22 23,
   o1 25 (.bin .sub (.t 24) (.c (.int .i64 1))),
   o1 26 (.mks [.bool false, .sl 0 []] (.t 25)),
   ⟨some 7, .tra 26, none, [37, 41, 45, 57]⟩])
  (.seq (.seq (.region false [o1 8 (.mov (.c (.int .i64 0)))])
  (.block 0 (.loop (.seq (.seq (.region false [oM 27 8,
   oM 28 5,
   oB 29 .lss 27 28])
  (.cond (.t 29) (.skip)
  (.exit 0)))
  (.seq (.block 1 (.seq (.region false [o1 9 (.mov (.c (.int .i64 0)))])
  (.block 2 (.loop (.seq (.seq (.region false [oM 32 9,
   oM 33 6,
   oB 34 .lss 32 33])
  (.cond (.t 34) (.skip)
  (.exit 2)))
  (.seq (.block 3 (.region true [o1 37 (.cpy 7),
   oM 38 8,
   oM 39 9,
   oB 40 .add 38 39,
   o1 41 (.cpy 7),
   oM 42 8,
   oM 43 9,
   oB 44 .add 42 43,
   o1 45 (.ixo 41 7 (.t 44) 2),
   o1 46 (.ld 45 7 2 false),
   oM 47 0,
   oM 48 8,
   o1 49 (.ixa 47 (.t 48) 2),
   o1 50 (.ld 49 49 2 false),
   oM 51 1,
   oM 52 9,
   o1 53 (.ixa 51 (.t 52) 2),
   o1 54 (.ld 53 53 2 false),
   oC 55 113 [50, 54],
   oC 56 121 [46, 55],
   o1 57 (.ixo 37 7 (.t 40) 2),
   oN (.st 57 7 2 (.t 56))]))
  (.region false [oM 35 9,
   o1 36 (.bin .add (.t 35) (.c (.int .i64 1))),
   oM 9 36])))))))
  (.region false [oM 30 8,
   o1 31 (.bin .add (.t 30) (.c (.int .i64 1))),
   oM 8 31]))))))
  (.seq (.region false [o1 58 (.frz 7),
   o1 59 (.clo 92 [.t 58]),
   o1 4 (.tra 59)])
  (.ret))))))⟩
def Try.r72 : List (Nat × Nat) := [(37, 7), (41, 7), (45, 7), (57, 7)]
theorem Try.i72_ok : fnOk Try.prog Try.r72 Try.f72 Try.i72 = true := by kernel_rfl
def Try.i73 : IFunc := ⟨1, 16, [.tmp 2],
  .seq (.region false [o1 1 (.box (.t 0) []),
   o1 2 (.mov (.c (.int .i64 0)))])
  (.seq (.region false [o1 6 (.ld 1 1 2 false),
   oC 7 122 [6],
   oM 5 7,
   o1 8 (.ext (.t 5) 0),
   o1 9 (.ext (.t 5) 1),
   oM 3 8,
   oM 4 9])
  (.seq (.block 0 (.seq (.region false [oM 11 4,
   o1 12 (.len (.t 11)),
   o1 13 (.bin .eql (.t 12) (.c (.int .i64 0))),
   oM 10 13])
  (.cond (.t 10) (.seq (.region false [o1 2 (.mov (.c (.int .i64 0)))])
  (.ret))
  (.seq (.region false [oM 15 3,
   oM 14 15])
  (.cond (.t 14) (.seq (.region false [o1 2 (.mov (.c (.int .i64 (-1))))])
  (.ret))
  (.skip))))))
  (.seq (.region false [o1 2 (.mov (.c (.int .i64 1)))])
  (.ret))))⟩
def Try.r73 : List (Nat × Nat) := []
theorem Try.i73_ok : fnOk Try.prog Try.r73 Try.f73 Try.i73 = true := by kernel_rfl
def Try.i74 : IFunc := ⟨1, 24, [.tmp 2],
  .seq (.region false [o1 2 (.nlo 2)])
  (.seq (.region false [oM 6 0,
   o1 7 (.len (.t 6)),
   o1 8 (.mks [.bool false, .sl 0 []] (.t 7)),
   ⟨some 3, .tra 8, none, [16, 20]⟩])
  (.seq (.seq (.region false [oM 9 0,
   o1 10 (.len (.t 9)),
   o1 11 (.mov (.c (.int .i64 0)))])
  (.block 0 (.loop (.seq (.region false [oB 12 .lss 11 10])
  (.seq (.cond (.t 12) (.skip)
  (.exit 0))
  (.seq (.block 1 (.seq (.region false [oM 13 11,
   o1 14 (.ixa 9 (.t 11) 1),
   o1 15 (.ld 14 14 1 true),
   oM 4 13,
   oM 5 15])
  (.region false [o1 16 (.cpy 3),
   oM 17 4,
   oM 18 5,
   oC 19 94 [18],
   o1 20 (.ixo 16 3 (.t 17) 2),
   oN (.st 20 3 2 (.t 19))])))
  (.region false [o1 21 (.bin .add (.t 11) (.c (.int .i64 1))),
   oM 11 21])))))))
  (.seq (.region false [o1 22 (.frz 3),
   o1 23 (.clo 92 [.t 22]),
   o1 2 (.tra 23)])
  (.ret))))⟩
def Try.r74 : List (Nat × Nat) := [(16, 3), (20, 3)]
theorem Try.i74_ok : fnOk Try.prog Try.r74 Try.f74 Try.i74 = true := by kernel_rfl
def Try.i75 : IFunc := ⟨1, 23, [.tmp 2],
  .seq (.region false [o1 2 (.nlo 2)])
  (.seq (.region false [o1 3 (.nlo 2)])
  (.seq (.seq (.region false [o1 4 (.mov (.c (.int .i64 1)))])
  (.block 0 (.loop (.seq (.seq (.region false [oM 5 4,
   oM 6 0,
   oC 7 62 [6],
   oB 8 .leq 5 7])
  (.cond (.t 8) (.skip)
  (.exit 0)))
  (.seq (.block 1 (.region true [o1 11 (.tra 3),
   oM 12 0,
   oM 13 4,
   o1 14 (.ixa 12 (.t 13) 2),
   o1 15 (.ld 14 14 2 false),
   oM 16 4,
   oC 17 94 [16],
   oC 18 113 [15, 17],
   o1 19 (.bls 1 [.bool false, .sl 0 []] [(0, 2, .t 18)]),
   o1 20 (.apd true (.t 11) (.t 19) 2),
   o1 3 (.tra 20)]))
  (.region false [oM 9 4,
   o1 10 (.bin .add (.t 9) (.c (.int .i64 1))),
   oM 4 10]))))))
  (.seq (.region false [o1 21 (.frz 3),
   o1 22 (.clo 92 [.t 21]),
   o1 2 (.tra 22)])
  (.ret))))⟩
def Try.r75 : List (Nat × Nat) := []
theorem Try.i75_ok : fnOk Try.prog Try.r75 Try.f75 Try.i75 = true := by kernel_rfl
def Try.i76 : IFunc := ⟨1, 12, [.tmp 2],
  .seq (.region false [o1 1 (.box (.t 0) []),
   o1 2 (.mov (.c (.int .i64 0)))])
  (.seq (.region false [o1 6 (.ld 1 1 2 false),
   oC 7 122 [6],
   oM 5 7,
   o1 8 (.ext (.t 5) 0),
   o1 9 (.ext (.t 5) 1),
   oM 3 8,
   oM 4 9])
  (.seq (.region false [oM 10 4,
   o1 11 (.len (.t 10)),
   oM 2 11])
  (.ret)))⟩
def Try.r76 : List (Nat × Nat) := []
theorem Try.i76_ok : fnOk Try.prog Try.r76 Try.f76 Try.i76 = true := by kernel_rfl
def Try.i77 : IFunc := ⟨1, 25, [.tmp 2],
  .seq (.region false [o1 1 (.box (.t 0) []),
   o1 2 (.mov (.c (.int .i64 0)))])
  (.seq (.region false [o1 6 (.ld 1 1 2 false),
   oC 7 122 [6],
   oM 5 7,
   o1 8 (.ext (.t 5) 0),
   o1 9 (.ext (.t 5) 1),
   oM 3 8,
   oM 4 9])
  (.seq (.seq (.region false [oM 10 4,
   o1 11 (.len (.t 10)),
   o1 12 (.bin .eql (.t 11) (.c (.int .i64 0)))])
  (.cond (.t 12) (.seq (.region false [o1 2 (.mov (.c (.int .i64 0)))])
  (.ret))
  (.skip)))
  (.seq (.region false [oM 13 4,
   o1 14 (.len (.t 13)),
   o1 15 (.bin .sub (.t 14) (.c (.int .i64 1))),
   o1 16 (.bin .mul (.c (.int .i64 32)) (.t 15)),
   oM 17 4,
   oM 18 4,
   o1 19 (.len (.t 18)),
   o1 20 (.bin .sub (.t 19) (.c (.int .i64 1))),
   o1 21 (.ixa 17 (.t 20) 1),
   o1 22 (.ld 21 21 1 true),
   oC 23 123 [22],
   oB 24 .add 16 23,
   oM 2 24])
  (.ret))))⟩
def Try.r77 : List (Nat × Nat) := []
theorem Try.i77_ok : fnOk Try.prog Try.r77 Try.f77 Try.i77 = true := by kernel_rfl
def Try.i78 : IFunc := ⟨2, 32, [.tmp 4],
  .seq (.region false [o1 3 (.box (.t 1) [20, 16]),
   o1 4 (.mov (.c (.int .i64 0)))])
  (.seq (.region false [o1 5 (.new [.bool false, .sl 0 []] [])])
  (.seq (.seq (.region false [oM 8 0,
   o1 9 (.len (.t 8)),
   o1 10 (.bin .sub (.t 9) (.c (.int .i64 1))),
   oM 6 10,
   o1 7 (.mov (.c (.int .i64 0)))])
  (.block 0 (.loop (.seq (.seq (.region false [oM 11 6,
   o1 12 (.bin .geq (.t 11) (.c (.int .i64 0)))])
  (.cond (.t 12) (.skip)
  (.exit 0)))
  (.seq (.block 1 (.region true [o1 19 (.ld 5 5 2 false),
   o1 20 (.adr 3 3 0),
   o1 21 (.ld 20 3 2 false),
   oC 22 113 [19, 21],
   oM 23 0,
   oM 24 6,
   o1 25 (.ixa 23 (.t 24) 2),
   o1 26 (.ld 25 25 2 false),
   oM 27 7,
   oC 28 124 [26, 27],
   oC 29 121 [22, 28],
   oN (.st 5 5 2 (.t 29))]))
  (.region true [oM 13 6,
   o1 14 (.bin .sub (.t 13) (.c (.int .i64 1))),
   oM 15 7,
   o1 16 (.adr 3 3 2),
   o1 17 (.ld 16 3 1 true),
   oB 18 .add 15 17,
   oM 6 14,
   oM 7 18]))))))
  (.seq (.region false [o1 30 (.ld 5 5 2 false),
   oC 31 73 [30],
   oM 4 31])
  (.ret))))⟩
def Try.r78 : List (Nat × Nat) := [(20, 3), (16, 3)]
theorem Try.i78_ok : fnOk Try.prog Try.r78 Try.f78 Try.i78 = true := by kernel_rfl
def Try.i79 : IFunc := ⟨1, 8, [.tmp 2],
  .seq (.region false [o1 1 (.box (.t 0) [3]),
   o1 2 (.mov (.c (.bool false)))])
  (.seq (.region false [o1 3 (.adr 1 1 1),
   o1 4 (.ld 3 1 1 true),
   oC 5 125 [4],
   o1 6 (.len (.t 5)),
   o1 7 (.bin .gtr (.t 6) (.c (.int .i64 256))),
   oM 2 7])
  (.ret))⟩
def Try.r79 : List (Nat × Nat) := [(3, 1)]
theorem Try.i79_ok : fnOk Try.prog Try.r79 Try.f79 Try.i79 = true := by kernel_rfl
def Try.i80 : IFunc := ⟨1, 29, [.tmp 2],
  .seq (.region false [o1 1 (.box (.t 0) [6]),
   o1 2 (.mov (.c (.int .i64 0)))])
  (.seq (.region false [o1 6 (.adr 1 1 1),
   o1 7 (.ld 6 1 1 true),
   oC 8 125 [7],
   oM 3 8])
  (.seq (.seq (.region false [oM 9 3,
   o1 10 (.len (.t 9)),
   o1 11 (.bin .eql (.t 10) (.c (.int .i64 0)))])
  (.cond (.t 11) (.seq (.region false [o1 2 (.mov (.c (.int .i64 0)))])
  (.ret))
  (.skip)))
  (.seq (.region false [oM 12 3,
   o1 13 (.len (.t 12)),
   o1 14 (.bin .sub (.t 13) (.c (.int .i64 1))),
   o1 15 (.bin .mul (.c (.int .i64 32)) (.t 14)),
   oM 4 15])
  (.seq (.seq (.region false [oM 16 3,
   oM 17 3,
   o1 18 (.len (.t 17)),
   o1 19 (.bin .sub (.t 18) (.c (.int .i64 1))),
   o1 20 (.ixa 16 (.t 19) 1),
   o1 21 (.ld 20 20 1 true),
   oM 5 21])
  (.block 0 (.loop (.seq (.seq (.region false [oM 22 5,
   o1 23 (.bin .gtr (.t 22) (.c (.int .u32 0)))])
  (.cond (.t 23) (.skip)
  (.exit 0)))
  (.seq (.block 1 (.region false [oM 26 4,
   o1 27 (.bin .add (.t 26) (.c (.int .i64 1))),
   oM 4 27]))
  (.region false [oM 24 5,
   o1 25 (.bin .shr (.t 24) (.c (.int .u64 1))),
   oM 5 25]))))))
  (.seq (.region false [oM 28 4,
   oM 2 28])
  (.ret))))))⟩
def Try.r80 : List (Nat × Nat) := [(6, 1)]
theorem Try.i80_ok : fnOk Try.prog Try.r80 Try.f80 Try.i80 = true := by kernel_rfl
def Try.i81 : IFunc := ⟨1, 12, [.tmp 2],
  .seq (.region false [o1 1 (.box (.t 0) [4, 10]),
   o1 2 (.mov (.c (.int .i64 0)))])
  (.seq (.block 0 (.seq (.region false [o1 4 (.adr 1 1 1),
   o1 5 (.ld 4 1 1 true),
   oC 6 125 [5],
   o1 7 (.len (.t 6)),
   o1 8 (.bin .eql (.t 7) (.c (.int .i64 0))),
   oM 3 8])
  (.cond (.t 3) (.seq (.region false [o1 2 (.mov (.c (.int .i64 0)))])
  (.ret))
  (.seq (.region false [o1 10 (.adr 1 1 0),
   o1 11 (.ld 10 1 1 true),
   oM 9 11])
  (.cond (.t 9) (.seq (.region false [o1 2 (.mov (.c (.int .i64 (-1))))])
  (.ret))
  (.skip))))))
  (.seq (.region false [o1 2 (.mov (.c (.int .i64 1)))])
  (.ret)))⟩
def Try.r81 : List (Nat × Nat) := [(4, 1), (10, 1)]
theorem Try.i81_ok : fnOk Try.prog Try.r81 Try.f81 Try.i81 = true := by kernel_rfl
def Try.i82 : IFunc := ⟨3, 37, [.cell 6 2 false],
  .seq (.region false [o1 4 (.box (.t 1) []),
   o1 6 (.new [.bool false, .sl 0 []] [])])
  (.seq (.region false [oM 10 0,
   oC 11 43 [10],
   oM 7 11])
  (.seq (.region false [o1 12 (.bld [.bool false, .sl 0 []] []),
   o1 8 (.new [.bool false, .sl 0 []] []),
   oN (.st 8 8 2 (.t 12))])
  (.seq (.seq (.region false [oM 13 7,
   o1 14 (.len (.t 13)),
   o1 15 (.bin .sub (.t 14) (.c (.int .i64 1))),
   oM 9 15])
  (.block 0 (.loop (.seq (.seq (.region false [oM 16 9,
   o1 17 (.bin .geq (.t 16) (.c (.int .i64 0)))])
  (.cond (.t 17) (.skip)
  (.exit 0)))
  (.seq (.block 1 (.region true [o1 20 (.ld 8 8 2 false),
   o1 21 (.ld 4 4 2 false),
   oC 22 105 [20, 21],
   oM 23 7,
   oM 24 9,
   o1 25 (.ixa 23 (.t 24) 2),
   o1 26 (.ld 25 25 2 false),
   oM 27 2,
   oM 28 7,
   o1 29 (.len (.t 28)),
   o1 30 (.bin .sub (.t 29) (.c (.int .i64 1))),
   oM 31 9,
   oB 32 .sub 30 31,
   oB 33 .mul 27 32,
   oC 34 126 [26, 33],
   oC 35 104 [22, 34],
   oN (.st 8 8 2 (.t 35))]))
  (.region false [oM 18 9,
   o1 19 (.bin .sub (.t 18) (.c (.int .i64 1))),
   oM 9 19]))))))
  (.seq (.region false [o1 36 (.ld 8 8 2 false),
   oN (.st 6 6 2 (.t 36))])
  (.ret)))))⟩
def Try.r82 : List (Nat × Nat) := []
theorem Try.i82_ok : fnOk Try.prog Try.r82 Try.f82 Try.i82 = true := by kernel_rfl
def Try.i83 : IFunc := ⟨2, 52, [.tmp 4],
  .seq (.region false [o1 4 (.nlo 2)])
  (.seq (.region false [oM 9 0,
   oC 10 62 [9],
   o1 11 (.bin .add (.t 10) (.c (.int .i64 1))),
   oM 12 1,
   oC 13 62 [12],
   o1 14 (.bin .add (.t 13) (.c (.int .i64 1))),
   oM 5 11,
   oM 6 14])
  (.seq (.region false [oM 15 5,
   oM 16 6,
   o1 17 (.mx [.t 15, .t 16]),
   o1 18 (.mks [.bool false, .sl 0 []] (.t 17)),
   ⟨some 7, .tra 18, none, [19, 27, 33, 37, 39, 41, 48]⟩])
  (.seq (.seq (.region false [o1 19 (.cpy 7),
   o1 20 (.lno 19 7),
   o1 21 (.mov (.c (.int .i64 0)))])
  (.block 0 (.loop (.seq (.region false [oB 22 .lss 21 20])
  (.seq (.cond (.t 22) (.skip)
  (.exit 0))
  (.seq (.block 1 (.seq (.region false [oM 23 21,
   oM 8 23])
  (.seq (.seq (.region false [oM 24 8,
   oM 25 5,
   oB 26 .lss 24 25])
  (.cond (.t 26) (.region false [o1 27 (.cpy 7),
   oM 28 8,
   oM 29 0,
   oM 30 8,
   o1 31 (.ixa 29 (.t 30) 2),
   o1 32 (.ld 31 31 2 false),
   o1 33 (.ixo 27 7 (.t 28) 2),
   oN (.st 33 7 2 (.t 32))])
  (.skip)))
  (.seq (.region false [oM 34 8,
   oM 35 6,
   oB 36 .lss 34 35])
  (.cond (.t 36) (.region true [o1 37 (.cpy 7),
   oM 38 8,
   o1 39 (.cpy 7),
   oM 40 8,
   o1 41 (.ixo 39 7 (.t 40) 2),
   o1 42 (.ld 41 7 2 false),
   oM 43 1,
   oM 44 8,
   o1 45 (.ixa 43 (.t 44) 2),
   o1 46 (.ld 45 45 2 false),
   oC 47 121 [42, 46],
   o1 48 (.ixo 37 7 (.t 38) 2),
   oN (.st 48 7 2 (.t 47))])
  (.skip))))))
  (.region false [o1 49 (.bin .add (.t 21) (.c (.int .i64 1))),
   oM 21 49])))))))
  (.seq (.region false [o1 50 (.frz 7),
   o1 51 (.clo 92 [.t 50]),
   o1 4 (.tra 51)])
  (.ret)))))⟩
def Try.r83 : List (Nat × Nat) := [(19, 7), (27, 7), (33, 7), (37, 7), (39, 7), (41, 7), (48, 7)]
theorem Try.i83_ok : fnOk Try.prog Try.r83 Try.f83 Try.i83 = true := by kernel_rfl
def Try.i84 : IFunc := ⟨2, 10, [.tmp 4],
  .seq (.region false [o1 4 (.nlo 2)])
  (.seq (.region false [oM 5 0,
   oM 6 1,
   oC 7 92 [6],
   oC 8 127 [7],
   o1 9 (.clo 83 [.t 5, .t 8]),
   o1 4 (.tra 9)])
  (.ret))⟩
def Try.r84 : List (Nat × Nat) := []
theorem Try.i84_ok : fnOk Try.prog Try.r84 Try.f84 Try.i84 = true := by kernel_rfl
def Try.i85 : IFunc := ⟨1, 24, [.cell 2 2 false],
  .seq (.region false [o1 2 (.new [.bool false, .sl 0 []] [])])
  (.seq (.region false [o1 3 (.new [.bool false, .sl 0 []] [])])
  (.seq (.seq (.region false [oM 5 0,
   o1 6 (.len (.t 5)),
   o1 7 (.bin .sub (.t 6) (.c (.int .i64 1))),
   oM 4 7])
  (.block 0 (.loop (.seq (.seq (.region false [oM 8 4,
   o1 9 (.bin .geq (.t 8) (.c (.int .i64 0))),
   oM 10 9,
   oG 11 (.ld 3 3 2 false) 10 true,
   oG 12 (.call 77 [.t 11]) 10 true,
   oG 13 (.bin .neq (.t 12) (.c (.int .i64 1))) 10 true,
   o1 14 (.pick (.t 10) (.t 13) (.c (.bool false)))])
  (.cond (.t 14) (.skip)
  (.exit 0)))
  (.seq (.block 1 (.region true [o1 17 (.ld 3 3 2 false),
   oM 18 0,
   oM 19 4,
   o1 20 (.ixa 18 (.t 19) 2),
   o1 21 (.ld 20 20 2 false),
   oC 22 109 [17, 21],
   oN (.st 3 3 2 (.t 22))]))
  (.region false [oM 15 4,
   o1 16 (.bin .sub (.t 15) (.c (.int .i64 1))),
   oM 4 16]))))))
  (.seq (.region false [o1 23 (.ld 3 3 2 false),
   oN (.st 2 2 2 (.t 23))])
  (.ret))))⟩
def Try.r85 : List (Nat × Nat) := []
theorem Try.i85_ok : fnOk Try.prog Try.r85 Try.f85 Try.i85 = true := by kernel_rfl
def Try.i86 : IFunc := ⟨1, 32, [.tmp 2],
  .seq (.region false [o1 2 (.nlo 2)])
  (.seq (.region false [oM 6 0,
   o1 7 (.clo 92 [.t 6]),
   ⟨some 3, .tra 7, none, [8, 13, 19, 21, 23, 29]⟩])
  (.seq (.region false [o1 8 (.cpy 3),
   o1 9 (.brw 85 8 3),
   o1 4 (.new [.bool false, .sl 0 []] []),
   oN (.st 4 4 2 (.t 9))])
  (.seq (.seq (.region false [o1 10 (.ld 4 4 2 false),
   oC 11 77 [10],
   o1 12 (.bin .gtr (.t 11) (.c (.int .i64 1)))])
  (.cond (.t 12) (.seq (.region false [o1 13 (.cpy 3),
   o1 14 (.lno 13 3),
   o1 15 (.mov (.c (.int .i64 0)))])
  (.block 0 (.loop (.seq (.region false [oB 16 .lss 15 14])
  (.seq (.cond (.t 16) (.skip)
  (.exit 0))
  (.seq (.block 1 (.seq (.region false [oM 17 15,
   oM 5 17])
  (.region true [o1 19 (.cpy 3),
   oM 20 5,
   o1 21 (.cpy 3),
   oM 22 5,
   o1 23 (.ixo 21 3 (.t 22) 2),
   o1 24 (.ld 23 3 2 false),
   o1 25 (.ld 4 4 2 false),
   oC 26 110 [24, 25],
   oM 18 26,
   o1 27 (.ext (.t 18) 0),
   o1 28 (.ext (.t 18) 1),
   o1 29 (.ixo 19 3 (.t 20) 2),
   oN (.st 29 3 2 (.t 27))])))
  (.region false [o1 30 (.bin .add (.t 15) (.c (.int .i64 1))),
   oM 15 30])))))))
  (.skip)))
  (.seq (.region false [o1 31 (.tra 3),
   o1 2 (.tra 31)])
  (.ret)))))⟩
def Try.r86 : List (Nat × Nat) := [(8, 3), (13, 3), (19, 3), (21, 3), (23, 3), (29, 3)]
theorem Try.i86_ok : fnOk Try.prog Try.r86 Try.f86 Try.i86 = true := by kernel_rfl
def Try.i87 : IFunc := ⟨2, 31, [.tmp 4],
  .seq (.region false [o1 4 (.nlo 2)])
  (.seq (.region false [o1 5 (.nlo 2)])
  (.seq (.seq (.region false [o1 6 (.mov (.c (.int .i64 0)))])
  (.block 0 (.loop (.seq (.seq (.region false [oM 7 6,
   oM 8 0,
   o1 9 (.len (.t 8)),
   oB 10 .lss 7 9,
   oM 11 10,
   oG 12 (.mov (.t 6)) 11 false,
   oG 13 (.mov (.t 1)) 11 false,
   oG 14 (.len (.t 13)) 11 false,
   oG 15 (.bin .lss (.t 12) (.t 14)) 11 false,
   o1 16 (.pick (.t 11) (.c (.bool true)) (.t 15))])
  (.cond (.t 16) (.skip)
  (.exit 0)))
  (.seq (.block 1 (.region false [o1 19 (.tra 5),
   oM 20 0,
   oM 21 6,
   oC 22 128 [20, 21],
   oM 23 1,
   oM 24 6,
   oC 25 128 [23, 24],
   oC 26 104 [22, 25],
   o1 27 (.bls 1 [.bool false, .sl 0 []] [(0, 2, .t 26)]),
   o1 28 (.apd true (.t 19) (.t 27) 2),
   o1 5 (.tra 28)]))
  (.region false [oM 17 6,
   o1 18 (.bin .add (.t 17) (.c (.int .i64 1))),
   oM 6 18]))))))
  (.seq (.region false [o1 29 (.frz 5),
   o1 30 (.clo 43 [.t 29]),
   o1 4 (.tra 30)])
  (.ret))))⟩
def Try.r87 : List (Nat × Nat) := []
theorem Try.i87_ok : fnOk Try.prog Try.r87 Try.f87 Try.i87 = true := by kernel_rfl
def Try.i88 : IFunc := ⟨2, 9, [.tmp 4],
  .seq (.region false [o1 4 (.nlo 2)])
  (.seq (.region false [oM 5 0,
   oM 6 1,
   oC 7 129 [6],
   o1 8 (.clo 87 [.t 5, .t 7]),
   o1 4 (.tra 8)])
  (.ret))⟩
def Try.r88 : List (Nat × Nat) := []
theorem Try.i88_ok : fnOk Try.prog Try.r88 Try.f88 Try.i88 = true := by kernel_rfl
def Try.i89 : IFunc := ⟨1, 23, [.tmp 2],
  .seq (.region false [o1 2 (.nlo 2)])
  (.seq (.region false [o1 3 (.nlo 2)])
  (.seq (.seq (.region false [o1 4 (.mov (.c (.int .i64 1)))])
  (.block 0 (.loop (.seq (.seq (.region false [oM 5 4,
   oM 6 0,
   o1 7 (.len (.t 6)),
   oB 8 .lss 5 7])
  (.cond (.t 8) (.skip)
  (.exit 0)))
  (.seq (.block 1 (.region true [o1 11 (.tra 3),
   oM 12 4,
   oC 13 56 [12],
   oM 14 0,
   oM 15 4,
   o1 16 (.ixa 14 (.t 15) 2),
   o1 17 (.ld 16 16 2 false),
   oC 18 105 [13, 17],
   o1 19 (.bls 1 [.bool false, .sl 0 []] [(0, 2, .t 18)]),
   o1 20 (.apd true (.t 11) (.t 19) 2),
   o1 3 (.tra 20)]))
  (.region false [oM 9 4,
   o1 10 (.bin .add (.t 9) (.c (.int .i64 1))),
   oM 4 10]))))))
  (.seq (.region false [o1 21 (.frz 3),
   o1 22 (.clo 43 [.t 21]),
   o1 2 (.tra 22)])
  (.ret))))⟩
def Try.r89 : List (Nat × Nat) := []
theorem Try.i89_ok : fnOk Try.prog Try.r89 Try.f89 Try.i89 = true := by kernel_rfl
def Try.i90 : IFunc := ⟨1, 19, [.cell 2 2 false],
  .seq (.region false [o1 2 (.new [.bool false, .sl 0 []] [])])
  (.seq (.region false [o1 5 (.bld [.bool false, .sl 0 []] []),
   o1 3 (.new [.bool false, .sl 0 []] []),
   oN (.st 3 3 2 (.t 5))])
  (.seq (.seq (.region false [o1 4 (.mov (.c (.int .i64 0)))])
  (.block 0 (.loop (.seq (.seq (.region false [oM 6 4,
   oM 7 0,
   o1 8 (.len (.t 7)),
   oB 9 .lss 6 8])
  (.cond (.t 9) (.skip)
  (.exit 0)))
  (.seq (.block 1 (.region true [o1 12 (.ld 3 3 2 false),
   oM 13 0,
   oM 14 4,
   o1 15 (.ixa 13 (.t 14) 2),
   o1 16 (.ld 15 15 2 false),
   oC 17 130 [12, 16],
   oN (.st 3 3 2 (.t 17))]))
  (.region false [oM 10 4,
   o1 11 (.bin .add (.t 10) (.c (.int .i64 1))),
   oM 4 11]))))))
  (.seq (.region false [o1 18 (.ld 3 3 2 false),
   oN (.st 2 2 2 (.t 18))])
  (.ret))))⟩
def Try.r90 : List (Nat × Nat) := []
theorem Try.i90_ok : fnOk Try.prog Try.r90 Try.f90 Try.i90 = true := by kernel_rfl
def Try.i91 : IFunc := ⟨1, 34, [.tmp 2],
  .seq (.region false [o1 2 (.nlo 2)])
  (.seq (.region false [oM 8 0,
   oC 9 90 [8],
   o1 3 (.new [.bool false, .sl 0 []] []),
   oN (.st 3 3 2 (.t 9))])
  (.seq (.seq (.region false [o1 10 (.ld 3 3 2 false),
   oC 11 81 [10],
   o1 12 (.bin .eql (.t 11) (.c (.int .i64 0)))])
  (.cond (.t 12) (.seq (.region false [o1 2 (.nlo 2)])
  (.ret))
  (.skip)))
  (.seq (.region false [o1 4 (.nlo 2)])
  (.seq (.seq (.region false [o1 5 (.mov (.c (.int .i64 0)))])
  (.block 0 (.loop (.seq (.seq (.region false [oM 13 5,
   oM 14 0,
   o1 15 (.len (.t 14)),
   oB 16 .lss 13 15])
  (.cond (.t 16) (.skip)
  (.exit 0)))
  (.seq (.block 1 (.seq (.region true [oM 20 0,
   oM 21 5,
   o1 22 (.ixa 20 (.t 21) 2),
   o1 23 (.ld 22 22 2 false),
   o1 24 (.ld 3 3 2 false),
   oC 25 131 [23, 24],
   oM 19 25,
   o1 26 (.ext (.t 19) 0),
   o1 27 (.ext (.t 19) 1),
   o1 6 (.new [.bool false, .sl 0 []] []),
   o1 7 (.new [.bool false, .sl 0 []] []),
   oN (.st 6 6 2 (.t 26)),
   oN (.st 7 7 2 (.t 27))])
  (.region false [o1 28 (.tra 4),
   o1 29 (.ld 6 6 2 false),
   o1 30 (.bls 1 [.bool false, .sl 0 []] [(0, 2, .t 29)]),
   o1 31 (.apd true (.t 28) (.t 30) 2),
   o1 4 (.tra 31)])))
  (.region false [oM 17 5,
   o1 18 (.bin .add (.t 17) (.c (.int .i64 1))),
   oM 5 18]))))))
  (.seq (.region false [o1 32 (.frz 4),
   o1 33 (.clo 43 [.t 32]),
   o1 2 (.tra 33)])
  (.ret))))))⟩
def Try.r91 : List (Nat × Nat) := []
theorem Try.i91_ok : fnOk Try.prog Try.r91 Try.f91 Try.i91 = true := by kernel_rfl
def Try.i92 : IFunc := ⟨1, 28, [.tmp 2],
  .seq (.region false [o1 2 (.nlo 2)])
  (.seq (.region false [oM 6 0,
   oC 7 62 [6],
   o1 8 (.bin .add (.t 7) (.c (.int .i64 1))),
   oM 3 8])
  (.seq (.seq (.region false [oM 9 3,
   o1 10 (.bin .eql (.t 9) (.c (.int .i64 0)))])
  (.cond (.t 10) (.seq (.region false [o1 2 (.nlo 2)])
  (.ret))
  (.skip)))
  (.seq (.region false [oM 11 3,
   o1 12 (.mks [.bool false, .sl 0 []] (.t 11)),
   ⟨some 4, .tra 12, none, [13, 18, 25]⟩])
  (.seq (.seq (.region false [o1 13 (.cpy 4),
   o1 14 (.lno 13 4),
   o1 15 (.mov (.c (.int .i64 0)))])
  (.block 0 (.loop (.seq (.region false [oB 16 .lss 15 14])
  (.seq (.cond (.t 16) (.skip)
  (.exit 0))
  (.seq (.block 1 (.seq (.region false [oM 17 15,
   oM 5 17])
  (.region false [o1 18 (.cpy 4),
   oM 19 5,
   oM 20 0,
   oM 21 5,
   o1 22 (.ixa 20 (.t 21) 2),
   o1 23 (.ld 22 22 2 false),
   oC 24 132 [23],
   o1 25 (.ixo 18 4 (.t 19) 2),
   oN (.st 25 4 2 (.t 24))])))
  (.region false [o1 26 (.bin .add (.t 15) (.c (.int .i64 1))),
   oM 15 26])))))))
  (.seq (.region false [o1 27 (.tra 4),
   o1 2 (.tra 27)])
  (.ret))))))⟩
def Try.r92 : List (Nat × Nat) := [(13, 4), (18, 4), (25, 4)]
theorem Try.i92_ok : fnOk Try.prog Try.r92 Try.f92 Try.i92 = true := by kernel_rfl
def Try.i93 : IFunc := ⟨1, 8, [.cell 2 2 false],
  .seq (.region false [o1 1 (.box (.t 0) [3, 5]),
   o1 2 (.new [.bool false, .sl 0 []] [])])
  (.seq (.region false [o1 3 (.adr 1 1 0),
   o1 4 (.ld 3 1 1 true),
   o1 5 (.adr 1 1 1),
   o1 6 (.ld 5 1 1 true),
   oC 7 106 [4, 6],
   oN (.st 2 2 2 (.t 7))])
  (.ret))⟩
def Try.r93 : List (Nat × Nat) := [(3, 1), (5, 1)]
theorem Try.i93_ok : fnOk Try.prog Try.r93 Try.f93 Try.i93 = true := by kernel_rfl
def Try.i94 : IFunc := ⟨1, 19, [.cell 2 2 false],
  .seq (.region false [o1 2 (.new [.bool false, .sl 0 []] [])])
  (.seq (.region false [oM 4 0,
   o1 5 (.cv .u64 (.t 4)),
   oM 3 5])
  (.seq (.seq (.region false [oM 6 0,
   o1 7 (.bin .lss (.t 6) (.c (.int .i64 0)))])
  (.cond (.t 7) (.region false [oM 8 3,
   o1 9 (.un .neg (.t 8)),
   oM 3 9])
  (.skip)))
  (.seq (.region false [oM 10 0,
   o1 11 (.bin .lss (.t 10) (.c (.int .i64 0))),
   oM 12 3,
   o1 13 (.cv .u32 (.t 12)),
   oM 14 3,
   o1 15 (.bin .shr (.t 14) (.c (.int .u64 32))),
   o1 16 (.cv .u32 (.t 15)),
   o1 17 (.bls 2 [.int .u32 0, .int .u32 0] [(0, 1, .t 13), (1, 1, .t 16)]),
   oC 18 133 [11, 17],
   oN (.st 2 2 2 (.t 18))])
  (.ret))))⟩
def Try.r94 : List (Nat × Nat) := []
theorem Try.i94_ok : fnOk Try.prog Try.r94 Try.f94 Try.i94 = true := by kernel_rfl
def Try.i95 : IFunc := ⟨1, 37, [.tmp 2, .tmp 3],
  .seq (.region false [o1 2 (.nlo 1),
   o1 3 (.mov (.c (.int .i64 0)))])
  (.seq (.seq (.region false [oM 12 0,
   oC 13 34 [12],
   oM 11 13,
   o1 14 (.ext (.t 11) 0),
   o1 15 (.ext (.t 11) 1),
   oM 4 14,
   oM 5 15])
  (.seq (.region false [oM 16 5,
   o1 17 (.bin .neq (.t 16) (.c (.int .i64 0)))])
  (.cond (.t 17) (.seq (.region false [oM 18 5,
   o1 2 (.nlo 1),
   oM 3 18])
  (.ret))
  (.skip))))
  (.seq (.region false [oM 19 0,
   oC 20 96 [19],
   oM 6 20])
  (.seq (.seq (.region false [oM 21 6,
   o1 22 (.len (.t 21)),
   o1 23 (.mov (.c (.int .i64 0)))])
  (.block 0 (.loop (.seq (.region false [oB 24 .lss 23 22])
  (.seq (.cond (.t 24) (.skip)
  (.exit 0))
  (.seq (.block 1 (.seq (.region false [o1 25 (.ixa 21 (.t 23) 1),
   o1 26 (.ld 25 25 1 true),
   oM 8 26])
  (.seq (.region false [oM 28 8,
   oC 29 34 [28],
   oM 27 29,
   o1 30 (.ext (.t 27) 0),
   o1 31 (.ext (.t 27) 1),
   oM 9 30,
   oM 10 31])
  (.seq (.region false [oM 32 10,
   o1 33 (.bin .neq (.t 32) (.c (.int .i64 0)))])
  (.cond (.t 33) (.seq (.region false [oM 34 10,
   o1 2 (.nlo 1),
   oM 3 34])
  (.ret))
  (.skip))))))
  (.region false [o1 35 (.bin .add (.t 23) (.c (.int .i64 1))),
   oM 23 35])))))))
  (.seq (.region false [oM 36 6,
   o1 2 (.tra 36),
   o1 3 (.mov (.c (.int .i64 0)))])
  (.ret)))))⟩
def Try.r95 : List (Nat × Nat) := []
theorem Try.i95_ok : fnOk Try.prog Try.r95 Try.f95 Try.i95 = true := by kernel_rfl
def Try.i96 : IFunc := ⟨1, 29, [.tmp 2],
  .seq (.region false [o1 2 (.nlo 1)])
  (.seq (.region false [oM 6 0,
   oC 7 66 [6],
   oM 3 7])
  (.seq (.seq (.region false [oM 8 3,
   o1 9 (.len (.t 8)),
   o1 10 (.bin .eql (.t 9) (.c (.int .i64 0)))])
  (.cond (.t 10) (.seq (.region false [o1 2 (.nlo 1)])
  (.ret))
  (.skip)))
  (.seq (.region false [oM 11 3,
   o1 12 (.blo 1 1 [.sl 0 []] [(0, 1, .t 11)]),
   o1 4 (.tra 12)])
  (.seq (.region false [oM 13 3,
   oC 14 75 [13],
   oC 15 86 [14],
   oM 5 15])
  (.seq (.block 0 (.loop (.seq (.seq (.region false [oM 16 5,
   o1 17 (.len (.t 16)),
   o1 18 (.bin .gtr (.t 17) (.c (.int .i64 0)))])
  (.cond (.t 18) (.skip)
  (.exit 0)))
  (.block 1 (.seq (.region false [o1 19 (.tra 4),
   oM 20 5,
   o1 21 (.bls 1 [.sl 0 []] [(0, 1, .t 20)]),
   o1 22 (.apd true (.t 19) (.t 21) 1),
   o1 4 (.tra 22)])
  (.region false [oM 23 5,
   oM 24 3,
   oM 25 5,
   oC 26 64 [24, 25],
   oC 27 127 [26],
   oM 3 23,
   oM 5 27]))))))
  (.seq (.region false [o1 28 (.tra 4),
   o1 2 (.tra 28)])
  (.ret)))))))⟩
def Try.r96 : List (Nat × Nat) := []
theorem Try.i96_ok : fnOk Try.prog Try.r96 Try.f96 Try.i96 = true := by kernel_rfl
def Try.i97 : IFunc := ⟨1, 17, [.tmp 2],
  .seq (.region false [o1 1 (.box (.t 0) [3, 7, 12]),
   o1 2 (.mov (.c (.bool false)))])
  (.seq (.region false [o1 3 (.adr 1 1 2),
   o1 4 (.ld 3 1 1 true),
   o1 5 (.bin .geq (.t 4) (.c (.int .i64 0))),
   oM 6 5,
   oG 7 (.adr 1 1 2) 6 true,
   oG 8 (.ld 7 1 1 true) 6 true,
   oG 9 (.bin .leq (.t 8) (.c (.int .i64 4096))) 6 true,
   o1 10 (.pick (.t 6) (.t 9) (.c (.bool false))),
   oM 11 10,
   oG 12 (.adr 1 1 0) 11 true,
   oG 13 (.ld 12 1 2 false) 11 true,
   oG 14 (.call 76 [.t 13]) 11 true,
   oG 15 (.bin .leq (.t 14) (.c (.int .i64 256))) 11 true,
   o1 16 (.pick (.t 11) (.t 15) (.c (.bool false))),
   oM 2 16])
  (.ret))⟩
def Try.r97 : List (Nat × Nat) := [(3, 1), (7, 1), (12, 1)]
theorem Try.i97_ok : fnOk Try.prog Try.r97 Try.f97 Try.i97 = true := by kernel_rfl
def Try.i98 : IFunc := ⟨2, 26, [.tmp 4],
  .seq (.region false [o1 2 (.box (.t 0) [6, 11, 14]),
   o1 3 (.box (.t 1) [8, 18, 21]),
   o1 4 (.mov (.c (.int .i64 0)))])
  (.seq (.region false [o1 6 (.adr 2 2 2),
   o1 7 (.ld 6 2 1 true),
   o1 8 (.adr 3 3 2),
   o1 9 (.ld 8 3 1 true),
   o1 10 (.mx [.t 7, .t 9]),
   oM 5 10])
  (.seq (.region true [o1 11 (.adr 2 2 0),
   o1 12 (.ld 11 2 2 false),
   oM 13 5,
   o1 14 (.adr 2 2 2),
   o1 15 (.ld 14 2 1 true),
   oB 16 .sub 13 15,
   oC 17 124 [12, 16],
   o1 18 (.adr 3 3 0),
   o1 19 (.ld 18 3 2 false),
   oM 20 5,
   o1 21 (.adr 3 3 2),
   o1 22 (.ld 21 3 1 true),
   oB 23 .sub 20 22,
   oC 24 124 [19, 23],
   oC 25 134 [17, 24],
   oM 4 25])
  (.ret)))⟩
def Try.r98 : List (Nat × Nat) := [(6, 2), (8, 3), (11, 2), (14, 2), (18, 3), (21, 3)]
theorem Try.i98_ok : fnOk Try.prog Try.r98 Try.f98 Try.i98 = true := by kernel_rfl
def Try.i99 : IFunc := ⟨1, 7, [.tmp 3],
  .seq (.region false [o1 2 (.box (.t 0) []),
   o1 3 (.mov (.c (.int .i64 0)))])
  (.seq (.region false [o1 4 (.ld 1 1 1 true),
   o1 5 (.ld 2 2 3 false),
   oC 6 100 [4, 5],
   oM 3 6])
  (.ret))⟩
def Try.r99 : List (Nat × Nat) := []
theorem Try.i99_ok : fnOk Try.prog Try.r99 Try.f99 Try.i99 = true := by kernel_rfl
def Try.i100 : IFunc := ⟨2, 37, [.tmp 4],
  .seq (.region false [o1 3 (.box (.t 1) []),
   o1 4 (.mov (.c (.int .i64 0)))])
  (.seq (.region false [o1 5 (.mov (.c (.int .i64 0))),
   o1 6 (.mov (.c (.int .i64 0)))])
  (.seq (.seq (.region false [oM 10 0,
   o1 11 (.len (.t 10)),
   o1 12 (.mov (.c (.int .i64 0)))])
  (.block 0 (.loop (.seq (.region false [oB 13 .lss 12 11])
  (.seq (.cond (.t 13) (.skip)
  (.exit 0))
  (.seq (.block 1 (.seq (.region false [o1 14 (.ixa 10 (.t 12) 1),
   o1 15 (.ld 14 14 1 true),
   oM 8 15])
  (.seq (.region false [oM 16 8,
   o1 17 (.ld 3 3 3 false),
   oC 18 78 [16, 17],
   oM 9 18])
  (.seq (.seq (.region false [oM 19 9,
   o1 20 (.bin .neq (.t 19) (.c (.int .i64 0))),
   oM 21 20,
   oG 22 (.mov (.t 6)) 21 true,
   oG 23 (.bin .neq (.t 22) (.c (.int .i64 0))) 21 true,
   o1 24 (.pick (.t 21) (.t 23) (.c (.bool false))),
   oM 25 24,
   oG 26 (.mov (.t 9)) 25 true,
   oG 27 (.mov (.t 6)) 25 true,
   oG 28 (.bin .neq (.t 26) (.t 27)) 25 true,
   o1 29 (.pick (.t 25) (.t 28) (.c (.bool false)))])
  (.cond (.t 29) (.region false [oM 30 5,
   o1 31 (.bin .add (.t 30) (.c (.int .i64 1))),
   oM 5 31])
  (.skip)))
  (.seq (.region false [oM 32 9,
   o1 33 (.bin .neq (.t 32) (.c (.int .i64 0)))])
  (.cond (.t 33) (.region false [oM 34 9,
   oM 6 34])
  (.skip)))))))
  (.region false [o1 35 (.bin .add (.t 12) (.c (.int .i64 1))),
   oM 12 35])))))))
  (.seq (.region false [oM 36 5,
   oM 4 36])
  (.ret))))⟩
def Try.r100 : List (Nat × Nat) := []
theorem Try.i100_ok : fnOk Try.prog Try.r100 Try.f100 Try.i100 = true := by kernel_rfl
def Try.i101 : IFunc := ⟨1, 17, [.tmp 2],
  .seq (.region false [o1 1 (.box (.t 0) [3, 7, 12]),
   o1 2 (.mov (.c (.bool false)))])
  (.seq (.region false [o1 3 (.adr 1 1 2),
   o1 4 (.ld 3 1 1 true),
   o1 5 (.bin .geq (.t 4) (.c (.int .i64 0))),
   oM 6 5,
   oG 7 (.adr 1 1 2) 6 true,
   oG 8 (.ld 7 1 1 true) 6 true,
   oG 9 (.bin .leq (.t 8) (.c (.int .i64 4096))) 6 true,
   o1 10 (.pick (.t 6) (.t 9) (.c (.bool false))),
   oM 11 10,
   oG 12 (.adr 1 1 0) 11 true,
   oG 13 (.ld 12 1 2 false) 11 true,
   oG 14 (.call 79 [.t 13]) 11 true,
   oG 15 (.un .not (.t 14)) 11 true,
   o1 16 (.pick (.t 11) (.t 15) (.c (.bool false))),
   oM 2 16])
  (.ret))⟩
def Try.r101 : List (Nat × Nat) := [(3, 1), (7, 1), (12, 1)]
theorem Try.i101_ok : fnOk Try.prog Try.r101 Try.f101 Try.i101 = true := by kernel_rfl
def Try.i102 : IFunc := ⟨2, 16, [.tmp 4],
  .seq (.region false [o1 2 (.box (.t 0) [5, 12]),
   o1 3 (.box (.t 1) [7, 10]),
   o1 4 (.mov (.c (.int .i64 0)))])
  (.seq (.region true [o1 5 (.adr 2 2 0),
   o1 6 (.ld 5 2 2 false),
   o1 7 (.adr 3 3 2),
   o1 8 (.ld 7 3 1 true),
   oC 9 126 [6, 8],
   o1 10 (.adr 3 3 0),
   o1 11 (.ld 10 3 2 false),
   o1 12 (.adr 2 2 2),
   o1 13 (.ld 12 2 1 true),
   oC 14 126 [11, 13],
   oC 15 135 [9, 14],
   oM 4 15])
  (.ret))⟩
def Try.r102 : List (Nat × Nat) := [(5, 2), (7, 3), (10, 3), (12, 2)]
theorem Try.i102_ok : fnOk Try.prog Try.r102 Try.f102 Try.i102 = true := by kernel_rfl
def Try.i103 : IFunc := ⟨3, 17, [.tmp 6],
  .seq (.region false [o1 4 (.box (.t 1) []),
   o1 5 (.box (.t 2) []),
   o1 6 (.mov (.c (.int .i64 0)))])
  (.seq (.region false [oM 8 0,
   oC 9 136 [8],
   oM 7 9])
  (.seq (.region true [oM 10 7,
   o1 11 (.ld 4 4 3 false),
   oC 12 137 [10, 11],
   oM 13 7,
   o1 14 (.ld 5 5 3 false),
   oC 15 137 [13, 14],
   oB 16 .sub 12 15,
   oM 6 16])
  (.ret)))⟩
def Try.r103 : List (Nat × Nat) := []
theorem Try.i103_ok : fnOk Try.prog Try.r103 Try.f103 Try.i103 = true := by kernel_rfl
def Try.i104 : IFunc := ⟨2, 42, [.cell 4 2 false],
  .seq (.region false [o1 2 (.box (.t 0) [7, 14, 19, 30]),
   o1 3 (.box (.t 1) [10, 16, 36]),
   o1 4 (.new [.bool false, .sl 0 []] [])])
  (.seq (.region true [o1 7 (.adr 2 2 1),
   o1 8 (.ld 7 2 1 true),
   oC 9 125 [8],
   o1 10 (.adr 3 3 1),
   o1 11 (.ld 10 3 1 true),
   oC 12 125 [11],
   oM 5 9,
   oM 6 12])
  (.seq (.block 0 (.seq (.region false [o1 14 (.adr 2 2 0),
   o1 15 (.ld 14 2 1 true),
   o1 16 (.adr 3 3 0),
   o1 17 (.ld 16 3 1 true),
   o1 18 (.eqb false (.t 15) (.t 17)),
   oM 13 18])
  (.cond (.t 13) (.seq (.region true [o1 19 (.adr 2 2 0),
   o1 20 (.ld 19 2 1 true),
   oM 21 5,
   oM 22 6,
   oC 23 138 [21, 22],
   oC 24 106 [20, 23],
   oN (.st 4 4 2 (.t 24))])
  (.ret))
  (.seq (.region false [oM 26 5,
   oM 27 6,
   oC 28 139 [26, 27],
   o1 29 (.bin .geq (.t 28) (.c (.int .i64 0))),
   oM 25 29])
  (.cond (.t 25) (.seq (.region true [o1 30 (.adr 2 2 0),
   o1 31 (.ld 30 2 1 true),
   oM 32 5,
   oM 33 6,
   oC 34 140 [32, 33],
   oC 35 106 [31, 34],
   oN (.st 4 4 2 (.t 35))])
  (.ret))
  (.skip))))))
  (.seq (.region true [o1 36 (.adr 3 3 0),
   o1 37 (.ld 36 3 1 true),
   oM 38 6,
   oM 39 5,
   oC 40 140 [38, 39],
   oC 41 106 [37, 40],
   oN (.st 4 4 2 (.t 41))])
  (.ret))))⟩
def Try.r104 : List (Nat × Nat) := [(7, 2), (10, 3), (14, 2), (16, 3), (19, 2), (30, 2), (36, 3)]
theorem Try.i104_ok : fnOk Try.prog Try.r104 Try.f104 Try.i104 = true := by kernel_rfl
def Try.i105 : IFunc := ⟨2, 18, [.cell 4 2 false],
  .seq (.region false [o1 2 (.box (.t 0) [5, 10]),
   o1 3 (.box (.t 1) [7, 13]),
   o1 4 (.new [.bool false, .sl 0 []] [])])
  (.seq (.region true [o1 5 (.adr 2 2 0),
   o1 6 (.ld 5 2 1 true),
   o1 7 (.adr 3 3 0),
   o1 8 (.ld 7 3 1 true),
   o1 9 (.eqb true (.t 6) (.t 8)),
   o1 10 (.adr 2 2 1),
   o1 11 (.ld 10 2 1 true),
   oC 12 125 [11],
   o1 13 (.adr 3 3 1),
   o1 14 (.ld 13 3 1 true),
   oC 15 125 [14],
   oC 16 141 [12, 15],
   oC 17 106 [9, 16],
   oN (.st 4 4 2 (.t 17))])
  (.ret))⟩
def Try.r105 : List (Nat × Nat) := [(5, 2), (7, 3), (10, 2), (13, 3)]
theorem Try.i105_ok : fnOk Try.prog Try.r105 Try.f105 Try.i105 = true := by kernel_rfl
def Try.i106 : IFunc := ⟨2, 16, [.cell 4 2 false],
  .seq (.region false [o1 4 (.new [.bool false, .sl 0 []] [])])
  (.seq (.region false [oM 6 1,
   oC 7 125 [6],
   oM 5 7])
  (.seq (.region false [oM 8 0,
   oM 9 8,
   oG 10 (.mov (.t 5)) 9 true,
   oG 11 (.len (.t 10)) 9 true,
   oG 12 (.bin .gtr (.t 11) (.c (.int .i64 0))) 9 true,
   o1 13 (.pick (.t 9) (.t 12) (.c (.bool false))),
   oM 14 5,
   o1 15 (.bld [.bool false, .sl 0 []] [(0, 1, .t 13), (1, 1, .t 14)]),
   oN (.st 4 4 2 (.t 15))])
  (.ret)))⟩
def Try.r106 : List (Nat × Nat) := []
theorem Try.i106_ok : fnOk Try.prog Try.r106 Try.f106 Try.i106 = true := by kernel_rfl
def Try.i107 : IFunc := ⟨2, 29, [.cell 4 3 false],
  .seq (.region false [o1 2 (.box (.t 0) [6, 11, 14]),
   o1 3 (.box (.t 1) [8, 18, 21]),
   o1 4 (.new [.bool false, .sl 0 [], .int .i64 0] [])])
  (.seq (.region false [o1 6 (.adr 2 2 2),
   o1 7 (.ld 6 2 1 true),
   o1 8 (.adr 3 3 2),
   o1 9 (.ld 8 3 1 true),
   o1 10 (.mx [.t 7, .t 9]),
   oM 5 10])
  (.seq (.region true [o1 11 (.adr 2 2 0),
   o1 12 (.ld 11 2 2 false),
   oM 13 5,
   o1 14 (.adr 2 2 2),
   o1 15 (.ld 14 2 1 true),
   oB 16 .sub 13 15,
   oC 17 124 [12, 16],
   o1 18 (.adr 3 3 0),
   o1 19 (.ld 18 3 2 false),
   oM 20 5,
   o1 21 (.adr 3 3 2),
   o1 22 (.ld 21 3 1 true),
   oB 23 .sub 20 22,
   oC 24 124 [19, 23],
   oC 25 121 [17, 24],
   oM 26 5,
   o1 27 (.bin .add (.t 26) (.c (.int .i64 1))),
   oC 28 142 [25, 27],
   oN (.st 4 4 3 (.t 28))])
  (.ret)))⟩
def Try.r107 : List (Nat × Nat) := [(6, 2), (8, 3), (11, 2), (14, 2), (18, 3), (21, 3)]
theorem Try.i107_ok : fnOk Try.prog Try.r107 Try.f107 Try.i107 = true := by kernel_rfl
def Try.i108 : IFunc := ⟨2, 32, [.cell 4 3 false],
  .seq (.region false [o1 2 (.box (.t 0) [7, 12, 15]),
   o1 3 (.box (.t 1) [9, 19, 22]),
   o1 4 (.new [.bool false, .sl 0 [], .int .i64 0] [])])
  (.seq (.region false [o1 7 (.adr 2 2 2),
   o1 8 (.ld 7 2 1 true),
   o1 9 (.adr 3 3 2),
   o1 10 (.ld 9 3 1 true),
   o1 11 (.mx [.t 8, .t 10]),
   oM 5 11])
  (.seq (.region true [o1 12 (.adr 2 2 0),
   o1 13 (.ld 12 2 2 false),
   oM 14 5,
   o1 15 (.adr 2 2 2),
   o1 16 (.ld 15 2 1 true),
   oB 17 .sub 14 16,
   oC 18 126 [13, 17],
   o1 19 (.adr 3 3 0),
   o1 20 (.ld 19 3 2 false),
   oM 21 5,
   o1 22 (.adr 3 3 2),
   o1 23 (.ld 22 3 1 true),
   oB 24 .sub 21 23,
   oC 25 126 [20, 24],
   oC 26 104 [18, 25],
   o1 6 (.new [.bool false, .sl 0 []] []),
   oN (.st 6 6 2 (.t 26))])
  (.seq (.region false [o1 27 (.ld 6 6 2 false),
   oM 28 5,
   o1 29 (.bin .add (.t 28) (.c (.int .i64 1))),
   o1 30 (.bld [.bool false, .sl 0 [], .int .i64 0] [(0, 2, .t 27), (2, 1, .t 29)]),
   oC 31 143 [30],
   oN (.st 4 4 3 (.t 31))])
  (.ret))))⟩
def Try.r108 : List (Nat × Nat) := [(7, 2), (9, 3), (12, 2), (15, 2), (19, 3), (22, 3)]
theorem Try.i108_ok : fnOk Try.prog Try.r108 Try.f108 Try.i108 = true := by kernel_rfl
def Try.i109 : IFunc := ⟨2, 42, [.cell 4 2 false],
  .seq (.region false [o1 2 (.box (.t 0) []),
   o1 3 (.box (.t 1) []),
   o1 4 (.new [.bool false, .sl 0 []] [])])
  (.seq (.region true [o1 9 (.ld 2 2 2 false),
   oC 10 111 [9],
   o1 11 (.ld 3 3 2 false),
   oC 12 111 [11],
   o1 5 (.new [.bool false, .sl 0 []] [17]),
   o1 6 (.new [.bool false, .sl 0 []] [13, 22]),
   oN (.st 5 5 2 (.t 10)),
   oN (.st 6 6 2 (.t 12))])
  (.seq (.block 0 (.loop (.seq (.seq (.region false [o1 13 (.adr 6 6 1),
   o1 14 (.ld 13 6 1 true),
   o1 15 (.len (.t 14)),
   o1 16 (.bin .gtr (.t 15) (.c (.int .i64 0)))])
  (.cond (.t 16) (.skip)
  (.exit 0)))
  (.block 1 (.seq (.seq (.region false [o1 17 (.adr 5 5 1),
   o1 18 (.ld 17 5 1 true),
   o1 19 (.len (.t 18)),
   o1 20 (.bin .leq (.t 19) (.c (.int .i64 2))),
   oM 21 20,
   oG 22 (.adr 6 6 1) 21 true,
   oG 23 (.ld 22 6 1 true) 21 true,
   oG 24 (.len (.t 23)) 21 true,
   oG 25 (.bin .leq (.t 24) (.c (.int .i64 2))) 21 true,
   o1 26 (.pick (.t 21) (.t 25) (.c (.bool false)))])
  (.cond (.t 26) (.seq (.region true [o1 27 (.ld 5 5 2 false),
   oC 28 146 [27],
   o1 29 (.ld 6 6 2 false),
   oC 30 146 [29],
   oC 31 145 [28, 30],
   oC 32 144 [31],
   oN (.st 4 4 2 (.t 32))])
  (.ret))
  (.skip)))
  (.seq (.region false [o1 34 (.ld 5 5 2 false),
   o1 35 (.ld 6 6 2 false),
   oC 36 110 [34, 35],
   oM 33 36,
   o1 37 (.ext (.t 33) 0),
   o1 38 (.ext (.t 33) 1),
   o1 7 (.new [.bool false, .sl 0 []] []),
   o1 8 (.new [.bool false, .sl 0 []] []),
   oN (.st 7 7 2 (.t 37)),
   oN (.st 8 8 2 (.t 38))])
  (.region true [o1 39 (.ld 6 6 2 false),
   o1 40 (.ld 8 8 2 false),
   oN (.st 5 5 2 (.t 39)),
   oN (.st 6 6 2 (.t 40))])))))))
  (.seq (.region false [o1 41 (.ld 5 5 2 false),
   oN (.st 4 4 2 (.t 41))])
  (.ret))))⟩
def Try.r109 : List (Nat × Nat) := [(13, 6), (17, 5), (22, 6)]
theorem Try.i109_ok : fnOk Try.prog Try.r109 Try.f109 Try.i109 = true := by kernel_rfl
def Try.i110 : IFunc := ⟨2, 36, [.cell 4 2 false, .cell 5 2 false],
  .seq (.region false [o1 2 (.box (.t 0) []),
   o1 3 (.box (.t 1) []),
   o1 4 (.new [.bool false, .sl 0 []] []),
   o1 5 (.new [.bool false, .sl 0 []] [])])
  (.seq (.region false [o1 13 (.ld 2 2 2 false),
   oC 14 122 [13],
   oM 12 14,
   o1 15 (.ext (.t 12) 0),
   o1 16 (.ext (.t 12) 1),
   oM 6 15,
   oM 7 16])
  (.seq (.region false [o1 18 (.ld 3 3 2 false),
   oC 19 122 [18],
   oM 17 19,
   o1 20 (.ext (.t 17) 0),
   o1 21 (.ext (.t 17) 1),
   oM 8 20,
   oM 9 21])
  (.seq (.region false [oM 23 7,
   oM 24 9,
   oC 25 147 [23, 24],
   oM 22 25,
   o1 26 (.ext (.t 22) 0),
   o1 27 (.ext (.t 22) 1),
   oM 10 26,
   oM 11 27])
  (.seq (.region false [oM 28 6,
   oM 29 8,
   o1 30 (.eqb true (.t 28) (.t 29)),
   oM 31 10,
   oC 32 133 [30, 31],
   oM 33 6,
   oM 34 11,
   oC 35 133 [33, 34],
   oN (.st 4 4 2 (.t 32)),
   oN (.st 5 5 2 (.t 35))])
  (.ret)))))⟩
def Try.r110 : List (Nat × Nat) := []
theorem Try.i110_ok : fnOk Try.prog Try.r110 Try.f110 Try.i110 = true := by kernel_rfl
def Try.i111 : IFunc := ⟨1, 13, [.cell 2 2 false],
  .seq (.region false [o1 1 (.box (.t 0) []),
   o1 2 (.new [.bool false, .sl 0 []] [])])
  (.seq (.region false [o1 6 (.ld 1 1 2 false),
   oC 7 122 [6],
   oM 5 7,
   o1 8 (.ext (.t 5) 0),
   o1 9 (.ext (.t 5) 1),
   oM 3 8,
   oM 4 9])
  (.seq (.region false [oM 10 4,
   o1 11 (.apd false (.c (.nil)) (.t 10) 1),
   o1 12 (.call 133 [.c (.bool false), .t 11]),
   oN (.st 2 2 2 (.t 12))])
  (.ret)))⟩
def Try.r111 : List (Nat × Nat) := []
theorem Try.i111_ok : fnOk Try.prog Try.r111 Try.f111 Try.i111 = true := by kernel_rfl
def Try.i112 : IFunc := ⟨1, 15, [.cell 2 2 false],
  .seq (.region false [o1 1 (.box (.t 0) []),
   o1 2 (.new [.bool false, .sl 0 []] [])])
  (.seq (.region false [o1 6 (.ld 1 1 2 false),
   oC 7 122 [6],
   oM 5 7,
   o1 8 (.ext (.t 5) 0),
   o1 9 (.ext (.t 5) 1),
   oM 3 8,
   oM 4 9])
  (.seq (.region false [oM 10 3,
   o1 11 (.un .not (.t 10)),
   oM 12 4,
   o1 13 (.apd false (.c (.nil)) (.t 12) 1),
   oC 14 133 [11, 13],
   oN (.st 2 2 2 (.t 14))])
  (.ret)))⟩
def Try.r112 : List (Nat × Nat) := []
theorem Try.i112_ok : fnOk Try.prog Try.r112 Try.f112 Try.i112 = true := by kernel_rfl
def Try.i113 : IFunc := ⟨2, 94, [.cell 4 2 false],
  .seq (.region false [o1 2 (.box (.t 0) []),
   o1 3 (.box (.t 1) []),
   o1 4 (.new [.bool false, .sl 0 []] [])])
  (.seq (.region false [o1 17 (.ld 2 2 2 false),
   oC 18 122 [17],
   oM 16 18,
   o1 19 (.ext (.t 16) 0),
   o1 20 (.ext (.t 16) 1),
   oM 5 19,
   oM 6 20])
  (.seq (.region false [o1 22 (.ld 3 3 2 false),
   oC 23 122 [22],
   oM 21 23,
   o1 24 (.ext (.t 21) 0),
   o1 25 (.ext (.t 21) 1),
   oM 7 24,
   oM 8 25])
  (.seq (.seq (.region false [oM 26 6,
   o1 27 (.len (.t 26)),
   o1 28 (.bin .eql (.t 27) (.c (.int .i64 0))),
   oM 29 28,
   oG 30 (.mov (.t 8)) 29 false,
   oG 31 (.len (.t 30)) 29 false,
   oG 32 (.bin .eql (.t 31) (.c (.int .i64 0))) 29 false,
   o1 33 (.pick (.t 29) (.c (.bool true)) (.t 32))])
  (.cond (.t 33) (.seq (.region false [o1 34 (.bld [.bool false, .sl 0 []] []),
   oN (.st 4 4 2 (.t 34))])
  (.ret))
  (.skip)))
  (.seq (.region false [oM 35 6,
   o1 36 (.len (.t 35)),
   oM 37 8,
   o1 38 (.len (.t 37)),
   oB 39 .add 36 38,
   o1 40 (.mks [.int .u32 0] (.t 39)),
   ⟨some 9, .tra 40, none, [60, 64, 70, 78, 80, 87]⟩])
  (.seq (.seq (.region false [oM 41 6,
   o1 42 (.len (.t 41)),
   o1 43 (.mov (.c (.int .i64 0)))])
  (.block 0 (.loop (.seq (.region false [oB 44 .lss 43 42])
  (.seq (.cond (.t 44) (.skip)
  (.exit 0))
  (.seq (.block 1 (.seq (.region false [oM 45 43,
   o1 46 (.ixa 41 (.t 43) 1),
   o1 47 (.ld 46 46 1 true),
   oM 10 45,
   oM 11 47])
  (.seq (.region false [o1 12 (.mov (.c (.int .u64 0)))])
  (.seq (.seq (.region false [oM 48 8,
   o1 49 (.len (.t 48)),
   o1 50 (.mov (.c (.int .i64 0)))])
  (.block 2 (.loop (.seq (.region false [oB 51 .lss 50 49])
  (.seq (.cond (.t 51) (.skip)
  (.exit 2))
  (.seq (.block 3 (.seq (.region false [oM 52 50,
   o1 53 (.ixa 48 (.t 50) 1),
   o1 54 (.ld 53 53 1 true),
   oM 13 52,
   oM 14 54])
  (.seq (.region false [oM 55 11,
   o1 56 (.cv .u64 (.t 55)),
   oM 57 14,
   o1 58 (.cv .u64 (.t 57)),
   oB 59 .mul 56 58,
   o1 60 (.cpy 9),
   oM 61 10,
   oM 62 13,
   oB 63 .add 61 62,
   o1 64 (.ixo 60 9 (.t 63) 1),
   o1 65 (.ld 64 9 1 true),
   o1 66 (.cv .u64 (.t 65)),
   oB 67 .add 59 66,
   oM 68 12,
   oB 69 .add 67 68,
   oM 15 69])
  (.region false [o1 70 (.cpy 9),
   oM 71 10,
   oM 72 13,
   oB 73 .add 71 72,
   oM 74 15,
   o1 75 (.cv .u32 (.t 74)),
   oM 76 15,
   o1 77 (.bin .shr (.t 76) (.c (.int .u64 32))),
   o1 78 (.ixo 70 9 (.t 73) 1),
   oN (.st 78 9 1 (.t 75)),
   oM 12 77]))))
  (.region false [o1 79 (.bin .add (.t 50) (.c (.int .i64 1))),
   oM 50 79])))))))
  (.region false [o1 80 (.cpy 9),
   oM 81 10,
   oM 82 8,
   o1 83 (.len (.t 82)),
   oB 84 .add 81 83,
   oM 85 12,
   o1 86 (.cv .u32 (.t 85)),
   o1 87 (.ixo 80 9 (.t 84) 1),
   oN (.st 87 9 1 (.t 86))])))))
  (.region false [o1 88 (.bin .add (.t 43) (.c (.int .i64 1))),
   oM 43 88])))))))
  (.seq (.region false [oM 89 5,
   oM 90 7,
   o1 91 (.eqb true (.t 89) (.t 90)),
   o1 92 (.frz 9),
   oC 93 133 [91, 92],
   oN (.st 4 4 2 (.t 93))])
  (.ret)))))))⟩
def Try.r113 : List (Nat × Nat) := [(60, 9), (64, 9), (70, 9), (78, 9), (80, 9), (87, 9)]
theorem Try.i113_ok : fnOk Try.prog Try.r113 Try.f113 Try.i113 = true := by kernel_rfl
def Try.i114 : IFunc := ⟨2, 25, [.cell 4 2 false],
  .seq (.region false [o1 2 (.box (.t 0) []),
   o1 3 (.box (.t 1) []),
   o1 4 (.new [.bool false, .sl 0 []] [])])
  (.seq (.region false [o1 10 (.ld 2 2 2 false),
   oC 11 122 [10],
   oM 9 11,
   o1 12 (.ext (.t 9) 0),
   o1 13 (.ext (.t 9) 1),
   oM 5 12,
   oM 6 13])
  (.seq (.region false [o1 15 (.ld 3 3 2 false),
   oC 16 122 [15],
   oM 14 16,
   o1 17 (.ext (.t 14) 0),
   o1 18 (.ext (.t 14) 1),
   oM 7 17,
   oM 8 18])
  (.seq (.region false [oM 19 5,
   oM 20 6,
   oM 21 7,
   o1 22 (.un .not (.t 21)),
   oM 23 8,
   oC 24 148 [19, 20, 22, 23],
   oN (.st 4 4 2 (.t 24))])
  (.ret))))⟩
def Try.r114 : List (Nat × Nat) := []
theorem Try.i114_ok : fnOk Try.prog Try.r114 Try.f114 Try.i114 = true := by kernel_rfl
def Try.i115 : IFunc := ⟨1, 20, [.tmp 2],
  .seq (.region false [o1 2 (.nlo 2)])
  (.seq (.seq (.region false [oM 4 0,
   o1 5 (.len (.t 4)),
   oM 3 5])
  (.seq (.region false [oM 6 3,
   o1 7 (.bin .gtr (.t 6) (.c (.int .i64 0))),
   oM 8 7,
   oG 9 (.mov (.t 0)) 8 true,
   oG 10 (.mov (.t 3)) 8 true,
   oG 11 (.bin .sub (.t 10) (.c (.int .i64 1))) 8 true,
   oG 12 (.ixa 9 (.t 11) 2) 8 true,
   oG 13 (.ld 12 12 2 false) 8 true,
   oG 14 (.call 73 [.t 13]) 8 true,
   oG 15 (.bin .lss (.t 14) (.c (.int .i64 0))) 8 true,
   o1 16 (.pick (.t 8) (.t 15) (.c (.bool false)))])
  (.cond (.t 16) (.seq (.region false [oM 17 0,
   o1 18 (.clo 127 [.t 17]),
   o1 2 (.tra 18)])
  (.ret))
  (.skip))))
  (.seq (.region false [oM 19 0,
   o1 2 (.tra 19)])
  (.ret)))⟩
def Try.r115 : List (Nat × Nat) := []
theorem Try.i115_ok : fnOk Try.prog Try.r115 Try.f115 Try.i115 = true := by kernel_rfl
def Try.i116 : IFunc := ⟨2, 103, [.tmp 4],
  .seq (.region false [o1 4 (.nlo 2)])
  (.seq (.region false [oM 13 0,
   o1 14 (.clo 92 [.t 13]),
   ⟨some 5, .tra 14, none, [21, 35, 41, 43, 48, 50, 52, 56, 82, 86, 90, 99]⟩])
  (.seq (.region false [oM 15 1,
   oM 16 1,
   o1 17 (.len (.t 16)),
   o1 18 (.bin .sub (.t 17) (.c (.int .i64 1))),
   o1 19 (.ixa 15 (.t 18) 2),
   o1 20 (.ld 19 19 2 false),
   o1 6 (.new [.bool false, .sl 0 []] []),
   oN (.st 6 6 2 (.t 20))])
  (.seq (.region false [o1 21 (.cpy 5),
   o1 22 (.lno 21 5),
   oM 23 1,
   o1 24 (.len (.t 23)),
   oB 25 .sub 22 24,
   o1 26 (.bin .add (.t 25) (.c (.int .i64 1))),
   o1 27 (.mks [.bool false, .sl 0 []] (.t 26)),
   ⟨some 7, .tra 27, none, [28, 58, 63, 65, 67, 71, 73, 76]⟩])
  (.seq (.seq (.region false [o1 28 (.cpy 7),
   o1 29 (.lno 28 7),
   o1 30 (.bin .sub (.t 29) (.c (.int .i64 1))),
   oM 8 30])
  (.block 0 (.loop (.seq (.seq (.region false [oM 31 8,
   o1 32 (.bin .geq (.t 31) (.c (.int .i64 0)))])
  (.cond (.t 32) (.skip)
  (.exit 0)))
  (.seq (.block 1 (.seq (.region false [o1 35 (.cpy 5),
   oM 36 8,
   oM 37 1,
   o1 38 (.len (.t 37)),
   oB 39 .add 36 38,
   o1 40 (.bin .sub (.t 39) (.c (.int .i64 1))),
   o1 41 (.ixo 35 5 (.t 40) 2),
   o1 42 (.ld 41 5 2 false),
   o1 9 (.new [.bool false, .sl 0 []] []),
   oN (.st 9 9 2 (.t 42))])
  (.seq (.seq (.region false [o1 43 (.cpy 5),
   o1 44 (.lno 43 5),
   o1 45 (.mov (.c (.int .i64 0)))])
  (.block 2 (.loop (.seq (.region false [oB 46 .lss 45 44])
  (.seq (.cond (.t 46) (.skip)
  (.exit 2))
  (.seq (.block 3 (.seq (.region false [oM 47 45,
   oM 10 47])
  (.region true [o1 48 (.cpy 5),
   oM 49 10,
   o1 50 (.cpy 5),
   oM 51 10,
   o1 52 (.ixo 50 5 (.t 51) 2),
   o1 53 (.ld 52 5 2 false),
   o1 54 (.ld 6 6 2 false),
   oC 55 113 [53, 54],
   o1 56 (.ixo 48 5 (.t 49) 2),
   oN (.st 56 5 2 (.t 55))])))
  (.region false [o1 57 (.bin .add (.t 45) (.c (.int .i64 1))),
   oM 45 57])))))))
  (.seq (.seq (.region false [o1 58 (.cpy 7),
   o1 59 (.lno 58 7),
   o1 60 (.mov (.c (.int .i64 0)))])
  (.block 4 (.loop (.seq (.region false [oB 61 .lss 60 59])
  (.seq (.cond (.t 61) (.skip)
  (.exit 4))
  (.seq (.block 5 (.seq (.region false [oM 62 60,
   oM 11 62])
  (.region true [o1 63 (.cpy 7),
   oM 64 11,
   o1 65 (.cpy 7),
   oM 66 11,
   o1 67 (.ixo 65 7 (.t 66) 2),
   o1 68 (.ld 67 7 2 false),
   o1 69 (.ld 6 6 2 false),
   oC 70 113 [68, 69],
   o1 71 (.ixo 63 7 (.t 64) 2),
   oN (.st 71 7 2 (.t 70))])))
  (.region false [o1 72 (.bin .add (.t 60) (.c (.int .i64 1))),
   oM 60 72])))))))
  (.seq (.region false [o1 73 (.cpy 7),
   oM 74 8,
   o1 75 (.ld 9 9 2 false),
   o1 76 (.ixo 73 7 (.t 74) 2),
   oN (.st 76 7 2 (.t 75))])
  (.seq (.region false [oM 77 1,
   o1 78 (.len (.t 77)),
   o1 79 (.mov (.c (.int .i64 0)))])
  (.block 6 (.loop (.seq (.region false [oB 80 .lss 79 78])
  (.seq (.cond (.t 80) (.skip)
  (.exit 6))
  (.seq (.block 7 (.seq (.region false [oM 81 79,
   oM 12 81])
  (.region true [o1 82 (.cpy 5),
   oM 83 8,
   oM 84 12,
   oB 85 .add 83 84,
   o1 86 (.cpy 5),
   oM 87 8,
   oM 88 12,
   oB 89 .add 87 88,
   o1 90 (.ixo 86 5 (.t 89) 2),
   o1 91 (.ld 90 5 2 false),
   o1 92 (.ld 9 9 2 false),
   oM 93 1,
   oM 94 12,
   o1 95 (.ixa 93 (.t 94) 2),
   o1 96 (.ld 95 95 2 false),
   oC 97 113 [92, 96],
   oC 98 114 [91, 97],
   o1 99 (.ixo 82 5 (.t 85) 2),
   oN (.st 99 5 2 (.t 98))])))
  (.region false [o1 100 (.bin .add (.t 79) (.c (.int .i64 1))),
   oM 79 100]))))))))))))
  (.region false [oM 33 8,
   o1 34 (.bin .sub (.t 33) (.c (.int .i64 1))),
   oM 8 34]))))))
  (.seq (.region false [o1 101 (.frz 7),
   o1 102 (.clo 86 [.t 101]),
   o1 4 (.tra 102)])
  (.ret))))))⟩
def Try.r116 : List (Nat × Nat) := [(21, 5), (28, 7), (35, 5), (41, 5), (43, 5), (48, 5), (50, 5), (52, 5), (56, 5), (58, 7), (63, 7), (65, 7), (67, 7), (71, 7), (73, 7), (76, 7), (82, 5), (86, 5), (90, 5), (99, 5)]
theorem Try.i116_ok : fnOk Try.prog Try.r116 Try.f116 Try.i116 = true := by kernel_rfl
def Try.i117 : IFunc := ⟨1, 9, [.cell 2 2 false],
  .seq (.region false [o1 1 (.box (.t 0) [3, 6]),
   o1 2 (.new [.bool false, .sl 0 []] [])])
  (.seq (.region false [o1 3 (.adr 1 1 0),
   o1 4 (.ld 3 1 1 true),
   o1 5 (.un .not (.t 4)),
   o1 6 (.adr 1 1 1),
   o1 7 (.ld 6 1 1 true),
   oC 8 106 [5, 7],
   oN (.st 2 2 2 (.t 8))])
  (.ret))⟩
def Try.r117 : List (Nat × Nat) := [(3, 1), (6, 1)]
theorem Try.i117_ok : fnOk Try.prog Try.r117 Try.f117 Try.i117 = true := by kernel_rfl
def Try.i118 : IFunc := ⟨2, 9, [.cell 4 2 false],
  .seq (.region false [o1 2 (.box (.t 0) []),
   o1 3 (.box (.t 1) []),
   o1 4 (.new [.bool false, .sl 0 []] [])])
  (.seq (.region true [o1 5 (.ld 2 2 2 false),
   o1 6 (.ld 3 3 2 false),
   oC 7 117 [6],
   oC 8 104 [5, 7],
   oN (.st 4 4 2 (.t 8))])
  (.ret))⟩
def Try.r118 : List (Nat × Nat) := []
theorem Try.i118_ok : fnOk Try.prog Try.r118 Try.f118 Try.i118 = true := by kernel_rfl
def Try.i119 : IFunc := ⟨1, 19, [.tmp 2],
  .seq (.region false [o1 2 (.nlo 2)])
  (.seq (.seq (.region false [oM 3 0,
   o1 4 (.len (.t 3)),
   o1 5 (.bin .gtr (.t 4) (.c (.int .i64 0))),
   oM 6 5,
   oG 7 (.mov (.t 0)) 6 true,
   oG 8 (.mov (.t 0)) 6 true,
   oG 9 (.len (.t 8)) 6 true,
   oG 10 (.bin .sub (.t 9) (.c (.int .i64 1))) 6 true,
   oG 11 (.ixa 7 (.t 10) 2) 6 true,
   oG 12 (.ld 11 11 2 false) 6 true,
   oG 13 (.call 81 [.t 12]) 6 true,
   oG 14 (.bin .lss (.t 13) (.c (.int .i64 0))) 6 true,
   o1 15 (.pick (.t 6) (.t 14) (.c (.bool false)))])
  (.cond (.t 15) (.seq (.region false [oM 16 0,
   o1 17 (.clo 129 [.t 16]),
   o1 2 (.tra 17)])
  (.ret))
  (.skip)))
  (.seq (.region false [oM 18 0,
   o1 2 (.tra 18)])
  (.ret)))⟩
def Try.r119 : List (Nat × Nat) := []
theorem Try.i119_ok : fnOk Try.prog Try.r119 Try.f119 Try.i119 = true := by kernel_rfl
def Try.i120 : IFunc := ⟨2, 103, [.tmp 4],
  .seq (.region false [o1 4 (.nlo 2)])
  (.seq (.region false [oM 15 0,
   oC 16 43 [15],
   oM 17 1,
   oC 18 43 [17],
   oM 5 16,
   oM 6 18])
  (.seq (.region false [oM 19 6,
   oM 20 6,
   o1 21 (.len (.t 20)),
   o1 22 (.bin .sub (.t 21) (.c (.int .i64 1))),
   o1 23 (.ixa 19 (.t 22) 2),
   o1 24 (.ld 23 23 2 false),
   o1 7 (.new [.bool false, .sl 0 []] []),
   oN (.st 7 7 2 (.t 24))])
  (.seq (.region false [oM 25 5,
   o1 26 (.len (.t 25)),
   oM 27 6,
   o1 28 (.len (.t 27)),
   oB 29 .sub 26 28,
   o1 30 (.bin .add (.t 29) (.c (.int .i64 1))),
   o1 31 (.mks [.bool false, .sl 0 []] (.t 30)),
   ⟨some 8, .tra 31, none, [49, 54, 56, 58, 62, 63, 66]⟩])
  (.seq (.block 0 (.loop (.seq (.seq (.region false [oM 32 5,
   o1 33 (.len (.t 32)),
   oM 34 6,
   o1 35 (.len (.t 34)),
   oB 36 .geq 33 35])
  (.cond (.t 36) (.skip)
  (.exit 0)))
  (.block 1 (.seq (.region false [oM 37 5,
   oM 38 5,
   o1 39 (.len (.t 38)),
   o1 40 (.bin .sub (.t 39) (.c (.int .i64 1))),
   o1 41 (.ixa 37 (.t 40) 2),
   o1 42 (.ld 41 41 2 false),
   o1 9 (.new [.bool false, .sl 0 []] []),
   oN (.st 9 9 2 (.t 42))])
  (.seq (.region false [oM 43 5,
   o1 44 (.len (.t 43)),
   oM 45 6,
   o1 46 (.len (.t 45)),
   oB 47 .sub 44 46,
   oM 10 47])
  (.seq (.seq (.region false [o1 11 (.mov (.c (.int .i64 0)))])
  (.block 2 (.loop (.seq (.seq (.region false [oM 48 11,
   o1 49 (.cpy 8),
   o1 50 (.lno 49 8),
   oB 51 .lss 48 50])
  (.cond (.t 51) (.skip)
  (.exit 2)))
  (.seq (.block 3 (.region true [o1 54 (.cpy 8),
   oM 55 11,
   o1 56 (.cpy 8),
   oM 57 11,
   o1 58 (.ixo 56 8 (.t 57) 2),
   o1 59 (.ld 58 8 2 false),
   o1 60 (.ld 7 7 2 false),
   oC 61 105 [59, 60],
   o1 62 (.ixo 54 8 (.t 55) 2),
   oN (.st 62 8 2 (.t 61))]))
  (.region false [oM 52 11,
   o1 53 (.bin .add (.t 52) (.c (.int .i64 1))),
   oM 11 53]))))))
  (.seq (.region false [o1 63 (.cpy 8),
   oM 64 10,
   o1 65 (.ld 9 9 2 false),
   o1 66 (.ixo 63 8 (.t 64) 2),
   oN (.st 66 8 2 (.t 65))])
  (.seq (.region false [o1 12 (.nlo 2)])
  (.seq (.seq (.region false [o1 13 (.mov (.c (.int .i64 0)))])
  (.block 4 (.loop (.seq (.seq (.region false [oM 67 13,
   oM 68 5,
   o1 69 (.len (.t 68)),
   o1 70 (.bin .sub (.t 69) (.c (.int .i64 1))),
   oB 71 .lss 67 70])
  (.cond (.t 71) (.skip)
  (.exit 4)))
  (.seq (.block 5 (.seq (.region true [o1 74 (.ld 7 7 2 false),
   oM 75 5,
   oM 76 13,
   o1 77 (.ixa 75 (.t 76) 2),
   o1 78 (.ld 77 77 2 false),
   oC 79 105 [74, 78],
   o1 14 (.new [.bool false, .sl 0 []] []),
   oN (.st 14 14 2 (.t 79))])
  (.seq (.seq (.region false [oM 80 13,
   oM 81 10,
   oB 82 .geq 80 81])
  (.cond (.t 82) (.region true [o1 83 (.ld 14 14 2 false),
   o1 84 (.ld 9 9 2 false),
   oM 85 6,
   oM 86 13,
   oM 87 10,
   oB 88 .sub 86 87,
   o1 89 (.ixa 85 (.t 88) 2),
   o1 90 (.ld 89 89 2 false),
   oC 91 105 [84, 90],
   oC 92 118 [83, 91],
   oN (.st 14 14 2 (.t 92))])
  (.skip)))
  (.region false [o1 93 (.tra 12),
   o1 94 (.ld 14 14 2 false),
   o1 95 (.bls 1 [.bool false, .sl 0 []] [(0, 2, .t 94)]),
   o1 96 (.apd true (.t 93) (.t 95) 2),
   o1 12 (.tra 96)]))))
  (.region false [oM 72 13,
   o1 73 (.bin .add (.t 72) (.c (.int .i64 1))),
   oM 13 73]))))))
  (.region false [o1 97 (.frz 12),
   oC 98 43 [97],
   oM 5 98])))))))))))
  (.seq (.region false [o1 99 (.frz 8),
   oC 100 43 [99],
   oC 101 91 [100],
   o1 102 (.clo 119 [.t 101]),
   o1 4 (.tra 102)])
  (.ret))))))⟩
def Try.r120 : List (Nat × Nat) := [(49, 8), (54, 8), (56, 8), (58, 8), (62, 8), (63, 8), (66, 8)]
theorem Try.i120_ok : fnOk Try.prog Try.r120 Try.f120 Try.i120 = true := by kernel_rfl
def Try.i121 : IFunc := ⟨2, 24, [.cell 4 2 false],
  .seq (.region false [o1 2 (.box (.t 0) []),
   o1 3 (.box (.t 1) []),
   o1 4 (.new [.bool false, .sl 0 []] [])])
  (.seq (.region false [o1 10 (.ld 2 2 2 false),
   oC 11 122 [10],
   oM 9 11,
   o1 12 (.ext (.t 9) 0),
   o1 13 (.ext (.t 9) 1),
   oM 5 12,
   oM 6 13])
  (.seq (.region false [o1 15 (.ld 3 3 2 false),
   oC 16 122 [15],
   oM 14 16,
   o1 17 (.ext (.t 14) 0),
   o1 18 (.ext (.t 14) 1),
   oM 7 17,
   oM 8 18])
  (.seq (.region false [oM 19 5,
   oM 20 6,
   oM 21 7,
   oM 22 8,
   oC 23 148 [19, 20, 21, 22],
   oN (.st 4 4 2 (.t 23))])
  (.ret))))⟩
def Try.r121 : List (Nat × Nat) := []
theorem Try.i121_ok : fnOk Try.prog Try.r121 Try.f121 Try.i121 = true := by kernel_rfl
def Try.i122 : IFunc := ⟨1, 31, [.tmp 2, .tmp 3],
  .seq (.region false [o1 1 (.box (.t 0) [5, 11, 21, 27]),
   o1 2 (.mov (.c (.bool false))),
   o1 3 (.nlo 1)])
  (.seq (.region false [o1 5 (.adr 1 1 1),
   o1 6 (.ld 5 1 1 true),
   o1 7 (.len (.t 6)),
   oM 4 7])
  (.seq (.block 0 (.loop (.seq (.seq (.region false [oM 8 4,
   o1 9 (.bin .gtr (.t 8) (.c (.int .i64 0))),
   oM 10 9,
   oG 11 (.adr 1 1 1) 10 true,
   oG 12 (.ld 11 1 1 true) 10 true,
   oG 13 (.mov (.t 4)) 10 true,
   oG 14 (.bin .sub (.t 13) (.c (.int .i64 1))) 10 true,
   oG 15 (.ixa 12 (.t 14) 1) 10 true,
   oG 16 (.ld 15 15 1 true) 10 true,
   oG 17 (.bin .eql (.t 16) (.c (.int .u32 0))) 10 true,
   o1 18 (.pick (.t 10) (.t 17) (.c (.bool false)))])
  (.cond (.t 18) (.skip)
  (.exit 0)))
  (.block 1 (.region false [oM 19 4,
   o1 20 (.bin .sub (.t 19) (.c (.int .i64 1))),
   oM 4 20])))))
  (.seq (.region true [o1 21 (.adr 1 1 0),
   o1 22 (.ld 21 1 1 true),
   oM 23 22,
   oG 24 (.mov (.t 4)) 23 true,
   oG 25 (.bin .gtr (.t 24) (.c (.int .i64 0))) 23 true,
   o1 26 (.pick (.t 23) (.t 25) (.c (.bool false))),
   o1 27 (.adr 1 1 1),
   o1 28 (.ld 27 1 1 true),
   oM 29 4,
   o1 30 (.sli (.t 28) none (some (.t 29)) none 1),
   oM 2 26,
   o1 3 (.tra 30)])
  (.ret))))⟩
def Try.r122 : List (Nat × Nat) := [(5, 1), (11, 1), (21, 1), (27, 1)]
theorem Try.i122_ok : fnOk Try.prog Try.r122 Try.f122 Try.i122 = true := by kernel_rfl
def text_14a5d850_0 : List UInt8 := 0 :: 1 :: 2 :: 2 :: 3 :: 3 :: 3 :: 3 :: 4 :: 4 :: 4 :: 4 :: 4 :: 4 :: 4 :: 4 :: 5 :: 5 :: 5 :: 5 :: 5 :: 5 :: 5 :: 5 :: 5 :: 5 :: 5 :: 5 :: 5 :: 5 :: 5 :: 5 :: 6 :: 6 :: 6 :: 6 :: 6 :: 6 :: 6 :: 6 :: []
def text_14a5d850_1 : List UInt8 := 6 :: 6 :: 6 :: 6 :: 6 :: 6 :: 6 :: 6 :: 6 :: 6 :: 6 :: 6 :: 6 :: 6 :: 6 :: 6 :: 6 :: 6 :: 6 :: 6 :: 6 :: 6 :: 6 :: 6 :: 7 :: 7 :: 7 :: 7 :: 7 :: 7 :: 7 :: 7 :: 7 :: 7 :: 7 :: 7 :: 7 :: 7 :: 7 :: 7 :: []
def text_14a5d850_2 : List UInt8 := 7 :: 7 :: 7 :: 7 :: 7 :: 7 :: 7 :: 7 :: 7 :: 7 :: 7 :: 7 :: 7 :: 7 :: 7 :: 7 :: 7 :: 7 :: 7 :: 7 :: 7 :: 7 :: 7 :: 7 :: 7 :: 7 :: 7 :: 7 :: 7 :: 7 :: 7 :: 7 :: 7 :: 7 :: 7 :: 7 :: 7 :: 7 :: 7 :: 7 :: []
def text_14a5d850_3 : List UInt8 := 7 :: 7 :: 7 :: 7 :: 7 :: 7 :: 7 :: 7 :: 8 :: 8 :: 8 :: 8 :: 8 :: 8 :: 8 :: 8 :: 8 :: 8 :: 8 :: 8 :: 8 :: 8 :: 8 :: 8 :: 8 :: 8 :: 8 :: 8 :: 8 :: 8 :: 8 :: 8 :: 8 :: 8 :: 8 :: 8 :: 8 :: 8 :: 8 :: 8 :: []
def text_14a5d850_4 : List UInt8 := 8 :: 8 :: 8 :: 8 :: 8 :: 8 :: 8 :: 8 :: 8 :: 8 :: 8 :: 8 :: 8 :: 8 :: 8 :: 8 :: 8 :: 8 :: 8 :: 8 :: 8 :: 8 :: 8 :: 8 :: 8 :: 8 :: 8 :: 8 :: 8 :: 8 :: 8 :: 8 :: 8 :: 8 :: 8 :: 8 :: 8 :: 8 :: 8 :: 8 :: []
def text_14a5d850_5 : List UInt8 := 8 :: 8 :: 8 :: 8 :: 8 :: 8 :: 8 :: 8 :: 8 :: 8 :: 8 :: 8 :: 8 :: 8 :: 8 :: 8 :: 8 :: 8 :: 8 :: 8 :: 8 :: 8 :: 8 :: 8 :: 8 :: 8 :: 8 :: 8 :: 8 :: 8 :: 8 :: 8 :: 8 :: 8 :: 8 :: 8 :: 8 :: 8 :: 8 :: 8 :: []
def text_14a5d850_6 : List UInt8 := 8 :: 8 :: 8 :: 8 :: 8 :: 8 :: 8 :: 8 :: 8 :: 8 :: 8 :: 8 :: 8 :: 8 :: 8 :: 8 :: []
def text_14a5d850 : ByteArray := ⟨(text_14a5d850_0 ++ text_14a5d850_1 ++ text_14a5d850_2 ++ text_14a5d850_3 ++ text_14a5d850_4 ++ text_14a5d850_5 ++ text_14a5d850_6).toArray⟩
def Try.i123 : IFunc := ⟨1, 19, [.tmp 2],
  .seq (.region false [o1 2 (.mov (.c (.int .i64 0)))])
  (.seq (.seq (.region false [oM 3 0,
   o1 4 (.bin .geq (.t 3) (.c (.int .u32 65536)))])
  (.cond (.t 4) (.seq (.region false [oM 5 0,
   o1 6 (.bin .shr (.t 5) (.c (.int .u64 16))),
   oM 0 6])
  (.region false [o1 2 (.mov (.c (.int .i64 16)))]))
  (.skip)))
  (.seq (.seq (.region false [oM 7 0,
   o1 8 (.bin .geq (.t 7) (.c (.int .u32 256)))])
  (.cond (.t 8) (.seq (.region false [oM 9 0,
   o1 10 (.bin .shr (.t 9) (.c (.int .u64 8))),
   oM 0 10])
  (.region false [oM 11 2,
   o1 12 (.bin .add (.t 11) (.c (.int .i64 8))),
   oM 2 12]))
  (.skip)))
  (.seq (.region false [oM 13 2,
   oM 14 0,
   o1 15 (.cv .u8 (.t 14)),
   o1 16 (.six (.c (.str text_14a5d850)) (.t 15)),
   o1 17 (.cv .i64 (.t 16)),
   oB 18 .add 13 17,
   oM 2 18])
  (.ret))))⟩
def Try.r123 : List (Nat × Nat) := []
theorem Try.i123_ok : fnOk Try.prog Try.r123 Try.f123 Try.i123 = true := by kernel_rfl
def Try.i124 : IFunc := ⟨2, 67, [.cell 4 2 false],
  .seq (.region false [o1 2 (.box (.t 0) []),
   o1 4 (.new [.bool false, .sl 0 []] [])])
  (.seq (.region false [o1 14 (.ld 2 2 2 false),
   oC 15 122 [14],
   oM 13 15,
   o1 16 (.ext (.t 13) 0),
   o1 17 (.ext (.t 13) 1),
   oM 5 16,
   oM 6 17])
  (.seq (.seq (.region false [oM 18 6,
   o1 19 (.len (.t 18)),
   o1 20 (.bin .eql (.t 19) (.c (.int .i64 0)))])
  (.cond (.t 20) (.seq (.region false [o1 21 (.bld [.bool false, .sl 0 []] []),
   oN (.st 4 4 2 (.t 21))])
  (.ret))
  (.skip)))
  (.seq (.region false [oM 22 1,
   o1 23 (.bin .quo (.t 22) (.c (.int .i64 32))),
   oM 24 1,
   o1 25 (.bin .rem (.t 24) (.c (.int .i64 32))),
   o1 26 (.cv .u64 (.t 25)),
   oM 7 23,
   oM 8 26])
  (.seq (.region false [oM 27 6,
   o1 28 (.len (.t 27)),
   oM 29 7,
   oB 30 .add 28 29,
   o1 31 (.bin .add (.t 30) (.c (.int .i64 1))),
   o1 32 (.mks [.int .u32 0] (.t 31)),
   ⟨some 9, .tra 32, none, [44, 48, 53, 54, 62]⟩])
  (.seq (.seq (.region false [oM 33 6,
   o1 34 (.len (.t 33)),
   o1 35 (.mov (.c (.int .i64 0)))])
  (.block 0 (.loop (.seq (.region false [oB 36 .lss 35 34])
  (.seq (.cond (.t 36) (.skip)
  (.exit 0))
  (.seq (.block 1 (.seq (.region false [oM 37 35,
   o1 38 (.ixa 33 (.t 35) 1),
   o1 39 (.ld 38 38 1 true),
   oM 10 37,
   oM 11 39])
  (.seq (.region false [oM 40 11,
   o1 41 (.cv .u64 (.t 40)),
   oM 42 8,
   oB 43 .shl 41 42,
   oM 12 43])
  (.seq (.region false [o1 44 (.cpy 9),
   oM 45 10,
   oM 46 7,
   oB 47 .add 45 46,
   o1 48 (.ixo 44 9 (.t 47) 1),
   o1 49 (.ld 48 9 1 true),
   oM 50 12,
   o1 51 (.cv .u32 (.t 50)),
   oB 52 .or 49 51,
   o1 53 (.ixo 44 9 (.t 47) 1),
   oN (.st 53 9 1 (.t 52))])
  (.region false [o1 54 (.cpy 9),
   oM 55 10,
   oM 56 7,
   oB 57 .add 55 56,
   o1 58 (.bin .add (.t 57) (.c (.int .i64 1))),
   oM 59 12,
   o1 60 (.bin .shr (.t 59) (.c (.int .u64 32))),
   o1 61 (.cv .u32 (.t 60)),
   o1 62 (.ixo 54 9 (.t 58) 1),
   oN (.st 62 9 1 (.t 61))])))))
  (.region false [o1 63 (.bin .add (.t 35) (.c (.int .i64 1))),
   oM 35 63])))))))
  (.seq (.region false [oM 64 5,
   o1 65 (.frz 9),
   oC 66 133 [64, 65],
   oN (.st 4 4 2 (.t 66))])
  (.ret)))))))⟩
def Try.r124 : List (Nat × Nat) := [(44, 9), (48, 9), (53, 9), (54, 9), (62, 9)]
theorem Try.i124_ok : fnOk Try.prog Try.r124 Try.f124 Try.i124 = true := by kernel_rfl
def Try.i125 : IFunc := ⟨1, 22, [.tmp 2],
  .seq (.region false [o1 2 (.nlo 1)])
  (.seq (.region false [oM 4 0,
   o1 5 (.len (.t 4)),
   oM 3 5])
  (.seq (.block 0 (.loop (.seq (.seq (.region false [oM 6 3,
   o1 7 (.bin .gtr (.t 6) (.c (.int .i64 0))),
   oM 8 7,
   oG 9 (.mov (.t 0)) 8 true,
   oG 10 (.mov (.t 3)) 8 true,
   oG 11 (.bin .sub (.t 10) (.c (.int .i64 1))) 8 true,
   oG 12 (.ixa 9 (.t 11) 1) 8 true,
   oG 13 (.ld 12 12 1 true) 8 true,
   oG 14 (.bin .eql (.t 13) (.c (.int .u32 0))) 8 true,
   o1 15 (.pick (.t 8) (.t 14) (.c (.bool false)))])
  (.cond (.t 15) (.skip)
  (.exit 0)))
  (.block 1 (.region false [oM 16 3,
   o1 17 (.bin .sub (.t 16) (.c (.int .i64 1))),
   oM 3 17])))))
  (.seq (.region false [oM 18 0,
   oM 19 3,
   o1 20 (.sli (.t 18) none (some (.t 19)) none 1),
   o1 21 (.apd true (.c (.nil)) (.t 20) 1),
   o1 2 (.tra 21)])
  (.ret))))⟩
def Try.r125 : List (Nat × Nat) := []
theorem Try.i125_ok : fnOk Try.prog Try.r125 Try.f125 Try.i125 = true := by kernel_rfl
def Try.i126 : IFunc := ⟨2, 51, [.cell 4 2 false],
  .seq (.region false [o1 2 (.box (.t 0) [17, 44]),
   o1 4 (.new [.bool false, .sl 0 []] [])])
  (.seq (.region false [oM 11 1,
   o1 12 (.bin .quo (.t 11) (.c (.int .i64 32))),
   o1 13 (.mks [.int .u32 0] (.t 12)),
   o1 5 (.tra 13)])
  (.seq (.region false [o1 6 (.mov (.c (.int .u32 0)))])
  (.seq (.region false [oM 14 1,
   o1 15 (.bin .rem (.t 14) (.c (.int .i64 32))),
   o1 16 (.cv .u64 (.t 15)),
   oM 7 16])
  (.seq (.region false [o1 17 (.adr 2 2 1),
   o1 18 (.ld 17 2 1 true),
   oC 19 125 [18],
   oM 8 19])
  (.seq (.seq (.region false [o1 9 (.mov (.c (.int .i64 0)))])
  (.block 0 (.loop (.seq (.seq (.region false [oM 20 9,
   oM 21 8,
   o1 22 (.len (.t 21)),
   oB 23 .lss 20 22])
  (.cond (.t 23) (.skip)
  (.exit 0)))
  (.seq (.block 1 (.seq (.region false [oM 26 8,
   oM 27 9,
   o1 28 (.ixa 26 (.t 27) 1),
   o1 29 (.ld 28 28 1 true),
   o1 30 (.cv .u64 (.t 29)),
   oM 31 7,
   oB 32 .shl 30 31,
   oM 33 6,
   o1 34 (.cv .u64 (.t 33)),
   oB 35 .or 32 34,
   oM 10 35])
  (.seq (.region false [o1 36 (.tra 5),
   oM 37 10,
   o1 38 (.cv .u32 (.t 37)),
   o1 39 (.bls 1 [.int .u32 0] [(0, 1, .t 38)]),
   o1 40 (.apd true (.t 36) (.t 39) 1),
   o1 5 (.tra 40)])
  (.region false [oM 41 10,
   o1 42 (.bin .shr (.t 41) (.c (.int .u64 32))),
   o1 43 (.cv .u32 (.t 42)),
   oM 6 43]))))
  (.region false [oM 24 9,
   o1 25 (.bin .add (.t 24) (.c (.int .i64 1))),
   oM 9 25]))))))
  (.seq (.region true [o1 44 (.adr 2 2 0),
   o1 45 (.ld 44 2 1 true),
   o1 46 (.tra 5),
   oM 47 6,
   o1 48 (.bls 1 [.int .u32 0] [(0, 1, .t 47)]),
   o1 49 (.apd false (.t 46) (.t 48) 1),
   oC 50 106 [45, 49],
   oN (.st 4 4 2 (.t 50))])
  (.ret)))))))⟩
def Try.r126 : List (Nat × Nat) := [(17, 2), (44, 2)]
theorem Try.i126_ok : fnOk Try.prog Try.r126 Try.f126 Try.i126 = true := by kernel_rfl
def Try.i127 : IFunc := ⟨1, 23, [.tmp 2],
  .seq (.region false [o1 2 (.nlo 2)])
  (.seq (.region false [oM 5 0,
   o1 6 (.len (.t 5)),
   o1 7 (.mks [.bool false, .sl 0 []] (.t 6)),
   ⟨some 3, .tra 7, none, [13, 20]⟩])
  (.seq (.seq (.region false [oM 8 0,
   o1 9 (.len (.t 8)),
   o1 10 (.mov (.c (.int .i64 0)))])
  (.block 0 (.loop (.seq (.region false [oB 11 .lss 10 9])
  (.seq (.cond (.t 11) (.skip)
  (.exit 0))
  (.seq (.block 1 (.seq (.region false [oM 12 10,
   oM 4 12])
  (.region false [o1 13 (.cpy 3),
   oM 14 4,
   oM 15 0,
   oM 16 4,
   o1 17 (.ixa 15 (.t 16) 2),
   o1 18 (.ld 17 17 2 false),
   oC 19 112 [18],
   o1 20 (.ixo 13 3 (.t 14) 2),
   oN (.st 20 3 2 (.t 19))])))
  (.region false [o1 21 (.bin .add (.t 10) (.c (.int .i64 1))),
   oM 10 21])))))))
  (.seq (.region false [o1 22 (.tra 3),
   o1 2 (.tra 22)])
  (.ret))))⟩
def Try.r127 : List (Nat × Nat) := [(13, 3), (20, 3)]
theorem Try.i127_ok : fnOk Try.prog Try.r127 Try.f127 Try.i127 = true := by kernel_rfl
def Try.i128 : IFunc := ⟨2, 14, [.cell 4 2 false],
  .seq (.region false [o1 4 (.new [.bool false, .sl 0 []] [])])
  (.seq (.seq (.region false [oM 5 1,
   oM 6 0,
   o1 7 (.len (.t 6)),
   oB 8 .lss 5 7])
  (.cond (.t 8) (.seq (.region false [oM 9 0,
   oM 10 1,
   o1 11 (.ixa 9 (.t 10) 2),
   o1 12 (.ld 11 11 2 false),
   oN (.st 4 4 2 (.t 12))])
  (.ret))
  (.skip)))
  (.seq (.region false [o1 13 (.bld [.bool false, .sl 0 []] []),
   oN (.st 4 4 2 (.t 13))])
  (.ret)))⟩
def Try.r128 : List (Nat × Nat) := []
theorem Try.i128_ok : fnOk Try.prog Try.r128 Try.f128 Try.i128 = true := by kernel_rfl
def Try.i129 : IFunc := ⟨1, 21, [.tmp 2],
  .seq (.region false [o1 2 (.nlo 2)])
  (.seq (.region false [o1 3 (.nlo 2)])
  (.seq (.seq (.region false [o1 4 (.mov (.c (.int .i64 0)))])
  (.block 0 (.loop (.seq (.seq (.region false [oM 5 4,
   oM 6 0,
   o1 7 (.len (.t 6)),
   oB 8 .lss 5 7])
  (.cond (.t 8) (.skip)
  (.exit 0)))
  (.seq (.block 1 (.region false [o1 11 (.tra 3),
   oM 12 0,
   oM 13 4,
   o1 14 (.ixa 12 (.t 13) 2),
   o1 15 (.ld 14 14 2 false),
   oC 16 117 [15],
   o1 17 (.bls 1 [.bool false, .sl 0 []] [(0, 2, .t 16)]),
   o1 18 (.apd true (.t 11) (.t 17) 2),
   o1 3 (.tra 18)]))
  (.region false [oM 9 4,
   o1 10 (.bin .add (.t 9) (.c (.int .i64 1))),
   oM 4 10]))))))
  (.seq (.region false [o1 19 (.frz 3),
   o1 20 (.clo 43 [.t 19]),
   o1 2 (.tra 20)])
  (.ret))))⟩
def Try.r129 : List (Nat × Nat) := []
theorem Try.i129_ok : fnOk Try.prog Try.r129 Try.f129 Try.i129 = true := by kernel_rfl
def Try.i130 : IFunc := ⟨2, 27, [.cell 4 2 false],
  .seq (.region false [o1 2 (.box (.t 0) [9]),
   o1 3 (.box (.t 1) [12]),
   o1 4 (.new [.bool false, .sl 0 []] [])])
  (.seq (.region true [o1 9 (.adr 2 2 1),
   o1 10 (.ld 9 2 1 true),
   o1 11 (.call 106 [.c (.bool false), .t 10]),
   o1 12 (.adr 3 3 1),
   o1 13 (.ld 12 3 1 true),
   o1 14 (.call 106 [.c (.bool false), .t 13]),
   o1 5 (.new [.bool false, .sl 0 []] []),
   o1 6 (.new [.bool false, .sl 0 []] []),
   oN (.st 5 5 2 (.t 11)),
   oN (.st 6 6 2 (.t 14))])
  (.seq (.block 0 (.loop (.seq (.seq (.region false [o1 15 (.ld 6 6 2 false),
   oC 16 81 [15],
   o1 17 (.bin .neq (.t 16) (.c (.int .i64 0)))])
  (.cond (.t 17) (.skip)
  (.exit 0)))
  (.block 1 (.seq (.region false [o1 19 (.ld 5 5 2 false),
   o1 20 (.ld 6 6 2 false),
   oC 21 131 [19, 20],
   oM 18 21,
   o1 22 (.ext (.t 18) 0),
   o1 23 (.ext (.t 18) 1),
   o1 7 (.new [.bool false, .sl 0 []] []),
   o1 8 (.new [.bool false, .sl 0 []] []),
   oN (.st 7 7 2 (.t 22)),
   oN (.st 8 8 2 (.t 23))])
  (.region true [o1 24 (.ld 6 6 2 false),
   o1 25 (.ld 8 8 2 false),
   oN (.st 5 5 2 (.t 24)),
   oN (.st 6 6 2 (.t 25))]))))))
  (.seq (.region false [o1 26 (.ld 5 5 2 false),
   oN (.st 4 4 2 (.t 26))])
  (.ret))))⟩
def Try.r130 : List (Nat × Nat) := [(9, 2), (12, 3)]
theorem Try.i130_ok : fnOk Try.prog Try.r130 Try.f130 Try.i130 = true := by kernel_rfl
def Try.i131 : IFunc := ⟨2, 29, [.cell 4 2 false, .cell 5 2 false],
  .seq (.region false [o1 2 (.box (.t 0) [9, 18, 25]),
   o1 3 (.box (.t 1) [12, 20]),
   o1 4 (.new [.bool false, .sl 0 []] []),
   o1 5 (.new [.bool false, .sl 0 []] [])])
  (.seq (.region true [o1 9 (.adr 2 2 1),
   o1 10 (.ld 9 2 1 true),
   oC 11 125 [10],
   o1 12 (.adr 3 3 1),
   o1 13 (.ld 12 3 1 true),
   oC 14 125 [13],
   oC 15 149 [11, 14],
   oM 8 15,
   o1 16 (.ext (.t 8) 0),
   o1 17 (.ext (.t 8) 1),
   oM 6 16,
   oM 7 17])
  (.seq (.region true [o1 18 (.adr 2 2 0),
   o1 19 (.ld 18 2 1 true),
   o1 20 (.adr 3 3 0),
   o1 21 (.ld 20 3 1 true),
   o1 22 (.eqb true (.t 19) (.t 21)),
   oM 23 6,
   oC 24 106 [22, 23],
   o1 25 (.adr 2 2 0),
   o1 26 (.ld 25 2 1 true),
   oM 27 7,
   oC 28 106 [26, 27],
   oN (.st 4 4 2 (.t 24)),
   oN (.st 5 5 2 (.t 28))])
  (.ret)))⟩
def Try.r131 : List (Nat × Nat) := [(9, 2), (12, 3), (18, 2), (20, 3), (25, 2)]
theorem Try.i131_ok : fnOk Try.prog Try.r131 Try.f131 Try.i131 = true := by kernel_rfl
def Try.i132 : IFunc := ⟨1, 14, [.cell 2 2 false],
  .seq (.region false [o1 1 (.box (.t 0) []),
   o1 2 (.new [.bool false, .sl 0 []] [])])
  (.seq (.region false [o1 6 (.ld 1 1 2 false),
   oC 7 122 [6],
   oM 5 7,
   o1 8 (.ext (.t 5) 0),
   o1 9 (.ext (.t 5) 1),
   oM 3 8,
   oM 4 9])
  (.seq (.region false [oM 10 3,
   oM 11 4,
   o1 12 (.apd false (.c (.nil)) (.t 11) 1),
   oC 13 133 [10, 12],
   oN (.st 2 2 2 (.t 13))])
  (.ret)))⟩
def Try.r132 : List (Nat × Nat) := []
theorem Try.i132_ok : fnOk Try.prog Try.r132 Try.f132 Try.i132 = true := by kernel_rfl
def Try.i133 : IFunc := ⟨2, 29, [.cell 4 2 false],
  .seq (.region false [o1 4 (.new [.bool false, .sl 0 []] [])])
  (.seq (.region false [oM 6 1,
   o1 7 (.len (.t 6)),
   oM 5 7])
  (.seq (.block 0 (.loop (.seq (.seq (.region false [oM 8 5,
   o1 9 (.bin .gtr (.t 8) (.c (.int .i64 0))),
   oM 10 9,
   oG 11 (.mov (.t 1)) 10 true,
   oG 12 (.mov (.t 5)) 10 true,
   oG 13 (.bin .sub (.t 12) (.c (.int .i64 1))) 10 true,
   oG 14 (.ixa 11 (.t 13) 1) 10 true,
   oG 15 (.ld 14 14 1 true) 10 true,
   oG 16 (.bin .eql (.t 15) (.c (.int .u32 0))) 10 true,
   o1 17 (.pick (.t 10) (.t 16) (.c (.bool false)))])
  (.cond (.t 17) (.skip)
  (.exit 0)))
  (.block 1 (.region false [oM 18 5,
   o1 19 (.bin .sub (.t 18) (.c (.int .i64 1))),
   oM 5 19])))))
  (.seq (.seq (.region false [oM 20 5,
   o1 21 (.bin .eql (.t 20) (.c (.int .i64 0)))])
  (.cond (.t 21) (.seq (.region false [o1 22 (.bld [.bool false, .sl 0 []] []),
   oN (.st 4 4 2 (.t 22))])
  (.ret))
  (.skip)))
  (.seq (.region false [oM 23 0,
   oM 24 1,
   oM 25 5,
   oM 26 5,
   o1 27 (.sli (.t 24) none (some (.t 25)) (some (.t 26)) 1),
   o1 28 (.bld [.bool false, .sl 0 []] [(0, 1, .t 23), (1, 1, .t 27)]),
   oN (.st 4 4 2 (.t 28))])
  (.ret)))))⟩
def Try.r133 : List (Nat × Nat) := []
theorem Try.i133_ok : fnOk Try.prog Try.r133 Try.f133 Try.i133 = true := by kernel_rfl
def Try.i134 : IFunc := ⟨2, 39, [.tmp 4],
  .seq (.region false [o1 2 (.box (.t 0) []),
   o1 3 (.box (.t 1) []),
   o1 4 (.mov (.c (.int .i64 0)))])
  (.seq (.region false [o1 10 (.ld 2 2 2 false),
   oC 11 122 [10],
   oM 9 11,
   o1 12 (.ext (.t 9) 0),
   o1 13 (.ext (.t 9) 1),
   oM 5 12,
   oM 6 13])
  (.seq (.region false [o1 15 (.ld 3 3 2 false),
   oC 16 122 [15],
   oM 14 16,
   o1 17 (.ext (.t 14) 0),
   o1 18 (.ext (.t 14) 1),
   oM 7 17,
   oM 8 18])
  (.seq (.block 0 (.seq (.region false [oM 20 5,
   oM 21 20,
   oG 22 (.mov (.t 7)) 21 true,
   oG 23 (.un .not (.t 22)) 21 true,
   o1 24 (.pick (.t 21) (.t 23) (.c (.bool false))),
   oM 19 24])
  (.cond (.t 19) (.seq (.region false [o1 4 (.mov (.c (.int .i64 (-1))))])
  (.ret))
  (.seq (.region false [oM 26 7,
   oM 27 26,
   oG 28 (.mov (.t 5)) 27 true,
   oG 29 (.un .not (.t 28)) 27 true,
   o1 30 (.pick (.t 27) (.t 29) (.c (.bool false))),
   oM 25 30])
  (.cond (.t 25) (.seq (.region false [o1 4 (.mov (.c (.int .i64 1)))])
  (.ret))
  (.seq (.region false [oM 32 5,
   oM 31 32])
  (.cond (.t 31) (.seq (.region false [oM 33 8,
   oM 34 6,
   oC 35 150 [33, 34],
   oM 4 35])
  (.ret))
  (.skip))))))))
  (.seq (.region false [oM 36 6,
   oM 37 8,
   oC 38 150 [36, 37],
   oM 4 38])
  (.ret)))))⟩
def Try.r134 : List (Nat × Nat) := []
theorem Try.i134_ok : fnOk Try.prog Try.r134 Try.f134 Try.i134 = true := by kernel_rfl
def Try.i135 : IFunc := ⟨2, 32, [.tmp 4],
  .seq (.region false [o1 2 (.box (.t 0) [20]),
   o1 3 (.box (.t 1) [23]),
   o1 4 (.mov (.c (.int .i64 0)))])
  (.seq (.region true [o1 8 (.ld 2 2 2 false),
   oC 9 81 [8],
   o1 10 (.ld 3 3 2 false),
   oC 11 81 [10],
   oM 5 9,
   oM 6 11])
  (.seq (.block 0 (.seq (.region false [oM 13 5,
   oM 14 6,
   oB 15 .lss 13 14,
   oM 12 15])
  (.cond (.t 12) (.seq (.region false [o1 4 (.mov (.c (.int .i64 (-1))))])
  (.ret))
  (.seq (.region false [oM 17 5,
   oM 18 6,
   oB 19 .gtr 17 18,
   oM 16 19])
  (.cond (.t 16) (.seq (.region false [o1 4 (.mov (.c (.int .i64 1)))])
  (.ret))
  (.skip))))))
  (.seq (.region true [o1 20 (.adr 2 2 1),
   o1 21 (.ld 20 2 1 true),
   oC 22 125 [21],
   o1 23 (.adr 3 3 1),
   o1 24 (.ld 23 3 1 true),
   oC 25 125 [24],
   oC 26 139 [22, 25],
   oM 7 26])
  (.seq (.seq (.region false [oM 27 5,
   o1 28 (.bin .lss (.t 27) (.c (.int .i64 0)))])
  (.cond (.t 28) (.seq (.region false [oM 29 7,
   o1 30 (.un .neg (.t 29)),
   oM 4 30])
  (.ret))
  (.skip)))
  (.seq (.region false [oM 31 7,
   oM 4 31])
  (.ret))))))⟩
def Try.r135 : List (Nat × Nat) := [(20, 2), (23, 3)]
theorem Try.i135_ok : fnOk Try.prog Try.r135 Try.f135 Try.i135 = true := by kernel_rfl
def Try.i136 : IFunc := ⟨1, 33, [.tmp 2],
  .seq (.region false [o1 2 (.nlo 1)])
  (.seq (.region false [oM 6 0,
   oC 7 71 [6],
   oM 3 7])
  (.seq (.seq (.region false [oM 8 3,
   o1 9 (.len (.t 8)),
   o1 10 (.bin .eql (.t 9) (.c (.int .i64 0)))])
  (.cond (.t 10) (.seq (.region false [o1 2 (.nlo 1)])
  (.ret))
  (.skip)))
  (.seq (.region false [oM 11 3,
   o1 12 (.blo 1 1 [.sl 0 []] [(0, 1, .t 11)]),
   ⟨some 4, .tra 12, none, [23, 24, 27]⟩])
  (.seq (.region false [oM 13 3,
   oC 14 89 [13],
   oC 15 91 [14],
   oM 5 15])
  (.seq (.block 0 (.loop (.seq (.seq (.region false [oM 16 5,
   o1 17 (.len (.t 16)),
   o1 18 (.bin .gtr (.t 17) (.c (.int .i64 0)))])
  (.cond (.t 18) (.skip)
  (.exit 0)))
  (.block 1 (.seq (.region false [o1 19 (.tra 4),
   oM 20 5,
   o1 21 (.bls 1 [.sl 0 []] [(0, 1, .t 20)]),
   o1 22 (.apd true (.t 19) (.t 21) 1),
   ⟨some 4, .tra 22, none, [23, 24, 27]⟩])
  (.region false [o1 23 (.cpy 4),
   o1 24 (.cpy 4),
   o1 25 (.lno 24 4),
   o1 26 (.bin .sub (.t 25) (.c (.int .i64 2))),
   o1 27 (.ixo 23 4 (.t 26) 1),
   o1 28 (.ld 27 4 1 true),
   oM 29 5,
   oC 30 69 [28, 29],
   oC 31 129 [30],
   oM 5 31]))))))
  (.seq (.region false [o1 32 (.tra 4),
   o1 2 (.tra 32)])
  (.ret)))))))⟩
def Try.r136 : List (Nat × Nat) := [(23, 4), (24, 4), (27, 4)]
theorem Try.i136_ok : fnOk Try.prog Try.r136 Try.f136 Try.i136 = true := by kernel_rfl
def Try.i137 : IFunc := ⟨2, 42, [.tmp 4],
  .seq (.region false [o1 3 (.box (.t 1) [19, 21]),
   o1 4 (.mov (.c (.int .i64 0)))])
  (.seq (.region false [o1 5 (.mov (.c (.int .i64 0))),
   o1 6 (.mov (.c (.int .i64 0)))])
  (.seq (.seq (.region false [o1 7 (.mov (.c (.int .i64 0)))])
  (.block 0 (.loop (.seq (.seq (.region false [oM 9 7,
   oM 10 0,
   o1 11 (.len (.t 10)),
   oB 12 .lss 9 11])
  (.cond (.t 12) (.skip)
  (.exit 0)))
  (.seq (.block 1 (.seq (.region true [oM 15 0,
   oM 16 7,
   o1 17 (.ixa 15 (.t 16) 1),
   o1 18 (.ld 17 17 1 true),
   o1 19 (.adr 3 3 0),
   o1 20 (.ld 19 3 2 false),
   o1 21 (.adr 3 3 2),
   o1 22 (.ld 21 3 1 true),
   oC 23 82 [18, 20, 22],
   oC 24 81 [23],
   oM 8 24])
  (.seq (.seq (.region false [oM 25 8,
   o1 26 (.bin .neq (.t 25) (.c (.int .i64 0))),
   oM 27 26,
   oG 28 (.mov (.t 6)) 27 true,
   oG 29 (.bin .neq (.t 28) (.c (.int .i64 0))) 27 true,
   o1 30 (.pick (.t 27) (.t 29) (.c (.bool false))),
   oM 31 30,
   oG 32 (.mov (.t 8)) 31 true,
   oG 33 (.mov (.t 6)) 31 true,
   oG 34 (.bin .neq (.t 32) (.t 33)) 31 true,
   o1 35 (.pick (.t 31) (.t 34) (.c (.bool false)))])
  (.cond (.t 35) (.region false [oM 36 5,
   o1 37 (.bin .add (.t 36) (.c (.int .i64 1))),
   oM 5 37])
  (.skip)))
  (.seq (.region false [oM 38 8,
   o1 39 (.bin .neq (.t 38) (.c (.int .i64 0)))])
  (.cond (.t 39) (.region false [oM 40 8,
   oM 6 40])
  (.skip))))))
  (.region false [oM 13 7,
   o1 14 (.bin .add (.t 13) (.c (.int .i64 1))),
   oM 7 14]))))))
  (.seq (.region false [oM 41 5,
   oM 4 41])
  (.ret))))⟩
def Try.r137 : List (Nat × Nat) := [(19, 3), (21, 3)]
theorem Try.i137_ok : fnOk Try.prog Try.r137 Try.f137 Try.i137 = true := by kernel_rfl
def Try.i138 : IFunc := ⟨2, 54, [.tmp 4],
  .seq (.region false [o1 4 (.nlo 1)])
  (.seq (.region false [o1 5 (.nlo 1)])
  (.seq (.region false [o1 6 (.mov (.c (.int .u64 0)))])
  (.seq (.seq (.region false [o1 7 (.mov (.c (.int .i64 0)))])
  (.block 0 (.loop (.seq (.seq (.region false [oM 8 7,
   oM 9 0,
   o1 10 (.len (.t 9)),
   oB 11 .lss 8 10,
   oM 12 11,
   oG 13 (.mov (.t 7)) 12 false,
   oG 14 (.mov (.t 1)) 12 false,
   oG 15 (.len (.t 14)) 12 false,
   oG 16 (.bin .lss (.t 13) (.t 15)) 12 false,
   o1 17 (.pick (.t 12) (.c (.bool true)) (.t 16)),
   oM 18 17,
   oG 19 (.mov (.t 6)) 18 false,
   oG 20 (.bin .gtr (.t 19) (.c (.int .u64 0))) 18 false,
   o1 21 (.pick (.t 18) (.c (.bool true)) (.t 20))])
  (.cond (.t 21) (.skip)
  (.exit 0)))
  (.seq (.block 1 (.seq (.seq (.region false [oM 24 7,
   oM 25 0,
   o1 26 (.len (.t 25)),
   oB 27 .lss 24 26])
  (.cond (.t 27) (.region false [oM 28 6,
   oM 29 0,
   oM 30 7,
   o1 31 (.ixa 29 (.t 30) 1),
   o1 32 (.ld 31 31 1 true),
   o1 33 (.cv .u64 (.t 32)),
   oB 34 .add 28 33,
   oM 6 34])
  (.skip)))
  (.seq (.seq (.region false [oM 35 7,
   oM 36 1,
   o1 37 (.len (.t 36)),
   oB 38 .lss 35 37])
  (.cond (.t 38) (.region false [oM 39 6,
   oM 40 1,
   oM 41 7,
   o1 42 (.ixa 40 (.t 41) 1),
   o1 43 (.ld 42 42 1 true),
   o1 44 (.cv .u64 (.t 43)),
   oB 45 .add 39 44,
   oM 6 45])
  (.skip)))
  (.seq (.region false [o1 46 (.tra 5),
   oM 47 6,
   o1 48 (.cv .u32 (.t 47)),
   o1 49 (.bls 1 [.int .u32 0] [(0, 1, .t 48)]),
   o1 50 (.apd true (.t 46) (.t 49) 1),
   o1 5 (.tra 50)])
  (.region false [oM 51 6,
   o1 52 (.bin .shr (.t 51) (.c (.int .u64 32))),
   oM 6 52])))))
  (.region false [oM 22 7,
   o1 23 (.bin .add (.t 22) (.c (.int .i64 1))),
   oM 7 23]))))))
  (.seq (.region false [o1 53 (.tra 5),
   o1 4 (.tra 53)])
  (.ret)))))⟩
def Try.r138 : List (Nat × Nat) := []
theorem Try.i138_ok : fnOk Try.prog Try.r138 Try.f138 Try.i138 = true := by kernel_rfl
def Try.i139 : IFunc := ⟨2, 41, [.tmp 4],
  .seq (.region false [o1 4 (.mov (.c (.int .i64 0)))])
  (.seq (.seq (.region false [oM 6 0,
   o1 7 (.len (.t 6)),
   oM 8 1,
   o1 9 (.len (.t 8)),
   oB 10 .neq 7 9])
  (.cond (.t 10) (.seq (.seq (.region false [oM 11 0,
   o1 12 (.len (.t 11)),
   oM 13 1,
   o1 14 (.len (.t 13)),
   oB 15 .lss 12 14])
  (.cond (.t 15) (.seq (.region false [o1 4 (.mov (.c (.int .i64 (-1))))])
  (.ret))
  (.skip)))
  (.seq (.region false [o1 4 (.mov (.c (.int .i64 1)))])
  (.ret)))
  (.skip)))
  (.seq (.seq (.region false [oM 16 0,
   o1 17 (.len (.t 16)),
   o1 18 (.bin .sub (.t 17) (.c (.int .i64 1))),
   oM 5 18])
  (.block 0 (.loop (.seq (.seq (.region false [oM 19 5,
   o1 20 (.bin .geq (.t 19) (.c (.int .i64 0)))])
  (.cond (.t 20) (.skip)
  (.exit 0)))
  (.seq (.block 1 (.seq (.region true [oM 23 0,
   oM 24 5,
   o1 25 (.ixa 23 (.t 24) 1),
   o1 26 (.ld 25 25 1 true),
   oM 27 1,
   oM 28 5,
   o1 29 (.ixa 27 (.t 28) 1),
   o1 30 (.ld 29 29 1 true),
   oB 31 .neq 26 30])
  (.cond (.t 31) (.seq (.seq (.region true [oM 32 0,
   oM 33 5,
   o1 34 (.ixa 32 (.t 33) 1),
   o1 35 (.ld 34 34 1 true),
   oM 36 1,
   oM 37 5,
   o1 38 (.ixa 36 (.t 37) 1),
   o1 39 (.ld 38 38 1 true),
   oB 40 .lss 35 39])
  (.cond (.t 40) (.seq (.region false [o1 4 (.mov (.c (.int .i64 (-1))))])
  (.ret))
  (.skip)))
  (.seq (.region false [o1 4 (.mov (.c (.int .i64 1)))])
  (.ret)))
  (.skip))))
  (.region false [oM 21 5,
   o1 22 (.bin .sub (.t 21) (.c (.int .i64 1))),
   oM 5 22]))))))
  (.seq (.region false [o1 4 (.mov (.c (.int .i64 0)))])
  (.ret))))⟩
def Try.r139 : List (Nat × Nat) := []
theorem Try.i139_ok : fnOk Try.prog Try.r139 Try.f139 Try.i139 = true := by kernel_rfl
def Try.i140 : IFunc := ⟨2, 42, [.tmp 4],
  .seq (.region false [o1 4 (.nlo 1)])
  (.seq (.region false [o1 5 (.nlo 1)])
  (.seq (.region false [o1 6 (.mov (.c (.int .u64 0)))])
  (.seq (.seq (.region false [o1 7 (.mov (.c (.int .i64 0)))])
  (.block 0 (.loop (.seq (.seq (.region false [oM 10 7,
   oM 11 0,
   o1 12 (.len (.t 11)),
   oB 13 .lss 10 12])
  (.cond (.t 13) (.skip)
  (.exit 0)))
  (.seq (.block 1 (.seq (.region false [o1 8 (.mov (.c (.int .u64 0)))])
  (.seq (.seq (.region false [oM 16 7,
   oM 17 1,
   o1 18 (.len (.t 17)),
   oB 19 .lss 16 18])
  (.cond (.t 19) (.region false [oM 20 1,
   oM 21 7,
   o1 22 (.ixa 20 (.t 21) 1),
   o1 23 (.ld 22 22 1 true),
   o1 24 (.cv .u64 (.t 23)),
   oM 8 24])
  (.skip)))
  (.seq (.region false [oM 25 0,
   oM 26 7,
   o1 27 (.ixa 25 (.t 26) 1),
   o1 28 (.ld 27 27 1 true),
   o1 29 (.cv .u64 (.t 28)),
   oM 30 8,
   oB 31 .sub 29 30,
   oM 32 6,
   oB 33 .sub 31 32,
   oM 9 33])
  (.seq (.region false [o1 34 (.tra 5),
   oM 35 9,
   o1 36 (.cv .u32 (.t 35)),
   o1 37 (.bls 1 [.int .u32 0] [(0, 1, .t 36)]),
   o1 38 (.apd true (.t 34) (.t 37) 1),
   o1 5 (.tra 38)])
  (.region false [oM 39 9,
   o1 40 (.bin .shr (.t 39) (.c (.int .u64 63))),
   oM 6 40]))))))
  (.region false [oM 14 7,
   o1 15 (.bin .add (.t 14) (.c (.int .i64 1))),
   oM 7 15]))))))
  (.seq (.region false [o1 41 (.tra 5),
   o1 4 (.tra 41)])
  (.ret)))))⟩
def Try.r140 : List (Nat × Nat) := []
theorem Try.i140_ok : fnOk Try.prog Try.r140 Try.f140 Try.i140 = true := by kernel_rfl
def Try.i141 : IFunc := ⟨2, 66, [.tmp 4],
  .seq (.region false [o1 4 (.nlo 1)])
  (.seq (.region false [oM 9 0,
   o1 10 (.len (.t 9)),
   oM 11 1,
   o1 12 (.len (.t 11)),
   oB 13 .add 10 12,
   o1 14 (.mks [.int .u32 0] (.t 13)),
   ⟨some 5, .tra 14, none, [28, 32, 48, 54, 57, 64]⟩])
  (.seq (.seq (.region false [o1 6 (.mov (.c (.int .i64 0)))])
  (.block 0 (.loop (.seq (.seq (.region false [oM 15 6,
   oM 16 0,
   o1 17 (.len (.t 16)),
   oB 18 .lss 15 17])
  (.cond (.t 18) (.skip)
  (.exit 0)))
  (.seq (.block 1 (.seq (.region false [o1 7 (.mov (.c (.int .u64 0)))])
  (.seq (.seq (.region false [o1 8 (.mov (.c (.int .i64 0)))])
  (.block 2 (.loop (.seq (.seq (.region false [oM 21 8,
   oM 22 1,
   o1 23 (.len (.t 22)),
   oB 24 .lss 21 23])
  (.cond (.t 24) (.skip)
  (.exit 2)))
  (.seq (.block 3 (.seq (.region true [oM 27 7,
   o1 28 (.cpy 5),
   oM 29 6,
   oM 30 8,
   oB 31 .add 29 30,
   o1 32 (.ixo 28 5 (.t 31) 1),
   o1 33 (.ld 32 5 1 true),
   o1 34 (.cv .u64 (.t 33)),
   oM 35 0,
   oM 36 6,
   o1 37 (.ixa 35 (.t 36) 1),
   o1 38 (.ld 37 37 1 true),
   o1 39 (.cv .u64 (.t 38)),
   oM 40 1,
   oM 41 8,
   o1 42 (.ixa 40 (.t 41) 1),
   o1 43 (.ld 42 42 1 true),
   o1 44 (.cv .u64 (.t 43)),
   oB 45 .mul 39 44,
   oB 46 .add 34 45,
   oB 47 .add 27 46,
   oM 7 47])
  (.seq (.region false [o1 48 (.cpy 5),
   oM 49 6,
   oM 50 8,
   oB 51 .add 49 50,
   oM 52 7,
   o1 53 (.cv .u32 (.t 52)),
   o1 54 (.ixo 48 5 (.t 51) 1),
   oN (.st 54 5 1 (.t 53))])
  (.region false [oM 55 7,
   o1 56 (.bin .shr (.t 55) (.c (.int .u64 32))),
   oM 7 56]))))
  (.region false [oM 25 8,
   o1 26 (.bin .add (.t 25) (.c (.int .i64 1))),
   oM 8 26]))))))
  (.region false [o1 57 (.cpy 5),
   oM 58 6,
   oM 59 1,
   o1 60 (.len (.t 59)),
   oB 61 .add 58 60,
   oM 62 7,
   o1 63 (.cv .u32 (.t 62)),
   o1 64 (.ixo 57 5 (.t 61) 1),
   oN (.st 64 5 1 (.t 63))]))))
  (.region false [oM 19 6,
   o1 20 (.bin .add (.t 19) (.c (.int .i64 1))),
   oM 6 20]))))))
  (.seq (.region false [o1 65 (.tra 5),
   o1 4 (.tra 65)])
  (.ret))))⟩
def Try.r141 : List (Nat × Nat) := [(28, 5), (32, 5), (48, 5), (54, 5), (57, 5), (64, 5)]
theorem Try.i141_ok : fnOk Try.prog Try.r141 Try.f141 Try.i141 = true := by kernel_rfl
def Try.i142 : IFunc := ⟨2, 39, [.cell 4 3 false],
  .seq (.region false [o1 2 (.box (.t 0) [8, 17]),
   o1 4 (.new [.bool false, .sl 0 [], .int .i64 0] [])])
  (.seq (.region false [o1 6 (.ld 2 2 2 false),
   oC 7 132 [6],
   oN (.st 2 2 2 (.t 7))])
  (.seq (.seq (.region false [o1 8 (.adr 2 2 1),
   o1 9 (.ld 8 2 1 true),
   o1 10 (.len (.t 9)),
   o1 11 (.bin .eql (.t 10) (.c (.int .i64 0)))])
  (.cond (.t 11) (.seq (.region false [o1 12 (.bld [.bool false, .sl 0 [], .int .i64 0] []),
   oN (.st 4 4 3 (.t 12))])
  (.ret))
  (.skip)))
  (.seq (.region false [o1 5 (.mov (.c (.int .i64 0)))])
  (.seq (.block 0 (.loop (.seq (.seq (.region false [oM 13 5,
   oM 14 1,
   oB 15 .lss 13 14,
   oM 16 15,
   oG 17 (.adr 2 2 1) 16 true,
   oG 18 (.ld 17 2 1 true) 16 true,
   oG 19 (.mov (.t 5)) 16 true,
   oG 20 (.bin .quo (.t 19) (.c (.int .i64 32))) 16 true,
   oG 21 (.ixa 18 (.t 20) 1) 16 true,
   oG 22 (.ld 21 21 1 true) 16 true,
   oG 23 (.mov (.t 5)) 16 true,
   oG 24 (.bin .rem (.t 23) (.c (.int .i64 32))) 16 true,
   oG 25 (.cv .u64 (.t 24)) 16 true,
   oG 26 (.bin .shr (.t 22) (.t 25)) 16 true,
   oG 27 (.bin .and (.t 26) (.c (.int .u32 1))) 16 true,
   oG 28 (.bin .eql (.t 27) (.c (.int .u32 0))) 16 true,
   o1 29 (.pick (.t 16) (.t 28) (.c (.bool false)))])
  (.cond (.t 29) (.skip)
  (.exit 0)))
  (.block 1 (.region false [oM 30 5,
   o1 31 (.bin .add (.t 30) (.c (.int .i64 1))),
   oM 5 31])))))
  (.seq (.region false [o1 32 (.ld 2 2 2 false),
   oM 33 5,
   oC 34 151 [32, 33],
   oM 35 1,
   oM 36 5,
   oB 37 .sub 35 36,
   o1 38 (.bld [.bool false, .sl 0 [], .int .i64 0] [(0, 2, .t 34), (2, 1, .t 37)]),
   oN (.st 4 4 3 (.t 38))])
  (.ret))))))⟩
def Try.r142 : List (Nat × Nat) := [(8, 2), (17, 2)]
theorem Try.i142_ok : fnOk Try.prog Try.r142 Try.f142 Try.i142 = true := by kernel_rfl
def Try.i143 : IFunc := ⟨1, 33, [.cell 2 3 false],
  .seq (.region false [o1 1 (.box (.t 0) [5, 8]),
   o1 2 (.new [.bool false, .sl 0 [], .int .i64 0] [])])
  (.seq (.region true [o1 5 (.adr 1 1 0),
   o1 6 (.ld 5 1 2 false),
   oC 7 93 [6],
   o1 8 (.adr 1 1 2),
   o1 9 (.ld 8 1 1 true),
   o1 3 (.new [.bool false, .sl 0 []] [13, 18]),
   oN (.st 3 3 2 (.t 7)),
   oM 4 9])
  (.seq (.block 0 (.loop (.seq (.seq (.region false [oM 10 4,
   o1 11 (.bin .gtr (.t 10) (.c (.int .i64 0))),
   oM 12 11,
   oG 13 (.adr 3 3 1) 12 true,
   oG 14 (.ld 13 3 1 true) 12 true,
   oG 15 (.len (.t 14)) 12 true,
   oG 16 (.bin .eql (.t 15) (.c (.int .i64 0))) 12 true,
   oG 17 (.mov (.t 16)) 12 true,
   oG 18 (.adr 3 3 1) 17 false,
   oG 19 (.ld 18 3 1 true) 17 false,
   oG 20 (.ixa 19 (.c (.int .i64 0)) 1) 17 false,
   oG 21 (.ld 20 20 1 true) 17 false,
   oG 22 (.bin .and (.t 21) (.c (.int .u32 1))) 17 false,
   oG 23 (.bin .eql (.t 22) (.c (.int .u32 0))) 17 false,
   oG 24 (.pick (.t 17) (.c (.bool true)) (.t 23)) 12 true,
   o1 25 (.pick (.t 12) (.t 24) (.c (.bool false)))])
  (.cond (.t 25) (.skip)
  (.exit 0)))
  (.block 1 (.region false [o1 26 (.ld 3 3 2 false),
   o1 27 (.call 152 [.t 26, .c (.int .i64 1)]),
   oM 28 4,
   o1 29 (.bin .sub (.t 28) (.c (.int .i64 1))),
   oN (.st 3 3 2 (.t 27)),
   oM 4 29])))))
  (.seq (.region false [o1 30 (.ld 3 3 2 false),
   oM 31 4,
   o1 32 (.bld [.bool false, .sl 0 [], .int .i64 0] [(0, 2, .t 30), (2, 1, .t 31)]),
   oN (.st 2 2 3 (.t 32))])
  (.ret))))⟩
def Try.r143 : List (Nat × Nat) := [(5, 1), (8, 1), (13, 3), (18, 3)]
theorem Try.i143_ok : fnOk Try.prog Try.r143 Try.f143 Try.i143 = true := by kernel_rfl
def Try.i144 : IFunc := ⟨1, 10, [.cell 2 2 false],
  .seq (.region false [o1 2 (.new [.bool false, .sl 0 []] [])])
  (.seq (.region false [oM 3 0,
   o1 4 (.cv .u32 (.t 3)),
   oM 5 0,
   o1 6 (.bin .shr (.t 5) (.c (.int .u64 32))),
   o1 7 (.cv .u32 (.t 6)),
   o1 8 (.bls 2 [.int .u32 0, .int .u32 0] [(0, 1, .t 4), (1, 1, .t 7)]),
   o1 9 (.call 133 [.c (.bool false), .t 8]),
   oN (.st 2 2 2 (.t 9))])
  (.ret))⟩
def Try.r144 : List (Nat × Nat) := []
theorem Try.i144_ok : fnOk Try.prog Try.r144 Try.f144 Try.i144 = true := by kernel_rfl
def Try.i145 : IFunc := ⟨2, 12, [.tmp 4],
  .seq (.region false [o1 4 (.mov (.c (.int .u64 0)))])
  (.seq (.block 0 (.loop (.seq (.seq (.region false [oM 5 1,
   o1 6 (.bin .gtr (.t 5) (.c (.int .u64 0)))])
  (.cond (.t 6) (.skip)
  (.exit 0)))
  (.block 1 (.region true [oM 7 1,
   oM 8 0,
   oM 9 1,
   oB 10 .rem 8 9,
   oM 0 7,
   oM 1 10])))))
  (.seq (.region false [oM 11 0,
   oM 4 11])
  (.ret)))⟩
def Try.r145 : List (Nat × Nat) := []
theorem Try.i145_ok : fnOk Try.prog Try.r145 Try.f145 Try.i145 = true := by kernel_rfl
def Try.i146 : IFunc := ⟨1, 24, [.tmp 2],
  .seq (.region false [o1 1 (.box (.t 0) [6]),
   o1 2 (.mov (.c (.int .u64 0)))])
  (.seq (.region false [o1 3 (.mov (.c (.int .u64 0)))])
  (.seq (.seq (.region false [o1 6 (.adr 1 1 1),
   o1 7 (.ld 6 1 1 true),
   o1 8 (.len (.t 7)),
   o1 9 (.mov (.c (.int .i64 0)))])
  (.block 0 (.loop (.seq (.region false [oB 10 .lss 9 8])
  (.seq (.cond (.t 10) (.skip)
  (.exit 0))
  (.seq (.block 1 (.seq (.region false [oM 11 9,
   o1 12 (.ixa 7 (.t 9) 1),
   o1 13 (.ld 12 12 1 true),
   oM 4 11,
   oM 5 13])
  (.region false [oM 14 3,
   oM 15 5,
   o1 16 (.cv .u64 (.t 15)),
   oM 17 4,
   o1 18 (.bin .mul (.c (.int .i64 32)) (.t 17)),
   o1 19 (.cv .u64 (.t 18)),
   oB 20 .shl 16 19,
   oB 21 .or 14 20,
   oM 3 21])))
  (.region false [o1 22 (.bin .add (.t 9) (.c (.int .i64 1))),
   oM 9 22])))))))
  (.seq (.region false [oM 23 3,
   oM 2 23])
  (.ret))))⟩
def Try.r146 : List (Nat × Nat) := [(6, 1)]
theorem Try.i146_ok : fnOk Try.prog Try.r146 Try.f146 Try.i146 = true := by kernel_rfl
def Try.i147 : IFunc := ⟨2, 282, [.tmp 4, .tmp 5],
  .seq (.region false [⟨some 4, .nlo 1, none, [241, 245]⟩,
   ⟨some 5, .nlo 1, none, [253, 262, 265, 267, 279]⟩])
  (.seq (.seq (.region false [oM 29 0,
   oM 30 1,
   oC 31 150 [29, 30],
   o1 32 (.bin .lss (.t 31) (.c (.int .i64 0)))])
  (.cond (.t 32) (.seq (.region false [oM 33 0,
   o1 34 (.apd true (.c (.nil)) (.t 33) 1),
   ⟨some 4, .nlo 1, none, [241, 245]⟩,
   ⟨some 5, .tra 34, none, [253, 262, 265, 267, 279]⟩])
  (.ret))
  (.skip)))
  (.seq (.seq (.region false [oM 35 1,
   o1 36 (.len (.t 35)),
   o1 37 (.bin .eql (.t 36) (.c (.int .i64 1)))])
  (.cond (.t 37) (.seq (.region false [oM 39 0,
   oM 40 1,
   o1 41 (.ixa 40 (.c (.int .i64 0)) 1),
   o1 42 (.ld 41 41 1 true),
   oC 43 153 [39, 42],
   oM 38 43,
   o1 44 (.ext (.t 38) 0),
   o1 45 (.ext (.t 38) 1),
   oM 6 44,
   oM 7 45])
  (.seq (.region false [oM 46 6,
   oM 47 7,
   o1 48 (.blo 1 1 [.int .u32 0] [(0, 1, .t 47)]),
   ⟨some 4, .tra 46, none, [241, 245]⟩,
   ⟨some 5, .tra 48, none, [253, 262, 265, 267, 279]⟩])
  (.ret)))
  (.skip)))
  (.seq (.region false [oM 49 1,
   oM 50 1,
   o1 51 (.len (.t 50)),
   o1 52 (.bin .sub (.t 51) (.c (.int .i64 1))),
   o1 53 (.ixa 49 (.t 52) 1),
   o1 54 (.ld 53 53 1 true),
   oC 55 154 [54],
   oM 8 55])
  (.seq (.region true [oM 56 0,
   oM 57 8,
   o1 58 (.clo 155 [.t 56, .t 57]),
   oM 59 1,
   oM 60 8,
   oC 61 155 [59, 60],
   oM 62 1,
   o1 63 (.len (.t 62)),
   o1 64 (.sli (.t 61) none (some (.t 63)) none 1),
   ⟨some 9, .tra 58, none, [92, 96, 100, 105, 123, 128, 157, 161, 170, 178, 179, 183, 190, 196, 207, 211, 222, 230, 231, 235, 240, 255, 257, 269, 272]⟩,
   oM 10 64])
  (.seq (.region false [oM 65 1,
   o1 66 (.len (.t 65)),
   oM 67 0,
   o1 68 (.len (.t 67)),
   oM 69 1,
   o1 70 (.len (.t 69)),
   oB 71 .sub 68 70,
   oM 11 66,
   oM 12 71])
  (.seq (.region false [oM 72 12,
   o1 73 (.bin .add (.t 72) (.c (.int .i64 1))),
   o1 74 (.mks [.int .u32 0] (.t 73)),
   ⟨some 4, .tra 74, none, [241, 245]⟩])
  (.seq (.region true [oM 75 10,
   oM 76 11,
   o1 77 (.bin .sub (.t 76) (.c (.int .i64 1))),
   o1 78 (.ixa 75 (.t 77) 1),
   o1 79 (.ld 78 78 1 true),
   o1 80 (.cv .u64 (.t 79)),
   oM 81 10,
   oM 82 11,
   o1 83 (.bin .sub (.t 82) (.c (.int .i64 2))),
   o1 84 (.ixa 81 (.t 83) 1),
   o1 85 (.ld 84 84 1 true),
   o1 86 (.cv .u64 (.t 85)),
   oM 13 80,
   oM 14 86])
  (.seq (.seq (.region false [oM 87 12,
   oM 15 87])
  (.block 0 (.loop (.seq (.seq (.region false [oM 88 15,
   o1 89 (.bin .geq (.t 88) (.c (.int .i64 0)))])
  (.cond (.t 89) (.skip)
  (.exit 0)))
  (.seq (.block 1 (.seq (.region true [o1 92 (.cpy 9),
   oM 93 15,
   oM 94 11,
   oB 95 .add 93 94,
   o1 96 (.ixo 92 9 (.t 95) 1),
   o1 97 (.ld 96 9 1 true),
   o1 98 (.cv .u64 (.t 97)),
   o1 99 (.bin .shl (.t 98) (.c (.int .u64 32))),
   o1 100 (.cpy 9),
   oM 101 15,
   oM 102 11,
   oB 103 .add 101 102,
   o1 104 (.bin .sub (.t 103) (.c (.int .i64 1))),
   o1 105 (.ixo 100 9 (.t 104) 1),
   o1 106 (.ld 105 9 1 true),
   o1 107 (.cv .u64 (.t 106)),
   oB 108 .or 99 107,
   oM 16 108])
  (.seq (.region true [oM 109 16,
   oM 110 13,
   oB 111 .quo 109 110,
   oM 112 16,
   oM 113 13,
   oB 114 .rem 112 113,
   oM 17 111,
   oM 18 114])
  (.seq (.block 2 (.loop (.seq (.seq (.region false [oM 115 17,
   o1 116 (.bin .geq (.t 115) (.c (.int .u64 4294967296))),
   oM 117 116,
   oG 118 (.mov (.t 17)) 117 false,
   oG 119 (.mov (.t 14)) 117 false,
   oG 120 (.bin .mul (.t 118) (.t 119)) 117 false,
   oG 121 (.mov (.t 18)) 117 false,
   oG 122 (.bin .shl (.t 121) (.c (.int .u64 32))) 117 false,
   oG 123 (.cpy 9) 117 false,
   oG 124 (.mov (.t 15)) 117 false,
   oG 125 (.mov (.t 11)) 117 false,
   oG 126 (.bin .add (.t 124) (.t 125)) 117 false,
   oG 127 (.bin .sub (.t 126) (.c (.int .i64 2))) 117 false,
   oG 128 (.ixo 123 9 (.t 127) 1) 117 false,
   oG 129 (.ld 128 9 1 true) 117 false,
   oG 130 (.cv .u64 (.t 129)) 117 false,
   oG 131 (.bin .or (.t 122) (.t 130)) 117 false,
   oG 132 (.bin .gtr (.t 120) (.t 131)) 117 false,
   o1 133 (.pick (.t 117) (.c (.bool true)) (.t 132))])
  (.cond (.t 133) (.skip)
  (.exit 2)))
  (.block 3 (.seq (.region false [oM 134 17,
   o1 135 (.bin .sub (.t 134) (.c (.int .u64 1))),
   oM 17 135])
  (.seq (.region false [oM 136 18,
   oM 137 13,
   oB 138 .add 136 137,
   oM 18 138])
  (.seq (.region false [oM 139 18,
   o1 140 (.bin .geq (.t 139) (.c (.int .u64 4294967296)))])
  (.cond (.t 140) (.exit 2)
  (.skip)))))))))
  (.seq (.region false [o1 19 (.mov (.c (.int .u64 0))),
   o1 20 (.mov (.c (.int .u64 0)))])
  (.seq (.seq (.region false [o1 21 (.mov (.c (.int .i64 0)))])
  (.block 4 (.loop (.seq (.seq (.region false [oM 141 21,
   oM 142 11,
   oB 143 .lss 141 142])
  (.cond (.t 143) (.skip)
  (.exit 4)))
  (.seq (.block 5 (.seq (.region false [oM 146 17,
   oM 147 10,
   oM 148 21,
   o1 149 (.ixa 147 (.t 148) 1),
   o1 150 (.ld 149 149 1 true),
   o1 151 (.cv .u64 (.t 150)),
   oB 152 .mul 146 151,
   oM 153 20,
   oB 154 .add 152 153,
   oM 22 154])
  (.seq (.region false [oM 155 22,
   o1 156 (.bin .shr (.t 155) (.c (.int .u64 32))),
   oM 20 156])
  (.seq (.region false [o1 157 (.cpy 9),
   oM 158 21,
   oM 159 15,
   oB 160 .add 158 159,
   o1 161 (.ixo 157 9 (.t 160) 1),
   o1 162 (.ld 161 9 1 true),
   o1 163 (.cv .u64 (.t 162)),
   oM 164 22,
   o1 165 (.cv .u32 (.t 164)),
   o1 166 (.cv .u64 (.t 165)),
   oB 167 .sub 163 166,
   oM 168 19,
   oB 169 .sub 167 168,
   oM 23 169])
  (.region false [o1 170 (.cpy 9),
   oM 171 21,
   oM 172 15,
   oB 173 .add 171 172,
   oM 174 23,
   o1 175 (.cv .u32 (.t 174)),
   oM 176 23,
   o1 177 (.bin .shr (.t 176) (.c (.int .u64 63))),
   o1 178 (.ixo 170 9 (.t 173) 1),
   oN (.st 178 9 1 (.t 175)),
   oM 19 177])))))
  (.region false [oM 144 21,
   o1 145 (.bin .add (.t 144) (.c (.int .i64 1))),
   oM 21 145]))))))
  (.seq (.region false [o1 179 (.cpy 9),
   oM 180 15,
   oM 181 11,
   oB 182 .add 180 181,
   o1 183 (.ixo 179 9 (.t 182) 1),
   o1 184 (.ld 183 9 1 true),
   o1 185 (.cv .u64 (.t 184)),
   oM 186 20,
   oB 187 .sub 185 186,
   oM 188 19,
   oB 189 .sub 187 188,
   oM 24 189])
  (.seq (.region false [o1 190 (.cpy 9),
   oM 191 15,
   oM 192 11,
   oB 193 .add 191 192,
   oM 194 24,
   o1 195 (.cv .u32 (.t 194)),
   o1 196 (.ixo 190 9 (.t 193) 1),
   oN (.st 196 9 1 (.t 195))])
  (.seq (.seq (.region false [oM 197 24,
   o1 198 (.bin .shr (.t 197) (.c (.int .u64 63))),
   o1 199 (.bin .neq (.t 198) (.c (.int .u64 0)))])
  (.cond (.t 199) (.seq (.region false [oM 200 17,
   o1 201 (.bin .sub (.t 200) (.c (.int .u64 1))),
   oM 17 201])
  (.seq (.region false [o1 25 (.mov (.c (.int .u64 0)))])
  (.seq (.seq (.region false [o1 26 (.mov (.c (.int .i64 0)))])
  (.block 6 (.loop (.seq (.seq (.region false [oM 202 26,
   oM 203 11,
   oB 204 .lss 202 203])
  (.cond (.t 204) (.skip)
  (.exit 6)))
  (.seq (.block 7 (.seq (.region true [o1 207 (.cpy 9),
   oM 208 26,
   oM 209 15,
   oB 210 .add 208 209,
   o1 211 (.ixo 207 9 (.t 210) 1),
   o1 212 (.ld 211 9 1 true),
   o1 213 (.cv .u64 (.t 212)),
   oM 214 10,
   oM 215 26,
   o1 216 (.ixa 214 (.t 215) 1),
   o1 217 (.ld 216 216 1 true),
   o1 218 (.cv .u64 (.t 217)),
   oB 219 .add 213 218,
   oM 220 25,
   oB 221 .add 219 220,
   oM 27 221])
  (.region false [o1 222 (.cpy 9),
   oM 223 26,
   oM 224 15,
   oB 225 .add 223 224,
   oM 226 27,
   o1 227 (.cv .u32 (.t 226)),
   oM 228 27,
   o1 229 (.bin .shr (.t 228) (.c (.int .u64 32))),
   o1 230 (.ixo 222 9 (.t 225) 1),
   oN (.st 230 9 1 (.t 227)),
   oM 25 229])))
  (.region false [oM 205 26,
   o1 206 (.bin .add (.t 205) (.c (.int .i64 1))),
   oM 26 206]))))))
  (.region false [o1 231 (.cpy 9),
   oM 232 15,
   oM 233 11,
   oB 234 .add 232 233,
   o1 235 (.ixo 231 9 (.t 234) 1),
   o1 236 (.ld 235 9 1 true),
   oM 237 25,
   o1 238 (.cv .u32 (.t 237)),
   oB 239 .add 236 238,
   o1 240 (.ixo 231 9 (.t 234) 1),
   oN (.st 240 9 1 (.t 239))]))))
  (.skip)))
  (.region false [o1 241 (.cpy 4),
   oM 242 15,
   oM 243 17,
   o1 244 (.cv .u32 (.t 243)),
   o1 245 (.ixo 241 4 (.t 242) 1),
   oN (.st 245 4 1 (.t 244))]))))))))))
  (.region false [oM 90 15,
   o1 91 (.bin .sub (.t 90) (.c (.int .i64 1))),
   oM 15 91]))))))
  (.seq (.region false [oM 246 11,
   o1 247 (.mks [.int .u32 0] (.t 246)),
   ⟨some 5, .tra 247, none, [253, 262, 265, 267, 279]⟩])
  (.seq (.seq (.region false [o1 28 (.mov (.c (.int .i64 0)))])
  (.block 8 (.loop (.seq (.seq (.region false [oM 248 28,
   oM 249 11,
   oB 250 .lss 248 249])
  (.cond (.t 250) (.skip)
  (.exit 8)))
  (.seq (.block 9 (.seq (.region false [o1 253 (.cpy 5),
   oM 254 28,
   o1 255 (.cpy 9),
   oM 256 28,
   o1 257 (.ixo 255 9 (.t 256) 1),
   o1 258 (.ld 257 9 1 true),
   oM 259 8,
   o1 260 (.cv .u64 (.t 259)),
   oB 261 .shr 258 260,
   o1 262 (.ixo 253 5 (.t 254) 1),
   oN (.st 262 5 1 (.t 261))])
  (.seq (.region false [oM 263 8,
   o1 264 (.bin .gtr (.t 263) (.c (.int .i64 0)))])
  (.cond (.t 264) (.region true [o1 265 (.cpy 5),
   oM 266 28,
   o1 267 (.ixo 265 5 (.t 266) 1),
   o1 268 (.ld 267 5 1 true),
   o1 269 (.cpy 9),
   oM 270 28,
   o1 271 (.bin .add (.t 270) (.c (.int .i64 1))),
   o1 272 (.ixo 269 9 (.t 271) 1),
   o1 273 (.ld 272 9 1 true),
   oM 274 8,
   o1 275 (.bin .sub (.c (.int .i64 32)) (.t 274)),
   o1 276 (.cv .u64 (.t 275)),
   oB 277 .shl 273 276,
   oB 278 .or 268 277,
   o1 279 (.ixo 265 5 (.t 266) 1),
   oN (.st 279 5 1 (.t 278))])
  (.skip)))))
  (.region false [oM 251 28,
   o1 252 (.bin .add (.t 251) (.c (.int .i64 1))),
   oM 28 252]))))))
  (.seq (.region false [o1 280 (.tra 4),
   o1 281 (.tra 5),
   ⟨some 4, .tra 280, none, [241, 245]⟩,
   ⟨some 5, .tra 281, none, [253, 262, 265, 267, 279]⟩])
  (.ret))))))))))))⟩
def Try.r147 : List (Nat × Nat) := [(92, 9), (96, 9), (100, 9), (105, 9), (123, 9), (128, 9), (157, 9), (161, 9), (170, 9), (178, 9), (179, 9), (183, 9), (190, 9), (196, 9), (207, 9), (211, 9), (222, 9), (230, 9), (231, 9), (235, 9), (240, 9), (241, 4), (245, 4), (253, 5), (255, 9), (257, 9), (262, 5), (265, 5), (267, 5), (269, 9), (272, 9), (279, 5)]
theorem Try.i147_ok : fnOk Try.prog Try.r147 Try.f147 Try.i147 = true := by kernel_rfl
def Try.i148 : IFunc := ⟨4, 31, [.cell 8 2 false],
  .seq (.region false [o1 8 (.new [.bool false, .sl 0 []] [])])
  (.seq (.seq (.region false [oM 9 0,
   oM 10 2,
   o1 11 (.eqb false (.t 9) (.t 10))])
  (.cond (.t 11) (.seq (.region false [oM 12 0,
   oM 13 1,
   oM 14 3,
   oC 15 156 [13, 14],
   oC 16 133 [12, 15],
   oN (.st 8 8 2 (.t 16))])
  (.ret))
  (.skip)))
  (.seq (.seq (.region false [oM 17 1,
   oM 18 3,
   oC 19 150 [17, 18],
   o1 20 (.bin .geq (.t 19) (.c (.int .i64 0)))])
  (.cond (.t 20) (.seq (.region false [oM 21 0,
   oM 22 1,
   oM 23 3,
   oC 24 157 [22, 23],
   oC 25 133 [21, 24],
   oN (.st 8 8 2 (.t 25))])
  (.ret))
  (.skip)))
  (.seq (.region false [oM 26 2,
   oM 27 3,
   oM 28 1,
   oC 29 157 [27, 28],
   oC 30 133 [26, 29],
   oN (.st 8 8 2 (.t 30))])
  (.ret))))⟩
def Try.r148 : List (Nat × Nat) := []
theorem Try.i148_ok : fnOk Try.prog Try.r148 Try.f148 Try.i148 = true := by kernel_rfl
def Try.i149 : IFunc := ⟨2, 307, [.tmp 4, .tmp 5],
  .seq (.region false [o1 4 (.nlo 1),
   o1 5 (.nlo 1)])
  (.seq (.seq (.region false [oM 25 0,
   oM 26 1,
   oC 27 139 [25, 26],
   o1 28 (.bin .lss (.t 27) (.c (.int .i64 0)))])
  (.cond (.t 28) (.seq (.region false [oM 29 0,
   o1 4 (.nlo 1),
   o1 5 (.tra 29)])
  (.ret))
  (.skip)))
  (.seq (.seq (.region false [oM 30 1,
   o1 31 (.len (.t 30)),
   o1 32 (.bin .eql (.t 31) (.c (.int .i64 1)))])
  (.cond (.t 32) (.seq (.region false [oM 33 0,
   o1 34 (.len (.t 33)),
   o1 35 (.mks [.int .u32 0] (.t 34)),
   ⟨some 6, .tra 35, none, [51, 60]⟩])
  (.seq (.region false [o1 7 (.mov (.c (.int .u64 0)))])
  (.seq (.seq (.region false [oM 36 0,
   o1 37 (.len (.t 36)),
   o1 38 (.bin .sub (.t 37) (.c (.int .i64 1))),
   oM 8 38])
  (.block 0 (.loop (.seq (.seq (.region false [oM 39 8,
   o1 40 (.bin .geq (.t 39) (.c (.int .i64 0)))])
  (.cond (.t 40) (.skip)
  (.exit 0)))
  (.seq (.block 1 (.seq (.region false [oM 43 7,
   o1 44 (.bin .shl (.t 43) (.c (.int .u64 32))),
   oM 45 0,
   oM 46 8,
   o1 47 (.ixa 45 (.t 46) 1),
   o1 48 (.ld 47 47 1 true),
   o1 49 (.cv .u64 (.t 48)),
   oB 50 .or 44 49,
   oM 7 50])
  (.seq (.region false [o1 51 (.cpy 6),
   oM 52 8,
   oM 53 7,
   oM 54 1,
   o1 55 (.ixa 54 (.c (.int .i64 0)) 1),
   o1 56 (.ld 55 55 1 true),
   o1 57 (.cv .u64 (.t 56)),
   oB 58 .quo 53 57,
   o1 59 (.cv .u32 (.t 58)),
   o1 60 (.ixo 51 6 (.t 52) 1),
   oN (.st 60 6 1 (.t 59))])
  (.region false [oM 61 7,
   oM 62 1,
   o1 63 (.ixa 62 (.c (.int .i64 0)) 1),
   o1 64 (.ld 63 63 1 true),
   o1 65 (.cv .u64 (.t 64)),
   oB 66 .rem 61 65,
   oM 7 66]))))
  (.region false [oM 41 8,
   o1 42 (.bin .sub (.t 41) (.c (.int .i64 1))),
   oM 8 42]))))))
  (.seq (.region false [o1 67 (.frz 6),
   o1 68 (.clo 125 [.t 67]),
   oM 69 7,
   o1 70 (.cv .u32 (.t 69)),
   o1 71 (.bls 1 [.int .u32 0] [(0, 1, .t 70)]),
   o1 72 (.clo 125 [.t 71]),
   o1 4 (.tra 68),
   o1 5 (.tra 72)])
  (.ret)))))
  (.skip)))
  (.seq (.region false [o1 9 (.mov (.c (.int .i64 0)))])
  (.seq (.block 2 (.loop (.seq (.seq (.region false [oM 73 1,
   oM 74 1,
   o1 75 (.len (.t 74)),
   o1 76 (.bin .sub (.t 75) (.c (.int .i64 1))),
   o1 77 (.ixa 73 (.t 76) 1),
   o1 78 (.ld 77 77 1 true),
   oM 79 9,
   o1 80 (.cv .u64 (.t 79)),
   oB 81 .shl 78 80,
   o1 82 (.bin .and (.t 81) (.c (.int .u32 2147483648))),
   o1 83 (.bin .eql (.t 82) (.c (.int .u32 0)))])
  (.cond (.t 83) (.skip)
  (.exit 2)))
  (.block 3 (.region false [oM 84 9,
   o1 85 (.bin .add (.t 84) (.c (.int .i64 1))),
   oM 9 85])))))
  (.seq (.region false [oM 86 1,
   o1 87 (.bld [.bool false, .sl 0 []] [(1, 1, .t 86)]),
   oM 88 9,
   oC 89 126 [87, 88],
   o1 90 (.fld (.t 89) 1 1 true),
   oM 10 90])
  (.seq (.region false [oM 91 0,
   o1 92 (.bld [.bool false, .sl 0 []] [(1, 1, .t 91)]),
   oM 93 9,
   oC 94 126 [92, 93],
   o1 95 (.fld (.t 94) 1 1 true),
   o1 96 (.bls 2 [.int .u32 0, .int .u32 0] [(0, 1, .c (.int .u32 0)), (1, 1, .c (.int .u32 0))]),
   o1 97 (.apd true (.t 95) (.t 96) 1),
   ⟨some 11, .tra 97, none, [109, 114, 123, 127, 131, 136, 172, 177, 210, 214, 222, 228, 233, 237, 244, 250, 262, 266, 276, 282, 285, 289, 294]⟩])
  (.seq (.region false [o1 98 (.frz 11),
   oM 99 0,
   o1 100 (.len (.t 99)),
   o1 101 (.bin .add (.t 100) (.c (.int .i64 1))),
   oM 102 1,
   o1 103 (.len (.t 102)),
   o1 104 (.bin .add (.t 103) (.c (.int .i64 1))),
   o1 105 (.mx [.t 101, .t 104]),
   o1 106 (.sli (.t 98) none (some (.t 105)) none 1),
   ⟨some 11, .tra 106, none, [109, 114, 123, 127, 131, 136, 172, 177, 210, 214, 222, 228, 233, 237, 244, 250, 262, 266, 276, 282, 285, 289, 294]⟩])
  (.seq (.region false [oM 107 10,
   o1 108 (.len (.t 107)),
   oM 12 108])
  (.seq (.region false [o1 109 (.cpy 11),
   o1 110 (.lno 109 11),
   oM 111 12,
   oB 112 .sub 110 111,
   o1 113 (.mks [.int .u32 0] (.t 112)),
   ⟨some 13, .tra 113, none, [295, 299]⟩])
  (.seq (.seq (.region false [o1 114 (.cpy 11),
   o1 115 (.lno 114 11),
   oM 116 12,
   oB 117 .sub 115 116,
   o1 118 (.bin .sub (.t 117) (.c (.int .i64 1))),
   oM 14 118])
  (.block 4 (.loop (.seq (.seq (.region false [oM 119 14,
   o1 120 (.bin .geq (.t 119) (.c (.int .i64 0)))])
  (.cond (.t 120) (.skip)
  (.exit 4)))
  (.seq (.block 5 (.seq (.region true [o1 123 (.cpy 11),
   oM 124 14,
   oM 125 12,
   oB 126 .add 124 125,
   o1 127 (.ixo 123 11 (.t 126) 1),
   o1 128 (.ld 127 11 1 true),
   o1 129 (.cv .u64 (.t 128)),
   o1 130 (.bin .shl (.t 129) (.c (.int .u64 32))),
   o1 131 (.cpy 11),
   oM 132 14,
   oM 133 12,
   oB 134 .add 132 133,
   o1 135 (.bin .sub (.t 134) (.c (.int .i64 1))),
   o1 136 (.ixo 131 11 (.t 135) 1),
   o1 137 (.ld 136 11 1 true),
   o1 138 (.cv .u64 (.t 137)),
   oB 139 .or 130 138,
   oM 15 139])
  (.seq (.region true [oM 140 15,
   oM 141 10,
   oM 142 12,
   o1 143 (.bin .sub (.t 142) (.c (.int .i64 1))),
   o1 144 (.ixa 141 (.t 143) 1),
   o1 145 (.ld 144 144 1 true),
   o1 146 (.cv .u64 (.t 145)),
   oB 147 .quo 140 146,
   oM 148 15,
   oM 149 10,
   oM 150 12,
   o1 151 (.bin .sub (.t 150) (.c (.int .i64 1))),
   o1 152 (.ixa 149 (.t 151) 1),
   o1 153 (.ld 152 152 1 true),
   o1 154 (.cv .u64 (.t 153)),
   oB 155 .rem 148 154,
   oM 16 147,
   oM 17 155])
  (.seq (.block 6 (.loop (.seq (.seq (.region true [oM 156 16,
   o1 157 (.bin .geq (.t 156) (.c (.int .u64 4294967296))),
   oM 158 157,
   oG 159 (.mov (.t 17)) 158 false,
   oG 160 (.bin .lss (.t 159) (.c (.int .u64 4294967296))) 158 false,
   oG 161 (.mov (.t 160)) 158 false,
   oG 162 (.mov (.t 16)) 161 true,
   oG 163 (.mov (.t 10)) 161 true,
   oG 164 (.mov (.t 12)) 161 true,
   oG 165 (.bin .sub (.t 164) (.c (.int .i64 2))) 161 true,
   oG 166 (.ixa 163 (.t 165) 1) 161 true,
   oG 167 (.ld 166 166 1 true) 161 true,
   oG 168 (.cv .u64 (.t 167)) 161 true,
   oG 169 (.bin .mul (.t 162) (.t 168)) 161 true,
   oG 170 (.mov (.t 17)) 161 true,
   oG 171 (.bin .shl (.t 170) (.c (.int .u64 32))) 161 true,
   oG 172 (.cpy 11) 161 true,
   oG 173 (.mov (.t 14)) 161 true,
   oG 174 (.mov (.t 12)) 161 true,
   oG 175 (.bin .add (.t 173) (.t 174)) 161 true,
   oG 176 (.bin .sub (.t 175) (.c (.int .i64 2))) 161 true,
   oG 177 (.ixo 172 11 (.t 176) 1) 161 true,
   oG 178 (.ld 177 11 1 true) 161 true,
   oG 179 (.cv .u64 (.t 178)) 161 true,
   oG 180 (.bin .or (.t 171) (.t 179)) 161 true,
   oG 181 (.bin .gtr (.t 169) (.t 180)) 161 true,
   oG 182 (.pick (.t 161) (.t 181) (.c (.bool false))) 158 false,
   o1 183 (.pick (.t 158) (.c (.bool true)) (.t 182))])
  (.cond (.t 183) (.skip)
  (.exit 6)))
  (.block 7 (.seq (.region false [oM 184 16,
   o1 185 (.bin .sub (.t 184) (.c (.int .u64 1))),
   oM 16 185])
  (.seq (.region false [oM 186 17,
   oM 187 10,
   oM 188 12,
   o1 189 (.bin .sub (.t 188) (.c (.int .i64 1))),
   o1 190 (.ixa 187 (.t 189) 1),
   o1 191 (.ld 190 190 1 true),
   o1 192 (.cv .u64 (.t 191)),
   oB 193 .add 186 192,
   oM 17 193])
  (.seq (.region false [oM 194 17,
   o1 195 (.bin .geq (.t 194) (.c (.int .u64 4294967296)))])
  (.cond (.t 195) (.exit 6)
  (.skip)))))))))
  (.seq (.region false [o1 18 (.mov (.c (.int .u64 0))),
   o1 19 (.mov (.c (.int .u64 0)))])
  (.seq (.seq (.region false [o1 20 (.mov (.c (.int .i64 0)))])
  (.block 8 (.loop (.seq (.seq (.region false [oM 196 20,
   oM 197 12,
   oB 198 .lss 196 197])
  (.cond (.t 198) (.skip)
  (.exit 8)))
  (.seq (.block 9 (.seq (.region false [oM 201 19,
   oM 202 16,
   oM 203 10,
   oM 204 20,
   o1 205 (.ixa 203 (.t 204) 1),
   o1 206 (.ld 205 205 1 true),
   o1 207 (.cv .u64 (.t 206)),
   oB 208 .mul 202 207,
   oB 209 .add 201 208,
   oM 19 209])
  (.seq (.region false [o1 210 (.cpy 11),
   oM 211 20,
   oM 212 14,
   oB 213 .add 211 212,
   o1 214 (.ixo 210 11 (.t 213) 1),
   o1 215 (.ld 214 11 1 true),
   o1 216 (.cv .u64 (.t 215)),
   oM 217 19,
   o1 218 (.bin .and (.t 217) (.c (.int .u64 4294967295))),
   oB 219 .sub 216 218,
   oM 220 18,
   oB 221 .sub 219 220,
   oM 21 221])
  (.seq (.region false [o1 222 (.cpy 11),
   oM 223 20,
   oM 224 14,
   oB 225 .add 223 224,
   oM 226 21,
   o1 227 (.cv .u32 (.t 226)),
   o1 228 (.ixo 222 11 (.t 225) 1),
   oN (.st 228 11 1 (.t 227))])
  (.seq (.region false [oM 229 21,
   o1 230 (.bin .shr (.t 229) (.c (.int .u64 63))),
   oM 18 230])
  (.region false [oM 231 19,
   o1 232 (.bin .shr (.t 231) (.c (.int .u64 32))),
   oM 19 232]))))))
  (.region false [oM 199 20,
   o1 200 (.bin .add (.t 199) (.c (.int .i64 1))),
   oM 20 200]))))))
  (.seq (.region false [o1 233 (.cpy 11),
   oM 234 14,
   oM 235 12,
   oB 236 .add 234 235,
   o1 237 (.ixo 233 11 (.t 236) 1),
   o1 238 (.ld 237 11 1 true),
   o1 239 (.cv .u64 (.t 238)),
   oM 240 19,
   oB 241 .sub 239 240,
   oM 242 18,
   oB 243 .sub 241 242,
   oM 22 243])
  (.seq (.region false [o1 244 (.cpy 11),
   oM 245 14,
   oM 246 12,
   oB 247 .add 245 246,
   oM 248 22,
   o1 249 (.cv .u32 (.t 248)),
   o1 250 (.ixo 244 11 (.t 247) 1),
   oN (.st 250 11 1 (.t 249))])
  (.seq (.seq (.region false [oM 251 22,
   o1 252 (.bin .shr (.t 251) (.c (.int .u64 63))),
   o1 253 (.bin .neq (.t 252) (.c (.int .u64 0)))])
  (.cond (.t 253) (.seq (.region false [oM 254 16,
   o1 255 (.bin .sub (.t 254) (.c (.int .u64 1))),
   oM 16 255])
  (.seq (.region false [o1 23 (.mov (.c (.int .u64 0)))])
  (.seq (.seq (.region false [o1 24 (.mov (.c (.int .i64 0)))])
  (.block 10 (.loop (.seq (.seq (.region false [oM 256 24,
   oM 257 12,
   oB 258 .lss 256 257])
  (.cond (.t 258) (.skip)
  (.exit 10)))
  (.seq (.block 11 (.seq (.region true [oM 261 23,
   o1 262 (.cpy 11),
   oM 263 24,
   oM 264 14,
   oB 265 .add 263 264,
   o1 266 (.ixo 262 11 (.t 265) 1),
   o1 267 (.ld 266 11 1 true),
   o1 268 (.cv .u64 (.t 267)),
   oM 269 10,
   oM 270 24,
   o1 271 (.ixa 269 (.t 270) 1),
   o1 272 (.ld 271 271 1 true),
   o1 273 (.cv .u64 (.t 272)),
   oB 274 .add 268 273,
   oB 275 .add 261 274,
   oM 23 275])
  (.seq (.region false [o1 276 (.cpy 11),
   oM 277 24,
   oM 278 14,
   oB 279 .add 277 278,
   oM 280 23,
   o1 281 (.cv .u32 (.t 280)),
   o1 282 (.ixo 276 11 (.t 279) 1),
   oN (.st 282 11 1 (.t 281))])
  (.region false [oM 283 23,
   o1 284 (.bin .shr (.t 283) (.c (.int .u64 32))),
   oM 23 284]))))
  (.region false [oM 259 24,
   o1 260 (.bin .add (.t 259) (.c (.int .i64 1))),
   oM 24 260]))))))
  (.region false [o1 285 (.cpy 11),
   oM 286 14,
   oM 287 12,
   oB 288 .add 286 287,
   o1 289 (.ixo 285 11 (.t 288) 1),
   o1 290 (.ld 289 11 1 true),
   oM 291 23,
   o1 292 (.cv .u32 (.t 291)),
   oB 293 .add 290 292,
   o1 294 (.ixo 285 11 (.t 288) 1),
   oN (.st 294 11 1 (.t 293))]))))
  (.skip)))
  (.region false [o1 295 (.cpy 13),
   oM 296 14,
   oM 297 16,
   o1 298 (.cv .u32 (.t 297)),
   o1 299 (.ixo 295 13 (.t 296) 1),
   oN (.st 299 13 1 (.t 298))]))))))))))
  (.region false [oM 121 14,
   o1 122 (.bin .sub (.t 121) (.c (.int .i64 1))),
   oM 14 122]))))))
  (.seq (.region false [o1 300 (.frz 13),
   o1 301 (.clo 125 [.t 300]),
   o1 302 (.frz 11),
   o1 303 (.bld [.bool false, .sl 0 []] [(1, 1, .t 302)]),
   oM 304 9,
   oC 305 152 [303, 304],
   o1 306 (.fld (.t 305) 1 1 true),
   o1 4 (.tra 301),
   o1 5 (.tra 306)])
  (.ret))))))))))))⟩
def Try.r149 : List (Nat × Nat) := [(51, 6), (60, 6), (109, 11), (114, 11), (123, 11), (127, 11), (131, 11), (136, 11), (172, 11), (177, 11), (210, 11), (214, 11), (222, 11), (228, 11), (233, 11), (237, 11), (244, 11), (250, 11), (262, 11), (266, 11), (276, 11), (282, 11), (285, 11), (289, 11), (294, 11), (295, 13), (299, 13)]
theorem Try.i149_ok : fnOk Try.prog Try.r149 Try.f149 Try.i149 = true := by kernel_rfl
def Try.i150 : IFunc := ⟨2, 41, [.tmp 4],
  .seq (.region false [o1 4 (.mov (.c (.int .i64 0)))])
  (.seq (.seq (.region false [oM 6 0,
   o1 7 (.len (.t 6)),
   oM 8 1,
   o1 9 (.len (.t 8)),
   oB 10 .neq 7 9])
  (.cond (.t 10) (.seq (.seq (.region false [oM 11 0,
   o1 12 (.len (.t 11)),
   oM 13 1,
   o1 14 (.len (.t 13)),
   oB 15 .lss 12 14])
  (.cond (.t 15) (.seq (.region false [o1 4 (.mov (.c (.int .i64 (-1))))])
  (.ret))
  (.skip)))
  (.seq (.region false [o1 4 (.mov (.c (.int .i64 1)))])
  (.ret)))
  (.skip)))
  (.seq (.seq (.region false [oM 16 0,
   o1 17 (.len (.t 16)),
   o1 18 (.bin .sub (.t 17) (.c (.int .i64 1))),
   oM 5 18])
  (.block 0 (.loop (.seq (.seq (.region false [oM 19 5,
   o1 20 (.bin .geq (.t 19) (.c (.int .i64 0)))])
  (.cond (.t 20) (.skip)
  (.exit 0)))
  (.seq (.block 1 (.seq (.region true [oM 23 0,
   oM 24 5,
   o1 25 (.ixa 23 (.t 24) 1),
   o1 26 (.ld 25 25 1 true),
   oM 27 1,
   oM 28 5,
   o1 29 (.ixa 27 (.t 28) 1),
   o1 30 (.ld 29 29 1 true),
   oB 31 .neq 26 30])
  (.cond (.t 31) (.seq (.seq (.region true [oM 32 0,
   oM 33 5,
   o1 34 (.ixa 32 (.t 33) 1),
   o1 35 (.ld 34 34 1 true),
   oM 36 1,
   oM 37 5,
   o1 38 (.ixa 36 (.t 37) 1),
   o1 39 (.ld 38 38 1 true),
   oB 40 .lss 35 39])
  (.cond (.t 40) (.seq (.region false [o1 4 (.mov (.c (.int .i64 (-1))))])
  (.ret))
  (.skip)))
  (.seq (.region false [o1 4 (.mov (.c (.int .i64 1)))])
  (.ret)))
  (.skip))))
  (.region false [oM 21 5,
   o1 22 (.bin .sub (.t 21) (.c (.int .i64 1))),
   oM 5 22]))))))
  (.seq (.region false [o1 4 (.mov (.c (.int .i64 0)))])
  (.ret))))⟩
def Try.r150 : List (Nat × Nat) := []
theorem Try.i150_ok : fnOk Try.prog Try.r150 Try.f150 Try.i150 = true := by kernel_rfl
def Try.i151 : IFunc := ⟨2, 103, [.cell 4 2 false],
  .seq (.region false [o1 2 (.box (.t 0) []),
   o1 4 (.new [.bool false, .sl 0 []] [])])
  (.seq (.region false [o1 15 (.ld 2 2 2 false),
   oC 16 122 [15],
   oM 14 16,
   o1 17 (.ext (.t 14) 0),
   o1 18 (.ext (.t 14) 1),
   oM 5 17,
   oM 6 18])
  (.seq (.region false [oM 19 1,
   o1 20 (.bin .quo (.t 19) (.c (.int .i64 32))),
   oM 21 1,
   o1 22 (.bin .rem (.t 21) (.c (.int .i64 32))),
   o1 23 (.cv .u64 (.t 22)),
   oM 7 20,
   oM 8 23])
  (.seq (.region false [o1 9 (.mov (.c (.bool false)))])
  (.seq (.seq (.region false [o1 10 (.mov (.c (.int .i64 0)))])
  (.block 0 (.loop (.seq (.seq (.region false [oM 24 10,
   oM 25 7,
   oB 26 .lss 24 25,
   oM 27 26,
   oG 28 (.mov (.t 10)) 27 true,
   oG 29 (.mov (.t 6)) 27 true,
   oG 30 (.len (.t 29)) 27 true,
   oG 31 (.bin .lss (.t 28) (.t 30)) 27 true,
   o1 32 (.pick (.t 27) (.t 31) (.c (.bool false)))])
  (.cond (.t 32) (.skip)
  (.exit 0)))
  (.seq (.block 1 (.region false [oM 35 9,
   oM 36 35,
   oG 37 (.mov (.t 6)) 36 false,
   oG 38 (.mov (.t 10)) 36 false,
   oG 39 (.ixa 37 (.t 38) 1) 36 false,
   oG 40 (.ld 39 39 1 true) 36 false,
   oG 41 (.bin .neq (.t 40) (.c (.int .u32 0))) 36 false,
   o1 42 (.pick (.t 36) (.c (.bool true)) (.t 41)),
   oM 9 42]))
  (.region false [oM 33 10,
   o1 34 (.bin .add (.t 33) (.c (.int .i64 1))),
   oM 10 34]))))))
  (.seq (.region false [o1 11 (.nlo 1)])
  (.seq (.seq (.region false [oM 43 7,
   oM 12 43])
  (.block 2 (.loop (.seq (.seq (.region false [oM 44 12,
   oM 45 6,
   o1 46 (.len (.t 45)),
   oB 47 .lss 44 46])
  (.cond (.t 47) (.skip)
  (.exit 2)))
  (.seq (.block 3 (.seq (.region false [oM 50 6,
   oM 51 12,
   o1 52 (.ixa 50 (.t 51) 1),
   o1 53 (.ld 52 52 1 true),
   o1 54 (.cv .u64 (.t 53)),
   oM 13 54])
  (.seq (.seq (.region false [oM 55 12,
   o1 56 (.bin .add (.t 55) (.c (.int .i64 1))),
   oM 57 6,
   o1 58 (.len (.t 57)),
   oB 59 .lss 56 58])
  (.cond (.t 59) (.region false [oM 60 13,
   oM 61 6,
   oM 62 12,
   o1 63 (.bin .add (.t 62) (.c (.int .i64 1))),
   o1 64 (.ixa 61 (.t 63) 1),
   o1 65 (.ld 64 64 1 true),
   o1 66 (.cv .u64 (.t 65)),
   o1 67 (.bin .shl (.t 66) (.c (.int .u64 32))),
   oB 68 .or 60 67,
   oM 13 68])
  (.skip)))
  (.region false [o1 69 (.tra 11),
   oM 70 13,
   oM 71 8,
   oB 72 .shr 70 71,
   o1 73 (.cv .u32 (.t 72)),
   o1 74 (.bls 1 [.int .u32 0] [(0, 1, .t 73)]),
   o1 75 (.apd true (.t 69) (.t 74) 1),
   o1 11 (.tra 75)]))))
  (.region false [oM 48 12,
   o1 49 (.bin .add (.t 48) (.c (.int .i64 1))),
   oM 12 49]))))))
  (.seq (.seq (.region false [oM 76 7,
   oM 77 6,
   o1 78 (.len (.t 77)),
   oB 79 .lss 76 78,
   oM 80 79,
   oG 81 (.mov (.t 6)) 80 true,
   oG 82 (.mov (.t 7)) 80 true,
   oG 83 (.ixa 81 (.t 82) 1) 80 true,
   oG 84 (.ld 83 83 1 true) 80 true,
   oG 85 (.mov (.t 8)) 80 true,
   oG 86 (.bin .shl (.c (.int .u32 1)) (.t 85)) 80 true,
   oG 87 (.bin .sub (.t 86) (.c (.int .u32 1))) 80 true,
   oG 88 (.bin .and (.t 84) (.t 87)) 80 true,
   oG 89 (.bin .neq (.t 88) (.c (.int .u32 0))) 80 true,
   o1 90 (.pick (.t 80) (.t 89) (.c (.bool false)))])
  (.cond (.t 90) (.region false [o1 9 (.mov (.c (.bool true)))])
  (.skip)))
  (.seq (.seq (.region false [oM 91 5,
   oM 92 91,
   oG 93 (.mov (.t 9)) 92 true,
   o1 94 (.pick (.t 92) (.t 93) (.c (.bool false)))])
  (.cond (.t 94) (.seq (.region false [o1 95 (.frz 11),
   oC 96 158 [95],
   o1 97 (.bls 1 [.int .u32 0] [(0, 1, .c (.int .u32 1))]),
   oC 98 156 [96, 97],
   o1 99 (.call 133 [.c (.bool true), .t 98]),
   oN (.st 4 4 2 (.t 99))])
  (.ret))
  (.skip)))
  (.seq (.region false [oM 100 5,
   o1 101 (.frz 11),
   oC 102 133 [100, 101],
   oN (.st 4 4 2 (.t 102))])
  (.ret))))))))))⟩
def Try.r151 : List (Nat × Nat) := []
theorem Try.i151_ok : fnOk Try.prog Try.r151 Try.f151 Try.i151 = true := by kernel_rfl
def Try.i152 : IFunc := ⟨2, 104, [.cell 4 2 false],
  .seq (.region false [o1 2 (.box (.t 0) [13, 91, 95]),
   o1 4 (.new [.bool false, .sl 0 []] [])])
  (.seq (.region false [o1 13 (.adr 2 2 1),
   o1 14 (.ld 13 2 1 true),
   oC 15 125 [14],
   oM 5 15])
  (.seq (.region false [o1 6 (.nlo 1)])
  (.seq (.region false [o1 7 (.mov (.c (.bool false)))])
  (.seq (.seq (.region false [o1 8 (.mov (.c (.int .i64 0)))])
  (.block 0 (.loop (.seq (.seq (.region false [oM 16 8,
   oM 17 5,
   o1 18 (.len (.t 17)),
   oB 19 .lss 16 18,
   oM 20 19,
   oG 21 (.mov (.t 8)) 20 true,
   oG 22 (.mov (.t 1)) 20 true,
   oG 23 (.bin .quo (.t 22) (.c (.int .i64 32))) 20 true,
   oG 24 (.bin .lss (.t 21) (.t 23)) 20 true,
   o1 25 (.pick (.t 20) (.t 24) (.c (.bool false)))])
  (.cond (.t 25) (.skip)
  (.exit 0)))
  (.seq (.block 1 (.region false [oM 28 7,
   oM 29 28,
   oG 30 (.mov (.t 5)) 29 false,
   oG 31 (.mov (.t 8)) 29 false,
   oG 32 (.ixa 30 (.t 31) 1) 29 false,
   oG 33 (.ld 32 32 1 true) 29 false,
   oG 34 (.bin .neq (.t 33) (.c (.int .u32 0))) 29 false,
   o1 35 (.pick (.t 29) (.c (.bool true)) (.t 34)),
   oM 7 35]))
  (.region false [oM 26 8,
   o1 27 (.bin .add (.t 26) (.c (.int .i64 1))),
   oM 8 27]))))))
  (.seq (.region false [oM 36 1,
   o1 37 (.bin .rem (.t 36) (.c (.int .i64 32))),
   o1 38 (.cv .u64 (.t 37)),
   oM 9 38])
  (.seq (.seq (.region false [oM 39 1,
   o1 40 (.bin .quo (.t 39) (.c (.int .i64 32))),
   oM 10 40])
  (.block 2 (.loop (.seq (.seq (.region false [oM 41 10,
   oM 42 5,
   o1 43 (.len (.t 42)),
   oB 44 .lss 41 43])
  (.cond (.t 44) (.skip)
  (.exit 2)))
  (.seq (.block 3 (.seq (.region false [oM 47 5,
   oM 48 10,
   o1 49 (.ixa 47 (.t 48) 1),
   o1 50 (.ld 49 49 1 true),
   o1 51 (.cv .u64 (.t 50)),
   oM 11 51])
  (.seq (.seq (.region false [oM 52 10,
   o1 53 (.bin .add (.t 52) (.c (.int .i64 1))),
   oM 54 5,
   o1 55 (.len (.t 54)),
   oB 56 .lss 53 55])
  (.cond (.t 56) (.region false [oM 57 11,
   oM 58 5,
   oM 59 10,
   o1 60 (.bin .add (.t 59) (.c (.int .i64 1))),
   o1 61 (.ixa 58 (.t 60) 1),
   o1 62 (.ld 61 61 1 true),
   o1 63 (.cv .u64 (.t 62)),
   o1 64 (.bin .shl (.t 63) (.c (.int .u64 32))),
   oB 65 .or 57 64,
   oM 11 65])
  (.skip)))
  (.region false [o1 66 (.tra 6),
   oM 67 11,
   oM 68 9,
   oB 69 .shr 67 68,
   o1 70 (.cv .u32 (.t 69)),
   o1 71 (.bls 1 [.int .u32 0] [(0, 1, .t 70)]),
   o1 72 (.apd true (.t 66) (.t 71) 1),
   o1 6 (.tra 72)]))))
  (.region false [oM 45 10,
   o1 46 (.bin .add (.t 45) (.c (.int .i64 1))),
   oM 10 46]))))))
  (.seq (.seq (.region false [oM 73 1,
   o1 74 (.bin .quo (.t 73) (.c (.int .i64 32))),
   oM 75 5,
   o1 76 (.len (.t 75)),
   oB 77 .lss 74 76])
  (.cond (.t 77) (.region false [oM 78 7,
   oM 79 78,
   oG 80 (.mov (.t 5)) 79 false,
   oG 81 (.mov (.t 1)) 79 false,
   oG 82 (.bin .quo (.t 81) (.c (.int .i64 32))) 79 false,
   oG 83 (.ixa 80 (.t 82) 1) 79 false,
   oG 84 (.ld 83 83 1 true) 79 false,
   oG 85 (.mov (.t 9)) 79 false,
   oG 86 (.bin .shl (.c (.int .u32 1)) (.t 85)) 79 false,
   oG 87 (.bin .sub (.t 86) (.c (.int .u32 1))) 79 false,
   oG 88 (.bin .and (.t 84) (.t 87)) 79 false,
   oG 89 (.bin .neq (.t 88) (.c (.int .u32 0))) 79 false,
   o1 90 (.pick (.t 79) (.c (.bool true)) (.t 89)),
   oM 7 90])
  (.skip)))
  (.seq (.region false [o1 91 (.adr 2 2 0),
   o1 92 (.ld 91 2 1 true),
   o1 93 (.frz 6),
   oC 94 106 [92, 93],
   o1 12 (.new [.bool false, .sl 0 []] []),
   oN (.st 12 12 2 (.t 94))])
  (.seq (.seq (.region false [o1 95 (.adr 2 2 0),
   o1 96 (.ld 95 2 1 true),
   oM 97 96,
   oG 98 (.mov (.t 7)) 97 true,
   o1 99 (.pick (.t 97) (.t 98) (.c (.bool false)))])
  (.cond (.t 99) (.seq (.region true [o1 100 (.ld 12 12 2 false),
   o1 101 (.call 56 [.c (.int .i64 1)]),
   oC 102 118 [100, 101],
   oN (.st 4 4 2 (.t 102))])
  (.ret))
  (.skip)))
  (.seq (.region false [o1 103 (.ld 12 12 2 false),
   oN (.st 4 4 2 (.t 103))])
  (.ret)))))))))))⟩
def Try.r152 : List (Nat × Nat) := [(13, 2), (91, 2), (95, 2)]
theorem Try.i152_ok : fnOk Try.prog Try.r152 Try.f152 Try.i152 = true := by kernel_rfl
def Try.i153 : IFunc := ⟨2, 43, [.tmp 4, .tmp 5],
  .seq (.region false [o1 4 (.nlo 1),
   o1 5 (.mov (.c (.int .u32 0)))])
  (.seq (.region false [oM 10 0,
   o1 11 (.len (.t 10)),
   o1 12 (.mks [.int .u32 0] (.t 11)),
   ⟨some 6, .tra 12, none, [28, 39]⟩])
  (.seq (.region false [o1 7 (.mov (.c (.int .u64 0)))])
  (.seq (.seq (.region false [oM 13 0,
   o1 14 (.len (.t 13)),
   o1 15 (.bin .sub (.t 14) (.c (.int .i64 1))),
   oM 8 15])
  (.block 0 (.loop (.seq (.seq (.region false [oM 16 8,
   o1 17 (.bin .geq (.t 16) (.c (.int .i64 0)))])
  (.cond (.t 17) (.skip)
  (.exit 0)))
  (.seq (.block 1 (.seq (.region false [oM 20 7,
   o1 21 (.bin .shl (.t 20) (.c (.int .u64 32))),
   oM 22 0,
   oM 23 8,
   o1 24 (.ixa 22 (.t 23) 1),
   o1 25 (.ld 24 24 1 true),
   o1 26 (.cv .u64 (.t 25)),
   oB 27 .or 21 26,
   oM 9 27])
  (.region true [o1 28 (.cpy 6),
   oM 29 8,
   oM 30 9,
   oM 31 1,
   o1 32 (.cv .u64 (.t 31)),
   oB 33 .quo 30 32,
   o1 34 (.cv .u32 (.t 33)),
   oM 35 9,
   oM 36 1,
   o1 37 (.cv .u64 (.t 36)),
   oB 38 .rem 35 37,
   o1 39 (.ixo 28 6 (.t 29) 1),
   oN (.st 39 6 1 (.t 34)),
   oM 7 38])))
  (.region false [oM 18 8,
   o1 19 (.bin .sub (.t 18) (.c (.int .i64 1))),
   oM 8 19]))))))
  (.seq (.region false [o1 40 (.tra 6),
   oM 41 7,
   o1 42 (.cv .u32 (.t 41)),
   o1 4 (.tra 40),
   oM 5 42])
  (.ret)))))⟩
def Try.r153 : List (Nat × Nat) := [(28, 6), (39, 6)]
theorem Try.i153_ok : fnOk Try.prog Try.r153 Try.f153 Try.i153 = true := by kernel_rfl
end Go.Proofs.Ythnnfemologhfaa
