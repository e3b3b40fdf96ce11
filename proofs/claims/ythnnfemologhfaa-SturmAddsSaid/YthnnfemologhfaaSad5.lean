/- Texts of the proof of SturmAdds, packed by pack.py: part 5 of 15. -/
import Derived.Test.YthnnfemologhfaaProg
import Derived.KernelRfl
import Derived.Test.YthnnfemologhfaaSad4
namespace Go.Proofs.Ythnnfemologhfaa
open Go.IntKind (i64 u64 u32)
open Go.Ai
set_option maxRecDepth 100000
def Zr8:ICode := .seq (.seq (rg [oM 29 7,oM 30 1,o1 31 (.len (.t 30)),oB 32 .lss 29 31]) (.cond (.t 32) (.skip) (.exit 0))) (.seq (.block 1 (.seq (rg [oM 35 5,oM 36 1,oM 37 7,o1 38 (.ixa 36 (.t 37) 1),o1 39 (.ld 38 38 1 true),o1 40 (.call 55 [.t 39, .c (.int .i64 9)]),oB 41 .add 35 40,oM 8 41]) (.seq (rg [oM 43 0,oM 44 5,oC 45 56 [44],o1 46 (.bld [.bool false, .sl 0 [], .int .i64 0] [(0,2, .t 45),(2,1, .c (.int .i64 1))]),oM 47 8,oC 48 56 [47],o1 49 (.bld [.bool false, .sl 0 [], .int .i64 0] [(0,2, .t 48),(2,1, .c (.int .i64 1))]),oC 50 50 [43,46,49],oM 42 50,o1 51 (.ext (.t 42) 0),o1 52 (.ext (.t 42) 1),oM 9 51,oM 10 52]) (.seq (.seq (rg [oM 53 10,o1 54 (.bin .neq (.t 53) (ci 0)),oM 55 54,oG 56 (.mov (.t 9)) 55 false,oG 57 (.bin .lss (.t 56) (ci 0)) 55 false,o1 58 (.pick (.t 55) (.c (.bool true)) (.t 57)),oM 59 58,oG 60 (.mov (.t 8)) 59 false,oG 61 (.mov (.t 5)) 59 false,oG 62 (.bin .eql (.t 60) (.t 61)) 59 false,oG 63 (.mov (.t 62)) 59 false,oG 64 (.mov (.t 9)) 63 true,oG 65 (.bin .neq (.t 64) (ci 0)) 63 true,oG 66 (.pick (.t 63) (.t 65) (.c (.bool false))) 59 false,o1 67 (.pick (.t 59) (.c (.bool true)) (.t 66))]) (.cond (.t 67) (.seq (rg [o1 4 (.mov (.c (.bool false)))]) (.ret)) (.skip))) (.seq (rg [oM 68 6,oM 69 9,oB 70 .add 68 69,oM 6 70]) (rg [oM 71 8,oM 5 71])))))) (rg [oM 33 7,o1 34 (.bin .add (.t 33) (ci 1)),oM 7 34]))
def Zl1:IFunc:=⟨2,95,[.tmp 4], .seq (rg [o1 4 (.mov (.c (.bool false)))]) (.seq (.seq (rg [oC 13 47 [],o1 14 (.un .not (.t 13))]) (.cond (.t 14) (.seq (rg [o1 4 (.mov (.c (.bool false)))]) (.ret)) (.skip))) (.seq (.seq (rg [oM 15 0,oC 16 48 [15],o1 17 (.un .not (.t 16)),oM 18 17,oG 19 (.mov (.t 0)) 18 false,oG 20 (.call 44 [.t 19]) 18 false,oG 21 (.bin .lss (.t 20) (ci 0)) 18 false,o1 22 (.pick (.t 18) (.c (.bool true)) (.t 21)),oM 23 22,oG 24 (.mov (.t 1)) 23 false,oG 25 (.len (.t 24)) 23 false,oG 26 (.bin .gtr (.t 25) (ci 12)) 23 false,o1 27 (.pick (.t 23) (.c (.bool true)) (.t 26))]) (.cond (.t 27) (.seq (rg [oC 28 47 [],oM 4 28]) (.ret)) (.skip))) (.seq (rg [o1 5 (.mov (ci (-60)))]) (.seq (rg [o1 6 (.mov (ci 0))]) (.seq (.seq (rg [o1 7 (.mov (ci 0))]) (.block 0 (.loop Zr8))) (.seq (rg [oM 73 0,o1 74 (.call 56 [.c (.int .i64 (-60))]),o1 75 (.bld [.bool false, .sl 0 [], .int .i64 0] [(0,2, .t 74),(2,1, .c (.int .i64 1))]),oM 76 5,oC 77 56 [76],o1 78 (.bld [.bool false, .sl 0 [], .int .i64 0] [(0,2, .t 77),(2,1, .c (.int .i64 1))]),oC 79 50 [73,75,78],oM 72 79,o1 80 (.ext (.t 72) 0),o1 81 (.ext (.t 72) 1),oM 11 80,oM 12 81]) (.seq (rg [oM 82 12,o1 83 (.bin .eql (.t 82) (ci 0)),oM 84 83,oG 85 (.mov (.t 11)) 84 true,oG 86 (.mov (.t 6)) 84 true,oG 87 (.bin .eql (.t 85) (.t 86)) 84 true,o1 88 (.pick (.t 84) (.t 87) (.c (.bool false))),oM 89 88,oG 90 (.mov (.t 6)) 89 true,oG 91 (.mov (.t 0)) 89 true,oG 92 (.call 44 [.t 91]) 89 true,oG 93 (.bin .leq (.t 90) (.t 92)) 89 true,o1 94 (.pick (.t 89) (.t 93) (.c (.bool false))),oM 4 94]) (.ret))))))))⟩
def Yr11:List (Nat × Nat):=[]
theorem Zrm:J2 Try.prog Yr11 Try.f11 Zl1=true:=by kernel_rfl
def Yi28:IFunc:=⟨2,27,[.tmp 4], .seq (rg [o1 4 (.mov (.c (.bool false)))]) (.seq (.seq (rg [oM 6 0,o1 7 (.len (.t 6)),oM 8 1,o1 9 (.len (.t 8)),oB 10 .neq 7 9]) (.cond (.t 10) (.seq (rg [o1 4 (.mov (.c (.bool false)))]) (.ret)) (.skip))) (.seq (.seq (rg [o1 5 (.mov (ci 0))]) (.block 0 (.loop (.seq (.seq (rg [oM 11 5,oM 12 0,o1 13 (.len (.t 12)),oB 14 .lss 11 13]) (.cond (.t 14) (.skip) (.exit 0))) (.seq (.block 1 (.seq (.region true [oM 17 0,oM 18 5,o1 19 (.ixa 17 (.t 18) 2),o1 20 (.ld 19 19 2 false),oM 21 1,oM 22 5,o1 23 (.ixa 21 (.t 22) 2),o1 24 (.ld 23 23 2 false),oC 25 41 [20,24],o1 26 (.un .not (.t 25))]) (.cond (.t 26) (.seq (rg [o1 4 (.mov (.c (.bool false)))]) (.ret)) (.skip)))) (rg [oM 15 5,o1 16 (.bin .add (.t 15) (ci 1)),oM 5 16])))))) (.seq (rg [o1 4 (.mov (.c (.bool true)))]) (.ret))))⟩
def Yr28:List (Nat × Nat):=[]
theorem Zrl:J2 Try.prog Yr28 Try.f28 Yi28=true:=by kernel_rfl
def Yi34:IFunc:=⟨1,9,[.tmp 2, .tmp 3], .seq (rg [o1 2 (.nlo 2),o1 3 (.mov (ci 0))]) (.seq (.seq (rg [oM 4 0,o1 5 (.bls 1 [.sl 0 []] [(0,1, .t 4)]),oC 6 61 [5]]) (.cond (.t 6) (.seq (rg [o1 2 (.nlo 2),o1 3 (.mov (ci 2))]) (.ret)) (.skip))) (.seq (rg [oM 7 0,o1 8 (.clo 86 [.t 7]),o1 2 (.tra 8),o1 3 (.mov (ci 0))]) (.ret)))⟩
def Yr34:List (Nat × Nat):=[]
theorem Zrk:J2 Try.prog Yr34 Try.f34 Yi34=true:=by kernel_rfl
def Yi41:IFunc:=⟨2,38,[.tmp 4], .seq (rg [o1 2 (.box (.t 0) [6,12,21,27]),o1 3 (.box (.t 1) [8,15,32]),o1 4 (.mov (.c (.bool false)))]) (.seq (.seq (rg [o1 6 (.adr 2 2 0),o1 7 (.ld 6 2 1 true),o1 8 (.adr 3 3 0),o1 9 (.ld 8 3 1 true),o1 10 (.eqb true (.t 7) (.t 9)),oM 11 10,oG 12 (.adr 2 2 1) 11 false,oG 13 (.ld 12 2 1 true) 11 false,oG 14 (.len (.t 13)) 11 false,oG 15 (.adr 3 3 1) 11 false,oG 16 (.ld 15 3 1 true) 11 false,oG 17 (.len (.t 16)) 11 false,oG 18 (.bin .neq (.t 14) (.t 17)) 11 false,o1 19 (.pick (.t 11) (.c (.bool true)) (.t 18))]) (.cond (.t 19) (.seq (rg [o1 4 (.mov (.c (.bool false)))]) (.ret)) (.skip))) (.seq (.seq (rg [o1 5 (.mov (ci 0))]) (.block 0 (.loop (.seq (.seq (rg [oM 20 5,o1 21 (.adr 2 2 1),o1 22 (.ld 21 2 1 true),o1 23 (.len (.t 22)),oB 24 .lss 20 23]) (.cond (.t 24) (.skip) (.exit 0))) (.seq (.block 1 (.seq (.region true [o1 27 (.adr 2 2 1),o1 28 (.ld 27 2 1 true),oM 29 5,o1 30 (.ixa 28 (.t 29) 1),o1 31 (.ld 30 30 1 true),o1 32 (.adr 3 3 1),o1 33 (.ld 32 3 1 true),oM 34 5,o1 35 (.ixa 33 (.t 34) 1),o1 36 (.ld 35 35 1 true),oB 37 .neq 31 36]) (.cond (.t 37) (.seq (rg [o1 4 (.mov (.c (.bool false)))]) (.ret)) (.skip)))) (rg [oM 25 5,o1 26 (.bin .add (.t 25) (ci 1)),oM 5 26])))))) (.seq (rg [o1 4 (.mov (.c (.bool true)))]) (.ret))))⟩
def Yr41:List (Nat × Nat):=[(6,2),(8,3),(12,2),(15,3),(21,2),(27,2),(32,3)]
theorem Zrj:J2 Try.prog Yr41 Try.f41 Yi41=true:=by kernel_rfl
def Ze6:ICode := .seq (.seq (rg [oM 21 5,oM 22 3,oB 23 .lss 21 22]) (.cond (.t 23) (.skip) (.exit 2))) (.seq (.block 3 (rg [o1 26 (.tra 4),oM 27 0,oM 28 5,o1 29 (.ixa 27 (.t 28) 2),o1 30 (.ld 29 29 2 false),oC 31 93 [30],o1 32 (.bls 1 [.bool false, .sl 0 []] [(0,2, .t 31)]),o1 33 (.apd true (.t 26) (.t 32) 2),o1 4 (.tra 33)])) (rg [oM 24 5,o1 25 (.bin .add (.t 24) (ci 1)),oM 5 25]))
def Zal:ICode := .seq (.seq (rg [oM 8 3,o1 9 (.bin .gtr (.t 8) (ci 0)),oM 10 9,oG 11 (.mov (.t 0)) 10 true,oG 12 (.mov (.t 3)) 10 true,oG 13 (.bin .sub (.t 12) (ci 1)) 10 true,oG 14 (.ixa 11 (.t 13) 2) 10 true,oG 15 (.ld 14 14 2 false) 10 true,oG 16 (.call 81 [.t 15]) 10 true,oG 17 (.bin .eql (.t 16) (ci 0)) 10 true,o1 18 (.pick (.t 10) (.t 17) (.c (.bool false)))]) (.cond (.t 18) (.skip) (.exit 0))) (.block 1 (rg [oM 19 3,o1 20 (.bin .sub (.t 19) (ci 1)),oM 3 20]))
def Yi43:IFunc:=⟨1,35,[.tmp 2], .seq (rg [o1 2 (.nlo 2)]) (.seq (rg [oM 6 0,o1 7 (.len (.t 6)),oM 3 7]) (.seq (.block 0 (.loop Zal)) (.seq (rg [o1 4 (.nlo 2)]) (.seq (.seq (rg [o1 5 (.mov (ci 0))]) (.block 2 (.loop Ze6))) (.seq (rg [o1 34 (.tra 4),o1 2 (.tra 34)]) (.ret))))))⟩
def Yr43:List (Nat × Nat):=[]
theorem Zri:J2 Try.prog Yr43 Try.f43 Yi43=true:=by kernel_rfl
def Yi44:IFunc:=⟨1,7,[.tmp 2], .seq (rg [o1 2 (.mov (ci 0))]) (.seq (rg [oM 3 0,oC 4 43 [3],o1 5 (.len (.t 4)),o1 6 (.bin .sub (.t 5) (ci 1)),oM 2 6]) (.ret))⟩
def Yr44:List (Nat × Nat):=[]
theorem Zrh:J2 Try.prog Yr44 Try.f44 Yi44=true:=by kernel_rfl
def Yi47:IFunc:=⟨0,86,[.tmp 0], .seq (rg [o1 0 (.mov (.c (.bool false)))]) (.seq (rg [o1 11 (.bls 3 [.int .i64 0, .int .i64 0, .int .i64 0] [(0,1, .c (.int .i64 (-2))),(1,1, .c (.int .i64 0)),(2,1, .c (.int .i64 1))]),oC 12 52 [11],o1 13 (.bls 3 [.int .i64 0, .int .i64 0, .int .i64 0] [(0,1, .c (.int .i64 0)),(1,1, .c (.int .i64 (-1))),(2,1, .c (.int .i64 1))]),oC 14 52 [13],oM 1 12,oM 2 14]) (.seq (rg [oM 16 1,o1 17 (.call 54 [.c (.int .i64 0)]),o1 18 (.call 54 [.c (.int .i64 2)]),oC 19 50 [16,17,18],oM 15 19,o1 20 (.ext (.t 15) 0),o1 21 (.ext (.t 15) 1),oM 3 20,oM 4 21]) (.seq (rg [oM 23 2,o1 24 (.call 54 [.c (.int .i64 0)]),o1 25 (.call 54 [.c (.int .i64 1)]),oC 26 50 [23,24,25],oM 22 26,o1 27 (.ext (.t 22) 0),o1 28 (.ext (.t 22) 1),oM 5 27,oM 6 28]) (.seq (rg [oM 30 1,oC 31 95 [30],oM 29 31,o1 32 (.ext (.t 29) 0),o1 33 (.ext (.t 29) 1),oM 7 32,oM 8 33]) (.seq (rg [o1 35 (.call 54 [.c (.int .i64 1)]),o1 36 (.call 54 [.c (.int .i64 2)]),oC 37 59 [35,36],oM 34 37,o1 38 (.ext (.t 34) 0),o1 39 (.ext (.t 34) 1),o1 9 (.new [.bool false, .sl 0 [], .int .i64 0] [76,81]),oN (.st 9 9 3 (.t 38)),oM 10 39]) (.seq (.region true [oM 40 4,o1 41 (.bin .eql (.t 40) (ci 0)),oM 42 41,oG 43 (.mov (.t 6)) 42 true,oG 44 (.bin .eql (.t 43) (ci 0)) 42 true,o1 45 (.pick (.t 42) (.t 44) (.c (.bool false))),oM 46 45,oG 47 (.mov (.t 8)) 46 true,oG 48 (.bin .eql (.t 47) (ci 0)) 46 true,o1 49 (.pick (.t 46) (.t 48) (.c (.bool false))),oM 50 49,oG 51 (.mov (.t 10)) 50 true,oG 52 (.bin .eql (.t 51) (ci 0)) 50 true,o1 53 (.pick (.t 50) (.t 52) (.c (.bool false))),oM 54 53,oG 55 (.mov (.t 3)) 54 true,oG 56 (.bin .eql (.t 55) (ci 1)) 54 true,o1 57 (.pick (.t 54) (.t 56) (.c (.bool false))),oM 58 57,oG 59 (.mov (.t 5)) 58 true,oG 60 (.bin .eql (.t 59) (ci 1)) 58 true,o1 61 (.pick (.t 58) (.t 60) (.c (.bool false))),oM 62 61,oG 63 (.mov (.t 7)) 62 true,oG 64 (.len (.t 63)) 62 true,oG 65 (.bin .eql (.t 64) (ci 3)) 62 true,o1 66 (.pick (.t 62) (.t 65) (.c (.bool false))),oM 67 66,oG 68 (.mov (.t 7)) 67 true,oG 69 (.ixa 68 (ci 2) 1) 67 true,oG 70 (.ld 69 69 1 true) 67 true,oG 71 (.bls 1 [.int .i64 0] [(0,1, .c (.int .i64 1))]) 67 true,oG 72 (.call 52 [.t 71]) 67 true,oG 73 (.call 28 [.t 70, .t 72]) 67 true,o1 74 (.pick (.t 67) (.t 73) (.c (.bool false))),oM 75 74,oG 76 (.adr 9 9 2) 75 true,oG 77 (.ld 76 9 1 true) 75 true,oG 78 (.bin .eql (.t 77) (ci 1)) 75 true,o1 79 (.pick (.t 75) (.t 78) (.c (.bool false))),oM 80 79,oG 81 (.adr 9 9 0) 80 true,oG 82 (.ld 81 9 2 false) 80 true,oG 83 (.call 56 [.c (.int .i64 3)]) 80 true,oG 84 (.call 41 [.t 82, .t 83]) 80 true,o1 85 (.pick (.t 80) (.t 84) (.c (.bool false))),oM 0 85]) (.ret)))))))⟩
def Yr47:List (Nat × Nat):=[(76,9),(81,9)]
theorem Zrg:J2 Try.prog Yr47 Try.f47 Yi47=true:=by kernel_rfl
def Zk5:ICode := .seq (.seq (rg [oM 7 3,oM 8 0,o1 9 (.len (.t 8)),oB 10 .lss 7 9]) (.cond (.t 10) (.skip) (.exit 0))) (.seq (.block 1 (.seq (rg [oM 13 0,oM 14 3,o1 15 (.ixa 13 (.t 14) 2),o1 16 (.adr 15 20 1),o1 17 (.ld 16 16 1 true),o1 18 (.len (.t 17)),o1 19 (.bin .gtr (.t 18) (ci 4))]) (.cond (.t 19) (.seq (rg [o1 2 (.mov (.c (.bool false)))]) (.ret)) (.skip)))) (rg [oM 11 3,o1 12 (.bin .add (.t 11) (ci 1)),oM 3 12]))
def Zrf:IFunc:=⟨1,20,[.tmp 2], .seq (rg [o1 2 (.mov (.c (.bool false)))]) (.seq (.seq (rg [oM 4 0,o1 5 (.len (.t 4)),o1 6 (.bin .gtr (.t 5) (ci 9))]) (.cond (.t 6) (.seq (rg [o1 2 (.mov (.c (.bool false)))]) (.ret)) (.skip))) (.seq (.seq (rg [o1 3 (.mov (ci 0))]) (.block 0 (.loop Zk5))) (.seq (rg [o1 2 (.mov (.c (.bool true)))]) (.ret))))⟩
def Yr48:List (Nat × Nat):=[(16,20)]
theorem Zre:J2 Try.prog Yr48 Try.f48 Zrf=true:=by kernel_rfl
def Yi50:IFunc:=⟨3,49,[.tmp 6, .tmp 7], .seq (rg [o1 4 (.box (.t 1) []),o1 5 (.box (.t 2) []),o1 6 (.mov (ci 0)),o1 7 (.mov (ci 0))]) (.seq (.seq (rg [oM 13 0,oC 14 34 [13],oM 12 14,o1 15 (.ext (.t 12) 0),o1 16 (.ext (.t 12) 1),oM 8 15,oM 9 16]) (.seq (rg [oM 17 9,o1 18 (.bin .neq (.t 17) (ci 0))]) (.cond (.t 18) (.seq (rg [oM 19 9,o1 6 (.mov (ci 0)),oM 7 19]) (.ret)) (.skip)))) (.seq (rg [oM 20 0,oC 21 96 [20],o1 10 (.new [.sl 0 []] []),oN (.st 10 10 1 (.t 21))]) (.seq (.block 0 (.seq (rg [o1 23 (.ld 10 10 1 true),o1 24 (.len (.t 23)),o1 25 (.bin .eql (.t 24) (ci 0)),oM 22 25]) (.cond (.t 22) (.seq (rg [o1 6 (.mov (ci 0)),o1 7 (.mov (ci 3))]) (.ret)) (.seq (rg [o1 27 (.ld 4 4 3 false),oC 28 97 [27],o1 29 (.un .not (.t 28)),oM 30 29,oG 31 (.ld 5 5 3 false) 30 false,oG 32 (.call 97 [.t 31]) 30 false,oG 33 (.un .not (.t 32)) 30 false,o1 34 (.pick (.t 30) (.c (.bool true)) (.t 33)),oM 35 34,oG 36 (.ld 4 4 3 false) 35 false,oG 37 (.ld 5 5 3 false) 35 false,oG 38 (.call 98 [.t 36, .t 37]) 35 false,oG 39 (.bin .gtr (.t 38) (ci 0)) 35 false,o1 40 (.pick (.t 35) (.c (.bool true)) (.t 39)),oM 26 40]) (.cond (.t 26) (.seq (rg [o1 6 (.mov (ci 0)),o1 7 (.mov (ci 1))]) (.ret)) (.skip)))))) (.seq (rg [o1 41 (.mkf 99 10),oM 11 41]) (.seq (.region true [oM 42 11,o1 43 (.ld 4 4 3 false),o1 44 (.cal 99 (.t 42) [.t 43]),oM 45 11,o1 46 (.ld 5 5 3 false),o1 47 (.cal 99 (.t 45) [.t 46]),oB 48 .sub 44 47,oM 6 48,o1 7 (.mov (ci 0))]) (.ret))))))⟩
def Yr50:List (Nat × Nat):=[]
theorem Zrd:J2 Try.prog Yr50 Try.f50 Yi50=true:=by kernel_rfl
def Yi52:IFunc:=⟨1,21,[.tmp 2], .seq (rg [o1 2 (.nlo 2)]) (.seq (rg [o1 3 (.nlo 2)]) (.seq (.seq (rg [o1 4 (.mov (ci 0))]) (.block 0 (.loop (.seq (.seq (rg [oM 5 4,oM 6 0,o1 7 (.len (.t 6)),oB 8 .lss 5 7]) (.cond (.t 8) (.skip) (.exit 0))) (.seq (.block 1 (rg [o1 11 (.tra 3),oM 12 0,oM 13 4,o1 14 (.ixa 12 (.t 13) 1),o1 15 (.ld 14 14 1 true),oC 16 56 [15],o1 17 (.bls 1 [.bool false, .sl 0 []] [(0,2, .t 16)]),o1 18 (.apd true (.t 11) (.t 17) 2),o1 3 (.tra 18)])) (rg [oM 9 4,o1 10 (.bin .add (.t 9) (ci 1)),oM 4 10])))))) (.seq (rg [o1 19 (.frz 3),o1 20 (.clo 43 [.t 19]),o1 2 (.tra 20)]) (.ret))))⟩
def Yr52:List (Nat × Nat):=[]
theorem Zrc:J2 Try.prog Yr52 Try.f52 Yi52=true:=by kernel_rfl
def Yi54:IFunc:=⟨1,6,[.cell 2 3 false], .seq (rg [o1 2 (.new [.bool false, .sl 0 [], .int .i64 0] [])]) (.seq (rg [oM 3 0,oC 4 56 [3],o1 5 (.bld [.bool false, .sl 0 [], .int .i64 0] [(0,2, .t 4)]),oN (.st 2 2 3 (.t 5))]) (.ret))⟩
def Yr54:List (Nat × Nat):=[]
theorem Zrb:J2 Try.prog Yr54 Try.f54 Yi54=true:=by kernel_rfl
def Zr3:IFunc:=⟨2,14,[.tmp 4], .seq (rg [o1 4 (.mov (ci 0))]) (.seq (rg [oM 5 0,oM 6 1,oB 7 .rem 5 6,oM 0 7]) (.seq (.seq (rg [oM 8 0,o1 9 (.bin .lss (.t 8) (ci 0))]) (.cond (.t 9) (rg [oM 10 0,oM 11 1,oB 12 .add 10 11,oM 0 12]) (.skip))) (.seq (rg [oM 13 0,oM 4 13]) (.ret))))⟩
def Yr55:List (Nat × Nat):=[]
theorem Zra:J2 Try.prog Yr55 Try.f55 Zr3=true:=by kernel_rfl
def Yi56:IFunc:=⟨1,19,[.cell 2 2 false], .seq (rg [o1 2 (.new [.bool false, .sl 0 []] [])]) (.seq (rg [oM 4 0,o1 5 (.cv .u64 (.t 4)),oM 3 5]) (.seq (.seq (rg [oM 6 0,o1 7 (.bin .lss (.t 6) (ci 0))]) (.cond (.t 7) (rg [oM 8 3,o1 9 (.un .neg (.t 8)),oM 3 9]) (.skip))) (.seq (rg [oM 10 0,o1 11 (.bin .lss (.t 10) (ci 0)),oM 12 3,o1 13 (.cv .u32 (.t 12)),oM 14 3,o1 15 (.bin .shr (.t 14) (.c (.int .u64 32))),o1 16 (.cv .u32 (.t 15)),o1 17 (.bls 2 [.int .u32 0, .int .u32 0] [(0,1, .t 13),(1,1, .t 16)]),oC 18 106 [11,17],oN (.st 2 2 2 (.t 18))]) (.ret))))⟩
def Yr56:List (Nat × Nat):=[]
theorem Zq9:J2 Try.prog Yr56 Try.f56 Yi56=true:=by kernel_rfl
def Yi59:IFunc:=⟨2,24,[.cell 4 3 false, .tmp 5], .seq (rg [o1 2 (.box (.t 0) []),o1 3 (.box (.t 1) []),o1 4 (.new [.bool false, .sl 0 [], .int .i64 0] []),o1 5 (.mov (ci 0))]) (.seq (.seq (rg [o1 7 (.ld 2 2 3 false),oC 8 97 [7],o1 9 (.un .not (.t 8)),oM 10 9,oG 11 (.ld 3 3 3 false) 10 false,oG 12 (.call 97 [.t 11]) 10 false,oG 13 (.un .not (.t 12)) 10 false,o1 14 (.pick (.t 10) (.c (.bool true)) (.t 13))]) (.cond (.t 14) (.seq (rg [o1 15 (.bld [.bool false, .sl 0 [], .int .i64 0] []),oN (.st 4 4 3 (.t 15)),o1 5 (.mov (ci 1))]) (.ret)) (.skip))) (.seq (rg [o1 16 (.ld 2 2 3 false),o1 17 (.ld 3 3 3 false),oC 18 107 [16,17],o1 6 (.new [.bool false, .sl 0 [], .int .i64 0] []),oN (.st 6 6 3 (.t 18))]) (.seq (.seq (rg [o1 19 (.ld 6 6 3 false),oC 20 97 [19],o1 21 (.un .not (.t 20))]) (.cond (.t 21) (.seq (rg [o1 22 (.bld [.bool false, .sl 0 [], .int .i64 0] []),oN (.st 4 4 3 (.t 22)),o1 5 (.mov (ci 2))]) (.ret)) (.skip))) (.seq (rg [o1 23 (.ld 6 6 3 false),oN (.st 4 4 3 (.t 23)),o1 5 (.mov (ci 0))]) (.ret)))))⟩
def Yr59:List (Nat × Nat):=[]
theorem Zq8:J2 Try.prog Yr59 Try.f59 Yi59=true:=by kernel_rfl
def Br:ICode := .seq (.seq (rg [oM 17 6,oM 18 5,oB 19 .leq 17 18]) (.cond (.t 19) (.skip) (.exit 2))) (.seq (.block 3 (.seq (rg [oM 22 4,oM 23 6,o1 24 (.ixa 22 (.t 23) 2),o1 25 (.ld 24 24 2 false),oC 26 76 [25],o1 27 (.bin .gtr (.t 26) (ci 256))]) (.cond (.t 27) (.seq (rg [o1 2 (.mov (.c (.bool true)))]) (.ret)) (.skip)))) (rg [oM 20 6,o1 21 (.bin .add (.t 20) (ci 1)),oM 6 21]))
def Yc61y:ICode := .seq (rg [oB 10 .lss 9 8]) (.seq (.cond (.t 10) (.skip) (.exit 0)) (.seq (.block 1 (.seq (rg [o1 11 (.ixa 7 (.t 9) 1),o1 12 (.ld 11 11 1 true),oM 4 12]) (.seq (rg [oM 13 4,oC 14 62 [13],oM 5 14]) (.seq (.seq (rg [oM 15 5,o1 16 (.bin .gtr (.t 15) (ci 16))]) (.cond (.t 16) (.seq (rg [o1 2 (.mov (.c (.bool true)))]) (.ret)) (.skip))) (.seq (rg [o1 6 (.mov (ci 0))]) (.block 2 (.loop Br))))))) (rg [o1 28 (.bin .add (.t 9) (ci 1)),oM 9 28])))
def Zr2:IFunc:=⟨1,29,[.tmp 2], .seq (rg [o1 2 (.mov (.c (.bool false)))]) (.seq (.seq (rg [oM 7 0,o1 8 (.len (.t 7)),o1 9 (.mov (ci 0))]) (.block 0 (.loop Yc61y))) (.seq (rg [o1 2 (.mov (.c (.bool false)))]) (.ret)))⟩
def Yr61:List (Nat × Nat):=[]
theorem Zq7:J2 Try.prog Yr61 Try.f61 Zr2=true:=by kernel_rfl
def Zr7:ICode := .seq (.seq (rg [oM 7 3,o1 8 (.bin .geq (.t 7) (ci 0)),oM 9 8,oG 10 (.mov (.t 0)) 9 true,oG 11 (.mov (.t 3)) 9 true,oG 12 (.ixa 10 (.t 11) 2) 9 true,oG 13 (.ld 12 12 2 false) 9 true,oG 14 (.call 73 [.t 13]) 9 true,oG 15 (.bin .eql (.t 14) (ci 0)) 9 true,o1 16 (.pick (.t 9) (.t 15) (.c (.bool false)))]) (.cond (.t 16) (.skip) (.exit 0))) (.block 1 (rg [oM 17 3,o1 18 (.bin .sub (.t 17) (ci 1)),oM 3 18]))
def Yi62:IFunc:=⟨1,20,[.tmp 2], .seq (rg [o1 2 (.mov (ci 0))]) (.seq (rg [oM 4 0,o1 5 (.len (.t 4)),o1 6 (.bin .sub (.t 5) (ci 1)),oM 3 6]) (.seq (.block 0 (.loop Zr7)) (.seq (rg [oM 19 3,oM 2 19]) (.ret))))⟩
def Yr62:List (Nat × Nat):=[]
theorem Zq6:J2 Try.prog Yr62 Try.f62 Yi62=true:=by kernel_rfl
def Ms:ICode := .seq (rg [oB 65 .lss 64 63]) (.seq (.cond (.t 65) (.skip) (.exit 2)) (.seq (.block 3 (.seq (rg [oM 66 64,oM 14 66]) (.seq (.region true [o1 67 (.cpy 5),oM 68 14,o1 69 (.cpy 5),oM 70 14,o1 71 (.ixo 69 5 (.t 70) 2),o1 72 (.ld 71 5 2 false),o1 73 (.ld 9 9 2 false),oC 74 113 [72,73],o1 75 (.ixo 67 5 (.t 68) 2),oN (.st 75 5 2 (.t 74))]) (.seq (rg [oM 76 14,oM 77 13,oB 78 .geq 76 77]) (.cond (.t 78) (.region true [o1 79 (.cpy 5),oM 80 14,o1 81 (.cpy 5),oM 82 14,o1 83 (.ixo 81 5 (.t 82) 2),o1 84 (.ld 83 5 2 false),o1 85 (.ld 11 11 2 false),oM 86 1,oM 87 14,oM 88 13,oB 89 .sub 87 88,o1 90 (.ixa 86 (.t 89) 2),o1 91 (.ld 90 90 2 false),oC 92 113 [85,91],oC 93 114 [84,92],o1 94 (.ixo 79 5 (.t 80) 2),oN (.st 94 5 2 (.t 93))]) (.skip)))))) (rg [o1 95 (.bin .add (.t 64) (ci 1)),oM 64 95])))
def Zro:ICode := .seq (.seq (rg [o1 25 (.cpy 5),o1 26 (.lno 25 5),oM 27 1,o1 28 (.len (.t 27)),oB 29 .geq 26 28]) (.cond (.t 29) (.skip) (.exit 0))) (.block 1 (.seq (rg [o1 30 (.cpy 5),o1 31 (.cpy 5),o1 32 (.lno 31 5),o1 33 (.bin .sub (.t 32) (ci 1)),o1 34 (.ixo 30 5 (.t 33) 2),o1 35 (.ld 34 5 2 false),o1 7 (.new [.bool false, .sl 0 []] []),oN (.st 7 7 2 (.t 35))]) (.seq (rg [o1 36 (.ld 6 6 2 false),o1 37 (.ld 7 7 2 false),oC 38 109 [36,37],o1 8 (.new [.bool false, .sl 0 []] []),oN (.st 8 8 2 (.t 38))]) (.seq (.region true [o1 40 (.ld 6 6 2 false),oC 41 111 [40],o1 42 (.ld 8 8 2 false),oC 43 110 [41,42],oM 39 43,o1 44 (.ext (.t 39) 0),o1 45 (.ext (.t 39) 1),o1 9 (.new [.bool false, .sl 0 []] []),o1 10 (.new [.bool false, .sl 0 []] []),oN (.st 9 9 2 (.t 44)),oN (.st 10 10 2 (.t 45))]) (.seq (rg [o1 47 (.ld 7 7 2 false),o1 48 (.ld 8 8 2 false),oC 49 110 [47,48],oM 46 49,o1 50 (.ext (.t 46) 0),o1 51 (.ext (.t 46) 1),o1 11 (.new [.bool false, .sl 0 []] []),o1 12 (.new [.bool false, .sl 0 []] []),oN (.st 11 11 2 (.t 50)),oN (.st 12 12 2 (.t 51))]) (.seq (.seq (rg [o1 52 (.ld 6 6 2 false),oC 53 73 [52],o1 54 (.bin .lss (.t 53) (ci 0))]) (.cond (.t 54) (rg [o1 55 (.ld 11 11 2 false),oC 56 112 [55],oN (.st 11 11 2 (.t 56))]) (.skip))) (.seq (rg [o1 57 (.cpy 5),o1 58 (.lno 57 5),oM 59 1,o1 60 (.len (.t 59)),oB 61 .sub 58 60,oM 13 61]) (.seq (.seq (rg [o1 62 (.cpy 5),o1 63 (.lno 62 5),o1 64 (.mov (ci 0))]) (.block 2 (.loop Ms))) (rg [o1 96 (.frz 5),o1 97 (.clo 86 [.t 96]),⟨some 5, .tra 97,none,[25,30,31,34,57,62,67,69,71,75,79,81,83,94]⟩])))))))))
def Yi64:IFunc:=⟨2,99,[.tmp 4], .seq (rg [o1 4 (.nlo 2)]) (.seq (rg [oM 15 0,o1 16 (.clo 86 [.t 15]),oM 17 1,oC 18 86 [17],⟨some 5, .tra 16,none,[25,30,31,34,57,62,67,69,71,75,79,81,83,94]⟩,oM 1 18]) (.seq (rg [oM 19 1,oM 20 1,o1 21 (.len (.t 20)),o1 22 (.bin .sub (.t 21) (ci 1)),o1 23 (.ixa 19 (.t 22) 2),o1 24 (.ld 23 23 2 false),o1 6 (.new [.bool false, .sl 0 []] []),oN (.st 6 6 2 (.t 24))]) (.seq (.block 0 (.loop Zro)) (.seq (rg [o1 98 (.tra 5),o1 4 (.tra 98)]) (.ret)))))⟩
def Yr64:List (Nat × Nat):=[(25,5),(30,5),(31,5),(34,5),(57,5),(62,5),(67,5),(69,5),(71,5),(75,5),(79,5),(81,5),(83,5),(94,5)]
theorem Zq5:J2 Try.prog Yr64 Try.f64 Yi64=true:=by kernel_rfl
def Zrn:ICode := .seq (.seq (rg [oM 11 6,o1 12 (.len (.t 11)),o1 13 (.bin .gtr (.t 12) (ci 0))]) (.cond (.t 13) (.skip) (.exit 0))) (.block 1 (rg [oM 14 6,oM 15 5,oM 16 6,oC 17 64 [15,16],oM 5 14,oM 6 17]))
def Zr1:IFunc:=⟨2,20,[.tmp 4], .seq (rg [o1 4 (.nlo 2)]) (.seq (rg [oM 7 0,oC 8 86 [7],oM 9 1,oC 10 86 [9],oM 5 8,oM 6 10]) (.seq (.block 0 (.loop Zrn)) (.seq (rg [oM 18 5,o1 19 (.clo 115 [.t 18]),o1 4 (.tra 19)]) (.ret))))⟩
def Yr65:List (Nat × Nat):=[]
theorem Zq4:J2 Try.prog Yr65 Try.f65 Zr1=true:=by kernel_rfl
def Sf:IFunc:=⟨1,23,[.tmp 2], .seq (rg [o1 2 (.nlo 2)]) (.seq (rg [oM 5 0,oC 6 86 [5],oC 7 115 [6],oM 3 7]) (.seq (.seq (rg [oM 8 3,o1 9 (.len (.t 8)),o1 10 (.bin .lss (.t 9) (ci 2))]) (.cond (.t 10) (.seq (rg [oM 11 3,o1 2 (.tra 11)]) (.ret)) (.skip))) (.seq (rg [oM 12 3,oM 13 3,oC 14 75 [13],oC 15 65 [12,14],oM 4 15]) (.seq (.seq (rg [oM 16 4,o1 17 (.len (.t 16)),o1 18 (.bin .lss (.t 17) (ci 2))]) (.cond (.t 18) (.seq (rg [oM 19 3,o1 2 (.tra 19)]) (.ret)) (.skip))) (.seq (rg [oM 20 3,oM 21 4,o1 22 (.clo 116 [.t 20, .t 21]),o1 2 (.tra 22)]) (.ret))))))⟩
def Yr66:List (Nat × Nat):=[]
theorem Zq3:J2 Try.prog Yr66 Try.f66 Sf=true:=by kernel_rfl
def Yi73:IFunc:=⟨1,16,[.tmp 2], .seq (rg [o1 1 (.box (.t 0) []),o1 2 (.mov (ci 0))]) (.seq (rg [o1 6 (.ld 1 1 2 false),oC 7 122 [6],oM 5 7,o1 8 (.ext (.t 5) 0),o1 9 (.ext (.t 5) 1),oM 3 8,oM 4 9]) (.seq (.block 0 (.seq (rg [oM 11 4,o1 12 (.len (.t 11)),o1 13 (.bin .eql (.t 12) (ci 0)),oM 10 13]) (.cond (.t 10) (.seq (rg [o1 2 (.mov (ci 0))]) (.ret)) (.seq (rg [oM 15 3,oM 14 15]) (.cond (.t 14) (.seq (rg [o1 2 (.mov (ci (-1)))]) (.ret)) (.skip)))))) (.seq (rg [o1 2 (.mov (ci 1))]) (.ret))))⟩
def Yr73:List (Nat × Nat):=[]
theorem Zq2:J2 Try.prog Yr73 Try.f73 Yi73=true:=by kernel_rfl
def Yc75:ICode := .seq (.seq (rg [oM 5 4,oM 6 0,oC 7 62 [6],oB 8 .leq 5 7]) (.cond (.t 8) (.skip) (.exit 0))) (.seq (.block 1 (.region true [o1 11 (.tra 3),oM 12 0,oM 13 4,o1 14 (.ixa 12 (.t 13) 2),o1 15 (.ld 14 14 2 false),oM 16 4,oC 17 94 [16],oC 18 113 [15,17],o1 19 (.bls 1 [.bool false, .sl 0 []] [(0,2, .t 18)]),o1 20 (.apd true (.t 11) (.t 19) 2),o1 3 (.tra 20)])) (rg [oM 9 4,o1 10 (.bin .add (.t 9) (ci 1)),oM 4 10]))
def Yi75:IFunc:=⟨1,23,[.tmp 2], .seq (rg [o1 2 (.nlo 2)]) (.seq (rg [o1 3 (.nlo 2)]) (.seq (.seq (rg [o1 4 (.mov (ci 1))]) (.block 0 (.loop Yc75))) (.seq (rg [o1 21 (.frz 3),o1 22 (.clo 92 [.t 21]),o1 2 (.tra 22)]) (.ret))))⟩
def Yr75:List (Nat × Nat):=[]
theorem Zq1:J2 Try.prog Yr75 Try.f75 Yi75=true:=by kernel_rfl
def Yi76:IFunc:=⟨1,12,[.tmp 2], .seq (rg [o1 1 (.box (.t 0) []),o1 2 (.mov (ci 0))]) (.seq (rg [o1 6 (.ld 1 1 2 false),oC 7 122 [6],oM 5 7,o1 8 (.ext (.t 5) 0),o1 9 (.ext (.t 5) 1),oM 3 8,oM 4 9]) (.seq (rg [oM 10 4,o1 11 (.len (.t 10)),oM 2 11]) (.ret)))⟩
def Yr76:List (Nat × Nat):=[]
theorem Zq0:J2 Try.prog Yr76 Try.f76 Yi76=true:=by kernel_rfl
def Zr0:IFunc:=⟨1,25,[.tmp 2], .seq (rg [o1 1 (.box (.t 0) []),o1 2 (.mov (ci 0))]) (.seq (rg [o1 6 (.ld 1 1 2 false),oC 7 122 [6],oM 5 7,o1 8 (.ext (.t 5) 0),o1 9 (.ext (.t 5) 1),oM 3 8,oM 4 9]) (.seq (.seq (rg [oM 10 4,o1 11 (.len (.t 10)),o1 12 (.bin .eql (.t 11) (ci 0))]) (.cond (.t 12) (.seq (rg [o1 2 (.mov (ci 0))]) (.ret)) (.skip))) (.seq (rg [oM 13 4,o1 14 (.len (.t 13)),o1 15 (.bin .sub (.t 14) (ci 1)),o1 16 (.bin .mul (ci 32) (.t 15)),oM 17 4,oM 18 4,o1 19 (.len (.t 18)),o1 20 (.bin .sub (.t 19) (ci 1)),o1 21 (.ixa 17 (.t 20) 1),o1 22 (.ld 21 21 1 true),oC 23 123 [22],oB 24 .add 16 23,oM 2 24]) (.ret))))⟩
def Yr77:List (Nat × Nat):=[]
theorem Zqz:J2 Try.prog Yr77 Try.f77 Zr0=true:=by kernel_rfl
def Yc78:ICode := .seq (.seq (rg [oM 11 6,o1 12 (.bin .geq (.t 11) (ci 0))]) (.cond (.t 12) (.skip) (.exit 0))) (.seq (.block 1 (.region true [o1 19 (.ld 5 5 2 false),o1 20 (.adr 3 3 0),o1 21 (.ld 20 3 2 false),oC 22 113 [19,21],oM 23 0,oM 24 6,o1 25 (.ixa 23 (.t 24) 2),o1 26 (.ld 25 25 2 false),oM 27 7,oC 28 124 [26,27],oC 29 121 [22,28],oN (.st 5 5 2 (.t 29))])) (.region true [oM 13 6,o1 14 (.bin .sub (.t 13) (ci 1)),oM 15 7,o1 16 (.adr 3 3 2),o1 17 (.ld 16 3 1 true),oB 18 .add 15 17,oM 6 14,oM 7 18]))
def Yi78:IFunc:=⟨2,32,[.tmp 4], .seq (rg [o1 3 (.box (.t 1) [20,16]),o1 4 (.mov (ci 0))]) (.seq (rg [o1 5 (.new [.bool false, .sl 0 []] [])]) (.seq (.seq (rg [oM 8 0,o1 9 (.len (.t 8)),o1 10 (.bin .sub (.t 9) (ci 1)),oM 6 10,o1 7 (.mov (ci 0))]) (.block 0 (.loop Yc78))) (.seq (rg [o1 30 (.ld 5 5 2 false),oC 31 73 [30],oM 4 31]) (.ret))))⟩
def Yr78:List (Nat × Nat):=[(20,3),(16,3)]
theorem Zqy:J2 Try.prog Yr78 Try.f78 Yi78=true:=by kernel_rfl
def Yi79:IFunc:=⟨1,8,[.tmp 2], .seq (rg [o1 1 (.box (.t 0) [3]),o1 2 (.mov (.c (.bool false)))]) (.seq (rg [o1 3 (.adr 1 1 1),o1 4 (.ld 3 1 1 true),oC 5 125 [4],o1 6 (.len (.t 5)),o1 7 (.bin .gtr (.t 6) (ci 256)),oM 2 7]) (.ret))⟩
def Yr79:List (Nat × Nat):=[(3,1)]
theorem Zqx:J2 Try.prog Yr79 Try.f79 Yi79=true:=by kernel_rfl
def Zqw:IFunc:=⟨1,12,[.tmp 2], .seq (rg [o1 1 (.box (.t 0) [4,10]),o1 2 (.mov (ci 0))]) (.seq (.block 0 (.seq (rg [o1 4 (.adr 1 1 1),o1 5 (.ld 4 1 1 true),oC 6 125 [5],o1 7 (.len (.t 6)),o1 8 (.bin .eql (.t 7) (ci 0)),oM 3 8]) (.cond (.t 3) (.seq (rg [o1 2 (.mov (ci 0))]) (.ret)) (.seq (rg [o1 10 (.adr 1 1 0),o1 11 (.ld 10 1 1 true),oM 9 11]) (.cond (.t 9) (.seq (rg [o1 2 (.mov (ci (-1)))]) (.ret)) (.skip)))))) (.seq (rg [o1 2 (.mov (ci 1))]) (.ret)))⟩
def Yr81:List (Nat × Nat):=[(4,1),(10,1)]
theorem Zqv:J2 Try.prog Yr81 Try.f81 Zqw=true:=by kernel_rfl
def Zr6:ICode := .seq (.seq (rg [oM 8 4,o1 9 (.bin .geq (.t 8) (ci 0)),oM 10 9,oG 11 (.ld 3 3 2 false) 10 true,oG 12 (.call 77 [.t 11]) 10 true,oG 13 (.bin .neq (.t 12) (ci 1)) 10 true,o1 14 (.pick (.t 10) (.t 13) (.c (.bool false)))]) (.cond (.t 14) (.skip) (.exit 0))) (.seq (.block 1 (.region true [o1 17 (.ld 3 3 2 false),oM 18 0,oM 19 4,o1 20 (.ixa 18 (.t 19) 2),o1 21 (.ld 20 20 2 false),oC 22 109 [17,21],oN (.st 3 3 2 (.t 22))])) (rg [oM 15 4,o1 16 (.bin .sub (.t 15) (ci 1)),oM 4 16]))
def Yi85:IFunc:=⟨1,24,[.cell 2 2 false], .seq (rg [o1 2 (.new [.bool false, .sl 0 []] [])]) (.seq (rg [o1 3 (.new [.bool false, .sl 0 []] [])]) (.seq (.seq (rg [oM 5 0,o1 6 (.len (.t 5)),o1 7 (.bin .sub (.t 6) (ci 1)),oM 4 7]) (.block 0 (.loop Zr6))) (.seq (rg [o1 23 (.ld 3 3 2 false),oN (.st 2 2 2 (.t 23))]) (.ret))))⟩
def Yr85:List (Nat × Nat):=[]
theorem Zqu:J2 Try.prog Yr85 Try.f85 Yi85=true:=by kernel_rfl
def Zr5:ICode := .seq (rg [oB 16 .lss 15 14]) (.seq (.cond (.t 16) (.skip) (.exit 0)) (.seq (.block 1 (.seq (rg [oM 17 15,oM 5 17]) (.region true [o1 19 (.cpy 3),oM 20 5,o1 21 (.cpy 3),oM 22 5,o1 23 (.ixo 21 3 (.t 22) 2),o1 24 (.ld 23 3 2 false),o1 25 (.ld 4 4 2 false),oC 26 110 [24,25],oM 18 26,o1 27 (.ext (.t 18) 0),o1 28 (.ext (.t 18) 1),o1 29 (.ixo 19 3 (.t 20) 2),oN (.st 29 3 2 (.t 27))]))) (rg [o1 30 (.bin .add (.t 15) (ci 1)),oM 15 30])))
def Zrz:IFunc:=⟨1,32,[.tmp 2], .seq (rg [o1 2 (.nlo 2)]) (.seq (rg [oM 6 0,o1 7 (.clo 92 [.t 6]),⟨some 3, .tra 7,none,[8,13,19,21,23,29]⟩]) (.seq (rg [o1 8 (.cpy 3),o1 9 (.brw 85 8 3),o1 4 (.new [.bool false, .sl 0 []] []),oN (.st 4 4 2 (.t 9))]) (.seq (.seq (rg [o1 10 (.ld 4 4 2 false),oC 11 77 [10],o1 12 (.bin .gtr (.t 11) (ci 1))]) (.cond (.t 12) (.seq (rg [o1 13 (.cpy 3),o1 14 (.lno 13 3),o1 15 (.mov (ci 0))]) (.block 0 (.loop Zr5))) (.skip))) (.seq (rg [o1 31 (.tra 3),o1 2 (.tra 31)]) (.ret)))))⟩
def Yr86:List (Nat × Nat):=[(8,3),(13,3),(19,3),(21,3),(23,3),(29,3)]
theorem Zqt:J2 Try.prog Yr86 Try.f86 Zrz=true:=by kernel_rfl
def Yc92:ICode := .seq (rg [oB 16 .lss 15 14]) (.seq (.cond (.t 16) (.skip) (.exit 0)) (.seq (.block 1 (.seq (rg [oM 17 15,oM 5 17]) (rg [o1 18 (.cpy 4),oM 19 5,oM 20 0,oM 21 5,o1 22 (.ixa 20 (.t 21) 2),o1 23 (.ld 22 22 2 false),oC 24 132 [23],o1 25 (.ixo 18 4 (.t 19) 2),oN (.st 25 4 2 (.t 24))]))) (rg [o1 26 (.bin .add (.t 15) (ci 1)),oM 15 26])))
def Yi92:IFunc:=⟨1,28,[.tmp 2], .seq (rg [o1 2 (.nlo 2)]) (.seq (rg [oM 6 0,oC 7 62 [6],o1 8 (.bin .add (.t 7) (ci 1)),oM 3 8]) (.seq (.seq (rg [oM 9 3,o1 10 (.bin .eql (.t 9) (ci 0))]) (.cond (.t 10) (.seq (rg [o1 2 (.nlo 2)]) (.ret)) (.skip))) (.seq (rg [oM 11 3,o1 12 (.mks [.bool false, .sl 0 []] (.t 11)),⟨some 4, .tra 12,none,[13,18,25]⟩]) (.seq (.seq (rg [o1 13 (.cpy 4),o1 14 (.lno 13 4),o1 15 (.mov (ci 0))]) (.block 0 (.loop Yc92))) (.seq (rg [o1 27 (.tra 4),o1 2 (.tra 27)]) (.ret))))))⟩
def Yr92:List (Nat × Nat):=[(13,4),(18,4),(25,4)]
theorem Zqs:J2 Try.prog Yr92 Try.f92 Yi92=true:=by kernel_rfl
def Yi93:IFunc:=⟨1,8,[.cell 2 2 false], .seq (rg [o1 1 (.box (.t 0) [3,5]),o1 2 (.new [.bool false, .sl 0 []] [])]) (.seq (rg [o1 3 (.adr 1 1 0),o1 4 (.ld 3 1 1 true),o1 5 (.adr 1 1 1),o1 6 (.ld 5 1 1 true),oC 7 106 [4,6],oN (.st 2 2 2 (.t 7))]) (.ret))⟩
def Yr93:List (Nat × Nat):=[(3,1),(5,1)]
theorem Zqr:J2 Try.prog Yr93 Try.f93 Yi93=true:=by kernel_rfl
def Yi94:IFunc:=⟨1,19,[.cell 2 2 false], .seq (rg [o1 2 (.new [.bool false, .sl 0 []] [])]) (.seq (rg [oM 4 0,o1 5 (.cv .u64 (.t 4)),oM 3 5]) (.seq (.seq (rg [oM 6 0,o1 7 (.bin .lss (.t 6) (ci 0))]) (.cond (.t 7) (rg [oM 8 3,o1 9 (.un .neg (.t 8)),oM 3 9]) (.skip))) (.seq (rg [oM 10 0,o1 11 (.bin .lss (.t 10) (ci 0)),oM 12 3,o1 13 (.cv .u32 (.t 12)),oM 14 3,o1 15 (.bin .shr (.t 14) (.c (.int .u64 32))),o1 16 (.cv .u32 (.t 15)),o1 17 (.bls 2 [.int .u32 0, .int .u32 0] [(0,1, .t 13),(1,1, .t 16)]),oC 18 133 [11,17],oN (.st 2 2 2 (.t 18))]) (.ret))))⟩
def Yr94:List (Nat × Nat):=[]
theorem Zqq:J2 Try.prog Yr94 Try.f94 Yi94=true:=by kernel_rfl
def Yi95:IFunc:=⟨1,37,[.tmp 2, .tmp 3], .seq (rg [o1 2 (.nlo 1),o1 3 (.mov (ci 0))]) (.seq (.seq (rg [oM 12 0,oC 13 34 [12],oM 11 13,o1 14 (.ext (.t 11) 0),o1 15 (.ext (.t 11) 1),oM 4 14,oM 5 15]) (.seq (rg [oM 16 5,o1 17 (.bin .neq (.t 16) (ci 0))]) (.cond (.t 17) (.seq (rg [oM 18 5,o1 2 (.nlo 1),oM 3 18]) (.ret)) (.skip)))) (.seq (rg [oM 19 0,oC 20 96 [19],oM 6 20]) (.seq (.seq (rg [oM 21 6,o1 22 (.len (.t 21)),o1 23 (.mov (ci 0))]) (.block 0 (.loop (.seq (rg [oB 24 .lss 23 22]) (.seq (.cond (.t 24) (.skip) (.exit 0)) (.seq (.block 1 (.seq (rg [o1 25 (.ixa 21 (.t 23) 1),o1 26 (.ld 25 25 1 true),oM 8 26]) (.seq (rg [oM 28 8,oC 29 34 [28],oM 27 29,o1 30 (.ext (.t 27) 0),o1 31 (.ext (.t 27) 1),oM 9 30,oM 10 31]) (.seq (rg [oM 32 10,o1 33 (.bin .neq (.t 32) (ci 0))]) (.cond (.t 33) (.seq (rg [oM 34 10,o1 2 (.nlo 1),oM 3 34]) (.ret)) (.skip)))))) (rg [o1 35 (.bin .add (.t 23) (ci 1)),oM 23 35]))))))) (.seq (rg [oM 36 6,o1 2 (.tra 36),o1 3 (.mov (ci 0))]) (.ret)))))⟩
def Yr95:List (Nat × Nat):=[]
theorem Zqp:J2 Try.prog Yr95 Try.f95 Yi95=true:=by kernel_rfl
def Zr4:ICode := .seq (.seq (rg [oM 16 5,o1 17 (.len (.t 16)),o1 18 (.bin .gtr (.t 17) (ci 0))]) (.cond (.t 18) (.skip) (.exit 0))) (.block 1 (.seq (rg [o1 19 (.tra 4),oM 20 5,o1 21 (.bls 1 [.sl 0 []] [(0,1, .t 20)]),o1 22 (.apd true (.t 19) (.t 21) 1),o1 4 (.tra 22)]) (rg [oM 23 5,oM 24 3,oM 25 5,oC 26 64 [24,25],oC 27 127 [26],oM 3 23,oM 5 27])))
def Zl0:IFunc:=⟨1,29,[.tmp 2], .seq (rg [o1 2 (.nlo 1)]) (.seq (rg [oM 6 0,oC 7 66 [6],oM 3 7]) (.seq (.seq (rg [oM 8 3,o1 9 (.len (.t 8)),o1 10 (.bin .eql (.t 9) (ci 0))]) (.cond (.t 10) (.seq (rg [o1 2 (.nlo 1)]) (.ret)) (.skip))) (.seq (rg [oM 11 3,o1 12 (.blo 1 1 [.sl 0 []] [(0,1, .t 11)]),o1 4 (.tra 12)]) (.seq (rg [oM 13 3,oC 14 75 [13],oC 15 86 [14],oM 5 15]) (.seq (.block 0 (.loop Zr4)) (.seq (rg [o1 28 (.tra 4),o1 2 (.tra 28)]) (.ret)))))))⟩
def Yr96:List (Nat × Nat):=[]
theorem Zqo:J2 Try.prog Yr96 Try.f96 Zl0=true:=by kernel_rfl
def Zqn:IFunc:=⟨1,17,[.tmp 2], .seq (rg [o1 1 (.box (.t 0) [3,7,12]),o1 2 (.mov (.c (.bool false)))]) (.seq (rg [o1 3 (.adr 1 1 2),o1 4 (.ld 3 1 1 true),o1 5 (.bin .geq (.t 4) (ci 0)),oM 6 5,oG 7 (.adr 1 1 2) 6 true,oG 8 (.ld 7 1 1 true) 6 true,oG 9 (.bin .leq (.t 8) (ci 4096)) 6 true,o1 10 (.pick (.t 6) (.t 9) (.c (.bool false))),oM 11 10,oG 12 (.adr 1 1 0) 11 true,oG 13 (.ld 12 1 2 false) 11 true,oG 14 (.call 76 [.t 13]) 11 true,oG 15 (.bin .leq (.t 14) (ci 256)) 11 true,o1 16 (.pick (.t 11) (.t 15) (.c (.bool false))),oM 2 16]) (.ret))⟩
def Yr97:List (Nat × Nat):=[(3,1),(7,1),(12,1)]
theorem Zqm:J2 Try.prog Yr97 Try.f97 Zqn=true:=by kernel_rfl
def Yi98:IFunc:=⟨2,26,[.tmp 4], .seq (rg [o1 2 (.box (.t 0) [6,11,14]),o1 3 (.box (.t 1) [8,18,21]),o1 4 (.mov (ci 0))]) (.seq (rg [o1 6 (.adr 2 2 2),o1 7 (.ld 6 2 1 true),o1 8 (.adr 3 3 2),o1 9 (.ld 8 3 1 true),o1 10 (.mx [.t 7, .t 9]),oM 5 10]) (.seq (.region true [o1 11 (.adr 2 2 0),o1 12 (.ld 11 2 2 false),oM 13 5,o1 14 (.adr 2 2 2),o1 15 (.ld 14 2 1 true),oB 16 .sub 13 15,oC 17 124 [12,16],o1 18 (.adr 3 3 0),o1 19 (.ld 18 3 2 false),oM 20 5,o1 21 (.adr 3 3 2),o1 22 (.ld 21 3 1 true),oB 23 .sub 20 22,oC 24 124 [19,23],oC 25 134 [17,24],oM 4 25]) (.ret)))⟩
def Yr98:List (Nat × Nat):=[(6,2),(8,3),(11,2),(14,2),(18,3),(21,3)]
theorem Zql:J2 Try.prog Yr98 Try.f98 Yi98=true:=by kernel_rfl
def Yi99:IFunc:=⟨2,7,[.tmp 3], .seq (rg [o1 2 (.box (.t 0) []),o1 3 (.mov (ci 0))]) (.seq (rg [o1 4 (.ld 1 1 1 true),o1 5 (.ld 2 2 3 false),oC 6 100 [4,5],oM 3 6]) (.ret))⟩
def Yr99:List (Nat × Nat):=[]
theorem Zqk:J2 Try.prog Yr99 Try.f99 Yi99=true:=by kernel_rfl
def Mw:ICode := .seq (rg [oB 13 .lss 12 11]) (.seq (.cond (.t 13) (.skip) (.exit 0)) (.seq (.block 1 (.seq (rg [o1 14 (.ixa 10 (.t 12) 1),o1 15 (.ld 14 14 1 true),oM 8 15]) (.seq (rg [oM 16 8,o1 17 (.ld 3 3 3 false),oC 18 78 [16,17],oM 9 18]) (.seq (.seq (rg [oM 19 9,o1 20 (.bin .neq (.t 19) (ci 0)),oM 21 20,oG 22 (.mov (.t 6)) 21 true,oG 23 (.bin .neq (.t 22) (ci 0)) 21 true,o1 24 (.pick (.t 21) (.t 23) (.c (.bool false))),oM 25 24,oG 26 (.mov (.t 9)) 25 true,oG 27 (.mov (.t 6)) 25 true,oG 28 (.bin .neq (.t 26) (.t 27)) 25 true,o1 29 (.pick (.t 25) (.t 28) (.c (.bool false)))]) (.cond (.t 29) (rg [oM 30 5,o1 31 (.bin .add (.t 30) (ci 1)),oM 5 31]) (.skip))) (.seq (rg [oM 32 9,o1 33 (.bin .neq (.t 32) (ci 0))]) (.cond (.t 33) (rg [oM 34 9,oM 6 34]) (.skip))))))) (rg [o1 35 (.bin .add (.t 12) (ci 1)),oM 12 35])))
def Ze5:IFunc:=⟨2,37,[.tmp 4], .seq (rg [o1 3 (.box (.t 1) []),o1 4 (.mov (ci 0))]) (.seq (rg [o1 5 (.mov (ci 0)),o1 6 (.mov (ci 0))]) (.seq (.seq (rg [oM 10 0,o1 11 (.len (.t 10)),o1 12 (.mov (ci 0))]) (.block 0 (.loop Mw))) (.seq (rg [oM 36 5,oM 4 36]) (.ret))))⟩
def Yr100:List (Nat × Nat):=[]
theorem Zk3:J2 Try.prog Yr100 Try.f100 Ze5=true:=by kernel_rfl
def Zk2:IFunc:=⟨1,17,[.tmp 2], .seq (rg [o1 1 (.box (.t 0) [3,7,12]),o1 2 (.mov (.c (.bool false)))]) (.seq (rg [o1 3 (.adr 1 1 2),o1 4 (.ld 3 1 1 true),o1 5 (.bin .geq (.t 4) (ci 0)),oM 6 5,oG 7 (.adr 1 1 2) 6 true,oG 8 (.ld 7 1 1 true) 6 true,oG 9 (.bin .leq (.t 8) (ci 4096)) 6 true,o1 10 (.pick (.t 6) (.t 9) (.c (.bool false))),oM 11 10,oG 12 (.adr 1 1 0) 11 true,oG 13 (.ld 12 1 2 false) 11 true,oG 14 (.call 79 [.t 13]) 11 true,oG 15 (.un .not (.t 14)) 11 true,o1 16 (.pick (.t 11) (.t 15) (.c (.bool false))),oM 2 16]) (.ret))⟩
def Yr101:List (Nat × Nat):=[(3,1),(7,1),(12,1)]
theorem Zk1:J2 Try.prog Yr101 Try.f101 Zk2=true:=by kernel_rfl
def Ze4:IFunc:=⟨2,16,[.tmp 4], .seq (rg [o1 2 (.box (.t 0) [5,12]),o1 3 (.box (.t 1) [7,10]),o1 4 (.mov (ci 0))]) (.seq (.region true [o1 5 (.adr 2 2 0),o1 6 (.ld 5 2 2 false),o1 7 (.adr 3 3 2),o1 8 (.ld 7 3 1 true),oC 9 126 [6,8],o1 10 (.adr 3 3 0),o1 11 (.ld 10 3 2 false),o1 12 (.adr 2 2 2),o1 13 (.ld 12 2 1 true),oC 14 126 [11,13],oC 15 135 [9,14],oM 4 15]) (.ret))⟩
def Yr102:List (Nat × Nat):=[(5,2),(7,3),(10,3),(12,2)]
theorem Zk0:J2 Try.prog Yr102 Try.f102 Ze4=true:=by kernel_rfl
def Zkz:IFunc:=⟨2,16,[.cell 4 2 false], .seq (rg [o1 4 (.new [.bool false, .sl 0 []] [])]) (.seq (rg [oM 6 1,o1 7 (.clo 125 [.t 6]),⟨some 5, .tra 7,none,[10]⟩]) (.seq (rg [oM 8 0,oM 9 8,oG 10 (.cpy 5) 9 true,oG 11 (.lno 10 5) 9 true,oG 12 (.bin .gtr (.t 11) (ci 0)) 9 true,o1 13 (.pick (.t 9) (.t 12) (.c (.bool false))),o1 14 (.tra 5),o1 15 (.bdo (.t 13) 14 [4]),oN (.stl 4 15)]) (.ret)))⟩
def Yr106:List (Nat × Nat):=[(4,15),(10,5)]
theorem Zky:J2 Try.prog Yr106 Try.f106 Zkz=true:=by kernel_rfl
def Zkx:IFunc:=⟨2,29,[.cell 4 3 false], .seq (rg [o1 2 (.box (.t 0) [6,11,14]),o1 3 (.box (.t 1) [8,18,21]),o1 4 (.new [.bool false, .sl 0 [], .int .i64 0] [])]) (.seq (rg [o1 6 (.adr 2 2 2),o1 7 (.ld 6 2 1 true),o1 8 (.adr 3 3 2),o1 9 (.ld 8 3 1 true),o1 10 (.mx [.t 7, .t 9]),oM 5 10]) (.seq (.region true [o1 11 (.adr 2 2 0),o1 12 (.ld 11 2 2 false),oM 13 5,o1 14 (.adr 2 2 2),o1 15 (.ld 14 2 1 true),oB 16 .sub 13 15,oC 17 124 [12,16],o1 18 (.adr 3 3 0),o1 19 (.ld 18 3 2 false),oM 20 5,o1 21 (.adr 3 3 2),o1 22 (.ld 21 3 1 true),oB 23 .sub 20 22,oC 24 124 [19,23],oC 25 121 [17,24],oM 26 5,o1 27 (.bin .add (.t 26) (ci 1)),oC 28 142 [25,27],oN (.st 4 4 3 (.t 28))]) (.ret)))⟩
def Yr107:List (Nat × Nat):=[(6,2),(8,3),(11,2),(14,2),(18,3),(21,3)]
theorem Zkw:J2 Try.prog Yr107 Try.f107 Zkx=true:=by kernel_rfl
def B7:ICode := .seq (.seq (rg [o1 13 (.adr 6 6 1),o1 14 (.ld 13 6 1 true),o1 15 (.len (.t 14)),o1 16 (.bin .gtr (.t 15) (ci 0))]) (.cond (.t 16) (.skip) (.exit 0))) (.block 1 (.seq (.seq (rg [o1 17 (.adr 5 5 1),o1 18 (.ld 17 5 1 true),o1 19 (.len (.t 18)),o1 20 (.bin .leq (.t 19) (ci 2)),oM 21 20,oG 22 (.adr 6 6 1) 21 true,oG 23 (.ld 22 6 1 true) 21 true,oG 24 (.len (.t 23)) 21 true,oG 25 (.bin .leq (.t 24) (ci 2)) 21 true,o1 26 (.pick (.t 21) (.t 25) (.c (.bool false)))]) (.cond (.t 26) (.seq (.region true [o1 27 (.ld 5 5 2 false),oC 28 146 [27],o1 29 (.ld 6 6 2 false),oC 30 146 [29],oC 31 145 [28,30],oC 32 144 [31],oN (.st 4 4 2 (.t 32))]) (.ret)) (.skip))) (.seq (rg [o1 34 (.ld 5 5 2 false),o1 35 (.ld 6 6 2 false),oC 36 110 [34,35],oM 33 36,o1 37 (.ext (.t 33) 0),o1 38 (.ext (.t 33) 1),o1 7 (.new [.bool false, .sl 0 []] []),o1 8 (.new [.bool false, .sl 0 []] []),oN (.st 7 7 2 (.t 37)),oN (.st 8 8 2 (.t 38))]) (.region true [o1 39 (.ld 6 6 2 false),o1 40 (.ld 8 8 2 false),oN (.st 5 5 2 (.t 39)),oN (.st 6 6 2 (.t 40))]))))
def Zak:IFunc:=⟨2,42,[.cell 4 2 false], .seq (rg [o1 2 (.box (.t 0) []),o1 3 (.box (.t 1) []),o1 4 (.new [.bool false, .sl 0 []] [])]) (.seq (.region true [o1 9 (.ld 2 2 2 false),oC 10 111 [9],o1 11 (.ld 3 3 2 false),oC 12 111 [11],o1 5 (.new [.bool false, .sl 0 []] [17]),o1 6 (.new [.bool false, .sl 0 []] [13,22]),oN (.st 5 5 2 (.t 10)),oN (.st 6 6 2 (.t 12))]) (.seq (.block 0 (.loop B7)) (.seq (rg [o1 41 (.ld 5 5 2 false),oN (.st 4 4 2 (.t 41))]) (.ret))))⟩
def Yr109:List (Nat × Nat):=[(13,6),(17,5),(22,6)]
theorem Zkv:J2 Try.prog Yr109 Try.f109 Zak=true:=by kernel_rfl
def Ze3:IFunc:=⟨2,36,[.cell 4 2 false, .cell 5 2 false], .seq (rg [o1 2 (.box (.t 0) []),o1 3 (.box (.t 1) []),o1 4 (.new [.bool false, .sl 0 []] []),o1 5 (.new [.bool false, .sl 0 []] [])]) (.seq (rg [o1 13 (.ld 2 2 2 false),oC 14 122 [13],oM 12 14,o1 15 (.ext (.t 12) 0),o1 16 (.ext (.t 12) 1),oM 6 15,oM 7 16]) (.seq (rg [o1 18 (.ld 3 3 2 false),oC 19 122 [18],oM 17 19,o1 20 (.ext (.t 17) 0),o1 21 (.ext (.t 17) 1),oM 8 20,oM 9 21]) (.seq (rg [oM 23 7,oM 24 9,oC 25 147 [23,24],oM 22 25,o1 26 (.ext (.t 22) 0),o1 27 (.ext (.t 22) 1),oM 10 26,oM 11 27]) (.seq (rg [oM 28 6,oM 29 8,o1 30 (.eqb true (.t 28) (.t 29)),oM 31 10,oC 32 133 [30,31],oM 33 6,oM 34 11,oC 35 133 [33,34],oN (.st 4 4 2 (.t 32)),oN (.st 5 5 2 (.t 35))]) (.ret)))))⟩
def Yr110:List (Nat × Nat):=[]
theorem Zku:J2 Try.prog Yr110 Try.f110 Ze3=true:=by kernel_rfl
def Ze2:IFunc:=⟨1,13,[.cell 2 2 false], .seq (rg [o1 1 (.box (.t 0) []),o1 2 (.new [.bool false, .sl 0 []] [])]) (.seq (rg [o1 6 (.ld 1 1 2 false),oC 7 122 [6],oM 5 7,o1 8 (.ext (.t 5) 0),o1 9 (.ext (.t 5) 1),oM 3 8,oM 4 9]) (.seq (rg [oM 10 4,o1 11 (.apd false (.c (.nil)) (.t 10) 1),o1 12 (.call 133 [.c (.bool false), .t 11]),oN (.st 2 2 2 (.t 12))]) (.ret)))⟩
def Yr111:List (Nat × Nat):=[]
theorem Zkt:J2 Try.prog Yr111 Try.f111 Ze2=true:=by kernel_rfl
def Zks:IFunc:=⟨1,15,[.cell 2 2 false], .seq (rg [o1 1 (.box (.t 0) []),o1 2 (.new [.bool false, .sl 0 []] [])]) (.seq (rg [o1 6 (.ld 1 1 2 false),oC 7 122 [6],oM 5 7,o1 8 (.ext (.t 5) 0),o1 9 (.ext (.t 5) 1),oM 3 8,oM 4 9]) (.seq (rg [oM 10 3,o1 11 (.un .not (.t 10)),oM 12 4,o1 13 (.apd false (.c (.nil)) (.t 12) 1),oC 14 133 [11,13],oN (.st 2 2 2 (.t 14))]) (.ret)))⟩
def Yr112:List (Nat × Nat):=[]
theorem Zkr:J2 Try.prog Yr112 Try.f112 Zks=true:=by kernel_rfl
def Mv:ICode := .seq (rg [oB 51 .lss 50 49]) (.seq (.cond (.t 51) (.skip) (.exit 2)) (.seq (.block 3 (.seq (rg [oM 52 50,o1 53 (.ixa 48 (.t 50) 1),o1 54 (.ld 53 53 1 true),oM 13 52,oM 14 54]) (.seq (rg [oM 55 11,o1 56 (.cv .u64 (.t 55)),oM 57 14,o1 58 (.cv .u64 (.t 57)),oB 59 .mul 56 58,o1 60 (.cpy 9),oM 61 10,oM 62 13,oB 63 .add 61 62,o1 64 (.ixo 60 9 (.t 63) 1),o1 65 (.ld 64 9 1 true),o1 66 (.cv .u64 (.t 65)),oB 67 .add 59 66,oM 68 12,oB 69 .add 67 68,oM 15 69]) (rg [o1 70 (.cpy 9),oM 71 10,oM 72 13,oB 73 .add 71 72,oM 74 15,o1 75 (.cv .u32 (.t 74)),oM 76 15,o1 77 (.bin .shr (.t 76) (.c (.int .u64 32))),o1 78 (.ixo 70 9 (.t 73) 1),oN (.st 78 9 1 (.t 75)),oM 12 77])))) (rg [o1 79 (.bin .add (.t 50) (ci 1)),oM 50 79])))
def Zfg:ICode := .seq (rg [oB 44 .lss 43 42]) (.seq (.cond (.t 44) (.skip) (.exit 0)) (.seq (.block 1 (.seq (rg [oM 45 43,o1 46 (.ixa 41 (.t 43) 1),o1 47 (.ld 46 46 1 true),oM 10 45,oM 11 47]) (.seq (rg [o1 12 (.mov (.c (.int .u64 0)))]) (.seq (.seq (rg [oM 48 8,o1 49 (.len (.t 48)),o1 50 (.mov (ci 0))]) (.block 2 (.loop Mv))) (rg [o1 80 (.cpy 9),oM 81 10,oM 82 8,o1 83 (.len (.t 82)),oB 84 .add 81 83,oM 85 12,o1 86 (.cv .u32 (.t 85)),o1 87 (.ixo 80 9 (.t 84) 1),oN (.st 87 9 1 (.t 86))]))))) (rg [o1 88 (.bin .add (.t 43) (ci 1)),oM 43 88])))
def Ze1:IFunc:=⟨2,94,[.cell 4 2 false], .seq (rg [o1 2 (.box (.t 0) []),o1 3 (.box (.t 1) []),o1 4 (.new [.bool false, .sl 0 []] [])]) (.seq (rg [o1 17 (.ld 2 2 2 false),oC 18 122 [17],oM 16 18,o1 19 (.ext (.t 16) 0),o1 20 (.ext (.t 16) 1),oM 5 19,oM 6 20]) (.seq (rg [o1 22 (.ld 3 3 2 false),oC 23 122 [22],oM 21 23,o1 24 (.ext (.t 21) 0),o1 25 (.ext (.t 21) 1),oM 7 24,oM 8 25]) (.seq (.seq (rg [oM 26 6,o1 27 (.len (.t 26)),o1 28 (.bin .eql (.t 27) (ci 0)),oM 29 28,oG 30 (.mov (.t 8)) 29 false,oG 31 (.len (.t 30)) 29 false,oG 32 (.bin .eql (.t 31) (ci 0)) 29 false,o1 33 (.pick (.t 29) (.c (.bool true)) (.t 32))]) (.cond (.t 33) (.seq (rg [o1 34 (.bld [.bool false, .sl 0 []] []),oN (.st 4 4 2 (.t 34))]) (.ret)) (.skip))) (.seq (rg [oM 35 6,o1 36 (.len (.t 35)),oM 37 8,o1 38 (.len (.t 37)),oB 39 .add 36 38,o1 40 (.mks [.int .u32 0] (.t 39)),⟨some 9, .tra 40,none,[60,64,70,78,80,87]⟩]) (.seq (.seq (rg [oM 41 6,o1 42 (.len (.t 41)),o1 43 (.mov (ci 0))]) (.block 0 (.loop Zfg))) (.seq (rg [oM 89 5,oM 90 7,o1 91 (.eqb true (.t 89) (.t 90)),o1 92 (.frz 9),oC 93 133 [91,92],oN (.st 4 4 2 (.t 93))]) (.ret)))))))⟩
def Yr113:List (Nat × Nat):=[(60,9),(64,9),(70,9),(78,9),(80,9),(87,9)]
theorem Zkq:J2 Try.prog Yr113 Try.f113 Ze1=true:=by kernel_rfl
def Zkp:IFunc:=⟨2,25,[.cell 4 2 false], .seq (rg [o1 2 (.box (.t 0) []),o1 3 (.box (.t 1) []),o1 4 (.new [.bool false, .sl 0 []] [])]) (.seq (rg [o1 10 (.ld 2 2 2 false),oC 11 122 [10],oM 9 11,o1 12 (.ext (.t 9) 0),o1 13 (.ext (.t 9) 1),oM 5 12,oM 6 13]) (.seq (rg [o1 15 (.ld 3 3 2 false),oC 16 122 [15],oM 14 16,o1 17 (.ext (.t 14) 0),o1 18 (.ext (.t 14) 1),oM 7 17,oM 8 18]) (.seq (rg [oM 19 5,oM 20 6,oM 21 7,o1 22 (.un .not (.t 21)),oM 23 8,oC 24 148 [19,20,22,23],oN (.st 4 4 2 (.t 24))]) (.ret))))⟩
def Yr114:List (Nat × Nat):=[]
theorem Zko:J2 Try.prog Yr114 Try.f114 Zkp=true:=by kernel_rfl
def Pj:IFunc:=⟨1,20,[.tmp 2], .seq (rg [o1 2 (.nlo 2)]) (.seq (.seq (rg [oM 4 0,o1 5 (.len (.t 4)),oM 3 5]) (.seq (rg [oM 6 3,o1 7 (.bin .gtr (.t 6) (ci 0)),oM 8 7,oG 9 (.mov (.t 0)) 8 true,oG 10 (.mov (.t 3)) 8 true,oG 11 (.bin .sub (.t 10) (ci 1)) 8 true,oG 12 (.ixa 9 (.t 11) 2) 8 true,oG 13 (.ld 12 12 2 false) 8 true,oG 14 (.call 73 [.t 13]) 8 true,oG 15 (.bin .lss (.t 14) (ci 0)) 8 true,o1 16 (.pick (.t 8) (.t 15) (.c (.bool false)))]) (.cond (.t 16) (.seq (rg [oM 17 0,o1 18 (.clo 127 [.t 17]),o1 2 (.tra 18)]) (.ret)) (.skip)))) (.seq (rg [oM 19 0,o1 2 (.tra 19)]) (.ret)))⟩
def Yr115:List (Nat × Nat):=[]
theorem Zkn:J2 Try.prog Yr115 Try.f115 Pj=true:=by kernel_rfl
def A4:ICode := .seq (rg [oB 46 .lss 45 44]) (.seq (.cond (.t 46) (.skip) (.exit 2)) (.seq (.block 3 (.seq (rg [oM 47 45,oM 10 47]) (.region true [o1 48 (.cpy 5),oM 49 10,o1 50 (.cpy 5),oM 51 10,o1 52 (.ixo 50 5 (.t 51) 2),o1 53 (.ld 52 5 2 false),o1 54 (.ld 6 6 2 false),oC 55 113 [53,54],o1 56 (.ixo 48 5 (.t 49) 2),oN (.st 56 5 2 (.t 55))]))) (rg [o1 57 (.bin .add (.t 45) (ci 1)),oM 45 57])))
def A3:ICode := .seq (rg [oB 61 .lss 60 59]) (.seq (.cond (.t 61) (.skip) (.exit 4)) (.seq (.block 5 (.seq (rg [oM 62 60,oM 11 62]) (.region true [o1 63 (.cpy 7),oM 64 11,o1 65 (.cpy 7),oM 66 11,o1 67 (.ixo 65 7 (.t 66) 2),o1 68 (.ld 67 7 2 false),o1 69 (.ld 6 6 2 false),oC 70 113 [68,69],o1 71 (.ixo 63 7 (.t 64) 2),oN (.st 71 7 2 (.t 70))]))) (rg [o1 72 (.bin .add (.t 60) (ci 1)),oM 60 72])))
def A2:ICode := .seq (rg [oB 80 .lss 79 78]) (.seq (.cond (.t 80) (.skip) (.exit 6)) (.seq (.block 7 (.seq (rg [oM 81 79,oM 12 81]) (.region true [o1 82 (.cpy 5),oM 83 8,oM 84 12,oB 85 .add 83 84,o1 86 (.cpy 5),oM 87 8,oM 88 12,oB 89 .add 87 88,o1 90 (.ixo 86 5 (.t 89) 2),o1 91 (.ld 90 5 2 false),o1 92 (.ld 9 9 2 false),oM 93 1,oM 94 12,o1 95 (.ixa 93 (.t 94) 2),o1 96 (.ld 95 95 2 false),oC 97 113 [92,96],oC 98 114 [91,97],o1 99 (.ixo 82 5 (.t 85) 2),oN (.st 99 5 2 (.t 98))]))) (rg [o1 100 (.bin .add (.t 79) (ci 1)),oM 79 100])))
def Zff:ICode := .seq (.seq (rg [oM 31 8,o1 32 (.bin .geq (.t 31) (ci 0))]) (.cond (.t 32) (.skip) (.exit 0))) (.seq (.block 1 (.seq (rg [o1 35 (.cpy 5),oM 36 8,oM 37 1,o1 38 (.len (.t 37)),oB 39 .add 36 38,o1 40 (.bin .sub (.t 39) (ci 1)),o1 41 (.ixo 35 5 (.t 40) 2),o1 42 (.ld 41 5 2 false),o1 9 (.new [.bool false, .sl 0 []] []),oN (.st 9 9 2 (.t 42))]) (.seq (.seq (rg [o1 43 (.cpy 5),o1 44 (.lno 43 5),o1 45 (.mov (ci 0))]) (.block 2 (.loop A4))) (.seq (.seq (rg [o1 58 (.cpy 7),o1 59 (.lno 58 7),o1 60 (.mov (ci 0))]) (.block 4 (.loop A3))) (.seq (rg [o1 73 (.cpy 7),oM 74 8,o1 75 (.ld 9 9 2 false),o1 76 (.ixo 73 7 (.t 74) 2),oN (.st 76 7 2 (.t 75))]) (.seq (rg [oM 77 1,o1 78 (.len (.t 77)),o1 79 (.mov (ci 0))]) (.block 6 (.loop A2)))))))) (rg [oM 33 8,o1 34 (.bin .sub (.t 33) (ci 1)),oM 8 34]))
def Ze0:IFunc:=⟨2,103,[.tmp 4], .seq (rg [o1 4 (.nlo 2)]) (.seq (rg [oM 13 0,o1 14 (.clo 92 [.t 13]),⟨some 5, .tra 14,none,[21,35,41,43,48,50,52,56,82,86,90,99]⟩]) (.seq (rg [oM 15 1,oM 16 1,o1 17 (.len (.t 16)),o1 18 (.bin .sub (.t 17) (ci 1)),o1 19 (.ixa 15 (.t 18) 2),o1 20 (.ld 19 19 2 false),o1 6 (.new [.bool false, .sl 0 []] []),oN (.st 6 6 2 (.t 20))]) (.seq (rg [o1 21 (.cpy 5),o1 22 (.lno 21 5),oM 23 1,o1 24 (.len (.t 23)),oB 25 .sub 22 24,o1 26 (.bin .add (.t 25) (ci 1)),o1 27 (.mks [.bool false, .sl 0 []] (.t 26)),⟨some 7, .tra 27,none,[28,58,63,65,67,71,73,76]⟩]) (.seq (.seq (rg [o1 28 (.cpy 7),o1 29 (.lno 28 7),o1 30 (.bin .sub (.t 29) (ci 1)),oM 8 30]) (.block 0 (.loop Zff))) (.seq (rg [o1 101 (.frz 7),o1 102 (.clo 86 [.t 101]),o1 4 (.tra 102)]) (.ret))))))⟩
def Yr116:List (Nat × Nat):=[(21,5),(28,7),(35,5),(41,5),(43,5),(48,5),(50,5),(52,5),(56,5),(58,7),(63,7),(65,7),(67,7),(71,7),(73,7),(76,7),(82,5),(86,5),(90,5),(99,5)]
theorem Zkm:J2 Try.prog Yr116 Try.f116 Ze0=true:=by kernel_rfl
def Zkl:IFunc:=⟨2,24,[.cell 4 2 false], .seq (rg [o1 2 (.box (.t 0) []),o1 3 (.box (.t 1) []),o1 4 (.new [.bool false, .sl 0 []] [])]) (.seq (rg [o1 10 (.ld 2 2 2 false),oC 11 122 [10],oM 9 11,o1 12 (.ext (.t 9) 0),o1 13 (.ext (.t 9) 1),oM 5 12,oM 6 13]) (.seq (rg [o1 15 (.ld 3 3 2 false),oC 16 122 [15],oM 14 16,o1 17 (.ext (.t 14) 0),o1 18 (.ext (.t 14) 1),oM 7 17,oM 8 18]) (.seq (rg [oM 19 5,oM 20 6,oM 21 7,oM 22 8,oC 23 148 [19,20,21,22],oN (.st 4 4 2 (.t 23))]) (.ret))))⟩
def Yr121:List (Nat × Nat):=[]
theorem Zkk:J2 Try.prog Yr121 Try.f121 Zkl=true:=by kernel_rfl
def Pm:ICode := .seq (.seq (rg [oM 8 4,o1 9 (.bin .gtr (.t 8) (ci 0)),oM 10 9,oG 11 (.adr 1 1 1) 10 true,oG 12 (.ld 11 1 1 true) 10 true,oG 13 (.mov (.t 4)) 10 true,oG 14 (.bin .sub (.t 13) (ci 1)) 10 true,oG 15 (.ixa 12 (.t 14) 1) 10 true,oG 16 (.ld 15 15 1 true) 10 true,oG 17 (.bin .eql (.t 16) (.c (.int .u32 0))) 10 true,o1 18 (.pick (.t 10) (.t 17) (.c (.bool false)))]) (.cond (.t 18) (.skip) (.exit 0))) (.block 1 (rg [oM 19 4,o1 20 (.bin .sub (.t 19) (ci 1)),oM 4 20]))
def Zaj:IFunc:=⟨1,31,[.tmp 2, .tmp 3], .seq (rg [o1 1 (.box (.t 0) [5,11,21,27]),o1 2 (.mov (.c (.bool false))),o1 3 (.nlo 1)]) (.seq (rg [o1 5 (.adr 1 1 1),o1 6 (.ld 5 1 1 true),o1 7 (.len (.t 6)),oM 4 7]) (.seq (.block 0 (.loop Pm)) (.seq (.region true [o1 21 (.adr 1 1 0),o1 22 (.ld 21 1 1 true),oM 23 22,oG 24 (.mov (.t 4)) 23 true,oG 25 (.bin .gtr (.t 24) (ci 0)) 23 true,o1 26 (.pick (.t 23) (.t 25) (.c (.bool false))),o1 27 (.adr 1 1 1),o1 28 (.ld 27 1 1 true),oM 29 4,o1 30 (.sli (.t 28) none (some (.t 29)) none 1),oM 2 26,o1 3 (.tra 30)]) (.ret))))⟩
def Yr122:List (Nat × Nat):=[(5,1),(11,1),(21,1),(27,1)]
theorem Zkj:J2 Try.prog Yr122 Try.f122 Zaj=true:=by kernel_rfl
def Dk:List UInt8:=0::1::2::2::3::3::3::3::4::4::4::4::4::4::4::4::5::5::5::5::5::5::5::5::5::5::5::5::5::5::5::5::6::6::6::6::6::6::6::6::[]
def Dj:List UInt8:=6::6::6::6::6::6::6::6::6::6::6::6::6::6::6::6::6::6::6::6::6::6::6::6::7::7::7::7::7::7::7::7::7::7::7::7::7::7::7::7::[]
def Di:List UInt8:=7::7::7::7::7::7::7::7::7::7::7::7::7::7::7::7::7::7::7::7::7::7::7::7::7::7::7::7::7::7::7::7::7::7::7::7::7::7::7::7::[]
def Dh:List UInt8:=7::7::7::7::7::7::7::7::8::8::8::8::8::8::8::8::8::8::8::8::8::8::8::8::8::8::8::8::8::8::8::8::8::8::8::8::8::8::8::8::[]
def Dg:List UInt8:=8::8::8::8::8::8::8::8::8::8::8::8::8::8::8::8::8::8::8::8::8::8::8::8::8::8::8::8::8::8::8::8::8::8::8::8::8::8::8::8::[]
def Df:List UInt8:=8::8::8::8::8::8::8::8::8::8::8::8::8::8::8::8::8::8::8::8::8::8::8::8::8::8::8::8::8::8::8::8::8::8::8::8::8::8::8::8::[]
def De:List UInt8:=8::8::8::8::8::8::8::8::8::8::8::8::8::8::8::8::[]
def Jn:ByteArray:=⟨(Dk++Dj++Di++Dh++Dg++Df++De).toArray⟩
def Zki:IFunc:=⟨1,19,[.tmp 2], .seq (rg [o1 2 (.mov (ci 0))]) (.seq (.seq (rg [oM 3 0,o1 4 (.bin .geq (.t 3) (.c (.int .u32 65536)))]) (.cond (.t 4) (.seq (rg [oM 5 0,o1 6 (.bin .shr (.t 5) (.c (.int .u64 16))),oM 0 6]) (rg [o1 2 (.mov (ci 16))])) (.skip))) (.seq (.seq (rg [oM 7 0,o1 8 (.bin .geq (.t 7) (.c (.int .u32 256)))]) (.cond (.t 8) (.seq (rg [oM 9 0,o1 10 (.bin .shr (.t 9) (.c (.int .u64 8))),oM 0 10]) (rg [oM 11 2,o1 12 (.bin .add (.t 11) (ci 8)),oM 2 12])) (.skip))) (.seq (rg [oM 13 2,oM 14 0,o1 15 (.cv .u8 (.t 14)),o1 16 (.six (.c (.str Jn)) (.t 15)),o1 17 (.cv .i64 (.t 16)),oB 18 .add 13 17,oM 2 18]) (.ret))))⟩
def Yr123:List (Nat × Nat):=[]
theorem Zkh:J2 Try.prog Yr123 Try.f123 Zki=true:=by kernel_rfl
def Zfe:ICode := .seq (rg [oB 36 .lss 35 34]) (.seq (.cond (.t 36) (.skip) (.exit 0)) (.seq (.block 1 (.seq (rg [oM 37 35,o1 38 (.ixa 33 (.t 35) 1),o1 39 (.ld 38 38 1 true),oM 10 37,oM 11 39]) (.seq (rg [oM 40 11,o1 41 (.cv .u64 (.t 40)),oM 42 8,oB 43 .shl 41 42,oM 12 43]) (.seq (rg [o1 44 (.cpy 9),oM 45 10,oM 46 7,oB 47 .add 45 46,o1 48 (.ixo 44 9 (.t 47) 1),o1 49 (.ld 48 9 1 true),oM 50 12,o1 51 (.cv .u32 (.t 50)),oB 52 .or 49 51,o1 53 (.ixo 44 9 (.t 47) 1),oN (.st 53 9 1 (.t 52))]) (rg [o1 54 (.cpy 9),oM 55 10,oM 56 7,oB 57 .add 55 56,o1 58 (.bin .add (.t 57) (ci 1)),oM 59 12,o1 60 (.bin .shr (.t 59) (.c (.int .u64 32))),o1 61 (.cv .u32 (.t 60)),o1 62 (.ixo 54 9 (.t 58) 1),oN (.st 62 9 1 (.t 61))]))))) (rg [o1 63 (.bin .add (.t 35) (ci 1)),oM 35 63])))
def Zai:IFunc:=⟨2,67,[.cell 4 2 false], .seq (rg [o1 2 (.box (.t 0) []),o1 4 (.new [.bool false, .sl 0 []] [])]) (.seq (rg [o1 14 (.ld 2 2 2 false),oC 15 122 [14],oM 13 15,o1 16 (.ext (.t 13) 0),o1 17 (.ext (.t 13) 1),oM 5 16,oM 6 17]) (.seq (.seq (rg [oM 18 6,o1 19 (.len (.t 18)),o1 20 (.bin .eql (.t 19) (ci 0))]) (.cond (.t 20) (.seq (rg [o1 21 (.bld [.bool false, .sl 0 []] []),oN (.st 4 4 2 (.t 21))]) (.ret)) (.skip))) (.seq (rg [oM 22 1,o1 23 (.bin .quo (.t 22) (ci 32)),oM 24 1,o1 25 (.bin .rem (.t 24) (ci 32)),o1 26 (.cv .u64 (.t 25)),oM 7 23,oM 8 26]) (.seq (rg [oM 27 6,o1 28 (.len (.t 27)),oM 29 7,oB 30 .add 28 29,o1 31 (.bin .add (.t 30) (ci 1)),o1 32 (.mks [.int .u32 0] (.t 31)),⟨some 9, .tra 32,none,[44,48,53,54,62]⟩]) (.seq (.seq (rg [oM 33 6,o1 34 (.len (.t 33)),o1 35 (.mov (ci 0))]) (.block 0 (.loop Zfe))) (.seq (rg [oM 64 5,o1 65 (.frz 9),oC 66 133 [64,65],oN (.st 4 4 2 (.t 66))]) (.ret)))))))⟩
def Yr124:List (Nat × Nat):=[(44,9),(48,9),(53,9),(54,9),(62,9)]
theorem Zkg:J2 Try.prog Yr124 Try.f124 Zai=true:=by kernel_rfl
def Zfd:ICode := .seq (.seq (rg [oM 6 3,o1 7 (.bin .gtr (.t 6) (ci 0)),oM 8 7,oG 9 (.mov (.t 0)) 8 true,oG 10 (.mov (.t 3)) 8 true,oG 11 (.bin .sub (.t 10) (ci 1)) 8 true,oG 12 (.ixa 9 (.t 11) 1) 8 true,oG 13 (.ld 12 12 1 true) 8 true,oG 14 (.bin .eql (.t 13) (.c (.int .u32 0))) 8 true,o1 15 (.pick (.t 8) (.t 14) (.c (.bool false)))]) (.cond (.t 15) (.skip) (.exit 0))) (.block 1 (rg [oM 16 3,o1 17 (.bin .sub (.t 16) (ci 1)),oM 3 17]))
def Zez:IFunc:=⟨1,22,[.tmp 2], .seq (rg [o1 2 (.nlo 1)]) (.seq (rg [oM 4 0,o1 5 (.len (.t 4)),oM 3 5]) (.seq (.block 0 (.loop Zfd)) (.seq (rg [oM 18 0,oM 19 3,o1 20 (.sli (.t 18) none (some (.t 19)) none 1),o1 21 (.apd true (.c (.nil)) (.t 20) 1),o1 2 (.tra 21)]) (.ret))))⟩
def Yr125:List (Nat × Nat):=[]
theorem Zkf:J2 Try.prog Yr125 Try.f125 Zez=true:=by kernel_rfl
def Zfc:ICode := .seq (.seq (rg [oM 20 9,oM 21 8,o1 22 (.len (.t 21)),oB 23 .lss 20 22]) (.cond (.t 23) (.skip) (.exit 0))) (.seq (.block 1 (.seq (rg [oM 26 8,oM 27 9,o1 28 (.ixa 26 (.t 27) 1),o1 29 (.ld 28 28 1 true),o1 30 (.cv .u64 (.t 29)),oM 31 7,oB 32 .shl 30 31,oM 33 6,o1 34 (.cv .u64 (.t 33)),oB 35 .or 32 34,oM 10 35]) (.seq (rg [o1 36 (.tra 5),oM 37 10,o1 38 (.cv .u32 (.t 37)),o1 39 (.bls 1 [.int .u32 0] [(0,1, .t 38)]),o1 40 (.apd true (.t 36) (.t 39) 1),o1 5 (.tra 40)]) (rg [oM 41 10,o1 42 (.bin .shr (.t 41) (.c (.int .u64 32))),o1 43 (.cv .u32 (.t 42)),oM 6 43])))) (rg [oM 24 9,o1 25 (.bin .add (.t 24) (ci 1)),oM 9 25]))
def Zey:IFunc:=⟨2,51,[.cell 4 2 false], .seq (rg [o1 2 (.box (.t 0) [17,44]),o1 4 (.new [.bool false, .sl 0 []] [])]) (.seq (rg [oM 11 1,o1 12 (.bin .quo (.t 11) (ci 32)),o1 13 (.mks [.int .u32 0] (.t 12)),o1 5 (.tra 13)]) (.seq (rg [o1 6 (.mov (.c (.int .u32 0)))]) (.seq (rg [oM 14 1,o1 15 (.bin .rem (.t 14) (ci 32)),o1 16 (.cv .u64 (.t 15)),oM 7 16]) (.seq (rg [o1 17 (.adr 2 2 1),o1 18 (.ld 17 2 1 true),oC 19 125 [18],oM 8 19]) (.seq (.seq (rg [o1 9 (.mov (ci 0))]) (.block 0 (.loop Zfc))) (.seq (.region true [o1 44 (.adr 2 2 0),o1 45 (.ld 44 2 1 true),o1 46 (.tra 5),oM 47 6,o1 48 (.bls 1 [.int .u32 0] [(0,1, .t 47)]),o1 49 (.apd false (.t 46) (.t 48) 1),o1 50 (.cln 106 [.t 45, .t 49] [4]),oN (.stl 4 50)]) (.ret)))))))⟩
def Yr126:List (Nat × Nat):=[(4,50),(17,2),(44,2)]
theorem Zke:J2 Try.prog Yr126 Try.f126 Zey=true:=by kernel_rfl
def Zfb:ICode := .seq (rg [oB 11 .lss 10 9]) (.seq (.cond (.t 11) (.skip) (.exit 0)) (.seq (.block 1 (.seq (rg [oM 12 10,oM 4 12]) (rg [o1 13 (.cpy 3),oM 14 4,oM 15 0,oM 16 4,o1 17 (.ixa 15 (.t 16) 2),o1 18 (.ld 17 17 2 false),oC 19 112 [18],o1 20 (.ixo 13 3 (.t 14) 2),oN (.st 20 3 2 (.t 19))]))) (rg [o1 21 (.bin .add (.t 10) (ci 1)),oM 10 21])))
def Zex:IFunc:=⟨1,23,[.tmp 2], .seq (rg [o1 2 (.nlo 2)]) (.seq (rg [oM 5 0,o1 6 (.len (.t 5)),o1 7 (.mks [.bool false, .sl 0 []] (.t 6)),⟨some 3, .tra 7,none,[13,20]⟩]) (.seq (.seq (rg [oM 8 0,o1 9 (.len (.t 8)),o1 10 (.mov (ci 0))]) (.block 0 (.loop Zfb))) (.seq (rg [o1 22 (.tra 3),o1 2 (.tra 22)]) (.ret))))⟩
def Yr127:List (Nat × Nat):=[(13,3),(20,3)]
theorem Zkd:J2 Try.prog Yr127 Try.f127 Zex=true:=by kernel_rfl
def Zkc:IFunc:=⟨1,14,[.cell 2 2 false], .seq (rg [o1 1 (.box (.t 0) []),o1 2 (.new [.bool false, .sl 0 []] [])]) (.seq (rg [o1 6 (.ld 1 1 2 false),oC 7 122 [6],oM 5 7,o1 8 (.ext (.t 5) 0),o1 9 (.ext (.t 5) 1),oM 3 8,oM 4 9]) (.seq (rg [oM 10 3,oM 11 4,o1 12 (.apd false (.c (.nil)) (.t 11) 1),oC 13 133 [10,12],oN (.st 2 2 2 (.t 13))]) (.ret)))⟩
def Yr132:List (Nat × Nat):=[]
theorem Zkb:J2 Try.prog Yr132 Try.f132 Zkc=true:=by kernel_rfl
def Pk:ICode := .seq (.seq (rg [oM 8 5,o1 9 (.bin .gtr (.t 8) (ci 0)),oM 10 9,oG 11 (.mov (.t 1)) 10 true,oG 12 (.mov (.t 5)) 10 true,oG 13 (.bin .sub (.t 12) (ci 1)) 10 true,oG 14 (.ixa 11 (.t 13) 1) 10 true,oG 15 (.ld 14 14 1 true) 10 true,oG 16 (.bin .eql (.t 15) (.c (.int .u32 0))) 10 true,o1 17 (.pick (.t 10) (.t 16) (.c (.bool false)))]) (.cond (.t 17) (.skip) (.exit 0))) (.block 1 (rg [oM 18 5,o1 19 (.bin .sub (.t 18) (ci 1)),oM 5 19]))
def Zah:IFunc:=⟨2,29,[.cell 4 2 false], .seq (rg [o1 4 (.new [.bool false, .sl 0 []] [])]) (.seq (rg [oM 6 1,o1 7 (.len (.t 6)),oM 5 7]) (.seq (.block 0 (.loop Pk)) (.seq (.seq (rg [oM 20 5,o1 21 (.bin .eql (.t 20) (ci 0))]) (.cond (.t 21) (.seq (rg [o1 22 (.bld [.bool false, .sl 0 []] []),oN (.st 4 4 2 (.t 22))]) (.ret)) (.skip))) (.seq (rg [oM 23 0,oM 24 1,oM 25 5,oM 26 5,o1 27 (.sli (.t 24) none (some (.t 25)) (some (.t 26)) 1),o1 28 (.bld [.bool false, .sl 0 []] [(0,1, .t 23),(1,1, .t 27)]),oN (.st 4 4 2 (.t 28))]) (.ret)))))⟩
def Yr133:List (Nat × Nat):=[]
theorem Zka:J2 Try.prog Yr133 Try.f133 Zah=true:=by kernel_rfl
def Mr:IFunc:=⟨2,39,[.tmp 4], .seq (rg [o1 2 (.box (.t 0) []),o1 3 (.box (.t 1) []),o1 4 (.mov (ci 0))]) (.seq (rg [o1 10 (.ld 2 2 2 false),oC 11 122 [10],oM 9 11,o1 12 (.ext (.t 9) 0),o1 13 (.ext (.t 9) 1),oM 5 12,oM 6 13]) (.seq (rg [o1 15 (.ld 3 3 2 false),oC 16 122 [15],oM 14 16,o1 17 (.ext (.t 14) 0),o1 18 (.ext (.t 14) 1),oM 7 17,oM 8 18]) (.seq (.block 0 (.seq (rg [oM 20 5,oM 21 20,oG 22 (.mov (.t 7)) 21 true,oG 23 (.un .not (.t 22)) 21 true,o1 24 (.pick (.t 21) (.t 23) (.c (.bool false))),oM 19 24]) (.cond (.t 19) (.seq (rg [o1 4 (.mov (ci (-1)))]) (.ret)) (.seq (rg [oM 26 7,oM 27 26,oG 28 (.mov (.t 5)) 27 true,oG 29 (.un .not (.t 28)) 27 true,o1 30 (.pick (.t 27) (.t 29) (.c (.bool false))),oM 25 30]) (.cond (.t 25) (.seq (rg [o1 4 (.mov (ci 1))]) (.ret)) (.seq (rg [oM 32 5,oM 31 32]) (.cond (.t 31) (.seq (rg [oM 33 8,oM 34 6,oC 35 150 [33,34],oM 4 35]) (.ret)) (.skip)))))))) (.seq (rg [oM 36 6,oM 37 8,oC 38 150 [36,37],oM 4 38]) (.ret)))))⟩
def Yr134:List (Nat × Nat):=[]
theorem Zj9:J2 Try.prog Yr134 Try.f134 Mr=true:=by kernel_rfl
def Mq:IFunc:=⟨2,32,[.tmp 4], .seq (rg [o1 2 (.box (.t 0) [20]),o1 3 (.box (.t 1) [23]),o1 4 (.mov (ci 0))]) (.seq (.region true [o1 8 (.ld 2 2 2 false),oC 9 81 [8],o1 10 (.ld 3 3 2 false),oC 11 81 [10],oM 5 9,oM 6 11]) (.seq (.block 0 (.seq (rg [oM 13 5,oM 14 6,oB 15 .lss 13 14,oM 12 15]) (.cond (.t 12) (.seq (rg [o1 4 (.mov (ci (-1)))]) (.ret)) (.seq (rg [oM 17 5,oM 18 6,oB 19 .gtr 17 18,oM 16 19]) (.cond (.t 16) (.seq (rg [o1 4 (.mov (ci 1))]) (.ret)) (.skip)))))) (.seq (.region true [o1 20 (.adr 2 2 1),o1 21 (.ld 20 2 1 true),oC 22 125 [21],o1 23 (.adr 3 3 1),o1 24 (.ld 23 3 1 true),oC 25 125 [24],oC 26 139 [22,25],oM 7 26]) (.seq (.seq (rg [oM 27 5,o1 28 (.bin .lss (.t 27) (ci 0))]) (.cond (.t 28) (.seq (rg [oM 29 7,o1 30 (.un .neg (.t 29)),oM 4 30]) (.ret)) (.skip))) (.seq (rg [oM 31 7,oM 4 31]) (.ret))))))⟩
def Yr135:List (Nat × Nat):=[(20,2),(23,3)]
theorem Zj8:J2 Try.prog Yr135 Try.f135 Mq=true:=by kernel_rfl
def E1:ICode := .seq (.seq (rg [oM 19 5,o1 20 (.bin .geq (.t 19) (ci 0))]) (.cond (.t 20) (.skip) (.exit 0))) (.seq (.block 1 (.seq (.region true [oM 23 0,oM 24 5,o1 25 (.ixa 23 (.t 24) 1),o1 26 (.ld 25 25 1 true),oM 27 1,oM 28 5,o1 29 (.ixa 27 (.t 28) 1),o1 30 (.ld 29 29 1 true),oB 31 .neq 26 30]) (.cond (.t 31) (.seq (.seq (.region true [oM 32 0,oM 33 5,o1 34 (.ixa 32 (.t 33) 1),o1 35 (.ld 34 34 1 true),oM 36 1,oM 37 5,o1 38 (.ixa 36 (.t 37) 1),o1 39 (.ld 38 38 1 true),oB 40 .lss 35 39]) (.cond (.t 40) (.seq (rg [o1 4 (.mov (ci (-1)))]) (.ret)) (.skip))) (.seq (rg [o1 4 (.mov (ci 1))]) (.ret))) (.skip)))) (rg [oM 21 5,o1 22 (.bin .sub (.t 21) (ci 1)),oM 5 22]))
def Zag:IFunc:=⟨2,41,[.tmp 4], .seq (rg [o1 4 (.mov (ci 0))]) (.seq (.seq (rg [oM 6 0,o1 7 (.len (.t 6)),oM 8 1,o1 9 (.len (.t 8)),oB 10 .neq 7 9]) (.cond (.t 10) (.seq (.seq (rg [oM 11 0,o1 12 (.len (.t 11)),oM 13 1,o1 14 (.len (.t 13)),oB 15 .lss 12 14]) (.cond (.t 15) (.seq (rg [o1 4 (.mov (ci (-1)))]) (.ret)) (.skip))) (.seq (rg [o1 4 (.mov (ci 1))]) (.ret))) (.skip))) (.seq (.seq (rg [oM 16 0,o1 17 (.len (.t 16)),o1 18 (.bin .sub (.t 17) (ci 1)),oM 5 18]) (.block 0 (.loop E1))) (.seq (rg [o1 4 (.mov (ci 0))]) (.ret))))⟩
def Yr139:List (Nat × Nat):=[]
theorem Zj7:J2 Try.prog Yr139 Try.f139 Zag=true:=by kernel_rfl
def Zj6:IFunc:=⟨2,39,[.cell 4 3 false], .seq (rg [o1 2 (.box (.t 0) [8,17]),o1 4 (.new [.bool false, .sl 0 [], .int .i64 0] [])]) (.seq (rg [o1 6 (.ld 2 2 2 false),oC 7 132 [6],oN (.st 2 2 2 (.t 7))]) (.seq (.seq (rg [o1 8 (.adr 2 2 1),o1 9 (.ld 8 2 1 true),o1 10 (.len (.t 9)),o1 11 (.bin .eql (.t 10) (ci 0))]) (.cond (.t 11) (.seq (rg [o1 12 (.bld [.bool false, .sl 0 [], .int .i64 0] []),oN (.st 4 4 3 (.t 12))]) (.ret)) (.skip))) (.seq (rg [o1 5 (.mov (ci 0))]) (.seq (.block 0 (.loop (.seq (.seq (rg [oM 13 5,oM 14 1,oB 15 .lss 13 14,oM 16 15,oG 17 (.adr 2 2 1) 16 true,oG 18 (.ld 17 2 1 true) 16 true,oG 19 (.mov (.t 5)) 16 true,oG 20 (.bin .quo (.t 19) (ci 32)) 16 true,oG 21 (.ixa 18 (.t 20) 1) 16 true,oG 22 (.ld 21 21 1 true) 16 true,oG 23 (.mov (.t 5)) 16 true,oG 24 (.bin .rem (.t 23) (ci 32)) 16 true,oG 25 (.cv .u64 (.t 24)) 16 true,oG 26 (.bin .shr (.t 22) (.t 25)) 16 true,oG 27 (.bin .and (.t 26) (.c (.int .u32 1))) 16 true,oG 28 (.bin .eql (.t 27) (.c (.int .u32 0))) 16 true,o1 29 (.pick (.t 16) (.t 28) (.c (.bool false)))]) (.cond (.t 29) (.skip) (.exit 0))) (.block 1 (rg [oM 30 5,o1 31 (.bin .add (.t 30) (ci 1)),oM 5 31]))))) (.seq (rg [o1 32 (.ld 2 2 2 false),oM 33 5,oC 34 151 [32,33],oM 35 1,oM 36 5,oB 37 .sub 35 36,o1 38 (.bld [.bool false, .sl 0 [], .int .i64 0] [(0,2, .t 34),(2,1, .t 37)]),oN (.st 4 4 3 (.t 38))]) (.ret))))))⟩
def Yr142:List (Nat × Nat):=[(8,2),(17,2)]
theorem Zj5:J2 Try.prog Yr142 Try.f142 Zj6=true:=by kernel_rfl
def Zew:IFunc:=⟨1,10,[.cell 2 2 false], .seq (rg [o1 2 (.new [.bool false, .sl 0 []] [])]) (.seq (rg [oM 3 0,o1 4 (.cv .u32 (.t 3)),oM 5 0,o1 6 (.bin .shr (.t 5) (.c (.int .u64 32))),o1 7 (.cv .u32 (.t 6)),o1 8 (.bls 2 [.int .u32 0, .int .u32 0] [(0,1, .t 4),(1,1, .t 7)]),o1 9 (.call 133 [.c (.bool false), .t 8]),oN (.st 2 2 2 (.t 9))]) (.ret))⟩
def Yr144:List (Nat × Nat):=[]
theorem Zj4:J2 Try.prog Yr144 Try.f144 Zew=true:=by kernel_rfl
def Zfa:ICode := .seq (.seq (rg [oM 5 1,o1 6 (.bin .gtr (.t 5) (.c (.int .u64 0)))]) (.cond (.t 6) (.skip) (.exit 0))) (.block 1 (.region true [oM 7 1,oM 8 0,oM 9 1,oB 10 .rem 8 9,oM 0 7,oM 1 10]))
def Zev:IFunc:=⟨2,12,[.tmp 4], .seq (rg [o1 4 (.mov (.c (.int .u64 0)))]) (.seq (.block 0 (.loop Zfa)) (.seq (rg [oM 11 0,oM 4 11]) (.ret)))⟩
def Yr145:List (Nat × Nat):=[]
theorem Zj3:J2 Try.prog Yr145 Try.f145 Zev=true:=by kernel_rfl
def Ze9:ICode := .seq (rg [oB 10 .lss 9 8]) (.seq (.cond (.t 10) (.skip) (.exit 0)) (.seq (.block 1 (.seq (rg [oM 11 9,o1 12 (.ixa 7 (.t 9) 1),o1 13 (.ld 12 12 1 true),oM 4 11,oM 5 13]) (rg [oM 14 3,oM 15 5,o1 16 (.cv .u64 (.t 15)),oM 17 4,o1 18 (.bin .mul (ci 32) (.t 17)),o1 19 (.cv .u64 (.t 18)),oB 20 .shl 16 19,oB 21 .or 14 20,oM 3 21]))) (rg [o1 22 (.bin .add (.t 9) (ci 1)),oM 9 22])))
def Zeu:IFunc:=⟨1,24,[.tmp 2], .seq (rg [o1 1 (.box (.t 0) [6]),o1 2 (.mov (.c (.int .u64 0)))]) (.seq (rg [o1 3 (.mov (.c (.int .u64 0)))]) (.seq (.seq (rg [o1 6 (.adr 1 1 1),o1 7 (.ld 6 1 1 true),o1 8 (.len (.t 7)),o1 9 (.mov (ci 0))]) (.block 0 (.loop Ze9))) (.seq (rg [oM 23 3,oM 2 23]) (.ret))))⟩
def Yr146:List (Nat × Nat):=[(6,1)]
theorem Zj2:J2 Try.prog Yr146 Try.f146 Zeu=true:=by kernel_rfl
def Mu:ICode := .seq (.seq (rg [oM 202 26,oM 203 11,oB 204 .lss 202 203]) (.cond (.t 204) (.skip) (.exit 6))) (.seq (.block 7 (.seq (.region true [o1 207 (.cpy 9),oM 208 26,oM 209 15,oB 210 .add 208 209,o1 211 (.ixo 207 9 (.t 210) 1),o1 212 (.ld 211 9 1 true),o1 213 (.cv .u64 (.t 212)),oM 214 10,oM 215 26,o1 216 (.ixa 214 (.t 215) 1),o1 217 (.ld 216 216 1 true),o1 218 (.cv .u64 (.t 217)),oB 219 .add 213 218,oM 220 25,oB 221 .add 219 220,oM 27 221]) (rg [o1 222 (.cpy 9),oM 223 26,oM 224 15,oB 225 .add 223 224,oM 226 27,o1 227 (.cv .u32 (.t 226)),oM 228 27,o1 229 (.bin .shr (.t 228) (.c (.int .u64 32))),o1 230 (.ixo 222 9 (.t 225) 1),oN (.st 230 9 1 (.t 227)),oM 25 229]))) (rg [oM 205 26,o1 206 (.bin .add (.t 205) (ci 1)),oM 26 206]))
def Bs:ICode := .seq (.seq (rg [oM 248 28,oM 249 11,oB 250 .lss 248 249]) (.cond (.t 250) (.skip) (.exit 8))) (.seq (.block 9 (.seq (rg [o1 253 (.cpy 5),oM 254 28,o1 255 (.cpy 9),oM 256 28,o1 257 (.ixo 255 9 (.t 256) 1),o1 258 (.ld 257 9 1 true),oM 259 8,o1 260 (.cv .u64 (.t 259)),oB 261 .shr 258 260,o1 262 (.ixo 253 5 (.t 254) 1),oN (.st 262 5 1 (.t 261))]) (.seq (rg [oM 263 8,o1 264 (.bin .gtr (.t 263) (ci 0))]) (.cond (.t 264) (.region true [o1 265 (.cpy 5),oM 266 28,o1 267 (.ixo 265 5 (.t 266) 1),o1 268 (.ld 267 5 1 true),o1 269 (.cpy 9),oM 270 28,o1 271 (.bin .add (.t 270) (ci 1)),o1 272 (.ixo 269 9 (.t 271) 1),o1 273 (.ld 272 9 1 true),oM 274 8,o1 275 (.bin .sub (ci 32) (.t 274)),o1 276 (.cv .u64 (.t 275)),oB 277 .shl 273 276,oB 278 .or 268 277,o1 279 (.ixo 265 5 (.t 266) 1),oN (.st 279 5 1 (.t 278))]) (.skip))))) (rg [oM 251 28,o1 252 (.bin .add (.t 251) (ci 1)),oM 28 252]))
def A1:ICode := .seq (.seq (rg [oM 141 21,oM 142 11,oB 143 .lss 141 142]) (.cond (.t 143) (.skip) (.exit 4))) (.seq (.block 5 (.seq (rg [oM 146 17,oM 147 10,oM 148 21,o1 149 (.ixa 147 (.t 148) 1),o1 150 (.ld 149 149 1 true),o1 151 (.cv .u64 (.t 150)),oB 152 .mul 146 151,oM 153 20,oB 154 .add 152 153,oM 22 154]) (.seq (rg [oM 155 22,o1 156 (.bin .shr (.t 155) (.c (.int .u64 32))),oM 20 156]) (.seq (rg [o1 157 (.cpy 9),oM 158 21,oM 159 15,oB 160 .add 158 159,o1 161 (.ixo 157 9 (.t 160) 1),o1 162 (.ld 161 9 1 true),o1 163 (.cv .u64 (.t 162)),oM 164 22,o1 165 (.cv .u32 (.t 164)),o1 166 (.cv .u64 (.t 165)),oB 167 .sub 163 166,oM 168 19,oB 169 .sub 167 168,oM 23 169]) (rg [o1 170 (.cpy 9),oM 171 21,oM 172 15,oB 173 .add 171 172,oM 174 23,o1 175 (.cv .u32 (.t 174)),oM 176 23,o1 177 (.bin .shr (.t 176) (.c (.int .u64 63))),o1 178 (.ixo 170 9 (.t 173) 1),oN (.st 178 9 1 (.t 175)),oM 19 177]))))) (rg [oM 144 21,o1 145 (.bin .add (.t 144) (ci 1)),oM 21 145]))
def Wg:ICode := .seq (.seq (rg [oM 115 17,o1 116 (.bin .geq (.t 115) (.c (.int .u64 4294967296))),oM 117 116,oG 118 (.mov (.t 17)) 117 false,oG 119 (.mov (.t 14)) 117 false,oG 120 (.bin .mul (.t 118) (.t 119)) 117 false,oG 121 (.mov (.t 18)) 117 false,oG 122 (.bin .shl (.t 121) (.c (.int .u64 32))) 117 false,oG 123 (.cpy 9) 117 false,oG 124 (.mov (.t 15)) 117 false,oG 125 (.mov (.t 11)) 117 false,oG 126 (.bin .add (.t 124) (.t 125)) 117 false,oG 127 (.bin .sub (.t 126) (ci 2)) 117 false,oG 128 (.ixo 123 9 (.t 127) 1) 117 false,oG 129 (.ld 128 9 1 true) 117 false,oG 130 (.cv .u64 (.t 129)) 117 false,oG 131 (.bin .or (.t 122) (.t 130)) 117 false,oG 132 (.bin .gtr (.t 120) (.t 131)) 117 false,o1 133 (.pick (.t 117) (.c (.bool true)) (.t 132))]) (.cond (.t 133) (.skip) (.exit 2))) (.block 3 (.seq (rg [oM 134 17,o1 135 (.bin .sub (.t 134) (.c (.int .u64 1))),oM 17 135]) (.seq (rg [oM 136 18,oM 137 13,oB 138 .add 136 137,oM 18 138]) (.seq (rg [oM 139 18,o1 140 (.bin .geq (.t 139) (.c (.int .u64 4294967296)))]) (.cond (.t 140) (.exit 2) (.skip))))))
def E2:ICode := .seq (.seq (rg [oM 88 15,o1 89 (.bin .geq (.t 88) (ci 0))]) (.cond (.t 89) (.skip) (.exit 0))) (.seq (.block 1 (.seq (.region true [o1 92 (.cpy 9),oM 93 15,oM 94 11,oB 95 .add 93 94,o1 96 (.ixo 92 9 (.t 95) 1),o1 97 (.ld 96 9 1 true),o1 98 (.cv .u64 (.t 97)),o1 99 (.bin .shl (.t 98) (.c (.int .u64 32))),o1 100 (.cpy 9),oM 101 15,oM 102 11,oB 103 .add 101 102,o1 104 (.bin .sub (.t 103) (ci 1)),o1 105 (.ixo 100 9 (.t 104) 1),o1 106 (.ld 105 9 1 true),o1 107 (.cv .u64 (.t 106)),oB 108 .or 99 107,oM 16 108]) (.seq (.region true [oM 109 16,oM 110 13,oB 111 .quo 109 110,oM 112 16,oM 113 13,oB 114 .rem 112 113,oM 17 111,oM 18 114]) (.seq (.block 2 (.loop Wg)) (.seq (rg [o1 19 (.mov (.c (.int .u64 0))),o1 20 (.mov (.c (.int .u64 0)))]) (.seq (.seq (rg [o1 21 (.mov (ci 0))]) (.block 4 (.loop A1))) (.seq (rg [o1 179 (.cpy 9),oM 180 15,oM 181 11,oB 182 .add 180 181,o1 183 (.ixo 179 9 (.t 182) 1),o1 184 (.ld 183 9 1 true),o1 185 (.cv .u64 (.t 184)),oM 186 20,oB 187 .sub 185 186,oM 188 19,oB 189 .sub 187 188,oM 24 189]) (.seq (rg [o1 190 (.cpy 9),oM 191 15,oM 192 11,oB 193 .add 191 192,oM 194 24,o1 195 (.cv .u32 (.t 194)),o1 196 (.ixo 190 9 (.t 193) 1),oN (.st 196 9 1 (.t 195))]) (.seq (.seq (rg [oM 197 24,o1 198 (.bin .shr (.t 197) (.c (.int .u64 63))),o1 199 (.bin .neq (.t 198) (.c (.int .u64 0)))]) (.cond (.t 199) (.seq (rg [oM 200 17,o1 201 (.bin .sub (.t 200) (.c (.int .u64 1))),oM 17 201]) (.seq (rg [o1 25 (.mov (.c (.int .u64 0)))]) (.seq (.seq (rg [o1 26 (.mov (ci 0))]) (.block 6 (.loop Mu))) (rg [o1 231 (.cpy 9),oM 232 15,oM 233 11,oB 234 .add 232 233,o1 235 (.ixo 231 9 (.t 234) 1),o1 236 (.ld 235 9 1 true),oM 237 25,o1 238 (.cv .u32 (.t 237)),oB 239 .add 236 238,o1 240 (.ixo 231 9 (.t 234) 1),oN (.st 240 9 1 (.t 239))])))) (.skip))) (rg [o1 241 (.cpy 4),oM 242 15,oM 243 17,o1 244 (.cv .u32 (.t 243)),o1 245 (.ixo 241 4 (.t 242) 1),oN (.st 245 4 1 (.t 244))])))))))))) (rg [oM 90 15,o1 91 (.bin .sub (.t 90) (ci 1)),oM 15 91]))
def Pi:IFunc:=⟨2,282,[.tmp 4, .tmp 5], .seq (rg [⟨some 4, .nlo 1,none,[241,245]⟩,⟨some 5, .nlo 1,none,[253,262,265,267,279]⟩]) (.seq (.seq (rg [oM 29 0,oM 30 1,oC 31 150 [29,30],o1 32 (.bin .lss (.t 31) (ci 0))]) (.cond (.t 32) (.seq (rg [oM 33 0,o1 34 (.apd true (.c (.nil)) (.t 33) 1),⟨some 4, .nlo 1,none,[241,245]⟩,⟨some 5, .tra 34,none,[253,262,265,267,279]⟩]) (.ret)) (.skip))) (.seq (.seq (rg [oM 35 1,o1 36 (.len (.t 35)),o1 37 (.bin .eql (.t 36) (ci 1))]) (.cond (.t 37) (.seq (rg [oM 39 0,oM 40 1,o1 41 (.ixa 40 (ci 0) 1),o1 42 (.ld 41 41 1 true),oC 43 153 [39,42],oM 38 43,o1 44 (.ext (.t 38) 0),o1 45 (.ext (.t 38) 1),oM 6 44,oM 7 45]) (.seq (rg [oM 46 6,oM 47 7,o1 48 (.blo 1 1 [.int .u32 0] [(0,1, .t 47)]),⟨some 4, .tra 46,none,[241,245]⟩,⟨some 5, .tra 48,none,[253,262,265,267,279]⟩]) (.ret))) (.skip))) (.seq (rg [oM 49 1,oM 50 1,o1 51 (.len (.t 50)),o1 52 (.bin .sub (.t 51) (ci 1)),o1 53 (.ixa 49 (.t 52) 1),o1 54 (.ld 53 53 1 true),oC 55 154 [54],oM 8 55]) (.seq (.region true [oM 56 0,oM 57 8,o1 58 (.clo 155 [.t 56, .t 57]),oM 59 1,oM 60 8,oC 61 155 [59,60],oM 62 1,o1 63 (.len (.t 62)),o1 64 (.sli (.t 61) none (some (.t 63)) none 1),⟨some 9, .tra 58,none,[92,96,100,105,123,128,157,161,170,178,179,183,190,196,207,211,222,230,231,235,240,255,257,269,272]⟩,oM 10 64]) (.seq (rg [oM 65 1,o1 66 (.len (.t 65)),oM 67 0,o1 68 (.len (.t 67)),oM 69 1,o1 70 (.len (.t 69)),oB 71 .sub 68 70,oM 11 66,oM 12 71]) (.seq (rg [oM 72 12,o1 73 (.bin .add (.t 72) (ci 1)),o1 74 (.mks [.int .u32 0] (.t 73)),⟨some 4, .tra 74,none,[241,245]⟩]) (.seq (.region true [oM 75 10,oM 76 11,o1 77 (.bin .sub (.t 76) (ci 1)),o1 78 (.ixa 75 (.t 77) 1),o1 79 (.ld 78 78 1 true),o1 80 (.cv .u64 (.t 79)),oM 81 10,oM 82 11,o1 83 (.bin .sub (.t 82) (ci 2)),o1 84 (.ixa 81 (.t 83) 1),o1 85 (.ld 84 84 1 true),o1 86 (.cv .u64 (.t 85)),oM 13 80,oM 14 86]) (.seq (.seq (rg [oM 87 12,oM 15 87]) (.block 0 (.loop E2))) (.seq (rg [oM 246 11,o1 247 (.mks [.int .u32 0] (.t 246)),⟨some 5, .tra 247,none,[253,262,265,267,279]⟩]) (.seq (.seq (rg [o1 28 (.mov (ci 0))]) (.block 8 (.loop Bs))) (.seq (rg [o1 280 (.tra 4),o1 281 (.tra 5),⟨some 4, .tra 280,none,[241,245]⟩,⟨some 5, .tra 281,none,[253,262,265,267,279]⟩]) (.ret))))))))))))⟩
def Yr147:List (Nat × Nat):=[(92,9),(96,9),(100,9),(105,9),(123,9),(128,9),(157,9),(161,9),(170,9),(178,9),(179,9),(183,9),(190,9),(196,9),(207,9),(211,9),(222,9),(230,9),(231,9),(235,9),(240,9),(241,4),(245,4),(253,5),(255,9),(257,9),(262,5),(265,5),(267,5),(269,9),(272,9),(279,5)]
theorem Zj1:J2 Try.prog Yr147 Try.f147 Pi=true:=by kernel_rfl
def Zj0:IFunc:=⟨4,31,[.cell 8 2 false], .seq (rg [o1 8 (.new [.bool false, .sl 0 []] [])]) (.seq (.seq (rg [oM 9 0,oM 10 2,o1 11 (.eqb false (.t 9) (.t 10))]) (.cond (.t 11) (.seq (rg [oM 12 0,oM 13 1,oM 14 3,oC 15 156 [13,14],oC 16 133 [12,15],oN (.st 8 8 2 (.t 16))]) (.ret)) (.skip))) (.seq (.seq (rg [oM 17 1,oM 18 3,oC 19 150 [17,18],o1 20 (.bin .geq (.t 19) (ci 0))]) (.cond (.t 20) (.seq (rg [oM 21 0,oM 22 1,oM 23 3,oC 24 157 [22,23],oC 25 133 [21,24],oN (.st 8 8 2 (.t 25))]) (.ret)) (.skip))) (.seq (rg [oM 26 2,oM 27 3,oM 28 1,oC 29 157 [27,28],oC 30 133 [26,29],oN (.st 8 8 2 (.t 30))]) (.ret))))⟩
def Yr148:List (Nat × Nat):=[]
theorem Zjz:J2 Try.prog Yr148 Try.f148 Zj0=true:=by kernel_rfl
def E3:ICode := .seq (.seq (rg [oM 19 5,o1 20 (.bin .geq (.t 19) (ci 0))]) (.cond (.t 20) (.skip) (.exit 0))) (.seq (.block 1 (.seq (.region true [oM 23 0,oM 24 5,o1 25 (.ixa 23 (.t 24) 1),o1 26 (.ld 25 25 1 true),oM 27 1,oM 28 5,o1 29 (.ixa 27 (.t 28) 1),o1 30 (.ld 29 29 1 true),oB 31 .neq 26 30]) (.cond (.t 31) (.seq (.seq (.region true [oM 32 0,oM 33 5,o1 34 (.ixa 32 (.t 33) 1),o1 35 (.ld 34 34 1 true),oM 36 1,oM 37 5,o1 38 (.ixa 36 (.t 37) 1),o1 39 (.ld 38 38 1 true),oB 40 .lss 35 39]) (.cond (.t 40) (.seq (rg [o1 4 (.mov (ci (-1)))]) (.ret)) (.skip))) (.seq (rg [o1 4 (.mov (ci 1))]) (.ret))) (.skip)))) (rg [oM 21 5,o1 22 (.bin .sub (.t 21) (ci 1)),oM 5 22]))
def Zaf:IFunc:=⟨2,41,[.tmp 4], .seq (rg [o1 4 (.mov (ci 0))]) (.seq (.seq (rg [oM 6 0,o1 7 (.len (.t 6)),oM 8 1,o1 9 (.len (.t 8)),oB 10 .neq 7 9]) (.cond (.t 10) (.seq (.seq (rg [oM 11 0,o1 12 (.len (.t 11)),oM 13 1,o1 14 (.len (.t 13)),oB 15 .lss 12 14]) (.cond (.t 15) (.seq (rg [o1 4 (.mov (ci (-1)))]) (.ret)) (.skip))) (.seq (rg [o1 4 (.mov (ci 1))]) (.ret))) (.skip))) (.seq (.seq (rg [oM 16 0,o1 17 (.len (.t 16)),o1 18 (.bin .sub (.t 17) (ci 1)),oM 5 18]) (.block 0 (.loop E3))) (.seq (rg [o1 4 (.mov (ci 0))]) (.ret))))⟩
def Yr150:List (Nat × Nat):=[]
theorem Zjy:J2 Try.prog Yr150 Try.f150 Zaf=true:=by kernel_rfl
def Zjx:IFunc:=⟨2,103,[.cell 4 2 false], .seq (rg [o1 2 (.box (.t 0) []),o1 4 (.new [.bool false, .sl 0 []] [])]) (.seq (rg [o1 15 (.ld 2 2 2 false),oC 16 122 [15],oM 14 16,o1 17 (.ext (.t 14) 0),o1 18 (.ext (.t 14) 1),oM 5 17,oM 6 18]) (.seq (rg [oM 19 1,o1 20 (.bin .quo (.t 19) (ci 32)),oM 21 1,o1 22 (.bin .rem (.t 21) (ci 32)),o1 23 (.cv .u64 (.t 22)),oM 7 20,oM 8 23]) (.seq (rg [o1 9 (.mov (.c (.bool false)))]) (.seq (.seq (rg [o1 10 (.mov (ci 0))]) (.block 0 (.loop (.seq (.seq (rg [oM 24 10,oM 25 7,oB 26 .lss 24 25,oM 27 26,oG 28 (.mov (.t 10)) 27 true,oG 29 (.mov (.t 6)) 27 true,oG 30 (.len (.t 29)) 27 true,oG 31 (.bin .lss (.t 28) (.t 30)) 27 true,o1 32 (.pick (.t 27) (.t 31) (.c (.bool false)))]) (.cond (.t 32) (.skip) (.exit 0))) (.seq (.block 1 (rg [oM 35 9,oM 36 35,oG 37 (.mov (.t 6)) 36 false,oG 38 (.mov (.t 10)) 36 false,oG 39 (.ixa 37 (.t 38) 1) 36 false,oG 40 (.ld 39 39 1 true) 36 false,oG 41 (.bin .neq (.t 40) (.c (.int .u32 0))) 36 false,o1 42 (.pick (.t 36) (.c (.bool true)) (.t 41)),oM 9 42])) (rg [oM 33 10,o1 34 (.bin .add (.t 33) (ci 1)),oM 10 34])))))) (.seq (rg [o1 11 (.nlo 1)]) (.seq (.seq (rg [oM 43 7,oM 12 43]) (.block 2 (.loop (.seq (.seq (rg [oM 44 12,oM 45 6,o1 46 (.len (.t 45)),oB 47 .lss 44 46]) (.cond (.t 47) (.skip) (.exit 2))) (.seq (.block 3 (.seq (rg [oM 50 6,oM 51 12,o1 52 (.ixa 50 (.t 51) 1),o1 53 (.ld 52 52 1 true),o1 54 (.cv .u64 (.t 53)),oM 13 54]) (.seq (.seq (rg [oM 55 12,o1 56 (.bin .add (.t 55) (ci 1)),oM 57 6,o1 58 (.len (.t 57)),oB 59 .lss 56 58]) (.cond (.t 59) (rg [oM 60 13,oM 61 6,oM 62 12,o1 63 (.bin .add (.t 62) (ci 1)),o1 64 (.ixa 61 (.t 63) 1),o1 65 (.ld 64 64 1 true),o1 66 (.cv .u64 (.t 65)),o1 67 (.bin .shl (.t 66) (.c (.int .u64 32))),oB 68 .or 60 67,oM 13 68]) (.skip))) (rg [o1 69 (.tra 11),oM 70 13,oM 71 8,oB 72 .shr 70 71,o1 73 (.cv .u32 (.t 72)),o1 74 (.bls 1 [.int .u32 0] [(0,1, .t 73)]),o1 75 (.apd true (.t 69) (.t 74) 1),o1 11 (.tra 75)])))) (rg [oM 48 12,o1 49 (.bin .add (.t 48) (ci 1)),oM 12 49])))))) (.seq (.seq (rg [oM 76 7,oM 77 6,o1 78 (.len (.t 77)),oB 79 .lss 76 78,oM 80 79,oG 81 (.mov (.t 6)) 80 true,oG 82 (.mov (.t 7)) 80 true,oG 83 (.ixa 81 (.t 82) 1) 80 true,oG 84 (.ld 83 83 1 true) 80 true,oG 85 (.mov (.t 8)) 80 true,oG 86 (.bin .shl (.c (.int .u32 1)) (.t 85)) 80 true,oG 87 (.bin .sub (.t 86) (.c (.int .u32 1))) 80 true,oG 88 (.bin .and (.t 84) (.t 87)) 80 true,oG 89 (.bin .neq (.t 88) (.c (.int .u32 0))) 80 true,o1 90 (.pick (.t 80) (.t 89) (.c (.bool false)))]) (.cond (.t 90) (rg [o1 9 (.mov (.c (.bool true)))]) (.skip))) (.seq (.seq (rg [oM 91 5,oM 92 91,oG 93 (.mov (.t 9)) 92 true,o1 94 (.pick (.t 92) (.t 93) (.c (.bool false)))]) (.cond (.t 94) (.seq (rg [o1 95 (.frz 11),oC 96 158 [95],o1 97 (.bls 1 [.int .u32 0] [(0,1, .c (.int .u32 1))]),oC 98 156 [96,97],o1 99 (.call 133 [.c (.bool true), .t 98]),oN (.st 4 4 2 (.t 99))]) (.ret)) (.skip))) (.seq (rg [oM 100 5,o1 101 (.frz 11),oC 102 133 [100,101],oN (.st 4 4 2 (.t 102))]) (.ret))))))))))⟩
def Yr151:List (Nat × Nat):=[]
theorem Zjw:J2 Try.prog Yr151 Try.f151 Zjx=true:=by kernel_rfl
def Ze8:ICode := .seq (.seq (rg [oM 16 8,o1 17 (.bin .geq (.t 16) (ci 0))]) (.cond (.t 17) (.skip) (.exit 0))) (.seq (.block 1 (.seq (rg [oM 20 7,o1 21 (.bin .shl (.t 20) (.c (.int .u64 32))),oM 22 0,oM 23 8,o1 24 (.ixa 22 (.t 23) 1),o1 25 (.ld 24 24 1 true),o1 26 (.cv .u64 (.t 25)),oB 27 .or 21 26,oM 9 27]) (.region true [o1 28 (.cpy 6),oM 29 8,oM 30 9,oM 31 1,o1 32 (.cv .u64 (.t 31)),oB 33 .quo 30 32,o1 34 (.cv .u32 (.t 33)),oM 35 9,oM 36 1,o1 37 (.cv .u64 (.t 36)),oB 38 .rem 35 37,o1 39 (.ixo 28 6 (.t 29) 1),oN (.st 39 6 1 (.t 34)),oM 7 38]))) (rg [oM 18 8,o1 19 (.bin .sub (.t 18) (ci 1)),oM 8 19]))
def Zet:IFunc:=⟨2,43,[.tmp 4, .tmp 5], .seq (rg [o1 4 (.nlo 1),o1 5 (.mov (.c (.int .u32 0)))]) (.seq (rg [oM 10 0,o1 11 (.len (.t 10)),o1 12 (.mks [.int .u32 0] (.t 11)),⟨some 6, .tra 12,none,[28,39]⟩]) (.seq (rg [o1 7 (.mov (.c (.int .u64 0)))]) (.seq (.seq (rg [oM 13 0,o1 14 (.len (.t 13)),o1 15 (.bin .sub (.t 14) (ci 1)),oM 8 15]) (.block 0 (.loop Ze8))) (.seq (rg [o1 40 (.tra 6),oM 41 7,o1 42 (.cv .u32 (.t 41)),o1 4 (.tra 40),oM 5 42]) (.ret)))))⟩
def Yr153:List (Nat × Nat):=[(28,6),(39,6)]
theorem Zjv:J2 Try.prog Yr153 Try.f153 Zet=true:=by kernel_rfl
def Zes:IFunc:=⟨1,6,[.tmp 2], .seq (rg [o1 2 (.mov (ci 0))]) (.seq (rg [oM 3 0,oC 4 123 [3],o1 5 (.bin .sub (ci 32) (.t 4)),oM 2 5]) (.ret))⟩
def Yr154:List (Nat × Nat):=[]
theorem Zju:J2 Try.prog Yr154 Try.f154 Zes=true:=by kernel_rfl
def Ze7:ICode := .seq (rg [oB 16 .lss 15 14]) (.seq (.cond (.t 16) (.skip) (.exit 0)) (.seq (.block 1 (.seq (rg [oM 17 15,o1 18 (.ixa 13 (.t 15) 1),o1 19 (.ld 18 18 1 true),oM 6 17,oM 7 19]) (.seq (rg [oM 20 7,o1 21 (.cv .u64 (.t 20)),oM 22 1,o1 23 (.cv .u64 (.t 22)),oB 24 .shl 21 23,oM 8 24]) (.seq (rg [o1 25 (.cpy 5),oM 26 6,o1 27 (.ixo 25 5 (.t 26) 1),o1 28 (.ld 27 5 1 true),oM 29 8,o1 30 (.cv .u32 (.t 29)),oB 31 .or 28 30,o1 32 (.ixo 25 5 (.t 26) 1),oN (.st 32 5 1 (.t 31))]) (rg [o1 33 (.cpy 5),oM 34 6,o1 35 (.bin .add (.t 34) (ci 1)),oM 36 8,o1 37 (.bin .shr (.t 36) (.c (.int .u64 32))),o1 38 (.cv .u32 (.t 37)),o1 39 (.ixo 33 5 (.t 35) 1),oN (.st 39 5 1 (.t 38))]))))) (rg [o1 40 (.bin .add (.t 15) (ci 1)),oM 15 40])))
def Zer:IFunc:=⟨2,42,[.tmp 4], .seq (rg [o1 4 (.nlo 1)]) (.seq (rg [oM 9 0,o1 10 (.len (.t 9)),o1 11 (.bin .add (.t 10) (ci 1)),o1 12 (.mks [.int .u32 0] (.t 11)),⟨some 5, .tra 12,none,[25,27,32,33,39]⟩]) (.seq (.seq (rg [oM 13 0,o1 14 (.len (.t 13)),o1 15 (.mov (ci 0))]) (.block 0 (.loop Ze7))) (.seq (rg [o1 41 (.tra 5),o1 4 (.tra 41)]) (.ret))))⟩
def Yr155:List (Nat × Nat):=[(25,5),(27,5),(32,5),(33,5),(39,5)]
theorem Zjt:J2 Try.prog Yr155 Try.f155 Zer=true:=by kernel_rfl
def Mt:ICode := .seq (rg [oB 23 .lss 22 21]) (.seq (.cond (.t 23) (.skip) (.exit 0)) (.seq (.block 1 (.seq (rg [oM 24 22,oM 7 24]) (.seq (rg [oM 25 0,oM 26 7,o1 27 (.ixa 25 (.t 26) 1),o1 28 (.ld 27 27 1 true),o1 29 (.cv .u64 (.t 28)),oM 30 6,oB 31 .add 29 30,oM 8 31]) (.seq (.seq (rg [oM 32 7,oM 33 1,o1 34 (.len (.t 33)),oB 35 .lss 32 34]) (.cond (.t 35) (rg [oM 36 8,oM 37 1,oM 38 7,o1 39 (.ixa 37 (.t 38) 1),o1 40 (.ld 39 39 1 true),o1 41 (.cv .u64 (.t 40)),oB 42 .add 36 41,oM 8 42]) (.skip))) (rg [o1 43 (.cpy 5),oM 44 7,oM 45 8,o1 46 (.cv .u32 (.t 45)),oM 47 8,o1 48 (.bin .shr (.t 47) (.c (.int .u64 32))),o1 49 (.ixo 43 5 (.t 44) 1),oN (.st 49 5 1 (.t 46)),oM 6 48]))))) (rg [o1 50 (.bin .add (.t 22) (ci 1)),oM 22 50])))
def Zae:IFunc:=⟨2,58,[.tmp 4], .seq (rg [o1 4 (.nlo 1)]) (.seq (.seq (rg [oM 9 0,o1 10 (.len (.t 9)),oM 11 1,o1 12 (.len (.t 11)),oB 13 .lss 10 12]) (.cond (.t 13) (rg [oM 14 1,oM 15 0,oM 0 14,oM 1 15]) (.skip))) (.seq (rg [oM 16 0,o1 17 (.len (.t 16)),o1 18 (.bin .add (.t 17) (ci 1)),o1 19 (.mks [.int .u32 0] (.t 18)),⟨some 5, .tra 19,none,[43,49,51,56]⟩]) (.seq (rg [o1 6 (.mov (.c (.int .u64 0)))]) (.seq (.seq (rg [oM 20 0,o1 21 (.len (.t 20)),o1 22 (.mov (ci 0))]) (.block 0 (.loop Mt))) (.seq (rg [o1 51 (.cpy 5),oM 52 0,o1 53 (.len (.t 52)),oM 54 6,o1 55 (.cv .u32 (.t 54)),o1 56 (.ixo 51 5 (.t 53) 1),oN (.st 56 5 1 (.t 55))]) (.seq (rg [o1 57 (.tra 5),o1 4 (.tra 57)]) (.ret)))))))⟩
def Yr156:List (Nat × Nat):=[(43,5),(49,5),(51,5),(56,5)]
theorem Zjs:J2 Try.prog Yr156 Try.f156 Zae=true:=by kernel_rfl
def Zam:ICode := .seq (rg [oB 15 .lss 14 13]) (.seq (.cond (.t 15) (.skip) (.exit 0)) (.seq (.block 1 (.seq (rg [oM 16 14,oM 7 16]) (.seq (rg [oM 17 0,oM 18 7,o1 19 (.ixa 17 (.t 18) 1),o1 20 (.ld 19 19 1 true),o1 21 (.cv .u64 (.t 20)),oM 22 6,oB 23 .sub 21 22,oM 8 23]) (.seq (.seq (rg [oM 24 7,oM 25 1,o1 26 (.len (.t 25)),oB 27 .lss 24 26]) (.cond (.t 27) (rg [oM 28 8,oM 29 1,oM 30 7,o1 31 (.ixa 29 (.t 30) 1),o1 32 (.ld 31 31 1 true),o1 33 (.cv .u64 (.t 32)),oB 34 .sub 28 33,oM 8 34]) (.skip))) (rg [o1 35 (.cpy 5),oM 36 7,oM 37 8,o1 38 (.cv .u32 (.t 37)),oM 39 8,o1 40 (.bin .shr (.t 39) (.c (.int .u64 63))),o1 41 (.ixo 35 5 (.t 36) 1),oN (.st 41 5 1 (.t 38)),oM 6 40]))))) (rg [o1 42 (.bin .add (.t 14) (ci 1)),oM 14 42])))
def Zeq:IFunc:=⟨2,44,[.tmp 4], .seq (rg [o1 4 (.nlo 1)]) (.seq (rg [oM 9 0,o1 10 (.len (.t 9)),o1 11 (.mks [.int .u32 0] (.t 10)),⟨some 5, .tra 11,none,[35,41]⟩]) (.seq (rg [o1 6 (.mov (.c (.int .u64 0)))]) (.seq (.seq (rg [oM 12 0,o1 13 (.len (.t 12)),o1 14 (.mov (ci 0))]) (.block 0 (.loop Zam))) (.seq (rg [o1 43 (.tra 5),o1 4 (.tra 43)]) (.ret)))))⟩
def Yr157:List (Nat × Nat):=[(35,5),(41,5)]
theorem Zjr:J2 Try.prog Yr157 Try.f157 Zeq=true:=by kernel_rfl
def Zjq:IFunc:=⟨1,21,[.tmp 2], .seq (rg [o1 2 (.nlo 1)]) (.seq (rg [oM 4 0,o1 5 (.len (.t 4)),oM 3 5]) (.seq (.block 0 (.loop (.seq (.seq (rg [oM 6 3,o1 7 (.bin .gtr (.t 6) (ci 0)),oM 8 7,oG 9 (.mov (.t 0)) 8 true,oG 10 (.mov (.t 3)) 8 true,oG 11 (.bin .sub (.t 10) (ci 1)) 8 true,oG 12 (.ixa 9 (.t 11) 1) 8 true,oG 13 (.ld 12 12 1 true) 8 true,oG 14 (.bin .eql (.t 13) (.c (.int .u32 0))) 8 true,o1 15 (.pick (.t 8) (.t 14) (.c (.bool false)))]) (.cond (.t 15) (.skip) (.exit 0))) (.block 1 (rg [oM 16 3,o1 17 (.bin .sub (.t 16) (ci 1)),oM 3 17]))))) (.seq (rg [oM 18 0,oM 19 3,o1 20 (.sli (.t 18) none (some (.t 19)) none 1),o1 2 (.tra 20)]) (.ret))))⟩
def Yr158:List (Nat × Nat):=[]
theorem Zjp:J2 Try.prog Yr158 Try.f158 Zjq=true:=by kernel_rfl
end Go.Proofs.Ythnnfemologhfaa

namespace Go.Ai
open Go.IntKind (i64 u64 u32)
open Go.RowKit
def SLe (s s':Zi):Prop:=s.length=s'.length∧∀ t,Z5 s t = .dead∨Z5 s t=Z5 s' t
theorem SLe.refl (s:Zi):SLe s s:=⟨rfl,fun _ => .inr rfl⟩
theorem SLe.trans {a b c:Zi} (h:SLe a b) (k:SLe b c):SLe a c:=by
 refine⟨h.1.trans k.1,fun t => ?_⟩
 rcases h.2 t with h1 | h1
 ·exact .inl h1
 ·rcases k.2 t with k1 | k1
  ·exact .inl (h1.trans k1)
  ·exact .inr (h1.trans k1)
theorem SLe.get {s s':Zi} (h:SLe s s') {t:Nat} {r:Reg} (hr:Z5 s t=r) (hd:r ≠ .dead):Z5 s' t=r:=by
 rcases h.2 t with h1 | h1
 ·exact absurd (hr.symm.trans h1) hd
 ·rw[← h1,hr]
theorem SLe.av {s s':Zi} (h:SLe s s') {o:Opd} {x:AV} (hx:o.av s=some x):o.av s'=some x:=by
 cases o with
 | c y=>exact hx
 | t n =>
  simp only[Opd.av,Opd.reg] at hx ⊢
  split at hx
  ·rename_i y hy
   cases hx
   rw[h.get hy (by intro e;cases e)]
  ·cases hx
theorem SLe.avs {s s':Zi} (h:SLe s s'):∀ {l:List Opd} {xs:List AV},avs s l=some xs→avs s' l=some xs
 | [],xs,hx=>hx
 | o::l,xs,hx=>by
  simp only[Go.Ai.avs] at hx ⊢
  cases h1:o.av s with
  | none=>rw[h1] at hx;cases hx
  | some x =>
   rw[h1] at hx
   rw[h.av h1]
   cases h2:Go.Ai.avs s l with
   | none=>rw[h2] at hx;cases hx
   | some ys =>
    rw[h2] at hx
    rw[h.avs h2]
    exact hx
theorem SLe.fill {s s':Zi} (h:SLe s s'):∀ {ps:List (Nat × Nat × Opd)} {cs cs':List AV},V0 s cs ps=some cs'→V0 s' cs ps=some cs'
 | [],_,_,hx=>hx
 | (off,n,o)::ps,cs,cs',hx=>by
  simp only[V0] at hx ⊢
  cases h1:o.av s with
  | none=>rw[h1] at hx;cases hx
  | some x =>
   rw[h1] at hx
   rw[h.av h1]
   dsimp only at hx ⊢
   cases h2:Va x n with
   | none=>rw[h2] at hx;cases hx
   | some ys =>
    rw[h2] at hx
    dsimp only at hx ⊢
    cases h3:X4 cs off ys with
    | none=>rw[h3] at hx;cases hx
    | some cs1 =>
     rw[h3] at hx
     dsimp only at hx ⊢
     exact h.fill hx
theorem SLe.reg {s s':Zi} (h:SLe s s') {o:Opd} {r:Reg} (hx:o.reg s=r) (hd:r ≠ .dead):o.reg s'=r:=by
 cases o with
 | c y=>exact hx
 | t n=>exact h.get hx hd
theorem SLe.bnd {s s':Zi} (h:SLe s s') {o:Option Opd} {d n:Nat} (hx:Bk s d o=some n):Bk s' d o=some n:=by
 cases o with
 | none=>exact hx
 | some o =>
  simp only[Bk] at hx ⊢
  split at hx
  ·rename_i k i hi
   rw[h.av hi]
   exact hx
  ·cases hx
theorem SLe.firm {s s':Zi} (h:SLe s s') {l:List Nat} (hl:(l.all fun t=>U6 (Z5 s t))=true):(l.all fun t=>U6 (Z5 s' t))=true:=by
 rw[List.all_eq_true] at hl ⊢
 intro t ht
 have h1:=hl t ht
 rw[h.get (r:=Z5 s t) rfl (by intro e;rw[e] at h1;cases h1)]
 exact h1
theorem Zhp {F:Qc} {s s':Zi} (h:SLe s s') {k:K} {p:Reg × List (Nat × Reg)} (hk:evK F s k=some p):evK F s' k=some p:=by
 cases k <;> simp only[evK] at hk ⊢
 case mov x =>
  simp only[Option.map_eq_some_iff] at hk ⊢
  obtain⟨v,hv,e⟩:=hk
  exact⟨v,h.av hv,e⟩
 case pick c a b =>
  split at hk
  ·rename_i hc
   rw[h.av hc]
   simp only[Option.map_eq_some_iff] at hk ⊢
   obtain⟨v,hv,e⟩:=hk
   exact⟨v,h.av hv,e⟩
  ·rename_i hc
   rw[h.av hc]
   simp only[Option.map_eq_some_iff] at hk ⊢
   obtain⟨v,hv,e⟩:=hk
   exact⟨v,h.av hv,e⟩
  ·cases hk
 case bin op x y =>
  split at hk
  ·rename_i hx hy;rw[h.av hx,h.av hy];exact hk
  ·cases hk
 case eqb neg x y =>
  split at hk
  ·rename_i hx hy;rw[h.av hx,h.av hy];exact hk
  ·cases hk
 case eqv neg n x y =>
  split at hk
  ·rename_i hx hy;rw[h.av hx,h.av hy];exact hk
  ·cases hk
 case un op x =>
  split at hk
  ·rename_i hx;rw[h.av hx];exact hk
  ·cases hk
 case cv k x =>
  split at hk
  ·rename_i hx;rw[h.av hx];exact hk
  ·cases hk
 case new z ks=>exact hk
 case box x ks =>
  split at hk
  ·rename_i hx;rw[h.av hx];exact hk
  ·rename_i y hne hx
   rw[h.av hx]
   split at hk
   ·rename_i hd
    cases hk
    cases y <;> first | (cases hd;done) | simp only[Fb,if_true]
   ·cases hk
  ·cases hk
 case bld z ps =>
  simp only[Option.map_eq_some_iff] at hk ⊢
  obtain⟨v,hv,e⟩:=hk
  exact⟨v,h.fill hv,e⟩
 case bls n z ps =>
  simp only[Option.map_eq_some_iff] at hk ⊢
  obtain⟨v,hv,e⟩:=hk
  exact⟨v,h.fill hv,e⟩
 case adr x d off =>
  cases hr:Z5 s x <;> rw[hr] at hk <;> first | (cases hk;done) | (rw[h.get hr (by intro e;cases e)];exact hk)
 case ld x d n one =>
  cases hr:Z5 s x with
  | box cs=>rw[hr] at hk;rw[h.get hr (by intro e;cases e)];exact hk
  | mem cs=>rw[hr] at hk;rw[h.get hr (by intro e;cases e)];exact hk
  | ptr d' off =>
   rw[hr] at hk
   rw[h.get hr (by intro e;cases e)]
   dsimp only at hk ⊢
   split at hk
   ·rename_i hd
    rw[if_pos hd]
    cases hr2:Z5 s d <;> rw[hr2] at hk <;> first | (cases hk;done) | (rw[h.get hr2 (by intro e;cases e)];exact hk)
   ·cases hk
  | val x=>rw[hr] at hk;cases hk
  | own _ _ _=>rw[hr] at hk;cases hk
  | agn _ _ _ _=>rw[hr] at hk;cases hk
  | bxl _=>rw[hr] at hk;cases hk
  | dup d=>rw[hr] at hk;cases hk
  | dead=>rw[hr] at hk;cases hk
 case st x d n v =>
  split at hk
  ·cases hk
  ·rename_i a ha
   rw[h.av ha]
   dsimp only at hk ⊢
   split at hk
   ·cases hk
   ·rename_i ys hys
    cases hr:Z5 s x with
    | box cs=>rw[hr] at hk;rw[h.get hr (by intro e;cases e)];exact hk
    | ptr d' off =>
     rw[hr] at hk
     rw[h.get hr (by intro e;cases e)]
     dsimp only at hk ⊢
     split at hk
     ·rename_i hd
      rw[if_pos hd]
      cases hr2:Z5 s d <;> rw[hr2] at hk <;> first | (cases hk;done) | (rw[h.get hr2 (by intro e;cases e)];exact hk)
     ·cases hk
    | mem cs=>rw[hr] at hk;cases hk
    | val x=>rw[hr] at hk;cases hk
    | own _ _ _=>rw[hr] at hk;cases hk
    | agn _ _ _ _=>rw[hr] at hk;cases hk
    | bxl _=>rw[hr] at hk;cases hk
    | dup d=>rw[hr] at hk;cases hk
    | dead=>rw[hr] at hk;cases hk
 case fld x off n one =>
  split at hk
  ·rename_i hx;rw[h.av hx];exact hk
  ·cases hk
 case ixa x i k =>
  split at hk
  ·rename_i k1 iv hi
   rw[h.av hi]
   dsimp only at hk ⊢
   split at hk
   ·rename_i n cs hr;rw[h.get hr (by intro e;cases e)];exact hk
   ·cases hk
  ·cases hk
 case ixb x i len k =>
  split at hk
  ·rename_i k1 iv hi
   rw[h.av hi]
   dsimp only at hk ⊢
   split at hk
   ·rename_i cs hr;rw[h.get hr (by intro e;cases e)];exact hk
   ·cases hk
  ·cases hk
 case idx x i len n one =>
  split at hk
  ·rename_i hx hi;rw[h.av hx,h.av hi];exact hk
  ·cases hk
 case six x i =>
  split at hk
  ·rename_i hx hi;rw[h.av hx,h.av hi];exact hk
  ·cases hk
 case ext x i =>
  split at hk
  ·rename_i hx;rw[h.av hx];exact hk
  ·cases hk
 case len x =>
  split at hk
  ·rename_i hx;rw[h.av hx];exact hk
  ·rename_i hx;rw[h.av hx];exact hk
  ·cases hk
 case mx xs =>
  split at hk
  ·rename_i hx;rw[h.avs hx];exact hk
  ·cases hk
 case mn xs =>
  split at hk
  ·rename_i hx;rw[h.avs hx];exact hk
  ·cases hk
 case call f xs =>
  split at hk
  ·rename_i hx;rw[h.avs hx];exact hk
  ·cases hk
 case clo f xs =>
  split at hk
  ·rename_i hx;rw[h.avs hx];exact hk
  ·cases hk
 case brw f x d =>
  cases hr:Z5 s x <;> rw[hr] at hk <;> first | (cases hk;done) | skip
  rename_i d'
  rw[h.get hr (by intro e;cases e)]
  simp only at hk ⊢
  by_cases hd:d'=d
  ·rw[if_pos hd] at hk ⊢
   cases hr2:Z5 s d <;> rw[hr2] at hk <;> first | (cases hk;done) | skip
   rw[h.get hr2 (by intro e;cases e)]
   exact hk
  ·rw[if_neg hd] at hk;cases hk
 case cpy x =>
  cases hr:Z5 s x <;> rw[hr] at hk <;> first | (cases hk;done) | (rw[h.get hr (by intro e;cases e)];exact hk)
 case tra x =>
  cases hr:Z5 s x <;> rw[hr] at hk <;> first | (cases hk;done) | (rw[h.get hr (by intro e;cases e)];exact hk)
 case frz x =>
  cases hr:Z5 s x <;> rw[hr] at hk <;> first | (cases hk;done) | (rw[h.get hr (by intro e;cases e)];exact hk)
 case mks z n =>
  split at hk
  ·rename_i hx;rw[h.av hx];exact hk
  ·cases hk
 case blo k n z ps =>
  simp only[Option.map_eq_some_iff] at hk ⊢
  obtain⟨v,hv,e⟩:=hk
  exact⟨v,h.fill hv,e⟩
 case apd ow x y k =>
  split at hk
  ·rename_i hy
   rw[h.av hy]
   dsimp only
   cases hr:x.reg s <;> rw[hr] at hk <;> first | (cases hk;done) | (rw[h.reg hr (by intro e;cases e)];exact hk)
  ·rename_i m ys hy
   rw[h.av hy]
   dsimp only
   split at hk
   ·rename_i hl
    rw[if_pos hl]
    cases hr:x.reg s <;> rw[hr] at hk <;> first | (cases hk;done) | (rw[h.reg hr (by intro e;cases e)];exact hk)
   ·cases hk
  ·cases hk
 case sli x lo hi mx k =>
  split at hk
  ·rename_i hx
   rw[h.av hx]
   dsimp only
   split at hk
   ·rename_i b1 b2 b3
    rw[h.bnd b1,h.bnd b2,h.bnd b3]
    exact hk
   ·cases hk
  ·rename_i n cs hx
   rw[h.av hx]
   dsimp only
   split at hk
   ·rename_i m hh l b1 b2 b3
    rw[h.bnd b1,h.bnd b2,h.bnd b3]
    exact hk
   ·cases hk
  ·cases hk
 case ixo x d i k =>
  split at hk
  ·rename_i k1 iv hi
   rw[h.av hi]
   dsimp only at hk ⊢
   split at hk
   ·rename_i n cs hr;rw[h.get hr (by intro e;cases e)];exact hk
   ·rename_i d' hr
    rw[h.get hr (by intro e;cases e)]
    dsimp only
    split at hk
    ·rename_i hd
     rw[if_pos hd]
     split at hk
     ·rename_i k' n cs hr2
      rw[h.get hr2 (by intro e;cases e)]
      exact hk
     ·cases hk
    ·cases hk
   ·cases hk
  ·cases hk
 case lno x d =>
  split at hk
  ·rename_i hr;rw[h.get hr (by intro e;cases e)];exact hk
  ·rename_i n cs hr;rw[h.get hr (by intro e;cases e)];exact hk
  ·rename_i d' hr
   rw[h.get hr (by intro e;cases e)]
   dsimp only
   split at hk
   ·rename_i hd
    rw[if_pos hd]
    split at hk
    ·rename_i k' n cs hr2
     rw[h.get hr2 (by intro e;cases e)]
     exact hk
    ·cases hk
   ·cases hk
  ·cases hk
 case isn neg x d =>
  split at hk
  ·rename_i hr;rw[h.get hr (by intro e;cases e)];exact hk
  ·rename_i n cs hr;rw[h.get hr (by intro e;cases e)];exact hk
  ·rename_i d' hr
   rw[h.get hr (by intro e;cases e)]
   dsimp only
   split at hk
   ·rename_i hd
    rw[if_pos hd]
    split at hk
    ·rename_i k' n cs hr2
     rw[h.get hr2 (by intro e;cases e)]
     exact hk
    ·cases hk
   ·cases hk
  ·cases hk
 case nlo k=>exact hk
 case bdo y x ls =>
  split at hk
  ·rename_i b hb
   rw[h.av hb]
   dsimp only at hk ⊢
   split at hk
   ·rename_i k n cs hr
    rw[h.get hr (by intro e;cases e)]
    dsimp only
    split at hk
    ·rename_i hl
     rw[if_pos (h.firm hl)]
     exact hk
    ·cases hk
   ·cases hk
  ·cases hk
 case cln f xs ls =>
  split at hk
  ·rename_i vs hvs
   rw[h.avs hvs]
   dsimp only
   split at hk
   ·rename_i hl
    rw[if_pos (h.firm hl)]
    exact hk
   ·cases hk
  ·cases hk
 case stl x v =>
  split at hk
  ·rename_i cs hr
   rw[h.get hr (by intro e;cases e)]
   dsimp only
   split at hk
   ·rename_i b k n ds hr2
    rw[h.get hr2 (by intro e;cases e)]
    exact hk
   ·cases hk
  ·cases hk
 case fdo x =>
  split at hk
  ·rename_i b k n cs hr
   rw[h.get hr (by intro e;cases e)]
   exact hk
  ·cases hk
 case slo x hi k =>
  split at hk
  ·rename_i k1 iv hiv
   rw[h.av hiv]
   dsimp only at hk ⊢
   split at hk
   ·rename_i k' n cs hr
    rw[h.get hr (by intro e;cases e)]
    exact hk
   ·cases hk
  ·cases hk
 case mkf f x =>
  split at hk
  ·rename_i cs hr
   rw[h.get hr (by intro e;cases e)]
   exact hk
  ·cases hk
 case cal f x xs =>
  split at hk
  ·rename_i f' cs vs hx hvs
   rw[h.av hx,h.avs hvs]
   exact hk
  ·cases hk
 case bad=>cases hk
theorem SLe.set {s s':Zi} (h:SLe s s') (d:Nat) (r:Reg):SLe (s.set d r) (s'.set d r):=by
 refine⟨by simp[h.1],fun t => ?_⟩
 rw[Jj,Jj,h.1]
 split
 ·exact .inr rfl
 ·exact h.2 t
theorem SLe.puts {s s':Zi} (h:SLe s s'):∀ (l:List (Nat × Reg)),SLe (Qw s l) (Qw s' l):=by
 intro l
 induction l generalizing s s' with
 | nil=>exact h
 | cons p l ih=>obtain⟨t,r⟩:=p;exact ih (h.set t r)
theorem SLe.put {s s':Zi} (h:SLe s s') (d:Option Nat) (r:Reg):SLe (Vn s d r) (Vn s' d r):=by
 cases d with
 | none=>exact h
 | some d=>exact h.set d r
theorem B8 {s s':Zi} (h:SLe s s') {g:Option (Nat × Bool)} {b:Bool} (hw:Wm s g=some b):Wm s' g=some b:=by
 cases g with
 | none=>exact hw
 | some p =>
  obtain⟨t,x⟩:=p
  simp only[Wm] at hw ⊢
  split at hw
  ·rename_i hr;rw[h.get hr (by intro e;cases e)];exact hw
  ·rename_i hr;rw[h.get hr (by intro e;cases e)];exact hw
  ·cases hw
theorem Zc1 {F:Qc} {o:IOp} {s s' t:Zi} (h:SLe s s') (he:G0 F o s=some t):∃ t',G0 F o s'=some t'∧SLe t t':=by
 have h:SLe (kill s o.ks) (kill s' o.ks):=h.puts _
 simp only[G0,H6] at he ⊢
 generalize kill s o.ks=s at *
 generalize kill s' o.ks=s' at *
 split at he
 ·cases he
 ·rename_i hw
  cases he
  rw[B8 h hw]
  exact⟨_,rfl,h.put _ _⟩
 ·rename_i hw
  rw[B8 h hw]
  split at he
  ·cases he
  ·rename_i r l hk
   cases he
   rw[Zhp h hk]
   exact⟨_,rfl,(h.puts l).put _ _⟩
theorem Ar {F:Qc}:∀ {l:List IOp} {s s' t:Zi},SLe s s'→X8 F l s=some t→∃ t',X8 F l s'=some t'∧SLe t t'
 | [],s,s',t,h,he=>by
  simp only[X8,Option.some.injEq] at he
  subst he
  exact⟨s',rfl,h⟩
 | o::l,s,s',t,h,he=>by
  simp only[X8] at he ⊢
  cases h1:G0 F o s with
  | none=>rw[h1] at he;cases he
  | some s1 =>
   rw[h1] at he
   obtain⟨s2,h2,h3⟩:=Zc1 h h1
   rw[h2]
   exact Ar h3 he
theorem Zhr {F:Qc}:∀ (n:Nat) {c:ICode} {s s' t:Zi} {ex:Ex},SLe s s'→evC F n c s=some (ex,t)→∃ t',evC F n c s'=some (ex,t')∧SLe t t':=by
 intro n
 induction n with
 | zero=>intro c s s' t ex _ he;simp[evC] at he
 | succ n ih =>
  intro c s s' t ex h he
  cases c with
  | skip=>simp only[evC,Option.some.injEq,Prod.mk.injEq] at he ⊢;obtain⟨rfl,rfl⟩:=he;exact⟨s',⟨rfl,rfl⟩,h⟩
  | exit id=>simp only[evC,Option.some.injEq,Prod.mk.injEq] at he ⊢;obtain⟨rfl,rfl⟩:=he;exact⟨s',⟨rfl,rfl⟩,h⟩
  | ret=>simp only[evC,Option.some.injEq,Prod.mk.injEq] at he ⊢;obtain⟨rfl,rfl⟩:=he;exact⟨s',⟨rfl,rfl⟩,h⟩
  | region d ops =>
   simp only[evC,Option.map_eq_some_iff] at he ⊢
   obtain⟨s1,h1,e⟩:=he
   cases e
   obtain⟨t',h2,h3⟩:=Ar h h1
   exact⟨t',⟨t',h2,rfl⟩,h3⟩
  | seq a b =>
   simp only[evC] at he ⊢
   cases h1:evC F n a s with
   | none=>rw[h1] at he;cases he
   | some p =>
    obtain⟨e1,s1⟩:=p
    rw[h1] at he
    obtain⟨s2,h2,h3⟩:=ih h h1
    rw[h2]
    cases e1 with
    | norm=>exact ih h3 he
    | exit i=>cases he;exact⟨s2,rfl,h3⟩
    | ret=>cases he;exact⟨s2,rfl,h3⟩
  | cond c a b =>
   simp only[evC] at he ⊢
   have key:∀ v,Fo s c=some v→Fo s' c=some v:=by
    intro v hv
    unfold Fo at hv ⊢
    split at hv
    ·rename_i b' hb;rw[h.av hb];exact hv
    ·cases hv
   split at he
   ·rename_i hc;rw[key _ hc];exact ih h he
   ·rename_i hc;rw[key _ hc];exact ih h he
   ·cases he
  | block id c =>
   simp only[evC] at he ⊢
   cases h1:evC F n c s with
   | none=>rw[h1] at he;cases he
   | some p =>
    obtain⟨e1,s1⟩:=p
    rw[h1] at he
    obtain⟨s2,h2,h3⟩:=ih h h1
    rw[h2]
    cases e1 with
    | norm=>cases he;exact⟨s2,rfl,h3⟩
    | ret=>cases he;exact⟨s2,rfl,h3⟩
    | exit i =>
     dsimp only at he ⊢
     split at he
     ·rename_i hi;cases he;exact⟨s2,by rw[if_pos hi],h3⟩
     ·rename_i hi;cases he;exact⟨s2,by rw[if_neg hi],h3⟩
  | loop c =>
   simp only[evC] at he ⊢
   cases h1:evC F n c s with
   | none=>rw[h1] at he;cases he
   | some p =>
    obtain⟨e1,s1⟩:=p
    rw[h1] at he
    obtain⟨s2,h2,h3⟩:=ih h h1
    rw[h2]
    cases e1 with
    | norm=>exact ih h3 he
    | exit i=>cases he;exact⟨s2,rfl,h3⟩
    | ret=>cases he;exact⟨s2,rfl,h3⟩
def Za (prog:Nat→Option IFunc) (c:ICode) (s:Zi) (ex:Ex) (t:Zi):Prop:=∃ t',Qn prog c s ex t'∧SLe t t'
section
variable {prog:Nat→Option IFunc}
theorem Qn.w {c:ICode} {s t:Zi} {ex:Ex} (h:Qn prog c s ex t):Za prog c s ex t:=⟨t,h,SLe.refl t⟩
theorem Qn.mono {c:ICode} {s s' t:Zi} {ex:Ex} (h:Qn prog c s ex t) (hs:SLe s s'):Za prog c s' ex t:=by
 obtain⟨n,h⟩:=h
 obtain⟨t',h1,h2⟩:=Zhr n hs h
 exact⟨t',⟨n,h1⟩,h2⟩
theorem Za.weak {c:ICode} {s s' t t':Zi} {ex:Ex} (h:Za prog c s ex t) (hs:SLe s s') (ht:SLe t' t):Za prog c s' ex t':=by
 obtain⟨t1,h1,h2⟩:=h
 obtain⟨t2,h3,h4⟩:=h1.mono hs
 exact⟨t2,h3,(ht.trans h2).trans h4⟩
theorem Za.seq {a b:ICode} {s s1 t:Zi} {ex:Ex} (h1:Za prog a s .norm s1) (h2:Za prog b s1 ex t):Za prog (.seq a b) s ex t:=by
 obtain⟨u,k1,k2⟩:=h1
 obtain⟨v,k3,k4⟩:=h2.weak k2 (SLe.refl t)
 exact⟨v,Qn.seq k1 k3,k4⟩
theorem Za.seq_out {a b:ICode} {s t:Zi} {ex:Ex} (h1:Za prog a s ex t) (hex:ex ≠ .norm):Za prog (.seq a b) s ex t:=by
 obtain⟨u,k1,k2⟩:=h1
 exact⟨u,Qn.seq_out k1 hex,k2⟩
theorem Za.block {id:Nat} {c:ICode} {s t:Zi} (h:Za prog c s (.exit id) t):Za prog (.block id c) s .norm t:=by
 obtain⟨u,k1,k2⟩:=h
 exact⟨u,Qn.block k1,k2⟩
theorem Za.block_ret {id:Nat} {c:ICode} {s t:Zi} (h:Za prog c s .ret t):Za prog (.block id c) s .ret t:=by
 obtain⟨u,k1,k2⟩:=h
 exact⟨u,Qn.block_ret k1,k2⟩
theorem Za.block_norm {id:Nat} {c:ICode} {s t:Zi} (h:Za prog c s .norm t):Za prog (.block id c) s .norm t:=by
 obtain⟨u,k1,k2⟩:=h
 exact⟨u,Qn.block_norm k1,k2⟩
theorem Za.loop {c:ICode} {s s1 t:Zi} {ex:Ex} (h1:Za prog c s .norm s1) (h2:Za prog (.loop c) s1 ex t):Za prog (.loop c) s ex t:=by
 obtain⟨u,k1,k2⟩:=h1
 obtain⟨v,k3,k4⟩:=h2.weak k2 (SLe.refl t)
 exact⟨v,Qn.loop k1 k3,k4⟩
theorem Za.loop_out {c:ICode} {s t:Zi} {ex:Ex} (h1:Za prog c s ex t) (hex:ex ≠ .norm):Za prog (.loop c) s ex t:=by
 obtain⟨u,k1,k2⟩:=h1
 exact⟨u,Qn.loop_out k1 hex,k2⟩
theorem Zba {s s':Zi} (h:SLe s s') {r:IRes} {x:AV} (hr:Fv s r=some x):Fv s' r=some x:=by
 cases r with
 | tmp t =>
  simp only[Fv] at hr ⊢
  split at hr
  ·rename_i y hy;rw[h.get hy (by intro e;cases e)];exact hr
  ·rename_i k n cs hy;rw[h.get hy (by intro e;cases e)];exact hr
  ·cases hr
 | cell t n one =>
  simp only[Fv] at hr ⊢
  split at hr
  ·rename_i y hy;rw[h.get hy (by intro e;cases e)];exact hr
  ·cases hr
theorem Gl {s s':Zi} (h:SLe s s'):∀ {l:List IRes} {xs:List AV},Uf s l=some xs→Uf s' l=some xs
 | [],xs,hx=>hx
 | r::l,xs,hx=>by
  simp only[Uf] at hx ⊢
  cases h1:Fv s r with
  | none=>rw[h1] at hx;cases hx
  | some x =>
   rw[h1] at hx
   rw[Zba h h1]
   cases h2:Uf s l with
   | none=>rw[h2] at hx;cases hx
   | some ys =>
    rw[h2] at hx
    rw[Gl h h2]
    exact hx
theorem Lq {s s':Zi} (h:SLe s s') {l:List IRes} {x:AV} (hx:Wy s l=some x):Wy s' l=some x:=by
 unfold Wy at hx ⊢
 split at hx
 ·rename_i t
  split at hx
  ·rename_i k n cs hr
   rw[h.get hr (by intro e;cases e)]
   exact hx
  ·rename_i b k n cs hr
   rw[h.get hr (by intro e;cases e)]
   exact hx
  ·cases hx
 ·rename_i t n one
  split at hx
  ·rename_i d hr
   rw[h.get hr (by intro e;cases e)]
   dsimp only
   split at hx
   ·rename_i b k m cs hr2
    rw[h.get hr2 (by intro e;cases e)]
    exact hx
   ·cases hx
  ·cases hx
 ·cases hx
theorem Bc {s s':Zi} (h:SLe s s') {l:List IRes} {xs:List AV} (hf:Wy s l=none) (hx:Uf s l=some xs):Wy s' l=none:=by
 cases l with
 | nil=>rfl
 | cons r l =>
  cases r with
  | cell t n one =>
   cases l with
   | cons _ _=>rfl
   | nil =>
    simp only[Wy] at hf ⊢
    cases hr:Z5 s t with
    | box cs=>rw[h.get hr (by intro e;cases e)]
    | val x=>simp only[Uf,Fv,hr] at hx;cases hx
    | own k n cs=>simp only[Uf,Fv,hr] at hx;cases hx
    | agn b k n cs=>simp only[Uf,Fv,hr] at hx;cases hx
    | bxl _=>simp only[Uf,Fv,hr] at hx;cases hx
    | ptr _ _=>simp only[Uf,Fv,hr] at hx;cases hx
    | mem _=>simp only[Uf,Fv,hr] at hx;cases hx
    | dup _=>simp only[Uf,Fv,hr] at hx;cases hx
    | dead=>simp only[Uf,Fv,hr] at hx;cases hx
  | tmp t =>
   cases l with
   | cons _ _=>rfl
   | nil =>
    simp only[Wy] at hf ⊢
    cases hr:Z5 s t with
    | val x=>rw[h.get hr (by intro e;cases e)]
    | own k n cs=>rw[hr] at hf;cases hf
    | agn b k n cs=>rw[hr] at hf;cases hf
    | bxl _=>simp only[Uf,Fv,hr] at hx;cases hx
    | box _=>simp only[Uf,Fv,hr] at hx;cases hx
    | ptr _ _=>simp only[Uf,Fv,hr] at hx;cases hx
    | mem _=>simp only[Uf,Fv,hr] at hx;cases hx
    | dup _=>simp only[Uf,Fv,hr] at hx;cases hx
    | dead=>simp only[Uf,Fv,hr] at hx;cases hx
theorem Ze.of_bodyW {f:Nat} {fn:IFunc} {args:List AV} {s:Zi} {ex:Ex} {r:AV} (hf:prog f=some fn) (hl:args.length=fn.params) (h:Za prog fn.body (Hg fn args) ex s)
  (hex:∀ i,ex ≠ .exit i) (hr:Vj s fn.res=some r):Ze prog f args r:=by
 obtain⟨u,k1,k2⟩:=h
 refine Ze.of_body hf hl k1 hex ?_
 unfold Vj at hr ⊢
 cases hfr:Wy s fn.res with
 | some y=>rw[hfr] at hr;rw[Lq k2 hfr];exact hr
 | none =>
  rw[hfr] at hr
  dsimp only at hr
  split at hr
  ·rename_i y hy;cases hr;rw[Bc k2 hfr hy,Gl k2 hy]
  ·rename_i ys hne hy
   cases hr
   rw[Bc k2 hfr hy,Gl k2 hy]
   cases ys with
   | nil=>rfl
   | cons y l =>
    cases l with
    | nil=>exact (hne y rfl).elim
    | cons _ _=>rfl
  ·cases hr
def Zcf (ks:List Nat) (s:Zi):Zi:=s.zipIdx.map fun p=>if ks.contains p.2 then p.1 else .dead
theorem Rs (ks:List Nat) (s:Zi):SLe (Zcf ks s) s:=by
 refine⟨by simp[Zcf],fun t => ?_⟩
 simp only[Z5,Zcf,List.getD_eq_getElem?_getD,List.getElem?_map,List.getElem?_zipIdx]
 cases h:s[t]? with
 | none=>simp
 | some r =>
  simp only[Option.map_some,Nat.zero_add,Option.getD_some]
  split
  ·exact .inr rfl
  ·exact .inl rfl
def evPS (prog:Nat→Option IFunc) (T:Ji) (n:Nat) (c:ICode) (s:Zi) (sc:List Sc) (ks:List Nat):Option (Ex × Zi × List Prop) :=
 match At prog T n c s sc [] with
 | some ((ex,t),[],ps)=>some (ex,Zcf ks t,ps)
 | _=>none
theorem Za.script {T:Ji} (hT:Qh prog T) (n:Nat) {c:ICode} {s t:Zi} {ex:Ex} (sc:List Sc) (ks:List Nat) {ps:List Prop}
  (h:evPS prog T n c s sc ks=some (ex,t,ps)) (hp:Fn ps):Za prog c s ex t:=by
 unfold evPS at h
 split at h
 ·rename_i ex' t' ps' h1
  cases h
  exact⟨_,Qn.script hT n sc h1 hp,Rs ks _⟩
 ·cases h
theorem Za.go {T:Ji} (hT:Qh prog T) (n:Nat) {c:ICode} {s t:Zi} {ex:Ex} (sc:List Sc) (ks:List Nat) {ps:List Prop}
  (hp:Fn ps) (h:evPS prog T n c s sc ks=some (ex,t,ps):=by kernel_rfl):Za prog c s ex t:=Za.script hT n sc ks h hp
end
theorem ac {p:Prop} {ps:List Prop} (h:p) (hs:Fn ps):Fn (p::ps):=⟨h,hs⟩
theorem a0:Fn []:=trivial
theorem Ze.go {prog:Nat→Option IFunc} {T:Ji} (hT:Qh prog T) {f:Nat} {fn:IFunc} (hf:prog f=some fn) (n:Nat) {args:List AV} (hl:args.length=fn.params) (sc:List Sc) {r:AV} {ps:List Prop}
  (hp:Fn ps) (h:evFS prog T n fn args sc=some (r,ps):=by kernel_rfl):Ze prog f args r:=Ze.script hT hf n hl sc h hp
end Go.Ai
