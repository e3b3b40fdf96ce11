/- Texts of the proof of RootDyadics: part 5 of 13. -/
import Derived.Test.YtajompaehjkgkaaGreatProg
import Derived.KernelRfl
import Derived.Test.YtajompaehjkgkaaGreatRdx4
namespace Go.Proofs.YtajompaehjkgkaaGreat
open Go.Ai
set_option maxRecDepth 100000
open Go.Proofs.Tryz renaming f5->TN,prog->c
def sC:ICode := .seq (e [X 48 9,X 49 7,S 50 (.len 49),oB 51 .lss 48 50] (.cond 51 .skip (.exit 0))) (.seq (.block 1 (e [X 54 7,X 55 9,oA 56 54 55 7,oL 57 56 56 7,r 58 20 [57],S 10 (.new [.sl 0 [],.bool false,.sl 0 [],.int .i64 0,.bool false,.sl 0 [],.int .i64 0] []),oS 10 10 7 58] (.seq (.region true [X 60 7,X 61 9,oA 62 60 61 7,oL 63 62 62 7,oL 64 4 4 3,r 65 24 [63,64],X 59 65,oE 66 59 0,oE 67 59 1,X 11 66,X 12 67]) (e [X 69 7,X 70 9,oA 71 69 70 7,oL 72 71 71 7,X 73 2,r 74 25 [72,73],X 68 74,oE 75 68 0,oE 76 68 1,S 13 (.new [.bool false,.sl 0 []] []),oS 13 13 2 75,X 14 76] (e [X 78 7,X 79 9,oA 80 78 79 7,oL 81 80 80 7,X 82 2,r 83 26 [81,82],X 77 83,oE 84 77 0,oE 85 77 1,S 15 (.new [.bool false,.sl 0 []] []),oS 15 15 2 84,X 16 85] (e [X 86 12,oI 87 .neq 86 0,X 88 87,x 89 (.mov 11) 88 false,x 90 (.ld 10 10 7 false) 88 false,x 91 (.ld 4 4 3 false) 88 false,x 92 (.call 27 [90,91]) 88 false,x 93 (.bin .neq 89 92) 88 false,S 94 (.pick 88 (cb true) 93),X 95 94,x 96 (.mov 14) 95 false,x 97 (.mov 16) 95 false,x 98 (.bin .neq 96 97) 95 false,S 99 (.pick 95 (cb true) 98),X 100 99,x 101 (.ld 13 13 2 false) 100 false,x 102 (.ld 15 15 2 false) 100 false,x 103 (.call 28 [101,102]) 100 false,x 104 (.un .not 103) 100 false,S 105 (.pick 100 (cb true) 104)] (.cond 105 (e [S 6 (.mov (cb false))] .ret) .skip))))))) (rg [X 52 9,oI 53 .add 52 1,X 9 53]))
def YC:IFunc:=⟨3,131,[.tmp 6],e [S 4 (.box 1 []),S 6 (.mov (cb false))] (.seq (e [r 21 12 [],S 22 (.un .not 21)] (.cond 22 (e [S 6 (.mov (cb false))] .ret) .skip)) (.seq (e [X 23 0,r 24 13 [23],S 25 (.un .not 24),X 26 25,x 27 (.ld 4 4 3 false) 26 false,x 28 (.call 14 [27]) 26 false,x 29 (.un .not 28) 26 false,S 30 (.pick 26 (cb true) 29),X 31 30,x 32 (.mov 0) 31 false,x 33 (.call 21 [32]) 31 false,x 34 (.bin .lss 33 (ci 1)) 31 false,S 35 (.pick 31 (cb true) 34),X 36 35,x 37 (.mov 2) 36 false,x 38 (.bin .gtr 37 (ci 20)) 36 false,S 39 (.pick 36 (cb true) 38)] (.cond 39 (e [r 40 12 [],X 6 40] .ret) .skip)) (e [X 42 0,r 43 22 [42],X 41 43,oE 44 41 0,oE 45 41 1,X 7 44,X 8 45] (.seq (e [X 46 8,S 47 (.un .not 46)] (.cond 47 (e [S 6 (.mov (cb false))] .ret) .skip)) (.seq (e [S 9 (.mov (ci 0))] (.block 0 (.loop sC))) (e [oL 107 4 4 3,r 108 29 [107],X 106 108,oE 109 106 0,oE 110 106 1,S 17 (.new [.sl 0 [],.bool false,.sl 0 [],.int .i64 0,.bool false,.sl 0 [],.int .i64 0] []),oS 17 17 7 109,X 18 110] (e [oL 112 17 17 7,oL 113 4 4 3,r 114 24 [112,113],X 111 114,oE 115 111 0,oE 116 111 1,X 19 115,X 20 116] (e [X 117 18,oI 118 .eql 117 0,X 119 118,x 120 (.mov 20) 119 true,x 121 (.bin .eql 120 (ci 0)) 119 true,S 122 (.pick 119 121 (cb false)),X 123 122,x 124 (.mov 19) 123 true,x 125 (.bin .eql 124 (ci 0)) 123 true,S 126 (.pick 123 125 (cb false)),X 127 126,x 128 (.ld 17 17 7 false) 127 true,x 129 (.call 18 [128]) 127 true,S 130 (.pick 127 129 (cb false)),X 6 130] .ret))))))))⟩
def Yr5:List (Nat × Nat):=[]
theorem Ave:AR c Yr5 TN YC=true:=by kernel_rfl
def qA:IFunc:=⟨0,116,[.tmp 0],e [S 0 (.mov (cb false))] (e [S 14 (.bls 4 [.int .i64 0,.int .i64 0,.int .i64 0,.int .i64 0] [(0,1,.c (.int .i64 0)),(1,1,.c (.int .i64 (-1))),(2,1,.c (.int .i64 0)),(3,1,.c (.int .i64 1))]),r 15 47 [14],S 16 (.call 50 [.c (.int .i64 (-1)),.c (.int .i64 0)]),S 17 (.call 50 [.c (.int .i64 2),.c (.int .i64 0)]),r 18 15 [15,16,17],X 13 18,oE 19 13 0,oE 20 13 1,X 1 19,X 2 20] (e [S 22 (.bls 3 [.int .i64 0,.int .i64 0,.int .i64 0] [(0,1,.c (.int .i64 (-2))),(1,1,.c (.int .i64 0)),(2,1,.c (.int .i64 1))]),r 23 47 [22],S 24 (.call 50 [.c (.int .i64 0),.c (.int .i64 0)]),S 25 (.call 50 [.c (.int .i64 2),.c (.int .i64 0)]),r 26 15 [23,24,25],X 21 26,oE 27 21 0,oE 28 21 1,X 3 27,X 4 28] (e [S 30 (.bls 5 [.int .i64 0,.int .i64 0,.int .i64 0,.int .i64 0,.int .i64 0] [(0,1,.c (.int .i64 (-4))),(1,1,.c (.int .i64 0)),(2,1,.c (.int .i64 0)),(3,1,.c (.int .i64 0)),(4,1,.c (.int .i64 1))]),r 31 47 [30],S 32 (.call 50 [.c (.int .i64 0),.c (.int .i64 0)]),S 33 (.call 50 [.c (.int .i64 5),.c (.int .i64 0)]),r 34 15 [31,32,33],X 29 34,oE 35 29 0,oE 36 29 1,X 5 35,X 6 36] (.seq (e [X 37 2,oI 38 .neq 37 0,X 39 38,x 40 (.mov 4) 39 false,x 41 (.bin .neq 40 (ci 0)) 39 false,S 42 (.pick 39 (cb true) 41),X 43 42,x 44 (.mov 6) 43 false,x 45 (.bin .neq 44 (ci 0)) 43 false,S 46 (.pick 43 (cb true) 45),X 47 46,x 48 (.mov 1) 47 false,x 49 (.len 48) 47 false,x 50 (.bin .neq 49 (ci 2)) 47 false,S 51 (.pick 47 (cb true) 50),X 52 51,x 53 (.mov 3) 52 false,x 54 (.len 53) 52 false,x 55 (.bin .neq 54 (ci 1)) 52 false,S 56 (.pick 52 (cb true) 55),X 57 56,x 58 (.mov 5) 57 false,x 59 (.len 58) 57 false,x 60 (.bin .neq 59 (ci 1)) 57 false,S 61 (.pick 57 (cb true) 60)] (.cond 61 (e [S 0 (.mov (cb false))] .ret) .skip)) (e [X 63 3,S 64 (.ixa 63 (ci 0) 7),oL 65 64 64 7,S 66 (.call 25 [65,.c (.int .i64 1)]),X 62 66,oE 67 62 0,oE 68 62 1,S 7 (.new [.bool false,.sl 0 []] []),oS 7 7 2 67,X 8 68] (.seq (.region true [X 70 3,S 71 (.ixa 70 (ci 0) 7),oL 72 71 71 7,X 73 5,S 74 (.ixa 73 (ci 0) 7),oL 75 74 74 7,r 76 23 [72,75],X 69 76,oE 77 69 0,oE 78 69 1,X 9 77,X 10 78]) (.seq (.region true [X 80 1,S 81 (.ixa 80 (ci 1) 7),oL 82 81 81 7,S 83 (.call 50 [.c (.int .i64 1),.c (.int .i64 0)]),r 84 24 [82,83],X 79 84,oE 85 79 0,oE 86 79 1,X 11 85,X 12 86]) (.seq (.region true [X 87 8,oI 88 .eql 87 0,X 89 88,x 90 (.mov 10) 89 true,x 91 (.bin .eql 90 (ci 0)) 89 true,S 92 (.pick 89 91 (cb false)),X 93 92,x 94 (.mov 12) 93 true,x 95 (.bin .eql 94 (ci 0)) 93 true,S 96 (.pick 93 95 (cb false)),X 97 96,x 98 (.ld 7 7 2 false) 97 true,x 99 (.call 49 [.c (.int .i64 2)]) 97 true,x 100 (.call 28 [98,99]) 97 true,S 101 (.pick 97 100 (cb false)),X 102 101,x 103 (.mov 9) 102 true,x 104 (.bin .eql 103 (ci 0)) 102 true,S 105 (.pick 102 104 (cb false)),X 106 105,x 107 (.mov 11) 106 true,x 108 (.bin .eql 107 (ci 0)) 106 true,S 109 (.pick 106 108 (cb false)),X 110 109,x 111 (.mov 1) 110 true,x 112 (.ixa 111 (ci 0) 7) 110 true,x 113 (.ld 112 112 7 false) 110 true,x 114 (.call 18 [113]) 110 true,S 115 (.pick 110 114 (cb false)),X 0 115]) .ret))))))))⟩
def A1c:List (Nat × Nat):=[]
theorem Aeb:AR c A1c Tryz.f12 qA=true:=by kernel_rfl
def Ns:ICode := .seq (e [X 7 3,X 8 0,S 9 (.len 8),oB 10 .lss 7 9] (.cond 10 .skip (.exit 0))) (.seq (.block 1 (e [X 13 0,X 14 3,oA 15 13 14 2,oL 16 15 15 2,r 17 51 [16],oI 18 .gtr 17 100,X 19 18,x 20 (.mov 0) 19 false,x 21 (.mov 3) 19 false,x 22 (.ixa 20 21 2) 19 false,x 23 (.adr 22 28 1) 19 false,x 24 (.ld 23 23 1 true) 19 false,x 25 (.len 24) 19 false,x 26 (.bin .gtr 25 (ci 5)) 19 false,S 27 (.pick 19 (cb true) 26)] (.cond 27 (e [S 2 (.mov (cb false))] .ret) .skip))) (rg [X 11 3,oI 12 .add 11 1,X 3 12]))
def Ui:IFunc:=⟨1,28,[.tmp 2],e [S 2 (.mov (cb false))] (.seq (e [X 4 0,S 5 (.len 4),oI 6 .gtr 5 9] (.cond 6 (e [S 2 (.mov (cb false))] .ret) .skip)) (.seq (e [S 3 (.mov (ci 0))] (.block 0 (.loop Ns))) (e [S 2 (.mov (cb true))] .ret)))⟩
def A1d:List (Nat × Nat):=[(23,28)]
theorem Aec:AR c A1d Tryz.f13 Ui=true:=by kernel_rfl
def SB:IFunc:=⟨1,24,[.tmp 2],e [S 1 (.box 0 [3,7,12,13,19]),S 2 (.mov (cb false))] (e [S 3 (.adr 1 1 2),S 4 (.ld 3 1 1 true),oI 5 .geq 4 0,X 6 5,x 7 (.adr 1 1 2) 6 true,x 8 (.ld 7 1 1 true) 6 true,x 9 (.bin .leq 8 (ci 10)) 6 true,S 10 (.pick 6 9 (cb false)),X 11 10,x 12 (.adr 1 1 0) 11 true,x 13 (.adr 12 1 1) 11 true,x 14 (.ld 13 1 1 true) 11 true,x 15 (.len 14) 11 true,x 16 (.bin .leq 15 (ci 1)) 11 true,S 17 (.pick 11 16 (cb false)),X 18 17,x 19 (.adr 1 1 0) 18 true,x 20 (.ld 19 1 2 false) 18 true,x 21 (.call 51 [20]) 18 true,x 22 (.bin .leq 21 (ci 20)) 18 true,S 23 (.pick 18 22 (cb false)),X 2 23] .ret)⟩
def A1e:List (Nat × Nat):=[(3,1),(7,1),(12,1),(13,1),(19,1)]
theorem Aed:AR c A1e Tryz.f14 SB=true:=by kernel_rfl
def Uj:ICode:=e [oB 48 .lss 47 46] (.seq (.cond 48 .skip (.exit 1)) (.seq (.block 2 (e [oA 49 45 47 7,oL 50 49 49 7,S 12 (.new [.sl 0 [],.bool false,.sl 0 [],.int .i64 0,.bool false,.sl 0 [],.int .i64 0] [51,56]),oS 12 12 7 50] (.seq (e [S 51 (.adr 12 12 0),S 52 (.ld 51 12 1 true),r 53 52 [52],S 54 (.un .not 53)] (.cond 54 (rg [X 55 0,S 56 (.adr 12 12 0),oS 56 12 1 55]) .skip)) (rg [S 57 (.tra 10),oL 58 12 12 7,r 59 57 [58],S 60 (.bls 1 [.sl 0 [],.bool false,.sl 0 [],.int .i64 0,.bool false,.sl 0 [],.int .i64 0] [(0,7,.t 59)]),S 61 (.apd true 57 60 7 1048576),S 10 (.tra 61)])))) (rg [oI 62 .add 47 1,X 47 62])))
def Xi:IFunc:=⟨3,64,[.tmp 6,.tmp 7],e [S 4 (.box 1 []),S 5 (.box 2 []),S 6 (.nlo 7),S 7 (.mov (ci 0))] (.seq (.block 0 (e [X 14 0,r 15 52 [14],S 16 (.un .not 15),X 13 16] (.cond 13 (e [S 6 (.nlo 7),S 7 (.mov (ci 2))] .ret) (e [X 18 0,r 19 53 [18],oI 20 .lss 19 0,X 17 20] (.cond 17 (e [S 6 (.nlo 7),S 7 (.mov (ci 3))] .ret) (e [oL 22 4 4 3,r 23 54 [22],S 24 (.un .not 23),X 25 24,x 26 (.ld 5 5 3 false) 25 false,x 27 (.call 54 [26]) 25 false,x 28 (.un .not 27) 25 false,S 29 (.pick 25 (cb true) 28),X 30 29,x 31 (.ld 4 4 3 false) 30 false,x 32 (.ld 5 5 3 false) 30 false,x 33 (.call 55 [31,32]) 30 false,x 34 (.bin .gtr 33 (ci 0)) 30 false,S 35 (.pick 30 (cb true) 34),X 21 35] (.cond 21 (e [S 6 (.nlo 7),S 7 (.mov (ci 1))] .ret) .skip))))))) (e [X 37 0,oL 38 4 4 3,oL 39 5 5 3,S 40 (.call 56 [37,38,39,.c (.int .i64 896)]),X 36 40,oE 41 36 0,oE 42 36 1,X 8 41,X 9 42] (.seq (e [X 43 9,S 44 (.un .not 43)] (.cond 44 (e [S 6 (.nlo 7),S 7 (.mov (ci 9))] .ret) .skip)) (e [S 10 (.nlo 7)] (.seq (e [X 45 8,S 46 (.len 45),S 47 (.mov (ci 0))] (.block 1 (.loop Uj))) (e [S 63 (.tra 10),S 6 (.tra 63),S 7 (.mov (ci 0))] .ret))))))⟩
def A1f:List (Nat × Nat):=[(51,12),(56,12)]
theorem Aee:AR c A1f Tryz.f15 Xi=true:=by kernel_rfl
def Nt:IFunc:=⟨1,46,[.tmp 2],e [S 1 (.box 0 [3,7,13,19,24,26,31,33,38,40,42]),S 2 (.mov (cb false))] (.seq (e [S 3 (.adr 1 1 0),S 4 (.ld 3 1 1 true),r 5 58 [4],X 6 5,x 7 (.adr 1 1 0) 6 false,x 8 (.ld 7 1 1 true) 6 false,x 9 (.call 21 [8]) 6 false,x 10 (.bin .lss 9 (ci 1)) 6 false,S 11 (.pick 6 (cb true) 10),X 12 11,x 13 (.adr 1 1 1) 12 false,x 14 (.ld 13 1 3 false) 12 false,x 15 (.call 61 [14]) 12 false,x 16 (.un .not 15) 12 false,S 17 (.pick 12 (cb true) 16),X 18 17,x 19 (.adr 1 1 4) 18 false,x 20 (.ld 19 1 3 false) 18 false,x 21 (.call 61 [20]) 18 false,x 22 (.un .not 21) 18 false,S 23 (.pick 18 (cb true) 22)] (.cond 23 (e [S 2 (.mov (cb false))] .ret) .skip)) (.seq (e [S 24 (.adr 1 1 1),oL 25 24 1 3,S 26 (.adr 1 1 4),oL 27 26 1 3,r 28 33 [25,27]] (.block 0 (e [oI 30 .eql 28 0,X 29 30] (.cond 29 (e [S 31 (.adr 1 1 0),S 32 (.ld 31 1 1 true),S 33 (.adr 1 1 1),oL 34 33 1 3,r 35 62 [32,34],X 2 35] .ret) (e [oI 37 .eql 28 (-1),X 36 37] (.cond 36 (e [S 38 (.adr 1 1 0),S 39 (.ld 38 1 1 true),S 40 (.adr 1 1 1),oL 41 40 1 3,S 42 (.adr 1 1 4),oL 43 42 1 3,r 44 63 [39,41,43],oI 45 .eql 44 1,X 2 45] .ret) .skip)))))) (e [S 2 (.mov (cb false))] .ret)))⟩
def A1g:List (Nat × Nat):=[(3,1),(7,1),(13,1),(19,1),(24,1),(26,1),(31,1),(33,1),(38,1),(40,1),(42,1)]
theorem Aef:AR c A1g Tryz.f17 Nt=true:=by kernel_rfl
def Nu:IFunc:=⟨1,55,[.tmp 2],e [S 1 (.box 0 [4,9,15,21,26,28,33,36,42,46,50]),S 2 (.mov (cb false))] (.seq (e [S 4 (.adr 1 1 0),S 5 (.ld 4 1 1 true),r 6 52 [5],S 7 (.un .not 6),X 8 7,x 9 (.adr 1 1 0) 8 false,x 10 (.ld 9 1 1 true) 8 false,x 11 (.call 53 [10]) 8 false,x 12 (.bin .lss 11 (ci 1)) 8 false,S 13 (.pick 8 (cb true) 12),X 14 13,x 15 (.adr 1 1 1) 14 false,x 16 (.ld 15 1 3 false) 14 false,x 17 (.call 64 [16]) 14 false,x 18 (.un .not 17) 14 false,S 19 (.pick 14 (cb true) 18),X 20 19,x 21 (.adr 1 1 4) 20 false,x 22 (.ld 21 1 3 false) 20 false,x 23 (.call 64 [22]) 20 false,x 24 (.un .not 23) 20 false,S 25 (.pick 20 (cb true) 24)] (.cond 25 (e [S 2 (.mov (cb false))] .ret) .skip)) (.seq (e [S 26 (.adr 1 1 1),oL 27 26 1 3,S 28 (.adr 1 1 4),oL 29 28 1 3,r 30 55 [27,29]] (.block 0 (e [oI 32 .eql 30 0,X 31 32] (.cond 31 (.seq (.region true [S 33 (.adr 1 1 0),S 34 (.ld 33 1 1 true),r 35 66 [34],S 36 (.adr 1 1 1),oL 37 36 1 3,r 38 65 [35,37],oI 39 .eql 38 0,X 2 39]) .ret) (e [oI 41 .eql 30 1,X 40 41] (.cond 40 (e [S 2 (.mov (cb false))] .ret) .skip)))))) (e [S 42 (.adr 1 1 0),S 43 (.ld 42 1 1 true),r 44 67 [43],X 3 44] (.seq (.region true [X 45 3,S 46 (.adr 1 1 1),oL 47 46 1 3,r 48 68 [45,47],X 49 3,S 50 (.adr 1 1 4),oL 51 50 1 3,r 52 68 [49,51],oB 53 .sub 48 52,oI 54 .eql 53 1,X 2 54]) .ret))))⟩
def A1h:List (Nat × Nat):=[(4,1),(9,1),(15,1),(21,1),(26,1),(28,1),(33,1),(36,1),(42,1),(46,1),(50,1)]
theorem Aeg:AR c A1h Tryz.f18 Nu=true:=by kernel_rfl
def aB:IFunc:=⟨1,11,[.cell 2 7 false],e [S 1 (.box 0 [3,6,8]),S 2 (.new [.sl 0 [],.bool false,.sl 0 [],.int .i64 0,.bool false,.sl 0 [],.int .i64 0] [])] (.seq (.region true [S 3 (.adr 1 1 0),S 4 (.ld 3 1 1 true),r 5 73 [4],S 6 (.adr 1 1 1),oL 7 6 1 3,S 8 (.adr 1 1 4),oL 9 8 1 3,S 10 (.bld [.sl 0 [],.bool false,.sl 0 [],.int .i64 0,.bool false,.sl 0 [],.int .i64 0] [(0,1,.t 5),(1,3,.t 7),(4,3,.t 9)]),oS 2 2 7 10]) .ret)⟩
def A1i:List (Nat × Nat):=[(3,1),(6,1),(8,1)]
theorem Aeh:AR c A1i Tryz.f20 aB=true:=by kernel_rfl
def aC:IFunc:=⟨1,7,[.tmp 2],e [S 2 (.mov (ci 0))] (e [X 3 0,r 4 46 [3],S 5 (.len 4),oI 6 .sub 5 1,X 2 6] .ret)⟩
def A1j:List (Nat × Nat):=[]
theorem Aei:AR c A1j Tryz.f21 aC=true:=by kernel_rfl
def aD:IFunc:=⟨1,16,[.tmp 2,.tmp 3],e [S 2 (.nlo 7),S 3 (.mov (cb false))] (e [X 7 0,S 8 (.call 50 [.c (.int .i64 (-40)),.c (.int .i64 0)]),S 9 (.call 50 [.c (.int .i64 40),.c (.int .i64 0)]),r 10 15 [7,8,9],X 6 10,oE 11 6 0,oE 12 6 1,X 4 11,X 5 12] (e [X 13 4,X 14 5,oI 15 .eql 14 0,S 2 (.tra 13),X 3 15] .ret))⟩
def A1k:List (Nat × Nat):=[]
theorem Aej:AR c A1k Tryz.f22 aD=true:=by kernel_rfl
def qB:IFunc:=⟨2,19,[.tmp 4,.tmp 5],e [S 2 (.box 0 []),S 3 (.box 1 []),S 4 (.mov (ci 0)),S 5 (.mov (ci 0))] (.seq (e [oL 6 2 2 7,r 7 18 [6],S 8 (.un .not 7),X 9 8,x 10 (.ld 3 3 7 false) 9 false,x 11 (.call 18 [10]) 9 false,x 12 (.un .not 11) 9 false,S 13 (.pick 9 (cb true) 12)] (.cond 13 (e [S 4 (.mov (ci 0)),S 5 (.mov (ci 1))] .ret) .skip)) (.seq (.region true [oL 14 2 2 7,r 15 75 [14],oL 16 3 3 7,r 17 75 [16],r 18 74 [15,17],X 4 18,S 5 (.mov (ci 0))]) .ret))⟩
def A1l:List (Nat × Nat):=[]
theorem Aek:AR c A1l Tryz.f23 qB=true:=by kernel_rfl
def aE:IFunc:=⟨2,18,[.tmp 4,.tmp 5],e [S 2 (.box 0 []),S 3 (.box 1 []),S 4 (.mov (ci 0)),S 5 (.mov (ci 0))] (.seq (e [oL 6 2 2 7,r 7 18 [6],S 8 (.un .not 7),X 9 8,x 10 (.ld 3 3 3 false) 9 false,x 11 (.call 64 [10]) 9 false,x 12 (.un .not 11) 9 false,S 13 (.pick 9 (cb true) 12)] (.cond 13 (e [S 4 (.mov (ci 0)),S 5 (.mov (ci 1))] .ret) .skip)) (.seq (.region true [oL 14 2 2 7,r 15 75 [14],oL 16 3 3 3,r 17 76 [15,16],X 4 17,S 5 (.mov (ci 0))]) .ret))⟩
def A1m:List (Nat × Nat):=[]
theorem Ael:AR c A1m Tryz.f24 aE=true:=by kernel_rfl
def Xj:IFunc:=⟨2,22,[.cell 4 2 false,.tmp 5],e [S 2 (.box 0 []),S 4 (.new [.bool false,.sl 0 []] []),S 5 (.mov (ci 0))] (.seq (e [oL 6 2 2 7,r 7 18 [6],S 8 (.un .not 7),X 9 8,x 10 (.mov 1) 9 false,x 11 (.bin .lss 10 (ci 0)) 9 false,S 12 (.pick 9 (cb true) 11),X 13 12,x 14 (.mov 1) 13 false,x 15 (.bin .gtr 14 (ci 64)) 13 false,S 16 (.pick 13 (cb true) 15)] (.cond 16 (e [S 17 (.bld [.bool false,.sl 0 []] []),oS 4 4 2 17,S 5 (.mov (ci 1))] .ret) .skip)) (e [oL 18 2 2 7,r 19 75 [18],X 20 1,r 21 77 [19,20],oS 4 4 2 21,S 5 (.mov (ci 0))] .ret))⟩
def A1n:List (Nat × Nat):=[]
theorem Aem:AR c A1n Tryz.f25 Xj=true:=by kernel_rfl
def Xk:IFunc:=⟨2,22,[.cell 4 2 false,.tmp 5],e [S 2 (.box 0 []),S 4 (.new [.bool false,.sl 0 []] []),S 5 (.mov (ci 0))] (.seq (e [oL 6 2 2 7,r 7 17 [6],S 8 (.un .not 7),X 9 8,x 10 (.mov 1) 9 false,x 11 (.bin .lss 10 (ci 0)) 9 false,S 12 (.pick 9 (cb true) 11),X 13 12,x 14 (.mov 1) 13 false,x 15 (.bin .gtr 14 (ci 64)) 13 false,S 16 (.pick 13 (cb true) 15)] (.cond 16 (e [S 17 (.bld [.bool false,.sl 0 []] []),oS 4 4 2 17,S 5 (.mov (ci 1))] .ret) .skip)) (e [oL 18 2 2 7,r 19 20 [18],X 20 1,r 21 78 [19,20],oS 4 4 2 21,S 5 (.mov (ci 0))] .ret))⟩
def A1o:List (Nat × Nat):=[]
theorem Aen:AR c A1o Tryz.f26 Xk=true:=by kernel_rfl
def OR:IFunc:=⟨2,60,[.tmp 4],e [S 2 (.box 0 [10,14,18,20,32,40,42,43,45,46]),S 3 (.box 1 [34,36]),S 4 (.mov (ci 0))] (.seq (.region true [oL 9 3 3 3,S 10 (.adr 2 2 1),oL 11 10 2 3,r 12 33 [9,11],oL 13 3 3 3,S 14 (.adr 2 2 4),oL 15 14 2 3,r 16 33 [13,15],X 5 12,X 6 16]) (.seq (.block 0 (e [S 18 (.adr 2 2 1),oL 19 18 2 3,S 20 (.adr 2 2 4),oL 21 20 2 3,r 22 33 [19,21],oI 23 .eql 22 0,X 17 23] (.cond 17 (e [X 24 5,S 25 (.un .neg 24),X 4 25] .ret) (e [X 27 5,oI 28 .leq 27 0,X 26 28] (.cond 26 (e [S 4 (.mov (ci 1))] .ret) (e [X 30 6,oI 31 .gtr 30 0,X 29 31] (.cond 29 (e [S 4 (.mov (ci (-1)))] .ret) .skip))))))) (e [S 32 (.adr 2 2 0),S 33 (.ld 32 2 1 true),S 34 (.adr 3 3 0),oL 35 34 3 2,S 36 (.adr 3 3 2),S 37 (.ld 36 3 1 true),r 38 80 [33,35,37],r 39 79 [38],X 7 39] (e [S 40 (.adr 2 2 0),S 41 (.ld 40 2 1 true),S 42 (.adr 2 2 4),S 43 (.adr 42 2 0),oL 44 43 2 2,S 45 (.adr 2 2 4),S 46 (.adr 45 2 2),S 47 (.ld 46 2 1 true),r 48 80 [41,44,47],r 49 79 [48],X 8 49] (.seq (.block 1 (e [X 51 7,oI 52 .eql 51 0,X 50 52] (.cond 50 (e [S 4 (.mov (ci 0))] .ret) (e [X 54 8,oI 55 .eql 54 0,X 53 55] (.cond 53 (e [S 4 (.mov (ci 1))] .ret) (e [X 57 7,X 58 8,oB 59 .eql 57 58,X 56 59] (.cond 56 (e [S 4 (.mov (ci (-1)))] .ret) .skip))))))) (e [S 4 (.mov (ci 1))] .ret))))))⟩
def A1p:List (Nat × Nat):=[(10,2),(14,2),(18,2),(20,2),(32,2),(34,3),(36,3),(40,2),(42,2),(43,2),(45,2),(46,2)]
theorem Aeo:AR c A1p Tryz.f27 OR=true:=by kernel_rfl
def aF:ICode := .seq (e [X 20 5,S 21 (.adr 2 2 1),S 22 (.ld 21 2 1 true),S 23 (.len 22),oB 24 .lss 20 23] (.cond 24 .skip (.exit 0))) (.seq (.block 1 (.seq (.region true [S 27 (.adr 2 2 1),S 28 (.ld 27 2 1 true),X 29 5,oA 30 28 29 1,S 31 (.ld 30 30 1 true),S 32 (.adr 3 3 1),S 33 (.ld 32 3 1 true),X 34 5,oA 35 33 34 1,S 36 (.ld 35 35 1 true),oB 37 .neq 31 36]) (.cond 37 (e [S 4 (.mov (cb false))] .ret) .skip))) (rg [X 25 5,oI 26 .add 25 1,X 5 26]))
def aG:IFunc:=⟨2,38,[.tmp 4],e [S 2 (.box 0 [6,12,21,27]),S 3 (.box 1 [8,15,32]),S 4 (.mov (cb false))] (.seq (e [S 6 (.adr 2 2 0),S 7 (.ld 6 2 1 true),S 8 (.adr 3 3 0),S 9 (.ld 8 3 1 true),S 10 (.eqb true 7 9),X 11 10,x 12 (.adr 2 2 1) 11 false,x 13 (.ld 12 2 1 true) 11 false,x 14 (.len 13) 11 false,x 15 (.adr 3 3 1) 11 false,x 16 (.ld 15 3 1 true) 11 false,x 17 (.len 16) 11 false,x 18 (.bin .neq 14 17) 11 false,S 19 (.pick 11 (cb true) 18)] (.cond 19 (e [S 4 (.mov (cb false))] .ret) .skip)) (.seq (e [S 5 (.mov (ci 0))] (.block 0 (.loop aF))) (e [S 4 (.mov (cb true))] .ret)))⟩
def A1q:List (Nat × Nat):=[(6,2),(8,3),(12,2),(15,3),(21,2),(27,2),(32,3)]
theorem Aep:AR c A1q Tryz.f28 aG=true:=by kernel_rfl
def aH:IFunc:=⟨1,11,[.cell 2 7 false,.tmp 3],e [S 1 (.box 0 []),S 2 (.new [.sl 0 [],.bool false,.sl 0 [],.int .i64 0,.bool false,.sl 0 [],.int .i64 0] []),S 3 (.mov (ci 0))] (.seq (e [oL 4 1 1 3,r 5 64 [4],S 6 (.un .not 5)] (.cond 6 (e [S 7 (.bld [.sl 0 [],.bool false,.sl 0 [],.int .i64 0,.bool false,.sl 0 [],.int .i64 0] []),oS 2 2 7 7,S 3 (.mov (ci 1))] .ret) .skip)) (e [oL 8 1 1 3,r 9 81 [8],r 10 57 [9],oS 2 2 7 10,S 3 (.mov (ci 0))] .ret))⟩
def A1r:List (Nat × Nat):=[]
theorem Aeq:AR c A1r Tryz.f29 aH=true:=by kernel_rfl
def aI:IFunc:=⟨2,16,[.tmp 4],e [S 2 (.box 0 [5,12]),S 3 (.box 1 [7,10]),S 4 (.mov (ci 0))] (.seq (.region true [S 5 (.adr 2 2 0),oL 6 5 2 2,S 7 (.adr 3 3 2),S 8 (.ld 7 3 1 true),r 9 84 [6,8],S 10 (.adr 3 3 0),oL 11 10 3 2,S 12 (.adr 2 2 2),S 13 (.ld 12 2 1 true),r 14 84 [11,13],r 15 83 [9,14],X 4 15]) .ret)⟩
def A1s:List (Nat × Nat):=[(5,2),(7,3),(10,3),(12,2)]
theorem Aer:AR c A1s Tryz.f33 aI=true:=by kernel_rfl
def Uk:ICode := .seq (e [X 21 5,X 22 3,oB 23 .lss 21 22] (.cond 23 .skip (.exit 2))) (.seq (.block 3 (rg [S 26 (.tra 4),X 27 0,X 28 5,oA 29 27 28 2,oL 30 29 29 2,r 31 97 [30],S 32 (.bls 1 [.bool false,.sl 0 []] [(0,2,.t 31)]),S 33 (.apd true 26 32 2 1048576),S 4 (.tra 33)])) (rg [X 24 5,oI 25 .add 24 1,X 5 25]))
def Rv:ICode := .seq (e [X 8 3,oI 9 .gtr 8 0,X 10 9,x 11 (.mov 0) 10 true,x 12 (.mov 3) 10 true,x 13 (.bin .sub 12 (ci 1)) 10 true,x 14 (.ixa 11 13 2) 10 true,x 15 (.ld 14 14 2 false) 10 true,x 16 (.call 79 [15]) 10 true,x 17 (.bin .eql 16 (ci 0)) 10 true,S 18 (.pick 10 17 (cb false))] (.cond 18 .skip (.exit 0))) (.block 1 (rg [X 19 3,oI 20 .sub 19 1,X 3 20]))
def aJ:IFunc:=⟨1,35,[.tmp 2],e [S 2 (.nlo 2)] (e [X 6 0,S 7 (.len 6),X 3 7] (.seq (.block 0 (.loop Rv)) (e [S 4 (.nlo 2)] (.seq (e [S 5 (.mov (ci 0))] (.block 2 (.loop Uk))) (e [S 34 (.tra 4),S 2 (.tra 34)] .ret)))))⟩
def A1t:List (Nat × Nat):=[]
theorem Aes:AR c A1t Tryz.f46 aJ=true:=by kernel_rfl
def qC:IFunc:=⟨1,21,[.tmp 2],e [S 2 (.nlo 2)] (e [S 3 (.nlo 2)] (.seq (e [S 4 (.mov (ci 0))] (.block 0 (.loop (.seq (e [X 5 4,X 6 0,S 7 (.len 6),oB 8 .lss 5 7] (.cond 8 .skip (.exit 0))) (.seq (.block 1 (rg [S 11 (.tra 3),X 12 0,X 13 4,oA 14 12 13 1,S 15 (.ld 14 14 1 true),r 16 49 [15],S 17 (.bls 1 [.bool false,.sl 0 []] [(0,2,.t 16)]),S 18 (.apd true 11 17 2 1048576),S 3 (.tra 18)])) (rg [X 9 4,oI 10 .add 9 1,X 4 10])))))) (e [S 19 (.frz 3),S 20 (.clo 46 [19]),S 2 (.tra 20)] .ret)))⟩
def A1u:List (Nat × Nat):=[]
theorem Aet:AR c A1u Tryz.f47 qC=true:=by kernel_rfl
def qD:IFunc:=⟨1,19,[.cell 2 2 false],e [S 2 (.new [.bool false,.sl 0 []] [])] (e [X 4 0,S 5 (.cv .u64 4),X 3 5] (.seq (e [X 6 0,oI 7 .lss 6 0] (.cond 7 (rg [X 8 3,S 9 (.un .neg 8),X 3 9]) .skip)) (e [X 10 0,oI 11 .lss 10 0,X 12 3,S 13 (.cv .u32 12),X 14 3,S 15 (.bin .shr 14 (.c (.int .u64 32))),S 16 (.cv .u32 15),S 17 (.bls 2 [.int .u32 0,.int .u32 0] [(0,1,.t 13),(1,1,.t 16)]),r 18 98 [11,17],oS 2 2 2 18] .ret)))⟩
def A1v:List (Nat × Nat):=[]
theorem Aeu:AR c A1v Tryz.f49 qD=true:=by kernel_rfl
def aK:IFunc:=⟨2,9,[.cell 4 3 false],e [S 4 (.new [.bool false,.sl 0 [],.int .i64 0] [])] (e [X 5 0,r 6 49 [5],X 7 1,S 8 (.bld [.bool false,.sl 0 [],.int .i64 0] [(0,2,.t 6),(2,1,.t 7)]),oS 4 4 3 8] .ret)⟩
def A1w:List (Nat × Nat):=[]
theorem Aev:AR c A1w Tryz.f50 aK=true:=by kernel_rfl
def aL:ICode := .seq (e [X 22 5,S 23 (.bin .gtr 22 (.c (.int .u32 0)))] (.cond 23 .skip (.exit 0))) (.seq (.block 1 (rg [X 26 4,oI 27 .add 26 1,X 4 27])) (rg [X 24 5,S 25 (.bin .shr 24 (.c (.int .u64 1))),X 5 25]))
def Xl:IFunc:=⟨1,29,[.tmp 2],e [S 1 (.box 0 [6]),S 2 (.mov (ci 0))] (e [S 6 (.adr 1 1 1),S 7 (.ld 6 1 1 true),r 8 99 [7],X 3 8] (.seq (e [X 9 3,S 10 (.len 9),oI 11 .eql 10 0] (.cond 11 (e [S 2 (.mov (ci 0))] .ret) .skip)) (e [X 12 3,S 13 (.len 12),oI 14 .sub 13 1,S 15 (.bin .mul (ci 32) 14),X 4 15] (.seq (e [X 16 3,X 17 3,S 18 (.len 17),oI 19 .sub 18 1,oA 20 16 19 1,S 21 (.ld 20 20 1 true),X 5 21] (.block 0 (.loop aL))) (e [X 28 4,X 2 28] .ret)))))⟩
def A1x:List (Nat × Nat):=[(6,1)]
theorem Aew:AR c A1x Tryz.f51 Xl=true:=by kernel_rfl
def aM:IFunc:=⟨1,12,[.tmp 2],e [S 2 (.mov (cb false))] (e [X 6 0,S 7 (.call 100 [6,.c (.sl 0 [])]),X 5 7,oE 8 5 0,oE 9 5 1,X 3 8,X 4 9] (e [X 10 4,oI 11 .eql 10 0,X 2 11] .ret))⟩
def A1y:List (Nat × Nat):=[]
theorem Aex:AR c A1y Tryz.f52 aM=true:=by kernel_rfl
def Xm:ICode := .seq (e [X 7 3,oI 8 .geq 7 0,X 9 8,x 10 (.mov 0) 9 true,x 11 (.mov 3) 9 true,x 12 (.ixa 10 11 2) 9 true,x 13 (.ld 12 12 2 false) 9 true,x 14 (.call 101 [13]) 9 true,x 15 (.bin .eql 14 (ci 0)) 9 true,S 16 (.pick 9 15 (cb false))] (.cond 16 .skip (.exit 0))) (.block 1 (rg [X 17 3,oI 18 .sub 17 1,X 3 18]))
def aN:IFunc:=⟨1,20,[.tmp 2],e [S 2 (.mov (ci 0))] (e [X 4 0,S 5 (.len 4),oI 6 .sub 5 1,X 3 6] (.seq (.block 0 (.loop Xm)) (e [X 19 3,X 2 19] .ret)))⟩
def A1z:List (Nat × Nat):=[]
theorem Aey:AR c A1z Tryz.f53 aN=true:=by kernel_rfl
def Ul:IFunc:=⟨1,17,[.tmp 2],e [S 1 (.box 0 [3,7,12]),S 2 (.mov (cb false))] (e [S 3 (.adr 1 1 2),S 4 (.ld 3 1 1 true),oI 5 .geq 4 0,X 6 5,x 7 (.adr 1 1 2) 6 true,x 8 (.ld 7 1 1 true) 6 true,x 9 (.bin .leq 8 (ci 64)) 6 true,S 10 (.pick 6 9 (cb false)),X 11 10,x 12 (.adr 1 1 0) 11 true,x 13 (.ld 12 1 2 false) 11 true,x 14 (.call 102 [13]) 11 true,x 15 (.bin .leq 14 (ci 128)) 11 true,S 16 (.pick 11 15 (cb false)),X 2 16] .ret)⟩
def A2a:List (Nat × Nat):=[(3,1),(7,1),(12,1)]
theorem Aez:AR c A2a Tryz.f54 Ul=true:=by kernel_rfl
def aO:IFunc:=⟨2,26,[.tmp 4],e [S 2 (.box 0 [6,11,14]),S 3 (.box 1 [8,18,21]),S 4 (.mov (ci 0))] (e [S 6 (.adr 2 2 2),S 7 (.ld 6 2 1 true),S 8 (.adr 3 3 2),S 9 (.ld 8 3 1 true),S 10 (.mx [7,9]),X 5 10] (.seq (.region true [S 11 (.adr 2 2 0),oL 12 11 2 2,X 13 5,S 14 (.adr 2 2 2),S 15 (.ld 14 2 1 true),oB 16 .sub 13 15,r 17 104 [12,16],S 18 (.adr 3 3 0),oL 19 18 3 2,X 20 5,S 21 (.adr 3 3 2),S 22 (.ld 21 3 1 true),oB 23 .sub 20 22,r 24 104 [19,23],r 25 103 [17,24],X 4 25]) .ret))⟩
def A2b:List (Nat × Nat):=[(6,2),(8,3),(11,2),(14,2),(18,3),(21,3)]
theorem Afa:AR c A2b Tryz.f55 aO=true:=by kernel_rfl
def Xn:IFunc:=⟨4,29,[.tmp 8,.tmp 9],e [S 5 (.box 1 []),S 6 (.box 2 []),S 8 (.nlo 7),S 9 (.mov (cb false))] (e [X 11 0,r 12 67 [11],X 10 12] (.seq (e [X 13 10,S 14 (.len 13),oI 15 .lss 14 2] (.cond 15 (e [S 8 (.nlo 7),S 9 (.mov (cb true))] .ret) .skip)) (.seq (.region true [X 16 10,oL 17 5 5 3,oL 18 6 6 3,X 19 10,oL 20 5 5 3,r 21 68 [19,20],X 22 10,oL 23 6 6 3,r 24 68 [22,23],X 25 3,r 26 105 [16,17,18,21,24,25],oE 27 26 0,oE 28 26 1,S 8 (.tra 27),X 9 28]) .ret)))⟩
def A2c:List (Nat × Nat):=[]
theorem Afb:AR c A2c Tryz.f56 Xn=true:=by kernel_rfl
def aP:IFunc:=⟨1,13,[.cell 2 7 false],e [S 1 (.box 0 [3,6,9]),S 2 (.new [.sl 0 [],.bool false,.sl 0 [],.int .i64 0,.bool false,.sl 0 [],.int .i64 0] [])] (.seq (.region true [S 3 (.adr 1 1 0),S 4 (.ld 3 1 1 true),r 5 66 [4],S 6 (.adr 1 1 1),oL 7 6 1 3,r 8 106 [7],S 9 (.adr 1 1 4),oL 10 9 1 3,r 11 106 [10],S 12 (.bld [.sl 0 [],.bool false,.sl 0 [],.int .i64 0,.bool false,.sl 0 [],.int .i64 0] [(0,1,.t 5),(1,3,.t 8),(4,3,.t 11)]),oS 2 2 7 12]) .ret)⟩
def A2d:List (Nat × Nat):=[(3,1),(6,1),(9,1)]
theorem Afc:AR c A2d Tryz.f57 aP=true:=by kernel_rfl
def Qs:ICode := .seq (e [X 11 4,X 12 3,S 13 (.len 12),oB 14 .lss 11 13] (.cond 14 .skip (.exit 0))) (.seq (.block 1 (e [X 17 3,X 18 4,oA 19 17 18 2,oL 20 19 19 2,r 21 107 [20]] (.cond 21 (e [S 2 (.mov (cb true))] .ret) .skip))) (rg [X 15 4,oI 16 .add 15 1,X 4 16]))
def Um:IFunc:=⟨1,22,[.tmp 2],e [S 2 (.mov (cb false))] (e [X 5 0,r 6 46 [5],X 3 6] (.seq (e [X 7 3,S 8 (.len 7),oI 9 .sub 8 1,oI 10 .gtr 9 16] (.cond 10 (e [S 2 (.mov (cb true))] .ret) .skip)) (.seq (e [S 4 (.mov (ci 0))] (.block 0 (.loop Qs))) (e [S 2 (.mov (cb false))] .ret))))⟩
def A2e:List (Nat × Nat):=[]
theorem Afd:AR c A2e Tryz.f58 Um=true:=by kernel_rfl
def Un:IFunc:=⟨1,17,[.tmp 2],e [S 1 (.box 0 [3,7,12]),S 2 (.mov (cb false))] (e [S 3 (.adr 1 1 2),S 4 (.ld 3 1 1 true),oI 5 .geq 4 0,X 6 5,x 7 (.adr 1 1 2) 6 true,x 8 (.ld 7 1 1 true) 6 true,x 9 (.bin .leq 8 (ci 1024)) 6 true,S 10 (.pick 6 9 (cb false)),X 11 10,x 12 (.adr 1 1 0) 11 true,x 13 (.ld 12 1 2 false) 11 true,x 14 (.call 51 [13]) 11 true,x 15 (.bin .leq 14 (ci 1024)) 11 true,S 16 (.pick 11 15 (cb false)),X 2 16] .ret)⟩
def A2f:List (Nat × Nat):=[(3,1),(7,1),(12,1)]
theorem Afe:AR c A2f Tryz.f61 Un=true:=by kernel_rfl
def aQ:IFunc:=⟨2,13,[.tmp 4],e [S 3 (.box 1 [6,8]),S 4 (.mov (cb false))] (e [X 5 0,S 6 (.adr 3 3 0),oL 7 6 3 2,S 8 (.adr 3 3 2),S 9 (.ld 8 3 1 true),r 10 80 [5,7,9],r 11 79 [10],oI 12 .eql 11 0,X 4 12] .ret)⟩
def A2g:List (Nat × Nat):=[(6,3),(8,3)]
theorem Aff:AR c A2g Tryz.f62 aQ=true:=by kernel_rfl
def aR:IFunc:=⟨3,17,[.tmp 6],e [S 4 (.box 1 []),S 5 (.box 2 []),S 6 (.mov (ci 0))] (e [X 8 0,r 9 108 [8],X 7 9] (.seq (.region true [X 10 7,oL 11 4 4 3,r 12 110 [10,11],X 13 7,oL 14 5 5 3,r 15 110 [13,14],oB 16 .sub 12 15,X 6 16]) .ret))⟩
def A2h:List (Nat × Nat):=[]
theorem Afg:AR c A2h Tryz.f63 aR=true:=by kernel_rfl
def Uo:IFunc:=⟨1,17,[.tmp 2],e [S 1 (.box 0 [3,7,12]),S 2 (.mov (cb false))] (e [S 3 (.adr 1 1 2),S 4 (.ld 3 1 1 true),oI 5 .geq 4 0,X 6 5,x 7 (.adr 1 1 2) 6 true,x 8 (.ld 7 1 1 true) 6 true,x 9 (.bin .leq 8 (ci 1024)) 6 true,S 10 (.pick 6 9 (cb false)),X 11 10,x 12 (.adr 1 1 0) 11 true,x 13 (.ld 12 1 2 false) 11 true,x 14 (.call 102 [13]) 11 true,x 15 (.bin .leq 14 (ci 1024)) 11 true,S 16 (.pick 11 15 (cb false)),X 2 16] .ret)⟩
def A2i:List (Nat × Nat):=[(3,1),(7,1),(12,1)]
theorem Afh:AR c A2i Tryz.f64 Uo=true:=by kernel_rfl
def aS:ICode := .seq (e [X 11 6,oI 12 .geq 11 0] (.cond 12 .skip (.exit 0))) (.seq (.block 1 (.region true [oL 19 5 5 2,S 20 (.adr 3 3 0),oL 21 20 3 2,r 22 112 [19,21],X 23 0,X 24 6,oA 25 23 24 2,oL 26 25 25 2,X 27 7,r 28 104 [26,27],r 29 111 [22,28],oS 5 5 2 29])) (.region true [X 13 6,oI 14 .sub 13 1,X 15 7,S 16 (.adr 3 3 2),S 17 (.ld 16 3 1 true),oB 18 .add 15 17,X 6 14,X 7 18]))
def aT:IFunc:=⟨2,32,[.tmp 4],e [S 3 (.box 1 [20,16]),S 4 (.mov (ci 0))] (e [S 5 (.new [.bool false,.sl 0 []] [])] (.seq (e [X 8 0,S 9 (.len 8),oI 10 .sub 9 1,X 6 10,S 7 (.mov (ci 0))] (.block 0 (.loop aS))) (e [oL 30 5 5 2,r 31 101 [30],X 4 31] .ret)))⟩
def A2j:List (Nat × Nat):=[(20,3),(16,3)]
theorem Afi:AR c A2j Tryz.f65 aT=true:=by kernel_rfl
def aU:ICode:=e [oB 16 .lss 15 14] (.seq (.cond 16 .skip (.exit 0)) (.seq (.block 1 (e [X 17 15,X 5 17] (rg [S 18 (.cpy 4),X 19 5,X 20 0,X 21 5,oA 22 20 21 2,oL 23 22 22 2,r 24 113 [23],S 25 (.ixo 18 4 19 2),oS 25 4 2 24]))) (rg [oI 26 .add 15 1,X 15 26])))
def aV:IFunc:=⟨1,28,[.tmp 2],e [S 2 (.nlo 2)] (e [X 6 0,r 7 53 [6],oI 8 .add 7 1,X 3 8] (.seq (e [X 9 3,oI 10 .eql 9 0] (.cond 10 (e [S 2 (.nlo 2)] .ret) .skip)) (e [X 11 3,S 12 (.mks [.bool false,.sl 0 []] 11),⟨some 4,.tra 12,none,[13,18,25]⟩] (.seq (e [S 13 (.cpy 4),S 14 (.lno 13 4),S 15 (.mov (ci 0))] (.block 0 (.loop aU))) (e [S 27 (.tra 4),S 2 (.tra 27)] .ret)))))⟩
def A2k:List (Nat × Nat):=[(13,4),(18,4),(25,4)]
theorem Afj:AR c A2k Tryz.f66 aV=true:=by kernel_rfl
def Xo:ICode := .seq (e [X 16 5,S 17 (.len 16),oI 18 .gtr 17 0] (.cond 18 .skip (.exit 0))) (.block 1 (e [S 19 (.tra 4),X 20 5,S 21 (.bls 1 [.sl 0 []] [(0,1,.t 20)]),S 22 (.apd true 19 21 1 1048576),S 4 (.tra 22)] (rg [X 23 5,X 24 3,X 25 5,r 26 118 [24,25],r 27 117 [26],X 3 23,X 5 27])))
def SC:IFunc:=⟨1,29,[.tmp 2],e [S 2 (.nlo 1)] (e [X 6 0,r 7 114 [6],X 3 7] (.seq (e [X 8 3,S 9 (.len 8),oI 10 .eql 9 0] (.cond 10 (e [S 2 (.nlo 1)] .ret) .skip)) (e [X 11 3,S 12 (.blo 1 1 [.sl 0 []] [(0,1,.t 11)]),S 4 (.tra 12)] (e [X 13 3,r 14 116 [13],r 15 115 [14],X 5 15] (.seq (.block 0 (.loop Xo)) (e [S 28 (.tra 4),S 2 (.tra 28)] .ret))))))⟩
def A2l:List (Nat × Nat):=[]
theorem Afk:AR c A2l Tryz.f67 SC=true:=by kernel_rfl
def SD:ICode:=e [oB 13 .lss 12 11] (.seq (.cond 13 .skip (.exit 0)) (.seq (.block 1 (e [oA 14 10 12 1,S 15 (.ld 14 14 1 true),X 8 15] (e [X 16 8,oL 17 3 3 3,r 18 65 [16,17],X 9 18] (.seq (e [X 19 9,oI 20 .neq 19 0,X 21 20,x 22 (.mov 6) 21 true,x 23 (.bin .neq 22 (ci 0)) 21 true,S 24 (.pick 21 23 (cb false)),X 25 24,x 26 (.mov 9) 25 true,x 27 (.mov 6) 25 true,x 28 (.bin .neq 26 27) 25 true,S 29 (.pick 25 28 (cb false))] (.cond 29 (rg [X 30 5,oI 31 .add 30 1,X 5 31]) .skip)) (e [X 32 9,oI 33 .neq 32 0] (.cond 33 (rg [X 34 9,X 6 34]) .skip)))))) (rg [oI 35 .add 12 1,X 12 35])))
def aW:IFunc:=⟨2,37,[.tmp 4],e [S 3 (.box 1 []),S 4 (.mov (ci 0))] (e [S 5 (.mov (ci 0)),S 6 (.mov (ci 0))] (.seq (e [X 10 0,S 11 (.len 10),S 12 (.mov (ci 0))] (.block 0 (.loop SD))) (e [X 36 5,X 4 36] .ret)))⟩
def A2m:List (Nat × Nat):=[]
theorem Afl:AR c A2m Tryz.f68 aW=true:=by kernel_rfl
def Pt:ICode := .seq (e [X 12 6,S 13 (.len 12),oI 14 .gtr 13 0] (.cond 14 .skip (.exit 0))) (.block 1 (e [X 15 5,X 16 6,r 17 119 [15,16],X 7 17] (rg [X 18 6,X 19 7,X 5 18,X 6 19])))
def Xp:IFunc:=⟨2,22,[.tmp 4],e [S 4 (.nlo 2)] (e [X 8 0,r 9 86 [8],X 10 1,r 11 86 [10],X 5 9,X 6 11] (.seq (.block 0 (.loop Pt)) (e [X 20 5,S 21 (.clo 120 [20]),S 4 (.tra 21)] .ret)))⟩
def A2n:List (Nat × Nat):=[]
theorem Afm:AR c A2n Tryz.f70 Xp=true:=by kernel_rfl
def OS:IFunc:=⟨1,19,[.tmp 2],e [S 2 (.nlo 2)] (e [X 5 0,r 6 86 [5],r 7 120 [6],X 3 7] (.seq (e [X 8 3,S 9 (.len 8),oI 10 .leq 9 1] (.cond 10 (e [X 11 3,S 2 (.tra 11)] .ret) .skip)) (e [X 12 3,X 13 3,r 14 122 [13],r 15 70 [12,14],X 4 15] (e [X 16 3,X 17 4,S 18 (.clo 123 [16,17]),S 2 (.tra 18)] .ret))))⟩
def A2o:List (Nat × Nat):=[]
theorem Afn:AR c A2o Tryz.f73 OS=true:=by kernel_rfl
def qE:IFunc:=⟨2,36,[.tmp 4],e [S 2 (.box 0 [5,13,20,28]),S 3 (.box 1 [7,11,22,26]),S 4 (.mov (ci 0))] (.seq (e [S 5 (.adr 2 2 4),oL 6 5 2 3,S 7 (.adr 3 3 1),oL 8 7 3 3,r 9 55 [6,8],oI 10 .lss 9 0] (.cond 10 (e [S 4 (.mov (ci (-1)))] .ret) .skip)) (.seq (e [S 11 (.adr 3 3 4),oL 12 11 3 3,S 13 (.adr 2 2 1),oL 14 13 2 3,r 15 55 [12,14],oI 16 .lss 15 0] (.cond 16 (e [S 4 (.mov (ci 1))] .ret) .skip)) (.seq (e [oL 17 2 2 7,oL 18 3 3 7,r 19 124 [17,18]] (.cond 19 (e [S 4 (.mov (ci 0))] .ret) .skip)) (.block 0 (.loop (.block 1 (.seq (e [S 20 (.adr 2 2 4),oL 21 20 2 3,S 22 (.adr 3 3 1),oL 23 22 3 3,r 24 55 [21,23],oI 25 .leq 24 0] (.cond 25 (e [S 4 (.mov (ci (-1)))] .ret) .skip)) (.seq (e [S 26 (.adr 3 3 4),oL 27 26 3 3,S 28 (.adr 2 2 1),oL 29 28 2 3,r 30 55 [27,29],oI 31 .leq 30 0] (.cond 31 (e [S 4 (.mov (ci 1))] .ret) .skip)) (.region true [oL 32 2 2 7,r 33 82 [32],oL 34 3 3 7,r 35 82 [34],oS 2 2 7 33,oS 3 3 7 35])))))))))⟩
def A2p:List (Nat × Nat):=[(5,2),(7,3),(11,3),(13,2),(20,2),(22,3),(26,3),(28,2)]
theorem Afo:AR c A2p Tryz.f74 qE=true:=by kernel_rfl
def Xq:IFunc:=⟨1,11,[.cell 2 7 false],e [S 1 (.box 0 [3,6,8]),S 2 (.new [.sl 0 [],.bool false,.sl 0 [],.int .i64 0,.bool false,.sl 0 [],.int .i64 0] [])] (.seq (.region true [S 3 (.adr 1 1 0),S 4 (.ld 3 1 1 true),r 5 114 [4],S 6 (.adr 1 1 1),oL 7 6 1 3,S 8 (.adr 1 1 4),oL 9 8 1 3,S 10 (.bld [.sl 0 [],.bool false,.sl 0 [],.int .i64 0,.bool false,.sl 0 [],.int .i64 0] [(0,1,.t 5),(1,3,.t 7),(4,3,.t 9)]),oS 2 2 7 10]) .ret)⟩
def A2q:List (Nat × Nat):=[(3,1),(6,1),(8,1)]
theorem Afp:AR c A2q Tryz.f75 Xq=true:=by kernel_rfl
def MJ:IFunc:=⟨2,45,[.tmp 4],e [S 2 (.box 0 [10,15,20,25,27,34]),S 3 (.box 1 []),S 4 (.mov (ci 0))] (.seq (e [oL 8 2 2 7,r 9 125 [8]] (.cond 9 (e [S 10 (.adr 2 2 1),oL 11 10 2 3,oL 12 3 3 3,r 13 55 [11,12],X 4 13] .ret) .skip)) (.seq (e [oL 14 3 3 3,S 15 (.adr 2 2 1),oL 16 15 2 3,r 17 55 [14,16],oI 18 .leq 17 0] (.cond 18 (e [S 4 (.mov (ci 1))] .ret) .skip)) (e [oL 19 3 3 3,S 20 (.adr 2 2 4),oL 21 20 2 3,r 22 55 [19,21],X 5 22] (.seq (e [X 23 5,oI 24 .gtr 23 0] (.cond 24 (e [S 4 (.mov (ci (-1)))] .ret) .skip)) (e [S 25 (.adr 2 2 0),S 26 (.ld 25 2 1 true),S 27 (.adr 2 2 4),oL 28 27 2 3,r 29 65 [26,28],X 6 29] (.seq (e [X 30 5,oI 31 .eql 30 0] (.cond 31 (.seq (e [X 32 6,oI 33 .eql 32 0] (.cond 33 (e [S 4 (.mov (ci 0))] .ret) .skip)) (e [S 4 (.mov (ci (-1)))] .ret)) .skip)) (e [S 34 (.adr 2 2 0),S 35 (.ld 34 2 1 true),oL 36 3 3 3,r 37 65 [35,36],X 7 37] (.seq (.block 0 (e [X 39 7,oI 40 .eql 39 0,X 38 40] (.cond 38 (e [S 4 (.mov (ci 0))] .ret) (e [X 42 7,X 43 6,oB 44 .eql 42 43,X 41 44] (.cond 41 (e [S 4 (.mov (ci (-1)))] .ret) .skip))))) (e [S 4 (.mov (ci 1))] .ret)))))))))⟩
def A2r:List (Nat × Nat):=[(10,2),(15,2),(20,2),(25,2),(27,2),(34,2)]
theorem Afq:AR c A2r Tryz.f76 MJ=true:=by kernel_rfl
def Qt:ICode := .block 1 (.seq (.region true [S 8 (.adr 2 2 1),oL 9 8 2 3,X 10 1,r 11 126 [9,10],S 12 (.adr 2 2 4),oL 13 12 2 3,X 14 1,r 15 126 [13,14],S 5 (.new [.bool false,.sl 0 []] []),S 6 (.new [.bool false,.sl 0 []] []),oS 5 5 2 11,oS 6 6 2 15]) (e [oL 16 6 6 2,oL 17 5 5 2,r 18 127 [16,17],S 7 (.new [.bool false,.sl 0 []] []),oS 7 7 2 18] (.seq (e [oL 19 7 7 2,r 20 101 [19],oI 21 .eql 20 0] (.cond 21 (e [oL 22 5 5 2,oS 4 4 2 22] .ret) .skip)) (.seq (e [oL 23 7 7 2,r 24 102 [23],oI 25 .eql 24 1] (.cond 25 (.seq (e [oL 26 2 2 7,oL 27 6 6 2,X 28 1,S 29 (.bld [.bool false,.sl 0 [],.int .i64 0] [(0,2,.t 27),(2,1,.t 28)]),r 30 76 [26,29],oI 31 .geq 30 0] (.cond 31 (e [oL 32 6 6 2,oS 4 4 2 32] .ret) .skip)) (e [oL 33 5 5 2,oS 4 4 2 33] .ret)) .skip)) (rg [oL 34 2 2 7,r 35 82 [34],oS 2 2 7 35])))))
def aX:IFunc:=⟨2,36,[.cell 4 2 false],e [S 2 (.box 0 [8,12]),S 4 (.new [.bool false,.sl 0 []] [])] (.block 0 (.loop Qt))⟩
def A2s:List (Nat × Nat):=[(8,2),(12,2)]
theorem Afr:AR c A2s Tryz.f77 aX=true:=by kernel_rfl
def Xr:ICode := .seq (e [oL 28 6 6 2,oL 29 7 7 2,r 30 83 [28,29],oI 31 .lss 30 0] (.cond 31 .skip (.exit 0))) (.block 1 (.seq (.region true [oL 32 6 6 2,oL 33 7 7 2,r 34 95 [32,33],oL 35 5 5 2,r 36 95 [34,35],S 37 (.call 128 [36,.c (.int .i64 1)]),S 8 (.new [.bool false,.sl 0 []] []),oS 8 8 2 37]) (e [oL 38 2 2 7,oL 39 8 8 2,X 40 1,S 41 (.bld [.bool false,.sl 0 [],.int .i64 0] [(0,2,.t 39),(2,1,.t 40)]),r 42 27 [38,41],oI 43 .geq 42 0] (.cond 43 (rg [oL 44 8 8 2,oS 6 6 2 44]) (rg [oL 45 8 8 2,oL 46 5 5 2,r 47 129 [45,46],oS 7 7 2 47])))))
def aY:IFunc:=⟨2,49,[.cell 4 2 false],e [S 2 (.box 0 [10,11,15,16,19,20,24,25]),S 4 (.new [.bool false,.sl 0 []] [])] (e [S 9 (.call 49 [.c (.int .i64 1)]),S 5 (.new [.bool false,.sl 0 []] []),oS 5 5 2 9] (.seq (.region true [S 10 (.adr 2 2 1),S 11 (.adr 10 2 0),oL 12 11 2 2,X 13 1,r 14 84 [12,13],S 15 (.adr 2 2 1),S 16 (.adr 15 2 2),S 17 (.ld 16 2 1 true),r 18 128 [14,17],S 19 (.adr 2 2 4),S 20 (.adr 19 2 0),oL 21 20 2 2,X 22 1,r 23 84 [21,22],S 24 (.adr 2 2 4),S 25 (.adr 24 2 2),S 26 (.ld 25 2 1 true),r 27 128 [23,26],S 6 (.new [.bool false,.sl 0 []] []),S 7 (.new [.bool false,.sl 0 []] []),oS 6 6 2 18,oS 7 7 2 27]) (.seq (.block 0 (.loop Xr)) (e [oL 48 6 6 2,oS 4 4 2 48] .ret))))⟩
def A2t:List (Nat × Nat):=[(10,2),(11,2),(15,2),(16,2),(19,2),(20,2),(24,2),(25,2)]
theorem Afs:AR c A2t Tryz.f78 aY=true:=by kernel_rfl
def Up:IFunc:=⟨1,12,[.tmp 2],e [S 1 (.box 0 [4,10]),S 2 (.mov (ci 0))] (.seq (.block 0 (e [S 4 (.adr 1 1 1),S 5 (.ld 4 1 1 true),r 6 99 [5],S 7 (.len 6),oI 8 .eql 7 0,X 3 8] (.cond 3 (e [S 2 (.mov (ci 0))] .ret) (e [S 10 (.adr 1 1 0),S 11 (.ld 10 1 1 true),X 9 11] (.cond 9 (e [S 2 (.mov (ci (-1)))] .ret) .skip))))) (e [S 2 (.mov (ci 1))] .ret))⟩
def A2u:List (Nat × Nat):=[(4,1),(10,1)]
theorem Aft:AR c A2u Tryz.f79 Up=true:=by kernel_rfl
def aZ:ICode := .seq (e [X 16 9,oI 17 .geq 16 0] (.cond 17 .skip (.exit 0))) (.seq (.block 1 (.region true [oL 20 8 8 2,oL 21 4 4 2,r 22 96 [20,21],X 23 7,X 24 9,oA 25 23 24 2,oL 26 25 25 2,X 27 2,X 28 7,S 29 (.len 28),oI 30 .sub 29 1,X 31 9,oB 32 .sub 30 31,oB 33 .mul 27 32,r 34 84 [26,33],r 35 95 [22,34],oS 8 8 2 35])) (rg [X 18 9,oI 19 .sub 18 1,X 9 19]))
def bA:IFunc:=⟨3,37,[.cell 6 2 false],e [S 4 (.box 1 []),S 6 (.new [.bool false,.sl 0 []] [])] (e [X 10 0,r 11 46 [10],X 7 11] (e [S 12 (.bld [.bool false,.sl 0 []] []),S 8 (.new [.bool false,.sl 0 []] []),oS 8 8 2 12] (.seq (e [X 13 7,S 14 (.len 13),oI 15 .sub 14 1,X 9 15] (.block 0 (.loop aZ))) (e [oL 36 8 8 2,oS 6 6 2 36] .ret))))⟩
def A2v:List (Nat × Nat):=[]
theorem Afu:AR c A2v Tryz.f80 bA=true:=by kernel_rfl
def bB:IFunc:=⟨1,19,[.cell 2 7 false],e [S 1 (.box 0 [3,5,8,12]),S 2 (.new [.sl 0 [],.bool false,.sl 0 [],.int .i64 0,.bool false,.sl 0 [],.int .i64 0] [])] (e [S 3 (.adr 1 1 0),oL 4 3 1 2,S 5 (.adr 1 1 2),S 6 (.ld 5 1 1 true),r 7 130 [4,6],oS 1 1 3 7] (.seq (.region true [S 8 (.adr 1 1 0),oL 9 8 1 2,r 10 131 [9],S 11 (.call 132 [.c (.int .i64 1)]),S 12 (.adr 1 1 2),S 13 (.ld 12 1 1 true),r 14 104 [11,13],S 15 (.bls 2 [.bool false,.sl 0 [],.bool false,.sl 0 []] [(0,2,.t 10),(2,2,.t 14)]),oL 16 1 1 3,oL 17 1 1 3,S 18 (.bld [.sl 0 [],.bool false,.sl 0 [],.int .i64 0,.bool false,.sl 0 [],.int .i64 0] [(0,1,.t 15),(1,3,.t 16),(4,3,.t 17)]),oS 2 2 7 18]) .ret))⟩
def A2w:List (Nat × Nat):=[(3,1),(5,1),(8,1),(12,1)]
theorem Afv:AR c A2w Tryz.f81 bB=true:=by kernel_rfl
def Uq:IFunc:=⟨1,21,[.cell 2 7 false],e [S 1 (.box 0 [7,9,17,19]),S 2 (.new [.sl 0 [],.bool false,.sl 0 [],.int .i64 0,.bool false,.sl 0 [],.int .i64 0] [])] (.seq (e [oL 4 1 1 7,r 5 125 [4]] (.cond 5 (e [oL 6 1 1 7,oS 2 2 7 6] .ret) .skip)) (e [S 7 (.adr 1 1 1),oL 8 7 1 3,S 9 (.adr 1 1 4),oL 10 9 1 3,r 11 133 [8,10],S 3 (.new [.bool false,.sl 0 [],.int .i64 0] []),oS 3 3 3 11] (.seq (e [oL 12 1 1 7,oL 13 3 3 3,r 14 76 [12,13],oI 15 .leq 14 0] (.cond 15 (rg [oL 16 3 3 3,S 17 (.adr 1 1 4),oS 17 1 3 16]) (rg [oL 18 3 3 3,S 19 (.adr 1 1 1),oS 19 1 3 18]))) (e [oL 20 1 1 7,oS 2 2 7 20] .ret))))⟩
def A2x:List (Nat × Nat):=[(7,1),(9,1),(17,1),(19,1)]
theorem Afw:AR c A2x Tryz.f82 Uq=true:=by kernel_rfl
def SE:IFunc:=⟨2,32,[.tmp 4],e [S 2 (.box 0 [20]),S 3 (.box 1 [23]),S 4 (.mov (ci 0))] (.seq (.region true [oL 8 2 2 2,r 9 79 [8],oL 10 3 3 2,r 11 79 [10],X 5 9,X 6 11]) (.seq (.block 0 (e [X 13 5,X 14 6,oB 15 .lss 13 14,X 12 15] (.cond 12 (e [S 4 (.mov (ci (-1)))] .ret) (e [X 17 5,X 18 6,oB 19 .gtr 17 18,X 16 19] (.cond 16 (e [S 4 (.mov (ci 1))] .ret) .skip))))) (.seq (.region true [S 20 (.adr 2 2 1),S 21 (.ld 20 2 1 true),r 22 99 [21],S 23 (.adr 3 3 1),S 24 (.ld 23 3 1 true),r 25 99 [24],r 26 134 [22,25],X 7 26]) (.seq (e [X 27 5,oI 28 .lss 27 0] (.cond 28 (e [X 29 7,S 30 (.un .neg 29),X 4 30] .ret) .skip)) (e [X 31 7,X 4 31] .ret)))))⟩
def A2y:List (Nat × Nat):=[(20,2),(23,3)]
theorem Afx:AR c A2y Tryz.f83 SE=true:=by kernel_rfl
def bC:ICode := .seq (e [X 20 9,X 21 8,S 22 (.len 21),oB 23 .lss 20 22] (.cond 23 .skip (.exit 0))) (.seq (.block 1 (e [X 26 8,X 27 9,oA 28 26 27 1,S 29 (.ld 28 28 1 true),S 30 (.cv .u64 29),X 31 7,oB 32 .shl 30 31,X 33 6,S 34 (.cv .u64 33),oB 35 .or 32 34,X 10 35] (e [S 36 (.tra 5),X 37 10,S 38 (.cv .u32 37),S 39 (.bls 1 [.int .u32 0] [(0,1,.t 38)]),S 40 (.apd true 36 39 1 35184372088832),S 5 (.tra 40)] (rg [X 41 10,S 42 (.bin .shr 41 (.c (.int .u64 32))),S 43 (.cv .u32 42),X 6 43])))) (rg [X 24 9,oI 25 .add 24 1,X 9 25]))
def bD:IFunc:=⟨2,51,[.cell 4 2 false],e [S 2 (.box 0 [17,44]),S 4 (.new [.bool false,.sl 0 []] [])] (e [X 11 1,oI 12 .quo 11 32,S 13 (.mks [.int .u32 0] 12),S 5 (.tra 13)] (e [S 6 (.mov (.c (.int .u32 0)))] (e [X 14 1,oI 15 .rem 14 32,S 16 (.cv .u64 15),X 7 16] (e [S 17 (.adr 2 2 1),S 18 (.ld 17 2 1 true),r 19 99 [18],X 8 19] (.seq (e [S 9 (.mov (ci 0))] (.block 0 (.loop bC))) (.seq (.region true [S 44 (.adr 2 2 0),S 45 (.ld 44 2 1 true),S 46 (.tra 5),X 47 6,S 48 (.bls 1 [.int .u32 0] [(0,1,.t 47)]),S 49 (.apd false 46 48 1 35184372088832),S 50 (.cln 98 [45,49] [4]),oN (.stl 4 50)]) .ret))))))⟩
def A2z:List (Nat × Nat):=[(4,50),(17,2),(44,2)]
theorem Afy:AR c A2z Tryz.f84 bD=true:=by kernel_rfl
def bE:ICode := .seq (e [X 13 5,X 14 0,S 15 (.len 14),oB 16 .lss 13 15] (.cond 16 .skip (.exit 0))) (.seq (.block 1 (.seq (.region true [X 20 0,X 21 5,oA 22 20 21 2,oL 23 22 22 2,oL 24 3 3 2,r 25 138 [23,24],X 19 25,oE 26 19 0,oE 27 19 1,S 6 (.new [.bool false,.sl 0 []] []),S 7 (.new [.bool false,.sl 0 []] []),oS 6 6 2 26,oS 7 7 2 27]) (rg [S 28 (.tra 4),oL 29 6 6 2,S 30 (.bls 1 [.bool false,.sl 0 []] [(0,2,.t 29)]),S 31 (.apd true 28 30 2 1048576),S 4 (.tra 31)]))) (rg [X 17 5,oI 18 .add 17 1,X 5 18]))
def Xs:IFunc:=⟨1,34,[.tmp 2],e [S 2 (.nlo 2)] (e [X 8 0,r 9 137 [8],S 3 (.new [.bool false,.sl 0 []] []),oS 3 3 2 9] (.seq (e [oL 10 3 3 2,r 11 79 [10],oI 12 .eql 11 0] (.cond 12 (e [S 2 (.nlo 2)] .ret) .skip)) (e [S 4 (.nlo 2)] (.seq (e [S 5 (.mov (ci 0))] (.block 0 (.loop bE))) (e [S 32 (.frz 4),S 33 (.clo 46 [32]),S 2 (.tra 33)] .ret)))))⟩
def A3a:List (Nat × Nat):=[]
theorem Afz:AR c A3a Tryz.f86 Xs=true:=by kernel_rfl
def Ur:IFunc:=⟨2,42,[.cell 4 2 false],e [S 2 (.box 0 [7,14,19,30]),S 3 (.box 1 [10,16,36]),S 4 (.new [.bool false,.sl 0 []] [])] (.seq (.region true [S 7 (.adr 2 2 1),S 8 (.ld 7 2 1 true),r 9 99 [8],S 10 (.adr 3 3 1),S 11 (.ld 10 3 1 true),r 12 99 [11],X 5 9,X 6 12]) (.seq (.block 0 (e [S 14 (.adr 2 2 0),S 15 (.ld 14 2 1 true),S 16 (.adr 3 3 0),S 17 (.ld 16 3 1 true),S 18 (.eqb false 15 17),X 13 18] (.cond 13 (.seq (.region true [S 19 (.adr 2 2 0),S 20 (.ld 19 2 1 true),X 21 5,X 22 6,r 23 144 [21,22],r 24 98 [20,23],oS 4 4 2 24]) .ret) (e [X 26 5,X 27 6,r 28 134 [26,27],oI 29 .geq 28 0,X 25 29] (.cond 25 (.seq (.region true [S 30 (.adr 2 2 0),S 31 (.ld 30 2 1 true),X 32 5,X 33 6,r 34 145 [32,33],r 35 98 [31,34],oS 4 4 2 35]) .ret) .skip))))) (.seq (.region true [S 36 (.adr 3 3 0),S 37 (.ld 36 3 1 true),X 38 6,X 39 5,r 40 145 [38,39],r 41 98 [37,40],oS 4 4 2 41]) .ret)))⟩
def A3b:List (Nat × Nat):=[(7,2),(10,3),(14,2),(16,3),(19,2),(30,2),(36,3)]
theorem Aga:AR c A3b Tryz.f95 Ur=true:=by kernel_rfl
def bF:IFunc:=⟨2,18,[.cell 4 2 false],e [S 2 (.box 0 [5,10]),S 3 (.box 1 [7,13]),S 4 (.new [.bool false,.sl 0 []] [])] (.seq (.region true [S 5 (.adr 2 2 0),S 6 (.ld 5 2 1 true),S 7 (.adr 3 3 0),S 8 (.ld 7 3 1 true),S 9 (.eqb true 6 8),S 10 (.adr 2 2 1),S 11 (.ld 10 2 1 true),r 12 99 [11],S 13 (.adr 3 3 1),S 14 (.ld 13 3 1 true),r 15 99 [14],r 16 146 [12,15],r 17 98 [9,16],oS 4 4 2 17]) .ret)⟩
def A3c:List (Nat × Nat):=[(5,2),(7,3),(10,2),(13,3)]
theorem Agb:AR c A3c Tryz.f96 bF=true:=by kernel_rfl
def bG:IFunc:=⟨1,8,[.cell 2 2 false],e [S 1 (.box 0 [3,5]),S 2 (.new [.bool false,.sl 0 []] [])] (e [S 3 (.adr 1 1 0),S 4 (.ld 3 1 1 true),S 5 (.adr 1 1 1),S 6 (.ld 5 1 1 true),r 7 98 [4,6],oS 2 2 2 7] .ret)⟩
def A3d:List (Nat × Nat):=[(3,1),(5,1)]
theorem Agc:AR c A3d Tryz.f97 bG=true:=by kernel_rfl
def qF:IFunc:=⟨2,16,[.cell 4 2 false],e [S 4 (.new [.bool false,.sl 0 []] [])] (e [X 6 1,S 7 (.clo 99 [6]),⟨some 5,.tra 7,none,[10]⟩] (e [X 8 0,X 9 8,x 10 (.cpy 5) 9 true,x 11 (.lno 10 5) 9 true,x 12 (.bin .gtr 11 (ci 0)) 9 true,S 13 (.pick 9 12 (cb false)),S 14 (.tra 5),S 15 (.bdo 13 14 [4]),oN (.stl 4 15)] .ret))⟩
def A3e:List (Nat × Nat):=[(4,15),(10,5)]
theorem Agd:AR c A3e Tryz.f98 qF=true:=by kernel_rfl
def Rw:ICode := .seq (e [X 6 3,oI 7 .gtr 6 0,X 8 7,x 9 (.mov 0) 8 true,x 10 (.mov 3) 8 true,x 11 (.bin .sub 10 (ci 1)) 8 true,x 12 (.ixa 9 11 1) 8 true,x 13 (.ld 12 12 1 true) 8 true,x 14 (.bin .eql 13 (.c (.int .u32 0))) 8 true,S 15 (.pick 8 14 (cb false))] (.cond 15 .skip (.exit 0))) (.block 1 (rg [X 16 3,oI 17 .sub 16 1,X 3 17]))
def bH:IFunc:=⟨1,22,[.tmp 2],e [S 2 (.nlo 1)] (e [X 4 0,S 5 (.len 4),X 3 5] (.seq (.block 0 (.loop Rw)) (e [X 18 0,X 19 3,S 20 (.sli 18 none (some 19) none 1),S 21 (.apd true (.c (.nil)) 20 1 35184372088832),S 2 (.tra 21)] .ret)))⟩
def A3f:List (Nat × Nat):=[]
theorem Age:AR c A3f Tryz.f99 bH=true:=by kernel_rfl
def Rx:IFunc:=⟨2,16,[.tmp 4,.tmp 5],e [S 4 (.nlo 2),S 5 (.mov (ci 0))] (.seq (e [X 6 0,X 7 1,S 8 (.bls 2 [.sl 0 [],.sl 0 []] [(0,1,.t 6),(1,1,.t 7)]),r 9 147 [8]] (.cond 9 (e [S 4 (.nlo 2),S 5 (.mov (ci 2))] .ret) .skip)) (e [X 10 0,X 11 1,r 12 149 [10,11],r 13 148 [12],oE 14 13 0,oE 15 13 1,S 4 (.tra 14),X 5 15] .ret))⟩
def Agf:List (Nat × Nat):=[]
theorem sD:AR c Agf Tryz.f100 Rx=true:=by kernel_rfl
def YD:IFunc:=⟨1,16,[.tmp 2],e [S 1 (.box 0 []),S 2 (.mov (ci 0))] (e [oL 6 1 1 2,r 7 143 [6],X 5 7,oE 8 5 0,oE 9 5 1,X 3 8,X 4 9] (.seq (.block 0 (e [X 11 4,S 12 (.len 11),oI 13 .eql 12 0,X 10 13] (.cond 10 (e [S 2 (.mov (ci 0))] .ret) (e [X 15 3,X 14 15] (.cond 14 (e [S 2 (.mov (ci (-1)))] .ret) .skip))))) (e [S 2 (.mov (ci 1))] .ret)))⟩
def Agg:List (Nat × Nat):=[]
theorem sE:AR c Agg Tryz.f101 YD=true:=by kernel_rfl
def Ry:IFunc:=⟨1,25,[.tmp 2],e [S 1 (.box 0 []),S 2 (.mov (ci 0))] (e [oL 6 1 1 2,r 7 143 [6],X 5 7,oE 8 5 0,oE 9 5 1,X 3 8,X 4 9] (.seq (e [X 10 4,S 11 (.len 10),oI 12 .eql 11 0] (.cond 12 (e [S 2 (.mov (ci 0))] .ret) .skip)) (e [X 13 4,S 14 (.len 13),oI 15 .sub 14 1,S 16 (.bin .mul (ci 32) 15),X 17 4,X 18 4,S 19 (.len 18),oI 20 .sub 19 1,oA 21 17 20 1,S 22 (.ld 21 21 1 true),r 23 150 [22],oB 24 .add 16 23,X 2 24] .ret)))⟩
def Agh:List (Nat × Nat):=[]
theorem sF:AR c Agh Tryz.f102 Ry=true:=by kernel_rfl
def Nv:IFunc:=⟨2,39,[.tmp 4],e [S 2 (.box 0 []),S 3 (.box 1 []),S 4 (.mov (ci 0))] (e [oL 10 2 2 2,r 11 143 [10],X 9 11,oE 12 9 0,oE 13 9 1,X 5 12,X 6 13] (e [oL 15 3 3 2,r 16 143 [15],X 14 16,oE 17 14 0,oE 18 14 1,X 7 17,X 8 18] (.seq (.block 0 (e [X 20 5,X 21 20,x 22 (.mov 7) 21 true,x 23 (.un .not 22) 21 true,S 24 (.pick 21 23 (cb false)),X 19 24] (.cond 19 (e [S 4 (.mov (ci (-1)))] .ret) (e [X 26 7,X 27 26,x 28 (.mov 5) 27 true,x 29 (.un .not 28) 27 true,S 30 (.pick 27 29 (cb false)),X 25 30] (.cond 25 (e [S 4 (.mov (ci 1))] .ret) (e [X 32 5,X 31 32] (.cond 31 (e [X 33 8,X 34 6,r 35 151 [33,34],X 4 35] .ret) .skip))))))) (e [X 36 6,X 37 8,r 38 151 [36,37],X 4 38] .ret))))⟩
def Agi:List (Nat × Nat):=[]
theorem sG:AR c Agi Tryz.f103 Nv=true:=by kernel_rfl
def Us:ICode:=e [oB 36 .lss 35 34] (.seq (.cond 36 .skip (.exit 0)) (.seq (.block 1 (e [X 37 35,oA 38 33 35 1,S 39 (.ld 38 38 1 true),X 10 37,X 11 39] (e [X 40 11,S 41 (.cv .u64 40),X 42 8,oB 43 .shl 41 42,X 12 43] (e [S 44 (.cpy 9),X 45 10,X 46 7,oB 47 .add 45 46,S 48 (.ixo 44 9 47 1),S 49 (.ld 48 9 1 true),X 50 12,S 51 (.cv .u32 50),oB 52 .or 49 51,S 53 (.ixo 44 9 47 1),oS 53 9 1 52] (rg [S 54 (.cpy 9),X 55 10,X 56 7,oB 57 .add 55 56,oI 58 .add 57 1,X 59 12,S 60 (.bin .shr 59 (.c (.int .u64 32))),S 61 (.cv .u32 60),S 62 (.ixo 54 9 58 1),oS 62 9 1 61]))))) (rg [oI 63 .add 35 1,X 35 63])))
def Rz:IFunc:=⟨2,67,[.cell 4 2 false],e [S 2 (.box 0 []),S 4 (.new [.bool false,.sl 0 []] [])] (e [oL 14 2 2 2,r 15 143 [14],X 13 15,oE 16 13 0,oE 17 13 1,X 5 16,X 6 17] (.seq (e [X 18 6,S 19 (.len 18),oI 20 .eql 19 0] (.cond 20 (e [S 21 (.bld [.bool false,.sl 0 []] []),oS 4 4 2 21] .ret) .skip)) (e [X 22 1,oI 23 .quo 22 32,X 24 1,oI 25 .rem 24 32,S 26 (.cv .u64 25),X 7 23,X 8 26] (e [X 27 6,S 28 (.len 27),X 29 7,oB 30 .add 28 29,oI 31 .add 30 1,S 32 (.mks [.int .u32 0] 31),⟨some 9,.tra 32,none,[44,48,53,54,62]⟩] (.seq (e [X 33 6,S 34 (.len 33),S 35 (.mov (ci 0))] (.block 0 (.loop Us))) (e [X 64 5,S 65 (.frz 9),r 66 152 [64,65],oS 4 4 2 66] .ret))))))⟩
def Agj:List (Nat × Nat):=[(44,9),(48,9),(53,9),(54,9),(62,9)]
theorem sH:AR c Agj Tryz.f104 Rz=true:=by kernel_rfl
def Pu:IFunc:=⟨6,69,[.tmp 12,.tmp 13],e [S 7 (.box 1 []),S 8 (.box 2 []),S 12 (.nlo 7),S 13 (.mov (cb false))] (.seq (e [X 19 3,X 20 4,oB 21 .sub 19 20] (.block 0 (e [oI 23 .eql 21 0,X 22 23] (.cond 22 (e [S 12 (.nlo 7),S 13 (.mov (cb true))] .ret) (e [oI 25 .eql 21 1,X 24 25] (.cond 24 (.seq (.region true [X 26 0,S 27 (.ixa 26 (ci 0) 1),S 28 (.ld 27 27 1 true),oL 29 7 7 3,oL 30 8 8 3,S 31 (.bld [.sl 0 [],.bool false,.sl 0 [],.int .i64 0,.bool false,.sl 0 [],.int .i64 0] [(0,1,.t 28),(1,3,.t 29),(4,3,.t 30)]),S 32 (.blo 7 1 [.sl 0 [],.bool false,.sl 0 [],.int .i64 0,.bool false,.sl 0 [],.int .i64 0] [(0,7,.t 31)]),S 12 (.tra 32),S 13 (.mov (cb true))]) .ret) .skip)))))) (e [oL 33 7 7 3,oL 34 8 8 3,r 35 133 [33,34],S 14 (.new [.bool false,.sl 0 [],.int .i64 0] [36]),oS 14 14 3 35] (.seq (e [S 36 (.adr 14 14 2),S 37 (.ld 36 14 1 true),X 38 5,oB 39 .gtr 37 38] (.cond 39 (e [S 12 (.nlo 7),S 13 (.mov (cb false))] .ret) .skip)) (e [X 40 0,oL 41 14 14 3,r 42 68 [40,41],X 15 42] (e [X 44 0,oL 45 7 7 3,oL 46 14 14 3,X 47 3,X 48 15,X 49 5,S 50 (.clo 105 [44,45,46,47,48,49]),S 43 (.tra 50),S 51 (.exo 43),oE 52 43 1,S 16 (.tra 51),X 17 52] (.seq (e [X 53 17,S 54 (.un .not 53)] (.cond 54 (e [S 12 (.nlo 7),S 13 (.mov (cb false))] .ret) .skip)) (e [X 56 0,oL 57 14 14 3,oL 58 8 8 3,X 59 15,X 60 4,X 61 5,r 62 105 [56,57,58,59,60,61],X 55 62,oE 63 55 0,oE 64 55 1,X 18 63,X 17 64] (e [S 65 (.tra 16),X 66 18,S 67 (.apd true 65 66 7 1048576),X 68 17,S 12 (.tra 67),X 13 68] .ret))))))))⟩
def Agk:List (Nat × Nat):=[(36,14)]
theorem sI:AR c Agk Tryz.f105 Pu=true:=by kernel_rfl
def Ut:IFunc:=⟨1,9,[.cell 2 3 false],e [S 1 (.box 0 [3,6]),S 2 (.new [.bool false,.sl 0 [],.int .i64 0] [])] (.seq (.region true [S 3 (.adr 1 1 0),oL 4 3 1 2,r 5 113 [4],S 6 (.adr 1 1 2),S 7 (.ld 6 1 1 true),S 8 (.bld [.bool false,.sl 0 [],.int .i64 0] [(0,2,.t 5),(2,1,.t 7)]),oS 2 2 3 8]) .ret)⟩
def Agl:List (Nat × Nat):=[(3,1),(6,1)]
theorem sJ:AR c Agl Tryz.f106 Ut=true:=by kernel_rfl
def Uu:IFunc:=⟨1,8,[.tmp 2],e [S 1 (.box 0 [3]),S 2 (.mov (cb false))] (e [S 3 (.adr 1 1 1),S 4 (.ld 3 1 1 true),r 5 99 [4],S 6 (.len 5),oI 7 .gtr 6 256,X 2 7] .ret)⟩
def Agm:List (Nat × Nat):=[(3,1)]
theorem sK:AR c Agm Tryz.f107 Uu=true:=by kernel_rfl
def Uv:ICode := .seq (e [X 16 5,S 17 (.len 16),oI 18 .gtr 17 0] (.cond 18 .skip (.exit 0))) (.block 1 (e [S 19 (.tra 4),X 20 5,S 21 (.bls 1 [.sl 0 []] [(0,1,.t 20)]),S 22 (.apd true 19 21 1 1048576),⟨some 4,.tra 22,none,[23,24,27]⟩] (rg [S 23 (.cpy 4),S 24 (.cpy 4),S 25 (.lno 24 4),oI 26 .sub 25 2,S 27 (.ixo 23 4 26 1),S 28 (.ld 27 4 1 true),X 29 5,r 30 119 [28,29],r 31 153 [30],X 5 31])))
def R0:IFunc:=⟨1,33,[.tmp 2],e [S 2 (.nlo 1)] (e [X 6 0,r 7 73 [6],X 3 7] (.seq (e [X 8 3,S 9 (.len 8),oI 10 .eql 9 0] (.cond 10 (e [S 2 (.nlo 1)] .ret) .skip)) (e [X 11 3,S 12 (.blo 1 1 [.sl 0 []] [(0,1,.t 11)]),⟨some 4,.tra 12,none,[23,24,27]⟩] (e [X 13 3,r 14 122 [13],r 15 86 [14],X 5 15] (.seq (.block 0 (.loop Uv)) (e [S 32 (.tra 4),S 2 (.tra 32)] .ret))))))⟩
def Agn:List (Nat × Nat):=[(23,4),(24,4),(27,4)]
theorem sM:AR c Agn Tryz.f108 R0=true:=by kernel_rfl
def Nw:ICode := .seq (e [X 9 7,X 10 0,S 11 (.len 10),oB 12 .lss 9 11] (.cond 12 .skip (.exit 0))) (.seq (.block 1 (.seq (.region true [X 15 0,X 16 7,oA 17 15 16 1,S 18 (.ld 17 17 1 true),S 19 (.adr 3 3 0),oL 20 19 3 2,S 21 (.adr 3 3 2),S 22 (.ld 21 3 1 true),r 23 80 [18,20,22],r 24 79 [23],X 8 24]) (.seq (e [X 25 8,oI 26 .neq 25 0,X 27 26,x 28 (.mov 6) 27 true,x 29 (.bin .neq 28 (ci 0)) 27 true,S 30 (.pick 27 29 (cb false)),X 31 30,x 32 (.mov 8) 31 true,x 33 (.mov 6) 31 true,x 34 (.bin .neq 32 33) 31 true,S 35 (.pick 31 34 (cb false))] (.cond 35 (rg [X 36 5,oI 37 .add 36 1,X 5 37]) .skip)) (e [X 38 8,oI 39 .neq 38 0] (.cond 39 (rg [X 40 8,X 6 40]) .skip))))) (rg [X 13 7,oI 14 .add 13 1,X 7 14]))
def Uw:IFunc:=⟨2,42,[.tmp 4],e [S 3 (.box 1 [19,21]),S 4 (.mov (ci 0))] (e [S 5 (.mov (ci 0)),S 6 (.mov (ci 0))] (.seq (e [S 7 (.mov (ci 0))] (.block 0 (.loop Nw))) (e [X 41 5,X 4 41] .ret)))⟩
def Ago:List (Nat × Nat):=[(19,3),(21,3)]
theorem sN:AR c Ago Tryz.f110 Uw=true:=by kernel_rfl
def YE:IFunc:=⟨2,24,[.cell 4 2 false],e [S 2 (.box 0 []),S 3 (.box 1 []),S 4 (.new [.bool false,.sl 0 []] [])] (e [oL 10 2 2 2,r 11 143 [10],X 9 11,oE 12 9 0,oE 13 9 1,X 5 12,X 6 13] (e [oL 15 3 3 2,r 16 143 [15],X 14 16,oE 17 14 0,oE 18 14 1,X 7 17,X 8 18] (e [X 19 5,X 20 6,X 21 7,X 22 8,r 23 154 [19,20,21,22],oS 4 4 2 23] .ret)))⟩
def Agp:List (Nat × Nat):=[]
theorem sO:AR c Agp Tryz.f111 YE=true:=by kernel_rfl
def Qu:ICode:=e [oB 51 .lss 50 49] (.seq (.cond 51 .skip (.exit 2)) (.seq (.block 3 (e [X 52 50,oA 53 48 50 1,S 54 (.ld 53 53 1 true),X 13 52,X 14 54] (e [X 55 11,S 56 (.cv .u64 55),X 57 14,S 58 (.cv .u64 57),oB 59 .mul 56 58,S 60 (.cpy 9),X 61 10,X 62 13,oB 63 .add 61 62,S 64 (.ixo 60 9 63 1),S 65 (.ld 64 9 1 true),S 66 (.cv .u64 65),oB 67 .add 59 66,X 68 12,oB 69 .add 67 68,X 15 69] (rg [S 70 (.cpy 9),X 71 10,X 72 13,oB 73 .add 71 72,X 74 15,S 75 (.cv .u32 74),X 76 15,S 77 (.bin .shr 76 (.c (.int .u64 32))),S 78 (.ixo 70 9 73 1),oS 78 9 1 75,X 12 77])))) (rg [oI 79 .add 50 1,X 50 79])))
def Ux:ICode:=e [oB 44 .lss 43 42] (.seq (.cond 44 .skip (.exit 0)) (.seq (.block 1 (e [X 45 43,oA 46 41 43 1,S 47 (.ld 46 46 1 true),X 10 45,X 11 47] (e [S 12 (.mov (.c (.int .u64 0)))] (.seq (e [X 48 8,S 49 (.len 48),S 50 (.mov (ci 0))] (.block 2 (.loop Qu))) (rg [S 80 (.cpy 9),X 81 10,X 82 8,S 83 (.len 82),oB 84 .add 81 83,X 85 12,S 86 (.cv .u32 85),S 87 (.ixo 80 9 84 1),oS 87 9 1 86]))))) (rg [oI 88 .add 43 1,X 43 88])))
def Uy:IFunc:=⟨2,94,[.cell 4 2 false],e [S 2 (.box 0 []),S 3 (.box 1 []),S 4 (.new [.bool false,.sl 0 []] [])] (e [oL 17 2 2 2,r 18 143 [17],X 16 18,oE 19 16 0,oE 20 16 1,X 5 19,X 6 20] (e [oL 22 3 3 2,r 23 143 [22],X 21 23,oE 24 21 0,oE 25 21 1,X 7 24,X 8 25] (.seq (e [X 26 6,S 27 (.len 26),oI 28 .eql 27 0,X 29 28,x 30 (.mov 8) 29 false,x 31 (.len 30) 29 false,x 32 (.bin .eql 31 (ci 0)) 29 false,S 33 (.pick 29 (cb true) 32)] (.cond 33 (e [S 34 (.bld [.bool false,.sl 0 []] []),oS 4 4 2 34] .ret) .skip)) (e [X 35 6,S 36 (.len 35),X 37 8,S 38 (.len 37),oB 39 .add 36 38,S 40 (.mks [.int .u32 0] 39),⟨some 9,.tra 40,none,[60,64,70,78,80,87]⟩] (.seq (e [X 41 6,S 42 (.len 41),S 43 (.mov (ci 0))] (.block 0 (.loop Ux))) (e [X 89 5,X 90 7,S 91 (.eqb true 89 90),S 92 (.frz 9),r 93 152 [91,92],oS 4 4 2 93] .ret))))))⟩
def Agq:List (Nat × Nat):=[(60,9),(64,9),(70,9),(78,9),(80,9),(87,9)]
theorem sP:AR c Agq Tryz.f112 Uy=true:=by kernel_rfl
def YF:IFunc:=⟨1,14,[.cell 2 2 false],e [S 1 (.box 0 []),S 2 (.new [.bool false,.sl 0 []] [])] (e [oL 6 1 1 2,r 7 143 [6],X 5 7,oE 8 5 0,oE 9 5 1,X 3 8,X 4 9] (e [X 10 3,X 11 4,S 12 (.apd false (.c (.nil)) 11 1 35184372088832),r 13 152 [10,12],oS 2 2 2 13] .ret))⟩
def Agr:List (Nat × Nat):=[]
theorem sQ:AR c Agr Tryz.f113 YF=true:=by kernel_rfl
def HL:IFunc:=⟨1,23,[.tmp 2],e [S 2 (.nlo 2)] (e [X 5 0,r 6 115 [5],r 7 155 [6],X 3 7] (.seq (e [X 8 3,S 9 (.len 8),oI 10 .lss 9 2] (.cond 10 (e [X 11 3,S 2 (.tra 11)] .ret) .skip)) (e [X 12 3,X 13 3,r 14 116 [13],r 15 135 [12,14],X 4 15] (.seq (e [X 16 4,S 17 (.len 16),oI 18 .lss 17 2] (.cond 18 (e [X 19 3,S 2 (.tra 19)] .ret) .skip)) (e [X 20 3,X 21 4,S 22 (.clo 156 [20,21]),S 2 (.tra 22)] .ret)))))⟩
def Ags:List (Nat × Nat):=[]
theorem sR:AR c Ags Tryz.f114 HL=true:=by kernel_rfl
def R1:ICode:=e [oB 16 .lss 15 14] (.seq (.cond 16 .skip (.exit 0)) (.seq (.block 1 (e [X 17 15,X 5 17] (.region true [S 19 (.cpy 3),X 20 5,S 21 (.cpy 3),X 22 5,S 23 (.ixo 21 3 22 2),oL 24 23 3 2,oL 25 4 4 2,r 26 158 [24,25],X 18 26,oE 27 18 0,oE 28 18 1,S 29 (.ixo 19 3 20 2),oS 29 3 2 27]))) (rg [oI 30 .add 15 1,X 15 30])))
def R2:IFunc:=⟨1,32,[.tmp 2],e [S 2 (.nlo 2)] (e [X 6 0,S 7 (.clo 66 [6]),⟨some 3,.tra 7,none,[8,13,19,21,23,29]⟩] (e [S 8 (.cpy 3),S 9 (.brw 157 8 3),S 4 (.new [.bool false,.sl 0 []] []),oS 4 4 2 9] (.seq (e [oL 10 4 4 2,r 11 102 [10],oI 12 .gtr 11 1] (.cond 12 (e [S 13 (.cpy 3),S 14 (.lno 13 3),S 15 (.mov (ci 0))] (.block 0 (.loop R1))) .skip)) (e [S 31 (.tra 3),S 2 (.tra 31)] .ret))))⟩
def Agt:List (Nat × Nat):=[(8,3),(13,3),(19,3),(21,3),(23,3),(29,3)]
theorem sS:AR c Agt Tryz.f115 R2=true:=by kernel_rfl
def Uz:ICode := .seq (e [X 5 4,X 6 0,r 7 53 [6],oB 8 .leq 5 7] (.cond 8 .skip (.exit 0))) (.seq (.block 1 (.region true [S 11 (.tra 3),X 12 0,X 13 4,oA 14 12 13 2,oL 15 14 14 2,X 16 4,r 17 132 [16],r 18 112 [15,17],S 19 (.bls 1 [.bool false,.sl 0 []] [(0,2,.t 18)]),S 20 (.apd true 11 19 2 1048576),S 3 (.tra 20)])) (rg [X 9 4,oI 10 .add 9 1,X 4 10]))
def U0:IFunc:=⟨1,23,[.tmp 2],e [S 2 (.nlo 2)] (e [S 3 (.nlo 2)] (.seq (e [S 4 (.mov (ci 1))] (.block 0 (.loop Uz))) (e [S 21 (.frz 3),S 22 (.clo 66 [21]),S 2 (.tra 22)] .ret)))⟩
def Agu:List (Nat × Nat):=[]
theorem sT:AR c Agu Tryz.f116 U0=true:=by kernel_rfl
def U1:ICode:=e [oB 11 .lss 10 9] (.seq (.cond 11 .skip (.exit 0)) (.seq (.block 1 (e [X 12 10,X 4 12] (rg [S 13 (.cpy 3),X 14 4,X 15 0,X 16 4,oA 17 15 16 2,oL 18 17 17 2,r 19 131 [18],S 20 (.ixo 13 3 14 2),oS 20 3 2 19]))) (rg [oI 21 .add 10 1,X 10 21])))
def U2:IFunc:=⟨1,23,[.tmp 2],e [S 2 (.nlo 2)] (e [X 5 0,S 6 (.len 5),S 7 (.mks [.bool false,.sl 0 []] 6),⟨some 3,.tra 7,none,[13,20]⟩] (.seq (e [X 8 0,S 9 (.len 8),S 10 (.mov (ci 0))] (.block 0 (.loop U1))) (e [S 22 (.tra 3),S 2 (.tra 22)] .ret)))⟩
def Agv:List (Nat × Nat):=[(13,3),(20,3)]
theorem sU:AR c Agv Tryz.f117 U2=true:=by kernel_rfl
def K9:ICode:=e [oB 65 .lss 64 63] (.seq (.cond 65 .skip (.exit 2)) (.seq (.block 3 (e [X 66 64,X 14 66] (.seq (.region true [S 67 (.cpy 5),X 68 14,S 69 (.cpy 5),X 70 14,S 71 (.ixo 69 5 70 2),oL 72 71 5 2,oL 73 9 9 2,r 74 112 [72,73],S 75 (.ixo 67 5 68 2),oS 75 5 2 74]) (e [X 76 14,X 77 13,oB 78 .geq 76 77] (.cond 78 (.region true [S 79 (.cpy 5),X 80 14,S 81 (.cpy 5),X 82 14,S 83 (.ixo 81 5 82 2),oL 84 83 5 2,oL 85 11 11 2,X 86 1,X 87 14,X 88 13,oB 89 .sub 87 88,oA 90 86 89 2,oL 91 90 90 2,r 92 112 [85,91],r 93 127 [84,92],S 94 (.ixo 79 5 80 2),oS 94 5 2 93]) .skip))))) (rg [oI 95 .add 64 1,X 64 95])))
def Pv:ICode := .seq (e [S 25 (.cpy 5),S 26 (.lno 25 5),X 27 1,S 28 (.len 27),oB 29 .geq 26 28] (.cond 29 .skip (.exit 0))) (.block 1 (e [S 30 (.cpy 5),S 31 (.cpy 5),S 32 (.lno 31 5),oI 33 .sub 32 1,S 34 (.ixo 30 5 33 2),oL 35 34 5 2,S 7 (.new [.bool false,.sl 0 []] []),oS 7 7 2 35] (e [oL 36 6 6 2,oL 37 7 7 2,r 38 159 [36,37],S 8 (.new [.bool false,.sl 0 []] []),oS 8 8 2 38] (.seq (.region true [oL 40 6 6 2,r 41 160 [40],oL 42 8 8 2,r 43 158 [41,42],X 39 43,oE 44 39 0,oE 45 39 1,S 9 (.new [.bool false,.sl 0 []] []),S 10 (.new [.bool false,.sl 0 []] []),oS 9 9 2 44,oS 10 10 2 45]) (e [oL 47 7 7 2,oL 48 8 8 2,r 49 158 [47,48],X 46 49,oE 50 46 0,oE 51 46 1,S 11 (.new [.bool false,.sl 0 []] []),S 12 (.new [.bool false,.sl 0 []] []),oS 11 11 2 50,oS 12 12 2 51] (.seq (e [oL 52 6 6 2,r 53 101 [52],oI 54 .lss 53 0] (.cond 54 (rg [oL 55 11 11 2,r 56 131 [55],oS 11 11 2 56]) .skip)) (e [S 57 (.cpy 5),S 58 (.lno 57 5),X 59 1,S 60 (.len 59),oB 61 .sub 58 60,X 13 61] (.seq (e [S 62 (.cpy 5),S 63 (.lno 62 5),S 64 (.mov (ci 0))] (.block 2 (.loop K9))) (rg [S 96 (.frz 5),S 97 (.clo 115 [96]),⟨some 5,.tra 97,none,[25,30,31,34,57,62,67,69,71,75,79,81,83,94]⟩])))))))))
def U3:IFunc:=⟨2,99,[.tmp 4],e [S 4 (.nlo 2)] (e [X 15 0,S 16 (.clo 115 [15]),X 17 1,r 18 115 [17],⟨some 5,.tra 16,none,[25,30,31,34,57,62,67,69,71,75,79,81,83,94]⟩,X 1 18] (e [X 19 1,X 20 1,S 21 (.len 20),oI 22 .sub 21 1,oA 23 19 22 2,oL 24 23 23 2,S 6 (.new [.bool false,.sl 0 []] []),oS 6 6 2 24] (.seq (.block 0 (.loop Pv)) (e [S 98 (.tra 5),S 4 (.tra 98)] .ret))))⟩
def Agw:List (Nat × Nat):=[(25,5),(30,5),(31,5),(34,5),(57,5),(62,5),(67,5),(69,5),(71,5),(75,5),(79,5),(81,5),(83,5),(94,5)]
theorem sV:AR c Agw Tryz.f118 U3=true:=by kernel_rfl
def KA:ICode := .seq (e [X 44 11,X 45 5,S 46 (.len 45),oI 47 .sub 46 1,oB 48 .lss 44 47] (.cond 48 .skip (.exit 2))) (.seq (.block 3 (.seq (.region true [S 51 (.adr 7 7 1),S 52 (.ld 51 7 1 true),S 53 (.bld [.bool false,.sl 0 []] [(1,1,.t 52)]),X 54 5,X 55 11,oA 56 54 55 2,oL 57 56 56 2,r 58 96 [53,57],S 12 (.new [.bool false,.sl 0 []] []),oS 12 12 2 58]) (.seq (e [X 59 11,X 60 9,oB 61 .geq 59 60] (.cond 61 (.region true [oL 62 12 12 2,oL 63 8 8 2,X 64 6,X 65 11,X 66 9,oB 67 .sub 65 66,oA 68 64 67 2,oL 69 68 68 2,r 70 96 [63,69],r 71 129 [62,70],oS 12 12 2 71]) .skip)) (rg [S 72 (.tra 10),oL 73 12 12 2,S 74 (.bls 1 [.bool false,.sl 0 []] [(0,2,.t 73)]),S 75 (.apd true 72 74 2 1048576),S 10 (.tra 75)])))) (rg [X 49 11,oI 50 .add 49 1,X 11 50]))
def Pw:ICode := .seq (e [X 23 5,S 24 (.len 23),X 25 6,S 26 (.len 25),oB 27 .geq 24 26] (.cond 27 .skip (.exit 0))) (.block 1 (e [X 28 5,X 29 5,S 30 (.len 29),oI 31 .sub 30 1,oA 32 28 31 2,oL 33 32 32 2,S 8 (.new [.bool false,.sl 0 []] []),oS 8 8 2 33] (.seq (e [oL 34 7 7 2,r 35 79 [34],oI 36 .lss 35 0] (.cond 36 (rg [oL 37 8 8 2,r 38 161 [37],oS 8 8 2 38]) .skip)) (e [X 39 5,S 40 (.len 39),X 41 6,S 42 (.len 41),oB 43 .sub 40 42,X 9 43] (e [S 10 (.nlo 2)] (.seq (e [S 11 (.mov (ci 0))] (.block 2 (.loop KA))) (rg [S 76 (.frz 10),r 77 46 [76],r 78 86 [77],X 5 78])))))))
def U4:IFunc:=⟨2,80,[.tmp 4],e [S 4 (.nlo 2)] (e [X 13 0,r 14 86 [13],X 15 1,r 16 46 [15],X 5 14,X 6 16] (e [X 17 6,X 18 6,S 19 (.len 18),oI 20 .sub 19 1,oA 21 17 20 2,oL 22 21 21 2,S 7 (.new [.bool false,.sl 0 []] [51]),oS 7 7 2 22] (.seq (.block 0 (.loop Pw)) (e [X 79 5,S 4 (.tra 79)] .ret))))⟩
def Agx:List (Nat × Nat):=[(51,7)]
theorem sW:AR c Agx Tryz.f119 U4=true:=by kernel_rfl
def Px:IFunc:=⟨1,19,[.tmp 2],e [S 2 (.nlo 2)] (.seq (e [X 3 0,S 4 (.len 3),oI 5 .gtr 4 0,X 6 5,x 7 (.mov 0) 6 true,x 8 (.mov 0) 6 true,x 9 (.len 8) 6 true,x 10 (.bin .sub 9 (ci 1)) 6 true,x 11 (.ixa 7 10 2) 6 true,x 12 (.ld 11 11 2 false) 6 true,x 13 (.call 79 [12]) 6 true,x 14 (.bin .lss 13 (ci 0)) 6 true,S 15 (.pick 6 14 (cb false))] (.cond 15 (e [X 16 0,S 17 (.clo 153 [16]),S 2 (.tra 17)] .ret) .skip)) (e [X 18 0,S 2 (.tra 18)] .ret))⟩
def Agy:List (Nat × Nat):=[]
theorem sX:AR c Agy Tryz.f120 Px=true:=by kernel_rfl
def U5:ICode := .seq (e [X 5 4,X 6 0,S 7 (.len 6),oB 8 .lss 5 7] (.cond 8 .skip (.exit 0))) (.seq (.block 1 (.region true [S 11 (.tra 3),X 12 4,r 13 49 [12],X 14 0,X 15 4,oA 16 14 15 2,oL 17 16 16 2,r 18 96 [13,17],S 19 (.bls 1 [.bool false,.sl 0 []] [(0,2,.t 18)]),S 20 (.apd true 11 19 2 1048576),S 3 (.tra 20)])) (rg [X 9 4,oI 10 .add 9 1,X 4 10]))
def U6:IFunc:=⟨1,23,[.tmp 2],e [S 2 (.nlo 2)] (e [S 3 (.nlo 2)] (.seq (e [S 4 (.mov (ci 1))] (.block 0 (.loop U5))) (e [S 21 (.frz 3),S 22 (.clo 46 [21]),S 2 (.tra 22)] .ret)))⟩
def Agz:List (Nat × Nat):=[]
theorem sY:AR c Agz Tryz.f122 U6=true:=by kernel_rfl
def On:ICode := .seq (e [X 48 11,S 49 (.cpy 8),S 50 (.lno 49 8),oB 51 .lss 48 50] (.cond 51 .skip (.exit 2))) (.seq (.block 3 (.region true [S 54 (.cpy 8),X 55 11,S 56 (.cpy 8),X 57 11,S 58 (.ixo 56 8 57 2),oL 59 58 8 2,oL 60 7 7 2,r 61 96 [59,60],S 62 (.ixo 54 8 55 2),oS 62 8 2 61])) (rg [X 52 11,oI 53 .add 52 1,X 11 53]))
def Me:ICode := .seq (e [X 67 13,X 68 5,S 69 (.len 68),oI 70 .sub 69 1,oB 71 .lss 67 70] (.cond 71 .skip (.exit 4))) (.seq (.block 5 (.seq (.region true [oL 74 7 7 2,X 75 5,X 76 13,oA 77 75 76 2,oL 78 77 77 2,r 79 96 [74,78],S 14 (.new [.bool false,.sl 0 []] []),oS 14 14 2 79]) (.seq (e [X 80 13,X 81 10,oB 82 .geq 80 81] (.cond 82 (.region true [oL 83 14 14 2,oL 84 9 9 2,X 85 6,X 86 13,X 87 10,oB 88 .sub 86 87,oA 89 85 88 2,oL 90 89 89 2,r 91 96 [84,90],r 92 129 [83,91],oS 14 14 2 92]) .skip)) (rg [S 93 (.tra 12),oL 94 14 14 2,S 95 (.bls 1 [.bool false,.sl 0 []] [(0,2,.t 94)]),S 96 (.apd true 93 95 2 1048576),S 12 (.tra 96)])))) (rg [X 72 13,oI 73 .add 72 1,X 13 73]))
def U7:ICode := .seq (e [X 32 5,S 33 (.len 32),X 34 6,S 35 (.len 34),oB 36 .geq 33 35] (.cond 36 .skip (.exit 0))) (.block 1 (e [X 37 5,X 38 5,S 39 (.len 38),oI 40 .sub 39 1,oA 41 37 40 2,oL 42 41 41 2,S 9 (.new [.bool false,.sl 0 []] []),oS 9 9 2 42] (e [X 43 5,S 44 (.len 43),X 45 6,S 46 (.len 45),oB 47 .sub 44 46,X 10 47] (.seq (e [S 11 (.mov (ci 0))] (.block 2 (.loop On))) (e [S 63 (.cpy 8),X 64 10,oL 65 9 9 2,S 66 (.ixo 63 8 64 2),oS 66 8 2 65] (e [S 12 (.nlo 2)] (.seq (e [S 13 (.mov (ci 0))] (.block 4 (.loop Me))) (rg [S 97 (.frz 12),r 98 46 [97],X 5 98]))))))))
def U8:IFunc:=⟨2,103,[.tmp 4],e [S 4 (.nlo 2)] (e [X 15 0,r 16 46 [15],X 17 1,r 18 46 [17],X 5 16,X 6 18] (e [X 19 6,X 20 6,S 21 (.len 20),oI 22 .sub 21 1,oA 23 19 22 2,oL 24 23 23 2,S 7 (.new [.bool false,.sl 0 []] []),oS 7 7 2 24] (e [X 25 5,S 26 (.len 25),X 27 6,S 28 (.len 27),oB 29 .sub 26 28,oI 30 .add 29 1,S 31 (.mks [.bool false,.sl 0 []] 30),⟨some 8,.tra 31,none,[49,54,56,58,62,63,66]⟩] (.seq (.block 0 (.loop U7)) (e [S 99 (.frz 8),r 100 46 [99],r 101 86 [100],S 102 (.clo 120 [101]),S 4 (.tra 102)] .ret)))))⟩
def Aha:List (Nat × Nat):=[(49,8),(54,8),(56,8),(58,8),(62,8),(63,8),(66,8)]
theorem sZ:AR c Aha Tryz.f123 U8=true:=by kernel_rfl
def YG:IFunc:=⟨2,61,[.tmp 4],e [S 2 (.box 0 [12,24,26,46]),S 3 (.box 1 [20,28,33,35,40,48]),S 4 (.mov (cb false))] (.seq (.block 0 (e [oL 9 2 2 7,r 10 125 [9],X 8 10] (.cond 8 (e [oL 11 3 3 7,S 12 (.adr 2 2 1),oL 13 12 2 3,r 14 76 [11,13],oI 15 .eql 14 0,X 4 15] .ret) (e [oL 17 3 3 7,r 18 125 [17],X 16 18] (.cond 16 (e [oL 19 2 2 7,S 20 (.adr 3 3 1),oL 21 20 3 3,r 22 76 [19,21],oI 23 .eql 22 0,X 4 23] .ret) .skip))))) (.seq (.region true [S 24 (.adr 2 2 1),oL 25 24 2 3,S 26 (.adr 2 2 4),oL 27 26 2 3,S 5 (.new [.bool false,.sl 0 [],.int .i64 0] []),S 6 (.new [.bool false,.sl 0 [],.int .i64 0] []),oS 5 5 3 25,oS 6 6 3 27]) (.seq (e [S 28 (.adr 3 3 1),oL 29 28 3 3,oL 30 5 5 3,r 31 55 [29,30],oI 32 .gtr 31 0] (.cond 32 (rg [S 33 (.adr 3 3 1),oL 34 33 3 3,oS 5 5 3 34]) .skip)) (.seq (e [S 35 (.adr 3 3 4),oL 36 35 3 3,oL 37 6 6 3,r 38 55 [36,37],oI 39 .lss 38 0] (.cond 39 (rg [S 40 (.adr 3 3 4),oL 41 40 3 3,oS 6 6 3 41]) .skip)) (.seq (e [oL 42 5 5 3,oL 43 6 6 3,r 44 55 [42,43],oI 45 .geq 44 0] (.cond 45 (e [S 4 (.mov (cb false))] .ret) .skip)) (e [S 46 (.adr 2 2 0),S 47 (.ld 46 2 1 true),S 48 (.adr 3 3 0),S 49 (.ld 48 3 1 true),r 50 135 [47,49],X 7 50] (e [X 51 7,S 52 (.len 51),oI 53 .gtr 52 1,X 54 53,x 55 (.mov 7) 54 true,x 56 (.ld 5 5 3 false) 54 true,x 57 (.ld 6 6 3 false) 54 true,x 58 (.call 136 [55,56,57]) 54 true,x 59 (.bin .gtr 58 (ci 0)) 54 true,S 60 (.pick 54 59 (cb false)),X 4 60] .ret)))))))⟩
def Ahb:List (Nat × Nat):=[(12,2),(20,3),(24,2),(26,2),(28,3),(33,3),(35,3),(40,3),(46,2),(48,3)]
theorem tA:AR c Ahb Tryz.f124 YG=true:=by kernel_rfl
def U9:IFunc:=⟨1,9,[.tmp 2],e [S 1 (.box 0 [3,5]),S 2 (.mov (cb false))] (e [S 3 (.adr 1 1 1),oL 4 3 1 3,S 5 (.adr 1 1 4),oL 6 5 1 3,r 7 55 [4,6],oI 8 .eql 7 0,X 2 8] .ret)⟩
def Ahc:List (Nat × Nat):=[(3,1),(5,1)]
theorem tB:AR c Ahc Tryz.f125 U9=true:=by kernel_rfl
def R4:IFunc:=⟨2,23,[.cell 4 2 false],e [S 2 (.box 0 [6,9,12,16,18]),S 4 (.new [.bool false,.sl 0 []] [])] (.seq (e [X 5 1,S 6 (.adr 2 2 2),S 7 (.ld 6 2 1 true),oB 8 .geq 5 7] (.cond 8 (e [S 9 (.adr 2 2 0),oL 10 9 2 2,X 11 1,S 12 (.adr 2 2 2),S 13 (.ld 12 2 1 true),oB 14 .sub 11 13,r 15 104 [10,14],oS 4 4 2 15] .ret) .skip)) (e [S 16 (.adr 2 2 0),oL 17 16 2 2,S 18 (.adr 2 2 2),S 19 (.ld 18 2 1 true),X 20 1,oB 21 .sub 19 20,r 22 163 [17,21],oS 4 4 2 22] .ret))⟩
def Ahd:List (Nat × Nat):=[(6,2),(9,2),(12,2),(16,2),(18,2)]
theorem tC:AR c Ahd Tryz.f126 R4=true:=by kernel_rfl
def YH:IFunc:=⟨2,25,[.cell 4 2 false],e [S 2 (.box 0 []),S 3 (.box 1 []),S 4 (.new [.bool false,.sl 0 []] [])] (e [oL 10 2 2 2,r 11 143 [10],X 9 11,oE 12 9 0,oE 13 9 1,X 5 12,X 6 13] (e [oL 15 3 3 2,r 16 143 [15],X 14 16,oE 17 14 0,oE 18 14 1,X 7 17,X 8 18] (e [X 19 5,X 20 6,X 21 7,S 22 (.un .not 21),X 23 8,r 24 154 [19,20,22,23],oS 4 4 2 24] .ret)))⟩
def Ahe:List (Nat × Nat):=[]
theorem tD:AR c Ahe Tryz.f127 YH=true:=by kernel_rfl
def Ga:ICode := .seq (e [X 16 8,X 17 5,S 18 (.len 17),oB 19 .lss 16 18,X 20 19,x 21 (.mov 8) 20 true,x 22 (.mov 1) 20 true,x 23 (.bin .quo 22 (ci 32)) 20 true,x 24 (.bin .lss 21 23) 20 true,S 25 (.pick 20 24 (cb false))] (.cond 25 .skip (.exit 0))) (.seq (.block 1 (rg [X 28 7,X 29 28,x 30 (.mov 5) 29 false,x 31 (.mov 8) 29 false,x 32 (.ixa 30 31 1) 29 false,x 33 (.ld 32 32 1 true) 29 false,x 34 (.bin .neq 33 (.c (.int .u32 0))) 29 false,S 35 (.pick 29 (cb true) 34),X 7 35])) (rg [X 26 8,oI 27 .add 26 1,X 8 27]))
def FD:ICode := .seq (e [X 41 10,X 42 5,S 43 (.len 42),oB 44 .lss 41 43] (.cond 44 .skip (.exit 2))) (.seq (.block 3 (e [X 47 5,X 48 10,oA 49 47 48 1,S 50 (.ld 49 49 1 true),S 51 (.cv .u64 50),X 11 51] (.seq (e [X 52 10,oI 53 .add 52 1,X 54 5,S 55 (.len 54),oB 56 .lss 53 55] (.cond 56 (rg [X 57 11,X 58 5,X 59 10,oI 60 .add 59 1,oA 61 58 60 1,S 62 (.ld 61 61 1 true),S 63 (.cv .u64 62),S 64 (.bin .shl 63 (.c (.int .u64 32))),oB 65 .or 57 64,X 11 65]) .skip)) (rg [S 66 (.tra 6),X 67 11,X 68 9,oB 69 .shr 67 68,S 70 (.cv .u32 69),S 71 (.bls 1 [.int .u32 0] [(0,1,.t 70)]),S 72 (.apd true 66 71 1 35184372088832),S 6 (.tra 72)])))) (rg [X 45 10,oI 46 .add 45 1,X 10 46]))
def Jc:IFunc:=⟨2,104,[.cell 4 2 false],e [S 2 (.box 0 [13,91,95]),S 4 (.new [.bool false,.sl 0 []] [])] (e [S 13 (.adr 2 2 1),S 14 (.ld 13 2 1 true),r 15 99 [14],X 5 15] (e [S 6 (.nlo 1)] (e [S 7 (.mov (cb false))] (.seq (e [S 8 (.mov (ci 0))] (.block 0 (.loop Ga))) (e [X 36 1,oI 37 .rem 36 32,S 38 (.cv .u64 37),X 9 38] (.seq (e [X 39 1,oI 40 .quo 39 32,X 10 40] (.block 2 (.loop FD))) (.seq (e [X 73 1,oI 74 .quo 73 32,X 75 5,S 76 (.len 75),oB 77 .lss 74 76] (.cond 77 (rg [X 78 7,X 79 78,x 80 (.mov 5) 79 false,x 81 (.mov 1) 79 false,x 82 (.bin .quo 81 (ci 32)) 79 false,x 83 (.ixa 80 82 1) 79 false,x 84 (.ld 83 83 1 true) 79 false,x 85 (.mov 9) 79 false,x 86 (.bin .shl (.c (.int .u32 1)) 85) 79 false,x 87 (.bin .sub 86 (.c (.int .u32 1))) 79 false,x 88 (.bin .and 84 87) 79 false,x 89 (.bin .neq 88 (.c (.int .u32 0))) 79 false,S 90 (.pick 79 (cb true) 89),X 7 90]) .skip)) (e [S 91 (.adr 2 2 0),S 92 (.ld 91 2 1 true),S 93 (.frz 6),r 94 98 [92,93],S 12 (.new [.bool false,.sl 0 []] []),oS 12 12 2 94] (.seq (e [S 95 (.adr 2 2 0),S 96 (.ld 95 2 1 true),X 97 96,x 98 (.mov 7) 97 true,S 99 (.pick 97 98 (cb false))] (.cond 99 (.seq (.region true [oL 100 12 12 2,S 101 (.call 49 [.c (.int .i64 1)]),r 102 129 [100,101],oS 4 4 2 102]) .ret) .skip)) (e [oL 103 12 12 2,oS 4 4 2 103] .ret))))))))))⟩
def Ahf:List (Nat × Nat):=[(13,2),(91,2),(95,2)]
theorem tE:AR c Ahf Tryz.f128 Jc=true:=by kernel_rfl
def UA:IFunc:=⟨2,9,[.cell 4 2 false],e [S 2 (.box 0 []),S 3 (.box 1 []),S 4 (.new [.bool false,.sl 0 []] [])] (.seq (.region true [oL 5 2 2 2,oL 6 3 3 2,r 7 161 [6],r 8 95 [5,7],oS 4 4 2 8]) .ret)⟩
def Ahg:List (Nat × Nat):=[]
theorem tF:AR c Ahg Tryz.f129 UA=true:=by kernel_rfl
def R5:ICode := .seq (e [X 13 5,X 14 1,oB 15 .lss 13 14,X 16 15,x 17 (.adr 2 2 1) 16 true,x 18 (.ld 17 2 1 true) 16 true,x 19 (.mov 5) 16 true,x 20 (.bin .quo 19 (ci 32)) 16 true,x 21 (.ixa 18 20 1) 16 true,x 22 (.ld 21 21 1 true) 16 true,x 23 (.mov 5) 16 true,x 24 (.bin .rem 23 (ci 32)) 16 true,x 25 (.cv .u64 24) 16 true,x 26 (.bin .shr 22 25) 16 true,x 27 (.bin .and 26 (.c (.int .u32 1))) 16 true,x 28 (.bin .eql 27 (.c (.int .u32 0))) 16 true,S 29 (.pick 16 28 (cb false))] (.cond 29 .skip (.exit 0))) (.block 1 (rg [X 30 5,oI 31 .add 30 1,X 5 31]))
def R6:IFunc:=⟨2,39,[.cell 4 3 false],e [S 2 (.box 0 [8,17]),S 4 (.new [.bool false,.sl 0 [],.int .i64 0] [])] (e [oL 6 2 2 2,r 7 113 [6],oS 2 2 2 7] (.seq (e [S 8 (.adr 2 2 1),S 9 (.ld 8 2 1 true),S 10 (.len 9),oI 11 .eql 10 0] (.cond 11 (e [S 12 (.bld [.bool false,.sl 0 [],.int .i64 0] []),oS 4 4 3 12] .ret) .skip)) (e [S 5 (.mov (ci 0))] (.seq (.block 0 (.loop R5)) (e [oL 32 2 2 2,X 33 5,r 34 163 [32,33],X 35 1,X 36 5,oB 37 .sub 35 36,S 38 (.bld [.bool false,.sl 0 [],.int .i64 0] [(0,2,.t 34),(2,1,.t 37)]),oS 4 4 3 38] .ret)))))⟩
def Ahh:List (Nat × Nat):=[(8,2),(17,2)]
theorem tH:AR c Ahh Tryz.f130 R6=true:=by kernel_rfl
def YI:IFunc:=⟨1,15,[.cell 2 2 false],e [S 1 (.box 0 []),S 2 (.new [.bool false,.sl 0 []] [])] (e [oL 6 1 1 2,r 7 143 [6],X 5 7,oE 8 5 0,oE 9 5 1,X 3 8,X 4 9] (e [X 10 3,S 11 (.un .not 10),X 12 4,S 13 (.apd false (.c (.nil)) 12 1 35184372088832),r 14 152 [11,13],oS 2 2 2 14] .ret))⟩
def Ahi:List (Nat × Nat):=[]
theorem tI:AR c Ahi Tryz.f131 YI=true:=by kernel_rfl
def YJ:IFunc:=⟨1,19,[.cell 2 2 false],e [S 2 (.new [.bool false,.sl 0 []] [])] (e [X 4 0,S 5 (.cv .u64 4),X 3 5] (.seq (e [X 6 0,oI 7 .lss 6 0] (.cond 7 (rg [X 8 3,S 9 (.un .neg 8),X 3 9]) .skip)) (e [X 10 0,oI 11 .lss 10 0,X 12 3,S 13 (.cv .u32 12),X 14 3,S 15 (.bin .shr 14 (.c (.int .u64 32))),S 16 (.cv .u32 15),S 17 (.bls 2 [.int .u32 0,.int .u32 0] [(0,1,.t 13),(1,1,.t 16)]),r 18 152 [11,17],oS 2 2 2 18] .ret)))⟩
def Ahj:List (Nat × Nat):=[]
theorem tJ:AR c Ahj Tryz.f132 YJ=true:=by kernel_rfl
def UB:IFunc:=⟨2,29,[.cell 4 3 false],e [S 2 (.box 0 [6,11,14]),S 3 (.box 1 [8,18,21]),S 4 (.new [.bool false,.sl 0 [],.int .i64 0] [])] (e [S 6 (.adr 2 2 2),S 7 (.ld 6 2 1 true),S 8 (.adr 3 3 2),S 9 (.ld 8 3 1 true),S 10 (.mx [7,9]),X 5 10] (.seq (.region true [S 11 (.adr 2 2 0),oL 12 11 2 2,X 13 5,S 14 (.adr 2 2 2),S 15 (.ld 14 2 1 true),oB 16 .sub 13 15,r 17 104 [12,16],S 18 (.adr 3 3 0),oL 19 18 3 2,X 20 5,S 21 (.adr 3 3 2),S 22 (.ld 21 3 1 true),oB 23 .sub 20 22,r 24 104 [19,23],r 25 111 [17,24],X 26 5,oI 27 .add 26 1,r 28 130 [25,27],oS 4 4 3 28]) .ret))⟩
def Ahk:List (Nat × Nat):=[(6,2),(8,3),(11,2),(14,2),(18,3),(21,3)]
theorem tK:AR c Ahk Tryz.f133 UB=true:=by kernel_rfl
def Mf:ICode := .seq (e [X 19 5,oI 20 .geq 19 0] (.cond 20 .skip (.exit 0))) (.seq (.block 1 (.seq (.region true [X 23 0,X 24 5,oA 25 23 24 1,S 26 (.ld 25 25 1 true),X 27 1,X 28 5,oA 29 27 28 1,S 30 (.ld 29 29 1 true),oB 31 .neq 26 30]) (.cond 31 (.seq (.seq (.region true [X 32 0,X 33 5,oA 34 32 33 1,S 35 (.ld 34 34 1 true),X 36 1,X 37 5,oA 38 36 37 1,S 39 (.ld 38 38 1 true),oB 40 .lss 35 39]) (.cond 40 (e [S 4 (.mov (ci (-1)))] .ret) .skip)) (e [S 4 (.mov (ci 1))] .ret)) .skip))) (rg [X 21 5,oI 22 .sub 21 1,X 5 22]))
def R7:IFunc:=⟨2,41,[.tmp 4],e [S 4 (.mov (ci 0))] (.seq (e [X 6 0,S 7 (.len 6),X 8 1,S 9 (.len 8),oB 10 .neq 7 9] (.cond 10 (.seq (e [X 11 0,S 12 (.len 11),X 13 1,S 14 (.len 13),oB 15 .lss 12 14] (.cond 15 (e [S 4 (.mov (ci (-1)))] .ret) .skip)) (e [S 4 (.mov (ci 1))] .ret)) .skip)) (.seq (e [X 16 0,S 17 (.len 16),oI 18 .sub 17 1,X 5 18] (.block 0 (.loop Mf))) (e [S 4 (.mov (ci 0))] .ret)))⟩
def Ahl:List (Nat × Nat):=[]
theorem tL:AR c Ahl Tryz.f134 R7=true:=by kernel_rfl
def Py:ICode := .seq (e [X 11 6,S 12 (.len 11),oI 13 .gtr 12 0] (.cond 13 .skip (.exit 0))) (.block 1 (rg [X 14 6,X 15 5,X 16 6,r 17 118 [15,16],X 5 14,X 6 17]))
def R8:IFunc:=⟨2,20,[.tmp 4],e [S 4 (.nlo 2)] (e [X 7 0,r 8 115 [7],X 9 1,r 10 115 [9],X 5 8,X 6 10] (.seq (.block 0 (.loop Py)) (e [X 18 5,S 19 (.clo 155 [18]),S 4 (.tra 19)] .ret)))⟩
def Ahm:List (Nat × Nat):=[]
theorem tM:AR c Ahm Tryz.f135 R8=true:=by kernel_rfl
def YK:IFunc:=⟨3,17,[.tmp 6],e [S 4 (.box 1 []),S 5 (.box 2 []),S 6 (.mov (ci 0))] (e [X 8 0,r 9 67 [8],X 7 9] (.seq (.region true [X 10 7,oL 11 4 4 3,r 12 68 [10,11],X 13 7,oL 14 5 5 3,r 15 68 [13,14],oB 16 .sub 12 15,X 6 16]) .ret))⟩
def Ahn:List (Nat × Nat):=[]
theorem tN:AR c Ahn Tryz.f136 YK=true:=by kernel_rfl
def UC:ICode := .seq (e [X 6 4,X 7 0,S 8 (.len 7),oB 9 .lss 6 8] (.cond 9 .skip (.exit 0))) (.seq (.block 1 (.region true [oL 12 3 3 2,X 13 0,X 14 4,oA 15 13 14 2,oL 16 15 15 2,r 17 164 [12,16],oS 3 3 2 17])) (rg [X 10 4,oI 11 .add 10 1,X 4 11]))
def UD:IFunc:=⟨1,19,[.cell 2 2 false],e [S 2 (.new [.bool false,.sl 0 []] [])] (e [S 5 (.bld [.bool false,.sl 0 []] []),S 3 (.new [.bool false,.sl 0 []] []),oS 3 3 2 5] (.seq (e [S 4 (.mov (ci 0))] (.block 0 (.loop UC))) (e [oL 18 3 3 2,oS 2 2 2 18] .ret)))⟩
def Aho:List (Nat × Nat):=[]
theorem tP:AR c Aho Tryz.f137 UD=true:=by kernel_rfl
def UE:IFunc:=⟨2,29,[.cell 4 2 false,.cell 5 2 false],e [S 2 (.box 0 [9,18,25]),S 3 (.box 1 [12,20]),S 4 (.new [.bool false,.sl 0 []] []),S 5 (.new [.bool false,.sl 0 []] [])] (.seq (.region true [S 9 (.adr 2 2 1),S 10 (.ld 9 2 1 true),r 11 99 [10],S 12 (.adr 3 3 1),S 13 (.ld 12 3 1 true),r 14 99 [13],r 15 165 [11,14],X 8 15,oE 16 8 0,oE 17 8 1,X 6 16,X 7 17]) (.seq (.region true [S 18 (.adr 2 2 0),S 19 (.ld 18 2 1 true),S 20 (.adr 3 3 0),S 21 (.ld 20 3 1 true),S 22 (.eqb true 19 21),X 23 6,r 24 98 [22,23],S 25 (.adr 2 2 0),S 26 (.ld 25 2 1 true),X 27 7,r 28 98 [26,27],oS 4 4 2 24,oS 5 5 2 28]) .ret))⟩
def Ahp:List (Nat × Nat):=[(9,2),(12,3),(18,2),(20,3),(25,2)]
theorem tQ:AR c Ahp Tryz.f138 UE=true:=by kernel_rfl
def Pz:ICode := .seq (e [X 8 4,oI 9 .gtr 8 0,X 10 9,x 11 (.adr 1 1 1) 10 true,x 12 (.ld 11 1 1 true) 10 true,x 13 (.mov 4) 10 true,x 14 (.bin .sub 13 (ci 1)) 10 true,x 15 (.ixa 12 14 1) 10 true,x 16 (.ld 15 15 1 true) 10 true,x 17 (.bin .eql 16 (.c (.int .u32 0))) 10 true,S 18 (.pick 10 17 (cb false))] (.cond 18 .skip (.exit 0))) (.block 1 (rg [X 19 4,oI 20 .sub 19 1,X 4 20]))
def R9:IFunc:=⟨1,31,[.tmp 2,.tmp 3],e [S 1 (.box 0 [5,11,21,27]),S 2 (.mov (cb false)),S 3 (.nlo 1)] (e [S 5 (.adr 1 1 1),S 6 (.ld 5 1 1 true),S 7 (.len 6),X 4 7] (.seq (.block 0 (.loop Pz)) (.seq (.region true [S 21 (.adr 1 1 0),S 22 (.ld 21 1 1 true),X 23 22,x 24 (.mov 4) 23 true,x 25 (.bin .gtr 24 (ci 0)) 23 true,S 26 (.pick 23 25 (cb false)),S 27 (.adr 1 1 1),S 28 (.ld 27 1 1 true),X 29 4,S 30 (.sli 28 none (some 29) none 1),X 2 26,S 3 (.tra 30)]) .ret)))⟩
def Ahq:List (Nat × Nat):=[(5,1),(11,1),(21,1),(27,1)]
theorem tR:AR c Ahq Tryz.f143 R9=true:=by kernel_rfl
def Mg:ICode := .seq (e [X 8 7,X 9 0,S 10 (.len 9),oB 11 .lss 8 10,X 12 11,x 13 (.mov 7) 12 false,x 14 (.mov 1) 12 false,x 15 (.len 14) 12 false,x 16 (.bin .lss 13 15) 12 false,S 17 (.pick 12 (cb true) 16),X 18 17,x 19 (.mov 6) 18 false,x 20 (.bin .gtr 19 (.c (.int .u64 0))) 18 false,S 21 (.pick 18 (cb true) 20)] (.cond 21 .skip (.exit 0))) (.seq (.block 1 (.seq (e [X 24 7,X 25 0,S 26 (.len 25),oB 27 .lss 24 26] (.cond 27 (rg [X 28 6,X 29 0,X 30 7,oA 31 29 30 1,S 32 (.ld 31 31 1 true),S 33 (.cv .u64 32),oB 34 .add 28 33,X 6 34]) .skip)) (.seq (e [X 35 7,X 36 1,S 37 (.len 36),oB 38 .lss 35 37] (.cond 38 (rg [X 39 6,X 40 1,X 41 7,oA 42 40 41 1,S 43 (.ld 42 42 1 true),S 44 (.cv .u64 43),oB 45 .add 39 44,X 6 45]) .skip)) (e [S 46 (.tra 5),X 47 6,S 48 (.cv .u32 47),S 49 (.bls 1 [.int .u32 0] [(0,1,.t 48)]),S 50 (.apd true 46 49 1 35184372088832),S 5 (.tra 50)] (rg [X 51 6,S 52 (.bin .shr 51 (.c (.int .u64 32))),X 6 52]))))) (rg [X 22 7,oI 23 .add 22 1,X 7 23]))
def UF:IFunc:=⟨2,54,[.tmp 4],e [S 4 (.nlo 1)] (e [S 5 (.nlo 1)] (e [S 6 (.mov (.c (.int .u64 0)))] (.seq (e [S 7 (.mov (ci 0))] (.block 0 (.loop Mg))) (e [S 53 (.tra 5),S 4 (.tra 53)] .ret))))⟩
def Ahr:List (Nat × Nat):=[]
theorem tS:AR c Ahr Tryz.f144 UF=true:=by kernel_rfl
def P0:ICode := .seq (e [X 10 7,X 11 0,S 12 (.len 11),oB 13 .lss 10 12] (.cond 13 .skip (.exit 0))) (.seq (.block 1 (e [S 8 (.mov (.c (.int .u64 0)))] (.seq (e [X 16 7,X 17 1,S 18 (.len 17),oB 19 .lss 16 18] (.cond 19 (rg [X 20 1,X 21 7,oA 22 20 21 1,S 23 (.ld 22 22 1 true),S 24 (.cv .u64 23),X 8 24]) .skip)) (e [X 25 0,X 26 7,oA 27 25 26 1,S 28 (.ld 27 27 1 true),S 29 (.cv .u64 28),X 30 8,oB 31 .sub 29 30,X 32 6,oB 33 .sub 31 32,X 9 33] (e [S 34 (.tra 5),X 35 9,S 36 (.cv .u32 35),S 37 (.bls 1 [.int .u32 0] [(0,1,.t 36)]),S 38 (.apd true 34 37 1 35184372088832),S 5 (.tra 38)] (rg [X 39 9,S 40 (.bin .shr 39 (.c (.int .u64 63))),X 6 40])))))) (rg [X 14 7,oI 15 .add 14 1,X 7 15]))
def UG:IFunc:=⟨2,42,[.tmp 4],e [S 4 (.nlo 1)] (e [S 5 (.nlo 1)] (e [S 6 (.mov (.c (.int .u64 0)))] (.seq (e [S 7 (.mov (ci 0))] (.block 0 (.loop P0))) (e [S 41 (.tra 5),S 4 (.tra 41)] .ret))))⟩
def Ahs:List (Nat × Nat):=[]
theorem tT:AR c Ahs Tryz.f145 UG=true:=by kernel_rfl
def Qv:ICode := .seq (e [X 21 8,X 22 1,S 23 (.len 22),oB 24 .lss 21 23] (.cond 24 .skip (.exit 2))) (.seq (.block 3 (.seq (.region true [X 27 7,S 28 (.cpy 5),X 29 6,X 30 8,oB 31 .add 29 30,S 32 (.ixo 28 5 31 1),S 33 (.ld 32 5 1 true),S 34 (.cv .u64 33),X 35 0,X 36 6,oA 37 35 36 1,S 38 (.ld 37 37 1 true),S 39 (.cv .u64 38),X 40 1,X 41 8,oA 42 40 41 1,S 43 (.ld 42 42 1 true),S 44 (.cv .u64 43),oB 45 .mul 39 44,oB 46 .add 34 45,oB 47 .add 27 46,X 7 47]) (e [S 48 (.cpy 5),X 49 6,X 50 8,oB 51 .add 49 50,X 52 7,S 53 (.cv .u32 52),S 54 (.ixo 48 5 51 1),oS 54 5 1 53] (rg [X 55 7,S 56 (.bin .shr 55 (.c (.int .u64 32))),X 7 56])))) (rg [X 25 8,oI 26 .add 25 1,X 8 26]))
def Qw:ICode := .seq (e [X 15 6,X 16 0,S 17 (.len 16),oB 18 .lss 15 17] (.cond 18 .skip (.exit 0))) (.seq (.block 1 (e [S 7 (.mov (.c (.int .u64 0)))] (.seq (e [S 8 (.mov (ci 0))] (.block 2 (.loop Qv))) (rg [S 57 (.cpy 5),X 58 6,X 59 1,S 60 (.len 59),oB 61 .add 58 60,X 62 7,S 63 (.cv .u32 62),S 64 (.ixo 57 5 61 1),oS 64 5 1 63])))) (rg [X 19 6,oI 20 .add 19 1,X 6 20]))
def UH:IFunc:=⟨2,66,[.tmp 4],e [S 4 (.nlo 1)] (e [X 9 0,S 10 (.len 9),X 11 1,S 12 (.len 11),oB 13 .add 10 12,S 14 (.mks [.int .u32 0] 13),⟨some 5,.tra 14,none,[28,32,48,54,57,64]⟩] (.seq (e [S 6 (.mov (ci 0))] (.block 0 (.loop Qw))) (e [S 65 (.tra 5),S 4 (.tra 65)] .ret)))⟩
def Aht:List (Nat × Nat):=[(28,5),(32,5),(48,5),(54,5),(57,5),(64,5)]
theorem tU:AR c Aht Tryz.f146 UH=true:=by kernel_rfl
def HM:ICode := .seq (e [X 17 6,X 18 5,oB 19 .leq 17 18] (.cond 19 .skip (.exit 2))) (.seq (.block 3 (e [X 22 4,X 23 6,oA 24 22 23 2,oL 25 24 24 2,r 26 177 [25],oI 27 .gtr 26 256] (.cond 27 (e [S 2 (.mov (cb true))] .ret) .skip))) (rg [X 20 6,oI 21 .add 20 1,X 6 21]))
def qG:ICode:=e [oB 10 .lss 9 8] (.seq (.cond 10 .skip (.exit 0)) (.seq (.block 1 (e [oA 11 7 9 1,S 12 (.ld 11 11 1 true),X 4 12] (e [X 13 4,r 14 53 [13],X 5 14] (.seq (e [X 15 5,oI 16 .gtr 15 16] (.cond 16 (e [S 2 (.mov (cb true))] .ret) .skip)) (e [S 6 (.mov (ci 0))] (.block 2 (.loop HM))))))) (rg [oI 28 .add 9 1,X 9 28])))
def RA:IFunc:=⟨1,29,[.tmp 2],e [S 2 (.mov (cb false))] (.seq (e [X 7 0,S 8 (.len 7),S 9 (.mov (ci 0))] (.block 0 (.loop qG))) (e [S 2 (.mov (cb false))] .ret))⟩
def Ahu:List (Nat × Nat):=[]
theorem tV:AR c Ahu Tryz.f147 RA=true:=by kernel_rfl
def UI:IFunc:=⟨1,8,[.tmp 2,.tmp 3],e [S 2 (.nlo 2),S 3 (.mov (ci 0))] (.seq (e [X 4 0,S 5 (.bls 1 [.sl 0 []] [(0,1,.t 4)]),r 6 147 [5]] (.cond 6 (e [S 2 (.nlo 2),S 3 (.mov (ci 2))] .ret) .skip)) (e [X 7 0,S 2 (.tra 7),S 3 (.mov (ci 0))] .ret))⟩
def Ahv:List (Nat × Nat):=[]
theorem tW:AR c Ahv Tryz.f148 UI=true:=by kernel_rfl
def Nx:ICode:=e [oB 22 .lss 21 20] (.seq (.cond 22 .skip (.exit 0)) (.seq (.block 1 (e [X 23 21,X 8 23] (.seq (e [X 24 8,X 25 5,oB 26 .lss 24 25] (.cond 26 (rg [S 27 (.cpy 7),X 28 8,X 29 0,X 30 8,oA 31 29 30 2,oL 32 31 31 2,S 33 (.ixo 27 7 28 2),oS 33 7 2 32]) .skip)) (e [X 34 8,X 35 6,oB 36 .lss 34 35] (.cond 36 (.region true [S 37 (.cpy 7),X 38 8,S 39 (.cpy 7),X 40 8,S 41 (.ixo 39 7 40 2),oL 42 41 7 2,X 43 1,X 44 8,oA 45 43 44 2,oL 46 45 45 2,r 47 111 [42,46],S 48 (.ixo 37 7 38 2),oS 48 7 2 47]) .skip))))) (rg [oI 49 .add 21 1,X 21 49])))
def UJ:IFunc:=⟨2,52,[.tmp 4],e [S 4 (.nlo 2)] (e [X 9 0,r 10 53 [9],oI 11 .add 10 1,X 12 1,r 13 53 [12],oI 14 .add 13 1,X 5 11,X 6 14] (e [X 15 5,X 16 6,S 17 (.mx [15,16]),S 18 (.mks [.bool false,.sl 0 []] 17),⟨some 7,.tra 18,none,[19,27,33,37,39,41,48]⟩] (.seq (e [S 19 (.cpy 7),S 20 (.lno 19 7),S 21 (.mov (ci 0))] (.block 0 (.loop Nx))) (e [S 50 (.frz 7),S 51 (.clo 66 [50]),S 4 (.tra 51)] .ret))))⟩
def Ahw:List (Nat × Nat):=[(19,7),(27,7),(33,7),(37,7),(39,7),(41,7),(48,7)]
theorem tX:AR c Ahw Tryz.f149 UJ=true:=by kernel_rfl
def RB:List UInt8:=0::1::2::2::3::3::3::3::4::4::4::4::4::4::4::4::5::5::5::5::5::5::5::5::5::5::5::5::5::5::5::5::6::6::6::6::6::6::6::6::[]
def RC:List UInt8:=6::6::6::6::6::6::6::6::6::6::6::6::6::6::6::6::6::6::6::6::6::6::6::6::7::7::7::7::7::7::7::7::7::7::7::7::7::7::7::7::[]
def RD:List UInt8:=7::7::7::7::7::7::7::7::7::7::7::7::7::7::7::7::7::7::7::7::7::7::7::7::7::7::7::7::7::7::7::7::7::7::7::7::7::7::7::7::[]
def RE:List UInt8:=7::7::7::7::7::7::7::7::8::8::8::8::8::8::8::8::8::8::8::8::8::8::8::8::8::8::8::8::8::8::8::8::8::8::8::8::8::8::8::8::[]
def RF:List UInt8:=8::8::8::8::8::8::8::8::8::8::8::8::8::8::8::8::8::8::8::8::8::8::8::8::8::8::8::8::8::8::8::8::8::8::8::8::8::8::8::8::[]
def RG:List UInt8:=8::8::8::8::8::8::8::8::8::8::8::8::8::8::8::8::8::8::8::8::8::8::8::8::8::8::8::8::8::8::8::8::8::8::8::8::8::8::8::8::[]
def RH:List UInt8:=8::8::8::8::8::8::8::8::8::8::8::8::8::8::8::8::[]
def Ey:ByteArray:=⟨(RB++RC++RD++RE++RF++RG++RH).toArray⟩
def YL:IFunc:=⟨1,19,[.tmp 2],e [S 2 (.mov (ci 0))] (.seq (e [X 3 0,S 4 (.bin .geq 3 (.c (.int .u32 65536)))] (.cond 4 (e [X 5 0,S 6 (.bin .shr 5 (.c (.int .u64 16))),X 0 6] (rg [S 2 (.mov (ci 16))])) .skip)) (.seq (e [X 7 0,S 8 (.bin .geq 7 (.c (.int .u32 256)))] (.cond 8 (e [X 9 0,S 10 (.bin .shr 9 (.c (.int .u64 8))),X 0 10] (rg [X 11 2,oI 12 .add 11 8,X 2 12])) .skip)) (e [X 13 2,X 14 0,S 15 (.cv .u8 14),S 16 (.six (.c (.str Ey)) 15),S 17 (.cv .i64 16),oB 18 .add 13 17,X 2 18] .ret)))⟩
def Ahx:List (Nat × Nat):=[]
theorem tY:AR c Ahx Tryz.f150 YL=true:=by kernel_rfl
def Mh:ICode := .seq (e [X 19 5,oI 20 .geq 19 0] (.cond 20 .skip (.exit 0))) (.seq (.block 1 (.seq (.region true [X 23 0,X 24 5,oA 25 23 24 1,S 26 (.ld 25 25 1 true),X 27 1,X 28 5,oA 29 27 28 1,S 30 (.ld 29 29 1 true),oB 31 .neq 26 30]) (.cond 31 (.seq (.seq (.region true [X 32 0,X 33 5,oA 34 32 33 1,S 35 (.ld 34 34 1 true),X 36 1,X 37 5,oA 38 36 37 1,S 39 (.ld 38 38 1 true),oB 40 .lss 35 39]) (.cond 40 (e [S 4 (.mov (ci (-1)))] .ret) .skip)) (e [S 4 (.mov (ci 1))] .ret)) .skip))) (rg [X 21 5,oI 22 .sub 21 1,X 5 22]))
def RI:IFunc:=⟨2,41,[.tmp 4],e [S 4 (.mov (ci 0))] (.seq (e [X 6 0,S 7 (.len 6),X 8 1,S 9 (.len 8),oB 10 .neq 7 9] (.cond 10 (.seq (e [X 11 0,S 12 (.len 11),X 13 1,S 14 (.len 13),oB 15 .lss 12 14] (.cond 15 (e [S 4 (.mov (ci (-1)))] .ret) .skip)) (e [S 4 (.mov (ci 1))] .ret)) .skip)) (.seq (e [X 16 0,S 17 (.len 16),oI 18 .sub 17 1,X 5 18] (.block 0 (.loop Mh))) (e [S 4 (.mov (ci 0))] .ret)))⟩
def Ahy:List (Nat × Nat):=[]
theorem tZ:AR c Ahy Tryz.f151 RI=true:=by kernel_rfl
def P1:ICode := .seq (e [X 8 5,oI 9 .gtr 8 0,X 10 9,x 11 (.mov 1) 10 true,x 12 (.mov 5) 10 true,x 13 (.bin .sub 12 (ci 1)) 10 true,x 14 (.ixa 11 13 1) 10 true,x 15 (.ld 14 14 1 true) 10 true,x 16 (.bin .eql 15 (.c (.int .u32 0))) 10 true,S 17 (.pick 10 16 (cb false))] (.cond 17 .skip (.exit 0))) (.block 1 (rg [X 18 5,oI 19 .sub 18 1,X 5 19]))
def RJ:IFunc:=⟨2,29,[.cell 4 2 false],e [S 4 (.new [.bool false,.sl 0 []] [])] (e [X 6 1,S 7 (.len 6),X 5 7] (.seq (.block 0 (.loop P1)) (.seq (e [X 20 5,oI 21 .eql 20 0] (.cond 21 (e [S 22 (.bld [.bool false,.sl 0 []] []),oS 4 4 2 22] .ret) .skip)) (e [X 23 0,X 24 1,X 25 5,X 26 5,S 27 (.sli 24 none (some 25) (some 26) 1),S 28 (.bld [.bool false,.sl 0 []] [(0,1,.t 23),(1,1,.t 27)]),oS 4 4 2 28] .ret))))⟩
def Ahz:List (Nat × Nat):=[]
theorem uA:AR c Ahz Tryz.f152 RJ=true:=by kernel_rfl
def UK:ICode := .seq (e [X 5 4,X 6 0,S 7 (.len 6),oB 8 .lss 5 7] (.cond 8 .skip (.exit 0))) (.seq (.block 1 (rg [S 11 (.tra 3),X 12 0,X 13 4,oA 14 12 13 2,oL 15 14 14 2,r 16 161 [15],S 17 (.bls 1 [.bool false,.sl 0 []] [(0,2,.t 16)]),S 18 (.apd true 11 17 2 1048576),S 3 (.tra 18)])) (rg [X 9 4,oI 10 .add 9 1,X 4 10]))
def UL:IFunc:=⟨1,21,[.tmp 2],e [S 2 (.nlo 2)] (e [S 3 (.nlo 2)] (.seq (e [S 4 (.mov (ci 0))] (.block 0 (.loop UK))) (e [S 19 (.frz 3),S 20 (.clo 46 [19]),S 2 (.tra 20)] .ret)))⟩
def Aia:List (Nat × Nat):=[]
theorem uB:AR c Aia Tryz.f153 UL=true:=by kernel_rfl
def YM:IFunc:=⟨4,31,[.cell 8 2 false],e [S 8 (.new [.bool false,.sl 0 []] [])] (.seq (e [X 9 0,X 10 2,S 11 (.eqb false 9 10)] (.cond 11 (e [X 12 0,X 13 1,X 14 3,r 15 178 [13,14],r 16 152 [12,15],oS 8 8 2 16] .ret) .skip)) (.seq (e [X 17 1,X 18 3,r 19 151 [17,18],oI 20 .geq 19 0] (.cond 20 (e [X 21 0,X 22 1,X 23 3,r 24 179 [22,23],r 25 152 [21,24],oS 8 8 2 25] .ret) .skip)) (e [X 26 2,X 27 3,X 28 1,r 29 179 [27,28],r 30 152 [26,29],oS 8 8 2 30] .ret)))⟩
def Aib:List (Nat × Nat):=[]
theorem uC:AR c Aib Tryz.f154 YM=true:=by kernel_rfl
def P2:IFunc:=⟨1,20,[.tmp 2],e [S 2 (.nlo 2)] (.seq (e [X 4 0,S 5 (.len 4),X 3 5] (e [X 6 3,oI 7 .gtr 6 0,X 8 7,x 9 (.mov 0) 8 true,x 10 (.mov 3) 8 true,x 11 (.bin .sub 10 (ci 1)) 8 true,x 12 (.ixa 9 11 2) 8 true,x 13 (.ld 12 12 2 false) 8 true,x 14 (.call 101 [13]) 8 true,x 15 (.bin .lss 14 (ci 0)) 8 true,S 16 (.pick 8 15 (cb false))] (.cond 16 (e [X 17 0,S 18 (.clo 117 [17]),S 2 (.tra 18)] .ret) .skip))) (e [X 19 0,S 2 (.tra 19)] .ret))⟩
def Aic:List (Nat × Nat):=[]
theorem uD:AR c Aic Tryz.f155 P2=true:=by kernel_rfl
def Oo:ICode:=e [oB 46 .lss 45 44] (.seq (.cond 46 .skip (.exit 2)) (.seq (.block 3 (e [X 47 45,X 10 47] (.region true [S 48 (.cpy 5),X 49 10,S 50 (.cpy 5),X 51 10,S 52 (.ixo 50 5 51 2),oL 53 52 5 2,oL 54 6 6 2,r 55 112 [53,54],S 56 (.ixo 48 5 49 2),oS 56 5 2 55]))) (rg [oI 57 .add 45 1,X 45 57])))
def Oq:ICode:=e [oB 61 .lss 60 59] (.seq (.cond 61 .skip (.exit 4)) (.seq (.block 5 (e [X 62 60,X 11 62] (.region true [S 63 (.cpy 7),X 64 11,S 65 (.cpy 7),X 66 11,S 67 (.ixo 65 7 66 2),oL 68 67 7 2,oL 69 6 6 2,r 70 112 [68,69],S 71 (.ixo 63 7 64 2),oS 71 7 2 70]))) (rg [oI 72 .add 60 1,X 60 72])))
def Ot:ICode:=e [oB 80 .lss 79 78] (.seq (.cond 80 .skip (.exit 6)) (.seq (.block 7 (e [X 81 79,X 12 81] (.region true [S 82 (.cpy 5),X 83 8,X 84 12,oB 85 .add 83 84,S 86 (.cpy 5),X 87 8,X 88 12,oB 89 .add 87 88,S 90 (.ixo 86 5 89 2),oL 91 90 5 2,oL 92 9 9 2,X 93 1,X 94 12,oA 95 93 94 2,oL 96 95 95 2,r 97 112 [92,96],r 98 127 [91,97],S 99 (.ixo 82 5 85 2),oS 99 5 2 98]))) (rg [oI 100 .add 79 1,X 79 100])))
def UM:ICode := .seq (e [X 31 8,oI 32 .geq 31 0] (.cond 32 .skip (.exit 0))) (.seq (.block 1 (e [S 35 (.cpy 5),X 36 8,X 37 1,S 38 (.len 37),oB 39 .add 36 38,oI 40 .sub 39 1,S 41 (.ixo 35 5 40 2),oL 42 41 5 2,S 9 (.new [.bool false,.sl 0 []] []),oS 9 9 2 42] (.seq (e [S 43 (.cpy 5),S 44 (.lno 43 5),S 45 (.mov (ci 0))] (.block 2 (.loop Oo))) (.seq (e [S 58 (.cpy 7),S 59 (.lno 58 7),S 60 (.mov (ci 0))] (.block 4 (.loop Oq))) (e [S 73 (.cpy 7),X 74 8,oL 75 9 9 2,S 76 (.ixo 73 7 74 2),oS 76 7 2 75] (e [X 77 1,S 78 (.len 77),S 79 (.mov (ci 0))] (.block 6 (.loop Ot)))))))) (rg [X 33 8,oI 34 .sub 33 1,X 8 34]))
def UN:IFunc:=⟨2,103,[.tmp 4],e [S 4 (.nlo 2)] (e [X 13 0,S 14 (.clo 66 [13]),⟨some 5,.tra 14,none,[21,35,41,43,48,50,52,56,82,86,90,99]⟩] (e [X 15 1,X 16 1,S 17 (.len 16),oI 18 .sub 17 1,oA 19 15 18 2,oL 20 19 19 2,S 6 (.new [.bool false,.sl 0 []] []),oS 6 6 2 20] (e [S 21 (.cpy 5),S 22 (.lno 21 5),X 23 1,S 24 (.len 23),oB 25 .sub 22 24,oI 26 .add 25 1,S 27 (.mks [.bool false,.sl 0 []] 26),⟨some 7,.tra 27,none,[28,58,63,65,67,71,73,76]⟩] (.seq (e [S 28 (.cpy 7),S 29 (.lno 28 7),oI 30 .sub 29 1,X 8 30] (.block 0 (.loop UM))) (e [S 101 (.frz 7),S 102 (.clo 115 [101]),S 4 (.tra 102)] .ret)))))⟩
def Aid:List (Nat × Nat):=[(21,5),(28,7),(35,5),(41,5),(43,5),(48,5),(50,5),(52,5),(56,5),(58,7),(63,7),(65,7),(67,7),(71,7),(73,7),(76,7),(82,5),(86,5),(90,5),(99,5)]
theorem uE:AR c Aid Tryz.f156 UN=true:=by kernel_rfl
def RK:ICode := .seq (e [X 8 4,oI 9 .geq 8 0,X 10 9,x 11 (.ld 3 3 2 false) 10 true,x 12 (.call 102 [11]) 10 true,x 13 (.bin .neq 12 (ci 1)) 10 true,S 14 (.pick 10 13 (cb false))] (.cond 14 .skip (.exit 0))) (.seq (.block 1 (.region true [oL 17 3 3 2,X 18 0,X 19 4,oA 20 18 19 2,oL 21 20 20 2,r 22 159 [17,21],oS 3 3 2 22])) (rg [X 15 4,oI 16 .sub 15 1,X 4 16]))
def UO:IFunc:=⟨1,24,[.cell 2 2 false],e [S 2 (.new [.bool false,.sl 0 []] [])] (e [S 3 (.new [.bool false,.sl 0 []] [])] (.seq (e [X 5 0,S 6 (.len 5),oI 7 .sub 6 1,X 4 7] (.block 0 (.loop RK))) (e [oL 23 3 3 2,oS 2 2 2 23] .ret)))⟩
def Aie:List (Nat × Nat):=[]
theorem uF:AR c Aie Tryz.f157 UO=true:=by kernel_rfl
def UP:IFunc:=⟨2,36,[.cell 4 2 false,.cell 5 2 false],e [S 2 (.box 0 []),S 3 (.box 1 []),S 4 (.new [.bool false,.sl 0 []] []),S 5 (.new [.bool false,.sl 0 []] [])] (e [oL 13 2 2 2,r 14 143 [13],X 12 14,oE 15 12 0,oE 16 12 1,X 6 15,X 7 16] (e [oL 18 3 3 2,r 19 143 [18],X 17 19,oE 20 17 0,oE 21 17 1,X 8 20,X 9 21] (e [X 23 7,X 24 9,r 25 180 [23,24],X 22 25,oE 26 22 0,oE 27 22 1,X 10 26,X 11 27] (e [X 28 6,X 29 8,S 30 (.eqb true 28 29),X 31 10,r 32 152 [30,31],X 33 6,X 34 11,r 35 152 [33,34],oS 4 4 2 32,oS 5 5 2 35] .ret))))⟩
def Aif:List (Nat × Nat):=[]
theorem uG:AR c Aif Tryz.f158 UP=true:=by kernel_rfl
def Lc:ICode := .seq (e [S 13 (.adr 6 6 1),S 14 (.ld 13 6 1 true),S 15 (.len 14),oI 16 .gtr 15 0] (.cond 16 .skip (.exit 0))) (.block 1 (.seq (e [S 17 (.adr 5 5 1),S 18 (.ld 17 5 1 true),S 19 (.len 18),oI 20 .leq 19 2,X 21 20,x 22 (.adr 6 6 1) 21 true,x 23 (.ld 22 6 1 true) 21 true,x 24 (.len 23) 21 true,x 25 (.bin .leq 24 (ci 2)) 21 true,S 26 (.pick 21 25 (cb false))] (.cond 26 (.seq (.region true [oL 27 5 5 2,r 28 183 [27],oL 29 6 6 2,r 30 183 [29],r 31 182 [28,30],r 32 181 [31],oS 4 4 2 32]) .ret) .skip)) (e [oL 34 5 5 2,oL 35 6 6 2,r 36 158 [34,35],X 33 36,oE 37 33 0,oE 38 33 1,S 7 (.new [.bool false,.sl 0 []] []),S 8 (.new [.bool false,.sl 0 []] []),oS 7 7 2 37,oS 8 8 2 38] (.region true [oL 39 6 6 2,oL 40 8 8 2,oS 5 5 2 39,oS 6 6 2 40]))))
def RL:IFunc:=⟨2,42,[.cell 4 2 false],e [S 2 (.box 0 []),S 3 (.box 1 []),S 4 (.new [.bool false,.sl 0 []] [])] (.seq (.region true [oL 9 2 2 2,r 10 160 [9],oL 11 3 3 2,r 12 160 [11],S 5 (.new [.bool false,.sl 0 []] [17]),S 6 (.new [.bool false,.sl 0 []] [13,22]),oS 5 5 2 10,oS 6 6 2 12]) (.seq (.block 0 (.loop Lc)) (e [oL 41 5 5 2,oS 4 4 2 41] .ret)))⟩
def Aig:List (Nat × Nat):=[(13,6),(17,5),(22,6)]
theorem uH:AR c Aig Tryz.f159 RL=true:=by kernel_rfl
def UQ:IFunc:=⟨1,13,[.cell 2 2 false],e [S 1 (.box 0 []),S 2 (.new [.bool false,.sl 0 []] [])] (e [oL 6 1 1 2,r 7 143 [6],X 5 7,oE 8 5 0,oE 9 5 1,X 3 8,X 4 9] (e [X 10 4,S 11 (.apd false (.c (.nil)) 10 1 35184372088832),S 12 (.call 152 [cb false,11]),oS 2 2 2 12] .ret))⟩
def Aih:List (Nat × Nat):=[]
theorem uI:AR c Aih Tryz.f160 UQ=true:=by kernel_rfl
def UR:IFunc:=⟨1,9,[.cell 2 2 false],e [S 1 (.box 0 [3,6]),S 2 (.new [.bool false,.sl 0 []] [])] (e [S 3 (.adr 1 1 0),S 4 (.ld 3 1 1 true),S 5 (.un .not 4),S 6 (.adr 1 1 1),S 7 (.ld 6 1 1 true),r 8 98 [5,7],oS 2 2 2 8] .ret)⟩
def Aii:List (Nat × Nat):=[(3,1),(6,1)]
theorem uJ:AR c Aii Tryz.f161 UR=true:=by kernel_rfl
def EM:ICode := .seq (e [X 24 10,X 25 7,oB 26 .lss 24 25,X 27 26,x 28 (.mov 10) 27 true,x 29 (.mov 6) 27 true,x 30 (.len 29) 27 true,x 31 (.bin .lss 28 30) 27 true,S 32 (.pick 27 31 (cb false))] (.cond 32 .skip (.exit 0))) (.seq (.block 1 (rg [X 35 9,X 36 35,x 37 (.mov 6) 36 false,x 38 (.mov 10) 36 false,x 39 (.ixa 37 38 1) 36 false,x 40 (.ld 39 39 1 true) 36 false,x 41 (.bin .neq 40 (.c (.int .u32 0))) 36 false,S 42 (.pick 36 (cb true) 41),X 9 42])) (rg [X 33 10,oI 34 .add 33 1,X 10 34]))
def E':ICode := .seq (e [X 44 12,X 45 6,S 46 (.len 45),oB 47 .lss 44 46] (.cond 47 .skip (.exit 2))) (.seq (.block 3 (e [X 50 6,X 51 12,oA 52 50 51 1,S 53 (.ld 52 52 1 true),S 54 (.cv .u64 53),X 13 54] (.seq (e [X 55 12,oI 56 .add 55 1,X 57 6,S 58 (.len 57),oB 59 .lss 56 58] (.cond 59 (rg [X 60 13,X 61 6,X 62 12,oI 63 .add 62 1,oA 64 61 63 1,S 65 (.ld 64 64 1 true),S 66 (.cv .u64 65),S 67 (.bin .shl 66 (.c (.int .u64 32))),oB 68 .or 60 67,X 13 68]) .skip)) (rg [S 69 (.tra 11),X 70 13,X 71 8,oB 72 .shr 70 71,S 73 (.cv .u32 72),S 74 (.bls 1 [.int .u32 0] [(0,1,.t 73)]),S 75 (.apd true 69 74 1 35184372088832),S 11 (.tra 75)])))) (rg [X 48 12,oI 49 .add 48 1,X 12 49]))
def JV:IFunc:=⟨2,103,[.cell 4 2 false],e [S 2 (.box 0 []),S 4 (.new [.bool false,.sl 0 []] [])] (e [oL 15 2 2 2,r 16 143 [15],X 14 16,oE 17 14 0,oE 18 14 1,X 5 17,X 6 18] (e [X 19 1,oI 20 .quo 19 32,X 21 1,oI 22 .rem 21 32,S 23 (.cv .u64 22),X 7 20,X 8 23] (e [S 9 (.mov (cb false))] (.seq (e [S 10 (.mov (ci 0))] (.block 0 (.loop EM))) (e [S 11 (.nlo 1)] (.seq (e [X 43 7,X 12 43] (.block 2 (.loop E'))) (.seq (e [X 76 7,X 77 6,S 78 (.len 77),oB 79 .lss 76 78,X 80 79,x 81 (.mov 6) 80 true,x 82 (.mov 7) 80 true,x 83 (.ixa 81 82 1) 80 true,x 84 (.ld 83 83 1 true) 80 true,x 85 (.mov 8) 80 true,x 86 (.bin .shl (.c (.int .u32 1)) 85) 80 true,x 87 (.bin .sub 86 (.c (.int .u32 1))) 80 true,x 88 (.bin .and 84 87) 80 true,x 89 (.bin .neq 88 (.c (.int .u32 0))) 80 true,S 90 (.pick 80 89 (cb false))] (.cond 90 (rg [S 9 (.mov (cb true))]) .skip)) (.seq (e [X 91 5,X 92 91,x 93 (.mov 9) 92 true,S 94 (.pick 92 93 (cb false))] (.cond 94 (e [S 95 (.frz 11),r 96 184 [95],S 97 (.bls 1 [.int .u32 0] [(0,1,.c (.int .u32 1))]),r 98 178 [96,97],S 99 (.call 152 [cb true,98]),oS 4 4 2 99] .ret) .skip)) (e [X 100 5,S 101 (.frz 11),r 102 152 [100,101],oS 4 4 2 102] .ret)))))))))⟩
def Aij:List (Nat × Nat):=[]
theorem uK:AR c Aij Tryz.f163 JV=true:=by kernel_rfl
def Qx:ICode := .seq (e [oL 15 6 6 2,r 16 79 [15],oI 17 .neq 16 0] (.cond 17 .skip (.exit 0))) (.block 1 (e [oL 19 5 5 2,oL 20 6 6 2,r 21 138 [19,20],X 18 21,oE 22 18 0,oE 23 18 1,S 7 (.new [.bool false,.sl 0 []] []),S 8 (.new [.bool false,.sl 0 []] []),oS 7 7 2 22,oS 8 8 2 23] (.region true [oL 24 6 6 2,oL 25 8 8 2,oS 5 5 2 24,oS 6 6 2 25])))
def US:IFunc:=⟨2,27,[.cell 4 2 false],e [S 2 (.box 0 [9]),S 3 (.box 1 [12]),S 4 (.new [.bool false,.sl 0 []] [])] (.seq (.region true [S 9 (.adr 2 2 1),S 10 (.ld 9 2 1 true),S 11 (.call 98 [cb false,10]),S 12 (.adr 3 3 1),S 13 (.ld 12 3 1 true),S 14 (.call 98 [cb false,13]),S 5 (.new [.bool false,.sl 0 []] []),S 6 (.new [.bool false,.sl 0 []] []),oS 5 5 2 11,oS 6 6 2 14]) (.seq (.block 0 (.loop Qx)) (e [oL 26 5 5 2,oS 4 4 2 26] .ret)))⟩
def Aik:List (Nat × Nat):=[(9,2),(12,3)]
theorem uL:AR c Aik Tryz.f164 US=true:=by kernel_rfl
def Qy:ICode := .seq (e [X 73 1,X 74 1,S 75 (.len 74),oI 76 .sub 75 1,oA 77 73 76 1,S 78 (.ld 77 77 1 true),X 79 9,S 80 (.cv .u64 79),oB 81 .shl 78 80,S 82 (.bin .and 81 (.c (.int .u32 2147483648))),S 83 (.bin .eql 82 (.c (.int .u32 0)))] (.cond 83 .skip (.exit 2))) (.block 3 (rg [X 84 9,oI 85 .add 84 1,X 9 85]))
def Qz:ICode := .seq (e [X 39 8,oI 40 .geq 39 0] (.cond 40 .skip (.exit 0))) (.seq (.block 1 (e [X 43 7,S 44 (.bin .shl 43 (.c (.int .u64 32))),X 45 0,X 46 8,oA 47 45 46 1,S 48 (.ld 47 47 1 true),S 49 (.cv .u64 48),oB 50 .or 44 49,X 7 50] (e [S 51 (.cpy 6),X 52 8,X 53 7,X 54 1,S 55 (.ixa 54 (ci 0) 1),S 56 (.ld 55 55 1 true),S 57 (.cv .u64 56),oB 58 .quo 53 57,S 59 (.cv .u32 58),S 60 (.ixo 51 6 52 1),oS 60 6 1 59] (rg [X 61 7,X 62 1,S 63 (.ixa 62 (ci 0) 1),S 64 (.ld 63 63 1 true),S 65 (.cv .u64 64),oB 66 .rem 61 65,X 7 66])))) (rg [X 41 8,oI 42 .sub 41 1,X 8 42]))
def Q5:ICode := .seq (e [X 256 24,X 257 12,oB 258 .lss 256 257] (.cond 258 .skip (.exit 10))) (.seq (.block 11 (.seq (.region true [X 261 23,S 262 (.cpy 11),X 263 24,X 264 14,oB 265 .add 263 264,S 266 (.ixo 262 11 265 1),S 267 (.ld 266 11 1 true),S 268 (.cv .u64 267),X 269 10,X 270 24,oA 271 269 270 1,S 272 (.ld 271 271 1 true),S 273 (.cv .u64 272),oB 274 .add 268 273,oB 275 .add 261 274,X 23 275]) (e [S 276 (.cpy 11),X 277 24,X 278 14,oB 279 .add 277 278,X 280 23,S 281 (.cv .u32 280),S 282 (.ixo 276 11 279 1),oS 282 11 1 281] (rg [X 283 23,S 284 (.bin .shr 283 (.c (.int .u64 32))),X 23 284])))) (rg [X 259 24,oI 260 .add 259 1,X 24 260]))
def Ou:ICode := .seq (e [X 196 20,X 197 12,oB 198 .lss 196 197] (.cond 198 .skip (.exit 8))) (.seq (.block 9 (e [X 201 19,X 202 16,X 203 10,X 204 20,oA 205 203 204 1,S 206 (.ld 205 205 1 true),S 207 (.cv .u64 206),oB 208 .mul 202 207,oB 209 .add 201 208,X 19 209] (e [S 210 (.cpy 11),X 211 20,X 212 14,oB 213 .add 211 212,S 214 (.ixo 210 11 213 1),S 215 (.ld 214 11 1 true),S 216 (.cv .u64 215),X 217 19,S 218 (.bin .and 217 (.c (.int .u64 4294967295))),oB 219 .sub 216 218,X 220 18,oB 221 .sub 219 220,X 21 221] (e [S 222 (.cpy 11),X 223 20,X 224 14,oB 225 .add 223 224,X 226 21,S 227 (.cv .u32 226),S 228 (.ixo 222 11 225 1),oS 228 11 1 227] (e [X 229 21,S 230 (.bin .shr 229 (.c (.int .u64 63))),X 18 230] (rg [X 231 19,S 232 (.bin .shr 231 (.c (.int .u64 32))),X 19 232])))))) (rg [X 199 20,oI 200 .add 199 1,X 20 200]))
def Hr:ICode := .seq (.seq (.region true [X 156 16,S 157 (.bin .geq 156 (.c (.int .u64 4294967296))),X 158 157,x 159 (.mov 17) 158 false,x 160 (.bin .lss 159 (.c (.int .u64 4294967296))) 158 false,x 161 (.mov 160) 158 false,x 162 (.mov 16) 161 true,x 163 (.mov 10) 161 true,x 164 (.mov 12) 161 true,x 165 (.bin .sub 164 (ci 2)) 161 true,x 166 (.ixa 163 165 1) 161 true,x 167 (.ld 166 166 1 true) 161 true,x 168 (.cv .u64 167) 161 true,x 169 (.bin .mul 162 168) 161 true,x 170 (.mov 17) 161 true,x 171 (.bin .shl 170 (.c (.int .u64 32))) 161 true,x 172 (.cpy 11) 161 true,x 173 (.mov 14) 161 true,x 174 (.mov 12) 161 true,x 175 (.bin .add 173 174) 161 true,x 176 (.bin .sub 175 (ci 2)) 161 true,x 177 (.ixo 172 11 176 1) 161 true,x 178 (.ld 177 11 1 true) 161 true,x 179 (.cv .u64 178) 161 true,x 180 (.bin .or 171 179) 161 true,x 181 (.bin .gtr 169 180) 161 true,x 182 (.pick 161 181 (cb false)) 158 false,S 183 (.pick 158 (cb true) 182)]) (.cond 183 .skip (.exit 6))) (.block 7 (e [X 184 16,S 185 (.bin .sub 184 (.c (.int .u64 1))),X 16 185] (e [X 186 17,X 187 10,X 188 12,oI 189 .sub 188 1,oA 190 187 189 1,S 191 (.ld 190 190 1 true),S 192 (.cv .u64 191),oB 193 .add 186 192,X 17 193] (e [X 194 17,S 195 (.bin .geq 194 (.c (.int .u64 4294967296)))] (.cond 195 (.exit 6) .skip)))))
def Ny:ICode := .seq (e [X 119 14,oI 120 .geq 119 0] (.cond 120 .skip (.exit 4))) (.seq (.block 5 (.seq (.region true [S 123 (.cpy 11),X 124 14,X 125 12,oB 126 .add 124 125,S 127 (.ixo 123 11 126 1),S 128 (.ld 127 11 1 true),S 129 (.cv .u64 128),S 130 (.bin .shl 129 (.c (.int .u64 32))),S 131 (.cpy 11),X 132 14,X 133 12,oB 134 .add 132 133,oI 135 .sub 134 1,S 136 (.ixo 131 11 135 1),S 137 (.ld 136 11 1 true),S 138 (.cv .u64 137),oB 139 .or 130 138,X 15 139]) (.seq (.region true [X 140 15,X 141 10,X 142 12,oI 143 .sub 142 1,oA 144 141 143 1,S 145 (.ld 144 144 1 true),S 146 (.cv .u64 145),oB 147 .quo 140 146,X 148 15,X 149 10,X 150 12,oI 151 .sub 150 1,oA 152 149 151 1,S 153 (.ld 152 152 1 true),S 154 (.cv .u64 153),oB 155 .rem 148 154,X 16 147,X 17 155]) (.seq (.block 6 (.loop Hr)) (e [S 18 (.mov (.c (.int .u64 0))),S 19 (.mov (.c (.int .u64 0)))] (.seq (e [S 20 (.mov (ci 0))] (.block 8 (.loop Ou))) (e [S 233 (.cpy 11),X 234 14,X 235 12,oB 236 .add 234 235,S 237 (.ixo 233 11 236 1),S 238 (.ld 237 11 1 true),S 239 (.cv .u64 238),X 240 19,oB 241 .sub 239 240,X 242 18,oB 243 .sub 241 242,X 22 243] (e [S 244 (.cpy 11),X 245 14,X 246 12,oB 247 .add 245 246,X 248 22,S 249 (.cv .u32 248),S 250 (.ixo 244 11 247 1),oS 250 11 1 249] (.seq (e [X 251 22,S 252 (.bin .shr 251 (.c (.int .u64 63))),S 253 (.bin .neq 252 (.c (.int .u64 0)))] (.cond 253 (e [X 254 16,S 255 (.bin .sub 254 (.c (.int .u64 1))),X 16 255] (e [S 23 (.mov (.c (.int .u64 0)))] (.seq (e [S 24 (.mov (ci 0))] (.block 10 (.loop Q5))) (rg [S 285 (.cpy 11),X 286 14,X 287 12,oB 288 .add 286 287,S 289 (.ixo 285 11 288 1),S 290 (.ld 289 11 1 true),X 291 23,S 292 (.cv .u32 291),oB 293 .add 290 292,S 294 (.ixo 285 11 288 1),oS 294 11 1 293])))) .skip)) (rg [S 295 (.cpy 13),X 296 14,X 297 16,S 298 (.cv .u32 297),S 299 (.ixo 295 13 296 1),oS 299 13 1 298])))))))))) (rg [X 121 14,oI 122 .sub 121 1,X 14 122]))
def P3:IFunc:=⟨2,307,[.tmp 4,.tmp 5],e [S 4 (.nlo 1),S 5 (.nlo 1)] (.seq (e [X 25 0,X 26 1,r 27 134 [25,26],oI 28 .lss 27 0] (.cond 28 (e [X 29 0,S 4 (.nlo 1),S 5 (.tra 29)] .ret) .skip)) (.seq (e [X 30 1,S 31 (.len 30),oI 32 .eql 31 1] (.cond 32 (e [X 33 0,S 34 (.len 33),S 35 (.mks [.int .u32 0] 34),⟨some 6,.tra 35,none,[51,60]⟩] (e [S 7 (.mov (.c (.int .u64 0)))] (.seq (e [X 36 0,S 37 (.len 36),oI 38 .sub 37 1,X 8 38] (.block 0 (.loop Qz))) (e [S 67 (.frz 6),S 68 (.clo 99 [67]),X 69 7,S 70 (.cv .u32 69),S 71 (.bls 1 [.int .u32 0] [(0,1,.t 70)]),S 72 (.clo 99 [71]),S 4 (.tra 68),S 5 (.tra 72)] .ret)))) .skip)) (e [S 9 (.mov (ci 0))] (.seq (.block 2 (.loop Qy)) (e [X 86 1,S 87 (.bld [.bool false,.sl 0 []] [(1,1,.t 86)]),X 88 9,r 89 84 [87,88],S 90 (.fld 89 1 1 true),X 10 90] (e [X 91 0,S 92 (.bld [.bool false,.sl 0 []] [(1,1,.t 91)]),X 93 9,S 94 (.cln 84 [92,93] []),S 95 (.fdo 94),S 96 (.bls 2 [.int .u32 0,.int .u32 0] [(0,1,.c (.int .u32 0)),(1,1,.c (.int .u32 0))]),S 97 (.apd true 95 96 1 35184372088832),⟨some 11,.tra 97,none,[109,114,123,127,131,136,172,177,210,214,222,228,233,237,244,250,262,266,276,282,285,289,294]⟩] (e [S 98 (.tra 11),X 99 0,S 100 (.len 99),oI 101 .add 100 1,X 102 1,S 103 (.len 102),oI 104 .add 103 1,S 105 (.mx [101,104]),S 106 (.slo 98 105 1),⟨some 11,.tra 106,none,[109,114,123,127,131,136,172,177,210,214,222,228,233,237,244,250,262,266,276,282,285,289,294]⟩] (e [X 107 10,S 108 (.len 107),X 12 108] (e [S 109 (.cpy 11),S 110 (.lno 109 11),X 111 12,oB 112 .sub 110 111,S 113 (.mks [.int .u32 0] 112),⟨some 13,.tra 113,none,[295,299]⟩] (.seq (e [S 114 (.cpy 11),S 115 (.lno 114 11),X 116 12,oB 117 .sub 115 116,oI 118 .sub 117 1,X 14 118] (.block 4 (.loop Ny))) (e [S 300 (.frz 13),S 301 (.clo 99 [300]),S 302 (.frz 11),S 303 (.bld [.bool false,.sl 0 []] [(1,1,.t 302)]),X 304 9,r 305 128 [303,304],S 306 (.fld 305 1 1 true),S 4 (.tra 301),S 5 (.tra 306)] .ret)))))))))))⟩
def Ail:List (Nat × Nat):=[(51,6),(60,6),(109,11),(114,11),(123,11),(127,11),(131,11),(136,11),(172,11),(177,11),(210,11),(214,11),(222,11),(228,11),(233,11),(237,11),(244,11),(250,11),(262,11),(266,11),(276,11),(282,11),(285,11),(289,11),(294,11),(295,13),(299,13)]
theorem uM:AR c Ail Tryz.f165 P3=true:=by kernel_rfl
def UT:IFunc:=⟨1,12,[.tmp 2],e [S 1 (.box 0 []),S 2 (.mov (ci 0))] (e [oL 6 1 1 2,r 7 143 [6],X 5 7,oE 8 5 0,oE 9 5 1,X 3 8,X 4 9] (e [X 10 4,S 11 (.len 10),X 2 11] .ret))⟩
def Aim:List (Nat × Nat):=[]
theorem uN:AR c Aim Tryz.f177 UT=true:=by kernel_rfl
def Nz:ICode:=e [oB 23 .lss 22 21] (.seq (.cond 23 .skip (.exit 0)) (.seq (.block 1 (e [X 24 22,X 7 24] (e [X 25 0,X 26 7,oA 27 25 26 1,S 28 (.ld 27 27 1 true),S 29 (.cv .u64 28),X 30 6,oB 31 .add 29 30,X 8 31] (.seq (e [X 32 7,X 33 1,S 34 (.len 33),oB 35 .lss 32 34] (.cond 35 (rg [X 36 8,X 37 1,X 38 7,oA 39 37 38 1,S 40 (.ld 39 39 1 true),S 41 (.cv .u64 40),oB 42 .add 36 41,X 8 42]) .skip)) (rg [S 43 (.cpy 5),X 44 7,X 45 8,S 46 (.cv .u32 45),X 47 8,S 48 (.bin .shr 47 (.c (.int .u64 32))),S 49 (.ixo 43 5 44 1),oS 49 5 1 46,X 6 48]))))) (rg [oI 50 .add 22 1,X 22 50])))
def RM:IFunc:=⟨2,58,[.tmp 4],e [S 4 (.nlo 1)] (.seq (e [X 9 0,S 10 (.len 9),X 11 1,S 12 (.len 11),oB 13 .lss 10 12] (.cond 13 (rg [X 14 1,X 15 0,X 0 14,X 1 15]) .skip)) (e [X 16 0,S 17 (.len 16),oI 18 .add 17 1,S 19 (.mks [.int .u32 0] 18),⟨some 5,.tra 19,none,[43,49,51,56]⟩] (e [S 6 (.mov (.c (.int .u64 0)))] (.seq (e [X 20 0,S 21 (.len 20),S 22 (.mov (ci 0))] (.block 0 (.loop Nz))) (e [S 51 (.cpy 5),X 52 0,S 53 (.len 52),X 54 6,S 55 (.cv .u32 54),S 56 (.ixo 51 5 53 1),oS 56 5 1 55] (e [S 57 (.tra 5),S 4 (.tra 57)] .ret))))))⟩
def Ain:List (Nat × Nat):=[(43,5),(49,5),(51,5),(56,5)]
theorem uO:AR c Ain Tryz.f178 RM=true:=by kernel_rfl
def RN:ICode:=e [oB 15 .lss 14 13] (.seq (.cond 15 .skip (.exit 0)) (.seq (.block 1 (e [X 16 14,X 7 16] (e [X 17 0,X 18 7,oA 19 17 18 1,S 20 (.ld 19 19 1 true),S 21 (.cv .u64 20),X 22 6,oB 23 .sub 21 22,X 8 23] (.seq (e [X 24 7,X 25 1,S 26 (.len 25),oB 27 .lss 24 26] (.cond 27 (rg [X 28 8,X 29 1,X 30 7,oA 31 29 30 1,S 32 (.ld 31 31 1 true),S 33 (.cv .u64 32),oB 34 .sub 28 33,X 8 34]) .skip)) (rg [S 35 (.cpy 5),X 36 7,X 37 8,S 38 (.cv .u32 37),X 39 8,S 40 (.bin .shr 39 (.c (.int .u64 63))),S 41 (.ixo 35 5 36 1),oS 41 5 1 38,X 6 40]))))) (rg [oI 42 .add 14 1,X 14 42])))
def UU:IFunc:=⟨2,44,[.tmp 4],e [S 4 (.nlo 1)] (e [X 9 0,S 10 (.len 9),S 11 (.mks [.int .u32 0] 10),⟨some 5,.tra 11,none,[35,41]⟩] (e [S 6 (.mov (.c (.int .u64 0)))] (.seq (e [X 12 0,S 13 (.len 12),S 14 (.mov (ci 0))] (.block 0 (.loop RN))) (e [S 43 (.tra 5),S 4 (.tra 43)] .ret))))⟩
def Aio:List (Nat × Nat):=[(35,5),(41,5)]
theorem uP:AR c Aio Tryz.f179 UU=true:=by kernel_rfl
def Q6:ICode := .seq (e [X 202 26,X 203 11,oB 204 .lss 202 203] (.cond 204 .skip (.exit 6))) (.seq (.block 7 (.seq (.region true [S 207 (.cpy 9),X 208 26,X 209 15,oB 210 .add 208 209,S 211 (.ixo 207 9 210 1),S 212 (.ld 211 9 1 true),S 213 (.cv .u64 212),X 214 10,X 215 26,oA 216 214 215 1,S 217 (.ld 216 216 1 true),S 218 (.cv .u64 217),oB 219 .add 213 218,X 220 25,oB 221 .add 219 220,X 27 221]) (rg [S 222 (.cpy 9),X 223 26,X 224 15,oB 225 .add 223 224,X 226 27,S 227 (.cv .u32 226),X 228 27,S 229 (.bin .shr 228 (.c (.int .u64 32))),S 230 (.ixo 222 9 225 1),oS 230 9 1 227,X 25 229]))) (rg [X 205 26,oI 206 .add 205 1,X 26 206]))
def Mi:ICode := .seq (e [X 248 28,X 249 11,oB 250 .lss 248 249] (.cond 250 .skip (.exit 8))) (.seq (.block 9 (e [S 253 (.cpy 5),X 254 28,S 255 (.cpy 9),X 256 28,S 257 (.ixo 255 9 256 1),S 258 (.ld 257 9 1 true),X 259 8,S 260 (.cv .u64 259),oB 261 .shr 258 260,S 262 (.ixo 253 5 254 1),oS 262 5 1 261] (e [X 263 8,oI 264 .gtr 263 0] (.cond 264 (.region true [S 265 (.cpy 5),X 266 28,S 267 (.ixo 265 5 266 1),S 268 (.ld 267 5 1 true),S 269 (.cpy 9),X 270 28,oI 271 .add 270 1,S 272 (.ixo 269 9 271 1),S 273 (.ld 272 9 1 true),X 274 8,S 275 (.bin .sub (ci 32) 274),S 276 (.cv .u64 275),oB 277 .shl 273 276,oB 278 .or 268 277,S 279 (.ixo 265 5 266 1),oS 279 5 1 278]) .skip)))) (rg [X 251 28,oI 252 .add 251 1,X 28 252]))
def Ov:ICode := .seq (e [X 141 21,X 142 11,oB 143 .lss 141 142] (.cond 143 .skip (.exit 4))) (.seq (.block 5 (e [X 146 17,X 147 10,X 148 21,oA 149 147 148 1,S 150 (.ld 149 149 1 true),S 151 (.cv .u64 150),oB 152 .mul 146 151,X 153 20,oB 154 .add 152 153,X 22 154] (e [X 155 22,S 156 (.bin .shr 155 (.c (.int .u64 32))),X 20 156] (e [S 157 (.cpy 9),X 158 21,X 159 15,oB 160 .add 158 159,S 161 (.ixo 157 9 160 1),S 162 (.ld 161 9 1 true),S 163 (.cv .u64 162),X 164 22,S 165 (.cv .u32 164),S 166 (.cv .u64 165),oB 167 .sub 163 166,X 168 19,oB 169 .sub 167 168,X 23 169] (rg [S 170 (.cpy 9),X 171 21,X 172 15,oB 173 .add 171 172,X 174 23,S 175 (.cv .u32 174),X 176 23,S 177 (.bin .shr 176 (.c (.int .u64 63))),S 178 (.ixo 170 9 173 1),oS 178 9 1 175,X 19 177]))))) (rg [X 144 21,oI 145 .add 144 1,X 21 145]))
def Hs:ICode := .seq (e [X 115 17,S 116 (.bin .geq 115 (.c (.int .u64 4294967296))),X 117 116,x 118 (.mov 17) 117 false,x 119 (.mov 14) 117 false,x 120 (.bin .mul 118 119) 117 false,x 121 (.mov 18) 117 false,x 122 (.bin .shl 121 (.c (.int .u64 32))) 117 false,x 123 (.cpy 9) 117 false,x 124 (.mov 15) 117 false,x 125 (.mov 11) 117 false,x 126 (.bin .add 124 125) 117 false,x 127 (.bin .sub 126 (ci 2)) 117 false,x 128 (.ixo 123 9 127 1) 117 false,x 129 (.ld 128 9 1 true) 117 false,x 130 (.cv .u64 129) 117 false,x 131 (.bin .or 122 130) 117 false,x 132 (.bin .gtr 120 131) 117 false,S 133 (.pick 117 (cb true) 132)] (.cond 133 .skip (.exit 2))) (.block 3 (e [X 134 17,S 135 (.bin .sub 134 (.c (.int .u64 1))),X 17 135] (e [X 136 18,X 137 13,oB 138 .add 136 137,X 18 138] (e [X 139 18,S 140 (.bin .geq 139 (.c (.int .u64 4294967296)))] (.cond 140 (.exit 2) .skip)))))
def Mj:ICode := .seq (e [X 88 15,oI 89 .geq 88 0] (.cond 89 .skip (.exit 0))) (.seq (.block 1 (.seq (.region true [S 92 (.cpy 9),X 93 15,X 94 11,oB 95 .add 93 94,S 96 (.ixo 92 9 95 1),S 97 (.ld 96 9 1 true),S 98 (.cv .u64 97),S 99 (.bin .shl 98 (.c (.int .u64 32))),S 100 (.cpy 9),X 101 15,X 102 11,oB 103 .add 101 102,oI 104 .sub 103 1,S 105 (.ixo 100 9 104 1),S 106 (.ld 105 9 1 true),S 107 (.cv .u64 106),oB 108 .or 99 107,X 16 108]) (.seq (.region true [X 109 16,X 110 13,oB 111 .quo 109 110,X 112 16,X 113 13,oB 114 .rem 112 113,X 17 111,X 18 114]) (.seq (.block 2 (.loop Hs)) (e [S 19 (.mov (.c (.int .u64 0))),S 20 (.mov (.c (.int .u64 0)))] (.seq (e [S 21 (.mov (ci 0))] (.block 4 (.loop Ov))) (e [S 179 (.cpy 9),X 180 15,X 181 11,oB 182 .add 180 181,S 183 (.ixo 179 9 182 1),S 184 (.ld 183 9 1 true),S 185 (.cv .u64 184),X 186 20,oB 187 .sub 185 186,X 188 19,oB 189 .sub 187 188,X 24 189] (e [S 190 (.cpy 9),X 191 15,X 192 11,oB 193 .add 191 192,X 194 24,S 195 (.cv .u32 194),S 196 (.ixo 190 9 193 1),oS 196 9 1 195] (.seq (e [X 197 24,S 198 (.bin .shr 197 (.c (.int .u64 63))),S 199 (.bin .neq 198 (.c (.int .u64 0)))] (.cond 199 (e [X 200 17,S 201 (.bin .sub 200 (.c (.int .u64 1))),X 17 201] (e [S 25 (.mov (.c (.int .u64 0)))] (.seq (e [S 26 (.mov (ci 0))] (.block 6 (.loop Q6))) (rg [S 231 (.cpy 9),X 232 15,X 233 11,oB 234 .add 232 233,S 235 (.ixo 231 9 234 1),S 236 (.ld 235 9 1 true),X 237 25,S 238 (.cv .u32 237),oB 239 .add 236 238,S 240 (.ixo 231 9 234 1),oS 240 9 1 239])))) .skip)) (rg [S 241 (.cpy 4),X 242 15,X 243 17,S 244 (.cv .u32 243),S 245 (.ixo 241 4 242 1),oS 245 4 1 244])))))))))) (rg [X 90 15,oI 91 .sub 90 1,X 15 91]))
def P4:IFunc:=⟨2,282,[.tmp 4,.tmp 5],e [⟨some 4,.nlo 1,none,[241,245]⟩,⟨some 5,.nlo 1,none,[253,262,265,267,279]⟩] (.seq (e [X 29 0,X 30 1,r 31 151 [29,30],oI 32 .lss 31 0] (.cond 32 (e [X 33 0,S 34 (.apd true (.c (.nil)) 33 1 35184372088832),⟨some 4,.nlo 1,none,[241,245]⟩,⟨some 5,.tra 34,none,[253,262,265,267,279]⟩] .ret) .skip)) (.seq (e [X 35 1,S 36 (.len 35),oI 37 .eql 36 1] (.cond 37 (e [X 39 0,X 40 1,S 41 (.ixa 40 (ci 0) 1),S 42 (.ld 41 41 1 true),r 43 187 [39,42],X 38 43,oE 44 38 0,oE 45 38 1,X 6 44,X 7 45] (e [X 46 6,X 47 7,S 48 (.blo 1 1 [.int .u32 0] [(0,1,.t 47)]),⟨some 4,.tra 46,none,[241,245]⟩,⟨some 5,.tra 48,none,[253,262,265,267,279]⟩] .ret)) .skip)) (e [X 49 1,X 50 1,S 51 (.len 50),oI 52 .sub 51 1,oA 53 49 52 1,S 54 (.ld 53 53 1 true),r 55 188 [54],X 8 55] (.seq (.region true [X 56 0,X 57 8,S 58 (.clo 189 [56,57]),X 59 1,X 60 8,r 61 189 [59,60],X 62 1,S 63 (.len 62),S 64 (.sli 61 none (some 63) none 1),⟨some 9,.tra 58,none,[92,96,100,105,123,128,157,161,170,178,179,183,190,196,207,211,222,230,231,235,240,255,257,269,272]⟩,X 10 64]) (e [X 65 1,S 66 (.len 65),X 67 0,S 68 (.len 67),X 69 1,S 70 (.len 69),oB 71 .sub 68 70,X 11 66,X 12 71] (e [X 72 12,oI 73 .add 72 1,S 74 (.mks [.int .u32 0] 73),⟨some 4,.tra 74,none,[241,245]⟩] (.seq (.region true [X 75 10,X 76 11,oI 77 .sub 76 1,oA 78 75 77 1,S 79 (.ld 78 78 1 true),S 80 (.cv .u64 79),X 81 10,X 82 11,oI 83 .sub 82 2,oA 84 81 83 1,S 85 (.ld 84 84 1 true),S 86 (.cv .u64 85),X 13 80,X 14 86]) (.seq (e [X 87 12,X 15 87] (.block 0 (.loop Mj))) (e [X 246 11,S 247 (.mks [.int .u32 0] 246),⟨some 5,.tra 247,none,[253,262,265,267,279]⟩] (.seq (e [S 28 (.mov (ci 0))] (.block 8 (.loop Mi))) (e [S 280 (.tra 4),S 281 (.tra 5),⟨some 4,.tra 280,none,[241,245]⟩,⟨some 5,.tra 281,none,[253,262,265,267,279]⟩] .ret)))))))))))⟩
def Aip:List (Nat × Nat):=[(92,9),(96,9),(100,9),(105,9),(123,9),(128,9),(157,9),(161,9),(170,9),(178,9),(179,9),(183,9),(190,9),(196,9),(207,9),(211,9),(222,9),(230,9),(231,9),(235,9),(240,9),(241,4),(245,4),(253,5),(255,9),(257,9),(262,5),(265,5),(267,5),(269,9),(272,9),(279,5)]
theorem uQ:AR c Aip Tryz.f180 P4=true:=by kernel_rfl
def UV:IFunc:=⟨1,10,[.cell 2 2 false],e [S 2 (.new [.bool false,.sl 0 []] [])] (e [X 3 0,S 4 (.cv .u32 3),X 5 0,S 6 (.bin .shr 5 (.c (.int .u64 32))),S 7 (.cv .u32 6),S 8 (.bls 2 [.int .u32 0,.int .u32 0] [(0,1,.t 4),(1,1,.t 7)]),S 9 (.call 152 [cb false,8]),oS 2 2 2 9] .ret)⟩
def Aiq:List (Nat × Nat):=[]
theorem uR:AR c Aiq Tryz.f181 UV=true:=by kernel_rfl
def UW:ICode := .seq (e [X 5 1,S 6 (.bin .gtr 5 (.c (.int .u64 0)))] (.cond 6 .skip (.exit 0))) (.block 1 (.region true [X 7 1,X 8 0,X 9 1,oB 10 .rem 8 9,X 0 7,X 1 10]))
def UX:IFunc:=⟨2,12,[.tmp 4],e [S 4 (.mov (.c (.int .u64 0)))] (.seq (.block 0 (.loop UW)) (e [X 11 0,X 4 11] .ret))⟩
def Air:List (Nat × Nat):=[]
theorem uS:AR c Air Tryz.f182 UX=true:=by kernel_rfl
def UY:ICode:=e [oB 10 .lss 9 8] (.seq (.cond 10 .skip (.exit 0)) (.seq (.block 1 (e [X 11 9,oA 12 7 9 1,S 13 (.ld 12 12 1 true),X 4 11,X 5 13] (rg [X 14 3,X 15 5,S 16 (.cv .u64 15),X 17 4,S 18 (.bin .mul (ci 32) 17),S 19 (.cv .u64 18),oB 20 .shl 16 19,oB 21 .or 14 20,X 3 21]))) (rg [oI 22 .add 9 1,X 9 22])))
def UZ:IFunc:=⟨1,24,[.tmp 2],e [S 1 (.box 0 [6]),S 2 (.mov (.c (.int .u64 0)))] (e [S 3 (.mov (.c (.int .u64 0)))] (.seq (e [S 6 (.adr 1 1 1),S 7 (.ld 6 1 1 true),S 8 (.len 7),S 9 (.mov (ci 0))] (.block 0 (.loop UY))) (e [X 23 3,X 2 23] .ret)))⟩
def Ais:List (Nat × Nat):=[(6,1)]
theorem uT:AR c Ais Tryz.f183 UZ=true:=by kernel_rfl
def bI:ICode := .seq (e [X 6 3,oI 7 .gtr 6 0,X 8 7,x 9 (.mov 0) 8 true,x 10 (.mov 3) 8 true,x 11 (.bin .sub 10 (ci 1)) 8 true,x 12 (.ixa 9 11 1) 8 true,x 13 (.ld 12 12 1 true) 8 true,x 14 (.bin .eql 13 (.c (.int .u32 0))) 8 true,S 15 (.pick 8 14 (cb false))] (.cond 15 .skip (.exit 0))) (.block 1 (rg [X 16 3,oI 17 .sub 16 1,X 3 17]))
def U':IFunc:=⟨1,21,[.tmp 2],e [S 2 (.nlo 1)] (e [X 4 0,S 5 (.len 4),X 3 5] (.seq (.block 0 (.loop bI)) (e [X 18 0,X 19 3,S 20 (.sli 18 none (some 19) none 1),S 2 (.tra 20)] .ret)))⟩
def Ait:List (Nat × Nat):=[]
theorem uU:AR c Ait Tryz.f184 U'=true:=by kernel_rfl
def U_:ICode := .seq (e [X 16 8,oI 17 .geq 16 0] (.cond 17 .skip (.exit 0))) (.seq (.block 1 (e [X 20 7,S 21 (.bin .shl 20 (.c (.int .u64 32))),X 22 0,X 23 8,oA 24 22 23 1,S 25 (.ld 24 24 1 true),S 26 (.cv .u64 25),oB 27 .or 21 26,X 9 27] (.region true [S 28 (.cpy 6),X 29 8,X 30 9,X 31 1,S 32 (.cv .u64 31),oB 33 .quo 30 32,S 34 (.cv .u32 33),X 35 9,X 36 1,S 37 (.cv .u64 36),oB 38 .rem 35 37,S 39 (.ixo 28 6 29 1),oS 39 6 1 34,X 7 38]))) (rg [X 18 8,oI 19 .sub 18 1,X 8 19]))
def Va:IFunc:=⟨2,43,[.tmp 4,.tmp 5],e [S 4 (.nlo 1),S 5 (.mov (.c (.int .u32 0)))] (e [X 10 0,S 11 (.len 10),S 12 (.mks [.int .u32 0] 11),⟨some 6,.tra 12,none,[28,39]⟩] (e [S 7 (.mov (.c (.int .u64 0)))] (.seq (e [X 13 0,S 14 (.len 13),oI 15 .sub 14 1,X 8 15] (.block 0 (.loop U_))) (e [S 40 (.tra 6),X 41 7,S 42 (.cv .u32 41),S 4 (.tra 40),X 5 42] .ret))))⟩
def Aiu:List (Nat × Nat):=[(28,6),(39,6)]
theorem uV:AR c Aiu Tryz.f187 Va=true:=by kernel_rfl
def Vb:IFunc:=⟨1,6,[.tmp 2],e [S 2 (.mov (ci 0))] (e [X 3 0,r 4 150 [3],S 5 (.bin .sub (ci 32) 4),X 2 5] .ret)⟩
def Aiv:List (Nat × Nat):=[]
theorem uW:AR c Aiv Tryz.f188 Vb=true:=by kernel_rfl
def Vc:ICode:=e [oB 16 .lss 15 14] (.seq (.cond 16 .skip (.exit 0)) (.seq (.block 1 (e [X 17 15,oA 18 13 15 1,S 19 (.ld 18 18 1 true),X 6 17,X 7 19] (e [X 20 7,S 21 (.cv .u64 20),X 22 1,S 23 (.cv .u64 22),oB 24 .shl 21 23,X 8 24] (e [S 25 (.cpy 5),X 26 6,S 27 (.ixo 25 5 26 1),S 28 (.ld 27 5 1 true),X 29 8,S 30 (.cv .u32 29),oB 31 .or 28 30,S 32 (.ixo 25 5 26 1),oS 32 5 1 31] (rg [S 33 (.cpy 5),X 34 6,oI 35 .add 34 1,X 36 8,S 37 (.bin .shr 36 (.c (.int .u64 32))),S 38 (.cv .u32 37),S 39 (.ixo 33 5 35 1),oS 39 5 1 38]))))) (rg [oI 40 .add 15 1,X 15 40])))
def Ve:IFunc:=⟨2,42,[.tmp 4],e [S 4 (.nlo 1)] (e [X 9 0,S 10 (.len 9),oI 11 .add 10 1,S 12 (.mks [.int .u32 0] 11),⟨some 5,.tra 12,none,[25,27,32,33,39]⟩] (.seq (e [X 13 0,S 14 (.len 13),S 15 (.mov (ci 0))] (.block 0 (.loop Vc))) (e [S 41 (.tra 5),S 4 (.tra 41)] .ret)))⟩
def Aiw:List (Nat × Nat):=[(25,5),(27,5),(32,5),(33,5),(39,5)]
theorem uX:AR c Aiw Tryz.f189 Ve=true:=by kernel_rfl
end Go.Proofs.YtajompaehjkgkaaGreat
namespace Go.Ai
open Go.RowKit
open List renaming all_eq_true->Cb,getD_eq_getElem?_getD->Z,getElem?_map->CA
open Nat renaming le_refl->Am,zero_add->BR
open Option renaming getD_some->Gx,map_eq_some_iff->Ag,map_some->A6
open Option.some renaming injEq->Az
open Prod.mk renaming injEq->Dn
def G4(s s':Ak):Prop:=s.length=s'.length/\∀ t,A2 s t = .dead\/A2 s t=A2 s' t
theorem G4.refl(s:Ak):G4 s s:=⟨rfl,fun _ => .inr rfl⟩
theorem G4.trans{a b c:Ak}(h:G4 a b)(k:G4 b c):G4 a c:=by
 refine⟨h.1.trans k.1,fun t => ?_⟩;rcases h.2 t with h1 | h1
 ·exact .inl h1
 ·rcases k.2 t with k1 | k1
  ·exact .inl (h1.trans k1)
  ·exact .inr (h1.trans k1)
theorem G4.get{s s':Ak}(h:G4 s s'){t:Nat}{r:Reg}(hr:A2 s t=r)(hd:r ≠ .dead):A2 s' t=r:=by
 rcases h.2 t with h1 | h1
 ·exact absurd (hr.symm.trans h1) hd
 ·rw[<- h1,hr]
theorem G4.av{s s':Ak}(h:G4 s s'){o:Opd}{x:AV}(hx:o.av s=some x):o.av s'=some x:=by
 cases o with
 | c y=>exact hx
 | t n =>
  simp only[Opd.av,Opd.reg] at hx |-;split at hx
  ·rename_i y hy;cases hx;rw[h.get hy (by nofun)]
  ·cases hx
theorem G4.avs{s s':Ak}(h:G4 s s'):∀ {l:List Opd} {xs:List AV},avs s l=some xs->avs s' l=some xs
 | [],xs,hx=>hx
 | o::l,xs,hx=>by
  simp only[Go.Ai.avs] at hx |-;cases h1:o.av s with
  | none=>rw[h1] at hx;cases hx
  | some x =>
   rw[h1] at hx;rw[h.av h1];cases h2:Go.Ai.avs s l with
   | none=>rw[h2] at hx;cases hx
   | some ys =>
    rw[h2] at hx;rw[h.avs h2];exact hx
theorem G4.fill{s s':Ak}(h:G4 s s'):∀ {ps:List (Nat × Nat × Opd)} {cs cs':List AV},FG s cs ps=some cs'->FG s' cs ps=some cs'
 | [],_,_,hx=>hx
 | (off,n,o)::ps,cs,cs',hx=>by
  simp only[FG] at hx |-;cases h1:o.av s with
  | none=>rw[h1] at hx;cases hx
  | some x =>
   rw[h1] at hx;rw[h.av h1];dsimp only at hx |-;cases h2:FZ x n with
   | none=>rw[h2] at hx;cases hx
   | some ys =>
    rw[h2] at hx;dsimp only at hx |-;cases h3:Cv cs off ys with
    | none=>rw[h3] at hx;cases hx
    | some cs1 =>
     rw[h3] at hx;dsimp only at hx |-;exact h.fill hx
theorem G4.reg{s s':Ak}(h:G4 s s'){o:Opd}{r:Reg}(hx:o.reg s=r)(hd:r ≠ .dead):o.reg s'=r:=by
 cases o with
 | c y=>exact hx
 | t n=>exact h.get hx hd
theorem G4.bnd{s s':Ak}(h:G4 s s'){o:Option Opd}{d n:Nat}(hx:G2 s d o=some n):G2 s' d o=some n:=by
 cases o with
 | none=>exact hx
 | some o =>
  simp only[G2] at hx |-;split at hx
  ·rename_i k i hi;rw[h.av hi];exact hx
  ·cases hx
theorem G4.firm{s s':Ak}(h:G4 s s'){l:List Nat}(hl:(l.all fun t=>FY (A2 s t))=true):(l.all fun t=>FY (A2 s' t))=true:=by
 rw[Cb] at hl |-;intro t ht;have h1:=hl t ht;rw[h.get (r:=A2 s t) rfl (by intro e;rw[e] at h1;cases h1)];exact h1
theorem uY{F:B6}{s s':Ak}(h:G4 s s'){k:K}{p:Reg × List (Nat × Reg)}(hk:B5 F s k=some p):B5 F s' k=some p:=by
 cases k <;> simp only[B5] at hk |-
 case mov x =>
  simp only[Ag] at hk |-;obtain⟨v,hv,e⟩:=hk;exact⟨v,h.av hv,e⟩
 case pick c a b =>
  split at hk
  ·rename_i hc;rw[h.av hc];simp only[Ag] at hk |-;obtain⟨v,hv,e⟩:=hk;exact⟨v,h.av hv,e⟩
  ·rename_i hc;rw[h.av hc];simp only[Ag] at hk |-;obtain⟨v,hv,e⟩:=hk;exact⟨v,h.av hv,e⟩
  ·cases hk
 case bin op x y =>
  split at hk
  ·rename_i hx hy;rw[h.av hx,h.av hy];exact hk
  ·cases hk
 case eqb neg x y =>
  split at hk
  ·rename_i hx hy;rw[h.av hx,h.av hy];exact hk
  ·cases hk
 case un op x =>
  split at hk
  ·rename_i hx;rw[h.av hx];exact hk
  ·cases hk
 case cv k x =>
  split at hk
  ·rename_i hx;rw[h.av hx];exact hk
  ·cases hk
 case new z ks=>exact hk
 case box x ks =>
  split at hk
  ·rename_i hx;rw[h.av hx];exact hk
  ·rename_i y hne hx;rw[h.av hx];split at hk
   ·rename_i hd;cases hk;cases y <;> first | (cases hd;done) | simp only[K0,if_true]
   ·cases hk
  ·cases hk
 case bld z ps =>
  simp only[Ag] at hk |-;obtain⟨v,hv,e⟩:=hk;exact⟨v,h.fill hv,e⟩
 case bls n z ps =>
  simp only[Ag] at hk |-;obtain⟨v,hv,e⟩:=hk;exact⟨v,h.fill hv,e⟩
 case adr x d off =>
  cases hr:A2 s x <;> rw[hr] at hk <;> first | (cases hk;done) | (rw[h.get hr (by nofun)];exact hk)
 case ld x d n one =>
  cases hr:A2 s x with
  | box cs=>rw[hr] at hk;rw[h.get hr (by nofun)];exact hk
  | mem cs=>rw[hr] at hk;rw[h.get hr (by nofun)];exact hk
  | ptr d' off =>
   rw[hr] at hk;rw[h.get hr (by nofun)];dsimp only at hk |-;split at hk
   ·rename_i hd;rw[if_pos hd];cases hr2:A2 s d <;> rw[hr2] at hk <;> first | (cases hk;done) | (rw[h.get hr2 (by nofun)];exact hk)
   ·cases hk
  | val x=>rw[hr] at hk;cases hk
  | own _ _ _=>rw[hr] at hk;cases hk
  | agn _ _ _ _=>rw[hr] at hk;cases hk
  | bxl _=>rw[hr] at hk;cases hk
  | dup d=>rw[hr] at hk;cases hk
  | sub _ _ _ _=>rw[hr] at hk;cases hk
  | dead=>rw[hr] at hk;cases hk
 case st x d n v =>
  split at hk
  ·cases hk
  ·rename_i a ha;rw[h.av ha];dsimp only at hk |-;split at hk
   ·cases hk
   ·rename_i ys hys;cases hr:A2 s x with
    | box cs=>rw[hr] at hk;rw[h.get hr (by nofun)];exact hk
    | ptr d' off =>
     rw[hr] at hk;rw[h.get hr (by nofun)];dsimp only at hk |-;split at hk
     ·rename_i hd;rw[if_pos hd];cases hr2:A2 s d <;> rw[hr2] at hk <;> first | (cases hk;done) | (rw[h.get hr2 (by nofun)];exact hk)
     ·cases hk
    | mem cs=>rw[hr] at hk;cases hk
    | val x=>rw[hr] at hk;cases hk
    | own _ _ _=>rw[hr] at hk;cases hk
    | agn _ _ _ _=>rw[hr] at hk;cases hk
    | bxl _=>rw[hr] at hk;cases hk
    | dup d=>rw[hr] at hk;cases hk
    | sub _ _ _ _=>rw[hr] at hk;cases hk
    | dead=>rw[hr] at hk;cases hk
 case fld x off n one =>
  split at hk
  ·rename_i hx;rw[h.av hx];exact hk
  ·cases hk
 case ixa x i k =>
  split at hk
  ·rename_i k1 iv hi;rw[h.av hi];dsimp only at hk |-;split at hk
   ·rename_i n cs hr;rw[h.get hr (by nofun)];exact hk
   ·cases hk
  ·cases hk
 case six x i =>
  split at hk
  ·rename_i hx hi;rw[h.av hx,h.av hi];exact hk
  ·cases hk
 case ext x i =>
  split at hk
  ·rename_i hx;rw[h.av hx];exact hk
  ·cases hk
 case len x =>
  split at hk
  ·rename_i hx;rw[h.av hx];exact hk
  ·rename_i hx;rw[h.av hx];exact hk
  ·cases hk
 case mx xs =>
  split at hk
  ·rename_i hx;rw[h.avs hx];exact hk
  ·cases hk
 case mn xs =>
  split at hk
  ·rename_i hx;rw[h.avs hx];exact hk
  ·cases hk
 case call f xs =>
  split at hk
  ·rename_i hx;rw[h.avs hx];exact hk
  ·cases hk
 case clo f xs =>
  split at hk
  ·rename_i hx;rw[h.avs hx];exact hk
  ·cases hk
 case brw f x d =>
  cases hr:A2 s x <;> rw[hr] at hk <;> first | (cases hk;done) | skip
  rename_i d';rw[h.get hr (by nofun)];simp only at hk |-;by_cases hd:d'=d
  ·rw[if_pos hd] at hk |-;cases hr2:A2 s d <;> rw[hr2] at hk <;> first | (cases hk;done) | skip
   rw[h.get hr2 (by nofun)];exact hk
  ·rw[if_neg hd] at hk;cases hk
 case cpy x =>
  cases hr:A2 s x <;> rw[hr] at hk <;> first | (cases hk;done) | (rw[h.get hr (by nofun)];exact hk)
 case tra x =>
  cases hr:A2 s x <;> rw[hr] at hk <;> first | (cases hk;done) | (rw[h.get hr (by nofun)];exact hk)
 case frz x =>
  cases hr:A2 s x <;> rw[hr] at hk <;> first | (cases hk;done) | (rw[h.get hr (by nofun)];exact hk)
 case mks z n =>
  split at hk
  ·rename_i hx;rw[h.av hx];exact hk
  ·cases hk
 case blo k n z ps =>
  simp only[Ag] at hk |-;obtain⟨v,hv,e⟩:=hk;exact⟨v,h.fill hv,e⟩
 case apd ow x y k B =>
  split at hk
  ·rename_i hy;rw[h.av hy];dsimp only;cases hr:x.reg s <;> rw[hr] at hk <;> first | (cases hk;done) | (rw[h.reg hr (by nofun)];exact hk)
  ·rename_i m ys hy;rw[h.av hy];dsimp only;split at hk
   ·rename_i hl;rw[if_pos hl];cases hr:x.reg s <;> rw[hr] at hk <;> first | (cases hk;done) | (rw[h.reg hr (by nofun)];exact hk)
   ·cases hk
  ·cases hk
 case sli x lo hi mx k =>
  split at hk
  ·rename_i hx;rw[h.av hx];dsimp only;split at hk
   ·rename_i b1 b2 b3;rw[h.bnd b1,h.bnd b2,h.bnd b3];exact hk
   ·cases hk
  ·rename_i n cs hx;rw[h.av hx];dsimp only;split at hk
   ·rename_i m hh l b1 b2 b3;rw[h.bnd b1,h.bnd b2,h.bnd b3];exact hk
   ·cases hk
  ·cases hk
 case ixo x d i k =>
  split at hk
  ·rename_i k1 iv hi;rw[h.av hi];dsimp only at hk |-;split at hk
   ·rename_i n cs hr;rw[h.get hr (by nofun)];exact hk
   ·rename_i d' hr;rw[h.get hr (by nofun)];dsimp only;split at hk
    ·rename_i hd;rw[if_pos hd];split at hk
     ·rename_i k' n cs hr2;rw[h.get hr2 (by nofun)];exact hk
     ·cases hk
    ·cases hk
   ·cases hk
  ·cases hk
 case lno x d =>
  split at hk
  ·rename_i hr;rw[h.get hr (by nofun)];exact hk
  ·rename_i n cs hr;rw[h.get hr (by nofun)];exact hk
  ·rename_i d' hr;rw[h.get hr (by nofun)];dsimp only;split at hk
   ·rename_i hd;rw[if_pos hd];split at hk
    ·rename_i k' n cs hr2;rw[h.get hr2 (by nofun)];exact hk
    ·cases hk
   ·cases hk
  ·cases hk
 case nlo k=>exact hk
 case bdo y x ls =>
  split at hk
  ·rename_i b hb;rw[h.av hb];dsimp only at hk |-;split at hk
   ·rename_i k n cs hr;rw[h.get hr (by nofun)];dsimp only;split at hk
    ·rename_i hl;rw[if_pos (h.firm hl)];exact hk
    ·cases hk
   ·cases hk
  ·cases hk
 case cln f xs ls =>
  split at hk
  ·rename_i vs hvs;rw[h.avs hvs];dsimp only;split at hk
   ·rename_i hl;rw[if_pos (h.firm hl)];exact hk
   ·cases hk
  ·cases hk
 case stl x v =>
  split at hk
  ·rename_i cs hr;rw[h.get hr (by nofun)];dsimp only;split at hk
   ·rename_i b k n ds hr2;rw[h.get hr2 (by nofun)];exact hk
   ·cases hk
  ·cases hk
 case fdo x =>
  split at hk
  ·rename_i b k n cs hr;rw[h.get hr (by nofun)];exact hk
  ·cases hk
 case exo x =>
  split at hk
  ·rename_i b k n cs hr;rw[h.get hr (by nofun)];exact hk
  ·cases hk
 case slo x hi k =>
  split at hk
  ·rename_i k1 iv hiv;rw[h.av hiv];dsimp only at hk |-;split at hk
   ·rename_i k' n cs hr;rw[h.get hr (by nofun)];exact hk
   ·cases hk
  ·cases hk
 case bad=>cases hk
theorem G4.set{s s':Ak}(h:G4 s s')(d:Nat)(r:Reg):G4 (s.set d r) (s'.set d r):=by
 refine⟨by simp[h.1],fun t => ?_⟩;rw[Dl,Dl,h.1];split
 ·exact .inr rfl
 ·exact h.2 t
theorem G4.puts{s s':Ak}(h:G4 s s'):∀ (l:List (Nat × Reg)),G4 (BM s l) (BM s' l):=by
 intro l;induction l generalizing s s' with
 | nil=>exact h
 | cons p l ih=>obtain⟨t,r⟩:=p;exact ih (h.set t r)
theorem G4.put{s s':Ak}(h:G4 s s')(d:Option Nat)(r:Reg):G4 (DP s d r) (DP s' d r):=by
 cases d with
 | none=>exact h
 | some d=>exact h.set d r
theorem SF{s s':Ak}(h:G4 s s'){g:Option (Nat × Bool)}{b:Bool}(hw:G3 s g=some b):G3 s' g=some b:=by
 cases g with
 | none=>exact hw
 | some p =>
  obtain⟨t,x⟩:=p;simp only[G3] at hw |-;split at hw
  ·rename_i hr;rw[h.get hr (by nofun)];exact hw
  ·rename_i hr;rw[h.get hr (by nofun)];exact hw
  ·cases hw
theorem iP{F:B6}{o:IOp}{s s' t:Ak}(h:G4 s s')(he:FH F o s=some t):∃ t',FH F o s'=some t'/\G4 t t':=by
 have h:G4 (kill s o.ks) (kill s' o.ks):=h.puts _;simp only[FH,HI] at he |-;generalize kill s o.ks=s at *
 generalize kill s' o.ks=s' at *
 split at he
 ·cases he
 ·rename_i hw;cases he;rw[SF h hw];exact⟨_,rfl,h.put _ _⟩
 ·rename_i hw;rw[SF h hw];split at he
  ·cases he
  ·rename_i r l hk;cases he;rw[uY h hk];exact⟨_,rfl,(h.puts l).put _ _⟩
theorem SG{F:B6}:∀ {l:List IOp} {s s' t:Ak},G4 s s'->DZ F l s=some t->∃ t',DZ F l s'=some t'/\G4 t t'
 | [],s,s',t,h,he=>by
  simp only[DZ,Az] at he;subst he;exact⟨s',rfl,h⟩
 | o::l,s,s',t,h,he=>by
  simp only[DZ] at he |-;cases h1:FH F o s with
  | none=>rw[h1] at he;cases he
  | some s1 =>
   rw[h1] at he;obtain⟨s2,h2,h3⟩:=iP h h1;rw[h2];exact SG h3 he
theorem uZ{F:B6}:∀ (n:Nat) {c:ICode} {s s' t:Ak} {ex:Ex},G4 s s'->Ch F n c s=some (ex,t)->∃ t',Ch F n c s'=some (ex,t')/\G4 t t':=by
 intro n;induction n with
 | zero=>intro c s s' t ex _ he;simp[Ch] at he
 | succ n ih =>
  intro c s s' t ex h he;cases c with
  | skip=>simp only[Ch,Az,Dn] at he |-;obtain⟨rfl,rfl⟩:=he;exact⟨s',⟨rfl,rfl⟩,h⟩
  | exit id=>simp only[Ch,Az,Dn] at he |-;obtain⟨rfl,rfl⟩:=he;exact⟨s',⟨rfl,rfl⟩,h⟩
  | ret=>simp only[Ch,Az,Dn] at he |-;obtain⟨rfl,rfl⟩:=he;exact⟨s',⟨rfl,rfl⟩,h⟩
  | region d ops =>
   simp only[Ch,Ag] at he |-;obtain⟨s1,h1,e⟩:=he;cases e;obtain⟨t',h2,h3⟩:=SG h h1;exact⟨t',⟨t',h2,rfl⟩,h3⟩
  | seq a b =>
   simp only[Ch] at he |-;cases h1:Ch F n a s with
   | none=>rw[h1] at he;cases he
   | some p =>
    obtain⟨e1,s1⟩:=p;rw[h1] at he;obtain⟨s2,h2,h3⟩:=ih h h1;rw[h2];cases e1 with
    | norm=>exact ih h3 he
    | exit i=>cases he;exact⟨s2,rfl,h3⟩
    | ret=>cases he;exact⟨s2,rfl,h3⟩
  | cond c a b =>
   simp only[Ch] at he |-;have key:∀ v,IY s c=some v->IY s' c=some v:=by
    intro v hv;unfold IY at hv |-;split at hv
    ·rename_i b' hb;rw[h.av hb];exact hv
    ·cases hv
   split at he
   ·rename_i hc;rw[key _ hc];exact ih h he
   ·rename_i hc;rw[key _ hc];exact ih h he
   ·cases he
  | block id c =>
   simp only[Ch] at he |-;cases h1:Ch F n c s with
   | none=>rw[h1] at he;cases he
   | some p =>
    obtain⟨e1,s1⟩:=p;rw[h1] at he;obtain⟨s2,h2,h3⟩:=ih h h1;rw[h2];cases e1 with
    | norm=>cases he;exact⟨s2,rfl,h3⟩
    | ret=>cases he;exact⟨s2,rfl,h3⟩
    | exit i =>
     dsimp only at he |-;split at he
     ·rename_i hi;cases he;exact⟨s2,by rw[if_pos hi],h3⟩
     ·rename_i hi;cases he;exact⟨s2,by rw[if_neg hi],h3⟩
  | scope c=>simp only[Ch] at he |-;exact ih h he
  | loop c =>
   simp only[Ch] at he |-;cases h1:Ch F n c s with
   | none=>rw[h1] at he;cases he
   | some p =>
    obtain⟨e1,s1⟩:=p;rw[h1] at he;obtain⟨s2,h2,h3⟩:=ih h h1;rw[h2];cases e1 with
    | norm=>exact ih h3 he
    | exit i=>cases he;exact⟨s2,rfl,h3⟩
    | ret=>cases he;exact⟨s2,rfl,h3⟩
def W(prog:Nat->Option IFunc)(c:ICode)(s:Ak)(ex:Ex)(t:Ak):Prop:=∃ t',D0 prog c s ex t'/\G4 t t'
section
variable {prog:Nat->Option IFunc}
theorem D0.w{c:ICode}{s t:Ak}{ex:Ex}(h:D0 prog c s ex t):W prog c s ex t:=⟨t,h,G4.refl t⟩
theorem D0.mono{c:ICode}{s s' t:Ak}{ex:Ex}(h:D0 prog c s ex t)(hs:G4 s s'):W prog c s' ex t:=by
 obtain⟨n,h⟩:=h;obtain⟨t',h1,h2⟩:=uZ n hs h;exact⟨t',⟨n,h1⟩,h2⟩
theorem W.weak{c:ICode}{s s' t t':Ak}{ex:Ex}(h:W prog c s ex t)(hs:G4 s s')(ht:G4 t' t):W prog c s' ex t':=by
 obtain⟨t1,h1,h2⟩:=h;obtain⟨t2,h3,h4⟩:=h1.mono hs;exact⟨t2,h3,(ht.trans h2).trans h4⟩
theorem W.seq{a b:ICode}{s s1 t:Ak}{ex:Ex}(h1:W prog a s .norm s1)(h2:W prog b s1 ex t):W prog (.seq a b) s ex t:=by
 obtain⟨u,k1,k2⟩:=h1;obtain⟨v,k3,k4⟩:=h2.weak k2 (G4.refl t);exact⟨v,D0.seq k1 k3,k4⟩
theorem AQ{a b:ICode}{s t:Ak}{ex:Ex}(h1:W prog a s ex t)(hex:ex ≠ .norm):W prog (.seq a b) s ex t:=by
 obtain⟨u,k1,k2⟩:=h1;exact⟨u,Ew k1 hex,k2⟩
theorem D0.inv{prog:Nat->Option IFunc}{a b:ICode}{s t:Ak}{ex:Ex}(h:D0 prog (.seq a b) s ex t):(D0 prog a s ex t/\ex ≠ .norm)\/∃ v,D0 prog a s .norm v/\D0 prog b v ex t:=by
 obtain⟨n,h⟩:=h;cases n with
 | zero=>simp[Ch] at h
 | succ n =>
  simp only[Ch] at h;have up:∀ {c:ICode} {s:Ak} {q:Ex × Ak},Ch (M_ prog (n+1)) n c s=some q->Ch (M_ prog (n+1)) (n+1) c s=some q:=fun hh=>Fm (Er prog (Am _)) (Nat.le_succ n) hh;split at h
  ·rename_i v hv;exact .inr ⟨v,⟨n+1,up hv⟩,⟨n+1,up h⟩⟩
  ·rename_i hne;refine .inl ⟨⟨n+1,up h⟩,?_⟩;intro e;subst e;exact hne _ h
theorem P{a b r:ICode}{s t:Ak}{ex:Ex}(h:W prog (.seq (.seq a b) r) s ex t):W prog (.seq a (.seq b r)) s ex t:=by
 obtain⟨u,k1,k2⟩:=h;refine⟨u,?_,k2⟩;rcases k1.inv with ⟨h1,hne⟩ | ⟨v,h1,h2⟩
 ·rcases h1.inv with ⟨h3,_⟩ | ⟨x,h3,h4⟩
  ·exact Ew h3 hne
  ·exact D0.seq h3 (Ew h4 hne)
 ·rcases h1.inv with ⟨_,hne⟩ | ⟨x,h3,h4⟩
  ·exact absurd rfl hne
  ·exact D0.seq h3 (D0.seq h4 h2)
theorem Ar{p i l r:ICode}{s t:Ak}{ex:Ex}(h:W prog (.seq (.seq p i) (.seq l r)) s ex t):W prog (.seq p (.seq (.seq i l) r)) s ex t:=by
 obtain⟨u,k1,k2⟩:=h;refine⟨u,?_,k2⟩;rcases k1.inv with ⟨h1,hne⟩ | ⟨v,h1,h2⟩
 ·rcases h1.inv with ⟨h3,_⟩ | ⟨x,h3,h4⟩
  ·exact Ew h3 hne
  ·exact D0.seq h3 (Ew (Ew h4 hne) hne)
 ·rcases h1.inv with ⟨_,hne⟩ | ⟨x,h3,h4⟩
  ·exact absurd rfl hne
  ·rcases h2.inv with ⟨h5,hne⟩ | ⟨y,h5,h6⟩
   ·exact D0.seq h3 (Ew (D0.seq h4 h5) hne)
   ·exact D0.seq h3 (D0.seq (D0.seq h4 h5) h6)
theorem W.scope{c:ICode}{s t:Ak}{ex:Ex}(h:W prog c s ex t):W prog (.scope c) s ex t:=by
 obtain⟨u,k1,k2⟩:=h;exact⟨u,D0.scope k1,k2⟩
theorem W.block{id:Nat}{c:ICode}{s t:Ak}(h:W prog c s (.exit id) t):W prog (.block id c) s .norm t:=by
 obtain⟨u,k1,k2⟩:=h;exact⟨u,D0.block k1,k2⟩
theorem De{id:Nat}{c:ICode}{s t:Ak}(h:W prog c s .ret t):W prog (.block id c) s .ret t:=by
 obtain⟨u,k1,k2⟩:=h;exact⟨u,L3 k1,k2⟩
theorem Ci{id:Nat}{c:ICode}{s t:Ak}(h:W prog c s .norm t):W prog (.block id c) s .norm t:=by
 obtain⟨u,k1,k2⟩:=h;exact⟨u,K7 k1,k2⟩
theorem W.loop{c:ICode}{s s1 t:Ak}{ex:Ex}(h1:W prog c s .norm s1)(h2:W prog (.loop c) s1 ex t):W prog (.loop c) s ex t:=by
 obtain⟨u,k1,k2⟩:=h1;obtain⟨v,k3,k4⟩:=h2.weak k2 (G4.refl t);exact⟨v,D0.loop k1 k3,k4⟩
theorem Al{c:ICode}{s t:Ak}{ex:Ex}(h1:W prog c s ex t)(hex:ex ≠ .norm):W prog (.loop c) s ex t:=by
 obtain⟨u,k1,k2⟩:=h1;exact⟨u,MI k1 hex,k2⟩
theorem iQ{s s':Ak}(h:G4 s s'){r:IRes}{x:AV}(hr:EG s r=some x):EG s' r=some x:=by
 cases r with
 | tmp t =>
  simp only[EG] at hr |-;split at hr
  ·rename_i y hy;rw[h.get hy (by nofun)];exact hr
  ·rename_i k n cs hy;rw[h.get hy (by nofun)];exact hr
  ·cases hr
 | cell t n one =>
  simp only[EG] at hr |-;split at hr
  ·rename_i y hy;rw[h.get hy (by nofun)];exact hr
  ·cases hr
theorem N0{s s':Ak}(h:G4 s s'):∀ {l:List IRes} {xs:List AV},DG s l=some xs->DG s' l=some xs
 | [],xs,hx=>hx
 | r::l,xs,hx=>by
  simp only[DG] at hx |-;cases h1:EG s r with
  | none=>rw[h1] at hx;cases hx
  | some x =>
   rw[h1] at hx;rw[iQ h h1];cases h2:DG s l with
   | none=>rw[h2] at hx;cases hx
   | some ys =>
    rw[h2] at hx;rw[N0 h h2];exact hx
theorem YN{s s':Ak}(h:G4 s s'){l:List IRes}{x:AV}(hx:Hp s l=some x):Hp s' l=some x:=by
 unfold Hp at hx |-;split at hx
 ·rename_i t;split at hx
  ·rename_i k n cs hr;rw[h.get hr (by nofun)];exact hx
  ·rename_i b k n cs hr;rw[h.get hr (by nofun)];exact hx
  ·cases hx
 ·rename_i t u;split at hx
  ·rename_i k n cs hr;rw[h.get hr (by nofun)];dsimp only;split at hx
   ·rename_i b hru;rw[h.get hru (by nofun)];exact hx
   ·cases hx
  ·cases hx
 ·rename_i t n one;split at hx
  ·rename_i d hr;rw[h.get hr (by nofun)];dsimp only;split at hx
   ·rename_i b k m cs hr2;rw[h.get hr2 (by nofun)];exact hx
   ·cases hx
  ·cases hx
 ·cases hx
theorem Q7{s s':Ak}(h:G4 s s'){l:List IRes}{xs:List AV}(hf:Hp s l=none)(hx:DG s l=some xs):Hp s' l=none:=by
 cases l with
 | nil=>rfl
 | cons r l =>
  cases r with
  | cell t n one =>
   cases l with
   | cons _ _=>rfl
   | nil =>
    simp only[Hp] at hf |-;cases hr:A2 s t with
    | box cs=>rw[h.get hr (by nofun)]
    | val x=>simp only[DG,EG,hr] at hx;cases hx
    | own k n cs=>simp only[DG,EG,hr] at hx;cases hx
    | agn b k n cs=>simp only[DG,EG,hr] at hx;cases hx
    | bxl _=>simp only[DG,EG,hr] at hx;cases hx
    | ptr _ _=>simp only[DG,EG,hr] at hx;cases hx
    | mem _=>simp only[DG,EG,hr] at hx;cases hx
    | dup _=>simp only[DG,EG,hr] at hx;cases hx
    | sub _ _ _ _=>simp only[DG,EG,hr] at hx;cases hx
    | dead=>simp only[DG,EG,hr] at hx;cases hx
  | tmp t =>
   cases l with
   | cons r2 l2 =>
    cases r2 with
    | cell _ _ _=>rfl
    | tmp u =>
     cases l2 with
     | cons _ _=>rfl
     | nil =>
      have hru:∃ r,EG s (.tmp u)=some r:=by
       cases h1:EG s (.tmp t) with
       | none=>simp only[DG,h1] at hx;cases hx
       | some x1 =>
        cases h2:EG s (.tmp u) with
        | none=>simp only[DG,h1,h2] at hx;cases hx
        | some x2=>exact⟨x2,rfl⟩
      have hrt:∃ r,EG s (.tmp t)=some r:=by
       cases h1:EG s (.tmp t) with
       | none=>simp only[DG,h1] at hx;cases hx
       | some x1=>exact⟨x1,rfl⟩
      obtain⟨_,hru⟩:=hru;obtain⟨_,hrt⟩:=hrt;simp only[Hp] at hf |-;have gt:A2 s' t=A2 s t:=by
       have hne:A2 s t ≠ .dead:=by
        intro e;simp only[EG,e] at hrt;cases hrt
       exact h.get rfl hne
      have gu:A2 s' u=A2 s u:=by
       have hne:A2 s u ≠ .dead:=by
        intro e;simp only[EG,e] at hru;cases hru
       exact h.get rfl hne
      rw[gt,gu];exact hf
   | nil =>
    simp only[Hp] at hf |-;cases hr:A2 s t with
    | val x=>rw[h.get hr (by nofun)]
    | own k n cs=>rw[hr] at hf;cases hf
    | agn b k n cs=>rw[hr] at hf;cases hf
    | bxl _=>simp only[DG,EG,hr] at hx;cases hx
    | box _=>simp only[DG,EG,hr] at hx;cases hx
    | ptr _ _=>simp only[DG,EG,hr] at hx;cases hx
    | mem _=>simp only[DG,EG,hr] at hx;cases hx
    | dup _=>simp only[DG,EG,hr] at hx;cases hx
    | sub _ _ _ _=>simp only[DG,EG,hr] at hx;cases hx
    | dead=>simp only[DG,EG,hr] at hx;cases hx
theorem p{f:Nat}{fn:IFunc}{args:List AV}{s:Ak}{ex:Ex}{r:AV}(hf:prog f=some fn)(hl:args.length=fn.params)(h:W prog fn.body (Hu fn args) ex s)
  (hex:∀ i,ex ≠ .exit i) (hr:Hi s fn.res=some r):H prog f args r:=by
 obtain⟨u,k1,k2⟩:=h;refine Hk hf hl k1 hex ?_;unfold Hi at hr |-;cases hfr:Hp s fn.res with
 | some y=>rw[hfr] at hr;rw[YN k2 hfr];exact hr
 | none =>
  rw[hfr] at hr;dsimp only at hr;split at hr
  ·rename_i y hy;cases hr;rw[Q7 k2 hfr hy,N0 k2 hy]
  ·rename_i ys hne hy;cases hr;rw[Q7 k2 hfr hy,N0 k2 hy];cases ys with
   | nil=>rfl
   | cons y l =>
    cases l with
    | nil=>exact (hne y rfl).elim
    | cons _ _=>rfl
  ·cases hr
def Vf(ks:List Nat)(s:Ak):Ak:=s.zipIdx.map fun p=>if ks.contains p.2 then p.1 else .dead
theorem Xt(ks:List Nat)(s:Ak):G4 (Vf ks s) s:=by
 refine⟨by simp[Vf],fun t => ?_⟩;simp only[A2,Vf,Z,CA,List.getElem?_zipIdx];cases h:s[t]? with
 | none=>simp
 | some r =>
  simp only[A6,BR,Gx];split
  ·exact .inr rfl
  ·exact .inl rfl
def Aix(prog:Nat->Option IFunc)(T:Cp)(n:Nat)(c:ICode)(s:Ak)(sc:List Sc)(ks:List Nat):Option (Ex × Ak × List Prop) :=
 match GS prog T n c s sc [] with
 | some ((ex,t),[],ps)=>some (ex,Vf ks t,ps)
 | _=>none
theorem DH{T:Cp}(hT:B_ prog T)(n:Nat){c:ICode}{s t:Ak}{ex:Ex}(sc:List Sc)(ks:List Nat){ps:List Prop}
  (h:Aix prog T n c s sc ks=some (ex,t,ps)) (hp:FW ps):W prog c s ex t:=by
 unfold Aix at h;split at h
 ·rename_i ex' t' ps' h1;cases h;exact⟨_,Lb hT n sc h1 hp,Xt ks _⟩
 ·cases h
theorem C{T:Cp}(hT:B_ prog T)(n:Nat){c:ICode}{s t:Ak}{ex:Ex}(sc:List Sc)(ks:List Nat){ps:List Prop}
  (hp:FW ps) (h:Aix prog T n c s sc ks=some (ex,t,ps):=by kernel_rfl):W prog c s ex t:=DH hT n sc ks h hp
end
theorem L{p:Prop}{ps:List Prop}(h:p)(hs:FW ps):FW (p::ps):=⟨h,hs⟩
theorem a0:FW []:=trivial
theorem i{prog:Nat->Option IFunc}{T:Cp}(hT:B_ prog T){f:Nat}{fn:IFunc}(hf:prog f=some fn)(n:Nat){args:List AV}(hl:args.length=fn.params)(sc:List Sc){r:AV}{ps:List Prop}
  (hp:FW ps) (h:Aea prog T n fn args sc=some (r,ps):=by kernel_rfl):H prog f args r:=Bp hT hf n hl sc h hp
theorem Ff:false=false:=rfl
theorem HE:¬ (32:Int)<0:=by decide
theorem G0:true=true:=rfl
theorem W6:¬ (63:Int)<0:=by decide
theorem E3:¬ (32:Int)=0:=by decide
theorem Fb{b:Bool}(h:b=true):(!b)=false:=by rw[h];rfl
theorem YO{b:Bool}(h:b=false):(!b)=true:=by rw[h];rfl
end Go.Ai
