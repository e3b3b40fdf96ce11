/- Texts of the proof of RootOrder: part 5 of 13. -/
import Derived.Test.YtajompaehjkgkaaGreatProg
import Derived.KernelRfl
import Derived.Test.YtajompaehjkgkaaGreatRod4
namespace Go.Proofs.YtajompaehjkgkaaGreat
open Go.Ai
set_option maxRecDepth 100000
open Go.Ai.AV renaming bool->F,int->D,sl->H
open Go.IntKind renaming i64->O,u32->Ad,u64->B
open Go.Proofs.Tryz renaming f4->UE,prog->A9p
def Yk:ICode := .seq (e [C 69 10,C 70 7,S 71 (.len 70),c 72 .lss 69 71] (.cond 72 .skip (.exit 2))) (.seq (.block 3 (.seq (.region true [C 76 5,C 77 9,q 78 76 77 7,g 79 78 78 7,C 80 7,C 81 10,q 82 80 81 7,g 83 82 82 7,b 84 23 [79,83],C 75 84,p 85 75 0,p 86 75 1,C 11 85,C 12 86]) (.seq (.region true [C 88 7,C 89 10,q 90 88 89 7,g 91 90 90 7,C 92 5,C 93 9,q 94 92 93 7,g 95 94 94 7,b 96 23 [91,95],C 87 96,p 97 87 0,p 98 87 1,C 13 97,C 14 98]) (.seq (.region true [C 99 5,C 100 9,q 101 99 100 7,g 102 101 101 7,b 103 20 [102],C 104 7,C 105 10,q 106 104 105 7,g 107 106 106 7,b 108 20 [107],b 109 19 [103,108],C 15 109]) (e [C 110 12,h 111 .neq 110 0,C 112 111,a 113 (.mov 14) 112 false,a 114 (.bin .neq 113 (i 0)) 112 false,S 115 (.pick 112 (r true) 114),C 116 115,a 117 (.mov 11) 116 false,a 118 (.mov 15) 116 false,a 119 (.bin .neq 117 118) 116 false,S 120 (.pick 116 (r true) 119),C 121 120,a 122 (.mov 13) 121 false,a 123 (.mov 15) 121 false,a 124 (.un .neg 123) 121 false,a 125 (.bin .neq 122 124) 121 false,S 126 (.pick 121 (r true) 125)] (.cond 126 (e [S 4 (.mov (r false))] .ret) .skip)))))) (rg [C 73 10,h 74 .add 73 1,C 10 74]))
def wB:ICode := .seq (e [C 63 9,C 64 5,S 65 (.len 64),c 66 .lss 63 65] (.cond 66 .skip (.exit 0))) (.seq (.block 1 (e [S 10 (.mov (i 0))] (.block 2 (.loop Yk)))) (rg [C 67 9,h 68 .add 67 1,C 9 68]))
def UZ:IFunc:=⟨2,127,[.tmp 4],e [S 4 (.mov (r false))] (.seq (e [b 16 12 [],S 17 (.un .not 16)] (.cond 17 (e [S 4 (.mov (r false))] .ret) .skip)) (.seq (e [C 18 0,S 19 (.len 18),h 20 .gtr 19 6,C 21 20,a 22 (.mov 1) 21 false,a 23 (.len 22) 21 false,a 24 (.bin .gtr 23 (i 6)) 21 false,S 25 (.pick 21 (r true) 24),C 26 25,a 27 (.mov 0) 26 false,a 28 (.call 13 [27]) 26 false,a 29 (.un .not 28) 26 false,S 30 (.pick 26 (r true) 29),C 31 30,a 32 (.mov 1) 31 false,a 33 (.call 13 [32]) 31 false,a 34 (.un .not 33) 31 false,S 35 (.pick 31 (r true) 34),C 36 35,a 37 (.mov 0) 36 false,a 38 (.call 21 [37]) 36 false,a 39 (.bin .lss 38 (i 1)) 36 false,S 40 (.pick 36 (r true) 39),C 41 40,a 42 (.mov 1) 41 false,a 43 (.call 21 [42]) 41 false,a 44 (.bin .lss 43 (i 1)) 41 false,S 45 (.pick 41 (r true) 44)] (.cond 45 (e [b 46 12 [],C 4 46] .ret) .skip)) (e [C 48 0,b 49 22 [48],C 47 49,p 50 47 0,p 51 47 1,C 5 50,C 6 51] (e [C 53 1,b 54 22 [53],C 52 54,p 55 52 0,p 56 52 1,C 7 55,C 8 56] (.seq (e [C 57 6,S 58 (.un .not 57),C 59 58,a 60 (.mov 8) 59 false,a 61 (.un .not 60) 59 false,S 62 (.pick 59 (r true) 61)] (.cond 62 (e [S 4 (.mov (r false))] .ret) .skip)) (.seq (e [S 9 (.mov (i 0))] (.block 0 (.loop wB))) (e [S 4 (.mov (r true))] .ret)))))))⟩
def Yr4:List (Nat × Nat):=[]
theorem Azn:AY A9p Yr4 UE UZ=true:=by kernel_rfl
def tS:IFunc:=⟨0,116,[.tmp 0],e [S 0 (.mov (r false))] (e [S 14 (.bls 4 [D O 0,D O 0,D O 0,D O 0] [(0,1,.c (D O 0)),(1,1,.c (D O (-1))),(2,1,.c (D O 0)),(3,1,.c (D O 1))]),b 15 47 [14],S 16 (.call 50 [.c (D O (-1)),.c (D O 0)]),S 17 (.call 50 [.c (D O 2),.c (D O 0)]),b 18 15 [15,16,17],C 13 18,p 19 13 0,p 20 13 1,C 1 19,C 2 20] (e [S 22 (.bls 3 [D O 0,D O 0,D O 0] [(0,1,.c (D O (-2))),(1,1,.c (D O 0)),(2,1,.c (D O 1))]),b 23 47 [22],S 24 (.call 50 [.c (D O 0),.c (D O 0)]),S 25 (.call 50 [.c (D O 2),.c (D O 0)]),b 26 15 [23,24,25],C 21 26,p 27 21 0,p 28 21 1,C 3 27,C 4 28] (e [S 30 (.bls 5 [D O 0,D O 0,D O 0,D O 0,D O 0] [(0,1,.c (D O (-4))),(1,1,.c (D O 0)),(2,1,.c (D O 0)),(3,1,.c (D O 0)),(4,1,.c (D O 1))]),b 31 47 [30],S 32 (.call 50 [.c (D O 0),.c (D O 0)]),S 33 (.call 50 [.c (D O 5),.c (D O 0)]),b 34 15 [31,32,33],C 29 34,p 35 29 0,p 36 29 1,C 5 35,C 6 36] (.seq (e [C 37 2,h 38 .neq 37 0,C 39 38,a 40 (.mov 4) 39 false,a 41 (.bin .neq 40 (i 0)) 39 false,S 42 (.pick 39 (r true) 41),C 43 42,a 44 (.mov 6) 43 false,a 45 (.bin .neq 44 (i 0)) 43 false,S 46 (.pick 43 (r true) 45),C 47 46,a 48 (.mov 1) 47 false,a 49 (.len 48) 47 false,a 50 (.bin .neq 49 (i 2)) 47 false,S 51 (.pick 47 (r true) 50),C 52 51,a 53 (.mov 3) 52 false,a 54 (.len 53) 52 false,a 55 (.bin .neq 54 (i 1)) 52 false,S 56 (.pick 52 (r true) 55),C 57 56,a 58 (.mov 5) 57 false,a 59 (.len 58) 57 false,a 60 (.bin .neq 59 (i 1)) 57 false,S 61 (.pick 57 (r true) 60)] (.cond 61 (e [S 0 (.mov (r false))] .ret) .skip)) (e [C 63 3,S 64 (.ixa 63 (i 0) 7),g 65 64 64 7,S 66 (.call 25 [65,.c (D O 1)]),C 62 66,p 67 62 0,p 68 62 1,S 7 (.new [F false,H 0 []] []),k 7 7 2 67,C 8 68] (.seq (.region true [C 70 3,S 71 (.ixa 70 (i 0) 7),g 72 71 71 7,C 73 5,S 74 (.ixa 73 (i 0) 7),g 75 74 74 7,b 76 23 [72,75],C 69 76,p 77 69 0,p 78 69 1,C 9 77,C 10 78]) (.seq (.region true [C 80 1,S 81 (.ixa 80 (i 1) 7),g 82 81 81 7,S 83 (.call 50 [.c (D O 1),.c (D O 0)]),b 84 24 [82,83],C 79 84,p 85 79 0,p 86 79 1,C 11 85,C 12 86]) (.seq (.region true [C 87 8,h 88 .eql 87 0,C 89 88,a 90 (.mov 10) 89 true,a 91 (.bin .eql 90 (i 0)) 89 true,S 92 (.pick 89 91 (r false)),C 93 92,a 94 (.mov 12) 93 true,a 95 (.bin .eql 94 (i 0)) 93 true,S 96 (.pick 93 95 (r false)),C 97 96,a 98 (.ld 7 7 2 false) 97 true,a 99 (.call 49 [.c (D O 2)]) 97 true,a 100 (.call 28 [98,99]) 97 true,S 101 (.pick 97 100 (r false)),C 102 101,a 103 (.mov 9) 102 true,a 104 (.bin .eql 103 (i 0)) 102 true,S 105 (.pick 102 104 (r false)),C 106 105,a 107 (.mov 11) 106 true,a 108 (.bin .eql 107 (i 0)) 106 true,S 109 (.pick 106 108 (r false)),C 110 109,a 111 (.mov 1) 110 true,a 112 (.ixa 111 (i 0) 7) 110 true,a 113 (.ld 112 112 7 false) 110 true,a 114 (.call 18 [113]) 110 true,S 115 (.pick 110 114 (r false)),C 0 115]) .ret))))))))⟩
def A5d:List (Nat × Nat):=[]
theorem Aik:AY A9p A5d Tryz.f12 tS=true:=by kernel_rfl
def Oe:ICode := .seq (e [C 7 3,C 8 0,S 9 (.len 8),c 10 .lss 7 9] (.cond 10 .skip (.exit 0))) (.seq (.block 1 (e [C 13 0,C 14 3,q 15 13 14 2,g 16 15 15 2,b 17 51 [16],h 18 .gtr 17 100,C 19 18,a 20 (.mov 0) 19 false,a 21 (.mov 3) 19 false,a 22 (.ixa 20 21 2) 19 false,a 23 (.adr 22 28 1) 19 false,a 24 (.ld 23 23 1 true) 19 false,a 25 (.len 24) 19 false,a 26 (.bin .gtr 25 (i 5)) 19 false,S 27 (.pick 19 (r true) 26)] (.cond 27 (e [S 2 (.mov (r false))] .ret) .skip))) (rg [C 11 3,h 12 .add 11 1,C 3 12]))
def U_:IFunc:=⟨1,28,[.tmp 2],e [S 2 (.mov (r false))] (.seq (e [C 4 0,S 5 (.len 4),h 6 .gtr 5 9] (.cond 6 (e [S 2 (.mov (r false))] .ret) .skip)) (.seq (e [S 3 (.mov (i 0))] (.block 0 (.loop Oe))) (e [S 2 (.mov (r true))] .ret)))⟩
def A5e:List (Nat × Nat):=[(23,28)]
theorem Ail:AY A9p A5e Tryz.f13 U_=true:=by kernel_rfl
def Va:ICode:=e [c 48 .lss 47 46] (.seq (.cond 48 .skip (.exit 1)) (.seq (.block 2 (e [q 49 45 47 7,g 50 49 49 7,S 12 (.new [H 0 [],F false,H 0 [],D O 0,F false,H 0 [],D O 0] [51,56]),k 12 12 7 50] (.seq (e [S 51 (.adr 12 12 0),S 52 (.ld 51 12 1 true),b 53 52 [52],S 54 (.un .not 53)] (.cond 54 (rg [C 55 0,S 56 (.adr 12 12 0),k 56 12 1 55]) .skip)) (rg [S 57 (.tra 10),g 58 12 12 7,b 59 57 [58],S 60 (.bls 1 [H 0 [],F false,H 0 [],D O 0,F false,H 0 [],D O 0] [(0,7,.t 59)]),S 61 (.apd true 57 60 7 1048576),S 10 (.tra 61)])))) (rg [h 62 .add 47 1,C 47 62])))
def Yl:IFunc:=⟨3,64,[.tmp 6,.tmp 7],e [S 4 (.box 1 []),S 5 (.box 2 []),S 6 (.nlo 7),S 7 (.mov (i 0))] (.seq (.block 0 (e [C 14 0,b 15 52 [14],S 16 (.un .not 15),C 13 16] (.cond 13 (e [S 6 (.nlo 7),S 7 (.mov (i 2))] .ret) (e [C 18 0,b 19 53 [18],h 20 .lss 19 0,C 17 20] (.cond 17 (e [S 6 (.nlo 7),S 7 (.mov (i 3))] .ret) (e [g 22 4 4 3,b 23 54 [22],S 24 (.un .not 23),C 25 24,a 26 (.ld 5 5 3 false) 25 false,a 27 (.call 54 [26]) 25 false,a 28 (.un .not 27) 25 false,S 29 (.pick 25 (r true) 28),C 30 29,a 31 (.ld 4 4 3 false) 30 false,a 32 (.ld 5 5 3 false) 30 false,a 33 (.call 55 [31,32]) 30 false,a 34 (.bin .gtr 33 (i 0)) 30 false,S 35 (.pick 30 (r true) 34),C 21 35] (.cond 21 (e [S 6 (.nlo 7),S 7 (.mov (i 1))] .ret) .skip))))))) (e [C 37 0,g 38 4 4 3,g 39 5 5 3,S 40 (.call 56 [37,38,39,.c (D O 896)]),C 36 40,p 41 36 0,p 42 36 1,C 8 41,C 9 42] (.seq (e [C 43 9,S 44 (.un .not 43)] (.cond 44 (e [S 6 (.nlo 7),S 7 (.mov (i 9))] .ret) .skip)) (e [S 10 (.nlo 7)] (.seq (e [C 45 8,S 46 (.len 45),S 47 (.mov (i 0))] (.block 1 (.loop Va))) (e [S 63 (.tra 10),S 6 (.tra 63),S 7 (.mov (i 0))] .ret))))))⟩
def A5f:List (Nat × Nat):=[(51,12),(56,12)]
theorem Aim:AY A9p A5f Tryz.f15 Yl=true:=by kernel_rfl
def Of:IFunc:=⟨1,55,[.tmp 2],e [S 1 (.box 0 [4,9,15,21,26,28,33,36,42,46,50]),S 2 (.mov (r false))] (.seq (e [S 4 (.adr 1 1 0),S 5 (.ld 4 1 1 true),b 6 52 [5],S 7 (.un .not 6),C 8 7,a 9 (.adr 1 1 0) 8 false,a 10 (.ld 9 1 1 true) 8 false,a 11 (.call 53 [10]) 8 false,a 12 (.bin .lss 11 (i 1)) 8 false,S 13 (.pick 8 (r true) 12),C 14 13,a 15 (.adr 1 1 1) 14 false,a 16 (.ld 15 1 3 false) 14 false,a 17 (.call 64 [16]) 14 false,a 18 (.un .not 17) 14 false,S 19 (.pick 14 (r true) 18),C 20 19,a 21 (.adr 1 1 4) 20 false,a 22 (.ld 21 1 3 false) 20 false,a 23 (.call 64 [22]) 20 false,a 24 (.un .not 23) 20 false,S 25 (.pick 20 (r true) 24)] (.cond 25 (e [S 2 (.mov (r false))] .ret) .skip)) (.seq (e [S 26 (.adr 1 1 1),g 27 26 1 3,S 28 (.adr 1 1 4),g 29 28 1 3,b 30 55 [27,29]] (.block 0 (e [h 32 .eql 30 0,C 31 32] (.cond 31 (.seq (.region true [S 33 (.adr 1 1 0),S 34 (.ld 33 1 1 true),b 35 66 [34],S 36 (.adr 1 1 1),g 37 36 1 3,b 38 65 [35,37],h 39 .eql 38 0,C 2 39]) .ret) (e [h 41 .eql 30 1,C 40 41] (.cond 40 (e [S 2 (.mov (r false))] .ret) .skip)))))) (e [S 42 (.adr 1 1 0),S 43 (.ld 42 1 1 true),b 44 67 [43],C 3 44] (.seq (.region true [C 45 3,S 46 (.adr 1 1 1),g 47 46 1 3,b 48 68 [45,47],C 49 3,S 50 (.adr 1 1 4),g 51 50 1 3,b 52 68 [49,51],c 53 .sub 48 52,h 54 .eql 53 1,C 2 54]) .ret))))⟩
def A5g:List (Nat × Nat):=[(4,1),(9,1),(15,1),(21,1),(26,1),(28,1),(33,1),(36,1),(42,1),(46,1),(50,1)]
theorem Ain:AY A9p A5g Tryz.f18 Of=true:=by kernel_rfl
def KO:ICode:=e [C 70 5,h 71 .geq 70 8,C 72 71,a 73 (.ld 2 2 7 false) 72 true,a 74 (.ld 3 3 7 false) 72 true,a 75 (.call 71 [73,74]) 72 true,S 76 (.pick 72 75 (r false))] (.cond 76 (.seq (e [S 77 (.adr 2 2 1),g 78 77 2 3,S 79 (.adr 3 3 1),g 80 79 3 3,b 81 33 [78,80],h 82 .lss 81 0] (.cond 82 (e [S 4 (.mov (i (-1)))] .ret) .skip)) (e [S 4 (.mov (i 1))] .ret)) .skip)
def GU:ICode := .seq (.region true [C 45 5,h 46 .eql 45 8,C 47 46,a 48 (.ld 2 2 7 false) 47 true,a 49 (.adr 2 2 0) 47 true,a 50 (.ld 49 2 1 true) 47 true,a 51 (.adr 3 3 0) 47 true,a 52 (.ld 51 3 1 true) 47 true,a 53 (.call 70 [50,52]) 47 true,a 54 (.call 69 [48,53]) 47 true,S 55 (.pick 47 54 (r false)),C 56 55,a 57 (.ld 2 2 7 false) 56 true,a 58 (.adr 3 3 1) 56 true,a 59 (.ld 58 3 3 false) 56 true,a 60 (.call 27 [57,59]) 56 true,a 61 (.bin .gtr 60 (i 0)) 56 true,S 62 (.pick 56 61 (r false)),C 63 62,a 64 (.ld 2 2 7 false) 63 true,a 65 (.adr 3 3 4) 63 true,a 66 (.ld 65 3 3 false) 63 true,a 67 (.call 27 [64,66]) 63 true,a 68 (.bin .leq 67 (i 0)) 63 true,S 69 (.pick 63 68 (r false))]) (.cond 69 (e [S 4 (.mov (i 0))] .ret) .skip)
def GV:ICode := .seq (.block 1 (.seq (.block 2 (e [S 9 (.adr 2 2 4),g 10 9 2 3,S 11 (.adr 3 3 1),g 12 11 3 3,b 13 33 [10,12],h 14 .lss 13 0,C 8 14] (.cond 8 (e [S 4 (.mov (i (-1)))] .ret) (e [S 16 (.adr 3 3 4),g 17 16 3 3,S 18 (.adr 2 2 1),g 19 18 2 3,b 20 33 [17,19],h 21 .lss 20 0,C 15 21] (.cond 15 (e [S 4 (.mov (i 1))] .ret) (e [S 23 (.adr 2 2 1),g 24 23 2 3,S 25 (.adr 2 2 4),g 26 25 2 3,b 27 33 [24,26],h 28 .eql 27 0,C 22 28] (.cond 22 (e [g 29 3 3 7,S 30 (.adr 2 2 1),g 31 30 2 3,b 32 27 [29,31],S 33 (.un .neg 32),C 4 33] .ret) (e [S 35 (.adr 3 3 1),g 36 35 3 3,S 37 (.adr 3 3 4),g 38 37 3 3,b 39 33 [36,38],h 40 .eql 39 0,C 34 40] (.cond 34 (e [g 41 2 2 7,S 42 (.adr 3 3 1),g 43 42 3 3,b 44 27 [41,43],C 4 44] .ret) .skip))))))))) (.seq GU (.seq KO (.region true [g 83 2 2 7,b 84 72 [83],g 85 3 3 7,b 86 72 [85],k 2 2 7 84,k 3 3 7 86]))))) (rg [C 6 5,h 7 .add 6 1,C 5 7])
def cL:IFunc:=⟨2,87,[.tmp 4],e [S 2 (.box 0 [9,18,23,25,30,49,77]),S 3 (.box 1 [11,16,35,37,42,51,58,65,79]),S 4 (.mov (i 0))] (e [S 5 (.mov (i 0))] (.block 0 (.loop GV)))⟩
def A5h:List (Nat × Nat):=[(9,2),(11,3),(16,3),(18,2),(23,2),(25,2),(30,2),(35,3),(37,3),(42,3),(49,2),(51,3),(58,3),(65,3),(77,2),(79,3)]
theorem Aio:AY A9p A5h Tryz.f19 cL=true:=by kernel_rfl
def cM:IFunc:=⟨1,11,[.cell 2 7 false],e [S 1 (.box 0 [3,6,8]),S 2 (.new [H 0 [],F false,H 0 [],D O 0,F false,H 0 [],D O 0] [])] (.seq (.region true [S 3 (.adr 1 1 0),S 4 (.ld 3 1 1 true),b 5 73 [4],S 6 (.adr 1 1 1),g 7 6 1 3,S 8 (.adr 1 1 4),g 9 8 1 3,S 10 (.bld [H 0 [],F false,H 0 [],D O 0,F false,H 0 [],D O 0] [(0,1,.t 5),(1,3,.t 7),(4,3,.t 9)]),k 2 2 7 10]) .ret)⟩
def A5i:List (Nat × Nat):=[(3,1),(6,1),(8,1)]
theorem Aip:AY A9p A5i Tryz.f20 cM=true:=by kernel_rfl
def cN:IFunc:=⟨1,7,[.tmp 2],e [S 2 (.mov (i 0))] (e [C 3 0,b 4 46 [3],S 5 (.len 4),h 6 .sub 5 1,C 2 6] .ret)⟩
def A5j:List (Nat × Nat):=[]
theorem Aiq:AY A9p A5j Tryz.f21 cN=true:=by kernel_rfl
def cO:IFunc:=⟨1,16,[.tmp 2,.tmp 3],e [S 2 (.nlo 7),S 3 (.mov (r false))] (e [C 7 0,S 8 (.call 50 [.c (D O (-40)),.c (D O 0)]),S 9 (.call 50 [.c (D O 40),.c (D O 0)]),b 10 15 [7,8,9],C 6 10,p 11 6 0,p 12 6 1,C 4 11,C 5 12] (e [C 13 4,C 14 5,h 15 .eql 14 0,S 2 (.tra 13),C 3 15] .ret))⟩
def A5k:List (Nat × Nat):=[]
theorem Air:AY A9p A5k Tryz.f22 cO=true:=by kernel_rfl
def cP:IFunc:=⟨2,19,[.tmp 4,.tmp 5],e [S 2 (.box 0 []),S 3 (.box 1 []),S 4 (.mov (i 0)),S 5 (.mov (i 0))] (.seq (e [g 6 2 2 7,b 7 18 [6],S 8 (.un .not 7),C 9 8,a 10 (.ld 3 3 7 false) 9 false,a 11 (.call 18 [10]) 9 false,a 12 (.un .not 11) 9 false,S 13 (.pick 9 (r true) 12)] (.cond 13 (e [S 4 (.mov (i 0)),S 5 (.mov (i 1))] .ret) .skip)) (.seq (.region true [g 14 2 2 7,b 15 75 [14],g 16 3 3 7,b 17 75 [16],b 18 74 [15,17],C 4 18,S 5 (.mov (i 0))]) .ret))⟩
def A5l:List (Nat × Nat):=[]
theorem Ais:AY A9p A5l Tryz.f23 cP=true:=by kernel_rfl
def tT:IFunc:=⟨2,18,[.tmp 4,.tmp 5],e [S 2 (.box 0 []),S 3 (.box 1 []),S 4 (.mov (i 0)),S 5 (.mov (i 0))] (.seq (e [g 6 2 2 7,b 7 18 [6],S 8 (.un .not 7),C 9 8,a 10 (.ld 3 3 3 false) 9 false,a 11 (.call 64 [10]) 9 false,a 12 (.un .not 11) 9 false,S 13 (.pick 9 (r true) 12)] (.cond 13 (e [S 4 (.mov (i 0)),S 5 (.mov (i 1))] .ret) .skip)) (.seq (.region true [g 14 2 2 7,b 15 75 [14],g 16 3 3 3,b 17 76 [15,16],C 4 17,S 5 (.mov (i 0))]) .ret))⟩
def A5m:List (Nat × Nat):=[]
theorem Ait:AY A9p A5m Tryz.f24 tT=true:=by kernel_rfl
def tU:IFunc:=⟨2,22,[.cell 4 2 false,.tmp 5],e [S 2 (.box 0 []),S 4 (.new [F false,H 0 []] []),S 5 (.mov (i 0))] (.seq (e [g 6 2 2 7,b 7 18 [6],S 8 (.un .not 7),C 9 8,a 10 (.mov 1) 9 false,a 11 (.bin .lss 10 (i 0)) 9 false,S 12 (.pick 9 (r true) 11),C 13 12,a 14 (.mov 1) 13 false,a 15 (.bin .gtr 14 (i 64)) 13 false,S 16 (.pick 13 (r true) 15)] (.cond 16 (e [S 17 (.bld [F false,H 0 []] []),k 4 4 2 17,S 5 (.mov (i 1))] .ret) .skip)) (e [g 18 2 2 7,b 19 75 [18],C 20 1,b 21 77 [19,20],k 4 4 2 21,S 5 (.mov (i 0))] .ret))⟩
def A5n:List (Nat × Nat):=[]
theorem Aiu:AY A9p A5n Tryz.f25 tU=true:=by kernel_rfl
def PL:IFunc:=⟨2,60,[.tmp 4],e [S 2 (.box 0 [10,14,18,20,32,40,42,43,45,46]),S 3 (.box 1 [34,36]),S 4 (.mov (i 0))] (.seq (.region true [g 9 3 3 3,S 10 (.adr 2 2 1),g 11 10 2 3,b 12 33 [9,11],g 13 3 3 3,S 14 (.adr 2 2 4),g 15 14 2 3,b 16 33 [13,15],C 5 12,C 6 16]) (.seq (.block 0 (e [S 18 (.adr 2 2 1),g 19 18 2 3,S 20 (.adr 2 2 4),g 21 20 2 3,b 22 33 [19,21],h 23 .eql 22 0,C 17 23] (.cond 17 (e [C 24 5,S 25 (.un .neg 24),C 4 25] .ret) (e [C 27 5,h 28 .leq 27 0,C 26 28] (.cond 26 (e [S 4 (.mov (i 1))] .ret) (e [C 30 6,h 31 .gtr 30 0,C 29 31] (.cond 29 (e [S 4 (.mov (i (-1)))] .ret) .skip))))))) (e [S 32 (.adr 2 2 0),S 33 (.ld 32 2 1 true),S 34 (.adr 3 3 0),g 35 34 3 2,S 36 (.adr 3 3 2),S 37 (.ld 36 3 1 true),b 38 80 [33,35,37],b 39 79 [38],C 7 39] (e [S 40 (.adr 2 2 0),S 41 (.ld 40 2 1 true),S 42 (.adr 2 2 4),S 43 (.adr 42 2 0),g 44 43 2 2,S 45 (.adr 2 2 4),S 46 (.adr 45 2 2),S 47 (.ld 46 2 1 true),b 48 80 [41,44,47],b 49 79 [48],C 8 49] (.seq (.block 1 (e [C 51 7,h 52 .eql 51 0,C 50 52] (.cond 50 (e [S 4 (.mov (i 0))] .ret) (e [C 54 8,h 55 .eql 54 0,C 53 55] (.cond 53 (e [S 4 (.mov (i 1))] .ret) (e [C 57 7,C 58 8,c 59 .eql 57 58,C 56 59] (.cond 56 (e [S 4 (.mov (i (-1)))] .ret) .skip))))))) (e [S 4 (.mov (i 1))] .ret))))))⟩
def A5o:List (Nat × Nat):=[(10,2),(14,2),(18,2),(20,2),(32,2),(34,3),(36,3),(40,2),(42,2),(43,2),(45,2),(46,2)]
theorem Aiv:AY A9p A5o Tryz.f27 PL=true:=by kernel_rfl
def tV:IFunc:=⟨2,38,[.tmp 4],e [S 2 (.box 0 [6,12,21,27]),S 3 (.box 1 [8,15,32]),S 4 (.mov (r false))] (.seq (e [S 6 (.adr 2 2 0),S 7 (.ld 6 2 1 true),S 8 (.adr 3 3 0),S 9 (.ld 8 3 1 true),S 10 (.eqb true 7 9),C 11 10,a 12 (.adr 2 2 1) 11 false,a 13 (.ld 12 2 1 true) 11 false,a 14 (.len 13) 11 false,a 15 (.adr 3 3 1) 11 false,a 16 (.ld 15 3 1 true) 11 false,a 17 (.len 16) 11 false,a 18 (.bin .neq 14 17) 11 false,S 19 (.pick 11 (r true) 18)] (.cond 19 (e [S 4 (.mov (r false))] .ret) .skip)) (.seq (e [S 5 (.mov (i 0))] (.block 0 (.loop (.seq (e [C 20 5,S 21 (.adr 2 2 1),S 22 (.ld 21 2 1 true),S 23 (.len 22),c 24 .lss 20 23] (.cond 24 .skip (.exit 0))) (.seq (.block 1 (.seq (.region true [S 27 (.adr 2 2 1),S 28 (.ld 27 2 1 true),C 29 5,q 30 28 29 1,S 31 (.ld 30 30 1 true),S 32 (.adr 3 3 1),S 33 (.ld 32 3 1 true),C 34 5,q 35 33 34 1,S 36 (.ld 35 35 1 true),c 37 .neq 31 36]) (.cond 37 (e [S 4 (.mov (r false))] .ret) .skip))) (rg [C 25 5,h 26 .add 25 1,C 5 26])))))) (e [S 4 (.mov (r true))] .ret)))⟩
def A5p:List (Nat × Nat):=[(6,2),(8,3),(12,2),(15,3),(21,2),(27,2),(32,3)]
theorem Aiw:AY A9p A5p Tryz.f28 tV=true:=by kernel_rfl
def cQ:IFunc:=⟨2,16,[.tmp 4],e [S 2 (.box 0 [5,12]),S 3 (.box 1 [7,10]),S 4 (.mov (i 0))] (.seq (.region true [S 5 (.adr 2 2 0),g 6 5 2 2,S 7 (.adr 3 3 2),S 8 (.ld 7 3 1 true),b 9 84 [6,8],S 10 (.adr 3 3 0),g 11 10 3 2,S 12 (.adr 2 2 2),S 13 (.ld 12 2 1 true),b 14 84 [11,13],b 15 83 [9,14],C 4 15]) .ret)⟩
def A5q:List (Nat × Nat):=[(5,2),(7,3),(10,3),(12,2)]
theorem Aix:AY A9p A5q Tryz.f33 cQ=true:=by kernel_rfl
def Vb:ICode := .seq (e [C 21 5,C 22 3,c 23 .lss 21 22] (.cond 23 .skip (.exit 2))) (.seq (.block 3 (rg [S 26 (.tra 4),C 27 0,C 28 5,q 29 27 28 2,g 30 29 29 2,b 31 97 [30],S 32 (.bls 1 [F false,H 0 []] [(0,2,.t 31)]),S 33 (.apd true 26 32 2 1048576),S 4 (.tra 33)])) (rg [C 24 5,h 25 .add 24 1,C 5 25]))
def Sk:ICode := .seq (e [C 8 3,h 9 .gtr 8 0,C 10 9,a 11 (.mov 0) 10 true,a 12 (.mov 3) 10 true,a 13 (.bin .sub 12 (i 1)) 10 true,a 14 (.ixa 11 13 2) 10 true,a 15 (.ld 14 14 2 false) 10 true,a 16 (.call 79 [15]) 10 true,a 17 (.bin .eql 16 (i 0)) 10 true,S 18 (.pick 10 17 (r false))] (.cond 18 .skip (.exit 0))) (.block 1 (rg [C 19 3,h 20 .sub 19 1,C 3 20]))
def cR:IFunc:=⟨1,35,[.tmp 2],e [S 2 (.nlo 2)] (e [C 6 0,S 7 (.len 6),C 3 7] (.seq (.block 0 (.loop Sk)) (e [S 4 (.nlo 2)] (.seq (e [S 5 (.mov (i 0))] (.block 2 (.loop Vb))) (e [S 34 (.tra 4),S 2 (.tra 34)] .ret)))))⟩
def A5r:List (Nat × Nat):=[]
theorem Aiy:AY A9p A5r Tryz.f46 cR=true:=by kernel_rfl
def tW:IFunc:=⟨1,21,[.tmp 2],e [S 2 (.nlo 2)] (e [S 3 (.nlo 2)] (.seq (e [S 4 (.mov (i 0))] (.block 0 (.loop (.seq (e [C 5 4,C 6 0,S 7 (.len 6),c 8 .lss 5 7] (.cond 8 .skip (.exit 0))) (.seq (.block 1 (rg [S 11 (.tra 3),C 12 0,C 13 4,q 14 12 13 1,S 15 (.ld 14 14 1 true),b 16 49 [15],S 17 (.bls 1 [F false,H 0 []] [(0,2,.t 16)]),S 18 (.apd true 11 17 2 1048576),S 3 (.tra 18)])) (rg [C 9 4,h 10 .add 9 1,C 4 10])))))) (e [S 19 (.frz 3),S 20 (.clo 46 [19]),S 2 (.tra 20)] .ret)))⟩
def A5s:List (Nat × Nat):=[]
theorem Aiz:AY A9p A5s Tryz.f47 tW=true:=by kernel_rfl
def tX:IFunc:=⟨1,19,[.cell 2 2 false],e [S 2 (.new [F false,H 0 []] [])] (e [C 4 0,S 5 (.cv .u64 4),C 3 5] (.seq (e [C 6 0,h 7 .lss 6 0] (.cond 7 (rg [C 8 3,S 9 (.un .neg 8),C 3 9]) .skip)) (e [C 10 0,h 11 .lss 10 0,C 12 3,S 13 (.cv .u32 12),C 14 3,S 15 (.bin .shr 14 (.c (D B 32))),S 16 (.cv .u32 15),S 17 (.bls 2 [D Ad 0,D Ad 0] [(0,1,.t 13),(1,1,.t 16)]),b 18 98 [11,17],k 2 2 2 18] .ret)))⟩
def A5t:List (Nat × Nat):=[]
theorem Aja:AY A9p A5t Tryz.f49 tX=true:=by kernel_rfl
def cT:IFunc:=⟨2,9,[.cell 4 3 false],e [S 4 (.new [F false,H 0 [],D O 0] [])] (e [C 5 0,b 6 49 [5],C 7 1,S 8 (.bld [F false,H 0 [],D O 0] [(0,2,.t 6),(2,1,.t 7)]),k 4 4 3 8] .ret)⟩
def A5u:List (Nat × Nat):=[]
theorem Ajb:AY A9p A5u Tryz.f50 cT=true:=by kernel_rfl
def cU:ICode := .seq (e [C 22 5,S 23 (.bin .gtr 22 (.c (D Ad 0)))] (.cond 23 .skip (.exit 0))) (.seq (.block 1 (rg [C 26 4,h 27 .add 26 1,C 4 27])) (rg [C 24 5,S 25 (.bin .shr 24 (.c (D B 1))),C 5 25]))
def Ym:IFunc:=⟨1,29,[.tmp 2],e [S 1 (.box 0 [6]),S 2 (.mov (i 0))] (e [S 6 (.adr 1 1 1),S 7 (.ld 6 1 1 true),b 8 99 [7],C 3 8] (.seq (e [C 9 3,S 10 (.len 9),h 11 .eql 10 0] (.cond 11 (e [S 2 (.mov (i 0))] .ret) .skip)) (e [C 12 3,S 13 (.len 12),h 14 .sub 13 1,S 15 (.bin .mul (i 32) 14),C 4 15] (.seq (e [C 16 3,C 17 3,S 18 (.len 17),h 19 .sub 18 1,q 20 16 19 1,S 21 (.ld 20 20 1 true),C 5 21] (.block 0 (.loop cU))) (e [C 28 4,C 2 28] .ret)))))⟩
def A5v:List (Nat × Nat):=[(6,1)]
theorem Ajc:AY A9p A5v Tryz.f51 Ym=true:=by kernel_rfl
def cV:IFunc:=⟨1,12,[.tmp 2],e [S 2 (.mov (r false))] (e [C 6 0,S 7 (.call 100 [6,.c (H 0 [])]),C 5 7,p 8 5 0,p 9 5 1,C 3 8,C 4 9] (e [C 10 4,h 11 .eql 10 0,C 2 11] .ret))⟩
def A5w:List (Nat × Nat):=[]
theorem Ajd:AY A9p A5w Tryz.f52 cV=true:=by kernel_rfl
def Yn:ICode := .seq (e [C 7 3,h 8 .geq 7 0,C 9 8,a 10 (.mov 0) 9 true,a 11 (.mov 3) 9 true,a 12 (.ixa 10 11 2) 9 true,a 13 (.ld 12 12 2 false) 9 true,a 14 (.call 101 [13]) 9 true,a 15 (.bin .eql 14 (i 0)) 9 true,S 16 (.pick 9 15 (r false))] (.cond 16 .skip (.exit 0))) (.block 1 (rg [C 17 3,h 18 .sub 17 1,C 3 18]))
def cW:IFunc:=⟨1,20,[.tmp 2],e [S 2 (.mov (i 0))] (e [C 4 0,S 5 (.len 4),h 6 .sub 5 1,C 3 6] (.seq (.block 0 (.loop Yn)) (e [C 19 3,C 2 19] .ret)))⟩
def A5x:List (Nat × Nat):=[]
theorem Aje:AY A9p A5x Tryz.f53 cW=true:=by kernel_rfl
def Vc:IFunc:=⟨1,17,[.tmp 2],e [S 1 (.box 0 [3,7,12]),S 2 (.mov (r false))] (e [S 3 (.adr 1 1 2),S 4 (.ld 3 1 1 true),h 5 .geq 4 0,C 6 5,a 7 (.adr 1 1 2) 6 true,a 8 (.ld 7 1 1 true) 6 true,a 9 (.bin .leq 8 (i 64)) 6 true,S 10 (.pick 6 9 (r false)),C 11 10,a 12 (.adr 1 1 0) 11 true,a 13 (.ld 12 1 2 false) 11 true,a 14 (.call 102 [13]) 11 true,a 15 (.bin .leq 14 (i 128)) 11 true,S 16 (.pick 11 15 (r false)),C 2 16] .ret)⟩
def A5y:List (Nat × Nat):=[(3,1),(7,1),(12,1)]
theorem Ajf:AY A9p A5y Tryz.f54 Vc=true:=by kernel_rfl
def cX:IFunc:=⟨2,26,[.tmp 4],e [S 2 (.box 0 [6,11,14]),S 3 (.box 1 [8,18,21]),S 4 (.mov (i 0))] (e [S 6 (.adr 2 2 2),S 7 (.ld 6 2 1 true),S 8 (.adr 3 3 2),S 9 (.ld 8 3 1 true),S 10 (.mx [7,9]),C 5 10] (.seq (.region true [S 11 (.adr 2 2 0),g 12 11 2 2,C 13 5,S 14 (.adr 2 2 2),S 15 (.ld 14 2 1 true),c 16 .sub 13 15,b 17 104 [12,16],S 18 (.adr 3 3 0),g 19 18 3 2,C 20 5,S 21 (.adr 3 3 2),S 22 (.ld 21 3 1 true),c 23 .sub 20 22,b 24 104 [19,23],b 25 103 [17,24],C 4 25]) .ret))⟩
def A5z:List (Nat × Nat):=[(6,2),(8,3),(11,2),(14,2),(18,3),(21,3)]
theorem Ajg:AY A9p A5z Tryz.f55 cX=true:=by kernel_rfl
def Yo:IFunc:=⟨4,29,[.tmp 8,.tmp 9],e [S 5 (.box 1 []),S 6 (.box 2 []),S 8 (.nlo 7),S 9 (.mov (r false))] (e [C 11 0,b 12 67 [11],C 10 12] (.seq (e [C 13 10,S 14 (.len 13),h 15 .lss 14 2] (.cond 15 (e [S 8 (.nlo 7),S 9 (.mov (r true))] .ret) .skip)) (.seq (.region true [C 16 10,g 17 5 5 3,g 18 6 6 3,C 19 10,g 20 5 5 3,b 21 68 [19,20],C 22 10,g 23 6 6 3,b 24 68 [22,23],C 25 3,b 26 105 [16,17,18,21,24,25],p 27 26 0,p 28 26 1,S 8 (.tra 27),C 9 28]) .ret)))⟩
def A6a:List (Nat × Nat):=[]
theorem Ajh:AY A9p A6a Tryz.f56 Yo=true:=by kernel_rfl
def cY:IFunc:=⟨1,13,[.cell 2 7 false],e [S 1 (.box 0 [3,6,9]),S 2 (.new [H 0 [],F false,H 0 [],D O 0,F false,H 0 [],D O 0] [])] (.seq (.region true [S 3 (.adr 1 1 0),S 4 (.ld 3 1 1 true),b 5 66 [4],S 6 (.adr 1 1 1),g 7 6 1 3,b 8 106 [7],S 9 (.adr 1 1 4),g 10 9 1 3,b 11 106 [10],S 12 (.bld [H 0 [],F false,H 0 [],D O 0,F false,H 0 [],D O 0] [(0,1,.t 5),(1,3,.t 8),(4,3,.t 11)]),k 2 2 7 12]) .ret)⟩
def A6b:List (Nat × Nat):=[(3,1),(6,1),(9,1)]
theorem Aji:AY A9p A6b Tryz.f57 cY=true:=by kernel_rfl
def tY:IFunc:=⟨2,13,[.tmp 4],e [S 3 (.box 1 [6,8]),S 4 (.mov (r false))] (e [C 5 0,S 6 (.adr 3 3 0),g 7 6 3 2,S 8 (.adr 3 3 2),S 9 (.ld 8 3 1 true),b 10 80 [5,7,9],b 11 79 [10],h 12 .eql 11 0,C 4 12] .ret)⟩
def A6c:List (Nat × Nat):=[(6,3),(8,3)]
theorem Ajj:AY A9p A6c Tryz.f62 tY=true:=by kernel_rfl
def cZ:IFunc:=⟨3,17,[.tmp 6],e [S 4 (.box 1 []),S 5 (.box 2 []),S 6 (.mov (i 0))] (e [C 8 0,b 9 108 [8],C 7 9] (.seq (.region true [C 10 7,g 11 4 4 3,b 12 110 [10,11],C 13 7,g 14 5 5 3,b 15 110 [13,14],c 16 .sub 12 15,C 6 16]) .ret))⟩
def A6d:List (Nat × Nat):=[]
theorem Ajk:AY A9p A6d Tryz.f63 cZ=true:=by kernel_rfl
def Ve:IFunc:=⟨1,17,[.tmp 2],e [S 1 (.box 0 [3,7,12]),S 2 (.mov (r false))] (e [S 3 (.adr 1 1 2),S 4 (.ld 3 1 1 true),h 5 .geq 4 0,C 6 5,a 7 (.adr 1 1 2) 6 true,a 8 (.ld 7 1 1 true) 6 true,a 9 (.bin .leq 8 (i 1024)) 6 true,S 10 (.pick 6 9 (r false)),C 11 10,a 12 (.adr 1 1 0) 11 true,a 13 (.ld 12 1 2 false) 11 true,a 14 (.call 102 [13]) 11 true,a 15 (.bin .leq 14 (i 1024)) 11 true,S 16 (.pick 11 15 (r false)),C 2 16] .ret)⟩
def A6e:List (Nat × Nat):=[(3,1),(7,1),(12,1)]
theorem Ajl:AY A9p A6e Tryz.f64 Ve=true:=by kernel_rfl
def dA:ICode := .seq (e [C 11 6,h 12 .geq 11 0] (.cond 12 .skip (.exit 0))) (.seq (.block 1 (.region true [g 19 5 5 2,S 20 (.adr 3 3 0),g 21 20 3 2,b 22 112 [19,21],C 23 0,C 24 6,q 25 23 24 2,g 26 25 25 2,C 27 7,b 28 104 [26,27],b 29 111 [22,28],k 5 5 2 29])) (.region true [C 13 6,h 14 .sub 13 1,C 15 7,S 16 (.adr 3 3 2),S 17 (.ld 16 3 1 true),c 18 .add 15 17,C 6 14,C 7 18]))
def dB:IFunc:=⟨2,32,[.tmp 4],e [S 3 (.box 1 [20,16]),S 4 (.mov (i 0))] (e [S 5 (.new [F false,H 0 []] [])] (.seq (e [C 8 0,S 9 (.len 8),h 10 .sub 9 1,C 6 10,S 7 (.mov (i 0))] (.block 0 (.loop dA))) (e [g 30 5 5 2,b 31 101 [30],C 4 31] .ret)))⟩
def A6f:List (Nat × Nat):=[(20,3),(16,3)]
theorem Ajm:AY A9p A6f Tryz.f65 dB=true:=by kernel_rfl
def dC:ICode:=e [c 16 .lss 15 14] (.seq (.cond 16 .skip (.exit 0)) (.seq (.block 1 (e [C 17 15,C 5 17] (rg [S 18 (.cpy 4),C 19 5,C 20 0,C 21 5,q 22 20 21 2,g 23 22 22 2,b 24 113 [23],S 25 (.ixo 18 4 19 2),k 25 4 2 24]))) (rg [h 26 .add 15 1,C 15 26])))
def dF:IFunc:=⟨1,28,[.tmp 2],e [S 2 (.nlo 2)] (e [C 6 0,b 7 53 [6],h 8 .add 7 1,C 3 8] (.seq (e [C 9 3,h 10 .eql 9 0] (.cond 10 (e [S 2 (.nlo 2)] .ret) .skip)) (e [C 11 3,S 12 (.mks [F false,H 0 []] 11),⟨some 4,.tra 12,none,[13,18,25]⟩] (.seq (e [S 13 (.cpy 4),S 14 (.lno 13 4),S 15 (.mov (i 0))] (.block 0 (.loop dC))) (e [S 27 (.tra 4),S 2 (.tra 27)] .ret)))))⟩
def A6g:List (Nat × Nat):=[(13,4),(18,4),(25,4)]
theorem Ajn:AY A9p A6g Tryz.f66 dF=true:=by kernel_rfl
def Yp:ICode := .seq (e [C 16 5,S 17 (.len 16),h 18 .gtr 17 0] (.cond 18 .skip (.exit 0))) (.block 1 (e [S 19 (.tra 4),C 20 5,S 21 (.bls 1 [H 0 []] [(0,1,.t 20)]),S 22 (.apd true 19 21 1 1048576),S 4 (.tra 22)] (rg [C 23 5,C 24 3,C 25 5,b 26 118 [24,25],b 27 117 [26],C 3 23,C 5 27])))
def T1:IFunc:=⟨1,29,[.tmp 2],e [S 2 (.nlo 1)] (e [C 6 0,b 7 114 [6],C 3 7] (.seq (e [C 8 3,S 9 (.len 8),h 10 .eql 9 0] (.cond 10 (e [S 2 (.nlo 1)] .ret) .skip)) (e [C 11 3,S 12 (.blo 1 1 [H 0 []] [(0,1,.t 11)]),S 4 (.tra 12)] (e [C 13 3,b 14 116 [13],b 15 115 [14],C 5 15] (.seq (.block 0 (.loop Yp)) (e [S 28 (.tra 4),S 2 (.tra 28)] .ret))))))⟩
def A6h:List (Nat × Nat):=[]
theorem Ajo:AY A9p A6h Tryz.f67 T1=true:=by kernel_rfl
def T2:ICode:=e [c 13 .lss 12 11] (.seq (.cond 13 .skip (.exit 0)) (.seq (.block 1 (e [q 14 10 12 1,S 15 (.ld 14 14 1 true),C 8 15] (e [C 16 8,g 17 3 3 3,b 18 65 [16,17],C 9 18] (.seq (e [C 19 9,h 20 .neq 19 0,C 21 20,a 22 (.mov 6) 21 true,a 23 (.bin .neq 22 (i 0)) 21 true,S 24 (.pick 21 23 (r false)),C 25 24,a 26 (.mov 9) 25 true,a 27 (.mov 6) 25 true,a 28 (.bin .neq 26 27) 25 true,S 29 (.pick 25 28 (r false))] (.cond 29 (rg [C 30 5,h 31 .add 30 1,C 5 31]) .skip)) (e [C 32 9,h 33 .neq 32 0] (.cond 33 (rg [C 34 9,C 6 34]) .skip)))))) (rg [h 35 .add 12 1,C 12 35])))
def dH:IFunc:=⟨2,37,[.tmp 4],e [S 3 (.box 1 []),S 4 (.mov (i 0))] (e [S 5 (.mov (i 0)),S 6 (.mov (i 0))] (.seq (e [C 10 0,S 11 (.len 10),S 12 (.mov (i 0))] (.block 0 (.loop T2))) (e [C 36 5,C 4 36] .ret)))⟩
def A6i:List (Nat × Nat):=[]
theorem Ajp:AY A9p A6i Tryz.f68 dH=true:=by kernel_rfl
def Yq:IFunc:=⟨2,25,[.tmp 4],e [S 2 (.box 0 [8,10,15,19,21]),S 4 (.mov (r false))] (.seq (e [C 5 1,S 6 (.len 5),h 7 .lss 6 2] (.cond 7 (e [S 4 (.mov (r false))] .ret) .skip)) (.seq (e [S 8 (.adr 2 2 1),g 9 8 2 3,S 10 (.adr 2 2 4),g 11 10 2 3,b 12 33 [9,11],h 13 .eql 12 0] (.cond 13 (e [C 14 1,S 15 (.adr 2 2 1),g 16 15 2 3,b 17 62 [14,16],C 4 17] .ret) .skip)) (e [C 18 1,S 19 (.adr 2 2 1),g 20 19 2 3,S 21 (.adr 2 2 4),g 22 21 2 3,b 23 63 [18,20,22],h 24 .eql 23 1,C 4 24] .ret)))⟩
def A6j:List (Nat × Nat):=[(8,2),(10,2),(15,2),(19,2),(21,2)]
theorem Ajq:AY A9p A6j Tryz.f69 Yq=true:=by kernel_rfl
def Qo:ICode := .seq (e [C 12 6,S 13 (.len 12),h 14 .gtr 13 0] (.cond 14 .skip (.exit 0))) (.block 1 (e [C 15 5,C 16 6,b 17 119 [15,16],C 7 17] (rg [C 18 6,C 19 7,C 5 18,C 6 19])))
def Yr:IFunc:=⟨2,22,[.tmp 4],e [S 4 (.nlo 2)] (e [C 8 0,b 9 86 [8],C 10 1,b 11 86 [10],C 5 9,C 6 11] (.seq (.block 0 (.loop Qo)) (e [C 20 5,S 21 (.clo 120 [20]),S 4 (.tra 21)] .ret)))⟩
def A6k:List (Nat × Nat):=[]
theorem Ajr:AY A9p A6k Tryz.f70 Yr=true:=by kernel_rfl
def Ys:IFunc:=⟨2,19,[.tmp 4],e [S 2 (.box 0 [5,14]),S 3 (.box 1 [7,12]),S 4 (.mov (r false))] (e [S 5 (.adr 2 2 4),g 6 5 2 3,S 7 (.adr 3 3 1),g 8 7 3 3,b 9 33 [6,8],h 10 .leq 9 0,C 11 10,a 12 (.adr 3 3 4) 11 false,a 13 (.ld 12 3 3 false) 11 false,a 14 (.adr 2 2 1) 11 false,a 15 (.ld 14 2 3 false) 11 false,a 16 (.call 33 [13,15]) 11 false,a 17 (.bin .leq 16 (i 0)) 11 false,S 18 (.pick 11 (r true) 17),C 4 18] .ret)⟩
def A6l:List (Nat × Nat):=[(5,2),(7,3),(12,3),(14,2)]
theorem Ajs:AY A9p A6l Tryz.f71 Ys=true:=by kernel_rfl
def Vf:IFunc:=⟨1,32,[.cell 2 7 false],e [S 1 (.box 0 [4,6,11,13,20,22,26,29]),S 2 (.new [H 0 [],F false,H 0 [],D O 0,F false,H 0 [],D O 0] [])] (.seq (e [S 4 (.adr 1 1 1),g 5 4 1 3,S 6 (.adr 1 1 4),g 7 6 1 3,b 8 33 [5,7],h 9 .eql 8 0] (.cond 9 (e [g 10 1 1 7,k 2 2 7 10] .ret) .skip)) (e [S 11 (.adr 1 1 1),g 12 11 1 3,S 13 (.adr 1 1 4),g 14 13 1 3,b 15 121 [12,14],S 3 (.new [F false,H 0 [],D O 0] []),k 3 3 3 15] (.seq (e [g 16 1 1 7,g 17 3 3 3,b 18 27 [16,17],h 19 .leq 18 0] (.cond 19 (e [S 20 (.adr 1 1 0),S 21 (.ld 20 1 1 true),S 22 (.adr 1 1 1),g 23 22 1 3,g 24 3 3 3,S 25 (.bld [H 0 [],F false,H 0 [],D O 0,F false,H 0 [],D O 0] [(0,1,.t 21),(1,3,.t 23),(4,3,.t 24)]),k 2 2 7 25] .ret) .skip)) (e [S 26 (.adr 1 1 0),S 27 (.ld 26 1 1 true),g 28 3 3 3,S 29 (.adr 1 1 4),g 30 29 1 3,S 31 (.bld [H 0 [],F false,H 0 [],D O 0,F false,H 0 [],D O 0] [(0,1,.t 27),(1,3,.t 28),(4,3,.t 30)]),k 2 2 7 31] .ret))))⟩
def A6m:List (Nat × Nat):=[(4,1),(6,1),(11,1),(13,1),(20,1),(22,1),(26,1),(29,1)]
theorem Ajt:AY A9p A6m Tryz.f72 Vf=true:=by kernel_rfl
def PM:IFunc:=⟨1,19,[.tmp 2],e [S 2 (.nlo 2)] (e [C 5 0,b 6 86 [5],b 7 120 [6],C 3 7] (.seq (e [C 8 3,S 9 (.len 8),h 10 .leq 9 1] (.cond 10 (e [C 11 3,S 2 (.tra 11)] .ret) .skip)) (e [C 12 3,C 13 3,b 14 122 [13],b 15 70 [12,14],C 4 15] (e [C 16 3,C 17 4,S 18 (.clo 123 [16,17]),S 2 (.tra 18)] .ret))))⟩
def A6n:List (Nat × Nat):=[]
theorem Aju:AY A9p A6n Tryz.f73 PM=true:=by kernel_rfl
def Vg:ICode := .block 1 (.seq (e [S 20 (.adr 2 2 4),g 21 20 2 3,S 22 (.adr 3 3 1),g 23 22 3 3,b 24 55 [21,23],h 25 .leq 24 0] (.cond 25 (e [S 4 (.mov (i (-1)))] .ret) .skip)) (.seq (e [S 26 (.adr 3 3 4),g 27 26 3 3,S 28 (.adr 2 2 1),g 29 28 2 3,b 30 55 [27,29],h 31 .leq 30 0] (.cond 31 (e [S 4 (.mov (i 1))] .ret) .skip)) (.region true [g 32 2 2 7,b 33 82 [32],g 34 3 3 7,b 35 82 [34],k 2 2 7 33,k 3 3 7 35])))
def T3:IFunc:=⟨2,36,[.tmp 4],e [S 2 (.box 0 [5,13,20,28]),S 3 (.box 1 [7,11,22,26]),S 4 (.mov (i 0))] (.seq (e [S 5 (.adr 2 2 4),g 6 5 2 3,S 7 (.adr 3 3 1),g 8 7 3 3,b 9 55 [6,8],h 10 .lss 9 0] (.cond 10 (e [S 4 (.mov (i (-1)))] .ret) .skip)) (.seq (e [S 11 (.adr 3 3 4),g 12 11 3 3,S 13 (.adr 2 2 1),g 14 13 2 3,b 15 55 [12,14],h 16 .lss 15 0] (.cond 16 (e [S 4 (.mov (i 1))] .ret) .skip)) (.seq (e [g 17 2 2 7,g 18 3 3 7,b 19 124 [17,18]] (.cond 19 (e [S 4 (.mov (i 0))] .ret) .skip)) (.block 0 (.loop Vg)))))⟩
def A6o:List (Nat × Nat):=[(5,2),(7,3),(11,3),(13,2),(20,2),(22,3),(26,3),(28,2)]
theorem Ajv:AY A9p A6o Tryz.f74 T3=true:=by kernel_rfl
def Yt:IFunc:=⟨1,11,[.cell 2 7 false],e [S 1 (.box 0 [3,6,8]),S 2 (.new [H 0 [],F false,H 0 [],D O 0,F false,H 0 [],D O 0] [])] (.seq (.region true [S 3 (.adr 1 1 0),S 4 (.ld 3 1 1 true),b 5 114 [4],S 6 (.adr 1 1 1),g 7 6 1 3,S 8 (.adr 1 1 4),g 9 8 1 3,S 10 (.bld [H 0 [],F false,H 0 [],D O 0,F false,H 0 [],D O 0] [(0,1,.t 5),(1,3,.t 7),(4,3,.t 9)]),k 2 2 7 10]) .ret)⟩
def A6p:List (Nat × Nat):=[(3,1),(6,1),(8,1)]
theorem Ajw:AY A9p A6p Tryz.f75 Yt=true:=by kernel_rfl
def Og:IFunc:=⟨2,45,[.tmp 4],e [S 2 (.box 0 [10,15,20,25,27,34]),S 3 (.box 1 []),S 4 (.mov (i 0))] (.seq (e [g 8 2 2 7,b 9 125 [8]] (.cond 9 (e [S 10 (.adr 2 2 1),g 11 10 2 3,g 12 3 3 3,b 13 55 [11,12],C 4 13] .ret) .skip)) (.seq (e [g 14 3 3 3,S 15 (.adr 2 2 1),g 16 15 2 3,b 17 55 [14,16],h 18 .leq 17 0] (.cond 18 (e [S 4 (.mov (i 1))] .ret) .skip)) (e [g 19 3 3 3,S 20 (.adr 2 2 4),g 21 20 2 3,b 22 55 [19,21],C 5 22] (.seq (e [C 23 5,h 24 .gtr 23 0] (.cond 24 (e [S 4 (.mov (i (-1)))] .ret) .skip)) (e [S 25 (.adr 2 2 0),S 26 (.ld 25 2 1 true),S 27 (.adr 2 2 4),g 28 27 2 3,b 29 65 [26,28],C 6 29] (.seq (e [C 30 5,h 31 .eql 30 0] (.cond 31 (.seq (e [C 32 6,h 33 .eql 32 0] (.cond 33 (e [S 4 (.mov (i 0))] .ret) .skip)) (e [S 4 (.mov (i (-1)))] .ret)) .skip)) (e [S 34 (.adr 2 2 0),S 35 (.ld 34 2 1 true),g 36 3 3 3,b 37 65 [35,36],C 7 37] (.seq (.block 0 (e [C 39 7,h 40 .eql 39 0,C 38 40] (.cond 38 (e [S 4 (.mov (i 0))] .ret) (e [C 42 7,C 43 6,c 44 .eql 42 43,C 41 44] (.cond 41 (e [S 4 (.mov (i (-1)))] .ret) .skip))))) (e [S 4 (.mov (i 1))] .ret)))))))))⟩
def A6q:List (Nat × Nat):=[(10,2),(15,2),(20,2),(25,2),(27,2),(34,2)]
theorem Ajx:AY A9p A6q Tryz.f76 Og=true:=by kernel_rfl
def tZ:IFunc:=⟨2,36,[.cell 4 2 false],e [S 2 (.box 0 [8,12]),S 4 (.new [F false,H 0 []] [])] (.block 0 (.loop (.block 1 (.seq (.region true [S 8 (.adr 2 2 1),g 9 8 2 3,C 10 1,b 11 126 [9,10],S 12 (.adr 2 2 4),g 13 12 2 3,C 14 1,b 15 126 [13,14],S 5 (.new [F false,H 0 []] []),S 6 (.new [F false,H 0 []] []),k 5 5 2 11,k 6 6 2 15]) (e [g 16 6 6 2,g 17 5 5 2,b 18 127 [16,17],S 7 (.new [F false,H 0 []] []),k 7 7 2 18] (.seq (e [g 19 7 7 2,b 20 101 [19],h 21 .eql 20 0] (.cond 21 (e [g 22 5 5 2,k 4 4 2 22] .ret) .skip)) (.seq (e [g 23 7 7 2,b 24 102 [23],h 25 .eql 24 1] (.cond 25 (.seq (e [g 26 2 2 7,g 27 6 6 2,C 28 1,S 29 (.bld [F false,H 0 [],D O 0] [(0,2,.t 27),(2,1,.t 28)]),b 30 76 [26,29],h 31 .geq 30 0] (.cond 31 (e [g 32 6 6 2,k 4 4 2 32] .ret) .skip)) (e [g 33 5 5 2,k 4 4 2 33] .ret)) .skip)) (rg [g 34 2 2 7,b 35 82 [34],k 2 2 7 35]))))))))⟩
def A6r:List (Nat × Nat):=[(8,2),(12,2)]
theorem Ajy:AY A9p A6r Tryz.f77 tZ=true:=by kernel_rfl
def Vh:IFunc:=⟨1,12,[.tmp 2],e [S 1 (.box 0 [4,10]),S 2 (.mov (i 0))] (.seq (.block 0 (e [S 4 (.adr 1 1 1),S 5 (.ld 4 1 1 true),b 6 99 [5],S 7 (.len 6),h 8 .eql 7 0,C 3 8] (.cond 3 (e [S 2 (.mov (i 0))] .ret) (e [S 10 (.adr 1 1 0),S 11 (.ld 10 1 1 true),C 9 11] (.cond 9 (e [S 2 (.mov (i (-1)))] .ret) .skip))))) (e [S 2 (.mov (i 1))] .ret))⟩
def A6s:List (Nat × Nat):=[(4,1),(10,1)]
theorem Ajz:AY A9p A6s Tryz.f79 Vh=true:=by kernel_rfl
def dI:ICode := .seq (e [C 16 9,h 17 .geq 16 0] (.cond 17 .skip (.exit 0))) (.seq (.block 1 (.region true [g 20 8 8 2,g 21 4 4 2,b 22 96 [20,21],C 23 7,C 24 9,q 25 23 24 2,g 26 25 25 2,C 27 2,C 28 7,S 29 (.len 28),h 30 .sub 29 1,C 31 9,c 32 .sub 30 31,c 33 .mul 27 32,b 34 84 [26,33],b 35 95 [22,34],k 8 8 2 35])) (rg [C 18 9,h 19 .sub 18 1,C 9 19]))
def dJ:IFunc:=⟨3,37,[.cell 6 2 false],e [S 4 (.box 1 []),S 6 (.new [F false,H 0 []] [])] (e [C 10 0,b 11 46 [10],C 7 11] (e [S 12 (.bld [F false,H 0 []] []),S 8 (.new [F false,H 0 []] []),k 8 8 2 12] (.seq (e [C 13 7,S 14 (.len 13),h 15 .sub 14 1,C 9 15] (.block 0 (.loop dI))) (e [g 36 8 8 2,k 6 6 2 36] .ret))))⟩
def A6t:List (Nat × Nat):=[]
theorem Aka:AY A9p A6t Tryz.f80 dJ=true:=by kernel_rfl
def Vi:IFunc:=⟨1,21,[.cell 2 7 false],e [S 1 (.box 0 [7,9,17,19]),S 2 (.new [H 0 [],F false,H 0 [],D O 0,F false,H 0 [],D O 0] [])] (.seq (e [g 4 1 1 7,b 5 125 [4]] (.cond 5 (e [g 6 1 1 7,k 2 2 7 6] .ret) .skip)) (e [S 7 (.adr 1 1 1),g 8 7 1 3,S 9 (.adr 1 1 4),g 10 9 1 3,b 11 133 [8,10],S 3 (.new [F false,H 0 [],D O 0] []),k 3 3 3 11] (.seq (e [g 12 1 1 7,g 13 3 3 3,b 14 76 [12,13],h 15 .leq 14 0] (.cond 15 (rg [g 16 3 3 3,S 17 (.adr 1 1 4),k 17 1 3 16]) (rg [g 18 3 3 3,S 19 (.adr 1 1 1),k 19 1 3 18]))) (e [g 20 1 1 7,k 2 2 7 20] .ret))))⟩
def A6u:List (Nat × Nat):=[(7,1),(9,1),(17,1),(19,1)]
theorem Akb:AY A9p A6u Tryz.f82 Vi=true:=by kernel_rfl
def T4:IFunc:=⟨2,32,[.tmp 4],e [S 2 (.box 0 [20]),S 3 (.box 1 [23]),S 4 (.mov (i 0))] (.seq (.region true [g 8 2 2 2,b 9 79 [8],g 10 3 3 2,b 11 79 [10],C 5 9,C 6 11]) (.seq (.block 0 (e [C 13 5,C 14 6,c 15 .lss 13 14,C 12 15] (.cond 12 (e [S 4 (.mov (i (-1)))] .ret) (e [C 17 5,C 18 6,c 19 .gtr 17 18,C 16 19] (.cond 16 (e [S 4 (.mov (i 1))] .ret) .skip))))) (.seq (.region true [S 20 (.adr 2 2 1),S 21 (.ld 20 2 1 true),b 22 99 [21],S 23 (.adr 3 3 1),S 24 (.ld 23 3 1 true),b 25 99 [24],b 26 134 [22,25],C 7 26]) (.seq (e [C 27 5,h 28 .lss 27 0] (.cond 28 (e [C 29 7,S 30 (.un .neg 29),C 4 30] .ret) .skip)) (e [C 31 7,C 4 31] .ret)))))⟩
def A6v:List (Nat × Nat):=[(20,2),(23,3)]
theorem Akc:AY A9p A6v Tryz.f83 T4=true:=by kernel_rfl
def dK:ICode := .seq (e [C 20 9,C 21 8,S 22 (.len 21),c 23 .lss 20 22] (.cond 23 .skip (.exit 0))) (.seq (.block 1 (e [C 26 8,C 27 9,q 28 26 27 1,S 29 (.ld 28 28 1 true),S 30 (.cv .u64 29),C 31 7,c 32 .shl 30 31,C 33 6,S 34 (.cv .u64 33),c 35 .or 32 34,C 10 35] (e [S 36 (.tra 5),C 37 10,S 38 (.cv .u32 37),S 39 (.bls 1 [D Ad 0] [(0,1,.t 38)]),S 40 (.apd true 36 39 1 35184372088832),S 5 (.tra 40)] (rg [C 41 10,S 42 (.bin .shr 41 (.c (D B 32))),S 43 (.cv .u32 42),C 6 43])))) (rg [C 24 9,h 25 .add 24 1,C 9 25]))
def dL:IFunc:=⟨2,51,[.cell 4 2 false],e [S 2 (.box 0 [17,44]),S 4 (.new [F false,H 0 []] [])] (e [C 11 1,h 12 .quo 11 32,S 13 (.mks [D Ad 0] 12),S 5 (.tra 13)] (e [S 6 (.mov (.c (D Ad 0)))] (e [C 14 1,h 15 .rem 14 32,S 16 (.cv .u64 15),C 7 16] (e [S 17 (.adr 2 2 1),S 18 (.ld 17 2 1 true),b 19 99 [18],C 8 19] (.seq (e [S 9 (.mov (i 0))] (.block 0 (.loop dK))) (.seq (.region true [S 44 (.adr 2 2 0),S 45 (.ld 44 2 1 true),S 46 (.tra 5),C 47 6,S 48 (.bls 1 [D Ad 0] [(0,1,.t 47)]),S 49 (.apd false 46 48 1 35184372088832),S 50 (.cln 98 [45,49] [4]),oN (.stl 4 50)]) .ret))))))⟩
def A6w:List (Nat × Nat):=[(4,50),(17,2),(44,2)]
theorem Akd:AY A9p A6w Tryz.f84 dL=true:=by kernel_rfl
def dM:ICode := .seq (e [C 13 5,C 14 0,S 15 (.len 14),c 16 .lss 13 15] (.cond 16 .skip (.exit 0))) (.seq (.block 1 (.seq (.region true [C 20 0,C 21 5,q 22 20 21 2,g 23 22 22 2,g 24 3 3 2,b 25 138 [23,24],C 19 25,p 26 19 0,p 27 19 1,S 6 (.new [F false,H 0 []] []),S 7 (.new [F false,H 0 []] []),k 6 6 2 26,k 7 7 2 27]) (rg [S 28 (.tra 4),g 29 6 6 2,S 30 (.bls 1 [F false,H 0 []] [(0,2,.t 29)]),S 31 (.apd true 28 30 2 1048576),S 4 (.tra 31)]))) (rg [C 17 5,h 18 .add 17 1,C 5 18]))
def Yu:IFunc:=⟨1,34,[.tmp 2],e [S 2 (.nlo 2)] (e [C 8 0,b 9 137 [8],S 3 (.new [F false,H 0 []] []),k 3 3 2 9] (.seq (e [g 10 3 3 2,b 11 79 [10],h 12 .eql 11 0] (.cond 12 (e [S 2 (.nlo 2)] .ret) .skip)) (e [S 4 (.nlo 2)] (.seq (e [S 5 (.mov (i 0))] (.block 0 (.loop dM))) (e [S 32 (.frz 4),S 33 (.clo 46 [32]),S 2 (.tra 33)] .ret)))))⟩
def A6x:List (Nat × Nat):=[]
theorem Ake:AY A9p A6x Tryz.f86 Yu=true:=by kernel_rfl
def Vj:IFunc:=⟨2,42,[.cell 4 2 false],e [S 2 (.box 0 [7,14,19,30]),S 3 (.box 1 [10,16,36]),S 4 (.new [F false,H 0 []] [])] (.seq (.region true [S 7 (.adr 2 2 1),S 8 (.ld 7 2 1 true),b 9 99 [8],S 10 (.adr 3 3 1),S 11 (.ld 10 3 1 true),b 12 99 [11],C 5 9,C 6 12]) (.seq (.block 0 (e [S 14 (.adr 2 2 0),S 15 (.ld 14 2 1 true),S 16 (.adr 3 3 0),S 17 (.ld 16 3 1 true),S 18 (.eqb false 15 17),C 13 18] (.cond 13 (.seq (.region true [S 19 (.adr 2 2 0),S 20 (.ld 19 2 1 true),C 21 5,C 22 6,b 23 144 [21,22],b 24 98 [20,23],k 4 4 2 24]) .ret) (e [C 26 5,C 27 6,b 28 134 [26,27],h 29 .geq 28 0,C 25 29] (.cond 25 (.seq (.region true [S 30 (.adr 2 2 0),S 31 (.ld 30 2 1 true),C 32 5,C 33 6,b 34 145 [32,33],b 35 98 [31,34],k 4 4 2 35]) .ret) .skip))))) (.seq (.region true [S 36 (.adr 3 3 0),S 37 (.ld 36 3 1 true),C 38 6,C 39 5,b 40 145 [38,39],b 41 98 [37,40],k 4 4 2 41]) .ret)))⟩
def A6y:List (Nat × Nat):=[(7,2),(10,3),(14,2),(16,3),(19,2),(30,2),(36,3)]
theorem Akf:AY A9p A6y Tryz.f95 Vj=true:=by kernel_rfl
def dN:IFunc:=⟨2,18,[.cell 4 2 false],e [S 2 (.box 0 [5,10]),S 3 (.box 1 [7,13]),S 4 (.new [F false,H 0 []] [])] (.seq (.region true [S 5 (.adr 2 2 0),S 6 (.ld 5 2 1 true),S 7 (.adr 3 3 0),S 8 (.ld 7 3 1 true),S 9 (.eqb true 6 8),S 10 (.adr 2 2 1),S 11 (.ld 10 2 1 true),b 12 99 [11],S 13 (.adr 3 3 1),S 14 (.ld 13 3 1 true),b 15 99 [14],b 16 146 [12,15],b 17 98 [9,16],k 4 4 2 17]) .ret)⟩
def A6z:List (Nat × Nat):=[(5,2),(7,3),(10,2),(13,3)]
theorem Akg:AY A9p A6z Tryz.f96 dN=true:=by kernel_rfl
def dO:IFunc:=⟨1,8,[.cell 2 2 false],e [S 1 (.box 0 [3,5]),S 2 (.new [F false,H 0 []] [])] (e [S 3 (.adr 1 1 0),S 4 (.ld 3 1 1 true),S 5 (.adr 1 1 1),S 6 (.ld 5 1 1 true),b 7 98 [4,6],k 2 2 2 7] .ret)⟩
def A7a:List (Nat × Nat):=[(3,1),(5,1)]
theorem Akh:AY A9p A7a Tryz.f97 dO=true:=by kernel_rfl
def uA:IFunc:=⟨2,16,[.cell 4 2 false],e [S 4 (.new [F false,H 0 []] [])] (e [C 6 1,S 7 (.clo 99 [6]),⟨some 5,.tra 7,none,[10]⟩] (e [C 8 0,C 9 8,a 10 (.cpy 5) 9 true,a 11 (.lno 10 5) 9 true,a 12 (.bin .gtr 11 (i 0)) 9 true,S 13 (.pick 9 12 (r false)),S 14 (.tra 5),S 15 (.bdo 13 14 [4]),oN (.stl 4 15)] .ret))⟩
def A7b:List (Nat × Nat):=[(4,15),(10,5)]
theorem Aki:AY A9p A7b Tryz.f98 uA=true:=by kernel_rfl
def dP:ICode := .seq (e [C 6 3,h 7 .gtr 6 0,C 8 7,a 9 (.mov 0) 8 true,a 10 (.mov 3) 8 true,a 11 (.bin .sub 10 (i 1)) 8 true,a 12 (.ixa 9 11 1) 8 true,a 13 (.ld 12 12 1 true) 8 true,a 14 (.bin .eql 13 (.c (D Ad 0))) 8 true,S 15 (.pick 8 14 (r false))] (.cond 15 .skip (.exit 0))) (.block 1 (rg [C 16 3,h 17 .sub 16 1,C 3 17]))
def dQ:IFunc:=⟨1,22,[.tmp 2],e [S 2 (.nlo 1)] (e [C 4 0,S 5 (.len 4),C 3 5] (.seq (.block 0 (.loop dP)) (e [C 18 0,C 19 3,S 20 (.sli 18 none (some 19) none 1),S 21 (.apd true (.c (.nil)) 20 1 35184372088832),S 2 (.tra 21)] .ret)))⟩
def A7c:List (Nat × Nat):=[]
theorem Akj:AY A9p A7c Tryz.f99 dQ=true:=by kernel_rfl
def Sl:IFunc:=⟨2,16,[.tmp 4,.tmp 5],e [S 4 (.nlo 2),S 5 (.mov (i 0))] (.seq (e [C 6 0,C 7 1,S 8 (.bls 2 [H 0 [],H 0 []] [(0,1,.t 6),(1,1,.t 7)]),b 9 147 [8]] (.cond 9 (e [S 4 (.nlo 2),S 5 (.mov (i 2))] .ret) .skip)) (e [C 10 0,C 11 1,b 12 149 [10,11],b 13 148 [12],p 14 13 0,p 15 13 1,S 4 (.tra 14),C 5 15] .ret))⟩
def Akk:List (Nat × Nat):=[]
theorem wC:AY A9p Akk Tryz.f100 Sl=true:=by kernel_rfl
def ZB:IFunc:=⟨1,16,[.tmp 2],e [S 1 (.box 0 []),S 2 (.mov (i 0))] (e [g 6 1 1 2,b 7 143 [6],C 5 7,p 8 5 0,p 9 5 1,C 3 8,C 4 9] (.seq (.block 0 (e [C 11 4,S 12 (.len 11),h 13 .eql 12 0,C 10 13] (.cond 10 (e [S 2 (.mov (i 0))] .ret) (e [C 15 3,C 14 15] (.cond 14 (e [S 2 (.mov (i (-1)))] .ret) .skip))))) (e [S 2 (.mov (i 1))] .ret)))⟩
def Akl:List (Nat × Nat):=[]
theorem wD:AY A9p Akl Tryz.f101 ZB=true:=by kernel_rfl
def Sm:IFunc:=⟨1,25,[.tmp 2],e [S 1 (.box 0 []),S 2 (.mov (i 0))] (e [g 6 1 1 2,b 7 143 [6],C 5 7,p 8 5 0,p 9 5 1,C 3 8,C 4 9] (.seq (e [C 10 4,S 11 (.len 10),h 12 .eql 11 0] (.cond 12 (e [S 2 (.mov (i 0))] .ret) .skip)) (e [C 13 4,S 14 (.len 13),h 15 .sub 14 1,S 16 (.bin .mul (i 32) 15),C 17 4,C 18 4,S 19 (.len 18),h 20 .sub 19 1,q 21 17 20 1,S 22 (.ld 21 21 1 true),b 23 150 [22],c 24 .add 16 23,C 2 24] .ret)))⟩
def Akm:List (Nat × Nat):=[]
theorem wE:AY A9p Akm Tryz.f102 Sm=true:=by kernel_rfl
def Oh:IFunc:=⟨2,39,[.tmp 4],e [S 2 (.box 0 []),S 3 (.box 1 []),S 4 (.mov (i 0))] (e [g 10 2 2 2,b 11 143 [10],C 9 11,p 12 9 0,p 13 9 1,C 5 12,C 6 13] (e [g 15 3 3 2,b 16 143 [15],C 14 16,p 17 14 0,p 18 14 1,C 7 17,C 8 18] (.seq (.block 0 (e [C 20 5,C 21 20,a 22 (.mov 7) 21 true,a 23 (.un .not 22) 21 true,S 24 (.pick 21 23 (r false)),C 19 24] (.cond 19 (e [S 4 (.mov (i (-1)))] .ret) (e [C 26 7,C 27 26,a 28 (.mov 5) 27 true,a 29 (.un .not 28) 27 true,S 30 (.pick 27 29 (r false)),C 25 30] (.cond 25 (e [S 4 (.mov (i 1))] .ret) (e [C 32 5,C 31 32] (.cond 31 (e [C 33 8,C 34 6,b 35 151 [33,34],C 4 35] .ret) .skip))))))) (e [C 36 6,C 37 8,b 38 151 [36,37],C 4 38] .ret))))⟩
def Akn:List (Nat × Nat):=[]
theorem wF:AY A9p Akn Tryz.f103 Oh=true:=by kernel_rfl
def Vk:ICode:=e [c 36 .lss 35 34] (.seq (.cond 36 .skip (.exit 0)) (.seq (.block 1 (e [C 37 35,q 38 33 35 1,S 39 (.ld 38 38 1 true),C 10 37,C 11 39] (e [C 40 11,S 41 (.cv .u64 40),C 42 8,c 43 .shl 41 42,C 12 43] (e [S 44 (.cpy 9),C 45 10,C 46 7,c 47 .add 45 46,S 48 (.ixo 44 9 47 1),S 49 (.ld 48 9 1 true),C 50 12,S 51 (.cv .u32 50),c 52 .or 49 51,S 53 (.ixo 44 9 47 1),k 53 9 1 52] (rg [S 54 (.cpy 9),C 55 10,C 56 7,c 57 .add 55 56,h 58 .add 57 1,C 59 12,S 60 (.bin .shr 59 (.c (D B 32))),S 61 (.cv .u32 60),S 62 (.ixo 54 9 58 1),k 62 9 1 61]))))) (rg [h 63 .add 35 1,C 35 63])))
def Sn:IFunc:=⟨2,67,[.cell 4 2 false],e [S 2 (.box 0 []),S 4 (.new [F false,H 0 []] [])] (e [g 14 2 2 2,b 15 143 [14],C 13 15,p 16 13 0,p 17 13 1,C 5 16,C 6 17] (.seq (e [C 18 6,S 19 (.len 18),h 20 .eql 19 0] (.cond 20 (e [S 21 (.bld [F false,H 0 []] []),k 4 4 2 21] .ret) .skip)) (e [C 22 1,h 23 .quo 22 32,C 24 1,h 25 .rem 24 32,S 26 (.cv .u64 25),C 7 23,C 8 26] (e [C 27 6,S 28 (.len 27),C 29 7,c 30 .add 28 29,h 31 .add 30 1,S 32 (.mks [D Ad 0] 31),⟨some 9,.tra 32,none,[44,48,53,54,62]⟩] (.seq (e [C 33 6,S 34 (.len 33),S 35 (.mov (i 0))] (.block 0 (.loop Vk))) (e [C 64 5,S 65 (.frz 9),b 66 152 [64,65],k 4 4 2 66] .ret))))))⟩
def Ako:List (Nat × Nat):=[(44,9),(48,9),(53,9),(54,9),(62,9)]
theorem wG:AY A9p Ako Tryz.f104 Sn=true:=by kernel_rfl
def Qp:IFunc:=⟨6,69,[.tmp 12,.tmp 13],e [S 7 (.box 1 []),S 8 (.box 2 []),S 12 (.nlo 7),S 13 (.mov (r false))] (.seq (e [C 19 3,C 20 4,c 21 .sub 19 20] (.block 0 (e [h 23 .eql 21 0,C 22 23] (.cond 22 (e [S 12 (.nlo 7),S 13 (.mov (r true))] .ret) (e [h 25 .eql 21 1,C 24 25] (.cond 24 (.seq (.region true [C 26 0,S 27 (.ixa 26 (i 0) 1),S 28 (.ld 27 27 1 true),g 29 7 7 3,g 30 8 8 3,S 31 (.bld [H 0 [],F false,H 0 [],D O 0,F false,H 0 [],D O 0] [(0,1,.t 28),(1,3,.t 29),(4,3,.t 30)]),S 32 (.blo 7 1 [H 0 [],F false,H 0 [],D O 0,F false,H 0 [],D O 0] [(0,7,.t 31)]),S 12 (.tra 32),S 13 (.mov (r true))]) .ret) .skip)))))) (e [g 33 7 7 3,g 34 8 8 3,b 35 133 [33,34],S 14 (.new [F false,H 0 [],D O 0] [36]),k 14 14 3 35] (.seq (e [S 36 (.adr 14 14 2),S 37 (.ld 36 14 1 true),C 38 5,c 39 .gtr 37 38] (.cond 39 (e [S 12 (.nlo 7),S 13 (.mov (r false))] .ret) .skip)) (e [C 40 0,g 41 14 14 3,b 42 68 [40,41],C 15 42] (e [C 44 0,g 45 7 7 3,g 46 14 14 3,C 47 3,C 48 15,C 49 5,S 50 (.clo 105 [44,45,46,47,48,49]),S 43 (.tra 50),S 51 (.exo 43),p 52 43 1,S 16 (.tra 51),C 17 52] (.seq (e [C 53 17,S 54 (.un .not 53)] (.cond 54 (e [S 12 (.nlo 7),S 13 (.mov (r false))] .ret) .skip)) (e [C 56 0,g 57 14 14 3,g 58 8 8 3,C 59 15,C 60 4,C 61 5,b 62 105 [56,57,58,59,60,61],C 55 62,p 63 55 0,p 64 55 1,C 18 63,C 17 64] (e [S 65 (.tra 16),C 66 18,S 67 (.apd true 65 66 7 1048576),C 68 17,S 12 (.tra 67),C 13 68] .ret))))))))⟩
def Akp:List (Nat × Nat):=[(36,14)]
theorem wH:AY A9p Akp Tryz.f105 Qp=true:=by kernel_rfl
def Vl:IFunc:=⟨1,9,[.cell 2 3 false],e [S 1 (.box 0 [3,6]),S 2 (.new [F false,H 0 [],D O 0] [])] (.seq (.region true [S 3 (.adr 1 1 0),g 4 3 1 2,b 5 113 [4],S 6 (.adr 1 1 2),S 7 (.ld 6 1 1 true),S 8 (.bld [F false,H 0 [],D O 0] [(0,2,.t 5),(2,1,.t 7)]),k 2 2 3 8]) .ret)⟩
def Akq:List (Nat × Nat):=[(3,1),(6,1)]
theorem wI:AY A9p Akq Tryz.f106 Vl=true:=by kernel_rfl
def Vm:ICode := .seq (e [C 16 5,S 17 (.len 16),h 18 .gtr 17 0] (.cond 18 .skip (.exit 0))) (.block 1 (e [S 19 (.tra 4),C 20 5,S 21 (.bls 1 [H 0 []] [(0,1,.t 20)]),S 22 (.apd true 19 21 1 1048576),⟨some 4,.tra 22,none,[23,24,27]⟩] (rg [S 23 (.cpy 4),S 24 (.cpy 4),S 25 (.lno 24 4),h 26 .sub 25 2,S 27 (.ixo 23 4 26 1),S 28 (.ld 27 4 1 true),C 29 5,b 30 119 [28,29],b 31 153 [30],C 5 31])))
def So:IFunc:=⟨1,33,[.tmp 2],e [S 2 (.nlo 1)] (e [C 6 0,b 7 73 [6],C 3 7] (.seq (e [C 8 3,S 9 (.len 8),h 10 .eql 9 0] (.cond 10 (e [S 2 (.nlo 1)] .ret) .skip)) (e [C 11 3,S 12 (.blo 1 1 [H 0 []] [(0,1,.t 11)]),⟨some 4,.tra 12,none,[23,24,27]⟩] (e [C 13 3,b 14 122 [13],b 15 86 [14],C 5 15] (.seq (.block 0 (.loop Vm)) (e [S 32 (.tra 4),S 2 (.tra 32)] .ret))))))⟩
def Akr:List (Nat × Nat):=[(23,4),(24,4),(27,4)]
theorem wJ:AY A9p Akr Tryz.f108 So=true:=by kernel_rfl
def Oi:ICode := .seq (e [C 9 7,C 10 0,S 11 (.len 10),c 12 .lss 9 11] (.cond 12 .skip (.exit 0))) (.seq (.block 1 (.seq (.region true [C 15 0,C 16 7,q 17 15 16 1,S 18 (.ld 17 17 1 true),S 19 (.adr 3 3 0),g 20 19 3 2,S 21 (.adr 3 3 2),S 22 (.ld 21 3 1 true),b 23 80 [18,20,22],b 24 79 [23],C 8 24]) (.seq (e [C 25 8,h 26 .neq 25 0,C 27 26,a 28 (.mov 6) 27 true,a 29 (.bin .neq 28 (i 0)) 27 true,S 30 (.pick 27 29 (r false)),C 31 30,a 32 (.mov 8) 31 true,a 33 (.mov 6) 31 true,a 34 (.bin .neq 32 33) 31 true,S 35 (.pick 31 34 (r false))] (.cond 35 (rg [C 36 5,h 37 .add 36 1,C 5 37]) .skip)) (e [C 38 8,h 39 .neq 38 0] (.cond 39 (rg [C 40 8,C 6 40]) .skip))))) (rg [C 13 7,h 14 .add 13 1,C 7 14]))
def Vn:IFunc:=⟨2,42,[.tmp 4],e [S 3 (.box 1 [19,21]),S 4 (.mov (i 0))] (e [S 5 (.mov (i 0)),S 6 (.mov (i 0))] (.seq (e [S 7 (.mov (i 0))] (.block 0 (.loop Oi))) (e [C 41 5,C 4 41] .ret)))⟩
def Aks:List (Nat × Nat):=[(19,3),(21,3)]
theorem wK:AY A9p Aks Tryz.f110 Vn=true:=by kernel_rfl
def ZC:IFunc:=⟨2,24,[.cell 4 2 false],e [S 2 (.box 0 []),S 3 (.box 1 []),S 4 (.new [F false,H 0 []] [])] (e [g 10 2 2 2,b 11 143 [10],C 9 11,p 12 9 0,p 13 9 1,C 5 12,C 6 13] (e [g 15 3 3 2,b 16 143 [15],C 14 16,p 17 14 0,p 18 14 1,C 7 17,C 8 18] (e [C 19 5,C 20 6,C 21 7,C 22 8,b 23 154 [19,20,21,22],k 4 4 2 23] .ret)))⟩
def Akt:List (Nat × Nat):=[]
theorem wL:AY A9p Akt Tryz.f111 ZC=true:=by kernel_rfl
def Rk:ICode:=e [c 51 .lss 50 49] (.seq (.cond 51 .skip (.exit 2)) (.seq (.block 3 (e [C 52 50,q 53 48 50 1,S 54 (.ld 53 53 1 true),C 13 52,C 14 54] (e [C 55 11,S 56 (.cv .u64 55),C 57 14,S 58 (.cv .u64 57),c 59 .mul 56 58,S 60 (.cpy 9),C 61 10,C 62 13,c 63 .add 61 62,S 64 (.ixo 60 9 63 1),S 65 (.ld 64 9 1 true),S 66 (.cv .u64 65),c 67 .add 59 66,C 68 12,c 69 .add 67 68,C 15 69] (rg [S 70 (.cpy 9),C 71 10,C 72 13,c 73 .add 71 72,C 74 15,S 75 (.cv .u32 74),C 76 15,S 77 (.bin .shr 76 (.c (D B 32))),S 78 (.ixo 70 9 73 1),k 78 9 1 75,C 12 77])))) (rg [h 79 .add 50 1,C 50 79])))
def Vo:ICode:=e [c 44 .lss 43 42] (.seq (.cond 44 .skip (.exit 0)) (.seq (.block 1 (e [C 45 43,q 46 41 43 1,S 47 (.ld 46 46 1 true),C 10 45,C 11 47] (e [S 12 (.mov (.c (D B 0)))] (.seq (e [C 48 8,S 49 (.len 48),S 50 (.mov (i 0))] (.block 2 (.loop Rk))) (rg [S 80 (.cpy 9),C 81 10,C 82 8,S 83 (.len 82),c 84 .add 81 83,C 85 12,S 86 (.cv .u32 85),S 87 (.ixo 80 9 84 1),k 87 9 1 86]))))) (rg [h 88 .add 43 1,C 43 88])))
def Vp:IFunc:=⟨2,94,[.cell 4 2 false],e [S 2 (.box 0 []),S 3 (.box 1 []),S 4 (.new [F false,H 0 []] [])] (e [g 17 2 2 2,b 18 143 [17],C 16 18,p 19 16 0,p 20 16 1,C 5 19,C 6 20] (e [g 22 3 3 2,b 23 143 [22],C 21 23,p 24 21 0,p 25 21 1,C 7 24,C 8 25] (.seq (e [C 26 6,S 27 (.len 26),h 28 .eql 27 0,C 29 28,a 30 (.mov 8) 29 false,a 31 (.len 30) 29 false,a 32 (.bin .eql 31 (i 0)) 29 false,S 33 (.pick 29 (r true) 32)] (.cond 33 (e [S 34 (.bld [F false,H 0 []] []),k 4 4 2 34] .ret) .skip)) (e [C 35 6,S 36 (.len 35),C 37 8,S 38 (.len 37),c 39 .add 36 38,S 40 (.mks [D Ad 0] 39),⟨some 9,.tra 40,none,[60,64,70,78,80,87]⟩] (.seq (e [C 41 6,S 42 (.len 41),S 43 (.mov (i 0))] (.block 0 (.loop Vo))) (e [C 89 5,C 90 7,S 91 (.eqb true 89 90),S 92 (.frz 9),b 93 152 [91,92],k 4 4 2 93] .ret))))))⟩
def Aku:List (Nat × Nat):=[(60,9),(64,9),(70,9),(78,9),(80,9),(87,9)]
theorem wM:AY A9p Aku Tryz.f112 Vp=true:=by kernel_rfl
def ZD:IFunc:=⟨1,14,[.cell 2 2 false],e [S 1 (.box 0 []),S 2 (.new [F false,H 0 []] [])] (e [g 6 1 1 2,b 7 143 [6],C 5 7,p 8 5 0,p 9 5 1,C 3 8,C 4 9] (e [C 10 3,C 11 4,S 12 (.apd false (.c (.nil)) 11 1 35184372088832),b 13 152 [10,12],k 2 2 2 13] .ret))⟩
def Akv:List (Nat × Nat):=[]
theorem wN:AY A9p Akv Tryz.f113 ZD=true:=by kernel_rfl
def Iz:IFunc:=⟨1,23,[.tmp 2],e [S 2 (.nlo 2)] (e [C 5 0,b 6 115 [5],b 7 155 [6],C 3 7] (.seq (e [C 8 3,S 9 (.len 8),h 10 .lss 9 2] (.cond 10 (e [C 11 3,S 2 (.tra 11)] .ret) .skip)) (e [C 12 3,C 13 3,b 14 116 [13],b 15 135 [12,14],C 4 15] (.seq (e [C 16 4,S 17 (.len 16),h 18 .lss 17 2] (.cond 18 (e [C 19 3,S 2 (.tra 19)] .ret) .skip)) (e [C 20 3,C 21 4,S 22 (.clo 156 [20,21]),S 2 (.tra 22)] .ret)))))⟩
def Akw:List (Nat × Nat):=[]
theorem wO:AY A9p Akw Tryz.f114 Iz=true:=by kernel_rfl
def Sp:ICode:=e [c 16 .lss 15 14] (.seq (.cond 16 .skip (.exit 0)) (.seq (.block 1 (e [C 17 15,C 5 17] (.region true [S 19 (.cpy 3),C 20 5,S 21 (.cpy 3),C 22 5,S 23 (.ixo 21 3 22 2),g 24 23 3 2,g 25 4 4 2,b 26 158 [24,25],C 18 26,p 27 18 0,p 28 18 1,S 29 (.ixo 19 3 20 2),k 29 3 2 27]))) (rg [h 30 .add 15 1,C 15 30])))
def Sq:IFunc:=⟨1,32,[.tmp 2],e [S 2 (.nlo 2)] (e [C 6 0,S 7 (.clo 66 [6]),⟨some 3,.tra 7,none,[8,13,19,21,23,29]⟩] (e [S 8 (.cpy 3),S 9 (.brw 157 8 3),S 4 (.new [F false,H 0 []] []),k 4 4 2 9] (.seq (e [g 10 4 4 2,b 11 102 [10],h 12 .gtr 11 1] (.cond 12 (e [S 13 (.cpy 3),S 14 (.lno 13 3),S 15 (.mov (i 0))] (.block 0 (.loop Sp))) .skip)) (e [S 31 (.tra 3),S 2 (.tra 31)] .ret))))⟩
def Akx:List (Nat × Nat):=[(8,3),(13,3),(19,3),(21,3),(23,3),(29,3)]
theorem wP:AY A9p Akx Tryz.f115 Sq=true:=by kernel_rfl
def Vq:ICode := .seq (e [C 5 4,C 6 0,b 7 53 [6],c 8 .leq 5 7] (.cond 8 .skip (.exit 0))) (.seq (.block 1 (.region true [S 11 (.tra 3),C 12 0,C 13 4,q 14 12 13 2,g 15 14 14 2,C 16 4,b 17 132 [16],b 18 112 [15,17],S 19 (.bls 1 [F false,H 0 []] [(0,2,.t 18)]),S 20 (.apd true 11 19 2 1048576),S 3 (.tra 20)])) (rg [C 9 4,h 10 .add 9 1,C 4 10]))
def Vr:IFunc:=⟨1,23,[.tmp 2],e [S 2 (.nlo 2)] (e [S 3 (.nlo 2)] (.seq (e [S 4 (.mov (i 1))] (.block 0 (.loop Vq))) (e [S 21 (.frz 3),S 22 (.clo 66 [21]),S 2 (.tra 22)] .ret)))⟩
def Aky:List (Nat × Nat):=[]
theorem wQ:AY A9p Aky Tryz.f116 Vr=true:=by kernel_rfl
def Vs:ICode:=e [c 11 .lss 10 9] (.seq (.cond 11 .skip (.exit 0)) (.seq (.block 1 (e [C 12 10,C 4 12] (rg [S 13 (.cpy 3),C 14 4,C 15 0,C 16 4,q 17 15 16 2,g 18 17 17 2,b 19 131 [18],S 20 (.ixo 13 3 14 2),k 20 3 2 19]))) (rg [h 21 .add 10 1,C 10 21])))
def Vt:IFunc:=⟨1,23,[.tmp 2],e [S 2 (.nlo 2)] (e [C 5 0,S 6 (.len 5),S 7 (.mks [F false,H 0 []] 6),⟨some 3,.tra 7,none,[13,20]⟩] (.seq (e [C 8 0,S 9 (.len 8),S 10 (.mov (i 0))] (.block 0 (.loop Vs))) (e [S 22 (.tra 3),S 2 (.tra 22)] .ret)))⟩
def Akz:List (Nat × Nat):=[(13,3),(20,3)]
theorem wR:AY A9p Akz Tryz.f117 Vt=true:=by kernel_rfl
def Lv:ICode:=e [c 65 .lss 64 63] (.seq (.cond 65 .skip (.exit 2)) (.seq (.block 3 (e [C 66 64,C 14 66] (.seq (.region true [S 67 (.cpy 5),C 68 14,S 69 (.cpy 5),C 70 14,S 71 (.ixo 69 5 70 2),g 72 71 5 2,g 73 9 9 2,b 74 112 [72,73],S 75 (.ixo 67 5 68 2),k 75 5 2 74]) (e [C 76 14,C 77 13,c 78 .geq 76 77] (.cond 78 (.region true [S 79 (.cpy 5),C 80 14,S 81 (.cpy 5),C 82 14,S 83 (.ixo 81 5 82 2),g 84 83 5 2,g 85 11 11 2,C 86 1,C 87 14,C 88 13,c 89 .sub 87 88,q 90 86 89 2,g 91 90 90 2,b 92 112 [85,91],b 93 127 [84,92],S 94 (.ixo 79 5 80 2),k 94 5 2 93]) .skip))))) (rg [h 95 .add 64 1,C 64 95])))
def Qq:ICode := .seq (e [S 25 (.cpy 5),S 26 (.lno 25 5),C 27 1,S 28 (.len 27),c 29 .geq 26 28] (.cond 29 .skip (.exit 0))) (.block 1 (e [S 30 (.cpy 5),S 31 (.cpy 5),S 32 (.lno 31 5),h 33 .sub 32 1,S 34 (.ixo 30 5 33 2),g 35 34 5 2,S 7 (.new [F false,H 0 []] []),k 7 7 2 35] (e [g 36 6 6 2,g 37 7 7 2,b 38 159 [36,37],S 8 (.new [F false,H 0 []] []),k 8 8 2 38] (.seq (.region true [g 40 6 6 2,b 41 160 [40],g 42 8 8 2,b 43 158 [41,42],C 39 43,p 44 39 0,p 45 39 1,S 9 (.new [F false,H 0 []] []),S 10 (.new [F false,H 0 []] []),k 9 9 2 44,k 10 10 2 45]) (e [g 47 7 7 2,g 48 8 8 2,b 49 158 [47,48],C 46 49,p 50 46 0,p 51 46 1,S 11 (.new [F false,H 0 []] []),S 12 (.new [F false,H 0 []] []),k 11 11 2 50,k 12 12 2 51] (.seq (e [g 52 6 6 2,b 53 101 [52],h 54 .lss 53 0] (.cond 54 (rg [g 55 11 11 2,b 56 131 [55],k 11 11 2 56]) .skip)) (e [S 57 (.cpy 5),S 58 (.lno 57 5),C 59 1,S 60 (.len 59),c 61 .sub 58 60,C 13 61] (.seq (e [S 62 (.cpy 5),S 63 (.lno 62 5),S 64 (.mov (i 0))] (.block 2 (.loop Lv))) (rg [S 96 (.frz 5),S 97 (.clo 115 [96]),⟨some 5,.tra 97,none,[25,30,31,34,57,62,67,69,71,75,79,81,83,94]⟩])))))))))
def Vu:IFunc:=⟨2,99,[.tmp 4],e [S 4 (.nlo 2)] (e [C 15 0,S 16 (.clo 115 [15]),C 17 1,b 18 115 [17],⟨some 5,.tra 16,none,[25,30,31,34,57,62,67,69,71,75,79,81,83,94]⟩,C 1 18] (e [C 19 1,C 20 1,S 21 (.len 20),h 22 .sub 21 1,q 23 19 22 2,g 24 23 23 2,S 6 (.new [F false,H 0 []] []),k 6 6 2 24] (.seq (.block 0 (.loop Qq)) (e [S 98 (.tra 5),S 4 (.tra 98)] .ret))))⟩
def Ala:List (Nat × Nat):=[(25,5),(30,5),(31,5),(34,5),(57,5),(62,5),(67,5),(69,5),(71,5),(75,5),(79,5),(81,5),(83,5),(94,5)]
theorem wS:AY A9p Ala Tryz.f118 Vu=true:=by kernel_rfl
def Lw:ICode := .seq (e [C 44 11,C 45 5,S 46 (.len 45),h 47 .sub 46 1,c 48 .lss 44 47] (.cond 48 .skip (.exit 2))) (.seq (.block 3 (.seq (.region true [S 51 (.adr 7 7 1),S 52 (.ld 51 7 1 true),S 53 (.bld [F false,H 0 []] [(1,1,.t 52)]),C 54 5,C 55 11,q 56 54 55 2,g 57 56 56 2,b 58 96 [53,57],S 12 (.new [F false,H 0 []] []),k 12 12 2 58]) (.seq (e [C 59 11,C 60 9,c 61 .geq 59 60] (.cond 61 (.region true [g 62 12 12 2,g 63 8 8 2,C 64 6,C 65 11,C 66 9,c 67 .sub 65 66,q 68 64 67 2,g 69 68 68 2,b 70 96 [63,69],b 71 129 [62,70],k 12 12 2 71]) .skip)) (rg [S 72 (.tra 10),g 73 12 12 2,S 74 (.bls 1 [F false,H 0 []] [(0,2,.t 73)]),S 75 (.apd true 72 74 2 1048576),S 10 (.tra 75)])))) (rg [C 49 11,h 50 .add 49 1,C 11 50]))
def Qr:ICode := .seq (e [C 23 5,S 24 (.len 23),C 25 6,S 26 (.len 25),c 27 .geq 24 26] (.cond 27 .skip (.exit 0))) (.block 1 (e [C 28 5,C 29 5,S 30 (.len 29),h 31 .sub 30 1,q 32 28 31 2,g 33 32 32 2,S 8 (.new [F false,H 0 []] []),k 8 8 2 33] (.seq (e [g 34 7 7 2,b 35 79 [34],h 36 .lss 35 0] (.cond 36 (rg [g 37 8 8 2,b 38 161 [37],k 8 8 2 38]) .skip)) (e [C 39 5,S 40 (.len 39),C 41 6,S 42 (.len 41),c 43 .sub 40 42,C 9 43] (e [S 10 (.nlo 2)] (.seq (e [S 11 (.mov (i 0))] (.block 2 (.loop Lw))) (rg [S 76 (.frz 10),b 77 46 [76],b 78 86 [77],C 5 78])))))))
def Vv:IFunc:=⟨2,80,[.tmp 4],e [S 4 (.nlo 2)] (e [C 13 0,b 14 86 [13],C 15 1,b 16 46 [15],C 5 14,C 6 16] (e [C 17 6,C 18 6,S 19 (.len 18),h 20 .sub 19 1,q 21 17 20 2,g 22 21 21 2,S 7 (.new [F false,H 0 []] [51]),k 7 7 2 22] (.seq (.block 0 (.loop Qr)) (e [C 79 5,S 4 (.tra 79)] .ret))))⟩
def Alb:List (Nat × Nat):=[(51,7)]
theorem wT:AY A9p Alb Tryz.f119 Vv=true:=by kernel_rfl
def Qs:IFunc:=⟨1,19,[.tmp 2],e [S 2 (.nlo 2)] (.seq (e [C 3 0,S 4 (.len 3),h 5 .gtr 4 0,C 6 5,a 7 (.mov 0) 6 true,a 8 (.mov 0) 6 true,a 9 (.len 8) 6 true,a 10 (.bin .sub 9 (i 1)) 6 true,a 11 (.ixa 7 10 2) 6 true,a 12 (.ld 11 11 2 false) 6 true,a 13 (.call 79 [12]) 6 true,a 14 (.bin .lss 13 (i 0)) 6 true,S 15 (.pick 6 14 (r false))] (.cond 15 (e [C 16 0,S 17 (.clo 153 [16]),S 2 (.tra 17)] .ret) .skip)) (e [C 18 0,S 2 (.tra 18)] .ret))⟩
def Alc:List (Nat × Nat):=[]
theorem wU:AY A9p Alc Tryz.f120 Qs=true:=by kernel_rfl
def Vw:IFunc:=⟨2,32,[.cell 4 3 false],e [S 2 (.box 0 [7,12,15]),S 3 (.box 1 [9,19,22]),S 4 (.new [F false,H 0 [],D O 0] [])] (e [S 7 (.adr 2 2 2),S 8 (.ld 7 2 1 true),S 9 (.adr 3 3 2),S 10 (.ld 9 3 1 true),S 11 (.mx [8,10]),C 5 11] (.seq (.region true [S 12 (.adr 2 2 0),g 13 12 2 2,C 14 5,S 15 (.adr 2 2 2),S 16 (.ld 15 2 1 true),c 17 .sub 14 16,b 18 84 [13,17],S 19 (.adr 3 3 0),g 20 19 3 2,C 21 5,S 22 (.adr 3 3 2),S 23 (.ld 22 3 1 true),c 24 .sub 21 23,b 25 84 [20,24],b 26 95 [18,25],S 6 (.new [F false,H 0 []] []),k 6 6 2 26]) (e [g 27 6 6 2,C 28 5,h 29 .add 28 1,S 30 (.bld [F false,H 0 [],D O 0] [(0,2,.t 27),(2,1,.t 29)]),b 31 162 [30],k 4 4 3 31] .ret)))⟩
def Ald:List (Nat × Nat):=[(7,2),(9,3),(12,2),(15,2),(19,3),(22,3)]
theorem wV:AY A9p Ald Tryz.f121 Vw=true:=by kernel_rfl
def Vx:ICode := .seq (e [C 5 4,C 6 0,S 7 (.len 6),c 8 .lss 5 7] (.cond 8 .skip (.exit 0))) (.seq (.block 1 (.region true [S 11 (.tra 3),C 12 4,b 13 49 [12],C 14 0,C 15 4,q 16 14 15 2,g 17 16 16 2,b 18 96 [13,17],S 19 (.bls 1 [F false,H 0 []] [(0,2,.t 18)]),S 20 (.apd true 11 19 2 1048576),S 3 (.tra 20)])) (rg [C 9 4,h 10 .add 9 1,C 4 10]))
def Vy:IFunc:=⟨1,23,[.tmp 2],e [S 2 (.nlo 2)] (e [S 3 (.nlo 2)] (.seq (e [S 4 (.mov (i 1))] (.block 0 (.loop Vx))) (e [S 21 (.frz 3),S 22 (.clo 46 [21]),S 2 (.tra 22)] .ret)))⟩
def Ale:List (Nat × Nat):=[]
theorem wW:AY A9p Ale Tryz.f122 Vy=true:=by kernel_rfl
def Pa:ICode := .seq (e [C 48 11,S 49 (.cpy 8),S 50 (.lno 49 8),c 51 .lss 48 50] (.cond 51 .skip (.exit 2))) (.seq (.block 3 (.region true [S 54 (.cpy 8),C 55 11,S 56 (.cpy 8),C 57 11,S 58 (.ixo 56 8 57 2),g 59 58 8 2,g 60 7 7 2,b 61 96 [59,60],S 62 (.ixo 54 8 55 2),k 62 8 2 61])) (rg [C 52 11,h 53 .add 52 1,C 11 53]))
def MP:ICode := .seq (e [C 67 13,C 68 5,S 69 (.len 68),h 70 .sub 69 1,c 71 .lss 67 70] (.cond 71 .skip (.exit 4))) (.seq (.block 5 (.seq (.region true [g 74 7 7 2,C 75 5,C 76 13,q 77 75 76 2,g 78 77 77 2,b 79 96 [74,78],S 14 (.new [F false,H 0 []] []),k 14 14 2 79]) (.seq (e [C 80 13,C 81 10,c 82 .geq 80 81] (.cond 82 (.region true [g 83 14 14 2,g 84 9 9 2,C 85 6,C 86 13,C 87 10,c 88 .sub 86 87,q 89 85 88 2,g 90 89 89 2,b 91 96 [84,90],b 92 129 [83,91],k 14 14 2 92]) .skip)) (rg [S 93 (.tra 12),g 94 14 14 2,S 95 (.bls 1 [F false,H 0 []] [(0,2,.t 94)]),S 96 (.apd true 93 95 2 1048576),S 12 (.tra 96)])))) (rg [C 72 13,h 73 .add 72 1,C 13 73]))
def Vz:ICode := .seq (e [C 32 5,S 33 (.len 32),C 34 6,S 35 (.len 34),c 36 .geq 33 35] (.cond 36 .skip (.exit 0))) (.block 1 (e [C 37 5,C 38 5,S 39 (.len 38),h 40 .sub 39 1,q 41 37 40 2,g 42 41 41 2,S 9 (.new [F false,H 0 []] []),k 9 9 2 42] (e [C 43 5,S 44 (.len 43),C 45 6,S 46 (.len 45),c 47 .sub 44 46,C 10 47] (.seq (e [S 11 (.mov (i 0))] (.block 2 (.loop Pa))) (e [S 63 (.cpy 8),C 64 10,g 65 9 9 2,S 66 (.ixo 63 8 64 2),k 66 8 2 65] (e [S 12 (.nlo 2)] (.seq (e [S 13 (.mov (i 0))] (.block 4 (.loop MP))) (rg [S 97 (.frz 12),b 98 46 [97],C 5 98]))))))))
def V0:IFunc:=⟨2,103,[.tmp 4],e [S 4 (.nlo 2)] (e [C 15 0,b 16 46 [15],C 17 1,b 18 46 [17],C 5 16,C 6 18] (e [C 19 6,C 20 6,S 21 (.len 20),h 22 .sub 21 1,q 23 19 22 2,g 24 23 23 2,S 7 (.new [F false,H 0 []] []),k 7 7 2 24] (e [C 25 5,S 26 (.len 25),C 27 6,S 28 (.len 27),c 29 .sub 26 28,h 30 .add 29 1,S 31 (.mks [F false,H 0 []] 30),⟨some 8,.tra 31,none,[49,54,56,58,62,63,66]⟩] (.seq (.block 0 (.loop Vz)) (e [S 99 (.frz 8),b 100 46 [99],b 101 86 [100],S 102 (.clo 120 [101]),S 4 (.tra 102)] .ret)))))⟩
def Alf:List (Nat × Nat):=[(49,8),(54,8),(56,8),(58,8),(62,8),(63,8),(66,8)]
theorem wX:AY A9p Alf Tryz.f123 V0=true:=by kernel_rfl
def I0:ICode := .seq (e [g 42 5 5 3,g 43 6 6 3,b 44 55 [42,43],h 45 .geq 44 0] (.cond 45 (e [S 4 (.mov (r false))] .ret) .skip)) (e [S 46 (.adr 2 2 0),S 47 (.ld 46 2 1 true),S 48 (.adr 3 3 0),S 49 (.ld 48 3 1 true),b 50 135 [47,49],C 7 50] (e [C 51 7,S 52 (.len 51),h 53 .gtr 52 1,C 54 53,a 55 (.mov 7) 54 true,a 56 (.ld 5 5 3 false) 54 true,a 57 (.ld 6 6 3 false) 54 true,a 58 (.call 136 [55,56,57]) 54 true,a 59 (.bin .gtr 58 (i 0)) 54 true,S 60 (.pick 54 59 (r false)),C 4 60] .ret))
def Pb:ICode := .seq (e [S 28 (.adr 3 3 1),g 29 28 3 3,g 30 5 5 3,b 31 55 [29,30],h 32 .gtr 31 0] (.cond 32 (rg [S 33 (.adr 3 3 1),g 34 33 3 3,k 5 5 3 34]) .skip)) (.seq (e [S 35 (.adr 3 3 4),g 36 35 3 3,g 37 6 6 3,b 38 55 [36,37],h 39 .lss 38 0] (.cond 39 (rg [S 40 (.adr 3 3 4),g 41 40 3 3,k 6 6 3 41]) .skip)) I0)
def V3:IFunc:=⟨2,61,[.tmp 4],e [S 2 (.box 0 [12,24,26,46]),S 3 (.box 1 [20,28,33,35,40,48]),S 4 (.mov (r false))] (.seq (.block 0 (e [g 9 2 2 7,b 10 125 [9],C 8 10] (.cond 8 (e [g 11 3 3 7,S 12 (.adr 2 2 1),g 13 12 2 3,b 14 76 [11,13],h 15 .eql 14 0,C 4 15] .ret) (e [g 17 3 3 7,b 18 125 [17],C 16 18] (.cond 16 (e [g 19 2 2 7,S 20 (.adr 3 3 1),g 21 20 3 3,b 22 76 [19,21],h 23 .eql 22 0,C 4 23] .ret) .skip))))) (.seq (.region true [S 24 (.adr 2 2 1),g 25 24 2 3,S 26 (.adr 2 2 4),g 27 26 2 3,S 5 (.new [F false,H 0 [],D O 0] []),S 6 (.new [F false,H 0 [],D O 0] []),k 5 5 3 25,k 6 6 3 27]) Pb))⟩
def Alg:List (Nat × Nat):=[(12,2),(20,3),(24,2),(26,2),(28,3),(33,3),(35,3),(40,3),(46,2),(48,3)]
theorem wY:AY A9p Alg Tryz.f124 V3=true:=by kernel_rfl
def V4:IFunc:=⟨1,9,[.tmp 2],e [S 1 (.box 0 [3,5]),S 2 (.mov (r false))] (e [S 3 (.adr 1 1 1),g 4 3 1 3,S 5 (.adr 1 1 4),g 6 5 1 3,b 7 55 [4,6],h 8 .eql 7 0,C 2 8] .ret)⟩
def Alh:List (Nat × Nat):=[(3,1),(5,1)]
theorem wZ:AY A9p Alh Tryz.f125 V4=true:=by kernel_rfl
def ZE:IFunc:=⟨2,23,[.cell 4 2 false],e [S 2 (.box 0 [6,9,12,16,18]),S 4 (.new [F false,H 0 []] [])] (.seq (e [C 5 1,S 6 (.adr 2 2 2),S 7 (.ld 6 2 1 true),c 8 .geq 5 7] (.cond 8 (e [S 9 (.adr 2 2 0),g 10 9 2 2,C 11 1,S 12 (.adr 2 2 2),S 13 (.ld 12 2 1 true),c 14 .sub 11 13,b 15 104 [10,14],k 4 4 2 15] .ret) .skip)) (e [S 16 (.adr 2 2 0),g 17 16 2 2,S 18 (.adr 2 2 2),S 19 (.ld 18 2 1 true),C 20 1,c 21 .sub 19 20,b 22 163 [17,21],k 4 4 2 22] .ret))⟩
def Ali:List (Nat × Nat):=[(6,2),(9,2),(12,2),(16,2),(18,2)]
theorem xA:AY A9p Ali Tryz.f126 ZE=true:=by kernel_rfl
def ZF:IFunc:=⟨2,25,[.cell 4 2 false],e [S 2 (.box 0 []),S 3 (.box 1 []),S 4 (.new [F false,H 0 []] [])] (e [g 10 2 2 2,b 11 143 [10],C 9 11,p 12 9 0,p 13 9 1,C 5 12,C 6 13] (e [g 15 3 3 2,b 16 143 [15],C 14 16,p 17 14 0,p 18 14 1,C 7 17,C 8 18] (e [C 19 5,C 20 6,C 21 7,S 22 (.un .not 21),C 23 8,b 24 154 [19,20,22,23],k 4 4 2 24] .ret)))⟩
def Alj:List (Nat × Nat):=[]
theorem xB:AY A9p Alj Tryz.f127 ZF=true:=by kernel_rfl
def Gr:ICode := .seq (e [C 16 8,C 17 5,S 18 (.len 17),c 19 .lss 16 18,C 20 19,a 21 (.mov 8) 20 true,a 22 (.mov 1) 20 true,a 23 (.bin .quo 22 (i 32)) 20 true,a 24 (.bin .lss 21 23) 20 true,S 25 (.pick 20 24 (r false))] (.cond 25 .skip (.exit 0))) (.seq (.block 1 (rg [C 28 7,C 29 28,a 30 (.mov 5) 29 false,a 31 (.mov 8) 29 false,a 32 (.ixa 30 31 1) 29 false,a 33 (.ld 32 32 1 true) 29 false,a 34 (.bin .neq 33 (.c (D Ad 0))) 29 false,S 35 (.pick 29 (r true) 34),C 7 35])) (rg [C 26 8,h 27 .add 26 1,C 8 27]))
def FR:ICode := .seq (e [C 41 10,C 42 5,S 43 (.len 42),c 44 .lss 41 43] (.cond 44 .skip (.exit 2))) (.seq (.block 3 (e [C 47 5,C 48 10,q 49 47 48 1,S 50 (.ld 49 49 1 true),S 51 (.cv .u64 50),C 11 51] (.seq (e [C 52 10,h 53 .add 52 1,C 54 5,S 55 (.len 54),c 56 .lss 53 55] (.cond 56 (rg [C 57 11,C 58 5,C 59 10,h 60 .add 59 1,q 61 58 60 1,S 62 (.ld 61 61 1 true),S 63 (.cv .u64 62),S 64 (.bin .shl 63 (.c (D B 32))),c 65 .or 57 64,C 11 65]) .skip)) (rg [S 66 (.tra 6),C 67 11,C 68 9,c 69 .shr 67 68,S 70 (.cv .u32 69),S 71 (.bls 1 [D Ad 0] [(0,1,.t 70)]),S 72 (.apd true 66 71 1 35184372088832),S 6 (.tra 72)])))) (rg [C 45 10,h 46 .add 45 1,C 10 46]))
def JS:IFunc:=⟨2,104,[.cell 4 2 false],e [S 2 (.box 0 [13,91,95]),S 4 (.new [F false,H 0 []] [])] (e [S 13 (.adr 2 2 1),S 14 (.ld 13 2 1 true),b 15 99 [14],C 5 15] (e [S 6 (.nlo 1)] (e [S 7 (.mov (r false))] (.seq (e [S 8 (.mov (i 0))] (.block 0 (.loop Gr))) (e [C 36 1,h 37 .rem 36 32,S 38 (.cv .u64 37),C 9 38] (.seq (e [C 39 1,h 40 .quo 39 32,C 10 40] (.block 2 (.loop FR))) (.seq (e [C 73 1,h 74 .quo 73 32,C 75 5,S 76 (.len 75),c 77 .lss 74 76] (.cond 77 (rg [C 78 7,C 79 78,a 80 (.mov 5) 79 false,a 81 (.mov 1) 79 false,a 82 (.bin .quo 81 (i 32)) 79 false,a 83 (.ixa 80 82 1) 79 false,a 84 (.ld 83 83 1 true) 79 false,a 85 (.mov 9) 79 false,a 86 (.bin .shl (.c (D Ad 1)) 85) 79 false,a 87 (.bin .sub 86 (.c (D Ad 1))) 79 false,a 88 (.bin .and 84 87) 79 false,a 89 (.bin .neq 88 (.c (D Ad 0))) 79 false,S 90 (.pick 79 (r true) 89),C 7 90]) .skip)) (e [S 91 (.adr 2 2 0),S 92 (.ld 91 2 1 true),S 93 (.frz 6),b 94 98 [92,93],S 12 (.new [F false,H 0 []] []),k 12 12 2 94] (.seq (e [S 95 (.adr 2 2 0),S 96 (.ld 95 2 1 true),C 97 96,a 98 (.mov 7) 97 true,S 99 (.pick 97 98 (r false))] (.cond 99 (.seq (.region true [g 100 12 12 2,S 101 (.call 49 [.c (D O 1)]),b 102 129 [100,101],k 4 4 2 102]) .ret) .skip)) (e [g 103 12 12 2,k 4 4 2 103] .ret))))))))))⟩
def Alk:List (Nat × Nat):=[(13,2),(91,2),(95,2)]
theorem xC:AY A9p Alk Tryz.f128 JS=true:=by kernel_rfl
def V5:IFunc:=⟨2,9,[.cell 4 2 false],e [S 2 (.box 0 []),S 3 (.box 1 []),S 4 (.new [F false,H 0 []] [])] (.seq (.region true [g 5 2 2 2,g 6 3 3 2,b 7 161 [6],b 8 95 [5,7],k 4 4 2 8]) .ret)⟩
def Alm:List (Nat × Nat):=[]
theorem xD:AY A9p Alm Tryz.f129 V5=true:=by kernel_rfl
def Sr:ICode := .seq (e [C 13 5,C 14 1,c 15 .lss 13 14,C 16 15,a 17 (.adr 2 2 1) 16 true,a 18 (.ld 17 2 1 true) 16 true,a 19 (.mov 5) 16 true,a 20 (.bin .quo 19 (i 32)) 16 true,a 21 (.ixa 18 20 1) 16 true,a 22 (.ld 21 21 1 true) 16 true,a 23 (.mov 5) 16 true,a 24 (.bin .rem 23 (i 32)) 16 true,a 25 (.cv .u64 24) 16 true,a 26 (.bin .shr 22 25) 16 true,a 27 (.bin .and 26 (.c (D Ad 1))) 16 true,a 28 (.bin .eql 27 (.c (D Ad 0))) 16 true,S 29 (.pick 16 28 (r false))] (.cond 29 .skip (.exit 0))) (.block 1 (rg [C 30 5,h 31 .add 30 1,C 5 31]))
def Ss:IFunc:=⟨2,39,[.cell 4 3 false],e [S 2 (.box 0 [8,17]),S 4 (.new [F false,H 0 [],D O 0] [])] (e [g 6 2 2 2,b 7 113 [6],k 2 2 2 7] (.seq (e [S 8 (.adr 2 2 1),S 9 (.ld 8 2 1 true),S 10 (.len 9),h 11 .eql 10 0] (.cond 11 (e [S 12 (.bld [F false,H 0 [],D O 0] []),k 4 4 3 12] .ret) .skip)) (e [S 5 (.mov (i 0))] (.seq (.block 0 (.loop Sr)) (e [g 32 2 2 2,C 33 5,b 34 163 [32,33],C 35 1,C 36 5,c 37 .sub 35 36,S 38 (.bld [F false,H 0 [],D O 0] [(0,2,.t 34),(2,1,.t 37)]),k 4 4 3 38] .ret)))))⟩
def Aln:List (Nat × Nat):=[(8,2),(17,2)]
theorem xE:AY A9p Aln Tryz.f130 Ss=true:=by kernel_rfl
def ZG:IFunc:=⟨1,15,[.cell 2 2 false],e [S 1 (.box 0 []),S 2 (.new [F false,H 0 []] [])] (e [g 6 1 1 2,b 7 143 [6],C 5 7,p 8 5 0,p 9 5 1,C 3 8,C 4 9] (e [C 10 3,S 11 (.un .not 10),C 12 4,S 13 (.apd false (.c (.nil)) 12 1 35184372088832),b 14 152 [11,13],k 2 2 2 14] .ret))⟩
def Alo:List (Nat × Nat):=[]
theorem xF:AY A9p Alo Tryz.f131 ZG=true:=by kernel_rfl
def ZH:IFunc:=⟨1,19,[.cell 2 2 false],e [S 2 (.new [F false,H 0 []] [])] (e [C 4 0,S 5 (.cv .u64 4),C 3 5] (.seq (e [C 6 0,h 7 .lss 6 0] (.cond 7 (rg [C 8 3,S 9 (.un .neg 8),C 3 9]) .skip)) (e [C 10 0,h 11 .lss 10 0,C 12 3,S 13 (.cv .u32 12),C 14 3,S 15 (.bin .shr 14 (.c (D B 32))),S 16 (.cv .u32 15),S 17 (.bls 2 [D Ad 0,D Ad 0] [(0,1,.t 13),(1,1,.t 16)]),b 18 152 [11,17],k 2 2 2 18] .ret)))⟩
def Alp:List (Nat × Nat):=[]
theorem xG:AY A9p Alp Tryz.f132 ZH=true:=by kernel_rfl
def V6:IFunc:=⟨2,29,[.cell 4 3 false],e [S 2 (.box 0 [6,11,14]),S 3 (.box 1 [8,18,21]),S 4 (.new [F false,H 0 [],D O 0] [])] (e [S 6 (.adr 2 2 2),S 7 (.ld 6 2 1 true),S 8 (.adr 3 3 2),S 9 (.ld 8 3 1 true),S 10 (.mx [7,9]),C 5 10] (.seq (.region true [S 11 (.adr 2 2 0),g 12 11 2 2,C 13 5,S 14 (.adr 2 2 2),S 15 (.ld 14 2 1 true),c 16 .sub 13 15,b 17 104 [12,16],S 18 (.adr 3 3 0),g 19 18 3 2,C 20 5,S 21 (.adr 3 3 2),S 22 (.ld 21 3 1 true),c 23 .sub 20 22,b 24 104 [19,23],b 25 111 [17,24],C 26 5,h 27 .add 26 1,b 28 130 [25,27],k 4 4 3 28]) .ret))⟩
def Alq:List (Nat × Nat):=[(6,2),(8,3),(11,2),(14,2),(18,3),(21,3)]
theorem xH:AY A9p Alq Tryz.f133 V6=true:=by kernel_rfl
def MQ:ICode := .seq (e [C 19 5,h 20 .geq 19 0] (.cond 20 .skip (.exit 0))) (.seq (.block 1 (.seq (.region true [C 23 0,C 24 5,q 25 23 24 1,S 26 (.ld 25 25 1 true),C 27 1,C 28 5,q 29 27 28 1,S 30 (.ld 29 29 1 true),c 31 .neq 26 30]) (.cond 31 (.seq (.seq (.region true [C 32 0,C 33 5,q 34 32 33 1,S 35 (.ld 34 34 1 true),C 36 1,C 37 5,q 38 36 37 1,S 39 (.ld 38 38 1 true),c 40 .lss 35 39]) (.cond 40 (e [S 4 (.mov (i (-1)))] .ret) .skip)) (e [S 4 (.mov (i 1))] .ret)) .skip))) (rg [C 21 5,h 22 .sub 21 1,C 5 22]))
def St:IFunc:=⟨2,41,[.tmp 4],e [S 4 (.mov (i 0))] (.seq (e [C 6 0,S 7 (.len 6),C 8 1,S 9 (.len 8),c 10 .neq 7 9] (.cond 10 (.seq (e [C 11 0,S 12 (.len 11),C 13 1,S 14 (.len 13),c 15 .lss 12 14] (.cond 15 (e [S 4 (.mov (i (-1)))] .ret) .skip)) (e [S 4 (.mov (i 1))] .ret)) .skip)) (.seq (e [C 16 0,S 17 (.len 16),h 18 .sub 17 1,C 5 18] (.block 0 (.loop MQ))) (e [S 4 (.mov (i 0))] .ret)))⟩
def Alr:List (Nat × Nat):=[]
theorem xI:AY A9p Alr Tryz.f134 St=true:=by kernel_rfl
def Qt:ICode := .seq (e [C 11 6,S 12 (.len 11),h 13 .gtr 12 0] (.cond 13 .skip (.exit 0))) (.block 1 (rg [C 14 6,C 15 5,C 16 6,b 17 118 [15,16],C 5 14,C 6 17]))
def Su:IFunc:=⟨2,20,[.tmp 4],e [S 4 (.nlo 2)] (e [C 7 0,b 8 115 [7],C 9 1,b 10 115 [9],C 5 8,C 6 10] (.seq (.block 0 (.loop Qt)) (e [C 18 5,S 19 (.clo 155 [18]),S 4 (.tra 19)] .ret)))⟩
def Als:List (Nat × Nat):=[]
theorem xJ:AY A9p Als Tryz.f135 Su=true:=by kernel_rfl
def V7:IFunc:=⟨3,17,[.tmp 6],e [S 4 (.box 1 []),S 5 (.box 2 []),S 6 (.mov (i 0))] (e [C 8 0,b 9 67 [8],C 7 9] (.seq (.region true [C 10 7,g 11 4 4 3,b 12 68 [10,11],C 13 7,g 14 5 5 3,b 15 68 [13,14],c 16 .sub 12 15,C 6 16]) .ret))⟩
def Alt:List (Nat × Nat):=[]
theorem xK:AY A9p Alt Tryz.f136 V7=true:=by kernel_rfl
def V8:ICode := .seq (e [C 6 4,C 7 0,S 8 (.len 7),c 9 .lss 6 8] (.cond 9 .skip (.exit 0))) (.seq (.block 1 (.region true [g 12 3 3 2,C 13 0,C 14 4,q 15 13 14 2,g 16 15 15 2,b 17 164 [12,16],k 3 3 2 17])) (rg [C 10 4,h 11 .add 10 1,C 4 11]))
def V9:IFunc:=⟨1,19,[.cell 2 2 false],e [S 2 (.new [F false,H 0 []] [])] (e [S 5 (.bld [F false,H 0 []] []),S 3 (.new [F false,H 0 []] []),k 3 3 2 5] (.seq (e [S 4 (.mov (i 0))] (.block 0 (.loop V8))) (e [g 18 3 3 2,k 2 2 2 18] .ret)))⟩
def Alu:List (Nat × Nat):=[]
theorem xL:AY A9p Alu Tryz.f137 V9=true:=by kernel_rfl
def VA:IFunc:=⟨2,29,[.cell 4 2 false,.cell 5 2 false],e [S 2 (.box 0 [9,18,25]),S 3 (.box 1 [12,20]),S 4 (.new [F false,H 0 []] []),S 5 (.new [F false,H 0 []] [])] (.seq (.region true [S 9 (.adr 2 2 1),S 10 (.ld 9 2 1 true),b 11 99 [10],S 12 (.adr 3 3 1),S 13 (.ld 12 3 1 true),b 14 99 [13],b 15 165 [11,14],C 8 15,p 16 8 0,p 17 8 1,C 6 16,C 7 17]) (.seq (.region true [S 18 (.adr 2 2 0),S 19 (.ld 18 2 1 true),S 20 (.adr 3 3 0),S 21 (.ld 20 3 1 true),S 22 (.eqb true 19 21),C 23 6,b 24 98 [22,23],S 25 (.adr 2 2 0),S 26 (.ld 25 2 1 true),C 27 7,b 28 98 [26,27],k 4 4 2 24,k 5 5 2 28]) .ret))⟩
def Alv:List (Nat × Nat):=[(9,2),(12,3),(18,2),(20,3),(25,2)]
theorem xM:AY A9p Alv Tryz.f138 VA=true:=by kernel_rfl
def Qu:ICode := .seq (e [C 8 4,h 9 .gtr 8 0,C 10 9,a 11 (.adr 1 1 1) 10 true,a 12 (.ld 11 1 1 true) 10 true,a 13 (.mov 4) 10 true,a 14 (.bin .sub 13 (i 1)) 10 true,a 15 (.ixa 12 14 1) 10 true,a 16 (.ld 15 15 1 true) 10 true,a 17 (.bin .eql 16 (.c (D Ad 0))) 10 true,S 18 (.pick 10 17 (r false))] (.cond 18 .skip (.exit 0))) (.block 1 (rg [C 19 4,h 20 .sub 19 1,C 4 20]))
def Sv:IFunc:=⟨1,31,[.tmp 2,.tmp 3],e [S 1 (.box 0 [5,11,21,27]),S 2 (.mov (r false)),S 3 (.nlo 1)] (e [S 5 (.adr 1 1 1),S 6 (.ld 5 1 1 true),S 7 (.len 6),C 4 7] (.seq (.block 0 (.loop Qu)) (.seq (.region true [S 21 (.adr 1 1 0),S 22 (.ld 21 1 1 true),C 23 22,a 24 (.mov 4) 23 true,a 25 (.bin .gtr 24 (i 0)) 23 true,S 26 (.pick 23 25 (r false)),S 27 (.adr 1 1 1),S 28 (.ld 27 1 1 true),C 29 4,S 30 (.sli 28 none (some 29) none 1),C 2 26,S 3 (.tra 30)]) .ret)))⟩
def Alw:List (Nat × Nat):=[(5,1),(11,1),(21,1),(27,1)]
theorem xN:AY A9p Alw Tryz.f143 Sv=true:=by kernel_rfl
def MR:ICode := .seq (e [C 8 7,C 9 0,S 10 (.len 9),c 11 .lss 8 10,C 12 11,a 13 (.mov 7) 12 false,a 14 (.mov 1) 12 false,a 15 (.len 14) 12 false,a 16 (.bin .lss 13 15) 12 false,S 17 (.pick 12 (r true) 16),C 18 17,a 19 (.mov 6) 18 false,a 20 (.bin .gtr 19 (.c (D B 0))) 18 false,S 21 (.pick 18 (r true) 20)] (.cond 21 .skip (.exit 0))) (.seq (.block 1 (.seq (e [C 24 7,C 25 0,S 26 (.len 25),c 27 .lss 24 26] (.cond 27 (rg [C 28 6,C 29 0,C 30 7,q 31 29 30 1,S 32 (.ld 31 31 1 true),S 33 (.cv .u64 32),c 34 .add 28 33,C 6 34]) .skip)) (.seq (e [C 35 7,C 36 1,S 37 (.len 36),c 38 .lss 35 37] (.cond 38 (rg [C 39 6,C 40 1,C 41 7,q 42 40 41 1,S 43 (.ld 42 42 1 true),S 44 (.cv .u64 43),c 45 .add 39 44,C 6 45]) .skip)) (e [S 46 (.tra 5),C 47 6,S 48 (.cv .u32 47),S 49 (.bls 1 [D Ad 0] [(0,1,.t 48)]),S 50 (.apd true 46 49 1 35184372088832),S 5 (.tra 50)] (rg [C 51 6,S 52 (.bin .shr 51 (.c (D B 32))),C 6 52]))))) (rg [C 22 7,h 23 .add 22 1,C 7 23]))
def VB:IFunc:=⟨2,54,[.tmp 4],e [S 4 (.nlo 1)] (e [S 5 (.nlo 1)] (e [S 6 (.mov (.c (D B 0)))] (.seq (e [S 7 (.mov (i 0))] (.block 0 (.loop MR))) (e [S 53 (.tra 5),S 4 (.tra 53)] .ret))))⟩
def Alx:List (Nat × Nat):=[]
theorem xO:AY A9p Alx Tryz.f144 VB=true:=by kernel_rfl
def Qv:ICode := .seq (e [C 10 7,C 11 0,S 12 (.len 11),c 13 .lss 10 12] (.cond 13 .skip (.exit 0))) (.seq (.block 1 (e [S 8 (.mov (.c (D B 0)))] (.seq (e [C 16 7,C 17 1,S 18 (.len 17),c 19 .lss 16 18] (.cond 19 (rg [C 20 1,C 21 7,q 22 20 21 1,S 23 (.ld 22 22 1 true),S 24 (.cv .u64 23),C 8 24]) .skip)) (e [C 25 0,C 26 7,q 27 25 26 1,S 28 (.ld 27 27 1 true),S 29 (.cv .u64 28),C 30 8,c 31 .sub 29 30,C 32 6,c 33 .sub 31 32,C 9 33] (e [S 34 (.tra 5),C 35 9,S 36 (.cv .u32 35),S 37 (.bls 1 [D Ad 0] [(0,1,.t 36)]),S 38 (.apd true 34 37 1 35184372088832),S 5 (.tra 38)] (rg [C 39 9,S 40 (.bin .shr 39 (.c (D B 63))),C 6 40])))))) (rg [C 14 7,h 15 .add 14 1,C 7 15]))
def VC:IFunc:=⟨2,42,[.tmp 4],e [S 4 (.nlo 1)] (e [S 5 (.nlo 1)] (e [S 6 (.mov (.c (D B 0)))] (.seq (e [S 7 (.mov (i 0))] (.block 0 (.loop Qv))) (e [S 41 (.tra 5),S 4 (.tra 41)] .ret))))⟩
def Aly:List (Nat × Nat):=[]
theorem xP:AY A9p Aly Tryz.f145 VC=true:=by kernel_rfl
def Rl:ICode := .seq (e [C 21 8,C 22 1,S 23 (.len 22),c 24 .lss 21 23] (.cond 24 .skip (.exit 2))) (.seq (.block 3 (.seq (.region true [C 27 7,S 28 (.cpy 5),C 29 6,C 30 8,c 31 .add 29 30,S 32 (.ixo 28 5 31 1),S 33 (.ld 32 5 1 true),S 34 (.cv .u64 33),C 35 0,C 36 6,q 37 35 36 1,S 38 (.ld 37 37 1 true),S 39 (.cv .u64 38),C 40 1,C 41 8,q 42 40 41 1,S 43 (.ld 42 42 1 true),S 44 (.cv .u64 43),c 45 .mul 39 44,c 46 .add 34 45,c 47 .add 27 46,C 7 47]) (e [S 48 (.cpy 5),C 49 6,C 50 8,c 51 .add 49 50,C 52 7,S 53 (.cv .u32 52),S 54 (.ixo 48 5 51 1),k 54 5 1 53] (rg [C 55 7,S 56 (.bin .shr 55 (.c (D B 32))),C 7 56])))) (rg [C 25 8,h 26 .add 25 1,C 8 26]))
def Rm:ICode := .seq (e [C 15 6,C 16 0,S 17 (.len 16),c 18 .lss 15 17] (.cond 18 .skip (.exit 0))) (.seq (.block 1 (e [S 7 (.mov (.c (D B 0)))] (.seq (e [S 8 (.mov (i 0))] (.block 2 (.loop Rl))) (rg [S 57 (.cpy 5),C 58 6,C 59 1,S 60 (.len 59),c 61 .add 58 60,C 62 7,S 63 (.cv .u32 62),S 64 (.ixo 57 5 61 1),k 64 5 1 63])))) (rg [C 19 6,h 20 .add 19 1,C 6 20]))
def VE:IFunc:=⟨2,66,[.tmp 4],e [S 4 (.nlo 1)] (e [C 9 0,S 10 (.len 9),C 11 1,S 12 (.len 11),c 13 .add 10 12,S 14 (.mks [D Ad 0] 13),⟨some 5,.tra 14,none,[28,32,48,54,57,64]⟩] (.seq (e [S 6 (.mov (i 0))] (.block 0 (.loop Rm))) (e [S 65 (.tra 5),S 4 (.tra 65)] .ret)))⟩
def Alz:List (Nat × Nat):=[(28,5),(32,5),(48,5),(54,5),(57,5),(64,5)]
theorem xQ:AY A9p Alz Tryz.f146 VE=true:=by kernel_rfl
def I1:ICode := .seq (e [C 17 6,C 18 5,c 19 .leq 17 18] (.cond 19 .skip (.exit 2))) (.seq (.block 3 (e [C 22 4,C 23 6,q 24 22 23 2,g 25 24 24 2,b 26 177 [25],h 27 .gtr 26 256] (.cond 27 (e [S 2 (.mov (r true))] .ret) .skip))) (rg [C 20 6,h 21 .add 20 1,C 6 21]))
def uB:ICode:=e [c 10 .lss 9 8] (.seq (.cond 10 .skip (.exit 0)) (.seq (.block 1 (e [q 11 7 9 1,S 12 (.ld 11 11 1 true),C 4 12] (e [C 13 4,b 14 53 [13],C 5 14] (.seq (e [C 15 5,h 16 .gtr 15 16] (.cond 16 (e [S 2 (.mov (r true))] .ret) .skip)) (e [S 6 (.mov (i 0))] (.block 2 (.loop I1))))))) (rg [h 28 .add 9 1,C 9 28])))
def Sw:IFunc:=⟨1,29,[.tmp 2],e [S 2 (.mov (r false))] (.seq (e [C 7 0,S 8 (.len 7),S 9 (.mov (i 0))] (.block 0 (.loop uB))) (e [S 2 (.mov (r false))] .ret))⟩
def Ama:List (Nat × Nat):=[]
theorem xR:AY A9p Ama Tryz.f147 Sw=true:=by kernel_rfl
def VF:IFunc:=⟨1,8,[.tmp 2,.tmp 3],e [S 2 (.nlo 2),S 3 (.mov (i 0))] (.seq (e [C 4 0,S 5 (.bls 1 [H 0 []] [(0,1,.t 4)]),b 6 147 [5]] (.cond 6 (e [S 2 (.nlo 2),S 3 (.mov (i 2))] .ret) .skip)) (e [C 7 0,S 2 (.tra 7),S 3 (.mov (i 0))] .ret))⟩
def Amb:List (Nat × Nat):=[]
theorem xS:AY A9p Amb Tryz.f148 VF=true:=by kernel_rfl
def Oj:ICode:=e [c 22 .lss 21 20] (.seq (.cond 22 .skip (.exit 0)) (.seq (.block 1 (e [C 23 21,C 8 23] (.seq (e [C 24 8,C 25 5,c 26 .lss 24 25] (.cond 26 (rg [S 27 (.cpy 7),C 28 8,C 29 0,C 30 8,q 31 29 30 2,g 32 31 31 2,S 33 (.ixo 27 7 28 2),k 33 7 2 32]) .skip)) (e [C 34 8,C 35 6,c 36 .lss 34 35] (.cond 36 (.region true [S 37 (.cpy 7),C 38 8,S 39 (.cpy 7),C 40 8,S 41 (.ixo 39 7 40 2),g 42 41 7 2,C 43 1,C 44 8,q 45 43 44 2,g 46 45 45 2,b 47 111 [42,46],S 48 (.ixo 37 7 38 2),k 48 7 2 47]) .skip))))) (rg [h 49 .add 21 1,C 21 49])))
def VG:IFunc:=⟨2,52,[.tmp 4],e [S 4 (.nlo 2)] (e [C 9 0,b 10 53 [9],h 11 .add 10 1,C 12 1,b 13 53 [12],h 14 .add 13 1,C 5 11,C 6 14] (e [C 15 5,C 16 6,S 17 (.mx [15,16]),S 18 (.mks [F false,H 0 []] 17),⟨some 7,.tra 18,none,[19,27,33,37,39,41,48]⟩] (.seq (e [S 19 (.cpy 7),S 20 (.lno 19 7),S 21 (.mov (i 0))] (.block 0 (.loop Oj))) (e [S 50 (.frz 7),S 51 (.clo 66 [50]),S 4 (.tra 51)] .ret))))⟩
def Amc:List (Nat × Nat):=[(19,7),(27,7),(33,7),(37,7),(39,7),(41,7),(48,7)]
theorem xT:AY A9p Amc Tryz.f149 VG=true:=by kernel_rfl
def Sx:List UInt8:=0::1::2::2::3::3::3::3::4::4::4::4::4::4::4::4::5::5::5::5::5::5::5::5::5::5::5::5::5::5::5::5::6::6::6::6::6::6::6::6::[]
def Sy:List UInt8:=6::6::6::6::6::6::6::6::6::6::6::6::6::6::6::6::6::6::6::6::6::6::6::6::7::7::7::7::7::7::7::7::7::7::7::7::7::7::7::7::[]
def Sz:List UInt8:=7::7::7::7::7::7::7::7::7::7::7::7::7::7::7::7::7::7::7::7::7::7::7::7::7::7::7::7::7::7::7::7::7::7::7::7::7::7::7::7::[]
def S0:List UInt8:=7::7::7::7::7::7::7::7::8::8::8::8::8::8::8::8::8::8::8::8::8::8::8::8::8::8::8::8::8::8::8::8::8::8::8::8::8::8::8::8::[]
def S3:List UInt8:=8::8::8::8::8::8::8::8::8::8::8::8::8::8::8::8::8::8::8::8::8::8::8::8::8::8::8::8::8::8::8::8::8::8::8::8::8::8::8::8::[]
def S4:List UInt8:=8::8::8::8::8::8::8::8::8::8::8::8::8::8::8::8::8::8::8::8::8::8::8::8::8::8::8::8::8::8::8::8::8::8::8::8::8::8::8::8::[]
def S5:List UInt8:=8::8::8::8::8::8::8::8::8::8::8::8::8::8::8::8::[]
def EC:ByteArray:=⟨(Sx++Sy++Sz++S0++S3++S4++S5).toArray⟩
def ZI:IFunc:=⟨1,19,[.tmp 2],e [S 2 (.mov (i 0))] (.seq (e [C 3 0,S 4 (.bin .geq 3 (.c (D Ad 65536)))] (.cond 4 (e [C 5 0,S 6 (.bin .shr 5 (.c (D B 16))),C 0 6] (rg [S 2 (.mov (i 16))])) .skip)) (.seq (e [C 7 0,S 8 (.bin .geq 7 (.c (D Ad 256)))] (.cond 8 (e [C 9 0,S 10 (.bin .shr 9 (.c (D B 8))),C 0 10] (rg [C 11 2,h 12 .add 11 8,C 2 12])) .skip)) (e [C 13 2,C 14 0,S 15 (.cv .u8 14),S 16 (.six (.c (.str EC)) 15),S 17 (.cv .i64 16),c 18 .add 13 17,C 2 18] .ret)))⟩
def Amd:List (Nat × Nat):=[]
theorem xU:AY A9p Amd Tryz.f150 ZI=true:=by kernel_rfl
def MS:ICode := .seq (e [C 19 5,h 20 .geq 19 0] (.cond 20 .skip (.exit 0))) (.seq (.block 1 (.seq (.region true [C 23 0,C 24 5,q 25 23 24 1,S 26 (.ld 25 25 1 true),C 27 1,C 28 5,q 29 27 28 1,S 30 (.ld 29 29 1 true),c 31 .neq 26 30]) (.cond 31 (.seq (.seq (.region true [C 32 0,C 33 5,q 34 32 33 1,S 35 (.ld 34 34 1 true),C 36 1,C 37 5,q 38 36 37 1,S 39 (.ld 38 38 1 true),c 40 .lss 35 39]) (.cond 40 (e [S 4 (.mov (i (-1)))] .ret) .skip)) (e [S 4 (.mov (i 1))] .ret)) .skip))) (rg [C 21 5,h 22 .sub 21 1,C 5 22]))
def S6:IFunc:=⟨2,41,[.tmp 4],e [S 4 (.mov (i 0))] (.seq (e [C 6 0,S 7 (.len 6),C 8 1,S 9 (.len 8),c 10 .neq 7 9] (.cond 10 (.seq (e [C 11 0,S 12 (.len 11),C 13 1,S 14 (.len 13),c 15 .lss 12 14] (.cond 15 (e [S 4 (.mov (i (-1)))] .ret) .skip)) (e [S 4 (.mov (i 1))] .ret)) .skip)) (.seq (e [C 16 0,S 17 (.len 16),h 18 .sub 17 1,C 5 18] (.block 0 (.loop MS))) (e [S 4 (.mov (i 0))] .ret)))⟩
def Ame:List (Nat × Nat):=[]
theorem xV:AY A9p Ame Tryz.f151 S6=true:=by kernel_rfl
def Qw:ICode := .seq (e [C 8 5,h 9 .gtr 8 0,C 10 9,a 11 (.mov 1) 10 true,a 12 (.mov 5) 10 true,a 13 (.bin .sub 12 (i 1)) 10 true,a 14 (.ixa 11 13 1) 10 true,a 15 (.ld 14 14 1 true) 10 true,a 16 (.bin .eql 15 (.c (D Ad 0))) 10 true,S 17 (.pick 10 16 (r false))] (.cond 17 .skip (.exit 0))) (.block 1 (rg [C 18 5,h 19 .sub 18 1,C 5 19]))
def S7:IFunc:=⟨2,29,[.cell 4 2 false],e [S 4 (.new [F false,H 0 []] [])] (e [C 6 1,S 7 (.len 6),C 5 7] (.seq (.block 0 (.loop Qw)) (.seq (e [C 20 5,h 21 .eql 20 0] (.cond 21 (e [S 22 (.bld [F false,H 0 []] []),k 4 4 2 22] .ret) .skip)) (e [C 23 0,C 24 1,C 25 5,C 26 5,S 27 (.sli 24 none (some 25) (some 26) 1),S 28 (.bld [F false,H 0 []] [(0,1,.t 23),(1,1,.t 27)]),k 4 4 2 28] .ret))))⟩
def Amf:List (Nat × Nat):=[]
theorem xW:AY A9p Amf Tryz.f152 S7=true:=by kernel_rfl
def VH:ICode := .seq (e [C 5 4,C 6 0,S 7 (.len 6),c 8 .lss 5 7] (.cond 8 .skip (.exit 0))) (.seq (.block 1 (rg [S 11 (.tra 3),C 12 0,C 13 4,q 14 12 13 2,g 15 14 14 2,b 16 161 [15],S 17 (.bls 1 [F false,H 0 []] [(0,2,.t 16)]),S 18 (.apd true 11 17 2 1048576),S 3 (.tra 18)])) (rg [C 9 4,h 10 .add 9 1,C 4 10]))
def VI:IFunc:=⟨1,21,[.tmp 2],e [S 2 (.nlo 2)] (e [S 3 (.nlo 2)] (.seq (e [S 4 (.mov (i 0))] (.block 0 (.loop VH))) (e [S 19 (.frz 3),S 20 (.clo 46 [19]),S 2 (.tra 20)] .ret)))⟩
def Amg:List (Nat × Nat):=[]
theorem xX:AY A9p Amg Tryz.f153 VI=true:=by kernel_rfl
def ZJ:IFunc:=⟨4,31,[.cell 8 2 false],e [S 8 (.new [F false,H 0 []] [])] (.seq (e [C 9 0,C 10 2,S 11 (.eqb false 9 10)] (.cond 11 (e [C 12 0,C 13 1,C 14 3,b 15 178 [13,14],b 16 152 [12,15],k 8 8 2 16] .ret) .skip)) (.seq (e [C 17 1,C 18 3,b 19 151 [17,18],h 20 .geq 19 0] (.cond 20 (e [C 21 0,C 22 1,C 23 3,b 24 179 [22,23],b 25 152 [21,24],k 8 8 2 25] .ret) .skip)) (e [C 26 2,C 27 3,C 28 1,b 29 179 [27,28],b 30 152 [26,29],k 8 8 2 30] .ret)))⟩
def Amh:List (Nat × Nat):=[]
theorem xY:AY A9p Amh Tryz.f154 ZJ=true:=by kernel_rfl
def Qx:IFunc:=⟨1,20,[.tmp 2],e [S 2 (.nlo 2)] (.seq (e [C 4 0,S 5 (.len 4),C 3 5] (e [C 6 3,h 7 .gtr 6 0,C 8 7,a 9 (.mov 0) 8 true,a 10 (.mov 3) 8 true,a 11 (.bin .sub 10 (i 1)) 8 true,a 12 (.ixa 9 11 2) 8 true,a 13 (.ld 12 12 2 false) 8 true,a 14 (.call 101 [13]) 8 true,a 15 (.bin .lss 14 (i 0)) 8 true,S 16 (.pick 8 15 (r false))] (.cond 16 (e [C 17 0,S 18 (.clo 117 [17]),S 2 (.tra 18)] .ret) .skip))) (e [C 19 0,S 2 (.tra 19)] .ret))⟩
def Ami:List (Nat × Nat):=[]
theorem xZ:AY A9p Ami Tryz.f155 Qx=true:=by kernel_rfl
def Pc:ICode:=e [c 46 .lss 45 44] (.seq (.cond 46 .skip (.exit 2)) (.seq (.block 3 (e [C 47 45,C 10 47] (.region true [S 48 (.cpy 5),C 49 10,S 50 (.cpy 5),C 51 10,S 52 (.ixo 50 5 51 2),g 53 52 5 2,g 54 6 6 2,b 55 112 [53,54],S 56 (.ixo 48 5 49 2),k 56 5 2 55]))) (rg [h 57 .add 45 1,C 45 57])))
def Pd:ICode:=e [c 61 .lss 60 59] (.seq (.cond 61 .skip (.exit 4)) (.seq (.block 5 (e [C 62 60,C 11 62] (.region true [S 63 (.cpy 7),C 64 11,S 65 (.cpy 7),C 66 11,S 67 (.ixo 65 7 66 2),g 68 67 7 2,g 69 6 6 2,b 70 112 [68,69],S 71 (.ixo 63 7 64 2),k 71 7 2 70]))) (rg [h 72 .add 60 1,C 60 72])))
def Pe:ICode:=e [c 80 .lss 79 78] (.seq (.cond 80 .skip (.exit 6)) (.seq (.block 7 (e [C 81 79,C 12 81] (.region true [S 82 (.cpy 5),C 83 8,C 84 12,c 85 .add 83 84,S 86 (.cpy 5),C 87 8,C 88 12,c 89 .add 87 88,S 90 (.ixo 86 5 89 2),g 91 90 5 2,g 92 9 9 2,C 93 1,C 94 12,q 95 93 94 2,g 96 95 95 2,b 97 112 [92,96],b 98 127 [91,97],S 99 (.ixo 82 5 85 2),k 99 5 2 98]))) (rg [h 100 .add 79 1,C 79 100])))
def VJ:ICode := .seq (e [C 31 8,h 32 .geq 31 0] (.cond 32 .skip (.exit 0))) (.seq (.block 1 (e [S 35 (.cpy 5),C 36 8,C 37 1,S 38 (.len 37),c 39 .add 36 38,h 40 .sub 39 1,S 41 (.ixo 35 5 40 2),g 42 41 5 2,S 9 (.new [F false,H 0 []] []),k 9 9 2 42] (.seq (e [S 43 (.cpy 5),S 44 (.lno 43 5),S 45 (.mov (i 0))] (.block 2 (.loop Pc))) (.seq (e [S 58 (.cpy 7),S 59 (.lno 58 7),S 60 (.mov (i 0))] (.block 4 (.loop Pd))) (e [S 73 (.cpy 7),C 74 8,g 75 9 9 2,S 76 (.ixo 73 7 74 2),k 76 7 2 75] (e [C 77 1,S 78 (.len 77),S 79 (.mov (i 0))] (.block 6 (.loop Pe)))))))) (rg [C 33 8,h 34 .sub 33 1,C 8 34]))
def VK:IFunc:=⟨2,103,[.tmp 4],e [S 4 (.nlo 2)] (e [C 13 0,S 14 (.clo 66 [13]),⟨some 5,.tra 14,none,[21,35,41,43,48,50,52,56,82,86,90,99]⟩] (e [C 15 1,C 16 1,S 17 (.len 16),h 18 .sub 17 1,q 19 15 18 2,g 20 19 19 2,S 6 (.new [F false,H 0 []] []),k 6 6 2 20] (e [S 21 (.cpy 5),S 22 (.lno 21 5),C 23 1,S 24 (.len 23),c 25 .sub 22 24,h 26 .add 25 1,S 27 (.mks [F false,H 0 []] 26),⟨some 7,.tra 27,none,[28,58,63,65,67,71,73,76]⟩] (.seq (e [S 28 (.cpy 7),S 29 (.lno 28 7),h 30 .sub 29 1,C 8 30] (.block 0 (.loop VJ))) (e [S 101 (.frz 7),S 102 (.clo 115 [101]),S 4 (.tra 102)] .ret)))))⟩
def Amj:List (Nat × Nat):=[(21,5),(28,7),(35,5),(41,5),(43,5),(48,5),(50,5),(52,5),(56,5),(58,7),(63,7),(65,7),(67,7),(71,7),(73,7),(76,7),(82,5),(86,5),(90,5),(99,5)]
theorem yA:AY A9p Amj Tryz.f156 VK=true:=by kernel_rfl
def S8:ICode := .seq (e [C 8 4,h 9 .geq 8 0,C 10 9,a 11 (.ld 3 3 2 false) 10 true,a 12 (.call 102 [11]) 10 true,a 13 (.bin .neq 12 (i 1)) 10 true,S 14 (.pick 10 13 (r false))] (.cond 14 .skip (.exit 0))) (.seq (.block 1 (.region true [g 17 3 3 2,C 18 0,C 19 4,q 20 18 19 2,g 21 20 20 2,b 22 159 [17,21],k 3 3 2 22])) (rg [C 15 4,h 16 .sub 15 1,C 4 16]))
def VL:IFunc:=⟨1,24,[.cell 2 2 false],e [S 2 (.new [F false,H 0 []] [])] (e [S 3 (.new [F false,H 0 []] [])] (.seq (e [C 5 0,S 6 (.len 5),h 7 .sub 6 1,C 4 7] (.block 0 (.loop S8))) (e [g 23 3 3 2,k 2 2 2 23] .ret)))⟩
def Amk:List (Nat × Nat):=[]
theorem yB:AY A9p Amk Tryz.f157 VL=true:=by kernel_rfl
def VM:IFunc:=⟨2,36,[.cell 4 2 false,.cell 5 2 false],e [S 2 (.box 0 []),S 3 (.box 1 []),S 4 (.new [F false,H 0 []] []),S 5 (.new [F false,H 0 []] [])] (e [g 13 2 2 2,b 14 143 [13],C 12 14,p 15 12 0,p 16 12 1,C 6 15,C 7 16] (e [g 18 3 3 2,b 19 143 [18],C 17 19,p 20 17 0,p 21 17 1,C 8 20,C 9 21] (e [C 23 7,C 24 9,b 25 180 [23,24],C 22 25,p 26 22 0,p 27 22 1,C 10 26,C 11 27] (e [C 28 6,C 29 8,S 30 (.eqb true 28 29),C 31 10,b 32 152 [30,31],C 33 6,C 34 11,b 35 152 [33,34],k 4 4 2 32,k 5 5 2 35] .ret))))⟩
def Aml:List (Nat × Nat):=[]
theorem yC:AY A9p Aml Tryz.f158 VM=true:=by kernel_rfl
def LU:ICode := .seq (e [S 13 (.adr 6 6 1),S 14 (.ld 13 6 1 true),S 15 (.len 14),h 16 .gtr 15 0] (.cond 16 .skip (.exit 0))) (.block 1 (.seq (e [S 17 (.adr 5 5 1),S 18 (.ld 17 5 1 true),S 19 (.len 18),h 20 .leq 19 2,C 21 20,a 22 (.adr 6 6 1) 21 true,a 23 (.ld 22 6 1 true) 21 true,a 24 (.len 23) 21 true,a 25 (.bin .leq 24 (i 2)) 21 true,S 26 (.pick 21 25 (r false))] (.cond 26 (.seq (.region true [g 27 5 5 2,b 28 183 [27],g 29 6 6 2,b 30 183 [29],b 31 182 [28,30],b 32 181 [31],k 4 4 2 32]) .ret) .skip)) (e [g 34 5 5 2,g 35 6 6 2,b 36 158 [34,35],C 33 36,p 37 33 0,p 38 33 1,S 7 (.new [F false,H 0 []] []),S 8 (.new [F false,H 0 []] []),k 7 7 2 37,k 8 8 2 38] (.region true [g 39 6 6 2,g 40 8 8 2,k 5 5 2 39,k 6 6 2 40]))))
def S9:IFunc:=⟨2,42,[.cell 4 2 false],e [S 2 (.box 0 []),S 3 (.box 1 []),S 4 (.new [F false,H 0 []] [])] (.seq (.region true [g 9 2 2 2,b 10 160 [9],g 11 3 3 2,b 12 160 [11],S 5 (.new [F false,H 0 []] [17]),S 6 (.new [F false,H 0 []] [13,22]),k 5 5 2 10,k 6 6 2 12]) (.seq (.block 0 (.loop LU)) (e [g 41 5 5 2,k 4 4 2 41] .ret)))⟩
def Amm:List (Nat × Nat):=[(13,6),(17,5),(22,6)]
theorem yD:AY A9p Amm Tryz.f159 S9=true:=by kernel_rfl
def VN:IFunc:=⟨1,13,[.cell 2 2 false],e [S 1 (.box 0 []),S 2 (.new [F false,H 0 []] [])] (e [g 6 1 1 2,b 7 143 [6],C 5 7,p 8 5 0,p 9 5 1,C 3 8,C 4 9] (e [C 10 4,S 11 (.apd false (.c (.nil)) 10 1 35184372088832),S 12 (.call 152 [r false,11]),k 2 2 2 12] .ret))⟩
def Amn:List (Nat × Nat):=[]
theorem yE:AY A9p Amn Tryz.f160 VN=true:=by kernel_rfl
def VO:IFunc:=⟨1,9,[.cell 2 2 false],e [S 1 (.box 0 [3,6]),S 2 (.new [F false,H 0 []] [])] (e [S 3 (.adr 1 1 0),S 4 (.ld 3 1 1 true),S 5 (.un .not 4),S 6 (.adr 1 1 1),S 7 (.ld 6 1 1 true),b 8 98 [5,7],k 2 2 2 8] .ret)⟩
def Amo:List (Nat × Nat):=[(3,1),(6,1)]
theorem yF:AY A9p Amo Tryz.f161 VO=true:=by kernel_rfl
def Qy:ICode := .seq (e [C 10 4,h 11 .gtr 10 0,C 12 11,a 13 (.adr 3 3 1) 12 true,a 14 (.ld 13 3 1 true) 12 true,a 15 (.len 14) 12 true,a 16 (.bin .eql 15 (i 0)) 12 true,a 17 (.mov 16) 12 true,a 18 (.adr 3 3 1) 17 false,a 19 (.ld 18 3 1 true) 17 false,a 20 (.ixa 19 (i 0) 1) 17 false,a 21 (.ld 20 20 1 true) 17 false,a 22 (.bin .and 21 (.c (D Ad 1))) 17 false,a 23 (.bin .eql 22 (.c (D Ad 0))) 17 false,a 24 (.pick 17 (r true) 23) 12 true,S 25 (.pick 12 24 (r false))] (.cond 25 .skip (.exit 0))) (.block 1 (rg [g 26 3 3 2,S 27 (.call 128 [26,.c (D O 1)]),C 28 4,h 29 .sub 28 1,k 3 3 2 27,C 4 29]))
def VP:IFunc:=⟨1,33,[.cell 2 3 false],e [S 1 (.box 0 [5,8]),S 2 (.new [F false,H 0 [],D O 0] [])] (.seq (.region true [S 5 (.adr 1 1 0),g 6 5 1 2,b 7 97 [6],S 8 (.adr 1 1 2),S 9 (.ld 8 1 1 true),S 3 (.new [F false,H 0 []] [13,18]),k 3 3 2 7,C 4 9]) (.seq (.block 0 (.loop Qy)) (e [g 30 3 3 2,C 31 4,S 32 (.bld [F false,H 0 [],D O 0] [(0,2,.t 30),(2,1,.t 31)]),k 2 2 3 32] .ret)))⟩
def Amp:List (Nat × Nat):=[(5,1),(8,1),(13,3),(18,3)]
theorem yG:AY A9p Amp Tryz.f162 VP=true:=by kernel_rfl
def Lx:ICode := .seq (e [C 24 10,C 25 7,c 26 .lss 24 25,C 27 26,a 28 (.mov 10) 27 true,a 29 (.mov 6) 27 true,a 30 (.len 29) 27 true,a 31 (.bin .lss 28 30) 27 true,S 32 (.pick 27 31 (r false))] (.cond 32 .skip (.exit 0))) (.seq (.block 1 (rg [C 35 9,C 36 35,a 37 (.mov 6) 36 false,a 38 (.mov 10) 36 false,a 39 (.ixa 37 38 1) 36 false,a 40 (.ld 39 39 1 true) 36 false,a 41 (.bin .neq 40 (.c (D Ad 0))) 36 false,S 42 (.pick 36 (r true) 41),C 9 42])) (rg [C 33 10,h 34 .add 33 1,C 10 34]))
def Kr:ICode := .seq (e [C 44 12,C 45 6,S 46 (.len 45),c 47 .lss 44 46] (.cond 47 .skip (.exit 2))) (.seq (.block 3 (e [C 50 6,C 51 12,q 52 50 51 1,S 53 (.ld 52 52 1 true),S 54 (.cv .u64 53),C 13 54] (.seq (e [C 55 12,h 56 .add 55 1,C 57 6,S 58 (.len 57),c 59 .lss 56 58] (.cond 59 (rg [C 60 13,C 61 6,C 62 12,h 63 .add 62 1,q 64 61 63 1,S 65 (.ld 64 64 1 true),S 66 (.cv .u64 65),S 67 (.bin .shl 66 (.c (D B 32))),c 68 .or 60 67,C 13 68]) .skip)) (rg [S 69 (.tra 11),C 70 13,C 71 8,c 72 .shr 70 71,S 73 (.cv .u32 72),S 74 (.bls 1 [D Ad 0] [(0,1,.t 73)]),S 75 (.apd true 69 74 1 35184372088832),S 11 (.tra 75)])))) (rg [C 48 12,h 49 .add 48 1,C 12 49]))
def SA:IFunc:=⟨2,103,[.cell 4 2 false],e [S 2 (.box 0 []),S 4 (.new [F false,H 0 []] [])] (e [g 15 2 2 2,b 16 143 [15],C 14 16,p 17 14 0,p 18 14 1,C 5 17,C 6 18] (e [C 19 1,h 20 .quo 19 32,C 21 1,h 22 .rem 21 32,S 23 (.cv .u64 22),C 7 20,C 8 23] (e [S 9 (.mov (r false))] (.seq (e [S 10 (.mov (i 0))] (.block 0 (.loop Lx))) (e [S 11 (.nlo 1)] (.seq (e [C 43 7,C 12 43] (.block 2 (.loop Kr))) (.seq (e [C 76 7,C 77 6,S 78 (.len 77),c 79 .lss 76 78,C 80 79,a 81 (.mov 6) 80 true,a 82 (.mov 7) 80 true,a 83 (.ixa 81 82 1) 80 true,a 84 (.ld 83 83 1 true) 80 true,a 85 (.mov 8) 80 true,a 86 (.bin .shl (.c (D Ad 1)) 85) 80 true,a 87 (.bin .sub 86 (.c (D Ad 1))) 80 true,a 88 (.bin .and 84 87) 80 true,a 89 (.bin .neq 88 (.c (D Ad 0))) 80 true,S 90 (.pick 80 89 (r false))] (.cond 90 (rg [S 9 (.mov (r true))]) .skip)) (.seq (e [C 91 5,C 92 91,a 93 (.mov 9) 92 true,S 94 (.pick 92 93 (r false))] (.cond 94 (e [S 95 (.frz 11),b 96 184 [95],S 97 (.bls 1 [D Ad 0] [(0,1,.c (D Ad 1))]),b 98 178 [96,97],S 99 (.call 152 [r true,98]),k 4 4 2 99] .ret) .skip)) (e [C 100 5,S 101 (.frz 11),b 102 152 [100,101],k 4 4 2 102] .ret)))))))))⟩
def Amq:List (Nat × Nat):=[]
theorem yH:AY A9p Amq Tryz.f163 SA=true:=by kernel_rfl
def Ro:ICode := .seq (e [g 15 6 6 2,b 16 79 [15],h 17 .neq 16 0] (.cond 17 .skip (.exit 0))) (.block 1 (e [g 19 5 5 2,g 20 6 6 2,b 21 138 [19,20],C 18 21,p 22 18 0,p 23 18 1,S 7 (.new [F false,H 0 []] []),S 8 (.new [F false,H 0 []] []),k 7 7 2 22,k 8 8 2 23] (.region true [g 24 6 6 2,g 25 8 8 2,k 5 5 2 24,k 6 6 2 25])))
def VQ:IFunc:=⟨2,27,[.cell 4 2 false],e [S 2 (.box 0 [9]),S 3 (.box 1 [12]),S 4 (.new [F false,H 0 []] [])] (.seq (.region true [S 9 (.adr 2 2 1),S 10 (.ld 9 2 1 true),S 11 (.call 98 [r false,10]),S 12 (.adr 3 3 1),S 13 (.ld 12 3 1 true),S 14 (.call 98 [r false,13]),S 5 (.new [F false,H 0 []] []),S 6 (.new [F false,H 0 []] []),k 5 5 2 11,k 6 6 2 14]) (.seq (.block 0 (.loop Ro)) (e [g 26 5 5 2,k 4 4 2 26] .ret)))⟩
def Amr:List (Nat × Nat):=[(9,2),(12,3)]
theorem yI:AY A9p Amr Tryz.f164 VQ=true:=by kernel_rfl
def Rp:ICode := .seq (e [C 73 1,C 74 1,S 75 (.len 74),h 76 .sub 75 1,q 77 73 76 1,S 78 (.ld 77 77 1 true),C 79 9,S 80 (.cv .u64 79),c 81 .shl 78 80,S 82 (.bin .and 81 (.c (D Ad 2147483648))),S 83 (.bin .eql 82 (.c (D Ad 0)))] (.cond 83 .skip (.exit 2))) (.block 3 (rg [C 84 9,h 85 .add 84 1,C 9 85]))
def Rq:ICode := .seq (e [C 39 8,h 40 .geq 39 0] (.cond 40 .skip (.exit 0))) (.seq (.block 1 (e [C 43 7,S 44 (.bin .shl 43 (.c (D B 32))),C 45 0,C 46 8,q 47 45 46 1,S 48 (.ld 47 47 1 true),S 49 (.cv .u64 48),c 50 .or 44 49,C 7 50] (e [S 51 (.cpy 6),C 52 8,C 53 7,C 54 1,S 55 (.ixa 54 (i 0) 1),S 56 (.ld 55 55 1 true),S 57 (.cv .u64 56),c 58 .quo 53 57,S 59 (.cv .u32 58),S 60 (.ixo 51 6 52 1),k 60 6 1 59] (rg [C 61 7,C 62 1,S 63 (.ixa 62 (i 0) 1),S 64 (.ld 63 63 1 true),S 65 (.cv .u64 64),c 66 .rem 61 65,C 7 66])))) (rg [C 41 8,h 42 .sub 41 1,C 8 42]))
def Rr:ICode := .seq (e [C 256 24,C 257 12,c 258 .lss 256 257] (.cond 258 .skip (.exit 10))) (.seq (.block 11 (.seq (.region true [C 261 23,S 262 (.cpy 11),C 263 24,C 264 14,c 265 .add 263 264,S 266 (.ixo 262 11 265 1),S 267 (.ld 266 11 1 true),S 268 (.cv .u64 267),C 269 10,C 270 24,q 271 269 270 1,S 272 (.ld 271 271 1 true),S 273 (.cv .u64 272),c 274 .add 268 273,c 275 .add 261 274,C 23 275]) (e [S 276 (.cpy 11),C 277 24,C 278 14,c 279 .add 277 278,C 280 23,S 281 (.cv .u32 280),S 282 (.ixo 276 11 279 1),k 282 11 1 281] (rg [C 283 23,S 284 (.bin .shr 283 (.c (D B 32))),C 23 284])))) (rg [C 259 24,h 260 .add 259 1,C 24 260]))
def Pf:ICode := .seq (e [C 196 20,C 197 12,c 198 .lss 196 197] (.cond 198 .skip (.exit 8))) (.seq (.block 9 (e [C 201 19,C 202 16,C 203 10,C 204 20,q 205 203 204 1,S 206 (.ld 205 205 1 true),S 207 (.cv .u64 206),c 208 .mul 202 207,c 209 .add 201 208,C 19 209] (e [S 210 (.cpy 11),C 211 20,C 212 14,c 213 .add 211 212,S 214 (.ixo 210 11 213 1),S 215 (.ld 214 11 1 true),S 216 (.cv .u64 215),C 217 19,S 218 (.bin .and 217 (.c (D B 4294967295))),c 219 .sub 216 218,C 220 18,c 221 .sub 219 220,C 21 221] (e [S 222 (.cpy 11),C 223 20,C 224 14,c 225 .add 223 224,C 226 21,S 227 (.cv .u32 226),S 228 (.ixo 222 11 225 1),k 228 11 1 227] (e [C 229 21,S 230 (.bin .shr 229 (.c (D B 63))),C 18 230] (rg [C 231 19,S 232 (.bin .shr 231 (.c (D B 32))),C 19 232])))))) (rg [C 199 20,h 200 .add 199 1,C 20 200]))
def HU:ICode := .seq (.seq (.region true [C 156 16,S 157 (.bin .geq 156 (.c (D B 4294967296))),C 158 157,a 159 (.mov 17) 158 false,a 160 (.bin .lss 159 (.c (D B 4294967296))) 158 false,a 161 (.mov 160) 158 false,a 162 (.mov 16) 161 true,a 163 (.mov 10) 161 true,a 164 (.mov 12) 161 true,a 165 (.bin .sub 164 (i 2)) 161 true,a 166 (.ixa 163 165 1) 161 true,a 167 (.ld 166 166 1 true) 161 true,a 168 (.cv .u64 167) 161 true,a 169 (.bin .mul 162 168) 161 true,a 170 (.mov 17) 161 true,a 171 (.bin .shl 170 (.c (D B 32))) 161 true,a 172 (.cpy 11) 161 true,a 173 (.mov 14) 161 true,a 174 (.mov 12) 161 true,a 175 (.bin .add 173 174) 161 true,a 176 (.bin .sub 175 (i 2)) 161 true,a 177 (.ixo 172 11 176 1) 161 true,a 178 (.ld 177 11 1 true) 161 true,a 179 (.cv .u64 178) 161 true,a 180 (.bin .or 171 179) 161 true,a 181 (.bin .gtr 169 180) 161 true,a 182 (.pick 161 181 (r false)) 158 false,S 183 (.pick 158 (r true) 182)]) (.cond 183 .skip (.exit 6))) (.block 7 (e [C 184 16,S 185 (.bin .sub 184 (.c (D B 1))),C 16 185] (e [C 186 17,C 187 10,C 188 12,h 189 .sub 188 1,q 190 187 189 1,S 191 (.ld 190 190 1 true),S 192 (.cv .u64 191),c 193 .add 186 192,C 17 193] (e [C 194 17,S 195 (.bin .geq 194 (.c (D B 4294967296)))] (.cond 195 (.exit 6) .skip)))))
def Ol:ICode := .seq (e [C 119 14,h 120 .geq 119 0] (.cond 120 .skip (.exit 4))) (.seq (.block 5 (.seq (.region true [S 123 (.cpy 11),C 124 14,C 125 12,c 126 .add 124 125,S 127 (.ixo 123 11 126 1),S 128 (.ld 127 11 1 true),S 129 (.cv .u64 128),S 130 (.bin .shl 129 (.c (D B 32))),S 131 (.cpy 11),C 132 14,C 133 12,c 134 .add 132 133,h 135 .sub 134 1,S 136 (.ixo 131 11 135 1),S 137 (.ld 136 11 1 true),S 138 (.cv .u64 137),c 139 .or 130 138,C 15 139]) (.seq (.region true [C 140 15,C 141 10,C 142 12,h 143 .sub 142 1,q 144 141 143 1,S 145 (.ld 144 144 1 true),S 146 (.cv .u64 145),c 147 .quo 140 146,C 148 15,C 149 10,C 150 12,h 151 .sub 150 1,q 152 149 151 1,S 153 (.ld 152 152 1 true),S 154 (.cv .u64 153),c 155 .rem 148 154,C 16 147,C 17 155]) (.seq (.block 6 (.loop HU)) (e [S 18 (.mov (.c (D B 0))),S 19 (.mov (.c (D B 0)))] (.seq (e [S 20 (.mov (i 0))] (.block 8 (.loop Pf))) (e [S 233 (.cpy 11),C 234 14,C 235 12,c 236 .add 234 235,S 237 (.ixo 233 11 236 1),S 238 (.ld 237 11 1 true),S 239 (.cv .u64 238),C 240 19,c 241 .sub 239 240,C 242 18,c 243 .sub 241 242,C 22 243] (e [S 244 (.cpy 11),C 245 14,C 246 12,c 247 .add 245 246,C 248 22,S 249 (.cv .u32 248),S 250 (.ixo 244 11 247 1),k 250 11 1 249] (.seq (e [C 251 22,S 252 (.bin .shr 251 (.c (D B 63))),S 253 (.bin .neq 252 (.c (D B 0)))] (.cond 253 (e [C 254 16,S 255 (.bin .sub 254 (.c (D B 1))),C 16 255] (e [S 23 (.mov (.c (D B 0)))] (.seq (e [S 24 (.mov (i 0))] (.block 10 (.loop Rr))) (rg [S 285 (.cpy 11),C 286 14,C 287 12,c 288 .add 286 287,S 289 (.ixo 285 11 288 1),S 290 (.ld 289 11 1 true),C 291 23,S 292 (.cv .u32 291),c 293 .add 290 292,S 294 (.ixo 285 11 288 1),k 294 11 1 293])))) .skip)) (rg [S 295 (.cpy 13),C 296 14,C 297 16,S 298 (.cv .u32 297),S 299 (.ixo 295 13 296 1),k 299 13 1 298])))))))))) (rg [C 121 14,h 122 .sub 121 1,C 14 122]))
def Qz:IFunc:=⟨2,307,[.tmp 4,.tmp 5],e [S 4 (.nlo 1),S 5 (.nlo 1)] (.seq (e [C 25 0,C 26 1,b 27 134 [25,26],h 28 .lss 27 0] (.cond 28 (e [C 29 0,S 4 (.nlo 1),S 5 (.tra 29)] .ret) .skip)) (.seq (e [C 30 1,S 31 (.len 30),h 32 .eql 31 1] (.cond 32 (e [C 33 0,S 34 (.len 33),S 35 (.mks [D Ad 0] 34),⟨some 6,.tra 35,none,[51,60]⟩] (e [S 7 (.mov (.c (D B 0)))] (.seq (e [C 36 0,S 37 (.len 36),h 38 .sub 37 1,C 8 38] (.block 0 (.loop Rq))) (e [S 67 (.frz 6),S 68 (.clo 99 [67]),C 69 7,S 70 (.cv .u32 69),S 71 (.bls 1 [D Ad 0] [(0,1,.t 70)]),S 72 (.clo 99 [71]),S 4 (.tra 68),S 5 (.tra 72)] .ret)))) .skip)) (e [S 9 (.mov (i 0))] (.seq (.block 2 (.loop Rp)) (e [C 86 1,S 87 (.bld [F false,H 0 []] [(1,1,.t 86)]),C 88 9,b 89 84 [87,88],S 90 (.fld 89 1 1 true),C 10 90] (e [C 91 0,S 92 (.bld [F false,H 0 []] [(1,1,.t 91)]),C 93 9,S 94 (.cln 84 [92,93] []),S 95 (.fdo 94),S 96 (.bls 2 [D Ad 0,D Ad 0] [(0,1,.c (D Ad 0)),(1,1,.c (D Ad 0))]),S 97 (.apd true 95 96 1 35184372088832),⟨some 11,.tra 97,none,[109,114,123,127,131,136,172,177,210,214,222,228,233,237,244,250,262,266,276,282,285,289,294]⟩] (e [S 98 (.tra 11),C 99 0,S 100 (.len 99),h 101 .add 100 1,C 102 1,S 103 (.len 102),h 104 .add 103 1,S 105 (.mx [101,104]),S 106 (.slo 98 105 1),⟨some 11,.tra 106,none,[109,114,123,127,131,136,172,177,210,214,222,228,233,237,244,250,262,266,276,282,285,289,294]⟩] (e [C 107 10,S 108 (.len 107),C 12 108] (e [S 109 (.cpy 11),S 110 (.lno 109 11),C 111 12,c 112 .sub 110 111,S 113 (.mks [D Ad 0] 112),⟨some 13,.tra 113,none,[295,299]⟩] (.seq (e [S 114 (.cpy 11),S 115 (.lno 114 11),C 116 12,c 117 .sub 115 116,h 118 .sub 117 1,C 14 118] (.block 4 (.loop Ol))) (e [S 300 (.frz 13),S 301 (.clo 99 [300]),S 302 (.frz 11),S 303 (.bld [F false,H 0 []] [(1,1,.t 302)]),C 304 9,b 305 128 [303,304],S 306 (.fld 305 1 1 true),S 4 (.tra 301),S 5 (.tra 306)] .ret)))))))))))⟩
def Ams:List (Nat × Nat):=[(51,6),(60,6),(109,11),(114,11),(123,11),(127,11),(131,11),(136,11),(172,11),(177,11),(210,11),(214,11),(222,11),(228,11),(233,11),(237,11),(244,11),(250,11),(262,11),(266,11),(276,11),(282,11),(285,11),(289,11),(294,11),(295,13),(299,13)]
theorem yJ:AY A9p Ams Tryz.f165 Qz=true:=by kernel_rfl
def VR:IFunc:=⟨1,12,[.tmp 2],e [S 1 (.box 0 []),S 2 (.mov (i 0))] (e [g 6 1 1 2,b 7 143 [6],C 5 7,p 8 5 0,p 9 5 1,C 3 8,C 4 9] (e [C 10 4,S 11 (.len 10),C 2 11] .ret))⟩
def Amt:List (Nat × Nat):=[]
theorem yK:AY A9p Amt Tryz.f177 VR=true:=by kernel_rfl
def Om:ICode:=e [c 23 .lss 22 21] (.seq (.cond 23 .skip (.exit 0)) (.seq (.block 1 (e [C 24 22,C 7 24] (e [C 25 0,C 26 7,q 27 25 26 1,S 28 (.ld 27 27 1 true),S 29 (.cv .u64 28),C 30 6,c 31 .add 29 30,C 8 31] (.seq (e [C 32 7,C 33 1,S 34 (.len 33),c 35 .lss 32 34] (.cond 35 (rg [C 36 8,C 37 1,C 38 7,q 39 37 38 1,S 40 (.ld 39 39 1 true),S 41 (.cv .u64 40),c 42 .add 36 41,C 8 42]) .skip)) (rg [S 43 (.cpy 5),C 44 7,C 45 8,S 46 (.cv .u32 45),C 47 8,S 48 (.bin .shr 47 (.c (D B 32))),S 49 (.ixo 43 5 44 1),k 49 5 1 46,C 6 48]))))) (rg [h 50 .add 22 1,C 22 50])))
def SB:IFunc:=⟨2,58,[.tmp 4],e [S 4 (.nlo 1)] (.seq (e [C 9 0,S 10 (.len 9),C 11 1,S 12 (.len 11),c 13 .lss 10 12] (.cond 13 (rg [C 14 1,C 15 0,C 0 14,C 1 15]) .skip)) (e [C 16 0,S 17 (.len 16),h 18 .add 17 1,S 19 (.mks [D Ad 0] 18),⟨some 5,.tra 19,none,[43,49,51,56]⟩] (e [S 6 (.mov (.c (D B 0)))] (.seq (e [C 20 0,S 21 (.len 20),S 22 (.mov (i 0))] (.block 0 (.loop Om))) (e [S 51 (.cpy 5),C 52 0,S 53 (.len 52),C 54 6,S 55 (.cv .u32 54),S 56 (.ixo 51 5 53 1),k 56 5 1 55] (e [S 57 (.tra 5),S 4 (.tra 57)] .ret))))))⟩
def Amu:List (Nat × Nat):=[(43,5),(49,5),(51,5),(56,5)]
theorem yL:AY A9p Amu Tryz.f178 SB=true:=by kernel_rfl
def SC:ICode:=e [c 15 .lss 14 13] (.seq (.cond 15 .skip (.exit 0)) (.seq (.block 1 (e [C 16 14,C 7 16] (e [C 17 0,C 18 7,q 19 17 18 1,S 20 (.ld 19 19 1 true),S 21 (.cv .u64 20),C 22 6,c 23 .sub 21 22,C 8 23] (.seq (e [C 24 7,C 25 1,S 26 (.len 25),c 27 .lss 24 26] (.cond 27 (rg [C 28 8,C 29 1,C 30 7,q 31 29 30 1,S 32 (.ld 31 31 1 true),S 33 (.cv .u64 32),c 34 .sub 28 33,C 8 34]) .skip)) (rg [S 35 (.cpy 5),C 36 7,C 37 8,S 38 (.cv .u32 37),C 39 8,S 40 (.bin .shr 39 (.c (D B 63))),S 41 (.ixo 35 5 36 1),k 41 5 1 38,C 6 40]))))) (rg [h 42 .add 14 1,C 14 42])))
def VS:IFunc:=⟨2,44,[.tmp 4],e [S 4 (.nlo 1)] (e [C 9 0,S 10 (.len 9),S 11 (.mks [D Ad 0] 10),⟨some 5,.tra 11,none,[35,41]⟩] (e [S 6 (.mov (.c (D B 0)))] (.seq (e [C 12 0,S 13 (.len 12),S 14 (.mov (i 0))] (.block 0 (.loop SC))) (e [S 43 (.tra 5),S 4 (.tra 43)] .ret))))⟩
def Amv:List (Nat × Nat):=[(35,5),(41,5)]
theorem yM:AY A9p Amv Tryz.f179 VS=true:=by kernel_rfl
def Rs:ICode := .seq (e [C 202 26,C 203 11,c 204 .lss 202 203] (.cond 204 .skip (.exit 6))) (.seq (.block 7 (.seq (.region true [S 207 (.cpy 9),C 208 26,C 209 15,c 210 .add 208 209,S 211 (.ixo 207 9 210 1),S 212 (.ld 211 9 1 true),S 213 (.cv .u64 212),C 214 10,C 215 26,q 216 214 215 1,S 217 (.ld 216 216 1 true),S 218 (.cv .u64 217),c 219 .add 213 218,C 220 25,c 221 .add 219 220,C 27 221]) (rg [S 222 (.cpy 9),C 223 26,C 224 15,c 225 .add 223 224,C 226 27,S 227 (.cv .u32 226),C 228 27,S 229 (.bin .shr 228 (.c (D B 32))),S 230 (.ixo 222 9 225 1),k 230 9 1 227,C 25 229]))) (rg [C 205 26,h 206 .add 205 1,C 26 206]))
def MT:ICode := .seq (e [C 248 28,C 249 11,c 250 .lss 248 249] (.cond 250 .skip (.exit 8))) (.seq (.block 9 (e [S 253 (.cpy 5),C 254 28,S 255 (.cpy 9),C 256 28,S 257 (.ixo 255 9 256 1),S 258 (.ld 257 9 1 true),C 259 8,S 260 (.cv .u64 259),c 261 .shr 258 260,S 262 (.ixo 253 5 254 1),k 262 5 1 261] (e [C 263 8,h 264 .gtr 263 0] (.cond 264 (.region true [S 265 (.cpy 5),C 266 28,S 267 (.ixo 265 5 266 1),S 268 (.ld 267 5 1 true),S 269 (.cpy 9),C 270 28,h 271 .add 270 1,S 272 (.ixo 269 9 271 1),S 273 (.ld 272 9 1 true),C 274 8,S 275 (.bin .sub (i 32) 274),S 276 (.cv .u64 275),c 277 .shl 273 276,c 278 .or 268 277,S 279 (.ixo 265 5 266 1),k 279 5 1 278]) .skip)))) (rg [C 251 28,h 252 .add 251 1,C 28 252]))
def Pg:ICode := .seq (e [C 141 21,C 142 11,c 143 .lss 141 142] (.cond 143 .skip (.exit 4))) (.seq (.block 5 (e [C 146 17,C 147 10,C 148 21,q 149 147 148 1,S 150 (.ld 149 149 1 true),S 151 (.cv .u64 150),c 152 .mul 146 151,C 153 20,c 154 .add 152 153,C 22 154] (e [C 155 22,S 156 (.bin .shr 155 (.c (D B 32))),C 20 156] (e [S 157 (.cpy 9),C 158 21,C 159 15,c 160 .add 158 159,S 161 (.ixo 157 9 160 1),S 162 (.ld 161 9 1 true),S 163 (.cv .u64 162),C 164 22,S 165 (.cv .u32 164),S 166 (.cv .u64 165),c 167 .sub 163 166,C 168 19,c 169 .sub 167 168,C 23 169] (rg [S 170 (.cpy 9),C 171 21,C 172 15,c 173 .add 171 172,C 174 23,S 175 (.cv .u32 174),C 176 23,S 177 (.bin .shr 176 (.c (D B 63))),S 178 (.ixo 170 9 173 1),k 178 9 1 175,C 19 177]))))) (rg [C 144 21,h 145 .add 144 1,C 21 145]))
def HV:ICode := .seq (e [C 115 17,S 116 (.bin .geq 115 (.c (D B 4294967296))),C 117 116,a 118 (.mov 17) 117 false,a 119 (.mov 14) 117 false,a 120 (.bin .mul 118 119) 117 false,a 121 (.mov 18) 117 false,a 122 (.bin .shl 121 (.c (D B 32))) 117 false,a 123 (.cpy 9) 117 false,a 124 (.mov 15) 117 false,a 125 (.mov 11) 117 false,a 126 (.bin .add 124 125) 117 false,a 127 (.bin .sub 126 (i 2)) 117 false,a 128 (.ixo 123 9 127 1) 117 false,a 129 (.ld 128 9 1 true) 117 false,a 130 (.cv .u64 129) 117 false,a 131 (.bin .or 122 130) 117 false,a 132 (.bin .gtr 120 131) 117 false,S 133 (.pick 117 (r true) 132)] (.cond 133 .skip (.exit 2))) (.block 3 (e [C 134 17,S 135 (.bin .sub 134 (.c (D B 1))),C 17 135] (e [C 136 18,C 137 13,c 138 .add 136 137,C 18 138] (e [C 139 18,S 140 (.bin .geq 139 (.c (D B 4294967296)))] (.cond 140 (.exit 2) .skip)))))
def MU:ICode := .seq (e [C 88 15,h 89 .geq 88 0] (.cond 89 .skip (.exit 0))) (.seq (.block 1 (.seq (.region true [S 92 (.cpy 9),C 93 15,C 94 11,c 95 .add 93 94,S 96 (.ixo 92 9 95 1),S 97 (.ld 96 9 1 true),S 98 (.cv .u64 97),S 99 (.bin .shl 98 (.c (D B 32))),S 100 (.cpy 9),C 101 15,C 102 11,c 103 .add 101 102,h 104 .sub 103 1,S 105 (.ixo 100 9 104 1),S 106 (.ld 105 9 1 true),S 107 (.cv .u64 106),c 108 .or 99 107,C 16 108]) (.seq (.region true [C 109 16,C 110 13,c 111 .quo 109 110,C 112 16,C 113 13,c 114 .rem 112 113,C 17 111,C 18 114]) (.seq (.block 2 (.loop HV)) (e [S 19 (.mov (.c (D B 0))),S 20 (.mov (.c (D B 0)))] (.seq (e [S 21 (.mov (i 0))] (.block 4 (.loop Pg))) (e [S 179 (.cpy 9),C 180 15,C 181 11,c 182 .add 180 181,S 183 (.ixo 179 9 182 1),S 184 (.ld 183 9 1 true),S 185 (.cv .u64 184),C 186 20,c 187 .sub 185 186,C 188 19,c 189 .sub 187 188,C 24 189] (e [S 190 (.cpy 9),C 191 15,C 192 11,c 193 .add 191 192,C 194 24,S 195 (.cv .u32 194),S 196 (.ixo 190 9 193 1),k 196 9 1 195] (.seq (e [C 197 24,S 198 (.bin .shr 197 (.c (D B 63))),S 199 (.bin .neq 198 (.c (D B 0)))] (.cond 199 (e [C 200 17,S 201 (.bin .sub 200 (.c (D B 1))),C 17 201] (e [S 25 (.mov (.c (D B 0)))] (.seq (e [S 26 (.mov (i 0))] (.block 6 (.loop Rs))) (rg [S 231 (.cpy 9),C 232 15,C 233 11,c 234 .add 232 233,S 235 (.ixo 231 9 234 1),S 236 (.ld 235 9 1 true),C 237 25,S 238 (.cv .u32 237),c 239 .add 236 238,S 240 (.ixo 231 9 234 1),k 240 9 1 239])))) .skip)) (rg [S 241 (.cpy 4),C 242 15,C 243 17,S 244 (.cv .u32 243),S 245 (.ixo 241 4 242 1),k 245 4 1 244])))))))))) (rg [C 90 15,h 91 .sub 90 1,C 15 91]))
def Q5:IFunc:=⟨2,282,[.tmp 4,.tmp 5],e [⟨some 4,.nlo 1,none,[241,245]⟩,⟨some 5,.nlo 1,none,[253,262,265,267,279]⟩] (.seq (e [C 29 0,C 30 1,b 31 151 [29,30],h 32 .lss 31 0] (.cond 32 (e [C 33 0,S 34 (.apd true (.c (.nil)) 33 1 35184372088832),⟨some 4,.nlo 1,none,[241,245]⟩,⟨some 5,.tra 34,none,[253,262,265,267,279]⟩] .ret) .skip)) (.seq (e [C 35 1,S 36 (.len 35),h 37 .eql 36 1] (.cond 37 (e [C 39 0,C 40 1,S 41 (.ixa 40 (i 0) 1),S 42 (.ld 41 41 1 true),b 43 187 [39,42],C 38 43,p 44 38 0,p 45 38 1,C 6 44,C 7 45] (e [C 46 6,C 47 7,S 48 (.blo 1 1 [D Ad 0] [(0,1,.t 47)]),⟨some 4,.tra 46,none,[241,245]⟩,⟨some 5,.tra 48,none,[253,262,265,267,279]⟩] .ret)) .skip)) (e [C 49 1,C 50 1,S 51 (.len 50),h 52 .sub 51 1,q 53 49 52 1,S 54 (.ld 53 53 1 true),b 55 188 [54],C 8 55] (.seq (.region true [C 56 0,C 57 8,S 58 (.clo 189 [56,57]),C 59 1,C 60 8,b 61 189 [59,60],C 62 1,S 63 (.len 62),S 64 (.sli 61 none (some 63) none 1),⟨some 9,.tra 58,none,[92,96,100,105,123,128,157,161,170,178,179,183,190,196,207,211,222,230,231,235,240,255,257,269,272]⟩,C 10 64]) (e [C 65 1,S 66 (.len 65),C 67 0,S 68 (.len 67),C 69 1,S 70 (.len 69),c 71 .sub 68 70,C 11 66,C 12 71] (e [C 72 12,h 73 .add 72 1,S 74 (.mks [D Ad 0] 73),⟨some 4,.tra 74,none,[241,245]⟩] (.seq (.region true [C 75 10,C 76 11,h 77 .sub 76 1,q 78 75 77 1,S 79 (.ld 78 78 1 true),S 80 (.cv .u64 79),C 81 10,C 82 11,h 83 .sub 82 2,q 84 81 83 1,S 85 (.ld 84 84 1 true),S 86 (.cv .u64 85),C 13 80,C 14 86]) (.seq (e [C 87 12,C 15 87] (.block 0 (.loop MU))) (e [C 246 11,S 247 (.mks [D Ad 0] 246),⟨some 5,.tra 247,none,[253,262,265,267,279]⟩] (.seq (e [S 28 (.mov (i 0))] (.block 8 (.loop MT))) (e [S 280 (.tra 4),S 281 (.tra 5),⟨some 4,.tra 280,none,[241,245]⟩,⟨some 5,.tra 281,none,[253,262,265,267,279]⟩] .ret)))))))))))⟩
def Amw:List (Nat × Nat):=[(92,9),(96,9),(100,9),(105,9),(123,9),(128,9),(157,9),(161,9),(170,9),(178,9),(179,9),(183,9),(190,9),(196,9),(207,9),(211,9),(222,9),(230,9),(231,9),(235,9),(240,9),(241,4),(245,4),(253,5),(255,9),(257,9),(262,5),(265,5),(267,5),(269,9),(272,9),(279,5)]
theorem yN:AY A9p Amw Tryz.f180 Q5=true:=by kernel_rfl
def VT:IFunc:=⟨1,10,[.cell 2 2 false],e [S 2 (.new [F false,H 0 []] [])] (e [C 3 0,S 4 (.cv .u32 3),C 5 0,S 6 (.bin .shr 5 (.c (D B 32))),S 7 (.cv .u32 6),S 8 (.bls 2 [D Ad 0,D Ad 0] [(0,1,.t 4),(1,1,.t 7)]),S 9 (.call 152 [r false,8]),k 2 2 2 9] .ret)⟩
def Amx:List (Nat × Nat):=[]
theorem yO:AY A9p Amx Tryz.f181 VT=true:=by kernel_rfl
def VU:ICode := .seq (e [C 5 1,S 6 (.bin .gtr 5 (.c (D B 0)))] (.cond 6 .skip (.exit 0))) (.block 1 (.region true [C 7 1,C 8 0,C 9 1,c 10 .rem 8 9,C 0 7,C 1 10]))
def VV:IFunc:=⟨2,12,[.tmp 4],e [S 4 (.mov (.c (D B 0)))] (.seq (.block 0 (.loop VU)) (e [C 11 0,C 4 11] .ret))⟩
def Amy:List (Nat × Nat):=[]
theorem yP:AY A9p Amy Tryz.f182 VV=true:=by kernel_rfl
def VW:ICode:=e [c 10 .lss 9 8] (.seq (.cond 10 .skip (.exit 0)) (.seq (.block 1 (e [C 11 9,q 12 7 9 1,S 13 (.ld 12 12 1 true),C 4 11,C 5 13] (rg [C 14 3,C 15 5,S 16 (.cv .u64 15),C 17 4,S 18 (.bin .mul (i 32) 17),S 19 (.cv .u64 18),c 20 .shl 16 19,c 21 .or 14 20,C 3 21]))) (rg [h 22 .add 9 1,C 9 22])))
def VX:IFunc:=⟨1,24,[.tmp 2],e [S 1 (.box 0 [6]),S 2 (.mov (.c (D B 0)))] (e [S 3 (.mov (.c (D B 0)))] (.seq (e [S 6 (.adr 1 1 1),S 7 (.ld 6 1 1 true),S 8 (.len 7),S 9 (.mov (i 0))] (.block 0 (.loop VW))) (e [C 23 3,C 2 23] .ret)))⟩
def Amz:List (Nat × Nat):=[(6,1)]
theorem yQ:AY A9p Amz Tryz.f183 VX=true:=by kernel_rfl
def ZK:IFunc:=⟨1,21,[.tmp 2],e [S 2 (.nlo 1)] (e [C 4 0,S 5 (.len 4),C 3 5] (.seq (.block 0 (.loop (.seq (e [C 6 3,h 7 .gtr 6 0,C 8 7,a 9 (.mov 0) 8 true,a 10 (.mov 3) 8 true,a 11 (.bin .sub 10 (i 1)) 8 true,a 12 (.ixa 9 11 1) 8 true,a 13 (.ld 12 12 1 true) 8 true,a 14 (.bin .eql 13 (.c (D Ad 0))) 8 true,S 15 (.pick 8 14 (r false))] (.cond 15 .skip (.exit 0))) (.block 1 (rg [C 16 3,h 17 .sub 16 1,C 3 17]))))) (e [C 18 0,C 19 3,S 20 (.sli 18 none (some 19) none 1),S 2 (.tra 20)] .ret)))⟩
def Ana:List (Nat × Nat):=[]
theorem yR:AY A9p Ana Tryz.f184 ZK=true:=by kernel_rfl
def VY:ICode := .seq (e [C 16 8,h 17 .geq 16 0] (.cond 17 .skip (.exit 0))) (.seq (.block 1 (e [C 20 7,S 21 (.bin .shl 20 (.c (D B 32))),C 22 0,C 23 8,q 24 22 23 1,S 25 (.ld 24 24 1 true),S 26 (.cv .u64 25),c 27 .or 21 26,C 9 27] (.region true [S 28 (.cpy 6),C 29 8,C 30 9,C 31 1,S 32 (.cv .u64 31),c 33 .quo 30 32,S 34 (.cv .u32 33),C 35 9,C 36 1,S 37 (.cv .u64 36),c 38 .rem 35 37,S 39 (.ixo 28 6 29 1),k 39 6 1 34,C 7 38]))) (rg [C 18 8,h 19 .sub 18 1,C 8 19]))
def VZ:IFunc:=⟨2,43,[.tmp 4,.tmp 5],e [S 4 (.nlo 1),S 5 (.mov (.c (D Ad 0)))] (e [C 10 0,S 11 (.len 10),S 12 (.mks [D Ad 0] 11),⟨some 6,.tra 12,none,[28,39]⟩] (e [S 7 (.mov (.c (D B 0)))] (.seq (e [C 13 0,S 14 (.len 13),h 15 .sub 14 1,C 8 15] (.block 0 (.loop VY))) (e [S 40 (.tra 6),C 41 7,S 42 (.cv .u32 41),S 4 (.tra 40),C 5 42] .ret))))⟩
def Anb:List (Nat × Nat):=[(28,6),(39,6)]
theorem yS:AY A9p Anb Tryz.f187 VZ=true:=by kernel_rfl
def V_:IFunc:=⟨1,6,[.tmp 2],e [S 2 (.mov (i 0))] (e [C 3 0,b 4 150 [3],S 5 (.bin .sub (i 32) 4),C 2 5] .ret)⟩
def Anc:List (Nat × Nat):=[]
theorem yT:AY A9p Anc Tryz.f188 V_=true:=by kernel_rfl
def Wa:ICode:=e [c 16 .lss 15 14] (.seq (.cond 16 .skip (.exit 0)) (.seq (.block 1 (e [C 17 15,q 18 13 15 1,S 19 (.ld 18 18 1 true),C 6 17,C 7 19] (e [C 20 7,S 21 (.cv .u64 20),C 22 1,S 23 (.cv .u64 22),c 24 .shl 21 23,C 8 24] (e [S 25 (.cpy 5),C 26 6,S 27 (.ixo 25 5 26 1),S 28 (.ld 27 5 1 true),C 29 8,S 30 (.cv .u32 29),c 31 .or 28 30,S 32 (.ixo 25 5 26 1),k 32 5 1 31] (rg [S 33 (.cpy 5),C 34 6,h 35 .add 34 1,C 36 8,S 37 (.bin .shr 36 (.c (D B 32))),S 38 (.cv .u32 37),S 39 (.ixo 33 5 35 1),k 39 5 1 38]))))) (rg [h 40 .add 15 1,C 15 40])))
def Wb:IFunc:=⟨2,42,[.tmp 4],e [S 4 (.nlo 1)] (e [C 9 0,S 10 (.len 9),h 11 .add 10 1,S 12 (.mks [D Ad 0] 11),⟨some 5,.tra 12,none,[25,27,32,33,39]⟩] (.seq (e [C 13 0,S 14 (.len 13),S 15 (.mov (i 0))] (.block 0 (.loop Wa))) (e [S 41 (.tra 5),S 4 (.tra 41)] .ret)))⟩
def Ane:List (Nat × Nat):=[(25,5),(27,5),(32,5),(33,5),(39,5)]
theorem yU:AY A9p Ane Tryz.f189 Wb=true:=by kernel_rfl
end Go.Proofs.YtajompaehjkgkaaGreat
namespace Go.Ai
open Go.RowKit
open List renaming all_eq_true->BY,getD_eq_getElem?_getD->Z,getElem?_map->CL
open Nat renaming le_refl->Ap,zero_add->Cs
open Option renaming getD_some->GJ,map_eq_some_iff->Ak,map_some->A9
open Option.some renaming injEq->A3
open Prod.mk renaming injEq->D2
def GW(s s':Al):Prop:=s.length=s'.length/\∀ t,A5 s t = .dead\/A5 s t=A5 s' t
theorem GW.refl(s:Al):GW s s:=⟨rfl,fun _ => .inr rfl⟩
theorem GW.trans{a b c:Al}(h:GW a b)(k:GW b c):GW a c:=by
 refine⟨h.1.trans k.1,fun t => ?_⟩;rcases h.2 t with h1 | h1
 ·exact .inl h1
 ·rcases k.2 t with k1 | k1
  ·exact .inl (h1.trans k1)
  ·exact .inr (h1.trans k1)
theorem GW.get{s s':Al}(h:GW s s'){t:Nat}{r:Reg}(hr:A5 s t=r)(hd:r ≠ .dead):A5 s' t=r:=by
 rcases h.2 t with h1 | h1
 ·exact absurd (hr.symm.trans h1) hd
 ·rw[<- h1,hr]
theorem GW.av{s s':Al}(h:GW s s'){o:Opd}{x:AV}(hx:o.av s=some x):o.av s'=some x:=by
 cases o with
 | c y=>exact hx
 | t n =>
  simp only[Opd.av,Opd.reg] at hx |-;split at hx
  ·rename_i y hy;cases hx;rw[h.get hy (by nofun)]
  ·cases hx
theorem GW.avs{s s':Al}(h:GW s s'):∀ {l:List Opd} {xs:List AV},avs s l=some xs->avs s' l=some xs
 | [],xs,hx=>hx
 | o::l,xs,hx=>by
  simp only[Go.Ai.avs] at hx |-;cases h1:o.av s with
  | none=>rw[h1] at hx;cases hx
  | some x =>
   rw[h1] at hx;rw[h.av h1];cases h2:Go.Ai.avs s l with
   | none=>rw[h2] at hx;cases hx
   | some ys =>
    rw[h2] at hx;rw[h.avs h2];exact hx
theorem GW.fill{s s':Al}(h:GW s s'):∀ {ps:List (Nat × Nat × Opd)} {cs cs':List AV},FV s cs ps=some cs'->FV s' cs ps=some cs'
 | [],_,_,hx=>hx
 | (off,n,o)::ps,cs,cs',hx=>by
  simp only[FV] at hx |-;cases h1:o.av s with
  | none=>rw[h1] at hx;cases hx
  | some x =>
   rw[h1] at hx;rw[h.av h1];dsimp only at hx |-;cases h2:Gn x n with
   | none=>rw[h2] at hx;cases hx
   | some ys =>
    rw[h2] at hx;dsimp only at hx |-;cases h3:C6 cs off ys with
    | none=>rw[h3] at hx;cases hx
    | some cs1 =>
     rw[h3] at hx;dsimp only at hx |-;exact h.fill hx
theorem GW.reg{s s':Al}(h:GW s s'){o:Opd}{r:Reg}(hx:o.reg s=r)(hd:r ≠ .dead):o.reg s'=r:=by
 cases o with
 | c y=>exact hx
 | t n=>exact h.get hx hd
theorem GW.bnd{s s':Al}(h:GW s s'){o:Option Opd}{d n:Nat}(hx:GR s d o=some n):GR s' d o=some n:=by
 cases o with
 | none=>exact hx
 | some o =>
  simp only[GR] at hx |-;split at hx
  ·rename_i k i hi;rw[h.av hi];exact hx
  ·cases hx
theorem GW.firm{s s':Al}(h:GW s s'){l:List Nat}(hl:(l.all fun t=>Gm (A5 s t))=true):(l.all fun t=>Gm (A5 s' t))=true:=by
 rw[BY] at hl |-;intro t ht;have h1:=hl t ht;rw[h.get (r:=A5 s t) rfl (by intro e;rw[e] at h1;cases h1)];exact h1
theorem yV{F:BM}{s s':Al}(h:GW s s'){k:K}{p:Reg × List (Nat × Reg)}(hk:BJ F s k=some p):BJ F s' k=some p:=by
 cases k <;> simp only[BJ] at hk |-
 case mov x =>
  simp only[Ak] at hk |-;obtain⟨v,hv,e⟩:=hk;exact⟨v,h.av hv,e⟩
 case pick c a b =>
  split at hk
  ·rename_i hc;rw[h.av hc];simp only[Ak] at hk |-;obtain⟨v,hv,e⟩:=hk;exact⟨v,h.av hv,e⟩
  ·rename_i hc;rw[h.av hc];simp only[Ak] at hk |-;obtain⟨v,hv,e⟩:=hk;exact⟨v,h.av hv,e⟩
  ·cases hk
 case bin op x y =>
  split at hk
  ·rename_i hx hy;rw[h.av hx,h.av hy];exact hk
  ·cases hk
 case eqb neg x y =>
  split at hk
  ·rename_i hx hy;rw[h.av hx,h.av hy];exact hk
  ·cases hk
 case un op x =>
  split at hk
  ·rename_i hx;rw[h.av hx];exact hk
  ·cases hk
 case cv k x =>
  split at hk
  ·rename_i hx;rw[h.av hx];exact hk
  ·cases hk
 case new z ks=>exact hk
 case box x ks =>
  split at hk
  ·rename_i hx;rw[h.av hx];exact hk
  ·rename_i y hne hx;rw[h.av hx];split at hk
   ·rename_i hd;cases hk;cases y <;> first | (cases hd;done) | simp only[Lm,if_true]
   ·cases hk
  ·cases hk
 case bld z ps =>
  simp only[Ak] at hk |-;obtain⟨v,hv,e⟩:=hk;exact⟨v,h.fill hv,e⟩
 case bls n z ps =>
  simp only[Ak] at hk |-;obtain⟨v,hv,e⟩:=hk;exact⟨v,h.fill hv,e⟩
 case adr x d off =>
  cases hr:A5 s x <;> rw[hr] at hk <;> first | (cases hk;done) | (rw[h.get hr (by nofun)];exact hk)
 case ld x d n one =>
  cases hr:A5 s x with
  | box cs=>rw[hr] at hk;rw[h.get hr (by nofun)];exact hk
  | mem cs=>rw[hr] at hk;rw[h.get hr (by nofun)];exact hk
  | ptr d' off =>
   rw[hr] at hk;rw[h.get hr (by nofun)];dsimp only at hk |-;split at hk
   ·rename_i hd;rw[if_pos hd];cases hr2:A5 s d <;> rw[hr2] at hk <;> first | (cases hk;done) | (rw[h.get hr2 (by nofun)];exact hk)
   ·cases hk
  | val x=>rw[hr] at hk;cases hk
  | own _ _ _=>rw[hr] at hk;cases hk
  | agn _ _ _ _=>rw[hr] at hk;cases hk
  | bxl _=>rw[hr] at hk;cases hk
  | dup d=>rw[hr] at hk;cases hk
  | sub _ _ _ _=>rw[hr] at hk;cases hk
  | dead=>rw[hr] at hk;cases hk
 case st x d n v =>
  split at hk
  ·cases hk
  ·rename_i a ha;rw[h.av ha];dsimp only at hk |-;split at hk
   ·cases hk
   ·rename_i ys hys;cases hr:A5 s x with
    | box cs=>rw[hr] at hk;rw[h.get hr (by nofun)];exact hk
    | ptr d' off =>
     rw[hr] at hk;rw[h.get hr (by nofun)];dsimp only at hk |-;split at hk
     ·rename_i hd;rw[if_pos hd];cases hr2:A5 s d <;> rw[hr2] at hk <;> first | (cases hk;done) | (rw[h.get hr2 (by nofun)];exact hk)
     ·cases hk
    | mem cs=>rw[hr] at hk;cases hk
    | val x=>rw[hr] at hk;cases hk
    | own _ _ _=>rw[hr] at hk;cases hk
    | agn _ _ _ _=>rw[hr] at hk;cases hk
    | bxl _=>rw[hr] at hk;cases hk
    | dup d=>rw[hr] at hk;cases hk
    | sub _ _ _ _=>rw[hr] at hk;cases hk
    | dead=>rw[hr] at hk;cases hk
 case fld x off n one =>
  split at hk
  ·rename_i hx;rw[h.av hx];exact hk
  ·cases hk
 case ixa x i k =>
  split at hk
  ·rename_i k1 iv hi;rw[h.av hi];dsimp only at hk |-;split at hk
   ·rename_i n cs hr;rw[h.get hr (by nofun)];exact hk
   ·cases hk
  ·cases hk
 case six x i =>
  split at hk
  ·rename_i hx hi;rw[h.av hx,h.av hi];exact hk
  ·cases hk
 case ext x i =>
  split at hk
  ·rename_i hx;rw[h.av hx];exact hk
  ·cases hk
 case len x =>
  split at hk
  ·rename_i hx;rw[h.av hx];exact hk
  ·rename_i hx;rw[h.av hx];exact hk
  ·cases hk
 case mx xs =>
  split at hk
  ·rename_i hx;rw[h.avs hx];exact hk
  ·cases hk
 case mn xs =>
  split at hk
  ·rename_i hx;rw[h.avs hx];exact hk
  ·cases hk
 case call f xs =>
  split at hk
  ·rename_i hx;rw[h.avs hx];exact hk
  ·cases hk
 case clo f xs =>
  split at hk
  ·rename_i hx;rw[h.avs hx];exact hk
  ·cases hk
 case brw f x d =>
  cases hr:A5 s x <;> rw[hr] at hk <;> first | (cases hk;done) | skip
  rename_i d';rw[h.get hr (by nofun)];simp only at hk |-;by_cases hd:d'=d
  ·rw[if_pos hd] at hk |-;cases hr2:A5 s d <;> rw[hr2] at hk <;> first | (cases hk;done) | skip
   rw[h.get hr2 (by nofun)];exact hk
  ·rw[if_neg hd] at hk;cases hk
 case cpy x =>
  cases hr:A5 s x <;> rw[hr] at hk <;> first | (cases hk;done) | (rw[h.get hr (by nofun)];exact hk)
 case tra x =>
  cases hr:A5 s x <;> rw[hr] at hk <;> first | (cases hk;done) | (rw[h.get hr (by nofun)];exact hk)
 case frz x =>
  cases hr:A5 s x <;> rw[hr] at hk <;> first | (cases hk;done) | (rw[h.get hr (by nofun)];exact hk)
 case mks z n =>
  split at hk
  ·rename_i hx;rw[h.av hx];exact hk
  ·cases hk
 case blo k n z ps =>
  simp only[Ak] at hk |-;obtain⟨v,hv,e⟩:=hk;exact⟨v,h.fill hv,e⟩
 case apd ow x y k B =>
  split at hk
  ·rename_i hy;rw[h.av hy];dsimp only;cases hr:x.reg s <;> rw[hr] at hk <;> first | (cases hk;done) | (rw[h.reg hr (by nofun)];exact hk)
  ·rename_i m ys hy;rw[h.av hy];dsimp only;split at hk
   ·rename_i hl;rw[if_pos hl];cases hr:x.reg s <;> rw[hr] at hk <;> first | (cases hk;done) | (rw[h.reg hr (by nofun)];exact hk)
   ·cases hk
  ·cases hk
 case sli x lo hi mx k =>
  split at hk
  ·rename_i hx;rw[h.av hx];dsimp only;split at hk
   ·rename_i b1 b2 b3;rw[h.bnd b1,h.bnd b2,h.bnd b3];exact hk
   ·cases hk
  ·rename_i n cs hx;rw[h.av hx];dsimp only;split at hk
   ·rename_i m hh l b1 b2 b3;rw[h.bnd b1,h.bnd b2,h.bnd b3];exact hk
   ·cases hk
  ·cases hk
 case ixo x d i k =>
  split at hk
  ·rename_i k1 iv hi;rw[h.av hi];dsimp only at hk |-;split at hk
   ·rename_i n cs hr;rw[h.get hr (by nofun)];exact hk
   ·rename_i d' hr;rw[h.get hr (by nofun)];dsimp only;split at hk
    ·rename_i hd;rw[if_pos hd];split at hk
     ·rename_i k' n cs hr2;rw[h.get hr2 (by nofun)];exact hk
     ·cases hk
    ·cases hk
   ·cases hk
  ·cases hk
 case lno x d =>
  split at hk
  ·rename_i hr;rw[h.get hr (by nofun)];exact hk
  ·rename_i n cs hr;rw[h.get hr (by nofun)];exact hk
  ·rename_i d' hr;rw[h.get hr (by nofun)];dsimp only;split at hk
   ·rename_i hd;rw[if_pos hd];split at hk
    ·rename_i k' n cs hr2;rw[h.get hr2 (by nofun)];exact hk
    ·cases hk
   ·cases hk
  ·cases hk
 case nlo k=>exact hk
 case bdo y x ls =>
  split at hk
  ·rename_i b hb;rw[h.av hb];dsimp only at hk |-;split at hk
   ·rename_i k n cs hr;rw[h.get hr (by nofun)];dsimp only;split at hk
    ·rename_i hl;rw[if_pos (h.firm hl)];exact hk
    ·cases hk
   ·cases hk
  ·cases hk
 case cln f xs ls =>
  split at hk
  ·rename_i vs hvs;rw[h.avs hvs];dsimp only;split at hk
   ·rename_i hl;rw[if_pos (h.firm hl)];exact hk
   ·cases hk
  ·cases hk
 case stl x v =>
  split at hk
  ·rename_i cs hr;rw[h.get hr (by nofun)];dsimp only;split at hk
   ·rename_i b k n ds hr2;rw[h.get hr2 (by nofun)];exact hk
   ·cases hk
  ·cases hk
 case fdo x =>
  split at hk
  ·rename_i b k n cs hr;rw[h.get hr (by nofun)];exact hk
  ·cases hk
 case exo x =>
  split at hk
  ·rename_i b k n cs hr;rw[h.get hr (by nofun)];exact hk
  ·cases hk
 case slo x hi k =>
  split at hk
  ·rename_i k1 iv hiv;rw[h.av hiv];dsimp only at hk |-;split at hk
   ·rename_i k' n cs hr;rw[h.get hr (by nofun)];exact hk
   ·cases hk
  ·cases hk
 case bad=>cases hk
theorem GW.set{s s':Al}(h:GW s s')(d:Nat)(r:Reg):GW (s.set d r) (s'.set d r):=by
 refine⟨by simp[h.1],fun t => ?_⟩;rw[D0,D0,h.1];split
 ·exact .inr rfl
 ·exact h.2 t
theorem GW.puts{s s':Al}(h:GW s s'):∀ (l:List (Nat × Reg)),GW (Cd s l) (Cd s' l):=by
 intro l;induction l generalizing s s' with
 | nil=>exact h
 | cons p l ih=>obtain⟨t,r⟩:=p;exact ih (h.set t r)
theorem GW.put{s s':Al}(h:GW s s')(d:Option Nat)(r:Reg):GW (Ea s d r) (Ea s' d r):=by
 cases d with
 | none=>exact h
 | some d=>exact h.set d r
theorem T5{s s':Al}(h:GW s s'){g:Option (Nat × Bool)}{b:Bool}(hw:GS s g=some b):GS s' g=some b:=by
 cases g with
 | none=>exact hw
 | some p =>
  obtain⟨t,x⟩:=p;simp only[GS] at hw |-;split at hw
  ·rename_i hr;rw[h.get hr (by nofun)];exact hw
  ·rename_i hr;rw[h.get hr (by nofun)];exact hw
  ·cases hw
theorem mC{F:BM}{o:IOp}{s s' t:Al}(h:GW s s')(he:FW F o s=some t):∃ t',FW F o s'=some t'/\GW t t':=by
 have h:GW (kill s o.ks) (kill s' o.ks):=h.puts _;simp only[FW,Iw] at he |-;generalize kill s o.ks=s at *
 generalize kill s' o.ks=s' at *
 split at he
 ·cases he
 ·rename_i hw;cases he;rw[T5 h hw];exact⟨_,rfl,h.put _ _⟩
 ·rename_i hw;rw[T5 h hw];split at he
  ·cases he
  ·rename_i r l hk;cases he;rw[yV h hk];exact⟨_,rfl,(h.puts l).put _ _⟩
theorem T6{F:BM}:∀ {l:List IOp} {s s' t:Al},GW s s'->Ej F l s=some t->∃ t',Ej F l s'=some t'/\GW t t'
 | [],s,s',t,h,he=>by
  simp only[Ej,A3] at he;subst he;exact⟨s',rfl,h⟩
 | o::l,s,s',t,h,he=>by
  simp only[Ej] at he |-;cases h1:FW F o s with
  | none=>rw[h1] at he;cases he
  | some s1 =>
   rw[h1] at he;obtain⟨s2,h2,h3⟩:=mC h h1;rw[h2];exact T6 h3 he
theorem yW{F:BM}:∀ (n:Nat) {c:ICode} {s s' t:Al} {ex:Ex},GW s s'->Cr F n c s=some (ex,t)->∃ t',Cr F n c s'=some (ex,t')/\GW t t':=by
 intro n;induction n with
 | zero=>intro c s s' t ex _ he;simp[Cr] at he
 | succ n ih =>
  intro c s s' t ex h he;cases c with
  | skip=>simp only[Cr,A3,D2] at he |-;obtain⟨rfl,rfl⟩:=he;exact⟨s',⟨rfl,rfl⟩,h⟩
  | exit id=>simp only[Cr,A3,D2] at he |-;obtain⟨rfl,rfl⟩:=he;exact⟨s',⟨rfl,rfl⟩,h⟩
  | ret=>simp only[Cr,A3,D2] at he |-;obtain⟨rfl,rfl⟩:=he;exact⟨s',⟨rfl,rfl⟩,h⟩
  | region d ops =>
   simp only[Cr,Ak] at he |-;obtain⟨s1,h1,e⟩:=he;cases e;obtain⟨t',h2,h3⟩:=T6 h h1;exact⟨t',⟨t',h2,rfl⟩,h3⟩
  | seq a b =>
   simp only[Cr] at he |-;cases h1:Cr F n a s with
   | none=>rw[h1] at he;cases he
   | some p =>
    obtain⟨e1,s1⟩:=p;rw[h1] at he;obtain⟨s2,h2,h3⟩:=ih h h1;rw[h2];cases e1 with
    | norm=>exact ih h3 he
    | exit i=>cases he;exact⟨s2,rfl,h3⟩
    | ret=>cases he;exact⟨s2,rfl,h3⟩
  | cond c a b =>
   simp only[Cr] at he |-;have key:∀ v,JM s c=some v->JM s' c=some v:=by
    intro v hv;unfold JM at hv |-;split at hv
    ·rename_i b' hb;rw[h.av hb];exact hv
    ·cases hv
   split at he
   ·rename_i hc;rw[key _ hc];exact ih h he
   ·rename_i hc;rw[key _ hc];exact ih h he
   ·cases he
  | block id c =>
   simp only[Cr] at he |-;cases h1:Cr F n c s with
   | none=>rw[h1] at he;cases he
   | some p =>
    obtain⟨e1,s1⟩:=p;rw[h1] at he;obtain⟨s2,h2,h3⟩:=ih h h1;rw[h2];cases e1 with
    | norm=>cases he;exact⟨s2,rfl,h3⟩
    | ret=>cases he;exact⟨s2,rfl,h3⟩
    | exit i =>
     dsimp only at he |-;split at he
     ·rename_i hi;cases he;exact⟨s2,by rw[if_pos hi],h3⟩
     ·rename_i hi;cases he;exact⟨s2,by rw[if_neg hi],h3⟩
  | scope c=>simp only[Cr] at he |-;exact ih h he
  | loop c =>
   simp only[Cr] at he |-;cases h1:Cr F n c s with
   | none=>rw[h1] at he;cases he
   | some p =>
    obtain⟨e1,s1⟩:=p;rw[h1] at he;obtain⟨s2,h2,h3⟩:=ih h h1;rw[h2];cases e1 with
    | norm=>exact ih h3 he
    | exit i=>cases he;exact⟨s2,rfl,h3⟩
    | ret=>cases he;exact⟨s2,rfl,h3⟩
def C1(prog:Nat->Option IFunc)(c:ICode)(s:Al)(ex:Ex)(t:Al):Prop:=∃ t',DF prog c s ex t'/\GW t t'
section
variable {prog:Nat->Option IFunc}
theorem DF.w{c:ICode}{s t:Al}{ex:Ex}(h:DF prog c s ex t):C1 prog c s ex t:=⟨t,h,GW.refl t⟩
theorem DF.mono{c:ICode}{s s' t:Al}{ex:Ex}(h:DF prog c s ex t)(hs:GW s s'):C1 prog c s' ex t:=by
 obtain⟨n,h⟩:=h;obtain⟨t',h1,h2⟩:=yW n hs h;exact⟨t',⟨n,h1⟩,h2⟩
theorem C1.weak{c:ICode}{s s' t t':Al}{ex:Ex}(h:C1 prog c s ex t)(hs:GW s s')(ht:GW t' t):C1 prog c s' ex t':=by
 obtain⟨t1,h1,h2⟩:=h;obtain⟨t2,h3,h4⟩:=h1.mono hs;exact⟨t2,h3,(ht.trans h2).trans h4⟩
theorem C1.seq{a b:ICode}{s s1 t:Al}{ex:Ex}(h1:C1 prog a s .norm s1)(h2:C1 prog b s1 ex t):C1 prog (.seq a b) s ex t:=by
 obtain⟨u,k1,k2⟩:=h1;obtain⟨v,k3,k4⟩:=h2.weak k2 (GW.refl t);exact⟨v,DF.seq k1 k3,k4⟩
theorem A8{a b:ICode}{s t:Al}{ex:Ex}(h1:C1 prog a s ex t)(hex:ex ≠ .norm):C1 prog (.seq a b) s ex t:=by
 obtain⟨u,k1,k2⟩:=h1;exact⟨u,EB k1 hex,k2⟩
theorem DF.inv{prog:Nat->Option IFunc}{a b:ICode}{s t:Al}{ex:Ex}(h:DF prog (.seq a b) s ex t):(DF prog a s ex t/\ex ≠ .norm)\/∃ v,DF prog a s .norm v/\DF prog b v ex t:=by
 obtain⟨n,h⟩:=h;cases n with
 | zero=>simp[Cr] at h
 | succ n =>
  simp only[Cr] at h;have up:∀ {c:ICode} {s:Al} {q:Ex × Al},Cr (NO prog (n+1)) n c s=some q->Cr (NO prog (n+1)) (n+1) c s=some q:=fun hh=>F5 (E7 prog (Ap _)) (Nat.le_succ n) hh;split at h
  ·rename_i v hv;exact .inr ⟨v,⟨n+1,up hv⟩,⟨n+1,up h⟩⟩
  ·rename_i hne;refine .inl ⟨⟨n+1,up h⟩,?_⟩;intro e;subst e;exact hne _ h
theorem A9m{a b r:ICode}{s t:Al}{ex:Ex}(h:C1 prog (.seq (.seq a b) r) s ex t):C1 prog (.seq a (.seq b r)) s ex t:=by
 obtain⟨u,k1,k2⟩:=h;refine⟨u,?_,k2⟩;rcases k1.inv with ⟨h1,hne⟩ | ⟨v,h1,h2⟩
 ·rcases h1.inv with ⟨h3,_⟩ | ⟨x,h3,h4⟩
  ·exact EB h3 hne
  ·exact DF.seq h3 (EB h4 hne)
 ·rcases h1.inv with ⟨_,hne⟩ | ⟨x,h3,h4⟩
  ·exact absurd rfl hne
  ·exact DF.seq h3 (DF.seq h4 h2)
theorem A9t{p i l r:ICode}{s t:Al}{ex:Ex}(h:C1 prog (.seq (.seq p i) (.seq l r)) s ex t):C1 prog (.seq p (.seq (.seq i l) r)) s ex t:=by
 obtain⟨u,k1,k2⟩:=h;refine⟨u,?_,k2⟩;rcases k1.inv with ⟨h1,hne⟩ | ⟨v,h1,h2⟩
 ·rcases h1.inv with ⟨h3,_⟩ | ⟨x,h3,h4⟩
  ·exact EB h3 hne
  ·exact DF.seq h3 (EB (EB h4 hne) hne)
 ·rcases h1.inv with ⟨_,hne⟩ | ⟨x,h3,h4⟩
  ·exact absurd rfl hne
  ·rcases h2.inv with ⟨h5,hne⟩ | ⟨y,h5,h6⟩
   ·exact DF.seq h3 (EB (DF.seq h4 h5) hne)
   ·exact DF.seq h3 (DF.seq (DF.seq h4 h5) h6)
theorem C1.scope{c:ICode}{s t:Al}{ex:Ex}(h:C1 prog c s ex t):C1 prog (.scope c) s ex t:=by
 obtain⟨u,k1,k2⟩:=h;exact⟨u,DF.scope k1,k2⟩
theorem C1.block{id:Nat}{c:ICode}{s t:Al}(h:C1 prog c s (.exit id) t):C1 prog (.block id c) s .norm t:=by
 obtain⟨u,k1,k2⟩:=h;exact⟨u,DF.block k1,k2⟩
theorem Ct{id:Nat}{c:ICode}{s t:Al}(h:C1 prog c s .ret t):C1 prog (.block id c) s .ret t:=by
 obtain⟨u,k1,k2⟩:=h;exact⟨u,Mm k1,k2⟩
theorem B_{id:Nat}{c:ICode}{s t:Al}(h:C1 prog c s .norm t):C1 prog (.block id c) s .norm t:=by
 obtain⟨u,k1,k2⟩:=h;exact⟨u,Lt k1,k2⟩
theorem C1.loop{c:ICode}{s s1 t:Al}{ex:Ex}(h1:C1 prog c s .norm s1)(h2:C1 prog (.loop c) s1 ex t):C1 prog (.loop c) s ex t:=by
 obtain⟨u,k1,k2⟩:=h1;obtain⟨v,k3,k4⟩:=h2.weak k2 (GW.refl t);exact⟨v,DF.loop k1 k3,k4⟩
theorem Ao{c:ICode}{s t:Al}{ex:Ex}(h1:C1 prog c s ex t)(hex:ex ≠ .norm):C1 prog (.loop c) s ex t:=by
 obtain⟨u,k1,k2⟩:=h1;exact⟨u,N8 k1 hex,k2⟩
theorem mD{s s':Al}(h:GW s s'){r:IRes}{x:AV}(hr:ER s r=some x):ER s' r=some x:=by
 cases r with
 | tmp t =>
  simp only[ER] at hr |-;split at hr
  ·rename_i y hy;rw[h.get hy (by nofun)];exact hr
  ·rename_i k n cs hy;rw[h.get hy (by nofun)];exact hr
  ·cases hr
 | cell t n one =>
  simp only[ER] at hr |-;split at hr
  ·rename_i y hy;rw[h.get hy (by nofun)];exact hr
  ·cases hr
theorem On{s s':Al}(h:GW s s'):∀ {l:List IRes} {xs:List AV},DU s l=some xs->DU s' l=some xs
 | [],xs,hx=>hx
 | r::l,xs,hx=>by
  simp only[DU] at hx |-;cases h1:ER s r with
  | none=>rw[h1] at hx;cases hx
  | some x =>
   rw[h1] at hx;rw[mD h h1];cases h2:DU s l with
   | none=>rw[h2] at hx;cases hx
   | some ys =>
    rw[h2] at hx;rw[On h h2];exact hx
theorem ZL{s s':Al}(h:GW s s'){l:List IRes}{x:AV}(hx:HS s l=some x):HS s' l=some x:=by
 unfold HS at hx |-;split at hx
 ·rename_i t;split at hx
  ·rename_i k n cs hr;rw[h.get hr (by nofun)];exact hx
  ·rename_i b k n cs hr;rw[h.get hr (by nofun)];exact hx
  ·cases hx
 ·rename_i t u;split at hx
  ·rename_i k n cs hr;rw[h.get hr (by nofun)];dsimp only;split at hx
   ·rename_i b hru;rw[h.get hru (by nofun)];exact hx
   ·cases hx
  ·cases hx
 ·rename_i t n one;split at hx
  ·rename_i d hr;rw[h.get hr (by nofun)];dsimp only;split at hx
   ·rename_i b k m cs hr2;rw[h.get hr2 (by nofun)];exact hx
   ·cases hx
  ·cases hx
 ·cases hx
theorem Ru{s s':Al}(h:GW s s'){l:List IRes}{xs:List AV}(hf:HS s l=none)(hx:DU s l=some xs):HS s' l=none:=by
 cases l with
 | nil=>rfl
 | cons r l =>
  cases r with
  | cell t n one =>
   cases l with
   | cons _ _=>rfl
   | nil =>
    simp only[HS] at hf |-;cases hr:A5 s t with
    | box cs=>rw[h.get hr (by nofun)]
    | val x=>simp only[DU,ER,hr] at hx;cases hx
    | own k n cs=>simp only[DU,ER,hr] at hx;cases hx
    | agn b k n cs=>simp only[DU,ER,hr] at hx;cases hx
    | bxl _=>simp only[DU,ER,hr] at hx;cases hx
    | ptr _ _=>simp only[DU,ER,hr] at hx;cases hx
    | mem _=>simp only[DU,ER,hr] at hx;cases hx
    | dup _=>simp only[DU,ER,hr] at hx;cases hx
    | sub _ _ _ _=>simp only[DU,ER,hr] at hx;cases hx
    | dead=>simp only[DU,ER,hr] at hx;cases hx
  | tmp t =>
   cases l with
   | cons r2 l2 =>
    cases r2 with
    | cell _ _ _=>rfl
    | tmp u =>
     cases l2 with
     | cons _ _=>rfl
     | nil =>
      have hru:∃ r,ER s (.tmp u)=some r:=by
       cases h1:ER s (.tmp t) with
       | none=>simp only[DU,h1] at hx;cases hx
       | some x1 =>
        cases h2:ER s (.tmp u) with
        | none=>simp only[DU,h1,h2] at hx;cases hx
        | some x2=>exact⟨x2,rfl⟩
      have hrt:∃ r,ER s (.tmp t)=some r:=by
       cases h1:ER s (.tmp t) with
       | none=>simp only[DU,h1] at hx;cases hx
       | some x1=>exact⟨x1,rfl⟩
      obtain⟨_,hru⟩:=hru;obtain⟨_,hrt⟩:=hrt;simp only[HS] at hf |-;have gt:A5 s' t=A5 s t:=by
       have hne:A5 s t ≠ .dead:=by
        intro e;simp only[ER,e] at hrt;cases hrt
       exact h.get rfl hne
      have gu:A5 s' u=A5 s u:=by
       have hne:A5 s u ≠ .dead:=by
        intro e;simp only[ER,e] at hru;cases hru
       exact h.get rfl hne
      rw[gt,gu];exact hf
   | nil =>
    simp only[HS] at hf |-;cases hr:A5 s t with
    | val x=>rw[h.get hr (by nofun)]
    | own k n cs=>rw[hr] at hf;cases hf
    | agn b k n cs=>rw[hr] at hf;cases hf
    | bxl _=>simp only[DU,ER,hr] at hx;cases hx
    | box _=>simp only[DU,ER,hr] at hx;cases hx
    | ptr _ _=>simp only[DU,ER,hr] at hx;cases hx
    | mem _=>simp only[DU,ER,hr] at hx;cases hx
    | dup _=>simp only[DU,ER,hr] at hx;cases hx
    | sub _ _ _ _=>simp only[DU,ER,hr] at hx;cases hx
    | dead=>simp only[DU,ER,hr] at hx;cases hx
theorem Oo{f:Nat}{fn:IFunc}{args:List AV}{s:Al}{ex:Ex}{r:AV}(hf:prog f=some fn)(hl:args.length=fn.params)(h:C1 prog fn.body (H' fn args) ex s)
  (hex:∀ i,ex ≠ .exit i) (hr:HJ s fn.res=some r):Bg prog f args r:=by
 obtain⟨u,k1,k2⟩:=h;refine HM hf hl k1 hex ?_;unfold HJ at hr |-;cases hfr:HS s fn.res with
 | some y=>rw[hfr] at hr;rw[ZL k2 hfr];exact hr
 | none =>
  rw[hfr] at hr;dsimp only at hr;split at hr
  ·rename_i y hy;cases hr;rw[Ru k2 hfr hy,On k2 hy]
  ·rename_i ys hne hy;cases hr;rw[Ru k2 hfr hy,On k2 hy];cases ys with
   | nil=>rfl
   | cons y l =>
    cases l with
    | nil=>exact (hne y rfl).elim
    | cons _ _=>rfl
  ·cases hr
def Wc(ks:List Nat)(s:Al):Al:=s.zipIdx.map fun p=>if ks.contains p.2 then p.1 else .dead
theorem Yv(ks:List Nat)(s:Al):GW (Wc ks s) s:=by
 refine⟨by simp[Wc],fun t => ?_⟩;simp only[A5,Wc,Z,CL,List.getElem?_zipIdx];cases h:s[t]? with
 | none=>simp
 | some r =>
  simp only[A9,Cs,GJ];split
  ·exact .inr rfl
  ·exact .inl rfl
def Anf(prog:Nat->Option IFunc)(T:Cw)(n:Nat)(c:ICode)(s:Al)(sc:List Sc)(ks:List Nat):Option (Ex × Al × List Prop) :=
 match H5 prog T n c s sc [] with
 | some ((ex,t),[],ps)=>some (ex,Wc ks t,ps)
 | _=>none
theorem DV{T:Cw}(hT:Ch prog T)(n:Nat){c:ICode}{s t:Al}{ex:Ex}(sc:List Sc)(ks:List Nat){ps:List Prop}
  (h:Anf prog T n c s sc ks=some (ex,t,ps)) (hp:Gi ps):C1 prog c s ex t:=by
 unfold Anf at h;split at h
 ·rename_i ex' t' ps' h1;cases h;exact⟨_,LS hT n sc h1 hp,Yv ks _⟩
 ·cases h
theorem G{T:Cw}(hT:Ch prog T)(n:Nat){c:ICode}{s t:Al}{ex:Ex}(sc:List Sc)(ks:List Nat){ps:List Prop}
  (hp:Gi ps) (h:Anf prog T n c s sc ks=some (ex,t,ps):=by kernel_rfl):C1 prog c s ex t:=DV hT n sc ks h hp
end
theorem T{p:Prop}{ps:List Prop}(h:p)(hs:Gi ps):Gi (p::ps):=⟨h,hs⟩
theorem a0:Gi []:=trivial
theorem A9x{prog:Nat->Option IFunc}{T:Cw}(hT:Ch prog T){f:Nat}{fn:IFunc}(hf:prog f=some fn)(n:Nat){args:List AV}(hl:args.length=fn.params)(sc:List Sc){r:AV}{ps:List Prop}
  (hp:Gi ps) (h:Aij prog T n fn args sc=some (r,ps):=by kernel_rfl):Bg prog f args r:=B1 hT hf n hl sc h hp
theorem ES:false=false:=rfl
theorem It:¬ (32:Int)<0:=by decide
theorem Hw:true=true:=rfl
theorem X7:¬ (63:Int)<0:=by decide
theorem FO:¬ (32:Int)=0:=by decide
theorem A9g{prog:Nat->Option IFunc}{f:Nat}{args:List AV}{r:AV}(fn:IFunc)(s:Al)(h:C1 prog fn.body (H' fn args) .ret s)(hf:prog f=some fn:=by exact rfl)(hl:args.length=fn.params:=by exact rfl)(hr:HJ s fn.res=some r:=by exact rfl):Bg prog f args r:=Oo hf hl h (by nofun) hr
theorem Hx{b:Bool}(h:b=true):(!b)=false:=by rw[h];rfl
theorem mE{b:Bool}(h:b=false):(!b)=true:=by rw[h];rfl
end Go.Ai
