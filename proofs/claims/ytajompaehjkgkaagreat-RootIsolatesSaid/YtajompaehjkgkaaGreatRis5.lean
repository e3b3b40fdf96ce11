/- Texts of the proof of RootIsolates: part 5 of 13. -/
import Derived.Test.YtajompaehjkgkaaGreatProg
import Derived.KernelRfl
import Derived.Test.YtajompaehjkgkaaGreatRis4
namespace Go.Proofs.YtajompaehjkgkaaGreat
open Go.Ai
set_option maxRecDepth 100000
open Go.Ai.AV renaming bool->D,int->F,sl->H
open Go.IntKind renaming i64->O,u32->Ac,u64->U
open Go.Proofs.Tryz renaming f3->Uo,prog->c
def tW:ICode := .seq (e [a 52 11,a 53 7,o1 54 (.len 53),oB 55 .lss 52 54] (.cond 55 .skip (.exit 0))) (.seq (.block 1 (.seq (.region true [a 58 7,a 59 11,oA 60 58 59 7,oL 61 60 60 7,r 62 17 [61],o1 63 (.un .not 62),a 64 63,n 65 (.mov 7) 64 false,n 66 (.mov 11) 64 false,n 67 (.ixa 65 66 7) 64 false,n 68 (.ld 67 67 7 false) 64 false,n 69 (.call 18 [68]) 64 false,n 70 (.un .not 69) 64 false,o1 71 (.pick 64 (cb true) 70),a 72 71,n 73 (.mov 9) 72 false,n 74 (.mov 11) 72 false,n 75 (.ixa 73 74 7) 72 false,n 76 (.ld 75 75 7 false) 72 false,n 77 (.call 18 [76]) 72 false,n 78 (.un .not 77) 72 false,o1 79 (.pick 72 (cb true) 78),a 80 79,n 81 (.mov 7) 80 false,n 82 (.mov 11) 80 false,n 83 (.ixa 81 82 7) 80 false,n 84 (.ld 83 83 7 false) 80 false,n 85 (.call 20 [84]) 80 false,n 86 (.mov 9) 80 false,n 87 (.mov 11) 80 false,n 88 (.ixa 86 87 7) 80 false,n 89 (.ld 88 88 7 false) 80 false,n 90 (.call 19 [85,89]) 80 false,n 91 (.bin .neq 90 (ci 0)) 80 false,o1 92 (.pick 80 (cb true) 91)]) (.cond 92 (e [o1 6 (.mov (cb false))] .ret) .skip))) (rg [a 56 11,oI 57 .add 56 1,a 11 57]))
def bD:IFunc:=⟨3,93,[.tmp 6],e [o1 4 (.box 1 []),o1 5 (.box 2 []),o1 6 (.mov (cb false))] (.seq (e [r 12 12 [],o1 13 (.un .not 12)] (.cond 13 (e [o1 6 (.mov (cb false))] .ret) .skip)) (.seq (e [a 14 0,r 15 13 [14],o1 16 (.un .not 15),a 17 16,n 18 (.ld 4 4 3 false) 17 false,n 19 (.call 14 [18]) 17 false,n 20 (.un .not 19) 17 false,o1 21 (.pick 17 (cb true) 20),a 22 21,n 23 (.ld 5 5 3 false) 22 false,n 24 (.call 14 [23]) 22 false,n 25 (.un .not 24) 22 false,o1 26 (.pick 22 (cb true) 25)] (.cond 26 (e [r 27 12 [],a 6 27] .ret) .skip)) (e [a 29 0,oL 30 4 4 3,oL 31 5 5 3,r 32 15 [29,30,31],a 28 32,oE 33 28 0,oE 34 28 1,a 7 33,a 8 34] (e [a 36 0,oL 37 4 4 3,oL 38 5 5 3,r 39 16 [36,37,38],a 35 39,oE 40 35 0,oE 41 35 1,a 9 40,a 10 41] (.seq (e [a 42 8,a 43 10,oB 44 .neq 42 43,a 45 44,n 46 (.mov 7) 45 false,n 47 (.len 46) 45 false,n 48 (.mov 9) 45 false,n 49 (.len 48) 45 false,n 50 (.bin .neq 47 49) 45 false,o1 51 (.pick 45 (cb true) 50)] (.cond 51 (e [o1 6 (.mov (cb false))] .ret) .skip)) (.seq (e [o1 11 (.mov (ci 0))] (.block 0 (.loop tW))) (e [o1 6 (.mov (cb true))] .ret)))))))⟩
def Yr3:List (Nat × Nat):=[]
theorem Awy:AU c Yr3 Uo bD=true:=by kernel_rfl
def rG:IFunc:=⟨0,116,[.tmp 0],e [o1 0 (.mov (cb false))] (e [o1 14 (.bls 4 [F O 0,F O 0,F O 0,F O 0] [(0,1,.c (F O 0)),(1,1,.c (F O (-1))),(2,1,.c (F O 0)),(3,1,.c (F O 1))]),r 15 47 [14],o1 16 (.call 50 [.c (F O (-1)),.c (F O 0)]),o1 17 (.call 50 [.c (F O 2),.c (F O 0)]),r 18 15 [15,16,17],a 13 18,oE 19 13 0,oE 20 13 1,a 1 19,a 2 20] (e [o1 22 (.bls 3 [F O 0,F O 0,F O 0] [(0,1,.c (F O (-2))),(1,1,.c (F O 0)),(2,1,.c (F O 1))]),r 23 47 [22],o1 24 (.call 50 [.c (F O 0),.c (F O 0)]),o1 25 (.call 50 [.c (F O 2),.c (F O 0)]),r 26 15 [23,24,25],a 21 26,oE 27 21 0,oE 28 21 1,a 3 27,a 4 28] (e [o1 30 (.bls 5 [F O 0,F O 0,F O 0,F O 0,F O 0] [(0,1,.c (F O (-4))),(1,1,.c (F O 0)),(2,1,.c (F O 0)),(3,1,.c (F O 0)),(4,1,.c (F O 1))]),r 31 47 [30],o1 32 (.call 50 [.c (F O 0),.c (F O 0)]),o1 33 (.call 50 [.c (F O 5),.c (F O 0)]),r 34 15 [31,32,33],a 29 34,oE 35 29 0,oE 36 29 1,a 5 35,a 6 36] (.seq (e [a 37 2,oI 38 .neq 37 0,a 39 38,n 40 (.mov 4) 39 false,n 41 (.bin .neq 40 (ci 0)) 39 false,o1 42 (.pick 39 (cb true) 41),a 43 42,n 44 (.mov 6) 43 false,n 45 (.bin .neq 44 (ci 0)) 43 false,o1 46 (.pick 43 (cb true) 45),a 47 46,n 48 (.mov 1) 47 false,n 49 (.len 48) 47 false,n 50 (.bin .neq 49 (ci 2)) 47 false,o1 51 (.pick 47 (cb true) 50),a 52 51,n 53 (.mov 3) 52 false,n 54 (.len 53) 52 false,n 55 (.bin .neq 54 (ci 1)) 52 false,o1 56 (.pick 52 (cb true) 55),a 57 56,n 58 (.mov 5) 57 false,n 59 (.len 58) 57 false,n 60 (.bin .neq 59 (ci 1)) 57 false,o1 61 (.pick 57 (cb true) 60)] (.cond 61 (e [o1 0 (.mov (cb false))] .ret) .skip)) (e [a 63 3,o1 64 (.ixa 63 (ci 0) 7),oL 65 64 64 7,o1 66 (.call 25 [65,.c (F O 1)]),a 62 66,oE 67 62 0,oE 68 62 1,o1 7 (.new [D false,H 0 []] []),oS 7 7 2 67,a 8 68] (.seq (.region true [a 70 3,o1 71 (.ixa 70 (ci 0) 7),oL 72 71 71 7,a 73 5,o1 74 (.ixa 73 (ci 0) 7),oL 75 74 74 7,r 76 23 [72,75],a 69 76,oE 77 69 0,oE 78 69 1,a 9 77,a 10 78]) (.seq (.region true [a 80 1,o1 81 (.ixa 80 (ci 1) 7),oL 82 81 81 7,o1 83 (.call 50 [.c (F O 1),.c (F O 0)]),r 84 24 [82,83],a 79 84,oE 85 79 0,oE 86 79 1,a 11 85,a 12 86]) (.seq (.region true [a 87 8,oI 88 .eql 87 0,a 89 88,n 90 (.mov 10) 89 true,n 91 (.bin .eql 90 (ci 0)) 89 true,o1 92 (.pick 89 91 (cb false)),a 93 92,n 94 (.mov 12) 93 true,n 95 (.bin .eql 94 (ci 0)) 93 true,o1 96 (.pick 93 95 (cb false)),a 97 96,n 98 (.ld 7 7 2 false) 97 true,n 99 (.call 49 [.c (F O 2)]) 97 true,n 100 (.call 28 [98,99]) 97 true,o1 101 (.pick 97 100 (cb false)),a 102 101,n 103 (.mov 9) 102 true,n 104 (.bin .eql 103 (ci 0)) 102 true,o1 105 (.pick 102 104 (cb false)),a 106 105,n 107 (.mov 11) 106 true,n 108 (.bin .eql 107 (ci 0)) 106 true,o1 109 (.pick 106 108 (cb false)),a 110 109,n 111 (.mov 1) 110 true,n 112 (.ixa 111 (ci 0) 7) 110 true,n 113 (.ld 112 112 7 false) 110 true,n 114 (.call 18 [113]) 110 true,o1 115 (.pick 110 114 (cb false)),a 0 115]) .ret))))))))⟩
def A2q:List (Nat × Nat):=[]
theorem Aga:AU c A2q Tryz.f12 rG=true:=by kernel_rfl
def NP:ICode := .seq (e [a 7 3,a 8 0,o1 9 (.len 8),oB 10 .lss 7 9] (.cond 10 .skip (.exit 0))) (.seq (.block 1 (e [a 13 0,a 14 3,oA 15 13 14 2,oL 16 15 15 2,r 17 51 [16],oI 18 .gtr 17 100,a 19 18,n 20 (.mov 0) 19 false,n 21 (.mov 3) 19 false,n 22 (.ixa 20 21 2) 19 false,n 23 (.adr 22 28 1) 19 false,n 24 (.ld 23 23 1 true) 19 false,n 25 (.len 24) 19 false,n 26 (.bin .gtr 25 (ci 5)) 19 false,o1 27 (.pick 19 (cb true) 26)] (.cond 27 (e [o1 2 (.mov (cb false))] .ret) .skip))) (rg [a 11 3,oI 12 .add 11 1,a 3 12]))
def UB:IFunc:=⟨1,28,[.tmp 2],e [o1 2 (.mov (cb false))] (.seq (e [a 4 0,o1 5 (.len 4),oI 6 .gtr 5 9] (.cond 6 (e [o1 2 (.mov (cb false))] .ret) .skip)) (.seq (e [o1 3 (.mov (ci 0))] (.block 0 (.loop NP))) (e [o1 2 (.mov (cb true))] .ret)))⟩
def A2r:List (Nat × Nat):=[(23,28)]
theorem Agb:AU c A2r Tryz.f13 UB=true:=by kernel_rfl
def S_:IFunc:=⟨1,24,[.tmp 2],e [o1 1 (.box 0 [3,7,12,13,19]),o1 2 (.mov (cb false))] (e [o1 3 (.adr 1 1 2),o1 4 (.ld 3 1 1 true),oI 5 .geq 4 0,a 6 5,n 7 (.adr 1 1 2) 6 true,n 8 (.ld 7 1 1 true) 6 true,n 9 (.bin .leq 8 (ci 10)) 6 true,o1 10 (.pick 6 9 (cb false)),a 11 10,n 12 (.adr 1 1 0) 11 true,n 13 (.adr 12 1 1) 11 true,n 14 (.ld 13 1 1 true) 11 true,n 15 (.len 14) 11 true,n 16 (.bin .leq 15 (ci 1)) 11 true,o1 17 (.pick 11 16 (cb false)),a 18 17,n 19 (.adr 1 1 0) 18 true,n 20 (.ld 19 1 2 false) 18 true,n 21 (.call 51 [20]) 18 true,n 22 (.bin .leq 21 (ci 20)) 18 true,o1 23 (.pick 18 22 (cb false)),a 2 23] .ret)⟩
def A2s:List (Nat × Nat):=[(3,1),(7,1),(12,1),(13,1),(19,1)]
theorem Agc:AU c A2s Tryz.f14 S_=true:=by kernel_rfl
def UC:ICode:=e [oB 48 .lss 47 46] (.seq (.cond 48 .skip (.exit 1)) (.seq (.block 2 (e [oA 49 45 47 7,oL 50 49 49 7,o1 12 (.new [H 0 [],D false,H 0 [],F O 0,D false,H 0 [],F O 0] [51,56]),oS 12 12 7 50] (.seq (e [o1 51 (.adr 12 12 0),o1 52 (.ld 51 12 1 true),r 53 52 [52],o1 54 (.un .not 53)] (.cond 54 (rg [a 55 0,o1 56 (.adr 12 12 0),oS 56 12 1 55]) .skip)) (rg [o1 57 (.tra 10),oL 58 12 12 7,r 59 57 [58],o1 60 (.bls 1 [H 0 [],D false,H 0 [],F O 0,D false,H 0 [],F O 0] [(0,7,.t 59)]),o1 61 (.apd true 57 60 7 1048576),o1 10 (.tra 61)])))) (rg [oI 62 .add 47 1,a 47 62])))
def Ta:IFunc:=⟨3,64,[.tmp 6,.tmp 7],e [o1 4 (.box 1 []),o1 5 (.box 2 []),o1 6 (.nlo 7),o1 7 (.mov (ci 0))] (.seq (.block 0 (e [a 14 0,r 15 52 [14],o1 16 (.un .not 15),a 13 16] (.cond 13 (e [o1 6 (.nlo 7),o1 7 (.mov (ci 2))] .ret) (e [a 18 0,r 19 53 [18],oI 20 .lss 19 0,a 17 20] (.cond 17 (e [o1 6 (.nlo 7),o1 7 (.mov (ci 3))] .ret) (e [oL 22 4 4 3,r 23 54 [22],o1 24 (.un .not 23),a 25 24,n 26 (.ld 5 5 3 false) 25 false,n 27 (.call 54 [26]) 25 false,n 28 (.un .not 27) 25 false,o1 29 (.pick 25 (cb true) 28),a 30 29,n 31 (.ld 4 4 3 false) 30 false,n 32 (.ld 5 5 3 false) 30 false,n 33 (.call 55 [31,32]) 30 false,n 34 (.bin .gtr 33 (ci 0)) 30 false,o1 35 (.pick 30 (cb true) 34),a 21 35] (.cond 21 (e [o1 6 (.nlo 7),o1 7 (.mov (ci 1))] .ret) .skip))))))) (e [a 37 0,oL 38 4 4 3,oL 39 5 5 3,o1 40 (.call 56 [37,38,39,.c (F O 896)]),a 36 40,oE 41 36 0,oE 42 36 1,a 8 41,a 9 42] (.seq (e [a 43 9,o1 44 (.un .not 43)] (.cond 44 (e [o1 6 (.nlo 7),o1 7 (.mov (ci 9))] .ret) .skip)) (e [o1 10 (.nlo 7)] (.seq (e [a 45 8,o1 46 (.len 45),o1 47 (.mov (ci 0))] (.block 1 (.loop UC))) (e [o1 63 (.tra 10),o1 6 (.tra 63),o1 7 (.mov (ci 0))] .ret))))))⟩
def A2t:List (Nat × Nat):=[(51,12),(56,12)]
theorem Agd:AU c A2t Tryz.f15 Ta=true:=by kernel_rfl
def XK:ICode := .seq (e [a 58 9,a 59 8,o1 60 (.len 59),oB 61 .lss 58 60] (.cond 61 .skip (.exit 1))) (.seq (.block 2 (e [a 64 8,a 65 9,oA 66 64 65 7,o1 67 (.adr 66 81 1),oL 68 67 67 3,r 69 61 [68],o1 70 (.un .not 69),a 71 70,n 72 (.mov 8) 71 false,n 73 (.mov 9) 71 false,n 74 (.ixa 72 73 7) 71 false,n 75 (.adr 74 81 4) 71 false,n 76 (.ld 75 75 3 false) 71 false,n 77 (.call 61 [76]) 71 false,n 78 (.un .not 77) 71 false,o1 79 (.pick 71 (cb true) 78)] (.cond 79 (e [o1 6 (.nlo 7),o1 7 (.mov (ci 9))] .ret) .skip))) (rg [a 62 9,oI 63 .add 62 1,a 9 63]))
def UD:IFunc:=⟨3,81,[.tmp 6,.tmp 7],e [o1 4 (.box 1 [27,37]),o1 5 (.box 2 [32,43]),o1 6 (.nlo 7),o1 7 (.mov (ci 0))] (.seq (.block 0 (e [a 11 0,r 12 58 [11],a 10 12] (.cond 10 (e [o1 6 (.nlo 7),o1 7 (.mov (ci 2))] .ret) (e [a 14 0,r 15 21 [14],oI 16 .lss 15 0,a 13 16] (.cond 13 (e [o1 6 (.nlo 7),o1 7 (.mov (ci 3))] .ret) (e [oL 18 4 4 3,r 19 59 [18],o1 20 (.un .not 19),a 21 20,n 22 (.ld 5 5 3 false) 21 false,n 23 (.call 59 [22]) 21 false,n 24 (.un .not 23) 21 false,o1 25 (.pick 21 (cb true) 24),a 26 25,n 27 (.adr 4 4 2) 26 false,n 28 (.ld 27 4 1 true) 26 false,n 29 (.bin .gtr 28 (ci 64)) 26 false,o1 30 (.pick 26 (cb true) 29),a 31 30,n 32 (.adr 5 5 2) 31 false,n 33 (.ld 32 5 1 true) 31 false,n 34 (.bin .gtr 33 (ci 64)) 31 false,o1 35 (.pick 31 (cb true) 34),a 36 35,n 37 (.adr 4 4 0) 36 false,n 38 (.ld 37 4 2 false) 36 false,n 39 (.call 51 [38]) 36 false,n 40 (.bin .gtr 39 (ci 128)) 36 false,o1 41 (.pick 36 (cb true) 40),a 42 41,n 43 (.adr 5 5 0) 42 false,n 44 (.ld 43 5 2 false) 42 false,n 45 (.call 51 [44]) 42 false,n 46 (.bin .gtr 45 (ci 128)) 42 false,o1 47 (.pick 42 (cb true) 46),a 48 47,n 49 (.ld 4 4 3 false) 48 false,n 50 (.ld 5 5 3 false) 48 false,n 51 (.call 33 [49,50]) 48 false,n 52 (.bin .gtr 51 (ci 0)) 48 false,o1 53 (.pick 48 (cb true) 52),a 17 53] (.cond 17 (e [o1 6 (.nlo 7),o1 7 (.mov (ci 1))] .ret) .skip))))))) (e [a 54 0,oL 55 4 4 3,oL 56 5 5 3,r 57 60 [54,55,56],a 8 57] (.seq (e [o1 9 (.mov (ci 0))] (.block 1 (.loop XK))) (e [a 80 8,o1 6 (.tra 80),o1 7 (.mov (ci 0))] .ret))))⟩
def A2u:List (Nat × Nat):=[(27,4),(32,5),(37,4),(43,5),(67,81),(75,81)]
theorem Age:AU c A2u Tryz.f16 UD=true:=by kernel_rfl
def NQ:IFunc:=⟨1,46,[.tmp 2],e [o1 1 (.box 0 [3,7,13,19,24,26,31,33,38,40,42]),o1 2 (.mov (cb false))] (.seq (e [o1 3 (.adr 1 1 0),o1 4 (.ld 3 1 1 true),r 5 58 [4],a 6 5,n 7 (.adr 1 1 0) 6 false,n 8 (.ld 7 1 1 true) 6 false,n 9 (.call 21 [8]) 6 false,n 10 (.bin .lss 9 (ci 1)) 6 false,o1 11 (.pick 6 (cb true) 10),a 12 11,n 13 (.adr 1 1 1) 12 false,n 14 (.ld 13 1 3 false) 12 false,n 15 (.call 61 [14]) 12 false,n 16 (.un .not 15) 12 false,o1 17 (.pick 12 (cb true) 16),a 18 17,n 19 (.adr 1 1 4) 18 false,n 20 (.ld 19 1 3 false) 18 false,n 21 (.call 61 [20]) 18 false,n 22 (.un .not 21) 18 false,o1 23 (.pick 18 (cb true) 22)] (.cond 23 (e [o1 2 (.mov (cb false))] .ret) .skip)) (.seq (e [o1 24 (.adr 1 1 1),oL 25 24 1 3,o1 26 (.adr 1 1 4),oL 27 26 1 3,r 28 33 [25,27]] (.block 0 (e [oI 30 .eql 28 0,a 29 30] (.cond 29 (e [o1 31 (.adr 1 1 0),o1 32 (.ld 31 1 1 true),o1 33 (.adr 1 1 1),oL 34 33 1 3,r 35 62 [32,34],a 2 35] .ret) (e [oI 37 .eql 28 (-1),a 36 37] (.cond 36 (e [o1 38 (.adr 1 1 0),o1 39 (.ld 38 1 1 true),o1 40 (.adr 1 1 1),oL 41 40 1 3,o1 42 (.adr 1 1 4),oL 43 42 1 3,r 44 63 [39,41,43],oI 45 .eql 44 1,a 2 45] .ret) .skip)))))) (e [o1 2 (.mov (cb false))] .ret)))⟩
def A2v:List (Nat × Nat):=[(3,1),(7,1),(13,1),(19,1),(24,1),(26,1),(31,1),(33,1),(38,1),(40,1),(42,1)]
theorem Agf:AU c A2v Tryz.f17 NQ=true:=by kernel_rfl
def NR:IFunc:=⟨1,55,[.tmp 2],e [o1 1 (.box 0 [4,9,15,21,26,28,33,36,42,46,50]),o1 2 (.mov (cb false))] (.seq (e [o1 4 (.adr 1 1 0),o1 5 (.ld 4 1 1 true),r 6 52 [5],o1 7 (.un .not 6),a 8 7,n 9 (.adr 1 1 0) 8 false,n 10 (.ld 9 1 1 true) 8 false,n 11 (.call 53 [10]) 8 false,n 12 (.bin .lss 11 (ci 1)) 8 false,o1 13 (.pick 8 (cb true) 12),a 14 13,n 15 (.adr 1 1 1) 14 false,n 16 (.ld 15 1 3 false) 14 false,n 17 (.call 64 [16]) 14 false,n 18 (.un .not 17) 14 false,o1 19 (.pick 14 (cb true) 18),a 20 19,n 21 (.adr 1 1 4) 20 false,n 22 (.ld 21 1 3 false) 20 false,n 23 (.call 64 [22]) 20 false,n 24 (.un .not 23) 20 false,o1 25 (.pick 20 (cb true) 24)] (.cond 25 (e [o1 2 (.mov (cb false))] .ret) .skip)) (.seq (e [o1 26 (.adr 1 1 1),oL 27 26 1 3,o1 28 (.adr 1 1 4),oL 29 28 1 3,r 30 55 [27,29]] (.block 0 (e [oI 32 .eql 30 0,a 31 32] (.cond 31 (.seq (.region true [o1 33 (.adr 1 1 0),o1 34 (.ld 33 1 1 true),r 35 66 [34],o1 36 (.adr 1 1 1),oL 37 36 1 3,r 38 65 [35,37],oI 39 .eql 38 0,a 2 39]) .ret) (e [oI 41 .eql 30 1,a 40 41] (.cond 40 (e [o1 2 (.mov (cb false))] .ret) .skip)))))) (e [o1 42 (.adr 1 1 0),o1 43 (.ld 42 1 1 true),r 44 67 [43],a 3 44] (.seq (.region true [a 45 3,o1 46 (.adr 1 1 1),oL 47 46 1 3,r 48 68 [45,47],a 49 3,o1 50 (.adr 1 1 4),oL 51 50 1 3,r 52 68 [49,51],oB 53 .sub 48 52,oI 54 .eql 53 1,a 2 54]) .ret))))⟩
def A2w:List (Nat × Nat):=[(4,1),(9,1),(15,1),(21,1),(26,1),(28,1),(33,1),(36,1),(42,1),(46,1),(50,1)]
theorem Agg:AU c A2w Tryz.f18 NR=true:=by kernel_rfl
def RK:ICode:=e [a 70 5,oI 71 .geq 70 8,a 72 71,n 73 (.ld 2 2 7 false) 72 true,n 74 (.ld 3 3 7 false) 72 true,n 75 (.call 71 [73,74]) 72 true,o1 76 (.pick 72 75 (cb false))] (.cond 76 (.seq (e [o1 77 (.adr 2 2 1),oL 78 77 2 3,o1 79 (.adr 3 3 1),oL 80 79 3 3,r 81 33 [78,80],oI 82 .lss 81 0] (.cond 82 (e [o1 4 (.mov (ci (-1)))] .ret) .skip)) (e [o1 4 (.mov (ci 1))] .ret)) .skip)
def LC:ICode := .seq (.region true [a 45 5,oI 46 .eql 45 8,a 47 46,n 48 (.ld 2 2 7 false) 47 true,n 49 (.adr 2 2 0) 47 true,n 50 (.ld 49 2 1 true) 47 true,n 51 (.adr 3 3 0) 47 true,n 52 (.ld 51 3 1 true) 47 true,n 53 (.call 70 [50,52]) 47 true,n 54 (.call 69 [48,53]) 47 true,o1 55 (.pick 47 54 (cb false)),a 56 55,n 57 (.ld 2 2 7 false) 56 true,n 58 (.adr 3 3 1) 56 true,n 59 (.ld 58 3 3 false) 56 true,n 60 (.call 27 [57,59]) 56 true,n 61 (.bin .gtr 60 (ci 0)) 56 true,o1 62 (.pick 56 61 (cb false)),a 63 62,n 64 (.ld 2 2 7 false) 63 true,n 65 (.adr 3 3 4) 63 true,n 66 (.ld 65 3 3 false) 63 true,n 67 (.call 27 [64,66]) 63 true,n 68 (.bin .leq 67 (ci 0)) 63 true,o1 69 (.pick 63 68 (cb false))]) (.cond 69 (e [o1 4 (.mov (ci 0))] .ret) .skip)
def Ps:ICode := .seq (.block 1 (.seq (.block 2 (e [o1 9 (.adr 2 2 4),oL 10 9 2 3,o1 11 (.adr 3 3 1),oL 12 11 3 3,r 13 33 [10,12],oI 14 .lss 13 0,a 8 14] (.cond 8 (e [o1 4 (.mov (ci (-1)))] .ret) (e [o1 16 (.adr 3 3 4),oL 17 16 3 3,o1 18 (.adr 2 2 1),oL 19 18 2 3,r 20 33 [17,19],oI 21 .lss 20 0,a 15 21] (.cond 15 (e [o1 4 (.mov (ci 1))] .ret) (e [o1 23 (.adr 2 2 1),oL 24 23 2 3,o1 25 (.adr 2 2 4),oL 26 25 2 3,r 27 33 [24,26],oI 28 .eql 27 0,a 22 28] (.cond 22 (e [oL 29 3 3 7,o1 30 (.adr 2 2 1),oL 31 30 2 3,r 32 27 [29,31],o1 33 (.un .neg 32),a 4 33] .ret) (e [o1 35 (.adr 3 3 1),oL 36 35 3 3,o1 37 (.adr 3 3 4),oL 38 37 3 3,r 39 33 [36,38],oI 40 .eql 39 0,a 34 40] (.cond 34 (e [oL 41 2 2 7,o1 42 (.adr 3 3 1),oL 43 42 3 3,r 44 27 [41,43],a 4 44] .ret) .skip))))))))) (.seq LC (.seq RK (.region true [oL 83 2 2 7,r 84 72 [83],oL 85 3 3 7,r 86 72 [85],oS 2 2 7 84,oS 3 3 7 86]))))) (rg [a 6 5,oI 7 .add 6 1,a 5 7])
def bE:IFunc:=⟨2,87,[.tmp 4],e [o1 2 (.box 0 [9,18,23,25,30,49,77]),o1 3 (.box 1 [11,16,35,37,42,51,58,65,79]),o1 4 (.mov (ci 0))] (e [o1 5 (.mov (ci 0))] (.block 0 (.loop Ps)))⟩
def A2x:List (Nat × Nat):=[(9,2),(11,3),(16,3),(18,2),(23,2),(25,2),(30,2),(35,3),(37,3),(42,3),(49,2),(51,3),(58,3),(65,3),(77,2),(79,3)]
theorem Agh:AU c A2x Tryz.f19 bE=true:=by kernel_rfl
def bF:IFunc:=⟨1,11,[.cell 2 7 false],e [o1 1 (.box 0 [3,6,8]),o1 2 (.new [H 0 [],D false,H 0 [],F O 0,D false,H 0 [],F O 0] [])] (.seq (.region true [o1 3 (.adr 1 1 0),o1 4 (.ld 3 1 1 true),r 5 73 [4],o1 6 (.adr 1 1 1),oL 7 6 1 3,o1 8 (.adr 1 1 4),oL 9 8 1 3,o1 10 (.bld [H 0 [],D false,H 0 [],F O 0,D false,H 0 [],F O 0] [(0,1,.t 5),(1,3,.t 7),(4,3,.t 9)]),oS 2 2 7 10]) .ret)⟩
def A2y:List (Nat × Nat):=[(3,1),(6,1),(8,1)]
theorem Agi:AU c A2y Tryz.f20 bF=true:=by kernel_rfl
def bG:IFunc:=⟨1,7,[.tmp 2],e [o1 2 (.mov (ci 0))] (e [a 3 0,r 4 46 [3],o1 5 (.len 4),oI 6 .sub 5 1,a 2 6] .ret)⟩
def A2z:List (Nat × Nat):=[]
theorem Agj:AU c A2z Tryz.f21 bG=true:=by kernel_rfl
def rH:IFunc:=⟨2,19,[.tmp 4,.tmp 5],e [o1 2 (.box 0 []),o1 3 (.box 1 []),o1 4 (.mov (ci 0)),o1 5 (.mov (ci 0))] (.seq (e [oL 6 2 2 7,r 7 18 [6],o1 8 (.un .not 7),a 9 8,n 10 (.ld 3 3 7 false) 9 false,n 11 (.call 18 [10]) 9 false,n 12 (.un .not 11) 9 false,o1 13 (.pick 9 (cb true) 12)] (.cond 13 (e [o1 4 (.mov (ci 0)),o1 5 (.mov (ci 1))] .ret) .skip)) (.seq (.region true [oL 14 2 2 7,r 15 75 [14],oL 16 3 3 7,r 17 75 [16],r 18 74 [15,17],a 4 18,o1 5 (.mov (ci 0))]) .ret))⟩
def A3a:List (Nat × Nat):=[]
theorem Agk:AU c A3a Tryz.f23 rH=true:=by kernel_rfl
def rI:IFunc:=⟨2,18,[.tmp 4,.tmp 5],e [o1 2 (.box 0 []),o1 3 (.box 1 []),o1 4 (.mov (ci 0)),o1 5 (.mov (ci 0))] (.seq (e [oL 6 2 2 7,r 7 18 [6],o1 8 (.un .not 7),a 9 8,n 10 (.ld 3 3 3 false) 9 false,n 11 (.call 64 [10]) 9 false,n 12 (.un .not 11) 9 false,o1 13 (.pick 9 (cb true) 12)] (.cond 13 (e [o1 4 (.mov (ci 0)),o1 5 (.mov (ci 1))] .ret) .skip)) (.seq (.region true [oL 14 2 2 7,r 15 75 [14],oL 16 3 3 3,r 17 76 [15,16],a 4 17,o1 5 (.mov (ci 0))]) .ret))⟩
def A3b:List (Nat × Nat):=[]
theorem Agl:AU c A3b Tryz.f24 rI=true:=by kernel_rfl
def rJ:IFunc:=⟨2,22,[.cell 4 2 false,.tmp 5],e [o1 2 (.box 0 []),o1 4 (.new [D false,H 0 []] []),o1 5 (.mov (ci 0))] (.seq (e [oL 6 2 2 7,r 7 18 [6],o1 8 (.un .not 7),a 9 8,n 10 (.mov 1) 9 false,n 11 (.bin .lss 10 (ci 0)) 9 false,o1 12 (.pick 9 (cb true) 11),a 13 12,n 14 (.mov 1) 13 false,n 15 (.bin .gtr 14 (ci 64)) 13 false,o1 16 (.pick 13 (cb true) 15)] (.cond 16 (e [o1 17 (.bld [D false,H 0 []] []),oS 4 4 2 17,o1 5 (.mov (ci 1))] .ret) .skip)) (e [oL 18 2 2 7,r 19 75 [18],a 20 1,r 21 77 [19,20],oS 4 4 2 21,o1 5 (.mov (ci 0))] .ret))⟩
def A3c:List (Nat × Nat):=[]
theorem Agm:AU c A3c Tryz.f25 rJ=true:=by kernel_rfl
def Pt:IFunc:=⟨2,60,[.tmp 4],e [o1 2 (.box 0 [10,14,18,20,32,40,42,43,45,46]),o1 3 (.box 1 [34,36]),o1 4 (.mov (ci 0))] (.seq (.region true [oL 9 3 3 3,o1 10 (.adr 2 2 1),oL 11 10 2 3,r 12 33 [9,11],oL 13 3 3 3,o1 14 (.adr 2 2 4),oL 15 14 2 3,r 16 33 [13,15],a 5 12,a 6 16]) (.seq (.block 0 (e [o1 18 (.adr 2 2 1),oL 19 18 2 3,o1 20 (.adr 2 2 4),oL 21 20 2 3,r 22 33 [19,21],oI 23 .eql 22 0,a 17 23] (.cond 17 (e [a 24 5,o1 25 (.un .neg 24),a 4 25] .ret) (e [a 27 5,oI 28 .leq 27 0,a 26 28] (.cond 26 (e [o1 4 (.mov (ci 1))] .ret) (e [a 30 6,oI 31 .gtr 30 0,a 29 31] (.cond 29 (e [o1 4 (.mov (ci (-1)))] .ret) .skip))))))) (e [o1 32 (.adr 2 2 0),o1 33 (.ld 32 2 1 true),o1 34 (.adr 3 3 0),oL 35 34 3 2,o1 36 (.adr 3 3 2),o1 37 (.ld 36 3 1 true),r 38 80 [33,35,37],r 39 79 [38],a 7 39] (e [o1 40 (.adr 2 2 0),o1 41 (.ld 40 2 1 true),o1 42 (.adr 2 2 4),o1 43 (.adr 42 2 0),oL 44 43 2 2,o1 45 (.adr 2 2 4),o1 46 (.adr 45 2 2),o1 47 (.ld 46 2 1 true),r 48 80 [41,44,47],r 49 79 [48],a 8 49] (.seq (.block 1 (e [a 51 7,oI 52 .eql 51 0,a 50 52] (.cond 50 (e [o1 4 (.mov (ci 0))] .ret) (e [a 54 8,oI 55 .eql 54 0,a 53 55] (.cond 53 (e [o1 4 (.mov (ci 1))] .ret) (e [a 57 7,a 58 8,oB 59 .eql 57 58,a 56 59] (.cond 56 (e [o1 4 (.mov (ci (-1)))] .ret) .skip))))))) (e [o1 4 (.mov (ci 1))] .ret))))))⟩
def A3d:List (Nat × Nat):=[(10,2),(14,2),(18,2),(20,2),(32,2),(34,3),(36,3),(40,2),(42,2),(43,2),(45,2),(46,2)]
theorem Agn:AU c A3d Tryz.f27 Pt=true:=by kernel_rfl
def rK:IFunc:=⟨2,38,[.tmp 4],e [o1 2 (.box 0 [6,12,21,27]),o1 3 (.box 1 [8,15,32]),o1 4 (.mov (cb false))] (.seq (e [o1 6 (.adr 2 2 0),o1 7 (.ld 6 2 1 true),o1 8 (.adr 3 3 0),o1 9 (.ld 8 3 1 true),o1 10 (.eqb true 7 9),a 11 10,n 12 (.adr 2 2 1) 11 false,n 13 (.ld 12 2 1 true) 11 false,n 14 (.len 13) 11 false,n 15 (.adr 3 3 1) 11 false,n 16 (.ld 15 3 1 true) 11 false,n 17 (.len 16) 11 false,n 18 (.bin .neq 14 17) 11 false,o1 19 (.pick 11 (cb true) 18)] (.cond 19 (e [o1 4 (.mov (cb false))] .ret) .skip)) (.seq (e [o1 5 (.mov (ci 0))] (.block 0 (.loop (.seq (e [a 20 5,o1 21 (.adr 2 2 1),o1 22 (.ld 21 2 1 true),o1 23 (.len 22),oB 24 .lss 20 23] (.cond 24 .skip (.exit 0))) (.seq (.block 1 (.seq (.region true [o1 27 (.adr 2 2 1),o1 28 (.ld 27 2 1 true),a 29 5,oA 30 28 29 1,o1 31 (.ld 30 30 1 true),o1 32 (.adr 3 3 1),o1 33 (.ld 32 3 1 true),a 34 5,oA 35 33 34 1,o1 36 (.ld 35 35 1 true),oB 37 .neq 31 36]) (.cond 37 (e [o1 4 (.mov (cb false))] .ret) .skip))) (rg [a 25 5,oI 26 .add 25 1,a 5 26])))))) (e [o1 4 (.mov (cb true))] .ret)))⟩
def A3e:List (Nat × Nat):=[(6,2),(8,3),(12,2),(15,3),(21,2),(27,2),(32,3)]
theorem Ago:AU c A3e Tryz.f28 rK=true:=by kernel_rfl
def bH:IFunc:=⟨2,16,[.tmp 4],e [o1 2 (.box 0 [5,12]),o1 3 (.box 1 [7,10]),o1 4 (.mov (ci 0))] (.seq (.region true [o1 5 (.adr 2 2 0),oL 6 5 2 2,o1 7 (.adr 3 3 2),o1 8 (.ld 7 3 1 true),r 9 84 [6,8],o1 10 (.adr 3 3 0),oL 11 10 3 2,o1 12 (.adr 2 2 2),o1 13 (.ld 12 2 1 true),r 14 84 [11,13],r 15 83 [9,14],a 4 15]) .ret)⟩
def A3f:List (Nat × Nat):=[(5,2),(7,3),(10,3),(12,2)]
theorem Agp:AU c A3f Tryz.f33 bH=true:=by kernel_rfl
def UE:ICode := .seq (e [a 21 5,a 22 3,oB 23 .lss 21 22] (.cond 23 .skip (.exit 2))) (.seq (.block 3 (rg [o1 26 (.tra 4),a 27 0,a 28 5,oA 29 27 28 2,oL 30 29 29 2,r 31 97 [30],o1 32 (.bls 1 [D false,H 0 []] [(0,2,.t 31)]),o1 33 (.apd true 26 32 2 1048576),o1 4 (.tra 33)])) (rg [a 24 5,oI 25 .add 24 1,a 5 25]))
def RL:ICode := .seq (e [a 8 3,oI 9 .gtr 8 0,a 10 9,n 11 (.mov 0) 10 true,n 12 (.mov 3) 10 true,n 13 (.bin .sub 12 (ci 1)) 10 true,n 14 (.ixa 11 13 2) 10 true,n 15 (.ld 14 14 2 false) 10 true,n 16 (.call 79 [15]) 10 true,n 17 (.bin .eql 16 (ci 0)) 10 true,o1 18 (.pick 10 17 (cb false))] (.cond 18 .skip (.exit 0))) (.block 1 (rg [a 19 3,oI 20 .sub 19 1,a 3 20]))
def bI:IFunc:=⟨1,35,[.tmp 2],e [o1 2 (.nlo 2)] (e [a 6 0,o1 7 (.len 6),a 3 7] (.seq (.block 0 (.loop RL)) (e [o1 4 (.nlo 2)] (.seq (e [o1 5 (.mov (ci 0))] (.block 2 (.loop UE))) (e [o1 34 (.tra 4),o1 2 (.tra 34)] .ret)))))⟩
def A3g:List (Nat × Nat):=[]
theorem Agq:AU c A3g Tryz.f46 bI=true:=by kernel_rfl
def rL:IFunc:=⟨1,21,[.tmp 2],e [o1 2 (.nlo 2)] (e [o1 3 (.nlo 2)] (.seq (e [o1 4 (.mov (ci 0))] (.block 0 (.loop (.seq (e [a 5 4,a 6 0,o1 7 (.len 6),oB 8 .lss 5 7] (.cond 8 .skip (.exit 0))) (.seq (.block 1 (rg [o1 11 (.tra 3),a 12 0,a 13 4,oA 14 12 13 1,o1 15 (.ld 14 14 1 true),r 16 49 [15],o1 17 (.bls 1 [D false,H 0 []] [(0,2,.t 16)]),o1 18 (.apd true 11 17 2 1048576),o1 3 (.tra 18)])) (rg [a 9 4,oI 10 .add 9 1,a 4 10])))))) (e [o1 19 (.frz 3),o1 20 (.clo 46 [19]),o1 2 (.tra 20)] .ret)))⟩
def A3h:List (Nat × Nat):=[]
theorem Agr:AU c A3h Tryz.f47 rL=true:=by kernel_rfl
def rM:IFunc:=⟨1,19,[.cell 2 2 false],e [o1 2 (.new [D false,H 0 []] [])] (e [a 4 0,o1 5 (.cv .u64 4),a 3 5] (.seq (e [a 6 0,oI 7 .lss 6 0] (.cond 7 (rg [a 8 3,o1 9 (.un .neg 8),a 3 9]) .skip)) (e [a 10 0,oI 11 .lss 10 0,a 12 3,o1 13 (.cv .u32 12),a 14 3,o1 15 (.bin .shr 14 (.c (F U 32))),o1 16 (.cv .u32 15),o1 17 (.bls 2 [F Ac 0,F Ac 0] [(0,1,.t 13),(1,1,.t 16)]),r 18 98 [11,17],oS 2 2 2 18] .ret)))⟩
def A3i:List (Nat × Nat):=[]
theorem Ags:AU c A3i Tryz.f49 rM=true:=by kernel_rfl
def rN:IFunc:=⟨2,9,[.cell 4 3 false],e [o1 4 (.new [D false,H 0 [],F O 0] [])] (e [a 5 0,r 6 49 [5],a 7 1,o1 8 (.bld [D false,H 0 [],F O 0] [(0,2,.t 6),(2,1,.t 7)]),oS 4 4 3 8] .ret)⟩
def A3j:List (Nat × Nat):=[]
theorem Agt:AU c A3j Tryz.f50 rN=true:=by kernel_rfl
def bJ:ICode := .seq (e [a 22 5,o1 23 (.bin .gtr 22 (.c (F Ac 0)))] (.cond 23 .skip (.exit 0))) (.seq (.block 1 (rg [a 26 4,oI 27 .add 26 1,a 4 27])) (rg [a 24 5,o1 25 (.bin .shr 24 (.c (F U 1))),a 5 25]))
def XL:IFunc:=⟨1,29,[.tmp 2],e [o1 1 (.box 0 [6]),o1 2 (.mov (ci 0))] (e [o1 6 (.adr 1 1 1),o1 7 (.ld 6 1 1 true),r 8 99 [7],a 3 8] (.seq (e [a 9 3,o1 10 (.len 9),oI 11 .eql 10 0] (.cond 11 (e [o1 2 (.mov (ci 0))] .ret) .skip)) (e [a 12 3,o1 13 (.len 12),oI 14 .sub 13 1,o1 15 (.bin .mul (ci 32) 14),a 4 15] (.seq (e [a 16 3,a 17 3,o1 18 (.len 17),oI 19 .sub 18 1,oA 20 16 19 1,o1 21 (.ld 20 20 1 true),a 5 21] (.block 0 (.loop bJ))) (e [a 28 4,a 2 28] .ret)))))⟩
def A3k:List (Nat × Nat):=[(6,1)]
theorem Agu:AU c A3k Tryz.f51 XL=true:=by kernel_rfl
def bK:IFunc:=⟨1,12,[.tmp 2],e [o1 2 (.mov (cb false))] (e [a 6 0,o1 7 (.call 100 [6,.c (H 0 [])]),a 5 7,oE 8 5 0,oE 9 5 1,a 3 8,a 4 9] (e [a 10 4,oI 11 .eql 10 0,a 2 11] .ret))⟩
def A3l:List (Nat × Nat):=[]
theorem Agv:AU c A3l Tryz.f52 bK=true:=by kernel_rfl
def XM:ICode := .seq (e [a 7 3,oI 8 .geq 7 0,a 9 8,n 10 (.mov 0) 9 true,n 11 (.mov 3) 9 true,n 12 (.ixa 10 11 2) 9 true,n 13 (.ld 12 12 2 false) 9 true,n 14 (.call 101 [13]) 9 true,n 15 (.bin .eql 14 (ci 0)) 9 true,o1 16 (.pick 9 15 (cb false))] (.cond 16 .skip (.exit 0))) (.block 1 (rg [a 17 3,oI 18 .sub 17 1,a 3 18]))
def bL:IFunc:=⟨1,20,[.tmp 2],e [o1 2 (.mov (ci 0))] (e [a 4 0,o1 5 (.len 4),oI 6 .sub 5 1,a 3 6] (.seq (.block 0 (.loop XM)) (e [a 19 3,a 2 19] .ret)))⟩
def A3m:List (Nat × Nat):=[]
theorem Agw:AU c A3m Tryz.f53 bL=true:=by kernel_rfl
def UF:IFunc:=⟨1,17,[.tmp 2],e [o1 1 (.box 0 [3,7,12]),o1 2 (.mov (cb false))] (e [o1 3 (.adr 1 1 2),o1 4 (.ld 3 1 1 true),oI 5 .geq 4 0,a 6 5,n 7 (.adr 1 1 2) 6 true,n 8 (.ld 7 1 1 true) 6 true,n 9 (.bin .leq 8 (ci 64)) 6 true,o1 10 (.pick 6 9 (cb false)),a 11 10,n 12 (.adr 1 1 0) 11 true,n 13 (.ld 12 1 2 false) 11 true,n 14 (.call 102 [13]) 11 true,n 15 (.bin .leq 14 (ci 128)) 11 true,o1 16 (.pick 11 15 (cb false)),a 2 16] .ret)⟩
def A3n:List (Nat × Nat):=[(3,1),(7,1),(12,1)]
theorem Agx:AU c A3n Tryz.f54 UF=true:=by kernel_rfl
def bO:IFunc:=⟨2,26,[.tmp 4],e [o1 2 (.box 0 [6,11,14]),o1 3 (.box 1 [8,18,21]),o1 4 (.mov (ci 0))] (e [o1 6 (.adr 2 2 2),o1 7 (.ld 6 2 1 true),o1 8 (.adr 3 3 2),o1 9 (.ld 8 3 1 true),o1 10 (.mx [7,9]),a 5 10] (.seq (.region true [o1 11 (.adr 2 2 0),oL 12 11 2 2,a 13 5,o1 14 (.adr 2 2 2),o1 15 (.ld 14 2 1 true),oB 16 .sub 13 15,r 17 104 [12,16],o1 18 (.adr 3 3 0),oL 19 18 3 2,a 20 5,o1 21 (.adr 3 3 2),o1 22 (.ld 21 3 1 true),oB 23 .sub 20 22,r 24 104 [19,23],r 25 103 [17,24],a 4 25]) .ret))⟩
def A3o:List (Nat × Nat):=[(6,2),(8,3),(11,2),(14,2),(18,3),(21,3)]
theorem Agy:AU c A3o Tryz.f55 bO=true:=by kernel_rfl
def XN:IFunc:=⟨4,29,[.tmp 8,.tmp 9],e [o1 5 (.box 1 []),o1 6 (.box 2 []),o1 8 (.nlo 7),o1 9 (.mov (cb false))] (e [a 11 0,r 12 67 [11],a 10 12] (.seq (e [a 13 10,o1 14 (.len 13),oI 15 .lss 14 2] (.cond 15 (e [o1 8 (.nlo 7),o1 9 (.mov (cb true))] .ret) .skip)) (.seq (.region true [a 16 10,oL 17 5 5 3,oL 18 6 6 3,a 19 10,oL 20 5 5 3,r 21 68 [19,20],a 22 10,oL 23 6 6 3,r 24 68 [22,23],a 25 3,r 26 105 [16,17,18,21,24,25],oE 27 26 0,oE 28 26 1,o1 8 (.tra 27),a 9 28]) .ret)))⟩
def A3p:List (Nat × Nat):=[]
theorem Agz:AU c A3p Tryz.f56 XN=true:=by kernel_rfl
def bP:IFunc:=⟨1,13,[.cell 2 7 false],e [o1 1 (.box 0 [3,6,9]),o1 2 (.new [H 0 [],D false,H 0 [],F O 0,D false,H 0 [],F O 0] [])] (.seq (.region true [o1 3 (.adr 1 1 0),o1 4 (.ld 3 1 1 true),r 5 66 [4],o1 6 (.adr 1 1 1),oL 7 6 1 3,r 8 106 [7],o1 9 (.adr 1 1 4),oL 10 9 1 3,r 11 106 [10],o1 12 (.bld [H 0 [],D false,H 0 [],F O 0,D false,H 0 [],F O 0] [(0,1,.t 5),(1,3,.t 8),(4,3,.t 11)]),oS 2 2 7 12]) .ret)⟩
def A3q:List (Nat × Nat):=[(3,1),(6,1),(9,1)]
theorem Aha:AU c A3q Tryz.f57 bP=true:=by kernel_rfl
def QJ:ICode := .seq (e [a 11 4,a 12 3,o1 13 (.len 12),oB 14 .lss 11 13] (.cond 14 .skip (.exit 0))) (.seq (.block 1 (e [a 17 3,a 18 4,oA 19 17 18 2,oL 20 19 19 2,r 21 107 [20]] (.cond 21 (e [o1 2 (.mov (cb true))] .ret) .skip))) (rg [a 15 4,oI 16 .add 15 1,a 4 16]))
def UG:IFunc:=⟨1,22,[.tmp 2],e [o1 2 (.mov (cb false))] (e [a 5 0,r 6 46 [5],a 3 6] (.seq (e [a 7 3,o1 8 (.len 7),oI 9 .sub 8 1,oI 10 .gtr 9 16] (.cond 10 (e [o1 2 (.mov (cb true))] .ret) .skip)) (.seq (e [o1 4 (.mov (ci 0))] (.block 0 (.loop QJ))) (e [o1 2 (.mov (cb false))] .ret))))⟩
def A3r:List (Nat × Nat):=[]
theorem Ahb:AU c A3r Tryz.f58 UG=true:=by kernel_rfl
def UH:IFunc:=⟨1,17,[.tmp 2],e [o1 1 (.box 0 [3,7,12]),o1 2 (.mov (cb false))] (e [o1 3 (.adr 1 1 2),o1 4 (.ld 3 1 1 true),oI 5 .geq 4 0,a 6 5,n 7 (.adr 1 1 2) 6 true,n 8 (.ld 7 1 1 true) 6 true,n 9 (.bin .leq 8 (ci 4096)) 6 true,o1 10 (.pick 6 9 (cb false)),a 11 10,n 12 (.adr 1 1 0) 11 true,n 13 (.ld 12 1 2 false) 11 true,n 14 (.call 107 [13]) 11 true,n 15 (.un .not 14) 11 true,o1 16 (.pick 11 15 (cb false)),a 2 16] .ret)⟩
def A3s:List (Nat × Nat):=[(3,1),(7,1),(12,1)]
theorem Ahc:AU c A3s Tryz.f59 UH=true:=by kernel_rfl
def UI:IFunc:=⟨3,29,[.tmp 6],e [o1 4 (.box 1 []),o1 5 (.box 2 []),o1 6 (.nlo 7)] (e [a 8 0,r 9 108 [8],a 7 9] (.seq (e [a 10 7,o1 11 (.len 10),oI 12 .lss 11 2,a 13 12,n 14 (.ld 4 4 3 false) 13 false,n 15 (.ld 5 5 3 false) 13 false,n 16 (.call 33 [14,15]) 13 false,n 17 (.bin .geq 16 (ci 0)) 13 false,o1 18 (.pick 13 (cb true) 17)] (.cond 18 (e [o1 6 (.nlo 7)] .ret) .skip)) (.seq (.region true [a 19 7,oL 20 4 4 3,oL 21 5 5 3,a 22 7,oL 23 4 4 3,r 24 110 [22,23],a 25 7,oL 26 5 5 3,r 27 110 [25,26],o1 28 (.cao 109 7 (.c (H 0 [])) [19,20,21,24,27]),o1 6 (.tra 28)]) .ret)))⟩
def A3t:List (Nat × Nat):=[]
theorem Ahd:AU c A3t Tryz.f60 UI=true:=by kernel_rfl
def UJ:IFunc:=⟨1,17,[.tmp 2],e [o1 1 (.box 0 [3,7,12]),o1 2 (.mov (cb false))] (e [o1 3 (.adr 1 1 2),o1 4 (.ld 3 1 1 true),oI 5 .geq 4 0,a 6 5,n 7 (.adr 1 1 2) 6 true,n 8 (.ld 7 1 1 true) 6 true,n 9 (.bin .leq 8 (ci 1024)) 6 true,o1 10 (.pick 6 9 (cb false)),a 11 10,n 12 (.adr 1 1 0) 11 true,n 13 (.ld 12 1 2 false) 11 true,n 14 (.call 51 [13]) 11 true,n 15 (.bin .leq 14 (ci 1024)) 11 true,o1 16 (.pick 11 15 (cb false)),a 2 16] .ret)⟩
def A3u:List (Nat × Nat):=[(3,1),(7,1),(12,1)]
theorem Ahe:AU c A3u Tryz.f61 UJ=true:=by kernel_rfl
def bQ:IFunc:=⟨2,13,[.tmp 4],e [o1 3 (.box 1 [6,8]),o1 4 (.mov (cb false))] (e [a 5 0,o1 6 (.adr 3 3 0),oL 7 6 3 2,o1 8 (.adr 3 3 2),o1 9 (.ld 8 3 1 true),r 10 80 [5,7,9],r 11 79 [10],oI 12 .eql 11 0,a 4 12] .ret)⟩
def A3v:List (Nat × Nat):=[(6,3),(8,3)]
theorem Ahf:AU c A3v Tryz.f62 bQ=true:=by kernel_rfl
def bT:IFunc:=⟨3,17,[.tmp 6],e [o1 4 (.box 1 []),o1 5 (.box 2 []),o1 6 (.mov (ci 0))] (e [a 8 0,r 9 108 [8],a 7 9] (.seq (.region true [a 10 7,oL 11 4 4 3,r 12 110 [10,11],a 13 7,oL 14 5 5 3,r 15 110 [13,14],oB 16 .sub 12 15,a 6 16]) .ret))⟩
def A3w:List (Nat × Nat):=[]
theorem Ahg:AU c A3w Tryz.f63 bT=true:=by kernel_rfl
def UK:IFunc:=⟨1,17,[.tmp 2],e [o1 1 (.box 0 [3,7,12]),o1 2 (.mov (cb false))] (e [o1 3 (.adr 1 1 2),o1 4 (.ld 3 1 1 true),oI 5 .geq 4 0,a 6 5,n 7 (.adr 1 1 2) 6 true,n 8 (.ld 7 1 1 true) 6 true,n 9 (.bin .leq 8 (ci 1024)) 6 true,o1 10 (.pick 6 9 (cb false)),a 11 10,n 12 (.adr 1 1 0) 11 true,n 13 (.ld 12 1 2 false) 11 true,n 14 (.call 102 [13]) 11 true,n 15 (.bin .leq 14 (ci 1024)) 11 true,o1 16 (.pick 11 15 (cb false)),a 2 16] .ret)⟩
def A3x:List (Nat × Nat):=[(3,1),(7,1),(12,1)]
theorem Ahh:AU c A3x Tryz.f64 UK=true:=by kernel_rfl
def bU:ICode := .seq (e [a 11 6,oI 12 .geq 11 0] (.cond 12 .skip (.exit 0))) (.seq (.block 1 (.region true [oL 19 5 5 2,o1 20 (.adr 3 3 0),oL 21 20 3 2,r 22 112 [19,21],a 23 0,a 24 6,oA 25 23 24 2,oL 26 25 25 2,a 27 7,r 28 104 [26,27],r 29 111 [22,28],oS 5 5 2 29])) (.region true [a 13 6,oI 14 .sub 13 1,a 15 7,o1 16 (.adr 3 3 2),o1 17 (.ld 16 3 1 true),oB 18 .add 15 17,a 6 14,a 7 18]))
def bV:IFunc:=⟨2,32,[.tmp 4],e [o1 3 (.box 1 [20,16]),o1 4 (.mov (ci 0))] (e [o1 5 (.new [D false,H 0 []] [])] (.seq (e [a 8 0,o1 9 (.len 8),oI 10 .sub 9 1,a 6 10,o1 7 (.mov (ci 0))] (.block 0 (.loop bU))) (e [oL 30 5 5 2,r 31 101 [30],a 4 31] .ret)))⟩
def A3y:List (Nat × Nat):=[(20,3),(16,3)]
theorem Ahi:AU c A3y Tryz.f65 bV=true:=by kernel_rfl
def bW:ICode:=e [oB 16 .lss 15 14] (.seq (.cond 16 .skip (.exit 0)) (.seq (.block 1 (e [a 17 15,a 5 17] (rg [o1 18 (.cpy 4),a 19 5,a 20 0,a 21 5,oA 22 20 21 2,oL 23 22 22 2,r 24 113 [23],o1 25 (.ixo 18 4 19 2),oS 25 4 2 24]))) (rg [oI 26 .add 15 1,a 15 26])))
def bX:IFunc:=⟨1,28,[.tmp 2],e [o1 2 (.nlo 2)] (e [a 6 0,r 7 53 [6],oI 8 .add 7 1,a 3 8] (.seq (e [a 9 3,oI 10 .eql 9 0] (.cond 10 (e [o1 2 (.nlo 2)] .ret) .skip)) (e [a 11 3,o1 12 (.mks [D false,H 0 []] 11),⟨some 4,.tra 12,none,[13,18,25]⟩] (.seq (e [o1 13 (.cpy 4),o1 14 (.lno 13 4),o1 15 (.mov (ci 0))] (.block 0 (.loop bW))) (e [o1 27 (.tra 4),o1 2 (.tra 27)] .ret)))))⟩
def A3z:List (Nat × Nat):=[(13,4),(18,4),(25,4)]
theorem Ahj:AU c A3z Tryz.f66 bX=true:=by kernel_rfl
def XO:ICode := .seq (e [a 16 5,o1 17 (.len 16),oI 18 .gtr 17 0] (.cond 18 .skip (.exit 0))) (.block 1 (e [o1 19 (.tra 4),a 20 5,o1 21 (.bls 1 [H 0 []] [(0,1,.t 20)]),o1 22 (.apd true 19 21 1 1048576),o1 4 (.tra 22)] (rg [a 23 5,a 24 3,a 25 5,r 26 118 [24,25],r 27 117 [26],a 3 23,a 5 27])))
def Tb:IFunc:=⟨1,29,[.tmp 2],e [o1 2 (.nlo 1)] (e [a 6 0,r 7 114 [6],a 3 7] (.seq (e [a 8 3,o1 9 (.len 8),oI 10 .eql 9 0] (.cond 10 (e [o1 2 (.nlo 1)] .ret) .skip)) (e [a 11 3,o1 12 (.blo 1 1 [H 0 []] [(0,1,.t 11)]),o1 4 (.tra 12)] (e [a 13 3,r 14 116 [13],r 15 115 [14],a 5 15] (.seq (.block 0 (.loop XO)) (e [o1 28 (.tra 4),o1 2 (.tra 28)] .ret))))))⟩
def A4a:List (Nat × Nat):=[]
theorem Ahk:AU c A4a Tryz.f67 Tb=true:=by kernel_rfl
def Tc:ICode:=e [oB 13 .lss 12 11] (.seq (.cond 13 .skip (.exit 0)) (.seq (.block 1 (e [oA 14 10 12 1,o1 15 (.ld 14 14 1 true),a 8 15] (e [a 16 8,oL 17 3 3 3,r 18 65 [16,17],a 9 18] (.seq (e [a 19 9,oI 20 .neq 19 0,a 21 20,n 22 (.mov 6) 21 true,n 23 (.bin .neq 22 (ci 0)) 21 true,o1 24 (.pick 21 23 (cb false)),a 25 24,n 26 (.mov 9) 25 true,n 27 (.mov 6) 25 true,n 28 (.bin .neq 26 27) 25 true,o1 29 (.pick 25 28 (cb false))] (.cond 29 (rg [a 30 5,oI 31 .add 30 1,a 5 31]) .skip)) (e [a 32 9,oI 33 .neq 32 0] (.cond 33 (rg [a 34 9,a 6 34]) .skip)))))) (rg [oI 35 .add 12 1,a 12 35])))
def bY:IFunc:=⟨2,37,[.tmp 4],e [o1 3 (.box 1 []),o1 4 (.mov (ci 0))] (e [o1 5 (.mov (ci 0)),o1 6 (.mov (ci 0))] (.seq (e [a 10 0,o1 11 (.len 10),o1 12 (.mov (ci 0))] (.block 0 (.loop Tc))) (e [a 36 5,a 4 36] .ret)))⟩
def A4b:List (Nat × Nat):=[]
theorem Ahl:AU c A4b Tryz.f68 bY=true:=by kernel_rfl
def XP:IFunc:=⟨2,25,[.tmp 4],e [o1 2 (.box 0 [8,10,15,19,21]),o1 4 (.mov (cb false))] (.seq (e [a 5 1,o1 6 (.len 5),oI 7 .lss 6 2] (.cond 7 (e [o1 4 (.mov (cb false))] .ret) .skip)) (.seq (e [o1 8 (.adr 2 2 1),oL 9 8 2 3,o1 10 (.adr 2 2 4),oL 11 10 2 3,r 12 33 [9,11],oI 13 .eql 12 0] (.cond 13 (e [a 14 1,o1 15 (.adr 2 2 1),oL 16 15 2 3,r 17 62 [14,16],a 4 17] .ret) .skip)) (e [a 18 1,o1 19 (.adr 2 2 1),oL 20 19 2 3,o1 21 (.adr 2 2 4),oL 22 21 2 3,r 23 63 [18,20,22],oI 24 .eql 23 1,a 4 24] .ret)))⟩
def A4c:List (Nat × Nat):=[(8,2),(10,2),(15,2),(19,2),(21,2)]
theorem Ahm:AU c A4c Tryz.f69 XP=true:=by kernel_rfl
def PH:ICode := .seq (e [a 12 6,o1 13 (.len 12),oI 14 .gtr 13 0] (.cond 14 .skip (.exit 0))) (.block 1 (e [a 15 5,a 16 6,r 17 119 [15,16],a 7 17] (rg [a 18 6,a 19 7,a 5 18,a 6 19])))
def XQ:IFunc:=⟨2,22,[.tmp 4],e [o1 4 (.nlo 2)] (e [a 8 0,r 9 86 [8],a 10 1,r 11 86 [10],a 5 9,a 6 11] (.seq (.block 0 (.loop PH)) (e [a 20 5,o1 21 (.clo 120 [20]),o1 4 (.tra 21)] .ret)))⟩
def A4d:List (Nat × Nat):=[]
theorem Ahn:AU c A4d Tryz.f70 XQ=true:=by kernel_rfl
def XR:IFunc:=⟨2,19,[.tmp 4],e [o1 2 (.box 0 [5,14]),o1 3 (.box 1 [7,12]),o1 4 (.mov (cb false))] (e [o1 5 (.adr 2 2 4),oL 6 5 2 3,o1 7 (.adr 3 3 1),oL 8 7 3 3,r 9 33 [6,8],oI 10 .leq 9 0,a 11 10,n 12 (.adr 3 3 4) 11 false,n 13 (.ld 12 3 3 false) 11 false,n 14 (.adr 2 2 1) 11 false,n 15 (.ld 14 2 3 false) 11 false,n 16 (.call 33 [13,15]) 11 false,n 17 (.bin .leq 16 (ci 0)) 11 false,o1 18 (.pick 11 (cb true) 17),a 4 18] .ret)⟩
def A4e:List (Nat × Nat):=[(5,2),(7,3),(12,3),(14,2)]
theorem Aho:AU c A4e Tryz.f71 XR=true:=by kernel_rfl
def UL:IFunc:=⟨1,32,[.cell 2 7 false],e [o1 1 (.box 0 [4,6,11,13,20,22,26,29]),o1 2 (.new [H 0 [],D false,H 0 [],F O 0,D false,H 0 [],F O 0] [])] (.seq (e [o1 4 (.adr 1 1 1),oL 5 4 1 3,o1 6 (.adr 1 1 4),oL 7 6 1 3,r 8 33 [5,7],oI 9 .eql 8 0] (.cond 9 (e [oL 10 1 1 7,oS 2 2 7 10] .ret) .skip)) (e [o1 11 (.adr 1 1 1),oL 12 11 1 3,o1 13 (.adr 1 1 4),oL 14 13 1 3,r 15 121 [12,14],o1 3 (.new [D false,H 0 [],F O 0] []),oS 3 3 3 15] (.seq (e [oL 16 1 1 7,oL 17 3 3 3,r 18 27 [16,17],oI 19 .leq 18 0] (.cond 19 (e [o1 20 (.adr 1 1 0),o1 21 (.ld 20 1 1 true),o1 22 (.adr 1 1 1),oL 23 22 1 3,oL 24 3 3 3,o1 25 (.bld [H 0 [],D false,H 0 [],F O 0,D false,H 0 [],F O 0] [(0,1,.t 21),(1,3,.t 23),(4,3,.t 24)]),oS 2 2 7 25] .ret) .skip)) (e [o1 26 (.adr 1 1 0),o1 27 (.ld 26 1 1 true),oL 28 3 3 3,o1 29 (.adr 1 1 4),oL 30 29 1 3,o1 31 (.bld [H 0 [],D false,H 0 [],F O 0,D false,H 0 [],F O 0] [(0,1,.t 27),(1,3,.t 28),(4,3,.t 30)]),oS 2 2 7 31] .ret))))⟩
def A4f:List (Nat × Nat):=[(4,1),(6,1),(11,1),(13,1),(20,1),(22,1),(26,1),(29,1)]
theorem Ahp:AU c A4f Tryz.f72 UL=true:=by kernel_rfl
def Pu:IFunc:=⟨1,19,[.tmp 2],e [o1 2 (.nlo 2)] (e [a 5 0,r 6 86 [5],r 7 120 [6],a 3 7] (.seq (e [a 8 3,o1 9 (.len 8),oI 10 .leq 9 1] (.cond 10 (e [a 11 3,o1 2 (.tra 11)] .ret) .skip)) (e [a 12 3,a 13 3,r 14 122 [13],r 15 70 [12,14],a 4 15] (e [a 16 3,a 17 4,o1 18 (.clo 123 [16,17]),o1 2 (.tra 18)] .ret))))⟩
def A4g:List (Nat × Nat):=[]
theorem Ahq:AU c A4g Tryz.f73 Pu=true:=by kernel_rfl
def rO:IFunc:=⟨2,36,[.tmp 4],e [o1 2 (.box 0 [5,13,20,28]),o1 3 (.box 1 [7,11,22,26]),o1 4 (.mov (ci 0))] (.seq (e [o1 5 (.adr 2 2 4),oL 6 5 2 3,o1 7 (.adr 3 3 1),oL 8 7 3 3,r 9 55 [6,8],oI 10 .lss 9 0] (.cond 10 (e [o1 4 (.mov (ci (-1)))] .ret) .skip)) (.seq (e [o1 11 (.adr 3 3 4),oL 12 11 3 3,o1 13 (.adr 2 2 1),oL 14 13 2 3,r 15 55 [12,14],oI 16 .lss 15 0] (.cond 16 (e [o1 4 (.mov (ci 1))] .ret) .skip)) (.seq (e [oL 17 2 2 7,oL 18 3 3 7,r 19 124 [17,18]] (.cond 19 (e [o1 4 (.mov (ci 0))] .ret) .skip)) (.block 0 (.loop (.block 1 (.seq (e [o1 20 (.adr 2 2 4),oL 21 20 2 3,o1 22 (.adr 3 3 1),oL 23 22 3 3,r 24 55 [21,23],oI 25 .leq 24 0] (.cond 25 (e [o1 4 (.mov (ci (-1)))] .ret) .skip)) (.seq (e [o1 26 (.adr 3 3 4),oL 27 26 3 3,o1 28 (.adr 2 2 1),oL 29 28 2 3,r 30 55 [27,29],oI 31 .leq 30 0] (.cond 31 (e [o1 4 (.mov (ci 1))] .ret) .skip)) (.region true [oL 32 2 2 7,r 33 82 [32],oL 34 3 3 7,r 35 82 [34],oS 2 2 7 33,oS 3 3 7 35])))))))))⟩
def A4h:List (Nat × Nat):=[(5,2),(7,3),(11,3),(13,2),(20,2),(22,3),(26,3),(28,2)]
theorem Ahr:AU c A4h Tryz.f74 rO=true:=by kernel_rfl
def rP:IFunc:=⟨1,11,[.cell 2 7 false],e [o1 1 (.box 0 [3,6,8]),o1 2 (.new [H 0 [],D false,H 0 [],F O 0,D false,H 0 [],F O 0] [])] (.seq (.region true [o1 3 (.adr 1 1 0),o1 4 (.ld 3 1 1 true),r 5 114 [4],o1 6 (.adr 1 1 1),oL 7 6 1 3,o1 8 (.adr 1 1 4),oL 9 8 1 3,o1 10 (.bld [H 0 [],D false,H 0 [],F O 0,D false,H 0 [],F O 0] [(0,1,.t 5),(1,3,.t 7),(4,3,.t 9)]),oS 2 2 7 10]) .ret)⟩
def A4i:List (Nat × Nat):=[(3,1),(6,1),(8,1)]
theorem Ahs:AU c A4i Tryz.f75 rP=true:=by kernel_rfl
def rQ:IFunc:=⟨2,45,[.tmp 4],e [o1 2 (.box 0 [10,15,20,25,27,34]),o1 3 (.box 1 []),o1 4 (.mov (ci 0))] (.seq (e [oL 8 2 2 7,r 9 125 [8]] (.cond 9 (e [o1 10 (.adr 2 2 1),oL 11 10 2 3,oL 12 3 3 3,r 13 55 [11,12],a 4 13] .ret) .skip)) (.seq (e [oL 14 3 3 3,o1 15 (.adr 2 2 1),oL 16 15 2 3,r 17 55 [14,16],oI 18 .leq 17 0] (.cond 18 (e [o1 4 (.mov (ci 1))] .ret) .skip)) (e [oL 19 3 3 3,o1 20 (.adr 2 2 4),oL 21 20 2 3,r 22 55 [19,21],a 5 22] (.seq (e [a 23 5,oI 24 .gtr 23 0] (.cond 24 (e [o1 4 (.mov (ci (-1)))] .ret) .skip)) (e [o1 25 (.adr 2 2 0),o1 26 (.ld 25 2 1 true),o1 27 (.adr 2 2 4),oL 28 27 2 3,r 29 65 [26,28],a 6 29] (.seq (e [a 30 5,oI 31 .eql 30 0] (.cond 31 (.seq (e [a 32 6,oI 33 .eql 32 0] (.cond 33 (e [o1 4 (.mov (ci 0))] .ret) .skip)) (e [o1 4 (.mov (ci (-1)))] .ret)) .skip)) (e [o1 34 (.adr 2 2 0),o1 35 (.ld 34 2 1 true),oL 36 3 3 3,r 37 65 [35,36],a 7 37] (.seq (.block 0 (e [a 39 7,oI 40 .eql 39 0,a 38 40] (.cond 38 (e [o1 4 (.mov (ci 0))] .ret) (e [a 42 7,a 43 6,oB 44 .eql 42 43,a 41 44] (.cond 41 (e [o1 4 (.mov (ci (-1)))] .ret) .skip))))) (e [o1 4 (.mov (ci 1))] .ret)))))))))⟩
def A4j:List (Nat × Nat):=[(10,2),(15,2),(20,2),(25,2),(27,2),(34,2)]
theorem Aht:AU c A4j Tryz.f76 rQ=true:=by kernel_rfl
def rR:IFunc:=⟨2,36,[.cell 4 2 false],e [o1 2 (.box 0 [8,12]),o1 4 (.new [D false,H 0 []] [])] (.block 0 (.loop (.block 1 (.seq (.region true [o1 8 (.adr 2 2 1),oL 9 8 2 3,a 10 1,r 11 126 [9,10],o1 12 (.adr 2 2 4),oL 13 12 2 3,a 14 1,r 15 126 [13,14],o1 5 (.new [D false,H 0 []] []),o1 6 (.new [D false,H 0 []] []),oS 5 5 2 11,oS 6 6 2 15]) (e [oL 16 6 6 2,oL 17 5 5 2,r 18 127 [16,17],o1 7 (.new [D false,H 0 []] []),oS 7 7 2 18] (.seq (e [oL 19 7 7 2,r 20 101 [19],oI 21 .eql 20 0] (.cond 21 (e [oL 22 5 5 2,oS 4 4 2 22] .ret) .skip)) (.seq (e [oL 23 7 7 2,r 24 102 [23],oI 25 .eql 24 1] (.cond 25 (.seq (e [oL 26 2 2 7,oL 27 6 6 2,a 28 1,o1 29 (.bld [D false,H 0 [],F O 0] [(0,2,.t 27),(2,1,.t 28)]),r 30 76 [26,29],oI 31 .geq 30 0] (.cond 31 (e [oL 32 6 6 2,oS 4 4 2 32] .ret) .skip)) (e [oL 33 5 5 2,oS 4 4 2 33] .ret)) .skip)) (rg [oL 34 2 2 7,r 35 82 [34],oS 2 2 7 35]))))))))⟩
def A4k:List (Nat × Nat):=[(8,2),(12,2)]
theorem Ahu:AU c A4k Tryz.f77 rR=true:=by kernel_rfl
def UM:IFunc:=⟨1,12,[.tmp 2],e [o1 1 (.box 0 [4,10]),o1 2 (.mov (ci 0))] (.seq (.block 0 (e [o1 4 (.adr 1 1 1),o1 5 (.ld 4 1 1 true),r 6 99 [5],o1 7 (.len 6),oI 8 .eql 7 0,a 3 8] (.cond 3 (e [o1 2 (.mov (ci 0))] .ret) (e [o1 10 (.adr 1 1 0),o1 11 (.ld 10 1 1 true),a 9 11] (.cond 9 (e [o1 2 (.mov (ci (-1)))] .ret) .skip))))) (e [o1 2 (.mov (ci 1))] .ret))⟩
def A4l:List (Nat × Nat):=[(4,1),(10,1)]
theorem Ahv:AU c A4l Tryz.f79 UM=true:=by kernel_rfl
def bZ:ICode := .seq (e [a 16 9,oI 17 .geq 16 0] (.cond 17 .skip (.exit 0))) (.seq (.block 1 (.region true [oL 20 8 8 2,oL 21 4 4 2,r 22 96 [20,21],a 23 7,a 24 9,oA 25 23 24 2,oL 26 25 25 2,a 27 2,a 28 7,o1 29 (.len 28),oI 30 .sub 29 1,a 31 9,oB 32 .sub 30 31,oB 33 .mul 27 32,r 34 84 [26,33],r 35 95 [22,34],oS 8 8 2 35])) (rg [a 18 9,oI 19 .sub 18 1,a 9 19]))
def cA:IFunc:=⟨3,37,[.cell 6 2 false],e [o1 4 (.box 1 []),o1 6 (.new [D false,H 0 []] [])] (e [a 10 0,r 11 46 [10],a 7 11] (e [o1 12 (.bld [D false,H 0 []] []),o1 8 (.new [D false,H 0 []] []),oS 8 8 2 12] (.seq (e [a 13 7,o1 14 (.len 13),oI 15 .sub 14 1,a 9 15] (.block 0 (.loop bZ))) (e [oL 36 8 8 2,oS 6 6 2 36] .ret))))⟩
def A4m:List (Nat × Nat):=[]
theorem Ahw:AU c A4m Tryz.f80 cA=true:=by kernel_rfl
def rS:IFunc:=⟨1,21,[.cell 2 7 false],e [o1 1 (.box 0 [7,9,17,19]),o1 2 (.new [H 0 [],D false,H 0 [],F O 0,D false,H 0 [],F O 0] [])] (.seq (e [oL 4 1 1 7,r 5 125 [4]] (.cond 5 (e [oL 6 1 1 7,oS 2 2 7 6] .ret) .skip)) (e [o1 7 (.adr 1 1 1),oL 8 7 1 3,o1 9 (.adr 1 1 4),oL 10 9 1 3,r 11 133 [8,10],o1 3 (.new [D false,H 0 [],F O 0] []),oS 3 3 3 11] (.seq (e [oL 12 1 1 7,oL 13 3 3 3,r 14 76 [12,13],oI 15 .leq 14 0] (.cond 15 (rg [oL 16 3 3 3,o1 17 (.adr 1 1 4),oS 17 1 3 16]) (rg [oL 18 3 3 3,o1 19 (.adr 1 1 1),oS 19 1 3 18]))) (e [oL 20 1 1 7,oS 2 2 7 20] .ret))))⟩
def A4n:List (Nat × Nat):=[(7,1),(9,1),(17,1),(19,1)]
theorem Ahx:AU c A4n Tryz.f82 rS=true:=by kernel_rfl
def Td:IFunc:=⟨2,32,[.tmp 4],e [o1 2 (.box 0 [20]),o1 3 (.box 1 [23]),o1 4 (.mov (ci 0))] (.seq (.region true [oL 8 2 2 2,r 9 79 [8],oL 10 3 3 2,r 11 79 [10],a 5 9,a 6 11]) (.seq (.block 0 (e [a 13 5,a 14 6,oB 15 .lss 13 14,a 12 15] (.cond 12 (e [o1 4 (.mov (ci (-1)))] .ret) (e [a 17 5,a 18 6,oB 19 .gtr 17 18,a 16 19] (.cond 16 (e [o1 4 (.mov (ci 1))] .ret) .skip))))) (.seq (.region true [o1 20 (.adr 2 2 1),o1 21 (.ld 20 2 1 true),r 22 99 [21],o1 23 (.adr 3 3 1),o1 24 (.ld 23 3 1 true),r 25 99 [24],r 26 134 [22,25],a 7 26]) (.seq (e [a 27 5,oI 28 .lss 27 0] (.cond 28 (e [a 29 7,o1 30 (.un .neg 29),a 4 30] .ret) .skip)) (e [a 31 7,a 4 31] .ret)))))⟩
def A4o:List (Nat × Nat):=[(20,2),(23,3)]
theorem Ahy:AU c A4o Tryz.f83 Td=true:=by kernel_rfl
def cB:ICode := .seq (e [a 20 9,a 21 8,o1 22 (.len 21),oB 23 .lss 20 22] (.cond 23 .skip (.exit 0))) (.seq (.block 1 (e [a 26 8,a 27 9,oA 28 26 27 1,o1 29 (.ld 28 28 1 true),o1 30 (.cv .u64 29),a 31 7,oB 32 .shl 30 31,a 33 6,o1 34 (.cv .u64 33),oB 35 .or 32 34,a 10 35] (e [o1 36 (.tra 5),a 37 10,o1 38 (.cv .u32 37),o1 39 (.bls 1 [F Ac 0] [(0,1,.t 38)]),o1 40 (.apd true 36 39 1 35184372088832),o1 5 (.tra 40)] (rg [a 41 10,o1 42 (.bin .shr 41 (.c (F U 32))),o1 43 (.cv .u32 42),a 6 43])))) (rg [a 24 9,oI 25 .add 24 1,a 9 25]))
def cC:IFunc:=⟨2,51,[.cell 4 2 false],e [o1 2 (.box 0 [17,44]),o1 4 (.new [D false,H 0 []] [])] (e [a 11 1,oI 12 .quo 11 32,o1 13 (.mks [F Ac 0] 12),o1 5 (.tra 13)] (e [o1 6 (.mov (.c (F Ac 0)))] (e [a 14 1,oI 15 .rem 14 32,o1 16 (.cv .u64 15),a 7 16] (e [o1 17 (.adr 2 2 1),o1 18 (.ld 17 2 1 true),r 19 99 [18],a 8 19] (.seq (e [o1 9 (.mov (ci 0))] (.block 0 (.loop cB))) (.seq (.region true [o1 44 (.adr 2 2 0),o1 45 (.ld 44 2 1 true),o1 46 (.tra 5),a 47 6,o1 48 (.bls 1 [F Ac 0] [(0,1,.t 47)]),o1 49 (.apd false 46 48 1 35184372088832),o1 50 (.cln 98 [45,49] [4]),oN (.stl 4 50)]) .ret))))))⟩
def A4p:List (Nat × Nat):=[(4,50),(17,2),(44,2)]
theorem Ahz:AU c A4p Tryz.f84 cC=true:=by kernel_rfl
def cD:ICode := .seq (e [a 13 5,a 14 0,o1 15 (.len 14),oB 16 .lss 13 15] (.cond 16 .skip (.exit 0))) (.seq (.block 1 (.seq (.region true [a 20 0,a 21 5,oA 22 20 21 2,oL 23 22 22 2,oL 24 3 3 2,r 25 138 [23,24],a 19 25,oE 26 19 0,oE 27 19 1,o1 6 (.new [D false,H 0 []] []),o1 7 (.new [D false,H 0 []] []),oS 6 6 2 26,oS 7 7 2 27]) (rg [o1 28 (.tra 4),oL 29 6 6 2,o1 30 (.bls 1 [D false,H 0 []] [(0,2,.t 29)]),o1 31 (.apd true 28 30 2 1048576),o1 4 (.tra 31)]))) (rg [a 17 5,oI 18 .add 17 1,a 5 18]))
def XT:IFunc:=⟨1,34,[.tmp 2],e [o1 2 (.nlo 2)] (e [a 8 0,r 9 137 [8],o1 3 (.new [D false,H 0 []] []),oS 3 3 2 9] (.seq (e [oL 10 3 3 2,r 11 79 [10],oI 12 .eql 11 0] (.cond 12 (e [o1 2 (.nlo 2)] .ret) .skip)) (e [o1 4 (.nlo 2)] (.seq (e [o1 5 (.mov (ci 0))] (.block 0 (.loop cD))) (e [o1 32 (.frz 4),o1 33 (.clo 46 [32]),o1 2 (.tra 33)] .ret)))))⟩
def A4q:List (Nat × Nat):=[]
theorem Aia:AU c A4q Tryz.f86 XT=true:=by kernel_rfl
def UN:IFunc:=⟨2,42,[.cell 4 2 false],e [o1 2 (.box 0 [7,14,19,30]),o1 3 (.box 1 [10,16,36]),o1 4 (.new [D false,H 0 []] [])] (.seq (.region true [o1 7 (.adr 2 2 1),o1 8 (.ld 7 2 1 true),r 9 99 [8],o1 10 (.adr 3 3 1),o1 11 (.ld 10 3 1 true),r 12 99 [11],a 5 9,a 6 12]) (.seq (.block 0 (e [o1 14 (.adr 2 2 0),o1 15 (.ld 14 2 1 true),o1 16 (.adr 3 3 0),o1 17 (.ld 16 3 1 true),o1 18 (.eqb false 15 17),a 13 18] (.cond 13 (.seq (.region true [o1 19 (.adr 2 2 0),o1 20 (.ld 19 2 1 true),a 21 5,a 22 6,r 23 144 [21,22],r 24 98 [20,23],oS 4 4 2 24]) .ret) (e [a 26 5,a 27 6,r 28 134 [26,27],oI 29 .geq 28 0,a 25 29] (.cond 25 (.seq (.region true [o1 30 (.adr 2 2 0),o1 31 (.ld 30 2 1 true),a 32 5,a 33 6,r 34 145 [32,33],r 35 98 [31,34],oS 4 4 2 35]) .ret) .skip))))) (.seq (.region true [o1 36 (.adr 3 3 0),o1 37 (.ld 36 3 1 true),a 38 6,a 39 5,r 40 145 [38,39],r 41 98 [37,40],oS 4 4 2 41]) .ret)))⟩
def A4r:List (Nat × Nat):=[(7,2),(10,3),(14,2),(16,3),(19,2),(30,2),(36,3)]
theorem Aib:AU c A4r Tryz.f95 UN=true:=by kernel_rfl
def cE:IFunc:=⟨2,18,[.cell 4 2 false],e [o1 2 (.box 0 [5,10]),o1 3 (.box 1 [7,13]),o1 4 (.new [D false,H 0 []] [])] (.seq (.region true [o1 5 (.adr 2 2 0),o1 6 (.ld 5 2 1 true),o1 7 (.adr 3 3 0),o1 8 (.ld 7 3 1 true),o1 9 (.eqb true 6 8),o1 10 (.adr 2 2 1),o1 11 (.ld 10 2 1 true),r 12 99 [11],o1 13 (.adr 3 3 1),o1 14 (.ld 13 3 1 true),r 15 99 [14],r 16 146 [12,15],r 17 98 [9,16],oS 4 4 2 17]) .ret)⟩
def A4s:List (Nat × Nat):=[(5,2),(7,3),(10,2),(13,3)]
theorem Aic:AU c A4s Tryz.f96 cE=true:=by kernel_rfl
def cF:IFunc:=⟨1,8,[.cell 2 2 false],e [o1 1 (.box 0 [3,5]),o1 2 (.new [D false,H 0 []] [])] (e [o1 3 (.adr 1 1 0),o1 4 (.ld 3 1 1 true),o1 5 (.adr 1 1 1),o1 6 (.ld 5 1 1 true),r 7 98 [4,6],oS 2 2 2 7] .ret)⟩
def A4t:List (Nat × Nat):=[(3,1),(5,1)]
theorem Aid:AU c A4t Tryz.f97 cF=true:=by kernel_rfl
def rT:IFunc:=⟨2,16,[.cell 4 2 false],e [o1 4 (.new [D false,H 0 []] [])] (e [a 6 1,o1 7 (.clo 99 [6]),⟨some 5,.tra 7,none,[10]⟩] (e [a 8 0,a 9 8,n 10 (.cpy 5) 9 true,n 11 (.lno 10 5) 9 true,n 12 (.bin .gtr 11 (ci 0)) 9 true,o1 13 (.pick 9 12 (cb false)),o1 14 (.tra 5),o1 15 (.bdo 13 14 [4]),oN (.stl 4 15)] .ret))⟩
def A4u:List (Nat × Nat):=[(4,15),(10,5)]
theorem Aie:AU c A4u Tryz.f98 rT=true:=by kernel_rfl
def cG:ICode := .seq (e [a 6 3,oI 7 .gtr 6 0,a 8 7,n 9 (.mov 0) 8 true,n 10 (.mov 3) 8 true,n 11 (.bin .sub 10 (ci 1)) 8 true,n 12 (.ixa 9 11 1) 8 true,n 13 (.ld 12 12 1 true) 8 true,n 14 (.bin .eql 13 (.c (F Ac 0))) 8 true,o1 15 (.pick 8 14 (cb false))] (.cond 15 .skip (.exit 0))) (.block 1 (rg [a 16 3,oI 17 .sub 16 1,a 3 17]))
def cH:IFunc:=⟨1,22,[.tmp 2],e [o1 2 (.nlo 1)] (e [a 4 0,o1 5 (.len 4),a 3 5] (.seq (.block 0 (.loop cG)) (e [a 18 0,a 19 3,o1 20 (.sli 18 none (some 19) none 1),o1 21 (.apd true (.c (.nil)) 20 1 35184372088832),o1 2 (.tra 21)] .ret)))⟩
def A4v:List (Nat × Nat):=[]
theorem Aif:AU c A4v Tryz.f99 cH=true:=by kernel_rfl
def RM:IFunc:=⟨2,16,[.tmp 4,.tmp 5],e [o1 4 (.nlo 2),o1 5 (.mov (ci 0))] (.seq (e [a 6 0,a 7 1,o1 8 (.bls 2 [H 0 [],H 0 []] [(0,1,.t 6),(1,1,.t 7)]),r 9 147 [8]] (.cond 9 (e [o1 4 (.nlo 2),o1 5 (.mov (ci 2))] .ret) .skip)) (e [a 10 0,a 11 1,r 12 149 [10,11],r 13 148 [12],oE 14 13 0,oE 15 13 1,o1 4 (.tra 14),a 5 15] .ret))⟩
def Aig:List (Nat × Nat):=[]
theorem tX:AU c Aig Tryz.f100 RM=true:=by kernel_rfl
def Zd:IFunc:=⟨1,16,[.tmp 2],e [o1 1 (.box 0 []),o1 2 (.mov (ci 0))] (e [oL 6 1 1 2,r 7 143 [6],a 5 7,oE 8 5 0,oE 9 5 1,a 3 8,a 4 9] (.seq (.block 0 (e [a 11 4,o1 12 (.len 11),oI 13 .eql 12 0,a 10 13] (.cond 10 (e [o1 2 (.mov (ci 0))] .ret) (e [a 15 3,a 14 15] (.cond 14 (e [o1 2 (.mov (ci (-1)))] .ret) .skip))))) (e [o1 2 (.mov (ci 1))] .ret)))⟩
def Aih:List (Nat × Nat):=[]
theorem tY:AU c Aih Tryz.f101 Zd=true:=by kernel_rfl
def RN:IFunc:=⟨1,25,[.tmp 2],e [o1 1 (.box 0 []),o1 2 (.mov (ci 0))] (e [oL 6 1 1 2,r 7 143 [6],a 5 7,oE 8 5 0,oE 9 5 1,a 3 8,a 4 9] (.seq (e [a 10 4,o1 11 (.len 10),oI 12 .eql 11 0] (.cond 12 (e [o1 2 (.mov (ci 0))] .ret) .skip)) (e [a 13 4,o1 14 (.len 13),oI 15 .sub 14 1,o1 16 (.bin .mul (ci 32) 15),a 17 4,a 18 4,o1 19 (.len 18),oI 20 .sub 19 1,oA 21 17 20 1,o1 22 (.ld 21 21 1 true),r 23 150 [22],oB 24 .add 16 23,a 2 24] .ret)))⟩
def Aii:List (Nat × Nat):=[]
theorem tZ:AU c Aii Tryz.f102 RN=true:=by kernel_rfl
def NS:IFunc:=⟨2,39,[.tmp 4],e [o1 2 (.box 0 []),o1 3 (.box 1 []),o1 4 (.mov (ci 0))] (e [oL 10 2 2 2,r 11 143 [10],a 9 11,oE 12 9 0,oE 13 9 1,a 5 12,a 6 13] (e [oL 15 3 3 2,r 16 143 [15],a 14 16,oE 17 14 0,oE 18 14 1,a 7 17,a 8 18] (.seq (.block 0 (e [a 20 5,a 21 20,n 22 (.mov 7) 21 true,n 23 (.un .not 22) 21 true,o1 24 (.pick 21 23 (cb false)),a 19 24] (.cond 19 (e [o1 4 (.mov (ci (-1)))] .ret) (e [a 26 7,a 27 26,n 28 (.mov 5) 27 true,n 29 (.un .not 28) 27 true,o1 30 (.pick 27 29 (cb false)),a 25 30] (.cond 25 (e [o1 4 (.mov (ci 1))] .ret) (e [a 32 5,a 31 32] (.cond 31 (e [a 33 8,a 34 6,r 35 151 [33,34],a 4 35] .ret) .skip))))))) (e [a 36 6,a 37 8,r 38 151 [36,37],a 4 38] .ret))))⟩
def Aij:List (Nat × Nat):=[]
theorem uA:AU c Aij Tryz.f103 NS=true:=by kernel_rfl
def UO:ICode:=e [oB 36 .lss 35 34] (.seq (.cond 36 .skip (.exit 0)) (.seq (.block 1 (e [a 37 35,oA 38 33 35 1,o1 39 (.ld 38 38 1 true),a 10 37,a 11 39] (e [a 40 11,o1 41 (.cv .u64 40),a 42 8,oB 43 .shl 41 42,a 12 43] (e [o1 44 (.cpy 9),a 45 10,a 46 7,oB 47 .add 45 46,o1 48 (.ixo 44 9 47 1),o1 49 (.ld 48 9 1 true),a 50 12,o1 51 (.cv .u32 50),oB 52 .or 49 51,o1 53 (.ixo 44 9 47 1),oS 53 9 1 52] (rg [o1 54 (.cpy 9),a 55 10,a 56 7,oB 57 .add 55 56,oI 58 .add 57 1,a 59 12,o1 60 (.bin .shr 59 (.c (F U 32))),o1 61 (.cv .u32 60),o1 62 (.ixo 54 9 58 1),oS 62 9 1 61]))))) (rg [oI 63 .add 35 1,a 35 63])))
def RO:IFunc:=⟨2,67,[.cell 4 2 false],e [o1 2 (.box 0 []),o1 4 (.new [D false,H 0 []] [])] (e [oL 14 2 2 2,r 15 143 [14],a 13 15,oE 16 13 0,oE 17 13 1,a 5 16,a 6 17] (.seq (e [a 18 6,o1 19 (.len 18),oI 20 .eql 19 0] (.cond 20 (e [o1 21 (.bld [D false,H 0 []] []),oS 4 4 2 21] .ret) .skip)) (e [a 22 1,oI 23 .quo 22 32,a 24 1,oI 25 .rem 24 32,o1 26 (.cv .u64 25),a 7 23,a 8 26] (e [a 27 6,o1 28 (.len 27),a 29 7,oB 30 .add 28 29,oI 31 .add 30 1,o1 32 (.mks [F Ac 0] 31),⟨some 9,.tra 32,none,[44,48,53,54,62]⟩] (.seq (e [a 33 6,o1 34 (.len 33),o1 35 (.mov (ci 0))] (.block 0 (.loop UO))) (e [a 64 5,o1 65 (.frz 9),r 66 152 [64,65],oS 4 4 2 66] .ret))))))⟩
def Aik:List (Nat × Nat):=[(44,9),(48,9),(53,9),(54,9),(62,9)]
theorem uB:AU c Aik Tryz.f104 RO=true:=by kernel_rfl
def PI:IFunc:=⟨6,69,[.tmp 12,.tmp 13],e [o1 7 (.box 1 []),o1 8 (.box 2 []),o1 12 (.nlo 7),o1 13 (.mov (cb false))] (.seq (e [a 19 3,a 20 4,oB 21 .sub 19 20] (.block 0 (e [oI 23 .eql 21 0,a 22 23] (.cond 22 (e [o1 12 (.nlo 7),o1 13 (.mov (cb true))] .ret) (e [oI 25 .eql 21 1,a 24 25] (.cond 24 (.seq (.region true [a 26 0,o1 27 (.ixa 26 (ci 0) 1),o1 28 (.ld 27 27 1 true),oL 29 7 7 3,oL 30 8 8 3,o1 31 (.bld [H 0 [],D false,H 0 [],F O 0,D false,H 0 [],F O 0] [(0,1,.t 28),(1,3,.t 29),(4,3,.t 30)]),o1 32 (.blo 7 1 [H 0 [],D false,H 0 [],F O 0,D false,H 0 [],F O 0] [(0,7,.t 31)]),o1 12 (.tra 32),o1 13 (.mov (cb true))]) .ret) .skip)))))) (e [oL 33 7 7 3,oL 34 8 8 3,r 35 133 [33,34],o1 14 (.new [D false,H 0 [],F O 0] [36]),oS 14 14 3 35] (.seq (e [o1 36 (.adr 14 14 2),o1 37 (.ld 36 14 1 true),a 38 5,oB 39 .gtr 37 38] (.cond 39 (e [o1 12 (.nlo 7),o1 13 (.mov (cb false))] .ret) .skip)) (e [a 40 0,oL 41 14 14 3,r 42 68 [40,41],a 15 42] (e [a 44 0,oL 45 7 7 3,oL 46 14 14 3,a 47 3,a 48 15,a 49 5,o1 50 (.clo 105 [44,45,46,47,48,49]),o1 43 (.tra 50),o1 51 (.exo 43),oE 52 43 1,o1 16 (.tra 51),a 17 52] (.seq (e [a 53 17,o1 54 (.un .not 53)] (.cond 54 (e [o1 12 (.nlo 7),o1 13 (.mov (cb false))] .ret) .skip)) (e [a 56 0,oL 57 14 14 3,oL 58 8 8 3,a 59 15,a 60 4,a 61 5,r 62 105 [56,57,58,59,60,61],a 55 62,oE 63 55 0,oE 64 55 1,a 18 63,a 17 64] (e [o1 65 (.tra 16),a 66 18,o1 67 (.apd true 65 66 7 1048576),a 68 17,o1 12 (.tra 67),a 13 68] .ret))))))))⟩
def Ail:List (Nat × Nat):=[(36,14)]
theorem uC:AU c Ail Tryz.f105 PI=true:=by kernel_rfl
def UP:IFunc:=⟨1,9,[.cell 2 3 false],e [o1 1 (.box 0 [3,6]),o1 2 (.new [D false,H 0 [],F O 0] [])] (.seq (.region true [o1 3 (.adr 1 1 0),oL 4 3 1 2,r 5 113 [4],o1 6 (.adr 1 1 2),o1 7 (.ld 6 1 1 true),o1 8 (.bld [D false,H 0 [],F O 0] [(0,2,.t 5),(2,1,.t 7)]),oS 2 2 3 8]) .ret)⟩
def Aim:List (Nat × Nat):=[(3,1),(6,1)]
theorem uD:AU c Aim Tryz.f106 UP=true:=by kernel_rfl
def UQ:IFunc:=⟨1,8,[.tmp 2],e [o1 1 (.box 0 [3]),o1 2 (.mov (cb false))] (e [o1 3 (.adr 1 1 1),o1 4 (.ld 3 1 1 true),r 5 99 [4],o1 6 (.len 5),oI 7 .gtr 6 256,a 2 7] .ret)⟩
def Ain:List (Nat × Nat):=[(3,1)]
theorem uE:AU c Ain Tryz.f107 UQ=true:=by kernel_rfl
def UR:ICode := .seq (e [a 16 5,o1 17 (.len 16),oI 18 .gtr 17 0] (.cond 18 .skip (.exit 0))) (.block 1 (e [o1 19 (.tra 4),a 20 5,o1 21 (.bls 1 [H 0 []] [(0,1,.t 20)]),o1 22 (.apd true 19 21 1 1048576),⟨some 4,.tra 22,none,[23,24,27]⟩] (rg [o1 23 (.cpy 4),o1 24 (.cpy 4),o1 25 (.lno 24 4),oI 26 .sub 25 2,o1 27 (.ixo 23 4 26 1),o1 28 (.ld 27 4 1 true),a 29 5,r 30 119 [28,29],r 31 153 [30],a 5 31])))
def RP:IFunc:=⟨1,33,[.tmp 2],e [o1 2 (.nlo 1)] (e [a 6 0,r 7 73 [6],a 3 7] (.seq (e [a 8 3,o1 9 (.len 8),oI 10 .eql 9 0] (.cond 10 (e [o1 2 (.nlo 1)] .ret) .skip)) (e [a 11 3,o1 12 (.blo 1 1 [H 0 []] [(0,1,.t 11)]),⟨some 4,.tra 12,none,[23,24,27]⟩] (e [a 13 3,r 14 122 [13],r 15 86 [14],a 5 15] (.seq (.block 0 (.loop UR)) (e [o1 32 (.tra 4),o1 2 (.tra 32)] .ret))))))⟩
def Aio:List (Nat × Nat):=[(23,4),(24,4),(27,4)]
theorem uF:AU c Aio Tryz.f108 RP=true:=by kernel_rfl
def PJ:IFunc:=⟨6,51,[.tmp 12],e [o1 8 (.box 2 []),o1 9 (.box 3 []),o1 12 (.nlo 7)] (.seq (e [a 15 4,a 16 5,oB 17 .eql 15 16] (.cond 17 (e [o1 18 (.tra 0),o1 12 (.tra 18)] .ret) .skip)) (.seq (e [a 19 4,a 20 5,oB 21 .sub 19 20,oI 22 .eql 21 1] (.cond 22 (.seq (.region true [o1 23 (.tra 0),a 24 1,o1 25 (.ixa 24 (ci 0) 1),o1 26 (.ld 25 25 1 true),oL 27 8 8 3,oL 28 9 9 3,o1 29 (.bld [H 0 [],D false,H 0 [],F O 0,D false,H 0 [],F O 0] [(0,1,.t 26),(1,3,.t 27),(4,3,.t 28)]),o1 30 (.bls 1 [H 0 [],D false,H 0 [],F O 0,D false,H 0 [],F O 0] [(0,7,.t 29)]),o1 31 (.apd true 23 30 7 1048576),o1 12 (.tra 31)]) .ret) .skip)) (e [oL 32 8 8 3,oL 33 9 9 3,r 34 121 [32,33],o1 13 (.new [D false,H 0 [],F O 0] []),oS 13 13 3 34] (e [a 35 1,oL 36 13 13 3,r 37 110 [35,36],a 14 37] (.seq (.region true [o1 38 (.tra 0),a 39 1,oL 40 8 8 3,oL 41 13 13 3,a 42 4,a 43 14,o1 44 (.cao 109 7 38 [39,40,41,42,43]),a 45 1,oL 46 13 13 3,oL 47 9 9 3,a 48 14,a 49 5,o1 50 (.cao 109 7 44 [45,46,47,48,49]),o1 12 (.tra 50)]) .ret)))))⟩
def Aip:List (Nat × Nat):=[]
theorem uG:AU c Aip Tryz.f109 PJ=true:=by kernel_rfl
def NT:ICode := .seq (e [a 9 7,a 10 0,o1 11 (.len 10),oB 12 .lss 9 11] (.cond 12 .skip (.exit 0))) (.seq (.block 1 (.seq (.region true [a 15 0,a 16 7,oA 17 15 16 1,o1 18 (.ld 17 17 1 true),o1 19 (.adr 3 3 0),oL 20 19 3 2,o1 21 (.adr 3 3 2),o1 22 (.ld 21 3 1 true),r 23 80 [18,20,22],r 24 79 [23],a 8 24]) (.seq (e [a 25 8,oI 26 .neq 25 0,a 27 26,n 28 (.mov 6) 27 true,n 29 (.bin .neq 28 (ci 0)) 27 true,o1 30 (.pick 27 29 (cb false)),a 31 30,n 32 (.mov 8) 31 true,n 33 (.mov 6) 31 true,n 34 (.bin .neq 32 33) 31 true,o1 35 (.pick 31 34 (cb false))] (.cond 35 (rg [a 36 5,oI 37 .add 36 1,a 5 37]) .skip)) (e [a 38 8,oI 39 .neq 38 0] (.cond 39 (rg [a 40 8,a 6 40]) .skip))))) (rg [a 13 7,oI 14 .add 13 1,a 7 14]))
def US:IFunc:=⟨2,42,[.tmp 4],e [o1 3 (.box 1 [19,21]),o1 4 (.mov (ci 0))] (e [o1 5 (.mov (ci 0)),o1 6 (.mov (ci 0))] (.seq (e [o1 7 (.mov (ci 0))] (.block 0 (.loop NT))) (e [a 41 5,a 4 41] .ret)))⟩
def Aiq:List (Nat × Nat):=[(19,3),(21,3)]
theorem uH:AU c Aiq Tryz.f110 US=true:=by kernel_rfl
def Ze:IFunc:=⟨2,24,[.cell 4 2 false],e [o1 2 (.box 0 []),o1 3 (.box 1 []),o1 4 (.new [D false,H 0 []] [])] (e [oL 10 2 2 2,r 11 143 [10],a 9 11,oE 12 9 0,oE 13 9 1,a 5 12,a 6 13] (e [oL 15 3 3 2,r 16 143 [15],a 14 16,oE 17 14 0,oE 18 14 1,a 7 17,a 8 18] (e [a 19 5,a 20 6,a 21 7,a 22 8,r 23 154 [19,20,21,22],oS 4 4 2 23] .ret)))⟩
def Air:List (Nat × Nat):=[]
theorem uI:AU c Air Tryz.f111 Ze=true:=by kernel_rfl
def QK:ICode:=e [oB 51 .lss 50 49] (.seq (.cond 51 .skip (.exit 2)) (.seq (.block 3 (e [a 52 50,oA 53 48 50 1,o1 54 (.ld 53 53 1 true),a 13 52,a 14 54] (e [a 55 11,o1 56 (.cv .u64 55),a 57 14,o1 58 (.cv .u64 57),oB 59 .mul 56 58,o1 60 (.cpy 9),a 61 10,a 62 13,oB 63 .add 61 62,o1 64 (.ixo 60 9 63 1),o1 65 (.ld 64 9 1 true),o1 66 (.cv .u64 65),oB 67 .add 59 66,a 68 12,oB 69 .add 67 68,a 15 69] (rg [o1 70 (.cpy 9),a 71 10,a 72 13,oB 73 .add 71 72,a 74 15,o1 75 (.cv .u32 74),a 76 15,o1 77 (.bin .shr 76 (.c (F U 32))),o1 78 (.ixo 70 9 73 1),oS 78 9 1 75,a 12 77])))) (rg [oI 79 .add 50 1,a 50 79])))
def UT:ICode:=e [oB 44 .lss 43 42] (.seq (.cond 44 .skip (.exit 0)) (.seq (.block 1 (e [a 45 43,oA 46 41 43 1,o1 47 (.ld 46 46 1 true),a 10 45,a 11 47] (e [o1 12 (.mov (.c (F U 0)))] (.seq (e [a 48 8,o1 49 (.len 48),o1 50 (.mov (ci 0))] (.block 2 (.loop QK))) (rg [o1 80 (.cpy 9),a 81 10,a 82 8,o1 83 (.len 82),oB 84 .add 81 83,a 85 12,o1 86 (.cv .u32 85),o1 87 (.ixo 80 9 84 1),oS 87 9 1 86]))))) (rg [oI 88 .add 43 1,a 43 88])))
def UU:IFunc:=⟨2,94,[.cell 4 2 false],e [o1 2 (.box 0 []),o1 3 (.box 1 []),o1 4 (.new [D false,H 0 []] [])] (e [oL 17 2 2 2,r 18 143 [17],a 16 18,oE 19 16 0,oE 20 16 1,a 5 19,a 6 20] (e [oL 22 3 3 2,r 23 143 [22],a 21 23,oE 24 21 0,oE 25 21 1,a 7 24,a 8 25] (.seq (e [a 26 6,o1 27 (.len 26),oI 28 .eql 27 0,a 29 28,n 30 (.mov 8) 29 false,n 31 (.len 30) 29 false,n 32 (.bin .eql 31 (ci 0)) 29 false,o1 33 (.pick 29 (cb true) 32)] (.cond 33 (e [o1 34 (.bld [D false,H 0 []] []),oS 4 4 2 34] .ret) .skip)) (e [a 35 6,o1 36 (.len 35),a 37 8,o1 38 (.len 37),oB 39 .add 36 38,o1 40 (.mks [F Ac 0] 39),⟨some 9,.tra 40,none,[60,64,70,78,80,87]⟩] (.seq (e [a 41 6,o1 42 (.len 41),o1 43 (.mov (ci 0))] (.block 0 (.loop UT))) (e [a 89 5,a 90 7,o1 91 (.eqb true 89 90),o1 92 (.frz 9),r 93 152 [91,92],oS 4 4 2 93] .ret))))))⟩
def Ais:List (Nat × Nat):=[(60,9),(64,9),(70,9),(78,9),(80,9),(87,9)]
theorem uJ:AU c Ais Tryz.f112 UU=true:=by kernel_rfl
def Zf:IFunc:=⟨1,14,[.cell 2 2 false],e [o1 1 (.box 0 []),o1 2 (.new [D false,H 0 []] [])] (e [oL 6 1 1 2,r 7 143 [6],a 5 7,oE 8 5 0,oE 9 5 1,a 3 8,a 4 9] (e [a 10 3,a 11 4,o1 12 (.apd false (.c (.nil)) 11 1 35184372088832),r 13 152 [10,12],oS 2 2 2 13] .ret))⟩
def Ait:List (Nat × Nat):=[]
theorem uK:AU c Ait Tryz.f113 Zf=true:=by kernel_rfl
def In:IFunc:=⟨1,23,[.tmp 2],e [o1 2 (.nlo 2)] (e [a 5 0,r 6 115 [5],r 7 155 [6],a 3 7] (.seq (e [a 8 3,o1 9 (.len 8),oI 10 .lss 9 2] (.cond 10 (e [a 11 3,o1 2 (.tra 11)] .ret) .skip)) (e [a 12 3,a 13 3,r 14 116 [13],r 15 135 [12,14],a 4 15] (.seq (e [a 16 4,o1 17 (.len 16),oI 18 .lss 17 2] (.cond 18 (e [a 19 3,o1 2 (.tra 19)] .ret) .skip)) (e [a 20 3,a 21 4,o1 22 (.clo 156 [20,21]),o1 2 (.tra 22)] .ret)))))⟩
def Aiu:List (Nat × Nat):=[]
theorem uL:AU c Aiu Tryz.f114 In=true:=by kernel_rfl
def RR:ICode:=e [oB 16 .lss 15 14] (.seq (.cond 16 .skip (.exit 0)) (.seq (.block 1 (e [a 17 15,a 5 17] (.region true [o1 19 (.cpy 3),a 20 5,o1 21 (.cpy 3),a 22 5,o1 23 (.ixo 21 3 22 2),oL 24 23 3 2,oL 25 4 4 2,r 26 158 [24,25],a 18 26,oE 27 18 0,oE 28 18 1,o1 29 (.ixo 19 3 20 2),oS 29 3 2 27]))) (rg [oI 30 .add 15 1,a 15 30])))
def RS:IFunc:=⟨1,32,[.tmp 2],e [o1 2 (.nlo 2)] (e [a 6 0,o1 7 (.clo 66 [6]),⟨some 3,.tra 7,none,[8,13,19,21,23,29]⟩] (e [o1 8 (.cpy 3),o1 9 (.brw 157 8 3),o1 4 (.new [D false,H 0 []] []),oS 4 4 2 9] (.seq (e [oL 10 4 4 2,r 11 102 [10],oI 12 .gtr 11 1] (.cond 12 (e [o1 13 (.cpy 3),o1 14 (.lno 13 3),o1 15 (.mov (ci 0))] (.block 0 (.loop RR))) .skip)) (e [o1 31 (.tra 3),o1 2 (.tra 31)] .ret))))⟩
def Aiv:List (Nat × Nat):=[(8,3),(13,3),(19,3),(21,3),(23,3),(29,3)]
theorem uM:AU c Aiv Tryz.f115 RS=true:=by kernel_rfl
def UV:ICode := .seq (e [a 5 4,a 6 0,r 7 53 [6],oB 8 .leq 5 7] (.cond 8 .skip (.exit 0))) (.seq (.block 1 (.region true [o1 11 (.tra 3),a 12 0,a 13 4,oA 14 12 13 2,oL 15 14 14 2,a 16 4,r 17 132 [16],r 18 112 [15,17],o1 19 (.bls 1 [D false,H 0 []] [(0,2,.t 18)]),o1 20 (.apd true 11 19 2 1048576),o1 3 (.tra 20)])) (rg [a 9 4,oI 10 .add 9 1,a 4 10]))
def UW:IFunc:=⟨1,23,[.tmp 2],e [o1 2 (.nlo 2)] (e [o1 3 (.nlo 2)] (.seq (e [o1 4 (.mov (ci 1))] (.block 0 (.loop UV))) (e [o1 21 (.frz 3),o1 22 (.clo 66 [21]),o1 2 (.tra 22)] .ret)))⟩
def Aiw:List (Nat × Nat):=[]
theorem uN:AU c Aiw Tryz.f116 UW=true:=by kernel_rfl
def UX:ICode:=e [oB 11 .lss 10 9] (.seq (.cond 11 .skip (.exit 0)) (.seq (.block 1 (e [a 12 10,a 4 12] (rg [o1 13 (.cpy 3),a 14 4,a 15 0,a 16 4,oA 17 15 16 2,oL 18 17 17 2,r 19 131 [18],o1 20 (.ixo 13 3 14 2),oS 20 3 2 19]))) (rg [oI 21 .add 10 1,a 10 21])))
def UY:IFunc:=⟨1,23,[.tmp 2],e [o1 2 (.nlo 2)] (e [a 5 0,o1 6 (.len 5),o1 7 (.mks [D false,H 0 []] 6),⟨some 3,.tra 7,none,[13,20]⟩] (.seq (e [a 8 0,o1 9 (.len 8),o1 10 (.mov (ci 0))] (.block 0 (.loop UX))) (e [o1 22 (.tra 3),o1 2 (.tra 22)] .ret)))⟩
def Aix:List (Nat × Nat):=[(13,3),(20,3)]
theorem uO:AU c Aix Tryz.f117 UY=true:=by kernel_rfl
def K_:ICode:=e [oB 65 .lss 64 63] (.seq (.cond 65 .skip (.exit 2)) (.seq (.block 3 (e [a 66 64,a 14 66] (.seq (.region true [o1 67 (.cpy 5),a 68 14,o1 69 (.cpy 5),a 70 14,o1 71 (.ixo 69 5 70 2),oL 72 71 5 2,oL 73 9 9 2,r 74 112 [72,73],o1 75 (.ixo 67 5 68 2),oS 75 5 2 74]) (e [a 76 14,a 77 13,oB 78 .geq 76 77] (.cond 78 (.region true [o1 79 (.cpy 5),a 80 14,o1 81 (.cpy 5),a 82 14,o1 83 (.ixo 81 5 82 2),oL 84 83 5 2,oL 85 11 11 2,a 86 1,a 87 14,a 88 13,oB 89 .sub 87 88,oA 90 86 89 2,oL 91 90 90 2,r 92 112 [85,91],r 93 127 [84,92],o1 94 (.ixo 79 5 80 2),oS 94 5 2 93]) .skip))))) (rg [oI 95 .add 64 1,a 64 95])))
def PK:ICode := .seq (e [o1 25 (.cpy 5),o1 26 (.lno 25 5),a 27 1,o1 28 (.len 27),oB 29 .geq 26 28] (.cond 29 .skip (.exit 0))) (.block 1 (e [o1 30 (.cpy 5),o1 31 (.cpy 5),o1 32 (.lno 31 5),oI 33 .sub 32 1,o1 34 (.ixo 30 5 33 2),oL 35 34 5 2,o1 7 (.new [D false,H 0 []] []),oS 7 7 2 35] (e [oL 36 6 6 2,oL 37 7 7 2,r 38 159 [36,37],o1 8 (.new [D false,H 0 []] []),oS 8 8 2 38] (.seq (.region true [oL 40 6 6 2,r 41 160 [40],oL 42 8 8 2,r 43 158 [41,42],a 39 43,oE 44 39 0,oE 45 39 1,o1 9 (.new [D false,H 0 []] []),o1 10 (.new [D false,H 0 []] []),oS 9 9 2 44,oS 10 10 2 45]) (e [oL 47 7 7 2,oL 48 8 8 2,r 49 158 [47,48],a 46 49,oE 50 46 0,oE 51 46 1,o1 11 (.new [D false,H 0 []] []),o1 12 (.new [D false,H 0 []] []),oS 11 11 2 50,oS 12 12 2 51] (.seq (e [oL 52 6 6 2,r 53 101 [52],oI 54 .lss 53 0] (.cond 54 (rg [oL 55 11 11 2,r 56 131 [55],oS 11 11 2 56]) .skip)) (e [o1 57 (.cpy 5),o1 58 (.lno 57 5),a 59 1,o1 60 (.len 59),oB 61 .sub 58 60,a 13 61] (.seq (e [o1 62 (.cpy 5),o1 63 (.lno 62 5),o1 64 (.mov (ci 0))] (.block 2 (.loop K_))) (rg [o1 96 (.frz 5),o1 97 (.clo 115 [96]),⟨some 5,.tra 97,none,[25,30,31,34,57,62,67,69,71,75,79,81,83,94]⟩])))))))))
def UZ:IFunc:=⟨2,99,[.tmp 4],e [o1 4 (.nlo 2)] (e [a 15 0,o1 16 (.clo 115 [15]),a 17 1,r 18 115 [17],⟨some 5,.tra 16,none,[25,30,31,34,57,62,67,69,71,75,79,81,83,94]⟩,a 1 18] (e [a 19 1,a 20 1,o1 21 (.len 20),oI 22 .sub 21 1,oA 23 19 22 2,oL 24 23 23 2,o1 6 (.new [D false,H 0 []] []),oS 6 6 2 24] (.seq (.block 0 (.loop PK)) (e [o1 98 (.tra 5),o1 4 (.tra 98)] .ret))))⟩
def Aiy:List (Nat × Nat):=[(25,5),(30,5),(31,5),(34,5),(57,5),(62,5),(67,5),(69,5),(71,5),(75,5),(79,5),(81,5),(83,5),(94,5)]
theorem uP:AU c Aiy Tryz.f118 UZ=true:=by kernel_rfl
def La:ICode := .seq (e [a 44 11,a 45 5,o1 46 (.len 45),oI 47 .sub 46 1,oB 48 .lss 44 47] (.cond 48 .skip (.exit 2))) (.seq (.block 3 (.seq (.region true [o1 51 (.adr 7 7 1),o1 52 (.ld 51 7 1 true),o1 53 (.bld [D false,H 0 []] [(1,1,.t 52)]),a 54 5,a 55 11,oA 56 54 55 2,oL 57 56 56 2,r 58 96 [53,57],o1 12 (.new [D false,H 0 []] []),oS 12 12 2 58]) (.seq (e [a 59 11,a 60 9,oB 61 .geq 59 60] (.cond 61 (.region true [oL 62 12 12 2,oL 63 8 8 2,a 64 6,a 65 11,a 66 9,oB 67 .sub 65 66,oA 68 64 67 2,oL 69 68 68 2,r 70 96 [63,69],r 71 129 [62,70],oS 12 12 2 71]) .skip)) (rg [o1 72 (.tra 10),oL 73 12 12 2,o1 74 (.bls 1 [D false,H 0 []] [(0,2,.t 73)]),o1 75 (.apd true 72 74 2 1048576),o1 10 (.tra 75)])))) (rg [a 49 11,oI 50 .add 49 1,a 11 50]))
def PL:ICode := .seq (e [a 23 5,o1 24 (.len 23),a 25 6,o1 26 (.len 25),oB 27 .geq 24 26] (.cond 27 .skip (.exit 0))) (.block 1 (e [a 28 5,a 29 5,o1 30 (.len 29),oI 31 .sub 30 1,oA 32 28 31 2,oL 33 32 32 2,o1 8 (.new [D false,H 0 []] []),oS 8 8 2 33] (.seq (e [oL 34 7 7 2,r 35 79 [34],oI 36 .lss 35 0] (.cond 36 (rg [oL 37 8 8 2,r 38 161 [37],oS 8 8 2 38]) .skip)) (e [a 39 5,o1 40 (.len 39),a 41 6,o1 42 (.len 41),oB 43 .sub 40 42,a 9 43] (e [o1 10 (.nlo 2)] (.seq (e [o1 11 (.mov (ci 0))] (.block 2 (.loop La))) (rg [o1 76 (.frz 10),r 77 46 [76],r 78 86 [77],a 5 78])))))))
def U':IFunc:=⟨2,80,[.tmp 4],e [o1 4 (.nlo 2)] (e [a 13 0,r 14 86 [13],a 15 1,r 16 46 [15],a 5 14,a 6 16] (e [a 17 6,a 18 6,o1 19 (.len 18),oI 20 .sub 19 1,oA 21 17 20 2,oL 22 21 21 2,o1 7 (.new [D false,H 0 []] [51]),oS 7 7 2 22] (.seq (.block 0 (.loop PL)) (e [a 79 5,o1 4 (.tra 79)] .ret))))⟩
def Aiz:List (Nat × Nat):=[(51,7)]
theorem uQ:AU c Aiz Tryz.f119 U'=true:=by kernel_rfl
def PM:IFunc:=⟨1,19,[.tmp 2],e [o1 2 (.nlo 2)] (.seq (e [a 3 0,o1 4 (.len 3),oI 5 .gtr 4 0,a 6 5,n 7 (.mov 0) 6 true,n 8 (.mov 0) 6 true,n 9 (.len 8) 6 true,n 10 (.bin .sub 9 (ci 1)) 6 true,n 11 (.ixa 7 10 2) 6 true,n 12 (.ld 11 11 2 false) 6 true,n 13 (.call 79 [12]) 6 true,n 14 (.bin .lss 13 (ci 0)) 6 true,o1 15 (.pick 6 14 (cb false))] (.cond 15 (e [a 16 0,o1 17 (.clo 153 [16]),o1 2 (.tra 17)] .ret) .skip)) (e [a 18 0,o1 2 (.tra 18)] .ret))⟩
def Aja:List (Nat × Nat):=[]
theorem uR:AU c Aja Tryz.f120 PM=true:=by kernel_rfl
def U_:IFunc:=⟨2,32,[.cell 4 3 false],e [o1 2 (.box 0 [7,12,15]),o1 3 (.box 1 [9,19,22]),o1 4 (.new [D false,H 0 [],F O 0] [])] (e [o1 7 (.adr 2 2 2),o1 8 (.ld 7 2 1 true),o1 9 (.adr 3 3 2),o1 10 (.ld 9 3 1 true),o1 11 (.mx [8,10]),a 5 11] (.seq (.region true [o1 12 (.adr 2 2 0),oL 13 12 2 2,a 14 5,o1 15 (.adr 2 2 2),o1 16 (.ld 15 2 1 true),oB 17 .sub 14 16,r 18 84 [13,17],o1 19 (.adr 3 3 0),oL 20 19 3 2,a 21 5,o1 22 (.adr 3 3 2),o1 23 (.ld 22 3 1 true),oB 24 .sub 21 23,r 25 84 [20,24],r 26 95 [18,25],o1 6 (.new [D false,H 0 []] []),oS 6 6 2 26]) (e [oL 27 6 6 2,a 28 5,oI 29 .add 28 1,o1 30 (.bld [D false,H 0 [],F O 0] [(0,2,.t 27),(2,1,.t 29)]),r 31 162 [30],oS 4 4 3 31] .ret)))⟩
def Ajb:List (Nat × Nat):=[(7,2),(9,3),(12,2),(15,2),(19,3),(22,3)]
theorem uS:AU c Ajb Tryz.f121 U_=true:=by kernel_rfl
def Va:ICode := .seq (e [a 5 4,a 6 0,o1 7 (.len 6),oB 8 .lss 5 7] (.cond 8 .skip (.exit 0))) (.seq (.block 1 (.region true [o1 11 (.tra 3),a 12 4,r 13 49 [12],a 14 0,a 15 4,oA 16 14 15 2,oL 17 16 16 2,r 18 96 [13,17],o1 19 (.bls 1 [D false,H 0 []] [(0,2,.t 18)]),o1 20 (.apd true 11 19 2 1048576),o1 3 (.tra 20)])) (rg [a 9 4,oI 10 .add 9 1,a 4 10]))
def Vb:IFunc:=⟨1,23,[.tmp 2],e [o1 2 (.nlo 2)] (e [o1 3 (.nlo 2)] (.seq (e [o1 4 (.mov (ci 1))] (.block 0 (.loop Va))) (e [o1 21 (.frz 3),o1 22 (.clo 46 [21]),o1 2 (.tra 22)] .ret)))⟩
def Ajc:List (Nat × Nat):=[]
theorem uT:AU c Ajc Tryz.f122 Vb=true:=by kernel_rfl
def OI:ICode := .seq (e [a 48 11,o1 49 (.cpy 8),o1 50 (.lno 49 8),oB 51 .lss 48 50] (.cond 51 .skip (.exit 2))) (.seq (.block 3 (.region true [o1 54 (.cpy 8),a 55 11,o1 56 (.cpy 8),a 57 11,o1 58 (.ixo 56 8 57 2),oL 59 58 8 2,oL 60 7 7 2,r 61 96 [59,60],o1 62 (.ixo 54 8 55 2),oS 62 8 2 61])) (rg [a 52 11,oI 53 .add 52 1,a 11 53]))
def MB:ICode := .seq (e [a 67 13,a 68 5,o1 69 (.len 68),oI 70 .sub 69 1,oB 71 .lss 67 70] (.cond 71 .skip (.exit 4))) (.seq (.block 5 (.seq (.region true [oL 74 7 7 2,a 75 5,a 76 13,oA 77 75 76 2,oL 78 77 77 2,r 79 96 [74,78],o1 14 (.new [D false,H 0 []] []),oS 14 14 2 79]) (.seq (e [a 80 13,a 81 10,oB 82 .geq 80 81] (.cond 82 (.region true [oL 83 14 14 2,oL 84 9 9 2,a 85 6,a 86 13,a 87 10,oB 88 .sub 86 87,oA 89 85 88 2,oL 90 89 89 2,r 91 96 [84,90],r 92 129 [83,91],oS 14 14 2 92]) .skip)) (rg [o1 93 (.tra 12),oL 94 14 14 2,o1 95 (.bls 1 [D false,H 0 []] [(0,2,.t 94)]),o1 96 (.apd true 93 95 2 1048576),o1 12 (.tra 96)])))) (rg [a 72 13,oI 73 .add 72 1,a 13 73]))
def Vc:ICode := .seq (e [a 32 5,o1 33 (.len 32),a 34 6,o1 35 (.len 34),oB 36 .geq 33 35] (.cond 36 .skip (.exit 0))) (.block 1 (e [a 37 5,a 38 5,o1 39 (.len 38),oI 40 .sub 39 1,oA 41 37 40 2,oL 42 41 41 2,o1 9 (.new [D false,H 0 []] []),oS 9 9 2 42] (e [a 43 5,o1 44 (.len 43),a 45 6,o1 46 (.len 45),oB 47 .sub 44 46,a 10 47] (.seq (e [o1 11 (.mov (ci 0))] (.block 2 (.loop OI))) (e [o1 63 (.cpy 8),a 64 10,oL 65 9 9 2,o1 66 (.ixo 63 8 64 2),oS 66 8 2 65] (e [o1 12 (.nlo 2)] (.seq (e [o1 13 (.mov (ci 0))] (.block 4 (.loop MB))) (rg [o1 97 (.frz 12),r 98 46 [97],a 5 98]))))))))
def Ve:IFunc:=⟨2,103,[.tmp 4],e [o1 4 (.nlo 2)] (e [a 15 0,r 16 46 [15],a 17 1,r 18 46 [17],a 5 16,a 6 18] (e [a 19 6,a 20 6,o1 21 (.len 20),oI 22 .sub 21 1,oA 23 19 22 2,oL 24 23 23 2,o1 7 (.new [D false,H 0 []] []),oS 7 7 2 24] (e [a 25 5,o1 26 (.len 25),a 27 6,o1 28 (.len 27),oB 29 .sub 26 28,oI 30 .add 29 1,o1 31 (.mks [D false,H 0 []] 30),⟨some 8,.tra 31,none,[49,54,56,58,62,63,66]⟩] (.seq (.block 0 (.loop Vc)) (e [o1 99 (.frz 8),r 100 46 [99],r 101 86 [100],o1 102 (.clo 120 [101]),o1 4 (.tra 102)] .ret)))))⟩
def Ajd:List (Nat × Nat):=[(49,8),(54,8),(56,8),(58,8),(62,8),(63,8),(66,8)]
theorem uU:AU c Ajd Tryz.f123 Ve=true:=by kernel_rfl
def Zg:IFunc:=⟨2,61,[.tmp 4],e [o1 2 (.box 0 [12,24,26,46]),o1 3 (.box 1 [20,28,33,35,40,48]),o1 4 (.mov (cb false))] (.seq (.block 0 (e [oL 9 2 2 7,r 10 125 [9],a 8 10] (.cond 8 (e [oL 11 3 3 7,o1 12 (.adr 2 2 1),oL 13 12 2 3,r 14 76 [11,13],oI 15 .eql 14 0,a 4 15] .ret) (e [oL 17 3 3 7,r 18 125 [17],a 16 18] (.cond 16 (e [oL 19 2 2 7,o1 20 (.adr 3 3 1),oL 21 20 3 3,r 22 76 [19,21],oI 23 .eql 22 0,a 4 23] .ret) .skip))))) (.seq (.region true [o1 24 (.adr 2 2 1),oL 25 24 2 3,o1 26 (.adr 2 2 4),oL 27 26 2 3,o1 5 (.new [D false,H 0 [],F O 0] []),o1 6 (.new [D false,H 0 [],F O 0] []),oS 5 5 3 25,oS 6 6 3 27]) (.seq (e [o1 28 (.adr 3 3 1),oL 29 28 3 3,oL 30 5 5 3,r 31 55 [29,30],oI 32 .gtr 31 0] (.cond 32 (rg [o1 33 (.adr 3 3 1),oL 34 33 3 3,oS 5 5 3 34]) .skip)) (.seq (e [o1 35 (.adr 3 3 4),oL 36 35 3 3,oL 37 6 6 3,r 38 55 [36,37],oI 39 .lss 38 0] (.cond 39 (rg [o1 40 (.adr 3 3 4),oL 41 40 3 3,oS 6 6 3 41]) .skip)) (.seq (e [oL 42 5 5 3,oL 43 6 6 3,r 44 55 [42,43],oI 45 .geq 44 0] (.cond 45 (e [o1 4 (.mov (cb false))] .ret) .skip)) (e [o1 46 (.adr 2 2 0),o1 47 (.ld 46 2 1 true),o1 48 (.adr 3 3 0),o1 49 (.ld 48 3 1 true),r 50 135 [47,49],a 7 50] (e [a 51 7,o1 52 (.len 51),oI 53 .gtr 52 1,a 54 53,n 55 (.mov 7) 54 true,n 56 (.ld 5 5 3 false) 54 true,n 57 (.ld 6 6 3 false) 54 true,n 58 (.call 136 [55,56,57]) 54 true,n 59 (.bin .gtr 58 (ci 0)) 54 true,o1 60 (.pick 54 59 (cb false)),a 4 60] .ret)))))))⟩
def Aje:List (Nat × Nat):=[(12,2),(20,3),(24,2),(26,2),(28,3),(33,3),(35,3),(40,3),(46,2),(48,3)]
theorem uV:AU c Aje Tryz.f124 Zg=true:=by kernel_rfl
def Zh:IFunc:=⟨1,9,[.tmp 2],e [o1 1 (.box 0 [3,5]),o1 2 (.mov (cb false))] (e [o1 3 (.adr 1 1 1),oL 4 3 1 3,o1 5 (.adr 1 1 4),oL 6 5 1 3,r 7 55 [4,6],oI 8 .eql 7 0,a 2 8] .ret)⟩
def Ajf:List (Nat × Nat):=[(3,1),(5,1)]
theorem uW:AU c Ajf Tryz.f125 Zh=true:=by kernel_rfl
def Zi:IFunc:=⟨2,23,[.cell 4 2 false],e [o1 2 (.box 0 [6,9,12,16,18]),o1 4 (.new [D false,H 0 []] [])] (.seq (e [a 5 1,o1 6 (.adr 2 2 2),o1 7 (.ld 6 2 1 true),oB 8 .geq 5 7] (.cond 8 (e [o1 9 (.adr 2 2 0),oL 10 9 2 2,a 11 1,o1 12 (.adr 2 2 2),o1 13 (.ld 12 2 1 true),oB 14 .sub 11 13,r 15 104 [10,14],oS 4 4 2 15] .ret) .skip)) (e [o1 16 (.adr 2 2 0),oL 17 16 2 2,o1 18 (.adr 2 2 2),o1 19 (.ld 18 2 1 true),a 20 1,oB 21 .sub 19 20,r 22 163 [17,21],oS 4 4 2 22] .ret))⟩
def Ajg:List (Nat × Nat):=[(6,2),(9,2),(12,2),(16,2),(18,2)]
theorem uX:AU c Ajg Tryz.f126 Zi=true:=by kernel_rfl
def Zj:IFunc:=⟨2,25,[.cell 4 2 false],e [o1 2 (.box 0 []),o1 3 (.box 1 []),o1 4 (.new [D false,H 0 []] [])] (e [oL 10 2 2 2,r 11 143 [10],a 9 11,oE 12 9 0,oE 13 9 1,a 5 12,a 6 13] (e [oL 15 3 3 2,r 16 143 [15],a 14 16,oE 17 14 0,oE 18 14 1,a 7 17,a 8 18] (e [a 19 5,a 20 6,a 21 7,o1 22 (.un .not 21),a 23 8,r 24 154 [19,20,22,23],oS 4 4 2 24] .ret)))⟩
def Ajh:List (Nat × Nat):=[]
theorem uY:AU c Ajh Tryz.f127 Zj=true:=by kernel_rfl
def Gs:ICode := .seq (e [a 16 8,a 17 5,o1 18 (.len 17),oB 19 .lss 16 18,a 20 19,n 21 (.mov 8) 20 true,n 22 (.mov 1) 20 true,n 23 (.bin .quo 22 (ci 32)) 20 true,n 24 (.bin .lss 21 23) 20 true,o1 25 (.pick 20 24 (cb false))] (.cond 25 .skip (.exit 0))) (.seq (.block 1 (rg [a 28 7,a 29 28,n 30 (.mov 5) 29 false,n 31 (.mov 8) 29 false,n 32 (.ixa 30 31 1) 29 false,n 33 (.ld 32 32 1 true) 29 false,n 34 (.bin .neq 33 (.c (F Ac 0))) 29 false,o1 35 (.pick 29 (cb true) 34),a 7 35])) (rg [a 26 8,oI 27 .add 26 1,a 8 27]))
def FU:ICode := .seq (e [a 41 10,a 42 5,o1 43 (.len 42),oB 44 .lss 41 43] (.cond 44 .skip (.exit 2))) (.seq (.block 3 (e [a 47 5,a 48 10,oA 49 47 48 1,o1 50 (.ld 49 49 1 true),o1 51 (.cv .u64 50),a 11 51] (.seq (e [a 52 10,oI 53 .add 52 1,a 54 5,o1 55 (.len 54),oB 56 .lss 53 55] (.cond 56 (rg [a 57 11,a 58 5,a 59 10,oI 60 .add 59 1,oA 61 58 60 1,o1 62 (.ld 61 61 1 true),o1 63 (.cv .u64 62),o1 64 (.bin .shl 63 (.c (F U 32))),oB 65 .or 57 64,a 11 65]) .skip)) (rg [o1 66 (.tra 6),a 67 11,a 68 9,oB 69 .shr 67 68,o1 70 (.cv .u32 69),o1 71 (.bls 1 [F Ac 0] [(0,1,.t 70)]),o1 72 (.apd true 66 71 1 35184372088832),o1 6 (.tra 72)])))) (rg [a 45 10,oI 46 .add 45 1,a 10 46]))
def JB:IFunc:=⟨2,104,[.cell 4 2 false],e [o1 2 (.box 0 [13,91,95]),o1 4 (.new [D false,H 0 []] [])] (e [o1 13 (.adr 2 2 1),o1 14 (.ld 13 2 1 true),r 15 99 [14],a 5 15] (e [o1 6 (.nlo 1)] (e [o1 7 (.mov (cb false))] (.seq (e [o1 8 (.mov (ci 0))] (.block 0 (.loop Gs))) (e [a 36 1,oI 37 .rem 36 32,o1 38 (.cv .u64 37),a 9 38] (.seq (e [a 39 1,oI 40 .quo 39 32,a 10 40] (.block 2 (.loop FU))) (.seq (e [a 73 1,oI 74 .quo 73 32,a 75 5,o1 76 (.len 75),oB 77 .lss 74 76] (.cond 77 (rg [a 78 7,a 79 78,n 80 (.mov 5) 79 false,n 81 (.mov 1) 79 false,n 82 (.bin .quo 81 (ci 32)) 79 false,n 83 (.ixa 80 82 1) 79 false,n 84 (.ld 83 83 1 true) 79 false,n 85 (.mov 9) 79 false,n 86 (.bin .shl (.c (F Ac 1)) 85) 79 false,n 87 (.bin .sub 86 (.c (F Ac 1))) 79 false,n 88 (.bin .and 84 87) 79 false,n 89 (.bin .neq 88 (.c (F Ac 0))) 79 false,o1 90 (.pick 79 (cb true) 89),a 7 90]) .skip)) (e [o1 91 (.adr 2 2 0),o1 92 (.ld 91 2 1 true),o1 93 (.frz 6),r 94 98 [92,93],o1 12 (.new [D false,H 0 []] []),oS 12 12 2 94] (.seq (e [o1 95 (.adr 2 2 0),o1 96 (.ld 95 2 1 true),a 97 96,n 98 (.mov 7) 97 true,o1 99 (.pick 97 98 (cb false))] (.cond 99 (.seq (.region true [oL 100 12 12 2,o1 101 (.call 49 [.c (F O 1)]),r 102 129 [100,101],oS 4 4 2 102]) .ret) .skip)) (e [oL 103 12 12 2,oS 4 4 2 103] .ret))))))))))⟩
def Aji:List (Nat × Nat):=[(13,2),(91,2),(95,2)]
theorem uZ:AU c Aji Tryz.f128 JB=true:=by kernel_rfl
def Vf:IFunc:=⟨2,9,[.cell 4 2 false],e [o1 2 (.box 0 []),o1 3 (.box 1 []),o1 4 (.new [D false,H 0 []] [])] (.seq (.region true [oL 5 2 2 2,oL 6 3 3 2,r 7 161 [6],r 8 95 [5,7],oS 4 4 2 8]) .ret)⟩
def Ajj:List (Nat × Nat):=[]
theorem vA:AU c Ajj Tryz.f129 Vf=true:=by kernel_rfl
def RT:ICode := .seq (e [a 13 5,a 14 1,oB 15 .lss 13 14,a 16 15,n 17 (.adr 2 2 1) 16 true,n 18 (.ld 17 2 1 true) 16 true,n 19 (.mov 5) 16 true,n 20 (.bin .quo 19 (ci 32)) 16 true,n 21 (.ixa 18 20 1) 16 true,n 22 (.ld 21 21 1 true) 16 true,n 23 (.mov 5) 16 true,n 24 (.bin .rem 23 (ci 32)) 16 true,n 25 (.cv .u64 24) 16 true,n 26 (.bin .shr 22 25) 16 true,n 27 (.bin .and 26 (.c (F Ac 1))) 16 true,n 28 (.bin .eql 27 (.c (F Ac 0))) 16 true,o1 29 (.pick 16 28 (cb false))] (.cond 29 .skip (.exit 0))) (.block 1 (rg [a 30 5,oI 31 .add 30 1,a 5 31]))
def RU:IFunc:=⟨2,39,[.cell 4 3 false],e [o1 2 (.box 0 [8,17]),o1 4 (.new [D false,H 0 [],F O 0] [])] (e [oL 6 2 2 2,r 7 113 [6],oS 2 2 2 7] (.seq (e [o1 8 (.adr 2 2 1),o1 9 (.ld 8 2 1 true),o1 10 (.len 9),oI 11 .eql 10 0] (.cond 11 (e [o1 12 (.bld [D false,H 0 [],F O 0] []),oS 4 4 3 12] .ret) .skip)) (e [o1 5 (.mov (ci 0))] (.seq (.block 0 (.loop RT)) (e [oL 32 2 2 2,a 33 5,r 34 163 [32,33],a 35 1,a 36 5,oB 37 .sub 35 36,o1 38 (.bld [D false,H 0 [],F O 0] [(0,2,.t 34),(2,1,.t 37)]),oS 4 4 3 38] .ret)))))⟩
def Ajk:List (Nat × Nat):=[(8,2),(17,2)]
theorem vB:AU c Ajk Tryz.f130 RU=true:=by kernel_rfl
def Zk:IFunc:=⟨1,15,[.cell 2 2 false],e [o1 1 (.box 0 []),o1 2 (.new [D false,H 0 []] [])] (e [oL 6 1 1 2,r 7 143 [6],a 5 7,oE 8 5 0,oE 9 5 1,a 3 8,a 4 9] (e [a 10 3,o1 11 (.un .not 10),a 12 4,o1 13 (.apd false (.c (.nil)) 12 1 35184372088832),r 14 152 [11,13],oS 2 2 2 14] .ret))⟩
def Ajl:List (Nat × Nat):=[]
theorem vC:AU c Ajl Tryz.f131 Zk=true:=by kernel_rfl
def Zl:IFunc:=⟨1,19,[.cell 2 2 false],e [o1 2 (.new [D false,H 0 []] [])] (e [a 4 0,o1 5 (.cv .u64 4),a 3 5] (.seq (e [a 6 0,oI 7 .lss 6 0] (.cond 7 (rg [a 8 3,o1 9 (.un .neg 8),a 3 9]) .skip)) (e [a 10 0,oI 11 .lss 10 0,a 12 3,o1 13 (.cv .u32 12),a 14 3,o1 15 (.bin .shr 14 (.c (F U 32))),o1 16 (.cv .u32 15),o1 17 (.bls 2 [F Ac 0,F Ac 0] [(0,1,.t 13),(1,1,.t 16)]),r 18 152 [11,17],oS 2 2 2 18] .ret)))⟩
def Ajm:List (Nat × Nat):=[]
theorem vD:AU c Ajm Tryz.f132 Zl=true:=by kernel_rfl
def Vg:IFunc:=⟨2,29,[.cell 4 3 false],e [o1 2 (.box 0 [6,11,14]),o1 3 (.box 1 [8,18,21]),o1 4 (.new [D false,H 0 [],F O 0] [])] (e [o1 6 (.adr 2 2 2),o1 7 (.ld 6 2 1 true),o1 8 (.adr 3 3 2),o1 9 (.ld 8 3 1 true),o1 10 (.mx [7,9]),a 5 10] (.seq (.region true [o1 11 (.adr 2 2 0),oL 12 11 2 2,a 13 5,o1 14 (.adr 2 2 2),o1 15 (.ld 14 2 1 true),oB 16 .sub 13 15,r 17 104 [12,16],o1 18 (.adr 3 3 0),oL 19 18 3 2,a 20 5,o1 21 (.adr 3 3 2),o1 22 (.ld 21 3 1 true),oB 23 .sub 20 22,r 24 104 [19,23],r 25 111 [17,24],a 26 5,oI 27 .add 26 1,r 28 130 [25,27],oS 4 4 3 28]) .ret))⟩
def Ajn:List (Nat × Nat):=[(6,2),(8,3),(11,2),(14,2),(18,3),(21,3)]
theorem vF:AU c Ajn Tryz.f133 Vg=true:=by kernel_rfl
def MC:ICode := .seq (e [a 19 5,oI 20 .geq 19 0] (.cond 20 .skip (.exit 0))) (.seq (.block 1 (.seq (.region true [a 23 0,a 24 5,oA 25 23 24 1,o1 26 (.ld 25 25 1 true),a 27 1,a 28 5,oA 29 27 28 1,o1 30 (.ld 29 29 1 true),oB 31 .neq 26 30]) (.cond 31 (.seq (.seq (.region true [a 32 0,a 33 5,oA 34 32 33 1,o1 35 (.ld 34 34 1 true),a 36 1,a 37 5,oA 38 36 37 1,o1 39 (.ld 38 38 1 true),oB 40 .lss 35 39]) (.cond 40 (e [o1 4 (.mov (ci (-1)))] .ret) .skip)) (e [o1 4 (.mov (ci 1))] .ret)) .skip))) (rg [a 21 5,oI 22 .sub 21 1,a 5 22]))
def RV:IFunc:=⟨2,41,[.tmp 4],e [o1 4 (.mov (ci 0))] (.seq (e [a 6 0,o1 7 (.len 6),a 8 1,o1 9 (.len 8),oB 10 .neq 7 9] (.cond 10 (.seq (e [a 11 0,o1 12 (.len 11),a 13 1,o1 14 (.len 13),oB 15 .lss 12 14] (.cond 15 (e [o1 4 (.mov (ci (-1)))] .ret) .skip)) (e [o1 4 (.mov (ci 1))] .ret)) .skip)) (.seq (e [a 16 0,o1 17 (.len 16),oI 18 .sub 17 1,a 5 18] (.block 0 (.loop MC))) (e [o1 4 (.mov (ci 0))] .ret)))⟩
def Ajo:List (Nat × Nat):=[]
theorem vG:AU c Ajo Tryz.f134 RV=true:=by kernel_rfl
def PN:ICode := .seq (e [a 11 6,o1 12 (.len 11),oI 13 .gtr 12 0] (.cond 13 .skip (.exit 0))) (.block 1 (rg [a 14 6,a 15 5,a 16 6,r 17 118 [15,16],a 5 14,a 6 17]))
def RW:IFunc:=⟨2,20,[.tmp 4],e [o1 4 (.nlo 2)] (e [a 7 0,r 8 115 [7],a 9 1,r 10 115 [9],a 5 8,a 6 10] (.seq (.block 0 (.loop PN)) (e [a 18 5,o1 19 (.clo 155 [18]),o1 4 (.tra 19)] .ret)))⟩
def Ajp:List (Nat × Nat):=[]
theorem vH:AU c Ajp Tryz.f135 RW=true:=by kernel_rfl
def Vh:IFunc:=⟨3,17,[.tmp 6],e [o1 4 (.box 1 []),o1 5 (.box 2 []),o1 6 (.mov (ci 0))] (e [a 8 0,r 9 67 [8],a 7 9] (.seq (.region true [a 10 7,oL 11 4 4 3,r 12 68 [10,11],a 13 7,oL 14 5 5 3,r 15 68 [13,14],oB 16 .sub 12 15,a 6 16]) .ret))⟩
def Ajq:List (Nat × Nat):=[]
theorem vI:AU c Ajq Tryz.f136 Vh=true:=by kernel_rfl
def Vi:ICode := .seq (e [a 6 4,a 7 0,o1 8 (.len 7),oB 9 .lss 6 8] (.cond 9 .skip (.exit 0))) (.seq (.block 1 (.region true [oL 12 3 3 2,a 13 0,a 14 4,oA 15 13 14 2,oL 16 15 15 2,r 17 164 [12,16],oS 3 3 2 17])) (rg [a 10 4,oI 11 .add 10 1,a 4 11]))
def Vj:IFunc:=⟨1,19,[.cell 2 2 false],e [o1 2 (.new [D false,H 0 []] [])] (e [o1 5 (.bld [D false,H 0 []] []),o1 3 (.new [D false,H 0 []] []),oS 3 3 2 5] (.seq (e [o1 4 (.mov (ci 0))] (.block 0 (.loop Vi))) (e [oL 18 3 3 2,oS 2 2 2 18] .ret)))⟩
def Ajr:List (Nat × Nat):=[]
theorem vJ:AU c Ajr Tryz.f137 Vj=true:=by kernel_rfl
def Vk:IFunc:=⟨2,29,[.cell 4 2 false,.cell 5 2 false],e [o1 2 (.box 0 [9,18,25]),o1 3 (.box 1 [12,20]),o1 4 (.new [D false,H 0 []] []),o1 5 (.new [D false,H 0 []] [])] (.seq (.region true [o1 9 (.adr 2 2 1),o1 10 (.ld 9 2 1 true),r 11 99 [10],o1 12 (.adr 3 3 1),o1 13 (.ld 12 3 1 true),r 14 99 [13],r 15 165 [11,14],a 8 15,oE 16 8 0,oE 17 8 1,a 6 16,a 7 17]) (.seq (.region true [o1 18 (.adr 2 2 0),o1 19 (.ld 18 2 1 true),o1 20 (.adr 3 3 0),o1 21 (.ld 20 3 1 true),o1 22 (.eqb true 19 21),a 23 6,r 24 98 [22,23],o1 25 (.adr 2 2 0),o1 26 (.ld 25 2 1 true),a 27 7,r 28 98 [26,27],oS 4 4 2 24,oS 5 5 2 28]) .ret))⟩
def Ajs:List (Nat × Nat):=[(9,2),(12,3),(18,2),(20,3),(25,2)]
theorem vK:AU c Ajs Tryz.f138 Vk=true:=by kernel_rfl
def PO:ICode := .seq (e [a 8 4,oI 9 .gtr 8 0,a 10 9,n 11 (.adr 1 1 1) 10 true,n 12 (.ld 11 1 1 true) 10 true,n 13 (.mov 4) 10 true,n 14 (.bin .sub 13 (ci 1)) 10 true,n 15 (.ixa 12 14 1) 10 true,n 16 (.ld 15 15 1 true) 10 true,n 17 (.bin .eql 16 (.c (F Ac 0))) 10 true,o1 18 (.pick 10 17 (cb false))] (.cond 18 .skip (.exit 0))) (.block 1 (rg [a 19 4,oI 20 .sub 19 1,a 4 20]))
def RX:IFunc:=⟨1,31,[.tmp 2,.tmp 3],e [o1 1 (.box 0 [5,11,21,27]),o1 2 (.mov (cb false)),o1 3 (.nlo 1)] (e [o1 5 (.adr 1 1 1),o1 6 (.ld 5 1 1 true),o1 7 (.len 6),a 4 7] (.seq (.block 0 (.loop PO)) (.seq (.region true [o1 21 (.adr 1 1 0),o1 22 (.ld 21 1 1 true),a 23 22,n 24 (.mov 4) 23 true,n 25 (.bin .gtr 24 (ci 0)) 23 true,o1 26 (.pick 23 25 (cb false)),o1 27 (.adr 1 1 1),o1 28 (.ld 27 1 1 true),a 29 4,o1 30 (.sli 28 none (some 29) none 1),a 2 26,o1 3 (.tra 30)]) .ret)))⟩
def Ajt:List (Nat × Nat):=[(5,1),(11,1),(21,1),(27,1)]
theorem vL:AU c Ajt Tryz.f143 RX=true:=by kernel_rfl
def MD:ICode := .seq (e [a 8 7,a 9 0,o1 10 (.len 9),oB 11 .lss 8 10,a 12 11,n 13 (.mov 7) 12 false,n 14 (.mov 1) 12 false,n 15 (.len 14) 12 false,n 16 (.bin .lss 13 15) 12 false,o1 17 (.pick 12 (cb true) 16),a 18 17,n 19 (.mov 6) 18 false,n 20 (.bin .gtr 19 (.c (F U 0))) 18 false,o1 21 (.pick 18 (cb true) 20)] (.cond 21 .skip (.exit 0))) (.seq (.block 1 (.seq (e [a 24 7,a 25 0,o1 26 (.len 25),oB 27 .lss 24 26] (.cond 27 (rg [a 28 6,a 29 0,a 30 7,oA 31 29 30 1,o1 32 (.ld 31 31 1 true),o1 33 (.cv .u64 32),oB 34 .add 28 33,a 6 34]) .skip)) (.seq (e [a 35 7,a 36 1,o1 37 (.len 36),oB 38 .lss 35 37] (.cond 38 (rg [a 39 6,a 40 1,a 41 7,oA 42 40 41 1,o1 43 (.ld 42 42 1 true),o1 44 (.cv .u64 43),oB 45 .add 39 44,a 6 45]) .skip)) (e [o1 46 (.tra 5),a 47 6,o1 48 (.cv .u32 47),o1 49 (.bls 1 [F Ac 0] [(0,1,.t 48)]),o1 50 (.apd true 46 49 1 35184372088832),o1 5 (.tra 50)] (rg [a 51 6,o1 52 (.bin .shr 51 (.c (F U 32))),a 6 52]))))) (rg [a 22 7,oI 23 .add 22 1,a 7 23]))
def Vl:IFunc:=⟨2,54,[.tmp 4],e [o1 4 (.nlo 1)] (e [o1 5 (.nlo 1)] (e [o1 6 (.mov (.c (F U 0)))] (.seq (e [o1 7 (.mov (ci 0))] (.block 0 (.loop MD))) (e [o1 53 (.tra 5),o1 4 (.tra 53)] .ret))))⟩
def Aju:List (Nat × Nat):=[]
theorem vM:AU c Aju Tryz.f144 Vl=true:=by kernel_rfl
def PP:ICode := .seq (e [a 10 7,a 11 0,o1 12 (.len 11),oB 13 .lss 10 12] (.cond 13 .skip (.exit 0))) (.seq (.block 1 (e [o1 8 (.mov (.c (F U 0)))] (.seq (e [a 16 7,a 17 1,o1 18 (.len 17),oB 19 .lss 16 18] (.cond 19 (rg [a 20 1,a 21 7,oA 22 20 21 1,o1 23 (.ld 22 22 1 true),o1 24 (.cv .u64 23),a 8 24]) .skip)) (e [a 25 0,a 26 7,oA 27 25 26 1,o1 28 (.ld 27 27 1 true),o1 29 (.cv .u64 28),a 30 8,oB 31 .sub 29 30,a 32 6,oB 33 .sub 31 32,a 9 33] (e [o1 34 (.tra 5),a 35 9,o1 36 (.cv .u32 35),o1 37 (.bls 1 [F Ac 0] [(0,1,.t 36)]),o1 38 (.apd true 34 37 1 35184372088832),o1 5 (.tra 38)] (rg [a 39 9,o1 40 (.bin .shr 39 (.c (F U 63))),a 6 40])))))) (rg [a 14 7,oI 15 .add 14 1,a 7 15]))
def Vm:IFunc:=⟨2,42,[.tmp 4],e [o1 4 (.nlo 1)] (e [o1 5 (.nlo 1)] (e [o1 6 (.mov (.c (F U 0)))] (.seq (e [o1 7 (.mov (ci 0))] (.block 0 (.loop PP))) (e [o1 41 (.tra 5),o1 4 (.tra 41)] .ret))))⟩
def Ajv:List (Nat × Nat):=[]
theorem vN:AU c Ajv Tryz.f145 Vm=true:=by kernel_rfl
def QL:ICode := .seq (e [a 21 8,a 22 1,o1 23 (.len 22),oB 24 .lss 21 23] (.cond 24 .skip (.exit 2))) (.seq (.block 3 (.seq (.region true [a 27 7,o1 28 (.cpy 5),a 29 6,a 30 8,oB 31 .add 29 30,o1 32 (.ixo 28 5 31 1),o1 33 (.ld 32 5 1 true),o1 34 (.cv .u64 33),a 35 0,a 36 6,oA 37 35 36 1,o1 38 (.ld 37 37 1 true),o1 39 (.cv .u64 38),a 40 1,a 41 8,oA 42 40 41 1,o1 43 (.ld 42 42 1 true),o1 44 (.cv .u64 43),oB 45 .mul 39 44,oB 46 .add 34 45,oB 47 .add 27 46,a 7 47]) (e [o1 48 (.cpy 5),a 49 6,a 50 8,oB 51 .add 49 50,a 52 7,o1 53 (.cv .u32 52),o1 54 (.ixo 48 5 51 1),oS 54 5 1 53] (rg [a 55 7,o1 56 (.bin .shr 55 (.c (F U 32))),a 7 56])))) (rg [a 25 8,oI 26 .add 25 1,a 8 26]))
def QM:ICode := .seq (e [a 15 6,a 16 0,o1 17 (.len 16),oB 18 .lss 15 17] (.cond 18 .skip (.exit 0))) (.seq (.block 1 (e [o1 7 (.mov (.c (F U 0)))] (.seq (e [o1 8 (.mov (ci 0))] (.block 2 (.loop QL))) (rg [o1 57 (.cpy 5),a 58 6,a 59 1,o1 60 (.len 59),oB 61 .add 58 60,a 62 7,o1 63 (.cv .u32 62),o1 64 (.ixo 57 5 61 1),oS 64 5 1 63])))) (rg [a 19 6,oI 20 .add 19 1,a 6 20]))
def Vn:IFunc:=⟨2,66,[.tmp 4],e [o1 4 (.nlo 1)] (e [a 9 0,o1 10 (.len 9),a 11 1,o1 12 (.len 11),oB 13 .add 10 12,o1 14 (.mks [F Ac 0] 13),⟨some 5,.tra 14,none,[28,32,48,54,57,64]⟩] (.seq (e [o1 6 (.mov (ci 0))] (.block 0 (.loop QM))) (e [o1 65 (.tra 5),o1 4 (.tra 65)] .ret)))⟩
def Ajw:List (Nat × Nat):=[(28,5),(32,5),(48,5),(54,5),(57,5),(64,5)]
theorem vO:AU c Ajw Tryz.f146 Vn=true:=by kernel_rfl
def Io:ICode := .seq (e [a 17 6,a 18 5,oB 19 .leq 17 18] (.cond 19 .skip (.exit 2))) (.seq (.block 3 (e [a 22 4,a 23 6,oA 24 22 23 2,oL 25 24 24 2,r 26 177 [25],oI 27 .gtr 26 256] (.cond 27 (e [o1 2 (.mov (cb true))] .ret) .skip))) (rg [a 20 6,oI 21 .add 20 1,a 6 21]))
def rU:ICode:=e [oB 10 .lss 9 8] (.seq (.cond 10 .skip (.exit 0)) (.seq (.block 1 (e [oA 11 7 9 1,o1 12 (.ld 11 11 1 true),a 4 12] (e [a 13 4,r 14 53 [13],a 5 14] (.seq (e [a 15 5,oI 16 .gtr 15 16] (.cond 16 (e [o1 2 (.mov (cb true))] .ret) .skip)) (e [o1 6 (.mov (ci 0))] (.block 2 (.loop Io))))))) (rg [oI 28 .add 9 1,a 9 28])))
def RY:IFunc:=⟨1,29,[.tmp 2],e [o1 2 (.mov (cb false))] (.seq (e [a 7 0,o1 8 (.len 7),o1 9 (.mov (ci 0))] (.block 0 (.loop rU))) (e [o1 2 (.mov (cb false))] .ret))⟩
def Ajx:List (Nat × Nat):=[]
theorem vP:AU c Ajx Tryz.f147 RY=true:=by kernel_rfl
def Vo:IFunc:=⟨1,8,[.tmp 2,.tmp 3],e [o1 2 (.nlo 2),o1 3 (.mov (ci 0))] (.seq (e [a 4 0,o1 5 (.bls 1 [H 0 []] [(0,1,.t 4)]),r 6 147 [5]] (.cond 6 (e [o1 2 (.nlo 2),o1 3 (.mov (ci 2))] .ret) .skip)) (e [a 7 0,o1 2 (.tra 7),o1 3 (.mov (ci 0))] .ret))⟩
def Ajy:List (Nat × Nat):=[]
theorem vQ:AU c Ajy Tryz.f148 Vo=true:=by kernel_rfl
def NU:ICode:=e [oB 22 .lss 21 20] (.seq (.cond 22 .skip (.exit 0)) (.seq (.block 1 (e [a 23 21,a 8 23] (.seq (e [a 24 8,a 25 5,oB 26 .lss 24 25] (.cond 26 (rg [o1 27 (.cpy 7),a 28 8,a 29 0,a 30 8,oA 31 29 30 2,oL 32 31 31 2,o1 33 (.ixo 27 7 28 2),oS 33 7 2 32]) .skip)) (e [a 34 8,a 35 6,oB 36 .lss 34 35] (.cond 36 (.region true [o1 37 (.cpy 7),a 38 8,o1 39 (.cpy 7),a 40 8,o1 41 (.ixo 39 7 40 2),oL 42 41 7 2,a 43 1,a 44 8,oA 45 43 44 2,oL 46 45 45 2,r 47 111 [42,46],o1 48 (.ixo 37 7 38 2),oS 48 7 2 47]) .skip))))) (rg [oI 49 .add 21 1,a 21 49])))
def Vp:IFunc:=⟨2,52,[.tmp 4],e [o1 4 (.nlo 2)] (e [a 9 0,r 10 53 [9],oI 11 .add 10 1,a 12 1,r 13 53 [12],oI 14 .add 13 1,a 5 11,a 6 14] (e [a 15 5,a 16 6,o1 17 (.mx [15,16]),o1 18 (.mks [D false,H 0 []] 17),⟨some 7,.tra 18,none,[19,27,33,37,39,41,48]⟩] (.seq (e [o1 19 (.cpy 7),o1 20 (.lno 19 7),o1 21 (.mov (ci 0))] (.block 0 (.loop NU))) (e [o1 50 (.frz 7),o1 51 (.clo 66 [50]),o1 4 (.tra 51)] .ret))))⟩
def Ajz:List (Nat × Nat):=[(19,7),(27,7),(33,7),(37,7),(39,7),(41,7),(48,7)]
theorem vR:AU c Ajz Tryz.f149 Vp=true:=by kernel_rfl
def RZ:List UInt8:=0::1::2::2::3::3::3::3::4::4::4::4::4::4::4::4::5::5::5::5::5::5::5::5::5::5::5::5::5::5::5::5::6::6::6::6::6::6::6::6::[]
def R':List UInt8:=6::6::6::6::6::6::6::6::6::6::6::6::6::6::6::6::6::6::6::6::6::6::6::6::7::7::7::7::7::7::7::7::7::7::7::7::7::7::7::7::[]
def R_:List UInt8:=7::7::7::7::7::7::7::7::7::7::7::7::7::7::7::7::7::7::7::7::7::7::7::7::7::7::7::7::7::7::7::7::7::7::7::7::7::7::7::7::[]
def Sa:List UInt8:=7::7::7::7::7::7::7::7::8::8::8::8::8::8::8::8::8::8::8::8::8::8::8::8::8::8::8::8::8::8::8::8::8::8::8::8::8::8::8::8::[]
def Sb:List UInt8:=8::8::8::8::8::8::8::8::8::8::8::8::8::8::8::8::8::8::8::8::8::8::8::8::8::8::8::8::8::8::8::8::8::8::8::8::8::8::8::8::[]
def Sd:List UInt8:=8::8::8::8::8::8::8::8::8::8::8::8::8::8::8::8::8::8::8::8::8::8::8::8::8::8::8::8::8::8::8::8::8::8::8::8::8::8::8::8::[]
def Se:List UInt8:=8::8::8::8::8::8::8::8::8::8::8::8::8::8::8::8::[]
def EF:ByteArray:=⟨(RZ++R'++R_++Sa++Sb++Sd++Se).toArray⟩
def Zm:IFunc:=⟨1,19,[.tmp 2],e [o1 2 (.mov (ci 0))] (.seq (e [a 3 0,o1 4 (.bin .geq 3 (.c (F Ac 65536)))] (.cond 4 (e [a 5 0,o1 6 (.bin .shr 5 (.c (F U 16))),a 0 6] (rg [o1 2 (.mov (ci 16))])) .skip)) (.seq (e [a 7 0,o1 8 (.bin .geq 7 (.c (F Ac 256)))] (.cond 8 (e [a 9 0,o1 10 (.bin .shr 9 (.c (F U 8))),a 0 10] (rg [a 11 2,oI 12 .add 11 8,a 2 12])) .skip)) (e [a 13 2,a 14 0,o1 15 (.cv .u8 14),o1 16 (.six (.c (.str EF)) 15),o1 17 (.cv .i64 16),oB 18 .add 13 17,a 2 18] .ret)))⟩
def Aka:List (Nat × Nat):=[]
theorem vS:AU c Aka Tryz.f150 Zm=true:=by kernel_rfl
def ME:ICode := .seq (e [a 19 5,oI 20 .geq 19 0] (.cond 20 .skip (.exit 0))) (.seq (.block 1 (.seq (.region true [a 23 0,a 24 5,oA 25 23 24 1,o1 26 (.ld 25 25 1 true),a 27 1,a 28 5,oA 29 27 28 1,o1 30 (.ld 29 29 1 true),oB 31 .neq 26 30]) (.cond 31 (.seq (.seq (.region true [a 32 0,a 33 5,oA 34 32 33 1,o1 35 (.ld 34 34 1 true),a 36 1,a 37 5,oA 38 36 37 1,o1 39 (.ld 38 38 1 true),oB 40 .lss 35 39]) (.cond 40 (e [o1 4 (.mov (ci (-1)))] .ret) .skip)) (e [o1 4 (.mov (ci 1))] .ret)) .skip))) (rg [a 21 5,oI 22 .sub 21 1,a 5 22]))
def Sf:IFunc:=⟨2,41,[.tmp 4],e [o1 4 (.mov (ci 0))] (.seq (e [a 6 0,o1 7 (.len 6),a 8 1,o1 9 (.len 8),oB 10 .neq 7 9] (.cond 10 (.seq (e [a 11 0,o1 12 (.len 11),a 13 1,o1 14 (.len 13),oB 15 .lss 12 14] (.cond 15 (e [o1 4 (.mov (ci (-1)))] .ret) .skip)) (e [o1 4 (.mov (ci 1))] .ret)) .skip)) (.seq (e [a 16 0,o1 17 (.len 16),oI 18 .sub 17 1,a 5 18] (.block 0 (.loop ME))) (e [o1 4 (.mov (ci 0))] .ret)))⟩
def Akb:List (Nat × Nat):=[]
theorem vT:AU c Akb Tryz.f151 Sf=true:=by kernel_rfl
def PQ:ICode := .seq (e [a 8 5,oI 9 .gtr 8 0,a 10 9,n 11 (.mov 1) 10 true,n 12 (.mov 5) 10 true,n 13 (.bin .sub 12 (ci 1)) 10 true,n 14 (.ixa 11 13 1) 10 true,n 15 (.ld 14 14 1 true) 10 true,n 16 (.bin .eql 15 (.c (F Ac 0))) 10 true,o1 17 (.pick 10 16 (cb false))] (.cond 17 .skip (.exit 0))) (.block 1 (rg [a 18 5,oI 19 .sub 18 1,a 5 19]))
def Sg:IFunc:=⟨2,29,[.cell 4 2 false],e [o1 4 (.new [D false,H 0 []] [])] (e [a 6 1,o1 7 (.len 6),a 5 7] (.seq (.block 0 (.loop PQ)) (.seq (e [a 20 5,oI 21 .eql 20 0] (.cond 21 (e [o1 22 (.bld [D false,H 0 []] []),oS 4 4 2 22] .ret) .skip)) (e [a 23 0,a 24 1,a 25 5,a 26 5,o1 27 (.sli 24 none (some 25) (some 26) 1),o1 28 (.bld [D false,H 0 []] [(0,1,.t 23),(1,1,.t 27)]),oS 4 4 2 28] .ret))))⟩
def Akc:List (Nat × Nat):=[]
theorem vU:AU c Akc Tryz.f152 Sg=true:=by kernel_rfl
def Vq:ICode := .seq (e [a 5 4,a 6 0,o1 7 (.len 6),oB 8 .lss 5 7] (.cond 8 .skip (.exit 0))) (.seq (.block 1 (rg [o1 11 (.tra 3),a 12 0,a 13 4,oA 14 12 13 2,oL 15 14 14 2,r 16 161 [15],o1 17 (.bls 1 [D false,H 0 []] [(0,2,.t 16)]),o1 18 (.apd true 11 17 2 1048576),o1 3 (.tra 18)])) (rg [a 9 4,oI 10 .add 9 1,a 4 10]))
def Vr:IFunc:=⟨1,21,[.tmp 2],e [o1 2 (.nlo 2)] (e [o1 3 (.nlo 2)] (.seq (e [o1 4 (.mov (ci 0))] (.block 0 (.loop Vq))) (e [o1 19 (.frz 3),o1 20 (.clo 46 [19]),o1 2 (.tra 20)] .ret)))⟩
def Akd:List (Nat × Nat):=[]
theorem vV:AU c Akd Tryz.f153 Vr=true:=by kernel_rfl
def Zn:IFunc:=⟨4,31,[.cell 8 2 false],e [o1 8 (.new [D false,H 0 []] [])] (.seq (e [a 9 0,a 10 2,o1 11 (.eqb false 9 10)] (.cond 11 (e [a 12 0,a 13 1,a 14 3,r 15 178 [13,14],r 16 152 [12,15],oS 8 8 2 16] .ret) .skip)) (.seq (e [a 17 1,a 18 3,r 19 151 [17,18],oI 20 .geq 19 0] (.cond 20 (e [a 21 0,a 22 1,a 23 3,r 24 179 [22,23],r 25 152 [21,24],oS 8 8 2 25] .ret) .skip)) (e [a 26 2,a 27 3,a 28 1,r 29 179 [27,28],r 30 152 [26,29],oS 8 8 2 30] .ret)))⟩
def Ake:List (Nat × Nat):=[]
theorem vW:AU c Ake Tryz.f154 Zn=true:=by kernel_rfl
def PR:IFunc:=⟨1,20,[.tmp 2],e [o1 2 (.nlo 2)] (.seq (e [a 4 0,o1 5 (.len 4),a 3 5] (e [a 6 3,oI 7 .gtr 6 0,a 8 7,n 9 (.mov 0) 8 true,n 10 (.mov 3) 8 true,n 11 (.bin .sub 10 (ci 1)) 8 true,n 12 (.ixa 9 11 2) 8 true,n 13 (.ld 12 12 2 false) 8 true,n 14 (.call 101 [13]) 8 true,n 15 (.bin .lss 14 (ci 0)) 8 true,o1 16 (.pick 8 15 (cb false))] (.cond 16 (e [a 17 0,o1 18 (.clo 117 [17]),o1 2 (.tra 18)] .ret) .skip))) (e [a 19 0,o1 2 (.tra 19)] .ret))⟩
def Akf:List (Nat × Nat):=[]
theorem vX:AU c Akf Tryz.f155 PR=true:=by kernel_rfl
def OJ:ICode:=e [oB 46 .lss 45 44] (.seq (.cond 46 .skip (.exit 2)) (.seq (.block 3 (e [a 47 45,a 10 47] (.region true [o1 48 (.cpy 5),a 49 10,o1 50 (.cpy 5),a 51 10,o1 52 (.ixo 50 5 51 2),oL 53 52 5 2,oL 54 6 6 2,r 55 112 [53,54],o1 56 (.ixo 48 5 49 2),oS 56 5 2 55]))) (rg [oI 57 .add 45 1,a 45 57])))
def OK:ICode:=e [oB 61 .lss 60 59] (.seq (.cond 61 .skip (.exit 4)) (.seq (.block 5 (e [a 62 60,a 11 62] (.region true [o1 63 (.cpy 7),a 64 11,o1 65 (.cpy 7),a 66 11,o1 67 (.ixo 65 7 66 2),oL 68 67 7 2,oL 69 6 6 2,r 70 112 [68,69],o1 71 (.ixo 63 7 64 2),oS 71 7 2 70]))) (rg [oI 72 .add 60 1,a 60 72])))
def OL:ICode:=e [oB 80 .lss 79 78] (.seq (.cond 80 .skip (.exit 6)) (.seq (.block 7 (e [a 81 79,a 12 81] (.region true [o1 82 (.cpy 5),a 83 8,a 84 12,oB 85 .add 83 84,o1 86 (.cpy 5),a 87 8,a 88 12,oB 89 .add 87 88,o1 90 (.ixo 86 5 89 2),oL 91 90 5 2,oL 92 9 9 2,a 93 1,a 94 12,oA 95 93 94 2,oL 96 95 95 2,r 97 112 [92,96],r 98 127 [91,97],o1 99 (.ixo 82 5 85 2),oS 99 5 2 98]))) (rg [oI 100 .add 79 1,a 79 100])))
def Vs:ICode := .seq (e [a 31 8,oI 32 .geq 31 0] (.cond 32 .skip (.exit 0))) (.seq (.block 1 (e [o1 35 (.cpy 5),a 36 8,a 37 1,o1 38 (.len 37),oB 39 .add 36 38,oI 40 .sub 39 1,o1 41 (.ixo 35 5 40 2),oL 42 41 5 2,o1 9 (.new [D false,H 0 []] []),oS 9 9 2 42] (.seq (e [o1 43 (.cpy 5),o1 44 (.lno 43 5),o1 45 (.mov (ci 0))] (.block 2 (.loop OJ))) (.seq (e [o1 58 (.cpy 7),o1 59 (.lno 58 7),o1 60 (.mov (ci 0))] (.block 4 (.loop OK))) (e [o1 73 (.cpy 7),a 74 8,oL 75 9 9 2,o1 76 (.ixo 73 7 74 2),oS 76 7 2 75] (e [a 77 1,o1 78 (.len 77),o1 79 (.mov (ci 0))] (.block 6 (.loop OL)))))))) (rg [a 33 8,oI 34 .sub 33 1,a 8 34]))
def Vt:IFunc:=⟨2,103,[.tmp 4],e [o1 4 (.nlo 2)] (e [a 13 0,o1 14 (.clo 66 [13]),⟨some 5,.tra 14,none,[21,35,41,43,48,50,52,56,82,86,90,99]⟩] (e [a 15 1,a 16 1,o1 17 (.len 16),oI 18 .sub 17 1,oA 19 15 18 2,oL 20 19 19 2,o1 6 (.new [D false,H 0 []] []),oS 6 6 2 20] (e [o1 21 (.cpy 5),o1 22 (.lno 21 5),a 23 1,o1 24 (.len 23),oB 25 .sub 22 24,oI 26 .add 25 1,o1 27 (.mks [D false,H 0 []] 26),⟨some 7,.tra 27,none,[28,58,63,65,67,71,73,76]⟩] (.seq (e [o1 28 (.cpy 7),o1 29 (.lno 28 7),oI 30 .sub 29 1,a 8 30] (.block 0 (.loop Vs))) (e [o1 101 (.frz 7),o1 102 (.clo 115 [101]),o1 4 (.tra 102)] .ret)))))⟩
def Akg:List (Nat × Nat):=[(21,5),(28,7),(35,5),(41,5),(43,5),(48,5),(50,5),(52,5),(56,5),(58,7),(63,7),(65,7),(67,7),(71,7),(73,7),(76,7),(82,5),(86,5),(90,5),(99,5)]
theorem vY:AU c Akg Tryz.f156 Vt=true:=by kernel_rfl
def Sh:ICode := .seq (e [a 8 4,oI 9 .geq 8 0,a 10 9,n 11 (.ld 3 3 2 false) 10 true,n 12 (.call 102 [11]) 10 true,n 13 (.bin .neq 12 (ci 1)) 10 true,o1 14 (.pick 10 13 (cb false))] (.cond 14 .skip (.exit 0))) (.seq (.block 1 (.region true [oL 17 3 3 2,a 18 0,a 19 4,oA 20 18 19 2,oL 21 20 20 2,r 22 159 [17,21],oS 3 3 2 22])) (rg [a 15 4,oI 16 .sub 15 1,a 4 16]))
def Vu:IFunc:=⟨1,24,[.cell 2 2 false],e [o1 2 (.new [D false,H 0 []] [])] (e [o1 3 (.new [D false,H 0 []] [])] (.seq (e [a 5 0,o1 6 (.len 5),oI 7 .sub 6 1,a 4 7] (.block 0 (.loop Sh))) (e [oL 23 3 3 2,oS 2 2 2 23] .ret)))⟩
def Akh:List (Nat × Nat):=[]
theorem vZ:AU c Akh Tryz.f157 Vu=true:=by kernel_rfl
def Vv:IFunc:=⟨2,36,[.cell 4 2 false,.cell 5 2 false],e [o1 2 (.box 0 []),o1 3 (.box 1 []),o1 4 (.new [D false,H 0 []] []),o1 5 (.new [D false,H 0 []] [])] (e [oL 13 2 2 2,r 14 143 [13],a 12 14,oE 15 12 0,oE 16 12 1,a 6 15,a 7 16] (e [oL 18 3 3 2,r 19 143 [18],a 17 19,oE 20 17 0,oE 21 17 1,a 8 20,a 9 21] (e [a 23 7,a 24 9,r 25 180 [23,24],a 22 25,oE 26 22 0,oE 27 22 1,a 10 26,a 11 27] (e [a 28 6,a 29 8,o1 30 (.eqb true 28 29),a 31 10,r 32 152 [30,31],a 33 6,a 34 11,r 35 152 [33,34],oS 4 4 2 32,oS 5 5 2 35] .ret))))⟩
def Aki:List (Nat × Nat):=[]
theorem wA:AU c Aki Tryz.f158 Vv=true:=by kernel_rfl
def LD:ICode := .seq (e [o1 13 (.adr 6 6 1),o1 14 (.ld 13 6 1 true),o1 15 (.len 14),oI 16 .gtr 15 0] (.cond 16 .skip (.exit 0))) (.block 1 (.seq (e [o1 17 (.adr 5 5 1),o1 18 (.ld 17 5 1 true),o1 19 (.len 18),oI 20 .leq 19 2,a 21 20,n 22 (.adr 6 6 1) 21 true,n 23 (.ld 22 6 1 true) 21 true,n 24 (.len 23) 21 true,n 25 (.bin .leq 24 (ci 2)) 21 true,o1 26 (.pick 21 25 (cb false))] (.cond 26 (.seq (.region true [oL 27 5 5 2,r 28 183 [27],oL 29 6 6 2,r 30 183 [29],r 31 182 [28,30],r 32 181 [31],oS 4 4 2 32]) .ret) .skip)) (e [oL 34 5 5 2,oL 35 6 6 2,r 36 158 [34,35],a 33 36,oE 37 33 0,oE 38 33 1,o1 7 (.new [D false,H 0 []] []),o1 8 (.new [D false,H 0 []] []),oS 7 7 2 37,oS 8 8 2 38] (.region true [oL 39 6 6 2,oL 40 8 8 2,oS 5 5 2 39,oS 6 6 2 40]))))
def Si:IFunc:=⟨2,42,[.cell 4 2 false],e [o1 2 (.box 0 []),o1 3 (.box 1 []),o1 4 (.new [D false,H 0 []] [])] (.seq (.region true [oL 9 2 2 2,r 10 160 [9],oL 11 3 3 2,r 12 160 [11],o1 5 (.new [D false,H 0 []] [17]),o1 6 (.new [D false,H 0 []] [13,22]),oS 5 5 2 10,oS 6 6 2 12]) (.seq (.block 0 (.loop LD)) (e [oL 41 5 5 2,oS 4 4 2 41] .ret)))⟩
def Akj:List (Nat × Nat):=[(13,6),(17,5),(22,6)]
theorem wB:AU c Akj Tryz.f159 Si=true:=by kernel_rfl
def Vw:IFunc:=⟨1,13,[.cell 2 2 false],e [o1 1 (.box 0 []),o1 2 (.new [D false,H 0 []] [])] (e [oL 6 1 1 2,r 7 143 [6],a 5 7,oE 8 5 0,oE 9 5 1,a 3 8,a 4 9] (e [a 10 4,o1 11 (.apd false (.c (.nil)) 10 1 35184372088832),o1 12 (.call 152 [cb false,11]),oS 2 2 2 12] .ret))⟩
def Akk:List (Nat × Nat):=[]
theorem wC:AU c Akk Tryz.f160 Vw=true:=by kernel_rfl
def Vx:IFunc:=⟨1,9,[.cell 2 2 false],e [o1 1 (.box 0 [3,6]),o1 2 (.new [D false,H 0 []] [])] (e [o1 3 (.adr 1 1 0),o1 4 (.ld 3 1 1 true),o1 5 (.un .not 4),o1 6 (.adr 1 1 1),o1 7 (.ld 6 1 1 true),r 8 98 [5,7],oS 2 2 2 8] .ret)⟩
def Akl:List (Nat × Nat):=[(3,1),(6,1)]
theorem wD:AU c Akl Tryz.f161 Vx=true:=by kernel_rfl
def PS:ICode := .seq (e [a 10 4,oI 11 .gtr 10 0,a 12 11,n 13 (.adr 3 3 1) 12 true,n 14 (.ld 13 3 1 true) 12 true,n 15 (.len 14) 12 true,n 16 (.bin .eql 15 (ci 0)) 12 true,n 17 (.mov 16) 12 true,n 18 (.adr 3 3 1) 17 false,n 19 (.ld 18 3 1 true) 17 false,n 20 (.ixa 19 (ci 0) 1) 17 false,n 21 (.ld 20 20 1 true) 17 false,n 22 (.bin .and 21 (.c (F Ac 1))) 17 false,n 23 (.bin .eql 22 (.c (F Ac 0))) 17 false,n 24 (.pick 17 (cb true) 23) 12 true,o1 25 (.pick 12 24 (cb false))] (.cond 25 .skip (.exit 0))) (.block 1 (rg [oL 26 3 3 2,o1 27 (.call 128 [26,.c (F O 1)]),a 28 4,oI 29 .sub 28 1,oS 3 3 2 27,a 4 29]))
def Vy:IFunc:=⟨1,33,[.cell 2 3 false],e [o1 1 (.box 0 [5,8]),o1 2 (.new [D false,H 0 [],F O 0] [])] (.seq (.region true [o1 5 (.adr 1 1 0),oL 6 5 1 2,r 7 97 [6],o1 8 (.adr 1 1 2),o1 9 (.ld 8 1 1 true),o1 3 (.new [D false,H 0 []] [13,18]),oS 3 3 2 7,a 4 9]) (.seq (.block 0 (.loop PS)) (e [oL 30 3 3 2,a 31 4,o1 32 (.bld [D false,H 0 [],F O 0] [(0,2,.t 30),(2,1,.t 31)]),oS 2 2 3 32] .ret)))⟩
def Akm:List (Nat × Nat):=[(5,1),(8,1),(13,3),(18,3)]
theorem wE:AU c Akm Tryz.f162 Vy=true:=by kernel_rfl
def Lb:ICode := .seq (e [a 24 10,a 25 7,oB 26 .lss 24 25,a 27 26,n 28 (.mov 10) 27 true,n 29 (.mov 6) 27 true,n 30 (.len 29) 27 true,n 31 (.bin .lss 28 30) 27 true,o1 32 (.pick 27 31 (cb false))] (.cond 32 .skip (.exit 0))) (.seq (.block 1 (rg [a 35 9,a 36 35,n 37 (.mov 6) 36 false,n 38 (.mov 10) 36 false,n 39 (.ixa 37 38 1) 36 false,n 40 (.ld 39 39 1 true) 36 false,n 41 (.bin .neq 40 (.c (F Ac 0))) 36 false,o1 42 (.pick 36 (cb true) 41),a 9 42])) (rg [a 33 10,oI 34 .add 33 1,a 10 34]))
def J_:ICode := .seq (e [a 44 12,a 45 6,o1 46 (.len 45),oB 47 .lss 44 46] (.cond 47 .skip (.exit 2))) (.seq (.block 3 (e [a 50 6,a 51 12,oA 52 50 51 1,o1 53 (.ld 52 52 1 true),o1 54 (.cv .u64 53),a 13 54] (.seq (e [a 55 12,oI 56 .add 55 1,a 57 6,o1 58 (.len 57),oB 59 .lss 56 58] (.cond 59 (rg [a 60 13,a 61 6,a 62 12,oI 63 .add 62 1,oA 64 61 63 1,o1 65 (.ld 64 64 1 true),o1 66 (.cv .u64 65),o1 67 (.bin .shl 66 (.c (F U 32))),oB 68 .or 60 67,a 13 68]) .skip)) (rg [o1 69 (.tra 11),a 70 13,a 71 8,oB 72 .shr 70 71,o1 73 (.cv .u32 72),o1 74 (.bls 1 [F Ac 0] [(0,1,.t 73)]),o1 75 (.apd true 69 74 1 35184372088832),o1 11 (.tra 75)])))) (rg [a 48 12,oI 49 .add 48 1,a 12 49]))
def Sj:IFunc:=⟨2,103,[.cell 4 2 false],e [o1 2 (.box 0 []),o1 4 (.new [D false,H 0 []] [])] (e [oL 15 2 2 2,r 16 143 [15],a 14 16,oE 17 14 0,oE 18 14 1,a 5 17,a 6 18] (e [a 19 1,oI 20 .quo 19 32,a 21 1,oI 22 .rem 21 32,o1 23 (.cv .u64 22),a 7 20,a 8 23] (e [o1 9 (.mov (cb false))] (.seq (e [o1 10 (.mov (ci 0))] (.block 0 (.loop Lb))) (e [o1 11 (.nlo 1)] (.seq (e [a 43 7,a 12 43] (.block 2 (.loop J_))) (.seq (e [a 76 7,a 77 6,o1 78 (.len 77),oB 79 .lss 76 78,a 80 79,n 81 (.mov 6) 80 true,n 82 (.mov 7) 80 true,n 83 (.ixa 81 82 1) 80 true,n 84 (.ld 83 83 1 true) 80 true,n 85 (.mov 8) 80 true,n 86 (.bin .shl (.c (F Ac 1)) 85) 80 true,n 87 (.bin .sub 86 (.c (F Ac 1))) 80 true,n 88 (.bin .and 84 87) 80 true,n 89 (.bin .neq 88 (.c (F Ac 0))) 80 true,o1 90 (.pick 80 89 (cb false))] (.cond 90 (rg [o1 9 (.mov (cb true))]) .skip)) (.seq (e [a 91 5,a 92 91,n 93 (.mov 9) 92 true,o1 94 (.pick 92 93 (cb false))] (.cond 94 (e [o1 95 (.frz 11),r 96 184 [95],o1 97 (.bls 1 [F Ac 0] [(0,1,.c (F Ac 1))]),r 98 178 [96,97],o1 99 (.call 152 [cb true,98]),oS 4 4 2 99] .ret) .skip)) (e [a 100 5,o1 101 (.frz 11),r 102 152 [100,101],oS 4 4 2 102] .ret)))))))))⟩
def Akn:List (Nat × Nat):=[]
theorem wF:AU c Akn Tryz.f163 Sj=true:=by kernel_rfl
def QN:ICode := .seq (e [oL 15 6 6 2,r 16 79 [15],oI 17 .neq 16 0] (.cond 17 .skip (.exit 0))) (.block 1 (e [oL 19 5 5 2,oL 20 6 6 2,r 21 138 [19,20],a 18 21,oE 22 18 0,oE 23 18 1,o1 7 (.new [D false,H 0 []] []),o1 8 (.new [D false,H 0 []] []),oS 7 7 2 22,oS 8 8 2 23] (.region true [oL 24 6 6 2,oL 25 8 8 2,oS 5 5 2 24,oS 6 6 2 25])))
def Vz:IFunc:=⟨2,27,[.cell 4 2 false],e [o1 2 (.box 0 [9]),o1 3 (.box 1 [12]),o1 4 (.new [D false,H 0 []] [])] (.seq (.region true [o1 9 (.adr 2 2 1),o1 10 (.ld 9 2 1 true),o1 11 (.call 98 [cb false,10]),o1 12 (.adr 3 3 1),o1 13 (.ld 12 3 1 true),o1 14 (.call 98 [cb false,13]),o1 5 (.new [D false,H 0 []] []),o1 6 (.new [D false,H 0 []] []),oS 5 5 2 11,oS 6 6 2 14]) (.seq (.block 0 (.loop QN)) (e [oL 26 5 5 2,oS 4 4 2 26] .ret)))⟩
def Ako:List (Nat × Nat):=[(9,2),(12,3)]
theorem wG:AU c Ako Tryz.f164 Vz=true:=by kernel_rfl
def QO:ICode := .seq (e [a 73 1,a 74 1,o1 75 (.len 74),oI 76 .sub 75 1,oA 77 73 76 1,o1 78 (.ld 77 77 1 true),a 79 9,o1 80 (.cv .u64 79),oB 81 .shl 78 80,o1 82 (.bin .and 81 (.c (F Ac 2147483648))),o1 83 (.bin .eql 82 (.c (F Ac 0)))] (.cond 83 .skip (.exit 2))) (.block 3 (rg [a 84 9,oI 85 .add 84 1,a 9 85]))
def QP:ICode := .seq (e [a 39 8,oI 40 .geq 39 0] (.cond 40 .skip (.exit 0))) (.seq (.block 1 (e [a 43 7,o1 44 (.bin .shl 43 (.c (F U 32))),a 45 0,a 46 8,oA 47 45 46 1,o1 48 (.ld 47 47 1 true),o1 49 (.cv .u64 48),oB 50 .or 44 49,a 7 50] (e [o1 51 (.cpy 6),a 52 8,a 53 7,a 54 1,o1 55 (.ixa 54 (ci 0) 1),o1 56 (.ld 55 55 1 true),o1 57 (.cv .u64 56),oB 58 .quo 53 57,o1 59 (.cv .u32 58),o1 60 (.ixo 51 6 52 1),oS 60 6 1 59] (rg [a 61 7,a 62 1,o1 63 (.ixa 62 (ci 0) 1),o1 64 (.ld 63 63 1 true),o1 65 (.cv .u64 64),oB 66 .rem 61 65,a 7 66])))) (rg [a 41 8,oI 42 .sub 41 1,a 8 42]))
def QQ:ICode := .seq (e [a 256 24,a 257 12,oB 258 .lss 256 257] (.cond 258 .skip (.exit 10))) (.seq (.block 11 (.seq (.region true [a 261 23,o1 262 (.cpy 11),a 263 24,a 264 14,oB 265 .add 263 264,o1 266 (.ixo 262 11 265 1),o1 267 (.ld 266 11 1 true),o1 268 (.cv .u64 267),a 269 10,a 270 24,oA 271 269 270 1,o1 272 (.ld 271 271 1 true),o1 273 (.cv .u64 272),oB 274 .add 268 273,oB 275 .add 261 274,a 23 275]) (e [o1 276 (.cpy 11),a 277 24,a 278 14,oB 279 .add 277 278,a 280 23,o1 281 (.cv .u32 280),o1 282 (.ixo 276 11 279 1),oS 282 11 1 281] (rg [a 283 23,o1 284 (.bin .shr 283 (.c (F U 32))),a 23 284])))) (rg [a 259 24,oI 260 .add 259 1,a 24 260]))
def OM:ICode := .seq (e [a 196 20,a 197 12,oB 198 .lss 196 197] (.cond 198 .skip (.exit 8))) (.seq (.block 9 (e [a 201 19,a 202 16,a 203 10,a 204 20,oA 205 203 204 1,o1 206 (.ld 205 205 1 true),o1 207 (.cv .u64 206),oB 208 .mul 202 207,oB 209 .add 201 208,a 19 209] (e [o1 210 (.cpy 11),a 211 20,a 212 14,oB 213 .add 211 212,o1 214 (.ixo 210 11 213 1),o1 215 (.ld 214 11 1 true),o1 216 (.cv .u64 215),a 217 19,o1 218 (.bin .and 217 (.c (F U 4294967295))),oB 219 .sub 216 218,a 220 18,oB 221 .sub 219 220,a 21 221] (e [o1 222 (.cpy 11),a 223 20,a 224 14,oB 225 .add 223 224,a 226 21,o1 227 (.cv .u32 226),o1 228 (.ixo 222 11 225 1),oS 228 11 1 227] (e [a 229 21,o1 230 (.bin .shr 229 (.c (F U 63))),a 18 230] (rg [a 231 19,o1 232 (.bin .shr 231 (.c (F U 32))),a 19 232])))))) (rg [a 199 20,oI 200 .add 199 1,a 20 200]))
def HF:ICode := .seq (.seq (.region true [a 156 16,o1 157 (.bin .geq 156 (.c (F U 4294967296))),a 158 157,n 159 (.mov 17) 158 false,n 160 (.bin .lss 159 (.c (F U 4294967296))) 158 false,n 161 (.mov 160) 158 false,n 162 (.mov 16) 161 true,n 163 (.mov 10) 161 true,n 164 (.mov 12) 161 true,n 165 (.bin .sub 164 (ci 2)) 161 true,n 166 (.ixa 163 165 1) 161 true,n 167 (.ld 166 166 1 true) 161 true,n 168 (.cv .u64 167) 161 true,n 169 (.bin .mul 162 168) 161 true,n 170 (.mov 17) 161 true,n 171 (.bin .shl 170 (.c (F U 32))) 161 true,n 172 (.cpy 11) 161 true,n 173 (.mov 14) 161 true,n 174 (.mov 12) 161 true,n 175 (.bin .add 173 174) 161 true,n 176 (.bin .sub 175 (ci 2)) 161 true,n 177 (.ixo 172 11 176 1) 161 true,n 178 (.ld 177 11 1 true) 161 true,n 179 (.cv .u64 178) 161 true,n 180 (.bin .or 171 179) 161 true,n 181 (.bin .gtr 169 180) 161 true,n 182 (.pick 161 181 (cb false)) 158 false,o1 183 (.pick 158 (cb true) 182)]) (.cond 183 .skip (.exit 6))) (.block 7 (e [a 184 16,o1 185 (.bin .sub 184 (.c (F U 1))),a 16 185] (e [a 186 17,a 187 10,a 188 12,oI 189 .sub 188 1,oA 190 187 189 1,o1 191 (.ld 190 190 1 true),o1 192 (.cv .u64 191),oB 193 .add 186 192,a 17 193] (e [a 194 17,o1 195 (.bin .geq 194 (.c (F U 4294967296)))] (.cond 195 (.exit 6) .skip)))))
def NV:ICode := .seq (e [a 119 14,oI 120 .geq 119 0] (.cond 120 .skip (.exit 4))) (.seq (.block 5 (.seq (.region true [o1 123 (.cpy 11),a 124 14,a 125 12,oB 126 .add 124 125,o1 127 (.ixo 123 11 126 1),o1 128 (.ld 127 11 1 true),o1 129 (.cv .u64 128),o1 130 (.bin .shl 129 (.c (F U 32))),o1 131 (.cpy 11),a 132 14,a 133 12,oB 134 .add 132 133,oI 135 .sub 134 1,o1 136 (.ixo 131 11 135 1),o1 137 (.ld 136 11 1 true),o1 138 (.cv .u64 137),oB 139 .or 130 138,a 15 139]) (.seq (.region true [a 140 15,a 141 10,a 142 12,oI 143 .sub 142 1,oA 144 141 143 1,o1 145 (.ld 144 144 1 true),o1 146 (.cv .u64 145),oB 147 .quo 140 146,a 148 15,a 149 10,a 150 12,oI 151 .sub 150 1,oA 152 149 151 1,o1 153 (.ld 152 152 1 true),o1 154 (.cv .u64 153),oB 155 .rem 148 154,a 16 147,a 17 155]) (.seq (.block 6 (.loop HF)) (e [o1 18 (.mov (.c (F U 0))),o1 19 (.mov (.c (F U 0)))] (.seq (e [o1 20 (.mov (ci 0))] (.block 8 (.loop OM))) (e [o1 233 (.cpy 11),a 234 14,a 235 12,oB 236 .add 234 235,o1 237 (.ixo 233 11 236 1),o1 238 (.ld 237 11 1 true),o1 239 (.cv .u64 238),a 240 19,oB 241 .sub 239 240,a 242 18,oB 243 .sub 241 242,a 22 243] (e [o1 244 (.cpy 11),a 245 14,a 246 12,oB 247 .add 245 246,a 248 22,o1 249 (.cv .u32 248),o1 250 (.ixo 244 11 247 1),oS 250 11 1 249] (.seq (e [a 251 22,o1 252 (.bin .shr 251 (.c (F U 63))),o1 253 (.bin .neq 252 (.c (F U 0)))] (.cond 253 (e [a 254 16,o1 255 (.bin .sub 254 (.c (F U 1))),a 16 255] (e [o1 23 (.mov (.c (F U 0)))] (.seq (e [o1 24 (.mov (ci 0))] (.block 10 (.loop QQ))) (rg [o1 285 (.cpy 11),a 286 14,a 287 12,oB 288 .add 286 287,o1 289 (.ixo 285 11 288 1),o1 290 (.ld 289 11 1 true),a 291 23,o1 292 (.cv .u32 291),oB 293 .add 290 292,o1 294 (.ixo 285 11 288 1),oS 294 11 1 293])))) .skip)) (rg [o1 295 (.cpy 13),a 296 14,a 297 16,o1 298 (.cv .u32 297),o1 299 (.ixo 295 13 296 1),oS 299 13 1 298])))))))))) (rg [a 121 14,oI 122 .sub 121 1,a 14 122]))
def PT:IFunc:=⟨2,307,[.tmp 4,.tmp 5],e [o1 4 (.nlo 1),o1 5 (.nlo 1)] (.seq (e [a 25 0,a 26 1,r 27 134 [25,26],oI 28 .lss 27 0] (.cond 28 (e [a 29 0,o1 4 (.nlo 1),o1 5 (.tra 29)] .ret) .skip)) (.seq (e [a 30 1,o1 31 (.len 30),oI 32 .eql 31 1] (.cond 32 (e [a 33 0,o1 34 (.len 33),o1 35 (.mks [F Ac 0] 34),⟨some 6,.tra 35,none,[51,60]⟩] (e [o1 7 (.mov (.c (F U 0)))] (.seq (e [a 36 0,o1 37 (.len 36),oI 38 .sub 37 1,a 8 38] (.block 0 (.loop QP))) (e [o1 67 (.frz 6),o1 68 (.clo 99 [67]),a 69 7,o1 70 (.cv .u32 69),o1 71 (.bls 1 [F Ac 0] [(0,1,.t 70)]),o1 72 (.clo 99 [71]),o1 4 (.tra 68),o1 5 (.tra 72)] .ret)))) .skip)) (e [o1 9 (.mov (ci 0))] (.seq (.block 2 (.loop QO)) (e [a 86 1,o1 87 (.bld [D false,H 0 []] [(1,1,.t 86)]),a 88 9,r 89 84 [87,88],o1 90 (.fld 89 1 1 true),a 10 90] (e [a 91 0,o1 92 (.bld [D false,H 0 []] [(1,1,.t 91)]),a 93 9,o1 94 (.cln 84 [92,93] []),o1 95 (.fdo 94),o1 96 (.bls 2 [F Ac 0,F Ac 0] [(0,1,.c (F Ac 0)),(1,1,.c (F Ac 0))]),o1 97 (.apd true 95 96 1 35184372088832),⟨some 11,.tra 97,none,[109,114,123,127,131,136,172,177,210,214,222,228,233,237,244,250,262,266,276,282,285,289,294]⟩] (e [o1 98 (.tra 11),a 99 0,o1 100 (.len 99),oI 101 .add 100 1,a 102 1,o1 103 (.len 102),oI 104 .add 103 1,o1 105 (.mx [101,104]),o1 106 (.slo 98 105 1),⟨some 11,.tra 106,none,[109,114,123,127,131,136,172,177,210,214,222,228,233,237,244,250,262,266,276,282,285,289,294]⟩] (e [a 107 10,o1 108 (.len 107),a 12 108] (e [o1 109 (.cpy 11),o1 110 (.lno 109 11),a 111 12,oB 112 .sub 110 111,o1 113 (.mks [F Ac 0] 112),⟨some 13,.tra 113,none,[295,299]⟩] (.seq (e [o1 114 (.cpy 11),o1 115 (.lno 114 11),a 116 12,oB 117 .sub 115 116,oI 118 .sub 117 1,a 14 118] (.block 4 (.loop NV))) (e [o1 300 (.frz 13),o1 301 (.clo 99 [300]),o1 302 (.frz 11),o1 303 (.bld [D false,H 0 []] [(1,1,.t 302)]),a 304 9,r 305 128 [303,304],o1 306 (.fld 305 1 1 true),o1 4 (.tra 301),o1 5 (.tra 306)] .ret)))))))))))⟩
def Akp:List (Nat × Nat):=[(51,6),(60,6),(109,11),(114,11),(123,11),(127,11),(131,11),(136,11),(172,11),(177,11),(210,11),(214,11),(222,11),(228,11),(233,11),(237,11),(244,11),(250,11),(262,11),(266,11),(276,11),(282,11),(285,11),(289,11),(294,11),(295,13),(299,13)]
theorem wH:AU c Akp Tryz.f165 PT=true:=by kernel_rfl
def V0:IFunc:=⟨1,12,[.tmp 2],e [o1 1 (.box 0 []),o1 2 (.mov (ci 0))] (e [oL 6 1 1 2,r 7 143 [6],a 5 7,oE 8 5 0,oE 9 5 1,a 3 8,a 4 9] (e [a 10 4,o1 11 (.len 10),a 2 11] .ret))⟩
def Akq:List (Nat × Nat):=[]
theorem wI:AU c Akq Tryz.f177 V0=true:=by kernel_rfl
def NW:ICode:=e [oB 23 .lss 22 21] (.seq (.cond 23 .skip (.exit 0)) (.seq (.block 1 (e [a 24 22,a 7 24] (e [a 25 0,a 26 7,oA 27 25 26 1,o1 28 (.ld 27 27 1 true),o1 29 (.cv .u64 28),a 30 6,oB 31 .add 29 30,a 8 31] (.seq (e [a 32 7,a 33 1,o1 34 (.len 33),oB 35 .lss 32 34] (.cond 35 (rg [a 36 8,a 37 1,a 38 7,oA 39 37 38 1,o1 40 (.ld 39 39 1 true),o1 41 (.cv .u64 40),oB 42 .add 36 41,a 8 42]) .skip)) (rg [o1 43 (.cpy 5),a 44 7,a 45 8,o1 46 (.cv .u32 45),a 47 8,o1 48 (.bin .shr 47 (.c (F U 32))),o1 49 (.ixo 43 5 44 1),oS 49 5 1 46,a 6 48]))))) (rg [oI 50 .add 22 1,a 22 50])))
def Sk:IFunc:=⟨2,58,[.tmp 4],e [o1 4 (.nlo 1)] (.seq (e [a 9 0,o1 10 (.len 9),a 11 1,o1 12 (.len 11),oB 13 .lss 10 12] (.cond 13 (rg [a 14 1,a 15 0,a 0 14,a 1 15]) .skip)) (e [a 16 0,o1 17 (.len 16),oI 18 .add 17 1,o1 19 (.mks [F Ac 0] 18),⟨some 5,.tra 19,none,[43,49,51,56]⟩] (e [o1 6 (.mov (.c (F U 0)))] (.seq (e [a 20 0,o1 21 (.len 20),o1 22 (.mov (ci 0))] (.block 0 (.loop NW))) (e [o1 51 (.cpy 5),a 52 0,o1 53 (.len 52),a 54 6,o1 55 (.cv .u32 54),o1 56 (.ixo 51 5 53 1),oS 56 5 1 55] (e [o1 57 (.tra 5),o1 4 (.tra 57)] .ret))))))⟩
def Akr:List (Nat × Nat):=[(43,5),(49,5),(51,5),(56,5)]
theorem wJ:AU c Akr Tryz.f178 Sk=true:=by kernel_rfl
def Sl:ICode:=e [oB 15 .lss 14 13] (.seq (.cond 15 .skip (.exit 0)) (.seq (.block 1 (e [a 16 14,a 7 16] (e [a 17 0,a 18 7,oA 19 17 18 1,o1 20 (.ld 19 19 1 true),o1 21 (.cv .u64 20),a 22 6,oB 23 .sub 21 22,a 8 23] (.seq (e [a 24 7,a 25 1,o1 26 (.len 25),oB 27 .lss 24 26] (.cond 27 (rg [a 28 8,a 29 1,a 30 7,oA 31 29 30 1,o1 32 (.ld 31 31 1 true),o1 33 (.cv .u64 32),oB 34 .sub 28 33,a 8 34]) .skip)) (rg [o1 35 (.cpy 5),a 36 7,a 37 8,o1 38 (.cv .u32 37),a 39 8,o1 40 (.bin .shr 39 (.c (F U 63))),o1 41 (.ixo 35 5 36 1),oS 41 5 1 38,a 6 40]))))) (rg [oI 42 .add 14 1,a 14 42])))
def V3:IFunc:=⟨2,44,[.tmp 4],e [o1 4 (.nlo 1)] (e [a 9 0,o1 10 (.len 9),o1 11 (.mks [F Ac 0] 10),⟨some 5,.tra 11,none,[35,41]⟩] (e [o1 6 (.mov (.c (F U 0)))] (.seq (e [a 12 0,o1 13 (.len 12),o1 14 (.mov (ci 0))] (.block 0 (.loop Sl))) (e [o1 43 (.tra 5),o1 4 (.tra 43)] .ret))))⟩
def Aks:List (Nat × Nat):=[(35,5),(41,5)]
theorem wK:AU c Aks Tryz.f179 V3=true:=by kernel_rfl
def QR:ICode := .seq (e [a 202 26,a 203 11,oB 204 .lss 202 203] (.cond 204 .skip (.exit 6))) (.seq (.block 7 (.seq (.region true [o1 207 (.cpy 9),a 208 26,a 209 15,oB 210 .add 208 209,o1 211 (.ixo 207 9 210 1),o1 212 (.ld 211 9 1 true),o1 213 (.cv .u64 212),a 214 10,a 215 26,oA 216 214 215 1,o1 217 (.ld 216 216 1 true),o1 218 (.cv .u64 217),oB 219 .add 213 218,a 220 25,oB 221 .add 219 220,a 27 221]) (rg [o1 222 (.cpy 9),a 223 26,a 224 15,oB 225 .add 223 224,a 226 27,o1 227 (.cv .u32 226),a 228 27,o1 229 (.bin .shr 228 (.c (F U 32))),o1 230 (.ixo 222 9 225 1),oS 230 9 1 227,a 25 229]))) (rg [a 205 26,oI 206 .add 205 1,a 26 206]))
def MF:ICode := .seq (e [a 248 28,a 249 11,oB 250 .lss 248 249] (.cond 250 .skip (.exit 8))) (.seq (.block 9 (e [o1 253 (.cpy 5),a 254 28,o1 255 (.cpy 9),a 256 28,o1 257 (.ixo 255 9 256 1),o1 258 (.ld 257 9 1 true),a 259 8,o1 260 (.cv .u64 259),oB 261 .shr 258 260,o1 262 (.ixo 253 5 254 1),oS 262 5 1 261] (e [a 263 8,oI 264 .gtr 263 0] (.cond 264 (.region true [o1 265 (.cpy 5),a 266 28,o1 267 (.ixo 265 5 266 1),o1 268 (.ld 267 5 1 true),o1 269 (.cpy 9),a 270 28,oI 271 .add 270 1,o1 272 (.ixo 269 9 271 1),o1 273 (.ld 272 9 1 true),a 274 8,o1 275 (.bin .sub (ci 32) 274),o1 276 (.cv .u64 275),oB 277 .shl 273 276,oB 278 .or 268 277,o1 279 (.ixo 265 5 266 1),oS 279 5 1 278]) .skip)))) (rg [a 251 28,oI 252 .add 251 1,a 28 252]))
def ON:ICode := .seq (e [a 141 21,a 142 11,oB 143 .lss 141 142] (.cond 143 .skip (.exit 4))) (.seq (.block 5 (e [a 146 17,a 147 10,a 148 21,oA 149 147 148 1,o1 150 (.ld 149 149 1 true),o1 151 (.cv .u64 150),oB 152 .mul 146 151,a 153 20,oB 154 .add 152 153,a 22 154] (e [a 155 22,o1 156 (.bin .shr 155 (.c (F U 32))),a 20 156] (e [o1 157 (.cpy 9),a 158 21,a 159 15,oB 160 .add 158 159,o1 161 (.ixo 157 9 160 1),o1 162 (.ld 161 9 1 true),o1 163 (.cv .u64 162),a 164 22,o1 165 (.cv .u32 164),o1 166 (.cv .u64 165),oB 167 .sub 163 166,a 168 19,oB 169 .sub 167 168,a 23 169] (rg [o1 170 (.cpy 9),a 171 21,a 172 15,oB 173 .add 171 172,a 174 23,o1 175 (.cv .u32 174),a 176 23,o1 177 (.bin .shr 176 (.c (F U 63))),o1 178 (.ixo 170 9 173 1),oS 178 9 1 175,a 19 177]))))) (rg [a 144 21,oI 145 .add 144 1,a 21 145]))
def HG:ICode := .seq (e [a 115 17,o1 116 (.bin .geq 115 (.c (F U 4294967296))),a 117 116,n 118 (.mov 17) 117 false,n 119 (.mov 14) 117 false,n 120 (.bin .mul 118 119) 117 false,n 121 (.mov 18) 117 false,n 122 (.bin .shl 121 (.c (F U 32))) 117 false,n 123 (.cpy 9) 117 false,n 124 (.mov 15) 117 false,n 125 (.mov 11) 117 false,n 126 (.bin .add 124 125) 117 false,n 127 (.bin .sub 126 (ci 2)) 117 false,n 128 (.ixo 123 9 127 1) 117 false,n 129 (.ld 128 9 1 true) 117 false,n 130 (.cv .u64 129) 117 false,n 131 (.bin .or 122 130) 117 false,n 132 (.bin .gtr 120 131) 117 false,o1 133 (.pick 117 (cb true) 132)] (.cond 133 .skip (.exit 2))) (.block 3 (e [a 134 17,o1 135 (.bin .sub 134 (.c (F U 1))),a 17 135] (e [a 136 18,a 137 13,oB 138 .add 136 137,a 18 138] (e [a 139 18,o1 140 (.bin .geq 139 (.c (F U 4294967296)))] (.cond 140 (.exit 2) .skip)))))
def MG:ICode := .seq (e [a 88 15,oI 89 .geq 88 0] (.cond 89 .skip (.exit 0))) (.seq (.block 1 (.seq (.region true [o1 92 (.cpy 9),a 93 15,a 94 11,oB 95 .add 93 94,o1 96 (.ixo 92 9 95 1),o1 97 (.ld 96 9 1 true),o1 98 (.cv .u64 97),o1 99 (.bin .shl 98 (.c (F U 32))),o1 100 (.cpy 9),a 101 15,a 102 11,oB 103 .add 101 102,oI 104 .sub 103 1,o1 105 (.ixo 100 9 104 1),o1 106 (.ld 105 9 1 true),o1 107 (.cv .u64 106),oB 108 .or 99 107,a 16 108]) (.seq (.region true [a 109 16,a 110 13,oB 111 .quo 109 110,a 112 16,a 113 13,oB 114 .rem 112 113,a 17 111,a 18 114]) (.seq (.block 2 (.loop HG)) (e [o1 19 (.mov (.c (F U 0))),o1 20 (.mov (.c (F U 0)))] (.seq (e [o1 21 (.mov (ci 0))] (.block 4 (.loop ON))) (e [o1 179 (.cpy 9),a 180 15,a 181 11,oB 182 .add 180 181,o1 183 (.ixo 179 9 182 1),o1 184 (.ld 183 9 1 true),o1 185 (.cv .u64 184),a 186 20,oB 187 .sub 185 186,a 188 19,oB 189 .sub 187 188,a 24 189] (e [o1 190 (.cpy 9),a 191 15,a 192 11,oB 193 .add 191 192,a 194 24,o1 195 (.cv .u32 194),o1 196 (.ixo 190 9 193 1),oS 196 9 1 195] (.seq (e [a 197 24,o1 198 (.bin .shr 197 (.c (F U 63))),o1 199 (.bin .neq 198 (.c (F U 0)))] (.cond 199 (e [a 200 17,o1 201 (.bin .sub 200 (.c (F U 1))),a 17 201] (e [o1 25 (.mov (.c (F U 0)))] (.seq (e [o1 26 (.mov (ci 0))] (.block 6 (.loop QR))) (rg [o1 231 (.cpy 9),a 232 15,a 233 11,oB 234 .add 232 233,o1 235 (.ixo 231 9 234 1),o1 236 (.ld 235 9 1 true),a 237 25,o1 238 (.cv .u32 237),oB 239 .add 236 238,o1 240 (.ixo 231 9 234 1),oS 240 9 1 239])))) .skip)) (rg [o1 241 (.cpy 4),a 242 15,a 243 17,o1 244 (.cv .u32 243),o1 245 (.ixo 241 4 242 1),oS 245 4 1 244])))))))))) (rg [a 90 15,oI 91 .sub 90 1,a 15 91]))
def PU:IFunc:=⟨2,282,[.tmp 4,.tmp 5],e [⟨some 4,.nlo 1,none,[241,245]⟩,⟨some 5,.nlo 1,none,[253,262,265,267,279]⟩] (.seq (e [a 29 0,a 30 1,r 31 151 [29,30],oI 32 .lss 31 0] (.cond 32 (e [a 33 0,o1 34 (.apd true (.c (.nil)) 33 1 35184372088832),⟨some 4,.nlo 1,none,[241,245]⟩,⟨some 5,.tra 34,none,[253,262,265,267,279]⟩] .ret) .skip)) (.seq (e [a 35 1,o1 36 (.len 35),oI 37 .eql 36 1] (.cond 37 (e [a 39 0,a 40 1,o1 41 (.ixa 40 (ci 0) 1),o1 42 (.ld 41 41 1 true),r 43 187 [39,42],a 38 43,oE 44 38 0,oE 45 38 1,a 6 44,a 7 45] (e [a 46 6,a 47 7,o1 48 (.blo 1 1 [F Ac 0] [(0,1,.t 47)]),⟨some 4,.tra 46,none,[241,245]⟩,⟨some 5,.tra 48,none,[253,262,265,267,279]⟩] .ret)) .skip)) (e [a 49 1,a 50 1,o1 51 (.len 50),oI 52 .sub 51 1,oA 53 49 52 1,o1 54 (.ld 53 53 1 true),r 55 188 [54],a 8 55] (.seq (.region true [a 56 0,a 57 8,o1 58 (.clo 189 [56,57]),a 59 1,a 60 8,r 61 189 [59,60],a 62 1,o1 63 (.len 62),o1 64 (.sli 61 none (some 63) none 1),⟨some 9,.tra 58,none,[92,96,100,105,123,128,157,161,170,178,179,183,190,196,207,211,222,230,231,235,240,255,257,269,272]⟩,a 10 64]) (e [a 65 1,o1 66 (.len 65),a 67 0,o1 68 (.len 67),a 69 1,o1 70 (.len 69),oB 71 .sub 68 70,a 11 66,a 12 71] (e [a 72 12,oI 73 .add 72 1,o1 74 (.mks [F Ac 0] 73),⟨some 4,.tra 74,none,[241,245]⟩] (.seq (.region true [a 75 10,a 76 11,oI 77 .sub 76 1,oA 78 75 77 1,o1 79 (.ld 78 78 1 true),o1 80 (.cv .u64 79),a 81 10,a 82 11,oI 83 .sub 82 2,oA 84 81 83 1,o1 85 (.ld 84 84 1 true),o1 86 (.cv .u64 85),a 13 80,a 14 86]) (.seq (e [a 87 12,a 15 87] (.block 0 (.loop MG))) (e [a 246 11,o1 247 (.mks [F Ac 0] 246),⟨some 5,.tra 247,none,[253,262,265,267,279]⟩] (.seq (e [o1 28 (.mov (ci 0))] (.block 8 (.loop MF))) (e [o1 280 (.tra 4),o1 281 (.tra 5),⟨some 4,.tra 280,none,[241,245]⟩,⟨some 5,.tra 281,none,[253,262,265,267,279]⟩] .ret)))))))))))⟩
def Akt:List (Nat × Nat):=[(92,9),(96,9),(100,9),(105,9),(123,9),(128,9),(157,9),(161,9),(170,9),(178,9),(179,9),(183,9),(190,9),(196,9),(207,9),(211,9),(222,9),(230,9),(231,9),(235,9),(240,9),(241,4),(245,4),(253,5),(255,9),(257,9),(262,5),(265,5),(267,5),(269,9),(272,9),(279,5)]
theorem wL:AU c Akt Tryz.f180 PU=true:=by kernel_rfl
def V4:IFunc:=⟨1,10,[.cell 2 2 false],e [o1 2 (.new [D false,H 0 []] [])] (e [a 3 0,o1 4 (.cv .u32 3),a 5 0,o1 6 (.bin .shr 5 (.c (F U 32))),o1 7 (.cv .u32 6),o1 8 (.bls 2 [F Ac 0,F Ac 0] [(0,1,.t 4),(1,1,.t 7)]),o1 9 (.call 152 [cb false,8]),oS 2 2 2 9] .ret)⟩
def Aku:List (Nat × Nat):=[]
theorem wM:AU c Aku Tryz.f181 V4=true:=by kernel_rfl
def V5:ICode := .seq (e [a 5 1,o1 6 (.bin .gtr 5 (.c (F U 0)))] (.cond 6 .skip (.exit 0))) (.block 1 (.region true [a 7 1,a 8 0,a 9 1,oB 10 .rem 8 9,a 0 7,a 1 10]))
def V6:IFunc:=⟨2,12,[.tmp 4],e [o1 4 (.mov (.c (F U 0)))] (.seq (.block 0 (.loop V5)) (e [a 11 0,a 4 11] .ret))⟩
def Akv:List (Nat × Nat):=[]
theorem wN:AU c Akv Tryz.f182 V6=true:=by kernel_rfl
def V7:ICode:=e [oB 10 .lss 9 8] (.seq (.cond 10 .skip (.exit 0)) (.seq (.block 1 (e [a 11 9,oA 12 7 9 1,o1 13 (.ld 12 12 1 true),a 4 11,a 5 13] (rg [a 14 3,a 15 5,o1 16 (.cv .u64 15),a 17 4,o1 18 (.bin .mul (ci 32) 17),o1 19 (.cv .u64 18),oB 20 .shl 16 19,oB 21 .or 14 20,a 3 21]))) (rg [oI 22 .add 9 1,a 9 22])))
def V8:IFunc:=⟨1,24,[.tmp 2],e [o1 1 (.box 0 [6]),o1 2 (.mov (.c (F U 0)))] (e [o1 3 (.mov (.c (F U 0)))] (.seq (e [o1 6 (.adr 1 1 1),o1 7 (.ld 6 1 1 true),o1 8 (.len 7),o1 9 (.mov (ci 0))] (.block 0 (.loop V7))) (e [a 23 3,a 2 23] .ret)))⟩
def Akw:List (Nat × Nat):=[(6,1)]
theorem wO:AU c Akw Tryz.f183 V8=true:=by kernel_rfl
def Zo:IFunc:=⟨1,21,[.tmp 2],e [o1 2 (.nlo 1)] (e [a 4 0,o1 5 (.len 4),a 3 5] (.seq (.block 0 (.loop (.seq (e [a 6 3,oI 7 .gtr 6 0,a 8 7,n 9 (.mov 0) 8 true,n 10 (.mov 3) 8 true,n 11 (.bin .sub 10 (ci 1)) 8 true,n 12 (.ixa 9 11 1) 8 true,n 13 (.ld 12 12 1 true) 8 true,n 14 (.bin .eql 13 (.c (F Ac 0))) 8 true,o1 15 (.pick 8 14 (cb false))] (.cond 15 .skip (.exit 0))) (.block 1 (rg [a 16 3,oI 17 .sub 16 1,a 3 17]))))) (e [a 18 0,a 19 3,o1 20 (.sli 18 none (some 19) none 1),o1 2 (.tra 20)] .ret)))⟩
def Akx:List (Nat × Nat):=[]
theorem wP:AU c Akx Tryz.f184 Zo=true:=by kernel_rfl
def V9:ICode := .seq (e [a 16 8,oI 17 .geq 16 0] (.cond 17 .skip (.exit 0))) (.seq (.block 1 (e [a 20 7,o1 21 (.bin .shl 20 (.c (F U 32))),a 22 0,a 23 8,oA 24 22 23 1,o1 25 (.ld 24 24 1 true),o1 26 (.cv .u64 25),oB 27 .or 21 26,a 9 27] (.region true [o1 28 (.cpy 6),a 29 8,a 30 9,a 31 1,o1 32 (.cv .u64 31),oB 33 .quo 30 32,o1 34 (.cv .u32 33),a 35 9,a 36 1,o1 37 (.cv .u64 36),oB 38 .rem 35 37,o1 39 (.ixo 28 6 29 1),oS 39 6 1 34,a 7 38]))) (rg [a 18 8,oI 19 .sub 18 1,a 8 19]))
def VA:IFunc:=⟨2,43,[.tmp 4,.tmp 5],e [o1 4 (.nlo 1),o1 5 (.mov (.c (F Ac 0)))] (e [a 10 0,o1 11 (.len 10),o1 12 (.mks [F Ac 0] 11),⟨some 6,.tra 12,none,[28,39]⟩] (e [o1 7 (.mov (.c (F U 0)))] (.seq (e [a 13 0,o1 14 (.len 13),oI 15 .sub 14 1,a 8 15] (.block 0 (.loop V9))) (e [o1 40 (.tra 6),a 41 7,o1 42 (.cv .u32 41),o1 4 (.tra 40),a 5 42] .ret))))⟩
def Aky:List (Nat × Nat):=[(28,6),(39,6)]
theorem wQ:AU c Aky Tryz.f187 VA=true:=by kernel_rfl
def VB:IFunc:=⟨1,6,[.tmp 2],e [o1 2 (.mov (ci 0))] (e [a 3 0,r 4 150 [3],o1 5 (.bin .sub (ci 32) 4),a 2 5] .ret)⟩
def Akz:List (Nat × Nat):=[]
theorem wR:AU c Akz Tryz.f188 VB=true:=by kernel_rfl
def VC:ICode:=e [oB 16 .lss 15 14] (.seq (.cond 16 .skip (.exit 0)) (.seq (.block 1 (e [a 17 15,oA 18 13 15 1,o1 19 (.ld 18 18 1 true),a 6 17,a 7 19] (e [a 20 7,o1 21 (.cv .u64 20),a 22 1,o1 23 (.cv .u64 22),oB 24 .shl 21 23,a 8 24] (e [o1 25 (.cpy 5),a 26 6,o1 27 (.ixo 25 5 26 1),o1 28 (.ld 27 5 1 true),a 29 8,o1 30 (.cv .u32 29),oB 31 .or 28 30,o1 32 (.ixo 25 5 26 1),oS 32 5 1 31] (rg [o1 33 (.cpy 5),a 34 6,oI 35 .add 34 1,a 36 8,o1 37 (.bin .shr 36 (.c (F U 32))),o1 38 (.cv .u32 37),o1 39 (.ixo 33 5 35 1),oS 39 5 1 38]))))) (rg [oI 40 .add 15 1,a 15 40])))
def VE:IFunc:=⟨2,42,[.tmp 4],e [o1 4 (.nlo 1)] (e [a 9 0,o1 10 (.len 9),oI 11 .add 10 1,o1 12 (.mks [F Ac 0] 11),⟨some 5,.tra 12,none,[25,27,32,33,39]⟩] (.seq (e [a 13 0,o1 14 (.len 13),o1 15 (.mov (ci 0))] (.block 0 (.loop VC))) (e [o1 41 (.tra 5),o1 4 (.tra 41)] .ret)))⟩
def Ala:List (Nat × Nat):=[(25,5),(27,5),(32,5),(33,5),(39,5)]
theorem wS:AU c Ala Tryz.f189 VE=true:=by kernel_rfl
end Go.Proofs.YtajompaehjkgkaaGreat
namespace Go.Ai
open Go.RowKit
open List renaming all_eq_true->BA,getD_eq_getElem?_getD->Z,getElem?_map->Ch
open Nat renaming le_refl->Ap,zero_add->B_
open Option renaming getD_some->GE,map_eq_some_iff->Aj,map_some->A3
open Option.some renaming injEq->A1
open Prod.mk renaming injEq->D0
def GQ(s s':Al):Prop:=s.length=s'.length/\∀ t,A4 s t = .dead\/A4 s t=A4 s' t
theorem GQ.refl(s:Al):GQ s s:=⟨rfl,fun _ => .inr rfl⟩
theorem GQ.trans{a b c:Al}(h:GQ a b)(k:GQ b c):GQ a c:=by
 refine⟨h.1.trans k.1,fun t => ?_⟩;rcases h.2 t with h1 | h1
 ·exact .inl h1
 ·rcases k.2 t with k1 | k1
  ·exact .inl (h1.trans k1)
  ·exact .inr (h1.trans k1)
theorem GQ.get{s s':Al}(h:GQ s s'){t:Nat}{r:Reg}(hr:A4 s t=r)(hd:r ≠ .dead):A4 s' t=r:=by
 rcases h.2 t with h1 | h1
 ·exact absurd (hr.symm.trans h1) hd
 ·rw[<- h1,hr]
theorem GQ.av{s s':Al}(h:GQ s s'){o:Opd}{x:AV}(hx:o.av s=some x):o.av s'=some x:=by
 cases o with
 | c y=>exact hx
 | t n =>
  simp only[Opd.av,Opd.reg] at hx |-;split at hx
  ·rename_i y hy;cases hx;rw[h.get hy (by nofun)]
  ·cases hx
theorem GQ.avs{s s':Al}(h:GQ s s'):∀ {l:List Opd} {xs:List AV},avs s l=some xs->avs s' l=some xs
 | [],xs,hx=>hx
 | o::l,xs,hx=>by
  simp only[Go.Ai.avs] at hx |-;cases h1:o.av s with
  | none=>rw[h1] at hx;cases hx
  | some x =>
   rw[h1] at hx;rw[h.av h1];cases h2:Go.Ai.avs s l with
   | none=>rw[h2] at hx;cases hx
   | some ys =>
    rw[h2] at hx;rw[h.avs h2];exact hx
theorem GQ.fill{s s':Al}(h:GQ s s'):∀ {ps:List (Nat × Nat × Opd)} {cs cs':List AV},FW s cs ps=some cs'->FW s' cs ps=some cs'
 | [],_,_,hx=>hx
 | (off,n,o)::ps,cs,cs',hx=>by
  simp only[FW] at hx |-;cases h1:o.av s with
  | none=>rw[h1] at hx;cases hx
  | some x =>
   rw[h1] at hx;rw[h.av h1];dsimp only at hx |-;cases h2:Gp x n with
   | none=>rw[h2] at hx;cases hx
   | some ys =>
    rw[h2] at hx;dsimp only at hx |-;cases h3:C4 cs off ys with
    | none=>rw[h3] at hx;cases hx
    | some cs1 =>
     rw[h3] at hx;dsimp only at hx |-;exact h.fill hx
theorem GQ.reg{s s':Al}(h:GQ s s'){o:Opd}{r:Reg}(hx:o.reg s=r)(hd:r ≠ .dead):o.reg s'=r:=by
 cases o with
 | c y=>exact hx
 | t n=>exact h.get hx hd
theorem GQ.bnd{s s':Al}(h:GQ s s'){o:Option Opd}{d n:Nat}(hx:GL s d o=some n):GL s' d o=some n:=by
 cases o with
 | none=>exact hx
 | some o =>
  simp only[GL] at hx |-;split at hx
  ·rename_i k i hi;rw[h.av hi];exact hx
  ·cases hx
theorem GQ.firm{s s':Al}(h:GQ s s'){l:List Nat}(hl:(l.all fun t=>Gn (A4 s t))=true):(l.all fun t=>Gn (A4 s' t))=true:=by
 rw[BA] at hl |-;intro t ht;have h1:=hl t ht;rw[h.get (r:=A4 s t) rfl (by intro e;rw[e] at h1;cases h1)];exact h1
theorem wT{F:B7}{s s':Al}(h:GQ s s'){k:K}{p:Reg × List (Nat × Reg)}(hk:B4 F s k=some p):B4 F s' k=some p:=by
 cases k <;> simp only[B4] at hk |-
 case mov x =>
  simp only[Aj] at hk |-;obtain⟨v,hv,e⟩:=hk;exact⟨v,h.av hv,e⟩
 case pick c a b =>
  split at hk
  ·rename_i hc;rw[h.av hc];simp only[Aj] at hk |-;obtain⟨v,hv,e⟩:=hk;exact⟨v,h.av hv,e⟩
  ·rename_i hc;rw[h.av hc];simp only[Aj] at hk |-;obtain⟨v,hv,e⟩:=hk;exact⟨v,h.av hv,e⟩
  ·cases hk
 case bin op x y =>
  split at hk
  ·rename_i hx hy;rw[h.av hx,h.av hy];exact hk
  ·cases hk
 case eqb neg x y =>
  split at hk
  ·rename_i hx hy;rw[h.av hx,h.av hy];exact hk
  ·cases hk
 case un op x =>
  split at hk
  ·rename_i hx;rw[h.av hx];exact hk
  ·cases hk
 case cv k x =>
  split at hk
  ·rename_i hx;rw[h.av hx];exact hk
  ·cases hk
 case new z ks=>exact hk
 case box x ks =>
  split at hk
  ·rename_i hx;rw[h.av hx];exact hk
  ·rename_i y hne hx;rw[h.av hx];split at hk
   ·rename_i hd;cases hk;cases y <;> first | (cases hd;done) | simp only[KU,if_true]
   ·cases hk
  ·cases hk
 case bld z ps =>
  simp only[Aj] at hk |-;obtain⟨v,hv,e⟩:=hk;exact⟨v,h.fill hv,e⟩
 case bls n z ps =>
  simp only[Aj] at hk |-;obtain⟨v,hv,e⟩:=hk;exact⟨v,h.fill hv,e⟩
 case adr x d off =>
  cases hr:A4 s x <;> rw[hr] at hk <;> first | (cases hk;done) | (rw[h.get hr (by nofun)];exact hk)
 case ld x d n one =>
  cases hr:A4 s x with
  | box cs=>rw[hr] at hk;rw[h.get hr (by nofun)];exact hk
  | mem cs=>rw[hr] at hk;rw[h.get hr (by nofun)];exact hk
  | ptr d' off =>
   rw[hr] at hk;rw[h.get hr (by nofun)];dsimp only at hk |-;split at hk
   ·rename_i hd;rw[if_pos hd];cases hr2:A4 s d <;> rw[hr2] at hk <;> first | (cases hk;done) | (rw[h.get hr2 (by nofun)];exact hk)
   ·cases hk
  | val x=>rw[hr] at hk;cases hk
  | own _ _ _=>rw[hr] at hk;cases hk
  | agn _ _ _ _=>rw[hr] at hk;cases hk
  | bxl _=>rw[hr] at hk;cases hk
  | dup d=>rw[hr] at hk;cases hk
  | sub _ _ _ _=>rw[hr] at hk;cases hk
  | dead=>rw[hr] at hk;cases hk
 case st x d n v =>
  split at hk
  ·cases hk
  ·rename_i a ha;rw[h.av ha];dsimp only at hk |-;split at hk
   ·cases hk
   ·rename_i ys hys;cases hr:A4 s x with
    | box cs=>rw[hr] at hk;rw[h.get hr (by nofun)];exact hk
    | ptr d' off =>
     rw[hr] at hk;rw[h.get hr (by nofun)];dsimp only at hk |-;split at hk
     ·rename_i hd;rw[if_pos hd];cases hr2:A4 s d <;> rw[hr2] at hk <;> first | (cases hk;done) | (rw[h.get hr2 (by nofun)];exact hk)
     ·cases hk
    | mem cs=>rw[hr] at hk;cases hk
    | val x=>rw[hr] at hk;cases hk
    | own _ _ _=>rw[hr] at hk;cases hk
    | agn _ _ _ _=>rw[hr] at hk;cases hk
    | bxl _=>rw[hr] at hk;cases hk
    | dup d=>rw[hr] at hk;cases hk
    | sub _ _ _ _=>rw[hr] at hk;cases hk
    | dead=>rw[hr] at hk;cases hk
 case fld x off n one =>
  split at hk
  ·rename_i hx;rw[h.av hx];exact hk
  ·cases hk
 case ixa x i k =>
  split at hk
  ·rename_i k1 iv hi;rw[h.av hi];dsimp only at hk |-;split at hk
   ·rename_i n cs hr;rw[h.get hr (by nofun)];exact hk
   ·cases hk
  ·cases hk
 case six x i =>
  split at hk
  ·rename_i hx hi;rw[h.av hx,h.av hi];exact hk
  ·cases hk
 case ext x i =>
  split at hk
  ·rename_i hx;rw[h.av hx];exact hk
  ·cases hk
 case len x =>
  split at hk
  ·rename_i hx;rw[h.av hx];exact hk
  ·rename_i hx;rw[h.av hx];exact hk
  ·cases hk
 case mx xs =>
  split at hk
  ·rename_i hx;rw[h.avs hx];exact hk
  ·cases hk
 case mn xs =>
  split at hk
  ·rename_i hx;rw[h.avs hx];exact hk
  ·cases hk
 case call f xs =>
  split at hk
  ·rename_i hx;rw[h.avs hx];exact hk
  ·cases hk
 case clo f xs =>
  split at hk
  ·rename_i hx;rw[h.avs hx];exact hk
  ·cases hk
 case brw f x d =>
  cases hr:A4 s x <;> rw[hr] at hk <;> first | (cases hk;done) | skip
  rename_i d';rw[h.get hr (by nofun)];simp only at hk |-;by_cases hd:d'=d
  ·rw[if_pos hd] at hk |-;cases hr2:A4 s d <;> rw[hr2] at hk <;> first | (cases hk;done) | skip
   rw[h.get hr2 (by nofun)];exact hk
  ·rw[if_neg hd] at hk;cases hk
 case cpy x =>
  cases hr:A4 s x <;> rw[hr] at hk <;> first | (cases hk;done) | (rw[h.get hr (by nofun)];exact hk)
 case tra x =>
  cases hr:A4 s x <;> rw[hr] at hk <;> first | (cases hk;done) | (rw[h.get hr (by nofun)];exact hk)
 case frz x =>
  cases hr:A4 s x <;> rw[hr] at hk <;> first | (cases hk;done) | (rw[h.get hr (by nofun)];exact hk)
 case mks z n =>
  split at hk
  ·rename_i hx;rw[h.av hx];exact hk
  ·cases hk
 case blo k n z ps =>
  simp only[Aj] at hk |-;obtain⟨v,hv,e⟩:=hk;exact⟨v,h.fill hv,e⟩
 case apd ow x y k B =>
  split at hk
  ·rename_i hy;rw[h.av hy];dsimp only;cases hr:x.reg s <;> rw[hr] at hk <;> first | (cases hk;done) | (rw[h.reg hr (by nofun)];exact hk)
  ·rename_i m ys hy;rw[h.av hy];dsimp only;split at hk
   ·rename_i hl;rw[if_pos hl];cases hr:x.reg s <;> rw[hr] at hk <;> first | (cases hk;done) | (rw[h.reg hr (by nofun)];exact hk)
   ·cases hk
  ·cases hk
 case sli x lo hi mx k =>
  split at hk
  ·rename_i hx;rw[h.av hx];dsimp only;split at hk
   ·rename_i b1 b2 b3;rw[h.bnd b1,h.bnd b2,h.bnd b3];exact hk
   ·cases hk
  ·rename_i n cs hx;rw[h.av hx];dsimp only;split at hk
   ·rename_i m hh l b1 b2 b3;rw[h.bnd b1,h.bnd b2,h.bnd b3];exact hk
   ·cases hk
  ·cases hk
 case ixo x d i k =>
  split at hk
  ·rename_i k1 iv hi;rw[h.av hi];dsimp only at hk |-;split at hk
   ·rename_i n cs hr;rw[h.get hr (by nofun)];exact hk
   ·rename_i d' hr;rw[h.get hr (by nofun)];dsimp only;split at hk
    ·rename_i hd;rw[if_pos hd];split at hk
     ·rename_i k' n cs hr2;rw[h.get hr2 (by nofun)];exact hk
     ·cases hk
    ·cases hk
   ·cases hk
  ·cases hk
 case lno x d =>
  split at hk
  ·rename_i hr;rw[h.get hr (by nofun)];exact hk
  ·rename_i n cs hr;rw[h.get hr (by nofun)];exact hk
  ·rename_i d' hr;rw[h.get hr (by nofun)];dsimp only;split at hk
   ·rename_i hd;rw[if_pos hd];split at hk
    ·rename_i k' n cs hr2;rw[h.get hr2 (by nofun)];exact hk
    ·cases hk
   ·cases hk
  ·cases hk
 case nlo k=>exact hk
 case bdo y x ls =>
  split at hk
  ·rename_i b hb;rw[h.av hb];dsimp only at hk |-;split at hk
   ·rename_i k n cs hr;rw[h.get hr (by nofun)];dsimp only;split at hk
    ·rename_i hl;rw[if_pos (h.firm hl)];exact hk
    ·cases hk
   ·cases hk
  ·cases hk
 case cln f xs ls =>
  split at hk
  ·rename_i vs hvs;rw[h.avs hvs];dsimp only;split at hk
   ·rename_i hl;rw[if_pos (h.firm hl)];exact hk
   ·cases hk
  ·cases hk
 case stl x v =>
  split at hk
  ·rename_i cs hr;rw[h.get hr (by nofun)];dsimp only;split at hk
   ·rename_i b k n ds hr2;rw[h.get hr2 (by nofun)];exact hk
   ·cases hk
  ·cases hk
 case fdo x =>
  split at hk
  ·rename_i b k n cs hr;rw[h.get hr (by nofun)];exact hk
  ·cases hk
 case exo x =>
  split at hk
  ·rename_i b k n cs hr;rw[h.get hr (by nofun)];exact hk
  ·cases hk
 case slo x hi k =>
  split at hk
  ·rename_i k1 iv hiv;rw[h.av hiv];dsimp only at hk |-;split at hk
   ·rename_i k' n cs hr;rw[h.get hr (by nofun)];exact hk
   ·cases hk
  ·cases hk
 case cao f k x xs =>
  split at hk
  ·rename_i vs hvs;rw[h.avs hvs];dsimp only;cases x with
   | c y=>cases y <;> first | exact hk | (rename_i n cs;cases n <;> cases cs <;> exact hk)
   | t m =>
    dsimp only at hk |-;cases hr:A4 s m <;> rw[hr] at hk <;> first | (cases hk;done) | (rw[h.get hr (by nofun)];exact hk)
  ·cases hk
 case bad=>cases hk
theorem GQ.set{s s':Al}(h:GQ s s')(d:Nat)(r:Reg):GQ (s.set d r) (s'.set d r):=by
 refine⟨by simp[h.1],fun t => ?_⟩;rw[Dx,Dx,h.1];split
 ·exact .inr rfl
 ·exact h.2 t
theorem GQ.puts{s s':Al}(h:GQ s s'):∀ (l:List (Nat × Reg)),GQ (BO s l) (BO s' l):=by
 intro l;induction l generalizing s s' with
 | nil=>exact h
 | cons p l ih=>obtain⟨t,r⟩:=p;exact ih (h.set t r)
theorem GQ.put{s s':Al}(h:GQ s s')(d:Option Nat)(r:Reg):GQ (DL s d r) (DL s' d r):=by
 cases d with
 | none=>exact h
 | some d=>exact h.set d r
theorem Te{s s':Al}(h:GQ s s'){g:Option (Nat × Bool)}{b:Bool}(hw:GM s g=some b):GM s' g=some b:=by
 cases g with
 | none=>exact hw
 | some p =>
  obtain⟨t,x⟩:=p;simp only[GM] at hw |-;split at hw
  ·rename_i hr;rw[h.get hr (by nofun)];exact hw
  ·rename_i hr;rw[h.get hr (by nofun)];exact hw
  ·cases hw
theorem jW{F:B7}{o:IOp}{s s' t:Al}(h:GQ s s')(he:FX F o s=some t):∃ t',FX F o s'=some t'/\GQ t t':=by
 have h:GQ (kill s o.ks) (kill s' o.ks):=h.puts _;simp only[FX,Ih] at he |-;generalize kill s o.ks=s at *
 generalize kill s' o.ks=s' at *
 split at he
 ·cases he
 ·rename_i hw;cases he;rw[Te h hw];exact⟨_,rfl,h.put _ _⟩
 ·rename_i hw;rw[Te h hw];split at he
  ·cases he
  ·rename_i r l hk;cases he;rw[wT h hk];exact⟨_,rfl,(h.puts l).put _ _⟩
theorem Tf{F:B7}:∀ {l:List IOp} {s s' t:Al},GQ s s'->Ej F l s=some t->∃ t',Ej F l s'=some t'/\GQ t t'
 | [],s,s',t,h,he=>by
  simp only[Ej,A1] at he;subst he;exact⟨s',rfl,h⟩
 | o::l,s,s',t,h,he=>by
  simp only[Ej] at he |-;cases h1:FX F o s with
  | none=>rw[h1] at he;cases he
  | some s1 =>
   rw[h1] at he;obtain⟨s2,h2,h3⟩:=jW h h1;rw[h2];exact Tf h3 he
theorem wU{F:B7}:∀ (n:Nat) {c:ICode} {s s' t:Al} {ex:Ex},GQ s s'->Cm F n c s=some (ex,t)->∃ t',Cm F n c s'=some (ex,t')/\GQ t t':=by
 intro n;induction n with
 | zero=>intro c s s' t ex _ he;simp[Cm] at he
 | succ n ih =>
  intro c s s' t ex h he;cases c with
  | skip=>simp only[Cm,A1,D0] at he |-;obtain⟨rfl,rfl⟩:=he;exact⟨s',⟨rfl,rfl⟩,h⟩
  | exit id=>simp only[Cm,A1,D0] at he |-;obtain⟨rfl,rfl⟩:=he;exact⟨s',⟨rfl,rfl⟩,h⟩
  | ret=>simp only[Cm,A1,D0] at he |-;obtain⟨rfl,rfl⟩:=he;exact⟨s',⟨rfl,rfl⟩,h⟩
  | region d ops =>
   simp only[Cm,Aj] at he |-;obtain⟨s1,h1,e⟩:=he;cases e;obtain⟨t',h2,h3⟩:=Tf h h1;exact⟨t',⟨t',h2,rfl⟩,h3⟩
  | seq a b =>
   simp only[Cm] at he |-;cases h1:Cm F n a s with
   | none=>rw[h1] at he;cases he
   | some p =>
    obtain⟨e1,s1⟩:=p;rw[h1] at he;obtain⟨s2,h2,h3⟩:=ih h h1;rw[h2];cases e1 with
    | norm=>exact ih h3 he
    | exit i=>cases he;exact⟨s2,rfl,h3⟩
    | ret=>cases he;exact⟨s2,rfl,h3⟩
  | cond c a b =>
   simp only[Cm] at he |-;have key:∀ v,J7 s c=some v->J7 s' c=some v:=by
    intro v hv;unfold J7 at hv |-;split at hv
    ·rename_i b' hb;rw[h.av hb];exact hv
    ·cases hv
   split at he
   ·rename_i hc;rw[key _ hc];exact ih h he
   ·rename_i hc;rw[key _ hc];exact ih h he
   ·cases he
  | block id c =>
   simp only[Cm] at he |-;cases h1:Cm F n c s with
   | none=>rw[h1] at he;cases he
   | some p =>
    obtain⟨e1,s1⟩:=p;rw[h1] at he;obtain⟨s2,h2,h3⟩:=ih h h1;rw[h2];cases e1 with
    | norm=>cases he;exact⟨s2,rfl,h3⟩
    | ret=>cases he;exact⟨s2,rfl,h3⟩
    | exit i =>
     dsimp only at he |-;split at he
     ·rename_i hi;cases he;exact⟨s2,by rw[if_pos hi],h3⟩
     ·rename_i hi;cases he;exact⟨s2,by rw[if_neg hi],h3⟩
  | scope c=>simp only[Cm] at he |-;exact ih h he
  | loop c =>
   simp only[Cm] at he |-;cases h1:Cm F n c s with
   | none=>rw[h1] at he;cases he
   | some p =>
    obtain⟨e1,s1⟩:=p;rw[h1] at he;obtain⟨s2,h2,h3⟩:=ih h h1;rw[h2];cases e1 with
    | norm=>exact ih h3 he
    | exit i=>cases he;exact⟨s2,rfl,h3⟩
    | ret=>cases he;exact⟨s2,rfl,h3⟩
def Cv(prog:Nat->Option IFunc)(c:ICode)(s:Al)(ex:Ex)(t:Al):Prop:=∃ t',DG prog c s ex t'/\GQ t t'
section
variable {prog:Nat->Option IFunc}
theorem DG.w{c:ICode}{s t:Al}{ex:Ex}(h:DG prog c s ex t):Cv prog c s ex t:=⟨t,h,GQ.refl t⟩
theorem DG.mono{c:ICode}{s s' t:Al}{ex:Ex}(h:DG prog c s ex t)(hs:GQ s s'):Cv prog c s' ex t:=by
 obtain⟨n,h⟩:=h;obtain⟨t',h1,h2⟩:=wU n hs h;exact⟨t',⟨n,h1⟩,h2⟩
theorem Cv.weak{c:ICode}{s s' t t':Al}{ex:Ex}(h:Cv prog c s ex t)(hs:GQ s s')(ht:GQ t' t):Cv prog c s' ex t':=by
 obtain⟨t1,h1,h2⟩:=h;obtain⟨t2,h3,h4⟩:=h1.mono hs;exact⟨t2,h3,(ht.trans h2).trans h4⟩
theorem Cv.seq{a b:ICode}{s s1 t:Al}{ex:Ex}(h1:Cv prog a s .norm s1)(h2:Cv prog b s1 ex t):Cv prog (.seq a b) s ex t:=by
 obtain⟨u,k1,k2⟩:=h1;obtain⟨v,k3,k4⟩:=h2.weak k2 (GQ.refl t);exact⟨v,DG.seq k1 k3,k4⟩
theorem AJ{a b:ICode}{s t:Al}{ex:Ex}(h1:Cv prog a s ex t)(hex:ex ≠ .norm):Cv prog (.seq a b) s ex t:=by
 obtain⟨u,k1,k2⟩:=h1;exact⟨u,EE k1 hex,k2⟩
theorem DG.inv{prog:Nat->Option IFunc}{a b:ICode}{s t:Al}{ex:Ex}(h:DG prog (.seq a b) s ex t):(DG prog a s ex t/\ex ≠ .norm)\/∃ v,DG prog a s .norm v/\DG prog b v ex t:=by
 obtain⟨n,h⟩:=h;cases n with
 | zero=>simp[Cm] at h
 | succ n =>
  simp only[Cm] at h;have up:∀ {c:ICode} {s:Al} {q:Ex × Al},Cm (N6 prog (n+1)) n c s=some q->Cm (N6 prog (n+1)) (n+1) c s=some q:=fun hh=>F5 (EA prog (Ap _)) (Nat.le_succ n) hh;split at h
  ·rename_i v hv;exact .inr ⟨v,⟨n+1,up hv⟩,⟨n+1,up h⟩⟩
  ·rename_i hne;refine .inl ⟨⟨n+1,up h⟩,?_⟩;intro e;subst e;exact hne _ h
theorem W{a b r:ICode}{s t:Al}{ex:Ex}(h:Cv prog (.seq (.seq a b) r) s ex t):Cv prog (.seq a (.seq b r)) s ex t:=by
 obtain⟨u,k1,k2⟩:=h;refine⟨u,?_,k2⟩;rcases k1.inv with ⟨h1,hne⟩ | ⟨v,h1,h2⟩
 ·rcases h1.inv with ⟨h3,_⟩ | ⟨x,h3,h4⟩
  ·exact EE h3 hne
  ·exact DG.seq h3 (EE h4 hne)
 ·rcases h1.inv with ⟨_,hne⟩ | ⟨x,h3,h4⟩
  ·exact absurd rfl hne
  ·exact DG.seq h3 (DG.seq h4 h2)
theorem q{p i l r:ICode}{s t:Al}{ex:Ex}(h:Cv prog (.seq (.seq p i) (.seq l r)) s ex t):Cv prog (.seq p (.seq (.seq i l) r)) s ex t:=by
 obtain⟨u,k1,k2⟩:=h;refine⟨u,?_,k2⟩;rcases k1.inv with ⟨h1,hne⟩ | ⟨v,h1,h2⟩
 ·rcases h1.inv with ⟨h3,_⟩ | ⟨x,h3,h4⟩
  ·exact EE h3 hne
  ·exact DG.seq h3 (EE (EE h4 hne) hne)
 ·rcases h1.inv with ⟨_,hne⟩ | ⟨x,h3,h4⟩
  ·exact absurd rfl hne
  ·rcases h2.inv with ⟨h5,hne⟩ | ⟨y,h5,h6⟩
   ·exact DG.seq h3 (EE (DG.seq h4 h5) hne)
   ·exact DG.seq h3 (DG.seq (DG.seq h4 h5) h6)
theorem Cv.scope{c:ICode}{s t:Al}{ex:Ex}(h:Cv prog c s ex t):Cv prog (.scope c) s ex t:=by
 obtain⟨u,k1,k2⟩:=h;exact⟨u,DG.scope k1,k2⟩
theorem Cv.block{id:Nat}{c:ICode}{s t:Al}(h:Cv prog c s (.exit id) t):Cv prog (.block id c) s .norm t:=by
 obtain⟨u,k1,k2⟩:=h;exact⟨u,DG.block k1,k2⟩
theorem CJ{id:Nat}{c:ICode}{s t:Al}(h:Cv prog c s .ret t):Cv prog (.block id c) s .ret t:=by
 obtain⟨u,k1,k2⟩:=h;exact⟨u,Md k1,k2⟩
theorem Cd{id:Nat}{c:ICode}{s t:Al}(h:Cv prog c s .norm t):Cv prog (.block id c) s .norm t:=by
 obtain⟨u,k1,k2⟩:=h;exact⟨u,KZ k1,k2⟩
theorem Cv.loop{c:ICode}{s s1 t:Al}{ex:Ex}(h1:Cv prog c s .norm s1)(h2:Cv prog (.loop c) s1 ex t):Cv prog (.loop c) s ex t:=by
 obtain⟨u,k1,k2⟩:=h1;obtain⟨v,k3,k4⟩:=h2.weak k2 (GQ.refl t);exact⟨v,DG.loop k1 k3,k4⟩
theorem Ao{c:ICode}{s t:Al}{ex:Ex}(h1:Cv prog c s ex t)(hex:ex ≠ .norm):Cv prog (.loop c) s ex t:=by
 obtain⟨u,k1,k2⟩:=h1;exact⟨u,Nq k1 hex,k2⟩
theorem jX{s s':Al}(h:GQ s s'){r:IRes}{x:AV}(hr:EW s r=some x):EW s' r=some x:=by
 cases r with
 | tmp t =>
  simp only[EW] at hr |-;split at hr
  ·rename_i y hy;rw[h.get hy (by nofun)];exact hr
  ·rename_i k n cs hy;rw[h.get hy (by nofun)];exact hr
  ·cases hr
 | cell t n one =>
  simp only[EW] at hr |-;split at hr
  ·rename_i y hy;rw[h.get hy (by nofun)];exact hr
  ·cases hr
theorem NX{s s':Al}(h:GQ s s'):∀ {l:List IRes} {xs:List AV},DT s l=some xs->DT s' l=some xs
 | [],xs,hx=>hx
 | r::l,xs,hx=>by
  simp only[DT] at hx |-;cases h1:EW s r with
  | none=>rw[h1] at hx;cases hx
  | some x =>
   rw[h1] at hx;rw[jX h h1];cases h2:DT s l with
   | none=>rw[h2] at hx;cases hx
   | some ys =>
    rw[h2] at hx;rw[NX h h2];exact hx
theorem Zp{s s':Al}(h:GQ s s'){l:List IRes}{x:AV}(hx:HC s l=some x):HC s' l=some x:=by
 unfold HC at hx |-;split at hx
 ·rename_i t;split at hx
  ·rename_i k n cs hr;rw[h.get hr (by nofun)];exact hx
  ·rename_i b k n cs hr;rw[h.get hr (by nofun)];exact hx
  ·cases hx
 ·rename_i t u;split at hx
  ·rename_i k n cs hr;rw[h.get hr (by nofun)];dsimp only;split at hx
   ·rename_i b hru;rw[h.get hru (by nofun)];exact hx
   ·cases hx
  ·cases hx
 ·rename_i t n one;split at hx
  ·rename_i d hr;rw[h.get hr (by nofun)];dsimp only;split at hx
   ·rename_i b k m cs hr2;rw[h.get hr2 (by nofun)];exact hx
   ·cases hx
  ·cases hx
 ·cases hx
theorem QS{s s':Al}(h:GQ s s'){l:List IRes}{xs:List AV}(hf:HC s l=none)(hx:DT s l=some xs):HC s' l=none:=by
 cases l with
 | nil=>rfl
 | cons r l =>
  cases r with
  | cell t n one =>
   cases l with
   | cons _ _=>rfl
   | nil =>
    simp only[HC] at hf |-;cases hr:A4 s t with
    | box cs=>rw[h.get hr (by nofun)]
    | val x=>simp only[DT,EW,hr] at hx;cases hx
    | own k n cs=>simp only[DT,EW,hr] at hx;cases hx
    | agn b k n cs=>simp only[DT,EW,hr] at hx;cases hx
    | bxl _=>simp only[DT,EW,hr] at hx;cases hx
    | ptr _ _=>simp only[DT,EW,hr] at hx;cases hx
    | mem _=>simp only[DT,EW,hr] at hx;cases hx
    | dup _=>simp only[DT,EW,hr] at hx;cases hx
    | sub _ _ _ _=>simp only[DT,EW,hr] at hx;cases hx
    | dead=>simp only[DT,EW,hr] at hx;cases hx
  | tmp t =>
   cases l with
   | cons r2 l2 =>
    cases r2 with
    | cell _ _ _=>rfl
    | tmp u =>
     cases l2 with
     | cons _ _=>rfl
     | nil =>
      have hru:∃ r,EW s (.tmp u)=some r:=by
       cases h1:EW s (.tmp t) with
       | none=>simp only[DT,h1] at hx;cases hx
       | some x1 =>
        cases h2:EW s (.tmp u) with
        | none=>simp only[DT,h1,h2] at hx;cases hx
        | some x2=>exact⟨x2,rfl⟩
      have hrt:∃ r,EW s (.tmp t)=some r:=by
       cases h1:EW s (.tmp t) with
       | none=>simp only[DT,h1] at hx;cases hx
       | some x1=>exact⟨x1,rfl⟩
      obtain⟨_,hru⟩:=hru;obtain⟨_,hrt⟩:=hrt;simp only[HC] at hf |-;have gt:A4 s' t=A4 s t:=by
       have hne:A4 s t ≠ .dead:=by
        intro e;simp only[EW,e] at hrt;cases hrt
       exact h.get rfl hne
      have gu:A4 s' u=A4 s u:=by
       have hne:A4 s u ≠ .dead:=by
        intro e;simp only[EW,e] at hru;cases hru
       exact h.get rfl hne
      rw[gt,gu];exact hf
   | nil =>
    simp only[HC] at hf |-;cases hr:A4 s t with
    | val x=>rw[h.get hr (by nofun)]
    | own k n cs=>rw[hr] at hf;cases hf
    | agn b k n cs=>rw[hr] at hf;cases hf
    | bxl _=>simp only[DT,EW,hr] at hx;cases hx
    | box _=>simp only[DT,EW,hr] at hx;cases hx
    | ptr _ _=>simp only[DT,EW,hr] at hx;cases hx
    | mem _=>simp only[DT,EW,hr] at hx;cases hx
    | dup _=>simp only[DT,EW,hr] at hx;cases hx
    | sub _ _ _ _=>simp only[DT,EW,hr] at hx;cases hx
    | dead=>simp only[DT,EW,hr] at hx;cases hx
theorem K8{f:Nat}{fn:IFunc}{args:List AV}{s:Al}{ex:Ex}{r:AV}(hf:prog f=some fn)(hl:args.length=fn.params)(h:Cv prog fn.body (GO fn args) ex s)
  (hex:∀ i,ex ≠ .exit i) (hr:GN s fn.res=some r):FK prog f args r:=by
 obtain⟨u,k1,k2⟩:=h;refine H6 hf hl k1 hex ?_;unfold GN at hr |-;cases hfr:HC s fn.res with
 | some y=>rw[hfr] at hr;rw[Zp k2 hfr];exact hr
 | none =>
  rw[hfr] at hr;dsimp only at hr;split at hr
  ·rename_i y hy;cases hr;rw[QS k2 hfr hy,NX k2 hy]
  ·rename_i ys hne hy;cases hr;rw[QS k2 hfr hy,NX k2 hy];cases ys with
   | nil=>rfl
   | cons y l =>
    cases l with
    | nil=>exact (hne y rfl).elim
    | cons _ _=>rfl
  ·cases hr
def VF(ks:List Nat)(s:Al):Al:=s.zipIdx.map fun p=>if ks.contains p.2 then p.1 else .dead
theorem XU(ks:List Nat)(s:Al):GQ (VF ks s) s:=by
 refine⟨by simp[VF],fun t => ?_⟩;simp only[A4,VF,Z,Ch,List.getElem?_zipIdx];cases h:s[t]? with
 | none=>simp
 | some r =>
  simp only[A3,B_,GE];split
  ·exact .inr rfl
  ·exact .inl rfl
def Alb(prog:Nat->Option IFunc)(T:Cn)(n:Nat)(c:ICode)(s:Al)(sc:List Sc)(ks:List Nat):Option (Ex × Al × List Prop) :=
 match Hs prog T n c s sc [] with
 | some ((ex,t),[],ps)=>some (ex,VF ks t,ps)
 | _=>none
theorem DV{T:Cn}(hT:Ca prog T)(n:Nat){c:ICode}{s t:Al}{ex:Ex}(sc:List Sc)(ks:List Nat){ps:List Prop}
  (h:Alb prog T n c s sc ks=some (ex,t,ps)) (hp:Gk ps):Cv prog c s ex t:=by
 unfold Alb at h;split at h
 ·rename_i ex' t' ps' h1;cases h;exact⟨_,LB hT n sc h1 hp,XU ks _⟩
 ·cases h
theorem G{T:Cn}(hT:Ca prog T)(n:Nat){c:ICode}{s t:Al}{ex:Ex}(sc:List Sc)(ks:List Nat){ps:List Prop}
  (hp:Gk ps) (h:Alb prog T n c s sc ks=some (ex,t,ps):=by kernel_rfl):Cv prog c s ex t:=DV hT n sc ks h hp
end
theorem S{p:Prop}{ps:List Prop}(h:p)(hs:Gk ps):Gk (p::ps):=⟨h,hs⟩
theorem a0:Gk []:=trivial
theorem i{prog:Nat->Option IFunc}{T:Cn}(hT:Ca prog T){f:Nat}{fn:IFunc}(hf:prog f=some fn)(n:Nat){args:List AV}(hl:args.length=fn.params)(sc:List Sc){r:AV}{ps:List Prop}
  (hp:Gk ps) (h:Afz prog T n fn args sc=some (r,ps):=by kernel_rfl):FK prog f args r:=Bx hT hf n hl sc h hp
theorem EI:false=false:=rfl
theorem Ie:¬ (32:Int)<0:=by decide
theorem Ip:true=true:=rfl
theorem WZ:¬ (63:Int)<0:=by decide
theorem FP:¬ (32:Int)=0:=by decide
theorem A8{prog:Nat->Option IFunc}{f:Nat}{args:List AV}{r:AV}(fn:IFunc)(s:Al)(h:Cv prog fn.body (GO fn args) .ret s)(hf:prog f=some fn:=by exact rfl)(hl:args.length=fn.params:=by exact rfl)(hr:GN s fn.res=some r:=by exact rfl):FK prog f args r:=K8 hf hl h (by nofun) hr
theorem FQ{b:Bool}(h:b=true):(!b)=false:=by rw[h];rfl
theorem W_{b:Bool}(h:b=false):(!b)=true:=by rw[h];rfl
end Go.Ai
