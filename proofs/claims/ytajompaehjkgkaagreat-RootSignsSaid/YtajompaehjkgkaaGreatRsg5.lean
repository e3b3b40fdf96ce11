/- Texts of the proof of RootSigns: part 5 of 13. -/
import Derived.Test.YtajompaehjkgkaaGreatProg
import Derived.KernelRfl
import Derived.Test.YtajompaehjkgkaaGreatRsg4
namespace Go.Proofs.YtajompaehjkgkaaGreat
open Go.Ai
set_option maxRecDepth 100000
open Go.Ai.AV renaming bool->A6m,int->A6l,sl->A6n
open Go.IntKind renaming i64->R,u32->A5,u64->U
open Go.Proofs.Tryz renaming f7->Ug,prog->c
def tW:ICode := .seq (e [V 45 7,V 46 5,S 47 (.len 46),oB 48 .lss 45 47] (.cond 48 .skip (.exit 0))) (.seq (.block 1 (e [V 52 5,V 53 7,oA 54 52 53 7,oL 55 54 54 7,V 56 1,n 57 34 [55,56],V 51 57,oE 58 51 0,oE 59 51 1,V 8 58,V 9 59] (e [V 61 5,V 62 7,oA 63 61 62 7,oL 64 63 63 7,V 65 0,n 66 34 [64,65],V 60 66,oE 67 60 0,oE 68 60 1,V 10 67,V 11 68] (e [V 69 9,oI 70 .neq 69 0,V 71 70,h 72 (.mov 11) 71 false,h 73 (.bin .neq 72 (ci 0)) 71 false,S 74 (.pick 71 (cb true) 73),V 75 74,h 76 (.mov 10) 75 false,h 77 (.bin .neq 76 (ci 0)) 75 false,S 78 (.pick 75 (cb true) 77),V 79 78,h 80 (.mov 8) 79 false,h 81 (.mov 5) 79 false,h 82 (.mov 7) 79 false,h 83 (.ixa 81 82 7) 79 false,h 84 (.ld 83 83 7 false) 79 false,h 85 (.call 20 [84]) 79 false,h 86 (.mov 1) 79 false,h 87 (.call 35 [85,86]) 79 false,h 88 (.bin .neq 80 87) 79 false,S 89 (.pick 79 (cb true) 88)] (.cond 89 (e [S 4 (.mov (cb false))] .ret) .skip))))) (rg [V 49 7,oI 50 .add 49 1,V 7 50]))
def WL:IFunc:=⟨2,90,[.tmp 4],e [S 4 (.mov (cb false))] (.seq (e [n 12 12 [],S 13 (.un .not 12)] (.cond 13 (e [S 4 (.mov (cb false))] .ret) .skip)) (.seq (e [V 14 0,S 15 (.len 14),oI 16 .gtr 15 6,V 17 16,h 18 (.mov 1) 17 false,h 19 (.len 18) 17 false,h 20 (.bin .gtr 19 (ci 6)) 17 false,S 21 (.pick 17 (cb true) 20),V 22 21,h 23 (.mov 0) 22 false,h 24 (.call 13 [23]) 22 false,h 25 (.un .not 24) 22 false,S 26 (.pick 22 (cb true) 25),V 27 26,h 28 (.mov 1) 27 false,h 29 (.call 13 [28]) 27 false,h 30 (.un .not 29) 27 false,S 31 (.pick 27 (cb true) 30),V 32 31,h 33 (.mov 0) 32 false,h 34 (.call 21 [33]) 32 false,h 35 (.bin .lss 34 (ci 1)) 32 false,S 36 (.pick 32 (cb true) 35)] (.cond 36 (e [n 37 12 [],V 4 37] .ret) .skip)) (e [V 39 0,n 40 22 [39],V 38 40,oE 41 38 0,oE 42 38 1,V 5 41,V 6 42] (.seq (e [V 43 6,S 44 (.un .not 43)] (.cond 44 (e [S 4 (.mov (cb false))] .ret) .skip)) (.seq (e [S 7 (.mov (ci 0))] (.block 0 (.loop tW))) (e [S 4 (.mov (cb true))] .ret))))))⟩
def Yr7:List (Nat × Nat):=[]
theorem Awt:AU c Yr7 Ug WL=true:=by kernel_rfl
def rJ:IFunc:=⟨0,116,[.tmp 0],e [S 0 (.mov (cb false))] (e [S 14 (.bls 4 [A6l R 0,A6l R 0,A6l R 0,A6l R 0] [(0,1,.c (A6l R 0)),(1,1,.c (A6l R (-1))),(2,1,.c (A6l R 0)),(3,1,.c (A6l R 1))]),n 15 47 [14],S 16 (.call 50 [.c (A6l R (-1)),.c (A6l R 0)]),S 17 (.call 50 [.c (A6l R 2),.c (A6l R 0)]),n 18 15 [15,16,17],V 13 18,oE 19 13 0,oE 20 13 1,V 1 19,V 2 20] (e [S 22 (.bls 3 [A6l R 0,A6l R 0,A6l R 0] [(0,1,.c (A6l R (-2))),(1,1,.c (A6l R 0)),(2,1,.c (A6l R 1))]),n 23 47 [22],S 24 (.call 50 [.c (A6l R 0),.c (A6l R 0)]),S 25 (.call 50 [.c (A6l R 2),.c (A6l R 0)]),n 26 15 [23,24,25],V 21 26,oE 27 21 0,oE 28 21 1,V 3 27,V 4 28] (e [S 30 (.bls 5 [A6l R 0,A6l R 0,A6l R 0,A6l R 0,A6l R 0] [(0,1,.c (A6l R (-4))),(1,1,.c (A6l R 0)),(2,1,.c (A6l R 0)),(3,1,.c (A6l R 0)),(4,1,.c (A6l R 1))]),n 31 47 [30],S 32 (.call 50 [.c (A6l R 0),.c (A6l R 0)]),S 33 (.call 50 [.c (A6l R 5),.c (A6l R 0)]),n 34 15 [31,32,33],V 29 34,oE 35 29 0,oE 36 29 1,V 5 35,V 6 36] (.seq (e [V 37 2,oI 38 .neq 37 0,V 39 38,h 40 (.mov 4) 39 false,h 41 (.bin .neq 40 (ci 0)) 39 false,S 42 (.pick 39 (cb true) 41),V 43 42,h 44 (.mov 6) 43 false,h 45 (.bin .neq 44 (ci 0)) 43 false,S 46 (.pick 43 (cb true) 45),V 47 46,h 48 (.mov 1) 47 false,h 49 (.len 48) 47 false,h 50 (.bin .neq 49 (ci 2)) 47 false,S 51 (.pick 47 (cb true) 50),V 52 51,h 53 (.mov 3) 52 false,h 54 (.len 53) 52 false,h 55 (.bin .neq 54 (ci 1)) 52 false,S 56 (.pick 52 (cb true) 55),V 57 56,h 58 (.mov 5) 57 false,h 59 (.len 58) 57 false,h 60 (.bin .neq 59 (ci 1)) 57 false,S 61 (.pick 57 (cb true) 60)] (.cond 61 (e [S 0 (.mov (cb false))] .ret) .skip)) (e [V 63 3,S 64 (.ixa 63 (ci 0) 7),oL 65 64 64 7,S 66 (.call 25 [65,.c (A6l R 1)]),V 62 66,oE 67 62 0,oE 68 62 1,S 7 (.new [A6m false,A6n 0 []] []),oS 7 7 2 67,V 8 68] (.seq (.region true [V 70 3,S 71 (.ixa 70 (ci 0) 7),oL 72 71 71 7,V 73 5,S 74 (.ixa 73 (ci 0) 7),oL 75 74 74 7,n 76 23 [72,75],V 69 76,oE 77 69 0,oE 78 69 1,V 9 77,V 10 78]) (.seq (.region true [V 80 1,S 81 (.ixa 80 (ci 1) 7),oL 82 81 81 7,S 83 (.call 50 [.c (A6l R 1),.c (A6l R 0)]),n 84 24 [82,83],V 79 84,oE 85 79 0,oE 86 79 1,V 11 85,V 12 86]) (.seq (.region true [V 87 8,oI 88 .eql 87 0,V 89 88,h 90 (.mov 10) 89 true,h 91 (.bin .eql 90 (ci 0)) 89 true,S 92 (.pick 89 91 (cb false)),V 93 92,h 94 (.mov 12) 93 true,h 95 (.bin .eql 94 (ci 0)) 93 true,S 96 (.pick 93 95 (cb false)),V 97 96,h 98 (.ld 7 7 2 false) 97 true,h 99 (.call 49 [.c (A6l R 2)]) 97 true,h 100 (.call 28 [98,99]) 97 true,S 101 (.pick 97 100 (cb false)),V 102 101,h 103 (.mov 9) 102 true,h 104 (.bin .eql 103 (ci 0)) 102 true,S 105 (.pick 102 104 (cb false)),V 106 105,h 107 (.mov 11) 106 true,h 108 (.bin .eql 107 (ci 0)) 106 true,S 109 (.pick 106 108 (cb false)),V 110 109,h 111 (.mov 1) 110 true,h 112 (.ixa 111 (ci 0) 7) 110 true,h 113 (.ld 112 112 7 false) 110 true,h 114 (.call 18 [113]) 110 true,S 115 (.pick 110 114 (cb false)),V 0 115]) .ret))))))))⟩
def A2e:List (Nat × Nat):=[]
theorem Afr:AU c A2e Tryz.f12 rJ=true:=by kernel_rfl
def N9:ICode := .seq (e [V 7 3,V 8 0,S 9 (.len 8),oB 10 .lss 7 9] (.cond 10 .skip (.exit 0))) (.seq (.block 1 (e [V 13 0,V 14 3,oA 15 13 14 2,oL 16 15 15 2,n 17 51 [16],oI 18 .gtr 17 100,V 19 18,h 20 (.mov 0) 19 false,h 21 (.mov 3) 19 false,h 22 (.ixa 20 21 2) 19 false,h 23 (.adr 22 28 1) 19 false,h 24 (.ld 23 23 1 true) 19 false,h 25 (.len 24) 19 false,h 26 (.bin .gtr 25 (ci 5)) 19 false,S 27 (.pick 19 (cb true) 26)] (.cond 27 (e [S 2 (.mov (cb false))] .ret) .skip))) (rg [V 11 3,oI 12 .add 11 1,V 3 12]))
def U1:IFunc:=⟨1,28,[.tmp 2],e [S 2 (.mov (cb false))] (.seq (e [V 4 0,S 5 (.len 4),oI 6 .gtr 5 9] (.cond 6 (e [S 2 (.mov (cb false))] .ret) .skip)) (.seq (e [S 3 (.mov (ci 0))] (.block 0 (.loop N9))) (e [S 2 (.mov (cb true))] .ret)))⟩
def A2f:List (Nat × Nat):=[(23,28)]
theorem Afs:AU c A2f Tryz.f13 U1=true:=by kernel_rfl
def U2:ICode:=e [oB 48 .lss 47 46] (.seq (.cond 48 .skip (.exit 1)) (.seq (.block 2 (e [oA 49 45 47 7,oL 50 49 49 7,S 12 (.new [A6n 0 [],A6m false,A6n 0 [],A6l R 0,A6m false,A6n 0 [],A6l R 0] [51,56]),oS 12 12 7 50] (.seq (e [S 51 (.adr 12 12 0),S 52 (.ld 51 12 1 true),n 53 52 [52],S 54 (.un .not 53)] (.cond 54 (rg [V 55 0,S 56 (.adr 12 12 0),oS 56 12 1 55]) .skip)) (rg [S 57 (.tra 10),oL 58 12 12 7,n 59 57 [58],S 60 (.bls 1 [A6n 0 [],A6m false,A6n 0 [],A6l R 0,A6m false,A6n 0 [],A6l R 0] [(0,7,.t 59)]),S 61 (.apd true 57 60 7 1048576),S 10 (.tra 61)])))) (rg [oI 62 .add 47 1,V 47 62])))
def Xz:IFunc:=⟨3,64,[.tmp 6,.tmp 7],e [S 4 (.box 1 []),S 5 (.box 2 []),S 6 (.nlo 7),S 7 (.mov (ci 0))] (.seq (.block 0 (e [V 14 0,n 15 52 [14],S 16 (.un .not 15),V 13 16] (.cond 13 (e [S 6 (.nlo 7),S 7 (.mov (ci 2))] .ret) (e [V 18 0,n 19 53 [18],oI 20 .lss 19 0,V 17 20] (.cond 17 (e [S 6 (.nlo 7),S 7 (.mov (ci 3))] .ret) (e [oL 22 4 4 3,n 23 54 [22],S 24 (.un .not 23),V 25 24,h 26 (.ld 5 5 3 false) 25 false,h 27 (.call 54 [26]) 25 false,h 28 (.un .not 27) 25 false,S 29 (.pick 25 (cb true) 28),V 30 29,h 31 (.ld 4 4 3 false) 30 false,h 32 (.ld 5 5 3 false) 30 false,h 33 (.call 55 [31,32]) 30 false,h 34 (.bin .gtr 33 (ci 0)) 30 false,S 35 (.pick 30 (cb true) 34),V 21 35] (.cond 21 (e [S 6 (.nlo 7),S 7 (.mov (ci 1))] .ret) .skip))))))) (e [V 37 0,oL 38 4 4 3,oL 39 5 5 3,S 40 (.call 56 [37,38,39,.c (A6l R 896)]),V 36 40,oE 41 36 0,oE 42 36 1,V 8 41,V 9 42] (.seq (e [V 43 9,S 44 (.un .not 43)] (.cond 44 (e [S 6 (.nlo 7),S 7 (.mov (ci 9))] .ret) .skip)) (e [S 10 (.nlo 7)] (.seq (e [V 45 8,S 46 (.len 45),S 47 (.mov (ci 0))] (.block 1 (.loop U2))) (e [S 63 (.tra 10),S 6 (.tra 63),S 7 (.mov (ci 0))] .ret))))))⟩
def A2g:List (Nat × Nat):=[(51,12),(56,12)]
theorem Aft:AU c A2g Tryz.f15 Xz=true:=by kernel_rfl
def NA:IFunc:=⟨1,55,[.tmp 2],e [S 1 (.box 0 [4,9,15,21,26,28,33,36,42,46,50]),S 2 (.mov (cb false))] (.seq (e [S 4 (.adr 1 1 0),S 5 (.ld 4 1 1 true),n 6 52 [5],S 7 (.un .not 6),V 8 7,h 9 (.adr 1 1 0) 8 false,h 10 (.ld 9 1 1 true) 8 false,h 11 (.call 53 [10]) 8 false,h 12 (.bin .lss 11 (ci 1)) 8 false,S 13 (.pick 8 (cb true) 12),V 14 13,h 15 (.adr 1 1 1) 14 false,h 16 (.ld 15 1 3 false) 14 false,h 17 (.call 64 [16]) 14 false,h 18 (.un .not 17) 14 false,S 19 (.pick 14 (cb true) 18),V 20 19,h 21 (.adr 1 1 4) 20 false,h 22 (.ld 21 1 3 false) 20 false,h 23 (.call 64 [22]) 20 false,h 24 (.un .not 23) 20 false,S 25 (.pick 20 (cb true) 24)] (.cond 25 (e [S 2 (.mov (cb false))] .ret) .skip)) (.seq (e [S 26 (.adr 1 1 1),oL 27 26 1 3,S 28 (.adr 1 1 4),oL 29 28 1 3,n 30 55 [27,29]] (.block 0 (e [oI 32 .eql 30 0,V 31 32] (.cond 31 (.seq (.region true [S 33 (.adr 1 1 0),S 34 (.ld 33 1 1 true),n 35 66 [34],S 36 (.adr 1 1 1),oL 37 36 1 3,n 38 65 [35,37],oI 39 .eql 38 0,V 2 39]) .ret) (e [oI 41 .eql 30 1,V 40 41] (.cond 40 (e [S 2 (.mov (cb false))] .ret) .skip)))))) (e [S 42 (.adr 1 1 0),S 43 (.ld 42 1 1 true),n 44 67 [43],V 3 44] (.seq (.region true [V 45 3,S 46 (.adr 1 1 1),oL 47 46 1 3,n 48 68 [45,47],V 49 3,S 50 (.adr 1 1 4),oL 51 50 1 3,n 52 68 [49,51],oB 53 .sub 48 52,oI 54 .eql 53 1,V 2 54]) .ret))))⟩
def A2h:List (Nat × Nat):=[(4,1),(9,1),(15,1),(21,1),(26,1),(28,1),(33,1),(36,1),(42,1),(46,1),(50,1)]
theorem Afu:AU c A2h Tryz.f18 NA=true:=by kernel_rfl
def aD:IFunc:=⟨1,11,[.cell 2 7 false],e [S 1 (.box 0 [3,6,8]),S 2 (.new [A6n 0 [],A6m false,A6n 0 [],A6l R 0,A6m false,A6n 0 [],A6l R 0] [])] (.seq (.region true [S 3 (.adr 1 1 0),S 4 (.ld 3 1 1 true),n 5 73 [4],S 6 (.adr 1 1 1),oL 7 6 1 3,S 8 (.adr 1 1 4),oL 9 8 1 3,S 10 (.bld [A6n 0 [],A6m false,A6n 0 [],A6l R 0,A6m false,A6n 0 [],A6l R 0] [(0,1,.t 5),(1,3,.t 7),(4,3,.t 9)]),oS 2 2 7 10]) .ret)⟩
def A2i:List (Nat × Nat):=[(3,1),(6,1),(8,1)]
theorem Afv:AU c A2i Tryz.f20 aD=true:=by kernel_rfl
def aE:IFunc:=⟨1,7,[.tmp 2],e [S 2 (.mov (ci 0))] (e [V 3 0,n 4 46 [3],S 5 (.len 4),oI 6 .sub 5 1,V 2 6] .ret)⟩
def A2j:List (Nat × Nat):=[]
theorem Afw:AU c A2j Tryz.f21 aE=true:=by kernel_rfl
def aF:IFunc:=⟨1,16,[.tmp 2,.tmp 3],e [S 2 (.nlo 7),S 3 (.mov (cb false))] (e [V 7 0,S 8 (.call 50 [.c (A6l R (-40)),.c (A6l R 0)]),S 9 (.call 50 [.c (A6l R 40),.c (A6l R 0)]),n 10 15 [7,8,9],V 6 10,oE 11 6 0,oE 12 6 1,V 4 11,V 5 12] (e [V 13 4,V 14 5,oI 15 .eql 14 0,S 2 (.tra 13),V 3 15] .ret))⟩
def A2k:List (Nat × Nat):=[]
theorem Afx:AU c A2k Tryz.f22 aF=true:=by kernel_rfl
def rK:IFunc:=⟨2,19,[.tmp 4,.tmp 5],e [S 2 (.box 0 []),S 3 (.box 1 []),S 4 (.mov (ci 0)),S 5 (.mov (ci 0))] (.seq (e [oL 6 2 2 7,n 7 18 [6],S 8 (.un .not 7),V 9 8,h 10 (.ld 3 3 7 false) 9 false,h 11 (.call 18 [10]) 9 false,h 12 (.un .not 11) 9 false,S 13 (.pick 9 (cb true) 12)] (.cond 13 (e [S 4 (.mov (ci 0)),S 5 (.mov (ci 1))] .ret) .skip)) (.seq (.region true [oL 14 2 2 7,n 15 75 [14],oL 16 3 3 7,n 17 75 [16],n 18 74 [15,17],V 4 18,S 5 (.mov (ci 0))]) .ret))⟩
def A2l:List (Nat × Nat):=[]
theorem Afy:AU c A2l Tryz.f23 rK=true:=by kernel_rfl
def rL:IFunc:=⟨2,18,[.tmp 4,.tmp 5],e [S 2 (.box 0 []),S 3 (.box 1 []),S 4 (.mov (ci 0)),S 5 (.mov (ci 0))] (.seq (e [oL 6 2 2 7,n 7 18 [6],S 8 (.un .not 7),V 9 8,h 10 (.ld 3 3 3 false) 9 false,h 11 (.call 64 [10]) 9 false,h 12 (.un .not 11) 9 false,S 13 (.pick 9 (cb true) 12)] (.cond 13 (e [S 4 (.mov (ci 0)),S 5 (.mov (ci 1))] .ret) .skip)) (.seq (.region true [oL 14 2 2 7,n 15 75 [14],oL 16 3 3 3,n 17 76 [15,16],V 4 17,S 5 (.mov (ci 0))]) .ret))⟩
def A2m:List (Nat × Nat):=[]
theorem Afz:AU c A2m Tryz.f24 rL=true:=by kernel_rfl
def rM:IFunc:=⟨2,22,[.cell 4 2 false,.tmp 5],e [S 2 (.box 0 []),S 4 (.new [A6m false,A6n 0 []] []),S 5 (.mov (ci 0))] (.seq (e [oL 6 2 2 7,n 7 18 [6],S 8 (.un .not 7),V 9 8,h 10 (.mov 1) 9 false,h 11 (.bin .lss 10 (ci 0)) 9 false,S 12 (.pick 9 (cb true) 11),V 13 12,h 14 (.mov 1) 13 false,h 15 (.bin .gtr 14 (ci 64)) 13 false,S 16 (.pick 13 (cb true) 15)] (.cond 16 (e [S 17 (.bld [A6m false,A6n 0 []] []),oS 4 4 2 17,S 5 (.mov (ci 1))] .ret) .skip)) (e [oL 18 2 2 7,n 19 75 [18],V 20 1,n 21 77 [19,20],oS 4 4 2 21,S 5 (.mov (ci 0))] .ret))⟩
def A2n:List (Nat × Nat):=[]
theorem Aga:AU c A2n Tryz.f25 rM=true:=by kernel_rfl
def Pi:IFunc:=⟨2,60,[.tmp 4],e [S 2 (.box 0 [10,14,18,20,32,40,42,43,45,46]),S 3 (.box 1 [34,36]),S 4 (.mov (ci 0))] (.seq (.region true [oL 9 3 3 3,S 10 (.adr 2 2 1),oL 11 10 2 3,n 12 33 [9,11],oL 13 3 3 3,S 14 (.adr 2 2 4),oL 15 14 2 3,n 16 33 [13,15],V 5 12,V 6 16]) (.seq (.block 0 (e [S 18 (.adr 2 2 1),oL 19 18 2 3,S 20 (.adr 2 2 4),oL 21 20 2 3,n 22 33 [19,21],oI 23 .eql 22 0,V 17 23] (.cond 17 (e [V 24 5,S 25 (.un .neg 24),V 4 25] .ret) (e [V 27 5,oI 28 .leq 27 0,V 26 28] (.cond 26 (e [S 4 (.mov (ci 1))] .ret) (e [V 30 6,oI 31 .gtr 30 0,V 29 31] (.cond 29 (e [S 4 (.mov (ci (-1)))] .ret) .skip))))))) (e [S 32 (.adr 2 2 0),S 33 (.ld 32 2 1 true),S 34 (.adr 3 3 0),oL 35 34 3 2,S 36 (.adr 3 3 2),S 37 (.ld 36 3 1 true),n 38 80 [33,35,37],n 39 79 [38],V 7 39] (e [S 40 (.adr 2 2 0),S 41 (.ld 40 2 1 true),S 42 (.adr 2 2 4),S 43 (.adr 42 2 0),oL 44 43 2 2,S 45 (.adr 2 2 4),S 46 (.adr 45 2 2),S 47 (.ld 46 2 1 true),n 48 80 [41,44,47],n 49 79 [48],V 8 49] (.seq (.block 1 (e [V 51 7,oI 52 .eql 51 0,V 50 52] (.cond 50 (e [S 4 (.mov (ci 0))] .ret) (e [V 54 8,oI 55 .eql 54 0,V 53 55] (.cond 53 (e [S 4 (.mov (ci 1))] .ret) (e [V 57 7,V 58 8,oB 59 .eql 57 58,V 56 59] (.cond 56 (e [S 4 (.mov (ci (-1)))] .ret) .skip))))))) (e [S 4 (.mov (ci 1))] .ret))))))⟩
def A2o:List (Nat × Nat):=[(10,2),(14,2),(18,2),(20,2),(32,2),(34,3),(36,3),(40,2),(42,2),(43,2),(45,2),(46,2)]
theorem Agb:AU c A2o Tryz.f27 Pi=true:=by kernel_rfl
def rN:IFunc:=⟨2,38,[.tmp 4],e [S 2 (.box 0 [6,12,21,27]),S 3 (.box 1 [8,15,32]),S 4 (.mov (cb false))] (.seq (e [S 6 (.adr 2 2 0),S 7 (.ld 6 2 1 true),S 8 (.adr 3 3 0),S 9 (.ld 8 3 1 true),S 10 (.eqb true 7 9),V 11 10,h 12 (.adr 2 2 1) 11 false,h 13 (.ld 12 2 1 true) 11 false,h 14 (.len 13) 11 false,h 15 (.adr 3 3 1) 11 false,h 16 (.ld 15 3 1 true) 11 false,h 17 (.len 16) 11 false,h 18 (.bin .neq 14 17) 11 false,S 19 (.pick 11 (cb true) 18)] (.cond 19 (e [S 4 (.mov (cb false))] .ret) .skip)) (.seq (e [S 5 (.mov (ci 0))] (.block 0 (.loop (.seq (e [V 20 5,S 21 (.adr 2 2 1),S 22 (.ld 21 2 1 true),S 23 (.len 22),oB 24 .lss 20 23] (.cond 24 .skip (.exit 0))) (.seq (.block 1 (.seq (.region true [S 27 (.adr 2 2 1),S 28 (.ld 27 2 1 true),V 29 5,oA 30 28 29 1,S 31 (.ld 30 30 1 true),S 32 (.adr 3 3 1),S 33 (.ld 32 3 1 true),V 34 5,oA 35 33 34 1,S 36 (.ld 35 35 1 true),oB 37 .neq 31 36]) (.cond 37 (e [S 4 (.mov (cb false))] .ret) .skip))) (rg [V 25 5,oI 26 .add 25 1,V 5 26])))))) (e [S 4 (.mov (cb true))] .ret)))⟩
def A2p:List (Nat × Nat):=[(6,2),(8,3),(12,2),(15,3),(21,2),(27,2),(32,3)]
theorem Agc:AU c A2p Tryz.f28 rN=true:=by kernel_rfl
def aG:IFunc:=⟨2,16,[.tmp 4],e [S 2 (.box 0 [5,12]),S 3 (.box 1 [7,10]),S 4 (.mov (ci 0))] (.seq (.region true [S 5 (.adr 2 2 0),oL 6 5 2 2,S 7 (.adr 3 3 2),S 8 (.ld 7 3 1 true),n 9 84 [6,8],S 10 (.adr 3 3 0),oL 11 10 3 2,S 12 (.adr 2 2 2),S 13 (.ld 12 2 1 true),n 14 84 [11,13],n 15 83 [9,14],V 4 15]) .ret)⟩
def A2q:List (Nat × Nat):=[(5,2),(7,3),(10,3),(12,2)]
theorem Agd:AU c A2q Tryz.f33 aG=true:=by kernel_rfl
def aH:IFunc:=⟨2,16,[.tmp 4,.tmp 5],e [S 2 (.box 0 []),S 4 (.mov (ci 0)),S 5 (.mov (ci 0))] (.seq (e [oL 6 2 2 7,n 7 18 [6],S 8 (.un .not 7)] (.cond 8 (e [S 4 (.mov (ci 0)),S 5 (.mov (ci 1))] .ret) .skip)) (.seq (e [V 9 1,n 10 52 [9],S 11 (.un .not 10)] (.cond 11 (e [S 4 (.mov (ci 0)),S 5 (.mov (ci 2))] .ret) .skip)) (e [oL 12 2 2 7,n 13 75 [12],V 14 1,n 15 85 [13,14],V 4 15,S 5 (.mov (ci 0))] .ret)))⟩
def A2r:List (Nat × Nat):=[]
theorem Age:AU c A2r Tryz.f34 aH=true:=by kernel_rfl
def SO:ICode := .seq (e [S 19 (.adr 2 2 1),oL 20 19 2 3,S 21 (.adr 2 2 4),oL 22 21 2 3,n 23 33 [20,22],oI 24 .lss 23 0,V 25 24,h 26 (.mov 5) 25 true,h 27 (.len 26) 25 true,h 28 (.bin .gtr 27 (ci 1)) 25 true,S 29 (.pick 25 28 (cb false)),V 30 29,h 31 (.mov 5) 30 true,h 32 (.adr 2 2 1) 30 true,h 33 (.ld 32 2 3 false) 30 true,h 34 (.adr 2 2 4) 30 true,h 35 (.ld 34 2 3 false) 30 true,h 36 (.call 63 [31,33,35]) 30 true,h 37 (.bin .gtr 36 (ci 0)) 30 true,S 38 (.pick 30 37 (cb false))] (.cond 38 .skip (.exit 0))) (.block 1 (rg [oL 39 2 2 7,n 40 72 [39],oS 2 2 7 40]))
def QA:IFunc:=⟨2,50,[.tmp 4],e [S 2 (.box 0 [13,19,21,32,34,42,43,45,46]),S 4 (.mov (ci 0))] (e [V 6 1,n 7 86 [6],V 5 7] (.seq (.seq (.region true [V 8 5,S 9 (.len 8),oI 10 .eql 9 0,V 11 10,h 12 (.ld 2 2 7 false) 11 false,h 13 (.adr 2 2 0) 11 false,h 14 (.ld 13 2 1 true) 11 false,h 15 (.mov 5) 11 false,h 16 (.call 70 [14,15]) 11 false,h 17 (.call 69 [12,16]) 11 false,S 18 (.pick 11 (cb true) 17)]) (.cond 18 (e [S 4 (.mov (ci 0))] .ret) .skip)) (.seq (.block 0 (.loop SO)) (e [V 41 5,S 42 (.adr 2 2 4),S 43 (.adr 42 2 0),oL 44 43 2 2,S 45 (.adr 2 2 4),S 46 (.adr 45 2 2),S 47 (.ld 46 2 1 true),n 48 80 [41,44,47],n 49 79 [48],V 4 49] .ret))))⟩
def A2s:List (Nat × Nat):=[(13,2),(19,2),(21,2),(32,2),(34,2),(42,2),(43,2),(45,2),(46,2)]
theorem Agf:AU c A2s Tryz.f35 QA=true:=by kernel_rfl
def U3:ICode := .seq (e [V 21 5,V 22 3,oB 23 .lss 21 22] (.cond 23 .skip (.exit 2))) (.seq (.block 3 (rg [S 26 (.tra 4),V 27 0,V 28 5,oA 29 27 28 2,oL 30 29 29 2,n 31 97 [30],S 32 (.bls 1 [A6m false,A6n 0 []] [(0,2,.t 31)]),S 33 (.apd true 26 32 2 1048576),S 4 (.tra 33)])) (rg [V 24 5,oI 25 .add 24 1,V 5 25]))
def R8:ICode := .seq (e [V 8 3,oI 9 .gtr 8 0,V 10 9,h 11 (.mov 0) 10 true,h 12 (.mov 3) 10 true,h 13 (.bin .sub 12 (ci 1)) 10 true,h 14 (.ixa 11 13 2) 10 true,h 15 (.ld 14 14 2 false) 10 true,h 16 (.call 79 [15]) 10 true,h 17 (.bin .eql 16 (ci 0)) 10 true,S 18 (.pick 10 17 (cb false))] (.cond 18 .skip (.exit 0))) (.block 1 (rg [V 19 3,oI 20 .sub 19 1,V 3 20]))
def aI:IFunc:=⟨1,35,[.tmp 2],e [S 2 (.nlo 2)] (e [V 6 0,S 7 (.len 6),V 3 7] (.seq (.block 0 (.loop R8)) (e [S 4 (.nlo 2)] (.seq (e [S 5 (.mov (ci 0))] (.block 2 (.loop U3))) (e [S 34 (.tra 4),S 2 (.tra 34)] .ret)))))⟩
def A2t:List (Nat × Nat):=[]
theorem Agg:AU c A2t Tryz.f46 aI=true:=by kernel_rfl
def rO:IFunc:=⟨1,21,[.tmp 2],e [S 2 (.nlo 2)] (e [S 3 (.nlo 2)] (.seq (e [S 4 (.mov (ci 0))] (.block 0 (.loop (.seq (e [V 5 4,V 6 0,S 7 (.len 6),oB 8 .lss 5 7] (.cond 8 .skip (.exit 0))) (.seq (.block 1 (rg [S 11 (.tra 3),V 12 0,V 13 4,oA 14 12 13 1,S 15 (.ld 14 14 1 true),n 16 49 [15],S 17 (.bls 1 [A6m false,A6n 0 []] [(0,2,.t 16)]),S 18 (.apd true 11 17 2 1048576),S 3 (.tra 18)])) (rg [V 9 4,oI 10 .add 9 1,V 4 10])))))) (e [S 19 (.frz 3),S 20 (.clo 46 [19]),S 2 (.tra 20)] .ret)))⟩
def A2u:List (Nat × Nat):=[]
theorem Agh:AU c A2u Tryz.f47 rO=true:=by kernel_rfl
def rP:IFunc:=⟨1,19,[.cell 2 2 false],e [S 2 (.new [A6m false,A6n 0 []] [])] (e [V 4 0,S 5 (.cv .u64 4),V 3 5] (.seq (e [V 6 0,oI 7 .lss 6 0] (.cond 7 (rg [V 8 3,S 9 (.un .neg 8),V 3 9]) .skip)) (e [V 10 0,oI 11 .lss 10 0,V 12 3,S 13 (.cv .u32 12),V 14 3,S 15 (.bin .shr 14 (.c (A6l U 32))),S 16 (.cv .u32 15),S 17 (.bls 2 [A6l A5 0,A6l A5 0] [(0,1,.t 13),(1,1,.t 16)]),n 18 98 [11,17],oS 2 2 2 18] .ret)))⟩
def A2v:List (Nat × Nat):=[]
theorem Agi:AU c A2v Tryz.f49 rP=true:=by kernel_rfl
def aJ:IFunc:=⟨2,9,[.cell 4 3 false],e [S 4 (.new [A6m false,A6n 0 [],A6l R 0] [])] (e [V 5 0,n 6 49 [5],V 7 1,S 8 (.bld [A6m false,A6n 0 [],A6l R 0] [(0,2,.t 6),(2,1,.t 7)]),oS 4 4 3 8] .ret)⟩
def A2w:List (Nat × Nat):=[]
theorem Agj:AU c A2w Tryz.f50 aJ=true:=by kernel_rfl
def aK:ICode := .seq (e [V 22 5,S 23 (.bin .gtr 22 (.c (A6l A5 0)))] (.cond 23 .skip (.exit 0))) (.seq (.block 1 (rg [V 26 4,oI 27 .add 26 1,V 4 27])) (rg [V 24 5,S 25 (.bin .shr 24 (.c (A6l U 1))),V 5 25]))
def X1:IFunc:=⟨1,29,[.tmp 2],e [S 1 (.box 0 [6]),S 2 (.mov (ci 0))] (e [S 6 (.adr 1 1 1),S 7 (.ld 6 1 1 true),n 8 99 [7],V 3 8] (.seq (e [V 9 3,S 10 (.len 9),oI 11 .eql 10 0] (.cond 11 (e [S 2 (.mov (ci 0))] .ret) .skip)) (e [V 12 3,S 13 (.len 12),oI 14 .sub 13 1,S 15 (.bin .mul (ci 32) 14),V 4 15] (.seq (e [V 16 3,V 17 3,S 18 (.len 17),oI 19 .sub 18 1,oA 20 16 19 1,S 21 (.ld 20 20 1 true),V 5 21] (.block 0 (.loop aK))) (e [V 28 4,V 2 28] .ret)))))⟩
def A2x:List (Nat × Nat):=[(6,1)]
theorem Agk:AU c A2x Tryz.f51 X1=true:=by kernel_rfl
def aL:IFunc:=⟨1,12,[.tmp 2],e [S 2 (.mov (cb false))] (e [V 6 0,S 7 (.call 100 [6,.c (A6n 0 [])]),V 5 7,oE 8 5 0,oE 9 5 1,V 3 8,V 4 9] (e [V 10 4,oI 11 .eql 10 0,V 2 11] .ret))⟩
def A2y:List (Nat × Nat):=[]
theorem Agl:AU c A2y Tryz.f52 aL=true:=by kernel_rfl
def X2:ICode := .seq (e [V 7 3,oI 8 .geq 7 0,V 9 8,h 10 (.mov 0) 9 true,h 11 (.mov 3) 9 true,h 12 (.ixa 10 11 2) 9 true,h 13 (.ld 12 12 2 false) 9 true,h 14 (.call 101 [13]) 9 true,h 15 (.bin .eql 14 (ci 0)) 9 true,S 16 (.pick 9 15 (cb false))] (.cond 16 .skip (.exit 0))) (.block 1 (rg [V 17 3,oI 18 .sub 17 1,V 3 18]))
def aM:IFunc:=⟨1,20,[.tmp 2],e [S 2 (.mov (ci 0))] (e [V 4 0,S 5 (.len 4),oI 6 .sub 5 1,V 3 6] (.seq (.block 0 (.loop X2)) (e [V 19 3,V 2 19] .ret)))⟩
def A2z:List (Nat × Nat):=[]
theorem Agm:AU c A2z Tryz.f53 aM=true:=by kernel_rfl
def U4:IFunc:=⟨1,17,[.tmp 2],e [S 1 (.box 0 [3,7,12]),S 2 (.mov (cb false))] (e [S 3 (.adr 1 1 2),S 4 (.ld 3 1 1 true),oI 5 .geq 4 0,V 6 5,h 7 (.adr 1 1 2) 6 true,h 8 (.ld 7 1 1 true) 6 true,h 9 (.bin .leq 8 (ci 64)) 6 true,S 10 (.pick 6 9 (cb false)),V 11 10,h 12 (.adr 1 1 0) 11 true,h 13 (.ld 12 1 2 false) 11 true,h 14 (.call 102 [13]) 11 true,h 15 (.bin .leq 14 (ci 128)) 11 true,S 16 (.pick 11 15 (cb false)),V 2 16] .ret)⟩
def A3a:List (Nat × Nat):=[(3,1),(7,1),(12,1)]
theorem Agn:AU c A3a Tryz.f54 U4=true:=by kernel_rfl
def aN:IFunc:=⟨2,26,[.tmp 4],e [S 2 (.box 0 [6,11,14]),S 3 (.box 1 [8,18,21]),S 4 (.mov (ci 0))] (e [S 6 (.adr 2 2 2),S 7 (.ld 6 2 1 true),S 8 (.adr 3 3 2),S 9 (.ld 8 3 1 true),S 10 (.mx [7,9]),V 5 10] (.seq (.region true [S 11 (.adr 2 2 0),oL 12 11 2 2,V 13 5,S 14 (.adr 2 2 2),S 15 (.ld 14 2 1 true),oB 16 .sub 13 15,n 17 104 [12,16],S 18 (.adr 3 3 0),oL 19 18 3 2,V 20 5,S 21 (.adr 3 3 2),S 22 (.ld 21 3 1 true),oB 23 .sub 20 22,n 24 104 [19,23],n 25 103 [17,24],V 4 25]) .ret))⟩
def A3b:List (Nat × Nat):=[(6,2),(8,3),(11,2),(14,2),(18,3),(21,3)]
theorem Ago:AU c A3b Tryz.f55 aN=true:=by kernel_rfl
def X3:IFunc:=⟨4,29,[.tmp 8,.tmp 9],e [S 5 (.box 1 []),S 6 (.box 2 []),S 8 (.nlo 7),S 9 (.mov (cb false))] (e [V 11 0,n 12 67 [11],V 10 12] (.seq (e [V 13 10,S 14 (.len 13),oI 15 .lss 14 2] (.cond 15 (e [S 8 (.nlo 7),S 9 (.mov (cb true))] .ret) .skip)) (.seq (.region true [V 16 10,oL 17 5 5 3,oL 18 6 6 3,V 19 10,oL 20 5 5 3,n 21 68 [19,20],V 22 10,oL 23 6 6 3,n 24 68 [22,23],V 25 3,n 26 105 [16,17,18,21,24,25],oE 27 26 0,oE 28 26 1,S 8 (.tra 27),V 9 28]) .ret)))⟩
def A3c:List (Nat × Nat):=[]
theorem Agp:AU c A3c Tryz.f56 X3=true:=by kernel_rfl
def aO:IFunc:=⟨1,13,[.cell 2 7 false],e [S 1 (.box 0 [3,6,9]),S 2 (.new [A6n 0 [],A6m false,A6n 0 [],A6l R 0,A6m false,A6n 0 [],A6l R 0] [])] (.seq (.region true [S 3 (.adr 1 1 0),S 4 (.ld 3 1 1 true),n 5 66 [4],S 6 (.adr 1 1 1),oL 7 6 1 3,n 8 106 [7],S 9 (.adr 1 1 4),oL 10 9 1 3,n 11 106 [10],S 12 (.bld [A6n 0 [],A6m false,A6n 0 [],A6l R 0,A6m false,A6n 0 [],A6l R 0] [(0,1,.t 5),(1,3,.t 8),(4,3,.t 11)]),oS 2 2 7 12]) .ret)⟩
def A3d:List (Nat × Nat):=[(3,1),(6,1),(9,1)]
theorem Agq:AU c A3d Tryz.f57 aO=true:=by kernel_rfl
def rQ:IFunc:=⟨2,13,[.tmp 4],e [S 3 (.box 1 [6,8]),S 4 (.mov (cb false))] (e [V 5 0,S 6 (.adr 3 3 0),oL 7 6 3 2,S 8 (.adr 3 3 2),S 9 (.ld 8 3 1 true),n 10 80 [5,7,9],n 11 79 [10],oI 12 .eql 11 0,V 4 12] .ret)⟩
def A3e:List (Nat × Nat):=[(6,3),(8,3)]
theorem Agr:AU c A3e Tryz.f62 rQ=true:=by kernel_rfl
def aP:IFunc:=⟨3,17,[.tmp 6],e [S 4 (.box 1 []),S 5 (.box 2 []),S 6 (.mov (ci 0))] (e [V 8 0,n 9 108 [8],V 7 9] (.seq (.region true [V 10 7,oL 11 4 4 3,n 12 110 [10,11],V 13 7,oL 14 5 5 3,n 15 110 [13,14],oB 16 .sub 12 15,V 6 16]) .ret))⟩
def A3f:List (Nat × Nat):=[]
theorem Ags:AU c A3f Tryz.f63 aP=true:=by kernel_rfl
def U5:IFunc:=⟨1,17,[.tmp 2],e [S 1 (.box 0 [3,7,12]),S 2 (.mov (cb false))] (e [S 3 (.adr 1 1 2),S 4 (.ld 3 1 1 true),oI 5 .geq 4 0,V 6 5,h 7 (.adr 1 1 2) 6 true,h 8 (.ld 7 1 1 true) 6 true,h 9 (.bin .leq 8 (ci 1024)) 6 true,S 10 (.pick 6 9 (cb false)),V 11 10,h 12 (.adr 1 1 0) 11 true,h 13 (.ld 12 1 2 false) 11 true,h 14 (.call 102 [13]) 11 true,h 15 (.bin .leq 14 (ci 1024)) 11 true,S 16 (.pick 11 15 (cb false)),V 2 16] .ret)⟩
def A3g:List (Nat × Nat):=[(3,1),(7,1),(12,1)]
theorem Agt:AU c A3g Tryz.f64 U5=true:=by kernel_rfl
def aQ:ICode := .seq (e [V 11 6,oI 12 .geq 11 0] (.cond 12 .skip (.exit 0))) (.seq (.block 1 (.region true [oL 19 5 5 2,S 20 (.adr 3 3 0),oL 21 20 3 2,n 22 112 [19,21],V 23 0,V 24 6,oA 25 23 24 2,oL 26 25 25 2,V 27 7,n 28 104 [26,27],n 29 111 [22,28],oS 5 5 2 29])) (.region true [V 13 6,oI 14 .sub 13 1,V 15 7,S 16 (.adr 3 3 2),S 17 (.ld 16 3 1 true),oB 18 .add 15 17,V 6 14,V 7 18]))
def aR:IFunc:=⟨2,32,[.tmp 4],e [S 3 (.box 1 [20,16]),S 4 (.mov (ci 0))] (e [S 5 (.new [A6m false,A6n 0 []] [])] (.seq (e [V 8 0,S 9 (.len 8),oI 10 .sub 9 1,V 6 10,S 7 (.mov (ci 0))] (.block 0 (.loop aQ))) (e [oL 30 5 5 2,n 31 101 [30],V 4 31] .ret)))⟩
def A3h:List (Nat × Nat):=[(20,3),(16,3)]
theorem Agu:AU c A3h Tryz.f65 aR=true:=by kernel_rfl
def aS:ICode:=e [oB 16 .lss 15 14] (.seq (.cond 16 .skip (.exit 0)) (.seq (.block 1 (e [V 17 15,V 5 17] (rg [S 18 (.cpy 4),V 19 5,V 20 0,V 21 5,oA 22 20 21 2,oL 23 22 22 2,n 24 113 [23],S 25 (.ixo 18 4 19 2),oS 25 4 2 24]))) (rg [oI 26 .add 15 1,V 15 26])))
def aT:IFunc:=⟨1,28,[.tmp 2],e [S 2 (.nlo 2)] (e [V 6 0,n 7 53 [6],oI 8 .add 7 1,V 3 8] (.seq (e [V 9 3,oI 10 .eql 9 0] (.cond 10 (e [S 2 (.nlo 2)] .ret) .skip)) (e [V 11 3,S 12 (.mks [A6m false,A6n 0 []] 11),⟨some 4,.tra 12,none,[13,18,25]⟩] (.seq (e [S 13 (.cpy 4),S 14 (.lno 13 4),S 15 (.mov (ci 0))] (.block 0 (.loop aS))) (e [S 27 (.tra 4),S 2 (.tra 27)] .ret)))))⟩
def A3i:List (Nat × Nat):=[(13,4),(18,4),(25,4)]
theorem Agv:AU c A3i Tryz.f66 aT=true:=by kernel_rfl
def X4:ICode := .seq (e [V 16 5,S 17 (.len 16),oI 18 .gtr 17 0] (.cond 18 .skip (.exit 0))) (.block 1 (e [S 19 (.tra 4),V 20 5,S 21 (.bls 1 [A6n 0 []] [(0,1,.t 20)]),S 22 (.apd true 19 21 1 1048576),S 4 (.tra 22)] (rg [V 23 5,V 24 3,V 25 5,n 26 118 [24,25],n 27 117 [26],V 3 23,V 5 27])))
def SP:IFunc:=⟨1,29,[.tmp 2],e [S 2 (.nlo 1)] (e [V 6 0,n 7 114 [6],V 3 7] (.seq (e [V 8 3,S 9 (.len 8),oI 10 .eql 9 0] (.cond 10 (e [S 2 (.nlo 1)] .ret) .skip)) (e [V 11 3,S 12 (.blo 1 1 [A6n 0 []] [(0,1,.t 11)]),S 4 (.tra 12)] (e [V 13 3,n 14 116 [13],n 15 115 [14],V 5 15] (.seq (.block 0 (.loop X4)) (e [S 28 (.tra 4),S 2 (.tra 28)] .ret))))))⟩
def A3j:List (Nat × Nat):=[]
theorem Agw:AU c A3j Tryz.f67 SP=true:=by kernel_rfl
def SQ:ICode:=e [oB 13 .lss 12 11] (.seq (.cond 13 .skip (.exit 0)) (.seq (.block 1 (e [oA 14 10 12 1,S 15 (.ld 14 14 1 true),V 8 15] (e [V 16 8,oL 17 3 3 3,n 18 65 [16,17],V 9 18] (.seq (e [V 19 9,oI 20 .neq 19 0,V 21 20,h 22 (.mov 6) 21 true,h 23 (.bin .neq 22 (ci 0)) 21 true,S 24 (.pick 21 23 (cb false)),V 25 24,h 26 (.mov 9) 25 true,h 27 (.mov 6) 25 true,h 28 (.bin .neq 26 27) 25 true,S 29 (.pick 25 28 (cb false))] (.cond 29 (rg [V 30 5,oI 31 .add 30 1,V 5 31]) .skip)) (e [V 32 9,oI 33 .neq 32 0] (.cond 33 (rg [V 34 9,V 6 34]) .skip)))))) (rg [oI 35 .add 12 1,V 12 35])))
def aU:IFunc:=⟨2,37,[.tmp 4],e [S 3 (.box 1 []),S 4 (.mov (ci 0))] (e [S 5 (.mov (ci 0)),S 6 (.mov (ci 0))] (.seq (e [V 10 0,S 11 (.len 10),S 12 (.mov (ci 0))] (.block 0 (.loop SQ))) (e [V 36 5,V 4 36] .ret)))⟩
def A3k:List (Nat × Nat):=[]
theorem Agx:AU c A3k Tryz.f68 aU=true:=by kernel_rfl
def X5:IFunc:=⟨2,25,[.tmp 4],e [S 2 (.box 0 [8,10,15,19,21]),S 4 (.mov (cb false))] (.seq (e [V 5 1,S 6 (.len 5),oI 7 .lss 6 2] (.cond 7 (e [S 4 (.mov (cb false))] .ret) .skip)) (.seq (e [S 8 (.adr 2 2 1),oL 9 8 2 3,S 10 (.adr 2 2 4),oL 11 10 2 3,n 12 33 [9,11],oI 13 .eql 12 0] (.cond 13 (e [V 14 1,S 15 (.adr 2 2 1),oL 16 15 2 3,n 17 62 [14,16],V 4 17] .ret) .skip)) (e [V 18 1,S 19 (.adr 2 2 1),oL 20 19 2 3,S 21 (.adr 2 2 4),oL 22 21 2 3,n 23 63 [18,20,22],oI 24 .eql 23 1,V 4 24] .ret)))⟩
def A3l:List (Nat × Nat):=[(8,2),(10,2),(15,2),(19,2),(21,2)]
theorem Agy:AU c A3l Tryz.f69 X5=true:=by kernel_rfl
def PA:ICode := .seq (e [V 12 6,S 13 (.len 12),oI 14 .gtr 13 0] (.cond 14 .skip (.exit 0))) (.block 1 (e [V 15 5,V 16 6,n 17 119 [15,16],V 7 17] (rg [V 18 6,V 19 7,V 5 18,V 6 19])))
def X6:IFunc:=⟨2,22,[.tmp 4],e [S 4 (.nlo 2)] (e [V 8 0,n 9 86 [8],V 10 1,n 11 86 [10],V 5 9,V 6 11] (.seq (.block 0 (.loop PA)) (e [V 20 5,S 21 (.clo 120 [20]),S 4 (.tra 21)] .ret)))⟩
def A3m:List (Nat × Nat):=[]
theorem Agz:AU c A3m Tryz.f70 X6=true:=by kernel_rfl
def U6:IFunc:=⟨1,32,[.cell 2 7 false],e [S 1 (.box 0 [4,6,11,13,20,22,26,29]),S 2 (.new [A6n 0 [],A6m false,A6n 0 [],A6l R 0,A6m false,A6n 0 [],A6l R 0] [])] (.seq (e [S 4 (.adr 1 1 1),oL 5 4 1 3,S 6 (.adr 1 1 4),oL 7 6 1 3,n 8 33 [5,7],oI 9 .eql 8 0] (.cond 9 (e [oL 10 1 1 7,oS 2 2 7 10] .ret) .skip)) (e [S 11 (.adr 1 1 1),oL 12 11 1 3,S 13 (.adr 1 1 4),oL 14 13 1 3,n 15 121 [12,14],S 3 (.new [A6m false,A6n 0 [],A6l R 0] []),oS 3 3 3 15] (.seq (e [oL 16 1 1 7,oL 17 3 3 3,n 18 27 [16,17],oI 19 .leq 18 0] (.cond 19 (e [S 20 (.adr 1 1 0),S 21 (.ld 20 1 1 true),S 22 (.adr 1 1 1),oL 23 22 1 3,oL 24 3 3 3,S 25 (.bld [A6n 0 [],A6m false,A6n 0 [],A6l R 0,A6m false,A6n 0 [],A6l R 0] [(0,1,.t 21),(1,3,.t 23),(4,3,.t 24)]),oS 2 2 7 25] .ret) .skip)) (e [S 26 (.adr 1 1 0),S 27 (.ld 26 1 1 true),oL 28 3 3 3,S 29 (.adr 1 1 4),oL 30 29 1 3,S 31 (.bld [A6n 0 [],A6m false,A6n 0 [],A6l R 0,A6m false,A6n 0 [],A6l R 0] [(0,1,.t 27),(1,3,.t 28),(4,3,.t 30)]),oS 2 2 7 31] .ret))))⟩
def A3n:List (Nat × Nat):=[(4,1),(6,1),(11,1),(13,1),(20,1),(22,1),(26,1),(29,1)]
theorem Aha:AU c A3n Tryz.f72 U6=true:=by kernel_rfl
def Pj:IFunc:=⟨1,19,[.tmp 2],e [S 2 (.nlo 2)] (e [V 5 0,n 6 86 [5],n 7 120 [6],V 3 7] (.seq (e [V 8 3,S 9 (.len 8),oI 10 .leq 9 1] (.cond 10 (e [V 11 3,S 2 (.tra 11)] .ret) .skip)) (e [V 12 3,V 13 3,n 14 122 [13],n 15 70 [12,14],V 4 15] (e [V 16 3,V 17 4,S 18 (.clo 123 [16,17]),S 2 (.tra 18)] .ret))))⟩
def A3o:List (Nat × Nat):=[]
theorem Ahb:AU c A3o Tryz.f73 Pj=true:=by kernel_rfl
def rR:IFunc:=⟨2,36,[.tmp 4],e [S 2 (.box 0 [5,13,20,28]),S 3 (.box 1 [7,11,22,26]),S 4 (.mov (ci 0))] (.seq (e [S 5 (.adr 2 2 4),oL 6 5 2 3,S 7 (.adr 3 3 1),oL 8 7 3 3,n 9 55 [6,8],oI 10 .lss 9 0] (.cond 10 (e [S 4 (.mov (ci (-1)))] .ret) .skip)) (.seq (e [S 11 (.adr 3 3 4),oL 12 11 3 3,S 13 (.adr 2 2 1),oL 14 13 2 3,n 15 55 [12,14],oI 16 .lss 15 0] (.cond 16 (e [S 4 (.mov (ci 1))] .ret) .skip)) (.seq (e [oL 17 2 2 7,oL 18 3 3 7,n 19 124 [17,18]] (.cond 19 (e [S 4 (.mov (ci 0))] .ret) .skip)) (.block 0 (.loop (.block 1 (.seq (e [S 20 (.adr 2 2 4),oL 21 20 2 3,S 22 (.adr 3 3 1),oL 23 22 3 3,n 24 55 [21,23],oI 25 .leq 24 0] (.cond 25 (e [S 4 (.mov (ci (-1)))] .ret) .skip)) (.seq (e [S 26 (.adr 3 3 4),oL 27 26 3 3,S 28 (.adr 2 2 1),oL 29 28 2 3,n 30 55 [27,29],oI 31 .leq 30 0] (.cond 31 (e [S 4 (.mov (ci 1))] .ret) .skip)) (.region true [oL 32 2 2 7,n 33 82 [32],oL 34 3 3 7,n 35 82 [34],oS 2 2 7 33,oS 3 3 7 35])))))))))⟩
def A3p:List (Nat × Nat):=[(5,2),(7,3),(11,3),(13,2),(20,2),(22,3),(26,3),(28,2)]
theorem Ahc:AU c A3p Tryz.f74 rR=true:=by kernel_rfl
def X7:IFunc:=⟨1,11,[.cell 2 7 false],e [S 1 (.box 0 [3,6,8]),S 2 (.new [A6n 0 [],A6m false,A6n 0 [],A6l R 0,A6m false,A6n 0 [],A6l R 0] [])] (.seq (.region true [S 3 (.adr 1 1 0),S 4 (.ld 3 1 1 true),n 5 114 [4],S 6 (.adr 1 1 1),oL 7 6 1 3,S 8 (.adr 1 1 4),oL 9 8 1 3,S 10 (.bld [A6n 0 [],A6m false,A6n 0 [],A6l R 0,A6m false,A6n 0 [],A6l R 0] [(0,1,.t 5),(1,3,.t 7),(4,3,.t 9)]),oS 2 2 7 10]) .ret)⟩
def A3q:List (Nat × Nat):=[(3,1),(6,1),(8,1)]
theorem Ahd:AU c A3q Tryz.f75 X7=true:=by kernel_rfl
def NB:IFunc:=⟨2,45,[.tmp 4],e [S 2 (.box 0 [10,15,20,25,27,34]),S 3 (.box 1 []),S 4 (.mov (ci 0))] (.seq (e [oL 8 2 2 7,n 9 125 [8]] (.cond 9 (e [S 10 (.adr 2 2 1),oL 11 10 2 3,oL 12 3 3 3,n 13 55 [11,12],V 4 13] .ret) .skip)) (.seq (e [oL 14 3 3 3,S 15 (.adr 2 2 1),oL 16 15 2 3,n 17 55 [14,16],oI 18 .leq 17 0] (.cond 18 (e [S 4 (.mov (ci 1))] .ret) .skip)) (e [oL 19 3 3 3,S 20 (.adr 2 2 4),oL 21 20 2 3,n 22 55 [19,21],V 5 22] (.seq (e [V 23 5,oI 24 .gtr 23 0] (.cond 24 (e [S 4 (.mov (ci (-1)))] .ret) .skip)) (e [S 25 (.adr 2 2 0),S 26 (.ld 25 2 1 true),S 27 (.adr 2 2 4),oL 28 27 2 3,n 29 65 [26,28],V 6 29] (.seq (e [V 30 5,oI 31 .eql 30 0] (.cond 31 (.seq (e [V 32 6,oI 33 .eql 32 0] (.cond 33 (e [S 4 (.mov (ci 0))] .ret) .skip)) (e [S 4 (.mov (ci (-1)))] .ret)) .skip)) (e [S 34 (.adr 2 2 0),S 35 (.ld 34 2 1 true),oL 36 3 3 3,n 37 65 [35,36],V 7 37] (.seq (.block 0 (e [V 39 7,oI 40 .eql 39 0,V 38 40] (.cond 38 (e [S 4 (.mov (ci 0))] .ret) (e [V 42 7,V 43 6,oB 44 .eql 42 43,V 41 44] (.cond 41 (e [S 4 (.mov (ci (-1)))] .ret) .skip))))) (e [S 4 (.mov (ci 1))] .ret)))))))))⟩
def A3r:List (Nat × Nat):=[(10,2),(15,2),(20,2),(25,2),(27,2),(34,2)]
theorem Ahe:AU c A3r Tryz.f76 NB=true:=by kernel_rfl
def rS:IFunc:=⟨2,36,[.cell 4 2 false],e [S 2 (.box 0 [8,12]),S 4 (.new [A6m false,A6n 0 []] [])] (.block 0 (.loop (.block 1 (.seq (.region true [S 8 (.adr 2 2 1),oL 9 8 2 3,V 10 1,n 11 126 [9,10],S 12 (.adr 2 2 4),oL 13 12 2 3,V 14 1,n 15 126 [13,14],S 5 (.new [A6m false,A6n 0 []] []),S 6 (.new [A6m false,A6n 0 []] []),oS 5 5 2 11,oS 6 6 2 15]) (e [oL 16 6 6 2,oL 17 5 5 2,n 18 127 [16,17],S 7 (.new [A6m false,A6n 0 []] []),oS 7 7 2 18] (.seq (e [oL 19 7 7 2,n 20 101 [19],oI 21 .eql 20 0] (.cond 21 (e [oL 22 5 5 2,oS 4 4 2 22] .ret) .skip)) (.seq (e [oL 23 7 7 2,n 24 102 [23],oI 25 .eql 24 1] (.cond 25 (.seq (e [oL 26 2 2 7,oL 27 6 6 2,V 28 1,S 29 (.bld [A6m false,A6n 0 [],A6l R 0] [(0,2,.t 27),(2,1,.t 28)]),n 30 76 [26,29],oI 31 .geq 30 0] (.cond 31 (e [oL 32 6 6 2,oS 4 4 2 32] .ret) .skip)) (e [oL 33 5 5 2,oS 4 4 2 33] .ret)) .skip)) (rg [oL 34 2 2 7,n 35 82 [34],oS 2 2 7 35]))))))))⟩
def A3s:List (Nat × Nat):=[(8,2),(12,2)]
theorem Ahf:AU c A3s Tryz.f77 rS=true:=by kernel_rfl
def U7:IFunc:=⟨1,12,[.tmp 2],e [S 1 (.box 0 [4,10]),S 2 (.mov (ci 0))] (.seq (.block 0 (e [S 4 (.adr 1 1 1),S 5 (.ld 4 1 1 true),n 6 99 [5],S 7 (.len 6),oI 8 .eql 7 0,V 3 8] (.cond 3 (e [S 2 (.mov (ci 0))] .ret) (e [S 10 (.adr 1 1 0),S 11 (.ld 10 1 1 true),V 9 11] (.cond 9 (e [S 2 (.mov (ci (-1)))] .ret) .skip))))) (e [S 2 (.mov (ci 1))] .ret))⟩
def A3t:List (Nat × Nat):=[(4,1),(10,1)]
theorem Ahg:AU c A3t Tryz.f79 U7=true:=by kernel_rfl
def aV:ICode := .seq (e [V 16 9,oI 17 .geq 16 0] (.cond 17 .skip (.exit 0))) (.seq (.block 1 (.region true [oL 20 8 8 2,oL 21 4 4 2,n 22 96 [20,21],V 23 7,V 24 9,oA 25 23 24 2,oL 26 25 25 2,V 27 2,V 28 7,S 29 (.len 28),oI 30 .sub 29 1,V 31 9,oB 32 .sub 30 31,oB 33 .mul 27 32,n 34 84 [26,33],n 35 95 [22,34],oS 8 8 2 35])) (rg [V 18 9,oI 19 .sub 18 1,V 9 19]))
def aW:IFunc:=⟨3,37,[.cell 6 2 false],e [S 4 (.box 1 []),S 6 (.new [A6m false,A6n 0 []] [])] (e [V 10 0,n 11 46 [10],V 7 11] (e [S 12 (.bld [A6m false,A6n 0 []] []),S 8 (.new [A6m false,A6n 0 []] []),oS 8 8 2 12] (.seq (e [V 13 7,S 14 (.len 13),oI 15 .sub 14 1,V 9 15] (.block 0 (.loop aV))) (e [oL 36 8 8 2,oS 6 6 2 36] .ret))))⟩
def A3u:List (Nat × Nat):=[]
theorem Ahh:AU c A3u Tryz.f80 aW=true:=by kernel_rfl
def U8:IFunc:=⟨1,21,[.cell 2 7 false],e [S 1 (.box 0 [7,9,17,19]),S 2 (.new [A6n 0 [],A6m false,A6n 0 [],A6l R 0,A6m false,A6n 0 [],A6l R 0] [])] (.seq (e [oL 4 1 1 7,n 5 125 [4]] (.cond 5 (e [oL 6 1 1 7,oS 2 2 7 6] .ret) .skip)) (e [S 7 (.adr 1 1 1),oL 8 7 1 3,S 9 (.adr 1 1 4),oL 10 9 1 3,n 11 133 [8,10],S 3 (.new [A6m false,A6n 0 [],A6l R 0] []),oS 3 3 3 11] (.seq (e [oL 12 1 1 7,oL 13 3 3 3,n 14 76 [12,13],oI 15 .leq 14 0] (.cond 15 (rg [oL 16 3 3 3,S 17 (.adr 1 1 4),oS 17 1 3 16]) (rg [oL 18 3 3 3,S 19 (.adr 1 1 1),oS 19 1 3 18]))) (e [oL 20 1 1 7,oS 2 2 7 20] .ret))))⟩
def A3v:List (Nat × Nat):=[(7,1),(9,1),(17,1),(19,1)]
theorem Ahi:AU c A3v Tryz.f82 U8=true:=by kernel_rfl
def SR:IFunc:=⟨2,32,[.tmp 4],e [S 2 (.box 0 [20]),S 3 (.box 1 [23]),S 4 (.mov (ci 0))] (.seq (.region true [oL 8 2 2 2,n 9 79 [8],oL 10 3 3 2,n 11 79 [10],V 5 9,V 6 11]) (.seq (.block 0 (e [V 13 5,V 14 6,oB 15 .lss 13 14,V 12 15] (.cond 12 (e [S 4 (.mov (ci (-1)))] .ret) (e [V 17 5,V 18 6,oB 19 .gtr 17 18,V 16 19] (.cond 16 (e [S 4 (.mov (ci 1))] .ret) .skip))))) (.seq (.region true [S 20 (.adr 2 2 1),S 21 (.ld 20 2 1 true),n 22 99 [21],S 23 (.adr 3 3 1),S 24 (.ld 23 3 1 true),n 25 99 [24],n 26 134 [22,25],V 7 26]) (.seq (e [V 27 5,oI 28 .lss 27 0] (.cond 28 (e [V 29 7,S 30 (.un .neg 29),V 4 30] .ret) .skip)) (e [V 31 7,V 4 31] .ret)))))⟩
def A3w:List (Nat × Nat):=[(20,2),(23,3)]
theorem Ahj:AU c A3w Tryz.f83 SR=true:=by kernel_rfl
def aX:ICode := .seq (e [V 20 9,V 21 8,S 22 (.len 21),oB 23 .lss 20 22] (.cond 23 .skip (.exit 0))) (.seq (.block 1 (e [V 26 8,V 27 9,oA 28 26 27 1,S 29 (.ld 28 28 1 true),S 30 (.cv .u64 29),V 31 7,oB 32 .shl 30 31,V 33 6,S 34 (.cv .u64 33),oB 35 .or 32 34,V 10 35] (e [S 36 (.tra 5),V 37 10,S 38 (.cv .u32 37),S 39 (.bls 1 [A6l A5 0] [(0,1,.t 38)]),S 40 (.apd true 36 39 1 35184372088832),S 5 (.tra 40)] (rg [V 41 10,S 42 (.bin .shr 41 (.c (A6l U 32))),S 43 (.cv .u32 42),V 6 43])))) (rg [V 24 9,oI 25 .add 24 1,V 9 25]))
def aY:IFunc:=⟨2,51,[.cell 4 2 false],e [S 2 (.box 0 [17,44]),S 4 (.new [A6m false,A6n 0 []] [])] (e [V 11 1,oI 12 .quo 11 32,S 13 (.mks [A6l A5 0] 12),S 5 (.tra 13)] (e [S 6 (.mov (.c (A6l A5 0)))] (e [V 14 1,oI 15 .rem 14 32,S 16 (.cv .u64 15),V 7 16] (e [S 17 (.adr 2 2 1),S 18 (.ld 17 2 1 true),n 19 99 [18],V 8 19] (.seq (e [S 9 (.mov (ci 0))] (.block 0 (.loop aX))) (.seq (.region true [S 44 (.adr 2 2 0),S 45 (.ld 44 2 1 true),S 46 (.tra 5),V 47 6,S 48 (.bls 1 [A6l A5 0] [(0,1,.t 47)]),S 49 (.apd false 46 48 1 35184372088832),S 50 (.cln 98 [45,49] [4]),oN (.stl 4 50)]) .ret))))))⟩
def A3x:List (Nat × Nat):=[(4,50),(17,2),(44,2)]
theorem Ahk:AU c A3x Tryz.f84 aY=true:=by kernel_rfl
def QB:ICode := .seq (.seq (.region true [V 38 6,S 39 (.adr 2 2 1),oL 40 39 2 3,n 41 68 [38,40],V 42 6,S 43 (.adr 2 2 4),oL 44 43 2 3,n 45 68 [42,44],oB 46 .neq 41 45]) (.cond 46 .skip (.exit 0))) (.block 1 (rg [oL 47 2 2 7,n 48 82 [47],oS 2 2 7 48]))
def NC:IFunc:=⟨2,53,[.tmp 4],e [S 2 (.box 0 [17,20,29,31,39,43,50]),S 4 (.mov (ci 0))] (e [V 7 1,n 8 66 [7],V 1 8] (.seq (e [oL 9 2 2 7,n 10 125 [9],V 11 10,h 12 (.mov 1) 11 false,h 13 (.len 12) 11 false,h 14 (.bin .lss 13 (ci 2)) 11 false,S 15 (.pick 11 (cb true) 14)] (.cond 15 (e [V 16 1,S 17 (.adr 2 2 1),oL 18 17 2 3,n 19 65 [16,18],V 4 19] .ret) .skip)) (e [S 20 (.adr 2 2 0),S 21 (.ld 20 2 1 true),V 22 1,n 23 135 [21,22],V 5 23] (.seq (e [V 24 5,S 25 (.len 24),oI 26 .gtr 25 1,V 27 26,h 28 (.mov 5) 27 true,h 29 (.adr 2 2 1) 27 true,h 30 (.ld 29 2 3 false) 27 true,h 31 (.adr 2 2 4) 27 true,h 32 (.ld 31 2 3 false) 27 true,h 33 (.call 136 [28,30,32]) 27 true,h 34 (.bin .gtr 33 (ci 0)) 27 true,S 35 (.pick 27 34 (cb false))] (.cond 35 (e [S 4 (.mov (ci 0))] .ret) .skip)) (e [V 36 1,n 37 67 [36],V 6 37] (.seq (.block 0 (.loop QB)) (e [V 49 1,S 50 (.adr 2 2 4),oL 51 50 2 3,n 52 65 [49,51],V 4 52] .ret)))))))⟩
def A3y:List (Nat × Nat):=[(17,2),(20,2),(29,2),(31,2),(39,2),(43,2),(50,2)]
theorem Ahl:AU c A3y Tryz.f85 NC=true:=by kernel_rfl
def aZ:ICode := .seq (e [V 13 5,V 14 0,S 15 (.len 14),oB 16 .lss 13 15] (.cond 16 .skip (.exit 0))) (.seq (.block 1 (.seq (.region true [V 20 0,V 21 5,oA 22 20 21 2,oL 23 22 22 2,oL 24 3 3 2,n 25 138 [23,24],V 19 25,oE 26 19 0,oE 27 19 1,S 6 (.new [A6m false,A6n 0 []] []),S 7 (.new [A6m false,A6n 0 []] []),oS 6 6 2 26,oS 7 7 2 27]) (rg [S 28 (.tra 4),oL 29 6 6 2,S 30 (.bls 1 [A6m false,A6n 0 []] [(0,2,.t 29)]),S 31 (.apd true 28 30 2 1048576),S 4 (.tra 31)]))) (rg [V 17 5,oI 18 .add 17 1,V 5 18]))
def X8:IFunc:=⟨1,34,[.tmp 2],e [S 2 (.nlo 2)] (e [V 8 0,n 9 137 [8],S 3 (.new [A6m false,A6n 0 []] []),oS 3 3 2 9] (.seq (e [oL 10 3 3 2,n 11 79 [10],oI 12 .eql 11 0] (.cond 12 (e [S 2 (.nlo 2)] .ret) .skip)) (e [S 4 (.nlo 2)] (.seq (e [S 5 (.mov (ci 0))] (.block 0 (.loop aZ))) (e [S 32 (.frz 4),S 33 (.clo 46 [32]),S 2 (.tra 33)] .ret)))))⟩
def A3z:List (Nat × Nat):=[]
theorem Ahm:AU c A3z Tryz.f86 X8=true:=by kernel_rfl
def U9:IFunc:=⟨2,42,[.cell 4 2 false],e [S 2 (.box 0 [7,14,19,30]),S 3 (.box 1 [10,16,36]),S 4 (.new [A6m false,A6n 0 []] [])] (.seq (.region true [S 7 (.adr 2 2 1),S 8 (.ld 7 2 1 true),n 9 99 [8],S 10 (.adr 3 3 1),S 11 (.ld 10 3 1 true),n 12 99 [11],V 5 9,V 6 12]) (.seq (.block 0 (e [S 14 (.adr 2 2 0),S 15 (.ld 14 2 1 true),S 16 (.adr 3 3 0),S 17 (.ld 16 3 1 true),S 18 (.eqb false 15 17),V 13 18] (.cond 13 (.seq (.region true [S 19 (.adr 2 2 0),S 20 (.ld 19 2 1 true),V 21 5,V 22 6,n 23 144 [21,22],n 24 98 [20,23],oS 4 4 2 24]) .ret) (e [V 26 5,V 27 6,n 28 134 [26,27],oI 29 .geq 28 0,V 25 29] (.cond 25 (.seq (.region true [S 30 (.adr 2 2 0),S 31 (.ld 30 2 1 true),V 32 5,V 33 6,n 34 145 [32,33],n 35 98 [31,34],oS 4 4 2 35]) .ret) .skip))))) (.seq (.region true [S 36 (.adr 3 3 0),S 37 (.ld 36 3 1 true),V 38 6,V 39 5,n 40 145 [38,39],n 41 98 [37,40],oS 4 4 2 41]) .ret)))⟩
def A4a:List (Nat × Nat):=[(7,2),(10,3),(14,2),(16,3),(19,2),(30,2),(36,3)]
theorem Ahn:AU c A4a Tryz.f95 U9=true:=by kernel_rfl
def bA:IFunc:=⟨2,18,[.cell 4 2 false],e [S 2 (.box 0 [5,10]),S 3 (.box 1 [7,13]),S 4 (.new [A6m false,A6n 0 []] [])] (.seq (.region true [S 5 (.adr 2 2 0),S 6 (.ld 5 2 1 true),S 7 (.adr 3 3 0),S 8 (.ld 7 3 1 true),S 9 (.eqb true 6 8),S 10 (.adr 2 2 1),S 11 (.ld 10 2 1 true),n 12 99 [11],S 13 (.adr 3 3 1),S 14 (.ld 13 3 1 true),n 15 99 [14],n 16 146 [12,15],n 17 98 [9,16],oS 4 4 2 17]) .ret)⟩
def A4b:List (Nat × Nat):=[(5,2),(7,3),(10,2),(13,3)]
theorem Aho:AU c A4b Tryz.f96 bA=true:=by kernel_rfl
def bB:IFunc:=⟨1,8,[.cell 2 2 false],e [S 1 (.box 0 [3,5]),S 2 (.new [A6m false,A6n 0 []] [])] (e [S 3 (.adr 1 1 0),S 4 (.ld 3 1 1 true),S 5 (.adr 1 1 1),S 6 (.ld 5 1 1 true),n 7 98 [4,6],oS 2 2 2 7] .ret)⟩
def A4c:List (Nat × Nat):=[(3,1),(5,1)]
theorem Ahp:AU c A4c Tryz.f97 bB=true:=by kernel_rfl
def rT:IFunc:=⟨2,16,[.cell 4 2 false],e [S 4 (.new [A6m false,A6n 0 []] [])] (e [V 6 1,S 7 (.clo 99 [6]),⟨some 5,.tra 7,none,[10]⟩] (e [V 8 0,V 9 8,h 10 (.cpy 5) 9 true,h 11 (.lno 10 5) 9 true,h 12 (.bin .gtr 11 (ci 0)) 9 true,S 13 (.pick 9 12 (cb false)),S 14 (.tra 5),S 15 (.bdo 13 14 [4]),oN (.stl 4 15)] .ret))⟩
def A4d:List (Nat × Nat):=[(4,15),(10,5)]
theorem Ahq:AU c A4d Tryz.f98 rT=true:=by kernel_rfl
def bC:ICode := .seq (e [V 6 3,oI 7 .gtr 6 0,V 8 7,h 9 (.mov 0) 8 true,h 10 (.mov 3) 8 true,h 11 (.bin .sub 10 (ci 1)) 8 true,h 12 (.ixa 9 11 1) 8 true,h 13 (.ld 12 12 1 true) 8 true,h 14 (.bin .eql 13 (.c (A6l A5 0))) 8 true,S 15 (.pick 8 14 (cb false))] (.cond 15 .skip (.exit 0))) (.block 1 (rg [V 16 3,oI 17 .sub 16 1,V 3 17]))
def bD:IFunc:=⟨1,22,[.tmp 2],e [S 2 (.nlo 1)] (e [V 4 0,S 5 (.len 4),V 3 5] (.seq (.block 0 (.loop bC)) (e [V 18 0,V 19 3,S 20 (.sli 18 none (some 19) none 1),S 21 (.apd true (.c (.nil)) 20 1 35184372088832),S 2 (.tra 21)] .ret)))⟩
def A4e:List (Nat × Nat):=[]
theorem Ahr:AU c A4e Tryz.f99 bD=true:=by kernel_rfl
def R9:IFunc:=⟨2,16,[.tmp 4,.tmp 5],e [S 4 (.nlo 2),S 5 (.mov (ci 0))] (.seq (e [V 6 0,V 7 1,S 8 (.bls 2 [A6n 0 [],A6n 0 []] [(0,1,.t 6),(1,1,.t 7)]),n 9 147 [8]] (.cond 9 (e [S 4 (.nlo 2),S 5 (.mov (ci 2))] .ret) .skip)) (e [V 10 0,V 11 1,n 12 149 [10,11],n 13 148 [12],oE 14 13 0,oE 15 13 1,S 4 (.tra 14),V 5 15] .ret))⟩
def Ahs:List (Nat × Nat):=[]
theorem tX:AU c Ahs Tryz.f100 R9=true:=by kernel_rfl
def YN:IFunc:=⟨1,16,[.tmp 2],e [S 1 (.box 0 []),S 2 (.mov (ci 0))] (e [oL 6 1 1 2,n 7 143 [6],V 5 7,oE 8 5 0,oE 9 5 1,V 3 8,V 4 9] (.seq (.block 0 (e [V 11 4,S 12 (.len 11),oI 13 .eql 12 0,V 10 13] (.cond 10 (e [S 2 (.mov (ci 0))] .ret) (e [V 15 3,V 14 15] (.cond 14 (e [S 2 (.mov (ci (-1)))] .ret) .skip))))) (e [S 2 (.mov (ci 1))] .ret)))⟩
def Aht:List (Nat × Nat):=[]
theorem tY:AU c Aht Tryz.f101 YN=true:=by kernel_rfl
def RA:IFunc:=⟨1,25,[.tmp 2],e [S 1 (.box 0 []),S 2 (.mov (ci 0))] (e [oL 6 1 1 2,n 7 143 [6],V 5 7,oE 8 5 0,oE 9 5 1,V 3 8,V 4 9] (.seq (e [V 10 4,S 11 (.len 10),oI 12 .eql 11 0] (.cond 12 (e [S 2 (.mov (ci 0))] .ret) .skip)) (e [V 13 4,S 14 (.len 13),oI 15 .sub 14 1,S 16 (.bin .mul (ci 32) 15),V 17 4,V 18 4,S 19 (.len 18),oI 20 .sub 19 1,oA 21 17 20 1,S 22 (.ld 21 21 1 true),n 23 150 [22],oB 24 .add 16 23,V 2 24] .ret)))⟩
def Ahu:List (Nat × Nat):=[]
theorem tZ:AU c Ahu Tryz.f102 RA=true:=by kernel_rfl
def ND:IFunc:=⟨2,39,[.tmp 4],e [S 2 (.box 0 []),S 3 (.box 1 []),S 4 (.mov (ci 0))] (e [oL 10 2 2 2,n 11 143 [10],V 9 11,oE 12 9 0,oE 13 9 1,V 5 12,V 6 13] (e [oL 15 3 3 2,n 16 143 [15],V 14 16,oE 17 14 0,oE 18 14 1,V 7 17,V 8 18] (.seq (.block 0 (e [V 20 5,V 21 20,h 22 (.mov 7) 21 true,h 23 (.un .not 22) 21 true,S 24 (.pick 21 23 (cb false)),V 19 24] (.cond 19 (e [S 4 (.mov (ci (-1)))] .ret) (e [V 26 7,V 27 26,h 28 (.mov 5) 27 true,h 29 (.un .not 28) 27 true,S 30 (.pick 27 29 (cb false)),V 25 30] (.cond 25 (e [S 4 (.mov (ci 1))] .ret) (e [V 32 5,V 31 32] (.cond 31 (e [V 33 8,V 34 6,n 35 151 [33,34],V 4 35] .ret) .skip))))))) (e [V 36 6,V 37 8,n 38 151 [36,37],V 4 38] .ret))))⟩
def Ahv:List (Nat × Nat):=[]
theorem uA:AU c Ahv Tryz.f103 ND=true:=by kernel_rfl
def UA:ICode:=e [oB 36 .lss 35 34] (.seq (.cond 36 .skip (.exit 0)) (.seq (.block 1 (e [V 37 35,oA 38 33 35 1,S 39 (.ld 38 38 1 true),V 10 37,V 11 39] (e [V 40 11,S 41 (.cv .u64 40),V 42 8,oB 43 .shl 41 42,V 12 43] (e [S 44 (.cpy 9),V 45 10,V 46 7,oB 47 .add 45 46,S 48 (.ixo 44 9 47 1),S 49 (.ld 48 9 1 true),V 50 12,S 51 (.cv .u32 50),oB 52 .or 49 51,S 53 (.ixo 44 9 47 1),oS 53 9 1 52] (rg [S 54 (.cpy 9),V 55 10,V 56 7,oB 57 .add 55 56,oI 58 .add 57 1,V 59 12,S 60 (.bin .shr 59 (.c (A6l U 32))),S 61 (.cv .u32 60),S 62 (.ixo 54 9 58 1),oS 62 9 1 61]))))) (rg [oI 63 .add 35 1,V 35 63])))
def RB:IFunc:=⟨2,67,[.cell 4 2 false],e [S 2 (.box 0 []),S 4 (.new [A6m false,A6n 0 []] [])] (e [oL 14 2 2 2,n 15 143 [14],V 13 15,oE 16 13 0,oE 17 13 1,V 5 16,V 6 17] (.seq (e [V 18 6,S 19 (.len 18),oI 20 .eql 19 0] (.cond 20 (e [S 21 (.bld [A6m false,A6n 0 []] []),oS 4 4 2 21] .ret) .skip)) (e [V 22 1,oI 23 .quo 22 32,V 24 1,oI 25 .rem 24 32,S 26 (.cv .u64 25),V 7 23,V 8 26] (e [V 27 6,S 28 (.len 27),V 29 7,oB 30 .add 28 29,oI 31 .add 30 1,S 32 (.mks [A6l A5 0] 31),⟨some 9,.tra 32,none,[44,48,53,54,62]⟩] (.seq (e [V 33 6,S 34 (.len 33),S 35 (.mov (ci 0))] (.block 0 (.loop UA))) (e [V 64 5,S 65 (.frz 9),n 66 152 [64,65],oS 4 4 2 66] .ret))))))⟩
def Ahw:List (Nat × Nat):=[(44,9),(48,9),(53,9),(54,9),(62,9)]
theorem uB:AU c Ahw Tryz.f104 RB=true:=by kernel_rfl
def PB:IFunc:=⟨6,69,[.tmp 12,.tmp 13],e [S 7 (.box 1 []),S 8 (.box 2 []),S 12 (.nlo 7),S 13 (.mov (cb false))] (.seq (e [V 19 3,V 20 4,oB 21 .sub 19 20] (.block 0 (e [oI 23 .eql 21 0,V 22 23] (.cond 22 (e [S 12 (.nlo 7),S 13 (.mov (cb true))] .ret) (e [oI 25 .eql 21 1,V 24 25] (.cond 24 (.seq (.region true [V 26 0,S 27 (.ixa 26 (ci 0) 1),S 28 (.ld 27 27 1 true),oL 29 7 7 3,oL 30 8 8 3,S 31 (.bld [A6n 0 [],A6m false,A6n 0 [],A6l R 0,A6m false,A6n 0 [],A6l R 0] [(0,1,.t 28),(1,3,.t 29),(4,3,.t 30)]),S 32 (.blo 7 1 [A6n 0 [],A6m false,A6n 0 [],A6l R 0,A6m false,A6n 0 [],A6l R 0] [(0,7,.t 31)]),S 12 (.tra 32),S 13 (.mov (cb true))]) .ret) .skip)))))) (e [oL 33 7 7 3,oL 34 8 8 3,n 35 133 [33,34],S 14 (.new [A6m false,A6n 0 [],A6l R 0] [36]),oS 14 14 3 35] (.seq (e [S 36 (.adr 14 14 2),S 37 (.ld 36 14 1 true),V 38 5,oB 39 .gtr 37 38] (.cond 39 (e [S 12 (.nlo 7),S 13 (.mov (cb false))] .ret) .skip)) (e [V 40 0,oL 41 14 14 3,n 42 68 [40,41],V 15 42] (e [V 44 0,oL 45 7 7 3,oL 46 14 14 3,V 47 3,V 48 15,V 49 5,S 50 (.clo 105 [44,45,46,47,48,49]),S 43 (.tra 50),S 51 (.exo 43),oE 52 43 1,S 16 (.tra 51),V 17 52] (.seq (e [V 53 17,S 54 (.un .not 53)] (.cond 54 (e [S 12 (.nlo 7),S 13 (.mov (cb false))] .ret) .skip)) (e [V 56 0,oL 57 14 14 3,oL 58 8 8 3,V 59 15,V 60 4,V 61 5,n 62 105 [56,57,58,59,60,61],V 55 62,oE 63 55 0,oE 64 55 1,V 18 63,V 17 64] (e [S 65 (.tra 16),V 66 18,S 67 (.apd true 65 66 7 1048576),V 68 17,S 12 (.tra 67),V 13 68] .ret))))))))⟩
def Ahx:List (Nat × Nat):=[(36,14)]
theorem uC:AU c Ahx Tryz.f105 PB=true:=by kernel_rfl
def UB:IFunc:=⟨1,9,[.cell 2 3 false],e [S 1 (.box 0 [3,6]),S 2 (.new [A6m false,A6n 0 [],A6l R 0] [])] (.seq (.region true [S 3 (.adr 1 1 0),oL 4 3 1 2,n 5 113 [4],S 6 (.adr 1 1 2),S 7 (.ld 6 1 1 true),S 8 (.bld [A6m false,A6n 0 [],A6l R 0] [(0,2,.t 5),(2,1,.t 7)]),oS 2 2 3 8]) .ret)⟩
def Ahy:List (Nat × Nat):=[(3,1),(6,1)]
theorem uD:AU c Ahy Tryz.f106 UB=true:=by kernel_rfl
def UC:ICode := .seq (e [V 16 5,S 17 (.len 16),oI 18 .gtr 17 0] (.cond 18 .skip (.exit 0))) (.block 1 (e [S 19 (.tra 4),V 20 5,S 21 (.bls 1 [A6n 0 []] [(0,1,.t 20)]),S 22 (.apd true 19 21 1 1048576),⟨some 4,.tra 22,none,[23,24,27]⟩] (rg [S 23 (.cpy 4),S 24 (.cpy 4),S 25 (.lno 24 4),oI 26 .sub 25 2,S 27 (.ixo 23 4 26 1),S 28 (.ld 27 4 1 true),V 29 5,n 30 119 [28,29],n 31 153 [30],V 5 31])))
def RC:IFunc:=⟨1,33,[.tmp 2],e [S 2 (.nlo 1)] (e [V 6 0,n 7 73 [6],V 3 7] (.seq (e [V 8 3,S 9 (.len 8),oI 10 .eql 9 0] (.cond 10 (e [S 2 (.nlo 1)] .ret) .skip)) (e [V 11 3,S 12 (.blo 1 1 [A6n 0 []] [(0,1,.t 11)]),⟨some 4,.tra 12,none,[23,24,27]⟩] (e [V 13 3,n 14 122 [13],n 15 86 [14],V 5 15] (.seq (.block 0 (.loop UC)) (e [S 32 (.tra 4),S 2 (.tra 32)] .ret))))))⟩
def Ahz:List (Nat × Nat):=[(23,4),(24,4),(27,4)]
theorem uE:AU c Ahz Tryz.f108 RC=true:=by kernel_rfl
def NE:ICode := .seq (e [V 9 7,V 10 0,S 11 (.len 10),oB 12 .lss 9 11] (.cond 12 .skip (.exit 0))) (.seq (.block 1 (.seq (.region true [V 15 0,V 16 7,oA 17 15 16 1,S 18 (.ld 17 17 1 true),S 19 (.adr 3 3 0),oL 20 19 3 2,S 21 (.adr 3 3 2),S 22 (.ld 21 3 1 true),n 23 80 [18,20,22],n 24 79 [23],V 8 24]) (.seq (e [V 25 8,oI 26 .neq 25 0,V 27 26,h 28 (.mov 6) 27 true,h 29 (.bin .neq 28 (ci 0)) 27 true,S 30 (.pick 27 29 (cb false)),V 31 30,h 32 (.mov 8) 31 true,h 33 (.mov 6) 31 true,h 34 (.bin .neq 32 33) 31 true,S 35 (.pick 31 34 (cb false))] (.cond 35 (rg [V 36 5,oI 37 .add 36 1,V 5 37]) .skip)) (e [V 38 8,oI 39 .neq 38 0] (.cond 39 (rg [V 40 8,V 6 40]) .skip))))) (rg [V 13 7,oI 14 .add 13 1,V 7 14]))
def UD:IFunc:=⟨2,42,[.tmp 4],e [S 3 (.box 1 [19,21]),S 4 (.mov (ci 0))] (e [S 5 (.mov (ci 0)),S 6 (.mov (ci 0))] (.seq (e [S 7 (.mov (ci 0))] (.block 0 (.loop NE))) (e [V 41 5,V 4 41] .ret)))⟩
def Aia:List (Nat × Nat):=[(19,3),(21,3)]
theorem uF:AU c Aia Tryz.f110 UD=true:=by kernel_rfl
def YO:IFunc:=⟨2,24,[.cell 4 2 false],e [S 2 (.box 0 []),S 3 (.box 1 []),S 4 (.new [A6m false,A6n 0 []] [])] (e [oL 10 2 2 2,n 11 143 [10],V 9 11,oE 12 9 0,oE 13 9 1,V 5 12,V 6 13] (e [oL 15 3 3 2,n 16 143 [15],V 14 16,oE 17 14 0,oE 18 14 1,V 7 17,V 8 18] (e [V 19 5,V 20 6,V 21 7,V 22 8,n 23 154 [19,20,21,22],oS 4 4 2 23] .ret)))⟩
def Aib:List (Nat × Nat):=[]
theorem uG:AU c Aib Tryz.f111 YO=true:=by kernel_rfl
def QC:ICode:=e [oB 51 .lss 50 49] (.seq (.cond 51 .skip (.exit 2)) (.seq (.block 3 (e [V 52 50,oA 53 48 50 1,S 54 (.ld 53 53 1 true),V 13 52,V 14 54] (e [V 55 11,S 56 (.cv .u64 55),V 57 14,S 58 (.cv .u64 57),oB 59 .mul 56 58,S 60 (.cpy 9),V 61 10,V 62 13,oB 63 .add 61 62,S 64 (.ixo 60 9 63 1),S 65 (.ld 64 9 1 true),S 66 (.cv .u64 65),oB 67 .add 59 66,V 68 12,oB 69 .add 67 68,V 15 69] (rg [S 70 (.cpy 9),V 71 10,V 72 13,oB 73 .add 71 72,V 74 15,S 75 (.cv .u32 74),V 76 15,S 77 (.bin .shr 76 (.c (A6l U 32))),S 78 (.ixo 70 9 73 1),oS 78 9 1 75,V 12 77])))) (rg [oI 79 .add 50 1,V 50 79])))
def UE:ICode:=e [oB 44 .lss 43 42] (.seq (.cond 44 .skip (.exit 0)) (.seq (.block 1 (e [V 45 43,oA 46 41 43 1,S 47 (.ld 46 46 1 true),V 10 45,V 11 47] (e [S 12 (.mov (.c (A6l U 0)))] (.seq (e [V 48 8,S 49 (.len 48),S 50 (.mov (ci 0))] (.block 2 (.loop QC))) (rg [S 80 (.cpy 9),V 81 10,V 82 8,S 83 (.len 82),oB 84 .add 81 83,V 85 12,S 86 (.cv .u32 85),S 87 (.ixo 80 9 84 1),oS 87 9 1 86]))))) (rg [oI 88 .add 43 1,V 43 88])))
def UF:IFunc:=⟨2,94,[.cell 4 2 false],e [S 2 (.box 0 []),S 3 (.box 1 []),S 4 (.new [A6m false,A6n 0 []] [])] (e [oL 17 2 2 2,n 18 143 [17],V 16 18,oE 19 16 0,oE 20 16 1,V 5 19,V 6 20] (e [oL 22 3 3 2,n 23 143 [22],V 21 23,oE 24 21 0,oE 25 21 1,V 7 24,V 8 25] (.seq (e [V 26 6,S 27 (.len 26),oI 28 .eql 27 0,V 29 28,h 30 (.mov 8) 29 false,h 31 (.len 30) 29 false,h 32 (.bin .eql 31 (ci 0)) 29 false,S 33 (.pick 29 (cb true) 32)] (.cond 33 (e [S 34 (.bld [A6m false,A6n 0 []] []),oS 4 4 2 34] .ret) .skip)) (e [V 35 6,S 36 (.len 35),V 37 8,S 38 (.len 37),oB 39 .add 36 38,S 40 (.mks [A6l A5 0] 39),⟨some 9,.tra 40,none,[60,64,70,78,80,87]⟩] (.seq (e [V 41 6,S 42 (.len 41),S 43 (.mov (ci 0))] (.block 0 (.loop UE))) (e [V 89 5,V 90 7,S 91 (.eqb true 89 90),S 92 (.frz 9),n 93 152 [91,92],oS 4 4 2 93] .ret))))))⟩
def Aic:List (Nat × Nat):=[(60,9),(64,9),(70,9),(78,9),(80,9),(87,9)]
theorem uH:AU c Aic Tryz.f112 UF=true:=by kernel_rfl
def YP:IFunc:=⟨1,14,[.cell 2 2 false],e [S 1 (.box 0 []),S 2 (.new [A6m false,A6n 0 []] [])] (e [oL 6 1 1 2,n 7 143 [6],V 5 7,oE 8 5 0,oE 9 5 1,V 3 8,V 4 9] (e [V 10 3,V 11 4,S 12 (.apd false (.c (.nil)) 11 1 35184372088832),n 13 152 [10,12],oS 2 2 2 13] .ret))⟩
def Aid:List (Nat × Nat):=[]
theorem uI:AU c Aid Tryz.f113 YP=true:=by kernel_rfl
def Ic:IFunc:=⟨1,23,[.tmp 2],e [S 2 (.nlo 2)] (e [V 5 0,n 6 115 [5],n 7 155 [6],V 3 7] (.seq (e [V 8 3,S 9 (.len 8),oI 10 .lss 9 2] (.cond 10 (e [V 11 3,S 2 (.tra 11)] .ret) .skip)) (e [V 12 3,V 13 3,n 14 116 [13],n 15 135 [12,14],V 4 15] (.seq (e [V 16 4,S 17 (.len 16),oI 18 .lss 17 2] (.cond 18 (e [V 19 3,S 2 (.tra 19)] .ret) .skip)) (e [V 20 3,V 21 4,S 22 (.clo 156 [20,21]),S 2 (.tra 22)] .ret)))))⟩
def Aie:List (Nat × Nat):=[]
theorem uJ:AU c Aie Tryz.f114 Ic=true:=by kernel_rfl
def RD:ICode:=e [oB 16 .lss 15 14] (.seq (.cond 16 .skip (.exit 0)) (.seq (.block 1 (e [V 17 15,V 5 17] (.region true [S 19 (.cpy 3),V 20 5,S 21 (.cpy 3),V 22 5,S 23 (.ixo 21 3 22 2),oL 24 23 3 2,oL 25 4 4 2,n 26 158 [24,25],V 18 26,oE 27 18 0,oE 28 18 1,S 29 (.ixo 19 3 20 2),oS 29 3 2 27]))) (rg [oI 30 .add 15 1,V 15 30])))
def RE:IFunc:=⟨1,32,[.tmp 2],e [S 2 (.nlo 2)] (e [V 6 0,S 7 (.clo 66 [6]),⟨some 3,.tra 7,none,[8,13,19,21,23,29]⟩] (e [S 8 (.cpy 3),S 9 (.brw 157 8 3),S 4 (.new [A6m false,A6n 0 []] []),oS 4 4 2 9] (.seq (e [oL 10 4 4 2,n 11 102 [10],oI 12 .gtr 11 1] (.cond 12 (e [S 13 (.cpy 3),S 14 (.lno 13 3),S 15 (.mov (ci 0))] (.block 0 (.loop RD))) .skip)) (e [S 31 (.tra 3),S 2 (.tra 31)] .ret))))⟩
def Aif:List (Nat × Nat):=[(8,3),(13,3),(19,3),(21,3),(23,3),(29,3)]
theorem uK:AU c Aif Tryz.f115 RE=true:=by kernel_rfl
def UG:ICode := .seq (e [V 5 4,V 6 0,n 7 53 [6],oB 8 .leq 5 7] (.cond 8 .skip (.exit 0))) (.seq (.block 1 (.region true [S 11 (.tra 3),V 12 0,V 13 4,oA 14 12 13 2,oL 15 14 14 2,V 16 4,n 17 132 [16],n 18 112 [15,17],S 19 (.bls 1 [A6m false,A6n 0 []] [(0,2,.t 18)]),S 20 (.apd true 11 19 2 1048576),S 3 (.tra 20)])) (rg [V 9 4,oI 10 .add 9 1,V 4 10]))
def UH:IFunc:=⟨1,23,[.tmp 2],e [S 2 (.nlo 2)] (e [S 3 (.nlo 2)] (.seq (e [S 4 (.mov (ci 1))] (.block 0 (.loop UG))) (e [S 21 (.frz 3),S 22 (.clo 66 [21]),S 2 (.tra 22)] .ret)))⟩
def Aig:List (Nat × Nat):=[]
theorem uL:AU c Aig Tryz.f116 UH=true:=by kernel_rfl
def UI:ICode:=e [oB 11 .lss 10 9] (.seq (.cond 11 .skip (.exit 0)) (.seq (.block 1 (e [V 12 10,V 4 12] (rg [S 13 (.cpy 3),V 14 4,V 15 0,V 16 4,oA 17 15 16 2,oL 18 17 17 2,n 19 131 [18],S 20 (.ixo 13 3 14 2),oS 20 3 2 19]))) (rg [oI 21 .add 10 1,V 10 21])))
def UJ:IFunc:=⟨1,23,[.tmp 2],e [S 2 (.nlo 2)] (e [V 5 0,S 6 (.len 5),S 7 (.mks [A6m false,A6n 0 []] 6),⟨some 3,.tra 7,none,[13,20]⟩] (.seq (e [V 8 0,S 9 (.len 8),S 10 (.mov (ci 0))] (.block 0 (.loop UI))) (e [S 22 (.tra 3),S 2 (.tra 22)] .ret)))⟩
def Aih:List (Nat × Nat):=[(13,3),(20,3)]
theorem uM:AU c Aih Tryz.f117 UJ=true:=by kernel_rfl
def KL:ICode:=e [oB 65 .lss 64 63] (.seq (.cond 65 .skip (.exit 2)) (.seq (.block 3 (e [V 66 64,V 14 66] (.seq (.region true [S 67 (.cpy 5),V 68 14,S 69 (.cpy 5),V 70 14,S 71 (.ixo 69 5 70 2),oL 72 71 5 2,oL 73 9 9 2,n 74 112 [72,73],S 75 (.ixo 67 5 68 2),oS 75 5 2 74]) (e [V 76 14,V 77 13,oB 78 .geq 76 77] (.cond 78 (.region true [S 79 (.cpy 5),V 80 14,S 81 (.cpy 5),V 82 14,S 83 (.ixo 81 5 82 2),oL 84 83 5 2,oL 85 11 11 2,V 86 1,V 87 14,V 88 13,oB 89 .sub 87 88,oA 90 86 89 2,oL 91 90 90 2,n 92 112 [85,91],n 93 127 [84,92],S 94 (.ixo 79 5 80 2),oS 94 5 2 93]) .skip))))) (rg [oI 95 .add 64 1,V 64 95])))
def PC:ICode := .seq (e [S 25 (.cpy 5),S 26 (.lno 25 5),V 27 1,S 28 (.len 27),oB 29 .geq 26 28] (.cond 29 .skip (.exit 0))) (.block 1 (e [S 30 (.cpy 5),S 31 (.cpy 5),S 32 (.lno 31 5),oI 33 .sub 32 1,S 34 (.ixo 30 5 33 2),oL 35 34 5 2,S 7 (.new [A6m false,A6n 0 []] []),oS 7 7 2 35] (e [oL 36 6 6 2,oL 37 7 7 2,n 38 159 [36,37],S 8 (.new [A6m false,A6n 0 []] []),oS 8 8 2 38] (.seq (.region true [oL 40 6 6 2,n 41 160 [40],oL 42 8 8 2,n 43 158 [41,42],V 39 43,oE 44 39 0,oE 45 39 1,S 9 (.new [A6m false,A6n 0 []] []),S 10 (.new [A6m false,A6n 0 []] []),oS 9 9 2 44,oS 10 10 2 45]) (e [oL 47 7 7 2,oL 48 8 8 2,n 49 158 [47,48],V 46 49,oE 50 46 0,oE 51 46 1,S 11 (.new [A6m false,A6n 0 []] []),S 12 (.new [A6m false,A6n 0 []] []),oS 11 11 2 50,oS 12 12 2 51] (.seq (e [oL 52 6 6 2,n 53 101 [52],oI 54 .lss 53 0] (.cond 54 (rg [oL 55 11 11 2,n 56 131 [55],oS 11 11 2 56]) .skip)) (e [S 57 (.cpy 5),S 58 (.lno 57 5),V 59 1,S 60 (.len 59),oB 61 .sub 58 60,V 13 61] (.seq (e [S 62 (.cpy 5),S 63 (.lno 62 5),S 64 (.mov (ci 0))] (.block 2 (.loop KL))) (rg [S 96 (.frz 5),S 97 (.clo 115 [96]),⟨some 5,.tra 97,none,[25,30,31,34,57,62,67,69,71,75,79,81,83,94]⟩])))))))))
def UK:IFunc:=⟨2,99,[.tmp 4],e [S 4 (.nlo 2)] (e [V 15 0,S 16 (.clo 115 [15]),V 17 1,n 18 115 [17],⟨some 5,.tra 16,none,[25,30,31,34,57,62,67,69,71,75,79,81,83,94]⟩,V 1 18] (e [V 19 1,V 20 1,S 21 (.len 20),oI 22 .sub 21 1,oA 23 19 22 2,oL 24 23 23 2,S 6 (.new [A6m false,A6n 0 []] []),oS 6 6 2 24] (.seq (.block 0 (.loop PC)) (e [S 98 (.tra 5),S 4 (.tra 98)] .ret))))⟩
def Aii:List (Nat × Nat):=[(25,5),(30,5),(31,5),(34,5),(57,5),(62,5),(67,5),(69,5),(71,5),(75,5),(79,5),(81,5),(83,5),(94,5)]
theorem uN:AU c Aii Tryz.f118 UK=true:=by kernel_rfl
def KM:ICode := .seq (e [V 44 11,V 45 5,S 46 (.len 45),oI 47 .sub 46 1,oB 48 .lss 44 47] (.cond 48 .skip (.exit 2))) (.seq (.block 3 (.seq (.region true [S 51 (.adr 7 7 1),S 52 (.ld 51 7 1 true),S 53 (.bld [A6m false,A6n 0 []] [(1,1,.t 52)]),V 54 5,V 55 11,oA 56 54 55 2,oL 57 56 56 2,n 58 96 [53,57],S 12 (.new [A6m false,A6n 0 []] []),oS 12 12 2 58]) (.seq (e [V 59 11,V 60 9,oB 61 .geq 59 60] (.cond 61 (.region true [oL 62 12 12 2,oL 63 8 8 2,V 64 6,V 65 11,V 66 9,oB 67 .sub 65 66,oA 68 64 67 2,oL 69 68 68 2,n 70 96 [63,69],n 71 129 [62,70],oS 12 12 2 71]) .skip)) (rg [S 72 (.tra 10),oL 73 12 12 2,S 74 (.bls 1 [A6m false,A6n 0 []] [(0,2,.t 73)]),S 75 (.apd true 72 74 2 1048576),S 10 (.tra 75)])))) (rg [V 49 11,oI 50 .add 49 1,V 11 50]))
def PD:ICode := .seq (e [V 23 5,S 24 (.len 23),V 25 6,S 26 (.len 25),oB 27 .geq 24 26] (.cond 27 .skip (.exit 0))) (.block 1 (e [V 28 5,V 29 5,S 30 (.len 29),oI 31 .sub 30 1,oA 32 28 31 2,oL 33 32 32 2,S 8 (.new [A6m false,A6n 0 []] []),oS 8 8 2 33] (.seq (e [oL 34 7 7 2,n 35 79 [34],oI 36 .lss 35 0] (.cond 36 (rg [oL 37 8 8 2,n 38 161 [37],oS 8 8 2 38]) .skip)) (e [V 39 5,S 40 (.len 39),V 41 6,S 42 (.len 41),oB 43 .sub 40 42,V 9 43] (e [S 10 (.nlo 2)] (.seq (e [S 11 (.mov (ci 0))] (.block 2 (.loop KM))) (rg [S 76 (.frz 10),n 77 46 [76],n 78 86 [77],V 5 78])))))))
def UL:IFunc:=⟨2,80,[.tmp 4],e [S 4 (.nlo 2)] (e [V 13 0,n 14 86 [13],V 15 1,n 16 46 [15],V 5 14,V 6 16] (e [V 17 6,V 18 6,S 19 (.len 18),oI 20 .sub 19 1,oA 21 17 20 2,oL 22 21 21 2,S 7 (.new [A6m false,A6n 0 []] [51]),oS 7 7 2 22] (.seq (.block 0 (.loop PD)) (e [V 79 5,S 4 (.tra 79)] .ret))))⟩
def Aij:List (Nat × Nat):=[(51,7)]
theorem uO:AU c Aij Tryz.f119 UL=true:=by kernel_rfl
def PE:IFunc:=⟨1,19,[.tmp 2],e [S 2 (.nlo 2)] (.seq (e [V 3 0,S 4 (.len 3),oI 5 .gtr 4 0,V 6 5,h 7 (.mov 0) 6 true,h 8 (.mov 0) 6 true,h 9 (.len 8) 6 true,h 10 (.bin .sub 9 (ci 1)) 6 true,h 11 (.ixa 7 10 2) 6 true,h 12 (.ld 11 11 2 false) 6 true,h 13 (.call 79 [12]) 6 true,h 14 (.bin .lss 13 (ci 0)) 6 true,S 15 (.pick 6 14 (cb false))] (.cond 15 (e [V 16 0,S 17 (.clo 153 [16]),S 2 (.tra 17)] .ret) .skip)) (e [V 18 0,S 2 (.tra 18)] .ret))⟩
def Aik:List (Nat × Nat):=[]
theorem uP:AU c Aik Tryz.f120 PE=true:=by kernel_rfl
def UM:IFunc:=⟨2,32,[.cell 4 3 false],e [S 2 (.box 0 [7,12,15]),S 3 (.box 1 [9,19,22]),S 4 (.new [A6m false,A6n 0 [],A6l R 0] [])] (e [S 7 (.adr 2 2 2),S 8 (.ld 7 2 1 true),S 9 (.adr 3 3 2),S 10 (.ld 9 3 1 true),S 11 (.mx [8,10]),V 5 11] (.seq (.region true [S 12 (.adr 2 2 0),oL 13 12 2 2,V 14 5,S 15 (.adr 2 2 2),S 16 (.ld 15 2 1 true),oB 17 .sub 14 16,n 18 84 [13,17],S 19 (.adr 3 3 0),oL 20 19 3 2,V 21 5,S 22 (.adr 3 3 2),S 23 (.ld 22 3 1 true),oB 24 .sub 21 23,n 25 84 [20,24],n 26 95 [18,25],S 6 (.new [A6m false,A6n 0 []] []),oS 6 6 2 26]) (e [oL 27 6 6 2,V 28 5,oI 29 .add 28 1,S 30 (.bld [A6m false,A6n 0 [],A6l R 0] [(0,2,.t 27),(2,1,.t 29)]),n 31 162 [30],oS 4 4 3 31] .ret)))⟩
def Ail:List (Nat × Nat):=[(7,2),(9,3),(12,2),(15,2),(19,3),(22,3)]
theorem uQ:AU c Ail Tryz.f121 UM=true:=by kernel_rfl
def UN:ICode := .seq (e [V 5 4,V 6 0,S 7 (.len 6),oB 8 .lss 5 7] (.cond 8 .skip (.exit 0))) (.seq (.block 1 (.region true [S 11 (.tra 3),V 12 4,n 13 49 [12],V 14 0,V 15 4,oA 16 14 15 2,oL 17 16 16 2,n 18 96 [13,17],S 19 (.bls 1 [A6m false,A6n 0 []] [(0,2,.t 18)]),S 20 (.apd true 11 19 2 1048576),S 3 (.tra 20)])) (rg [V 9 4,oI 10 .add 9 1,V 4 10]))
def UO:IFunc:=⟨1,23,[.tmp 2],e [S 2 (.nlo 2)] (e [S 3 (.nlo 2)] (.seq (e [S 4 (.mov (ci 1))] (.block 0 (.loop UN))) (e [S 21 (.frz 3),S 22 (.clo 46 [21]),S 2 (.tra 22)] .ret)))⟩
def Aim:List (Nat × Nat):=[]
theorem uR:AU c Aim Tryz.f122 UO=true:=by kernel_rfl
def O4:ICode := .seq (e [V 48 11,S 49 (.cpy 8),S 50 (.lno 49 8),oB 51 .lss 48 50] (.cond 51 .skip (.exit 2))) (.seq (.block 3 (.region true [S 54 (.cpy 8),V 55 11,S 56 (.cpy 8),V 57 11,S 58 (.ixo 56 8 57 2),oL 59 58 8 2,oL 60 7 7 2,n 61 96 [59,60],S 62 (.ixo 54 8 55 2),oS 62 8 2 61])) (rg [V 52 11,oI 53 .add 52 1,V 11 53]))
def Mq:ICode := .seq (e [V 67 13,V 68 5,S 69 (.len 68),oI 70 .sub 69 1,oB 71 .lss 67 70] (.cond 71 .skip (.exit 4))) (.seq (.block 5 (.seq (.region true [oL 74 7 7 2,V 75 5,V 76 13,oA 77 75 76 2,oL 78 77 77 2,n 79 96 [74,78],S 14 (.new [A6m false,A6n 0 []] []),oS 14 14 2 79]) (.seq (e [V 80 13,V 81 10,oB 82 .geq 80 81] (.cond 82 (.region true [oL 83 14 14 2,oL 84 9 9 2,V 85 6,V 86 13,V 87 10,oB 88 .sub 86 87,oA 89 85 88 2,oL 90 89 89 2,n 91 96 [84,90],n 92 129 [83,91],oS 14 14 2 92]) .skip)) (rg [S 93 (.tra 12),oL 94 14 14 2,S 95 (.bls 1 [A6m false,A6n 0 []] [(0,2,.t 94)]),S 96 (.apd true 93 95 2 1048576),S 12 (.tra 96)])))) (rg [V 72 13,oI 73 .add 72 1,V 13 73]))
def UP:ICode := .seq (e [V 32 5,S 33 (.len 32),V 34 6,S 35 (.len 34),oB 36 .geq 33 35] (.cond 36 .skip (.exit 0))) (.block 1 (e [V 37 5,V 38 5,S 39 (.len 38),oI 40 .sub 39 1,oA 41 37 40 2,oL 42 41 41 2,S 9 (.new [A6m false,A6n 0 []] []),oS 9 9 2 42] (e [V 43 5,S 44 (.len 43),V 45 6,S 46 (.len 45),oB 47 .sub 44 46,V 10 47] (.seq (e [S 11 (.mov (ci 0))] (.block 2 (.loop O4))) (e [S 63 (.cpy 8),V 64 10,oL 65 9 9 2,S 66 (.ixo 63 8 64 2),oS 66 8 2 65] (e [S 12 (.nlo 2)] (.seq (e [S 13 (.mov (ci 0))] (.block 4 (.loop Mq))) (rg [S 97 (.frz 12),n 98 46 [97],V 5 98]))))))))
def UQ:IFunc:=⟨2,103,[.tmp 4],e [S 4 (.nlo 2)] (e [V 15 0,n 16 46 [15],V 17 1,n 18 46 [17],V 5 16,V 6 18] (e [V 19 6,V 20 6,S 21 (.len 20),oI 22 .sub 21 1,oA 23 19 22 2,oL 24 23 23 2,S 7 (.new [A6m false,A6n 0 []] []),oS 7 7 2 24] (e [V 25 5,S 26 (.len 25),V 27 6,S 28 (.len 27),oB 29 .sub 26 28,oI 30 .add 29 1,S 31 (.mks [A6m false,A6n 0 []] 30),⟨some 8,.tra 31,none,[49,54,56,58,62,63,66]⟩] (.seq (.block 0 (.loop UP)) (e [S 99 (.frz 8),n 100 46 [99],n 101 86 [100],S 102 (.clo 120 [101]),S 4 (.tra 102)] .ret)))))⟩
def Ain:List (Nat × Nat):=[(49,8),(54,8),(56,8),(58,8),(62,8),(63,8),(66,8)]
theorem uS:AU c Ain Tryz.f123 UQ=true:=by kernel_rfl
def YQ:IFunc:=⟨2,61,[.tmp 4],e [S 2 (.box 0 [12,24,26,46]),S 3 (.box 1 [20,28,33,35,40,48]),S 4 (.mov (cb false))] (.seq (.block 0 (e [oL 9 2 2 7,n 10 125 [9],V 8 10] (.cond 8 (e [oL 11 3 3 7,S 12 (.adr 2 2 1),oL 13 12 2 3,n 14 76 [11,13],oI 15 .eql 14 0,V 4 15] .ret) (e [oL 17 3 3 7,n 18 125 [17],V 16 18] (.cond 16 (e [oL 19 2 2 7,S 20 (.adr 3 3 1),oL 21 20 3 3,n 22 76 [19,21],oI 23 .eql 22 0,V 4 23] .ret) .skip))))) (.seq (.region true [S 24 (.adr 2 2 1),oL 25 24 2 3,S 26 (.adr 2 2 4),oL 27 26 2 3,S 5 (.new [A6m false,A6n 0 [],A6l R 0] []),S 6 (.new [A6m false,A6n 0 [],A6l R 0] []),oS 5 5 3 25,oS 6 6 3 27]) (.seq (e [S 28 (.adr 3 3 1),oL 29 28 3 3,oL 30 5 5 3,n 31 55 [29,30],oI 32 .gtr 31 0] (.cond 32 (rg [S 33 (.adr 3 3 1),oL 34 33 3 3,oS 5 5 3 34]) .skip)) (.seq (e [S 35 (.adr 3 3 4),oL 36 35 3 3,oL 37 6 6 3,n 38 55 [36,37],oI 39 .lss 38 0] (.cond 39 (rg [S 40 (.adr 3 3 4),oL 41 40 3 3,oS 6 6 3 41]) .skip)) (.seq (e [oL 42 5 5 3,oL 43 6 6 3,n 44 55 [42,43],oI 45 .geq 44 0] (.cond 45 (e [S 4 (.mov (cb false))] .ret) .skip)) (e [S 46 (.adr 2 2 0),S 47 (.ld 46 2 1 true),S 48 (.adr 3 3 0),S 49 (.ld 48 3 1 true),n 50 135 [47,49],V 7 50] (e [V 51 7,S 52 (.len 51),oI 53 .gtr 52 1,V 54 53,h 55 (.mov 7) 54 true,h 56 (.ld 5 5 3 false) 54 true,h 57 (.ld 6 6 3 false) 54 true,h 58 (.call 136 [55,56,57]) 54 true,h 59 (.bin .gtr 58 (ci 0)) 54 true,S 60 (.pick 54 59 (cb false)),V 4 60] .ret)))))))⟩
def Aio:List (Nat × Nat):=[(12,2),(20,3),(24,2),(26,2),(28,3),(33,3),(35,3),(40,3),(46,2),(48,3)]
theorem uT:AU c Aio Tryz.f124 YQ=true:=by kernel_rfl
def UR:IFunc:=⟨1,9,[.tmp 2],e [S 1 (.box 0 [3,5]),S 2 (.mov (cb false))] (e [S 3 (.adr 1 1 1),oL 4 3 1 3,S 5 (.adr 1 1 4),oL 6 5 1 3,n 7 55 [4,6],oI 8 .eql 7 0,V 2 8] .ret)⟩
def Aip:List (Nat × Nat):=[(3,1),(5,1)]
theorem uU:AU c Aip Tryz.f125 UR=true:=by kernel_rfl
def YR:IFunc:=⟨2,23,[.cell 4 2 false],e [S 2 (.box 0 [6,9,12,16,18]),S 4 (.new [A6m false,A6n 0 []] [])] (.seq (e [V 5 1,S 6 (.adr 2 2 2),S 7 (.ld 6 2 1 true),oB 8 .geq 5 7] (.cond 8 (e [S 9 (.adr 2 2 0),oL 10 9 2 2,V 11 1,S 12 (.adr 2 2 2),S 13 (.ld 12 2 1 true),oB 14 .sub 11 13,n 15 104 [10,14],oS 4 4 2 15] .ret) .skip)) (e [S 16 (.adr 2 2 0),oL 17 16 2 2,S 18 (.adr 2 2 2),S 19 (.ld 18 2 1 true),V 20 1,oB 21 .sub 19 20,n 22 163 [17,21],oS 4 4 2 22] .ret))⟩
def Aiq:List (Nat × Nat):=[(6,2),(9,2),(12,2),(16,2),(18,2)]
theorem uV:AU c Aiq Tryz.f126 YR=true:=by kernel_rfl
def YS:IFunc:=⟨2,25,[.cell 4 2 false],e [S 2 (.box 0 []),S 3 (.box 1 []),S 4 (.new [A6m false,A6n 0 []] [])] (e [oL 10 2 2 2,n 11 143 [10],V 9 11,oE 12 9 0,oE 13 9 1,V 5 12,V 6 13] (e [oL 15 3 3 2,n 16 143 [15],V 14 16,oE 17 14 0,oE 18 14 1,V 7 17,V 8 18] (e [V 19 5,V 20 6,V 21 7,S 22 (.un .not 21),V 23 8,n 24 154 [19,20,22,23],oS 4 4 2 24] .ret)))⟩
def Air:List (Nat × Nat):=[]
theorem uW:AU c Air Tryz.f127 YS=true:=by kernel_rfl
def Gi:ICode := .seq (e [V 16 8,V 17 5,S 18 (.len 17),oB 19 .lss 16 18,V 20 19,h 21 (.mov 8) 20 true,h 22 (.mov 1) 20 true,h 23 (.bin .quo 22 (ci 32)) 20 true,h 24 (.bin .lss 21 23) 20 true,S 25 (.pick 20 24 (cb false))] (.cond 25 .skip (.exit 0))) (.seq (.block 1 (rg [V 28 7,V 29 28,h 30 (.mov 5) 29 false,h 31 (.mov 8) 29 false,h 32 (.ixa 30 31 1) 29 false,h 33 (.ld 32 32 1 true) 29 false,h 34 (.bin .neq 33 (.c (A6l A5 0))) 29 false,S 35 (.pick 29 (cb true) 34),V 7 35])) (rg [V 26 8,oI 27 .add 26 1,V 8 27]))
def FF:ICode := .seq (e [V 41 10,V 42 5,S 43 (.len 42),oB 44 .lss 41 43] (.cond 44 .skip (.exit 2))) (.seq (.block 3 (e [V 47 5,V 48 10,oA 49 47 48 1,S 50 (.ld 49 49 1 true),S 51 (.cv .u64 50),V 11 51] (.seq (e [V 52 10,oI 53 .add 52 1,V 54 5,S 55 (.len 54),oB 56 .lss 53 55] (.cond 56 (rg [V 57 11,V 58 5,V 59 10,oI 60 .add 59 1,oA 61 58 60 1,S 62 (.ld 61 61 1 true),S 63 (.cv .u64 62),S 64 (.bin .shl 63 (.c (A6l U 32))),oB 65 .or 57 64,V 11 65]) .skip)) (rg [S 66 (.tra 6),V 67 11,V 68 9,oB 69 .shr 67 68,S 70 (.cv .u32 69),S 71 (.bls 1 [A6l A5 0] [(0,1,.t 70)]),S 72 (.apd true 66 71 1 35184372088832),S 6 (.tra 72)])))) (rg [V 45 10,oI 46 .add 45 1,V 10 46]))
def Jy:IFunc:=⟨2,104,[.cell 4 2 false],e [S 2 (.box 0 [13,91,95]),S 4 (.new [A6m false,A6n 0 []] [])] (e [S 13 (.adr 2 2 1),S 14 (.ld 13 2 1 true),n 15 99 [14],V 5 15] (e [S 6 (.nlo 1)] (e [S 7 (.mov (cb false))] (.seq (e [S 8 (.mov (ci 0))] (.block 0 (.loop Gi))) (e [V 36 1,oI 37 .rem 36 32,S 38 (.cv .u64 37),V 9 38] (.seq (e [V 39 1,oI 40 .quo 39 32,V 10 40] (.block 2 (.loop FF))) (.seq (e [V 73 1,oI 74 .quo 73 32,V 75 5,S 76 (.len 75),oB 77 .lss 74 76] (.cond 77 (rg [V 78 7,V 79 78,h 80 (.mov 5) 79 false,h 81 (.mov 1) 79 false,h 82 (.bin .quo 81 (ci 32)) 79 false,h 83 (.ixa 80 82 1) 79 false,h 84 (.ld 83 83 1 true) 79 false,h 85 (.mov 9) 79 false,h 86 (.bin .shl (.c (A6l A5 1)) 85) 79 false,h 87 (.bin .sub 86 (.c (A6l A5 1))) 79 false,h 88 (.bin .and 84 87) 79 false,h 89 (.bin .neq 88 (.c (A6l A5 0))) 79 false,S 90 (.pick 79 (cb true) 89),V 7 90]) .skip)) (e [S 91 (.adr 2 2 0),S 92 (.ld 91 2 1 true),S 93 (.frz 6),n 94 98 [92,93],S 12 (.new [A6m false,A6n 0 []] []),oS 12 12 2 94] (.seq (e [S 95 (.adr 2 2 0),S 96 (.ld 95 2 1 true),V 97 96,h 98 (.mov 7) 97 true,S 99 (.pick 97 98 (cb false))] (.cond 99 (.seq (.region true [oL 100 12 12 2,S 101 (.call 49 [.c (A6l R 1)]),n 102 129 [100,101],oS 4 4 2 102]) .ret) .skip)) (e [oL 103 12 12 2,oS 4 4 2 103] .ret))))))))))⟩
def Ais:List (Nat × Nat):=[(13,2),(91,2),(95,2)]
theorem uX:AU c Ais Tryz.f128 Jy=true:=by kernel_rfl
def US:IFunc:=⟨2,9,[.cell 4 2 false],e [S 2 (.box 0 []),S 3 (.box 1 []),S 4 (.new [A6m false,A6n 0 []] [])] (.seq (.region true [oL 5 2 2 2,oL 6 3 3 2,n 7 161 [6],n 8 95 [5,7],oS 4 4 2 8]) .ret)⟩
def Ait:List (Nat × Nat):=[]
theorem uY:AU c Ait Tryz.f129 US=true:=by kernel_rfl
def RF:ICode := .seq (e [V 13 5,V 14 1,oB 15 .lss 13 14,V 16 15,h 17 (.adr 2 2 1) 16 true,h 18 (.ld 17 2 1 true) 16 true,h 19 (.mov 5) 16 true,h 20 (.bin .quo 19 (ci 32)) 16 true,h 21 (.ixa 18 20 1) 16 true,h 22 (.ld 21 21 1 true) 16 true,h 23 (.mov 5) 16 true,h 24 (.bin .rem 23 (ci 32)) 16 true,h 25 (.cv .u64 24) 16 true,h 26 (.bin .shr 22 25) 16 true,h 27 (.bin .and 26 (.c (A6l A5 1))) 16 true,h 28 (.bin .eql 27 (.c (A6l A5 0))) 16 true,S 29 (.pick 16 28 (cb false))] (.cond 29 .skip (.exit 0))) (.block 1 (rg [V 30 5,oI 31 .add 30 1,V 5 31]))
def RG:IFunc:=⟨2,39,[.cell 4 3 false],e [S 2 (.box 0 [8,17]),S 4 (.new [A6m false,A6n 0 [],A6l R 0] [])] (e [oL 6 2 2 2,n 7 113 [6],oS 2 2 2 7] (.seq (e [S 8 (.adr 2 2 1),S 9 (.ld 8 2 1 true),S 10 (.len 9),oI 11 .eql 10 0] (.cond 11 (e [S 12 (.bld [A6m false,A6n 0 [],A6l R 0] []),oS 4 4 3 12] .ret) .skip)) (e [S 5 (.mov (ci 0))] (.seq (.block 0 (.loop RF)) (e [oL 32 2 2 2,V 33 5,n 34 163 [32,33],V 35 1,V 36 5,oB 37 .sub 35 36,S 38 (.bld [A6m false,A6n 0 [],A6l R 0] [(0,2,.t 34),(2,1,.t 37)]),oS 4 4 3 38] .ret)))))⟩
def Aiu:List (Nat × Nat):=[(8,2),(17,2)]
theorem uZ:AU c Aiu Tryz.f130 RG=true:=by kernel_rfl
def YT:IFunc:=⟨1,15,[.cell 2 2 false],e [S 1 (.box 0 []),S 2 (.new [A6m false,A6n 0 []] [])] (e [oL 6 1 1 2,n 7 143 [6],V 5 7,oE 8 5 0,oE 9 5 1,V 3 8,V 4 9] (e [V 10 3,S 11 (.un .not 10),V 12 4,S 13 (.apd false (.c (.nil)) 12 1 35184372088832),n 14 152 [11,13],oS 2 2 2 14] .ret))⟩
def Aiv:List (Nat × Nat):=[]
theorem vA:AU c Aiv Tryz.f131 YT=true:=by kernel_rfl
def YU:IFunc:=⟨1,19,[.cell 2 2 false],e [S 2 (.new [A6m false,A6n 0 []] [])] (e [V 4 0,S 5 (.cv .u64 4),V 3 5] (.seq (e [V 6 0,oI 7 .lss 6 0] (.cond 7 (rg [V 8 3,S 9 (.un .neg 8),V 3 9]) .skip)) (e [V 10 0,oI 11 .lss 10 0,V 12 3,S 13 (.cv .u32 12),V 14 3,S 15 (.bin .shr 14 (.c (A6l U 32))),S 16 (.cv .u32 15),S 17 (.bls 2 [A6l A5 0,A6l A5 0] [(0,1,.t 13),(1,1,.t 16)]),n 18 152 [11,17],oS 2 2 2 18] .ret)))⟩
def Aiw:List (Nat × Nat):=[]
theorem vB:AU c Aiw Tryz.f132 YU=true:=by kernel_rfl
def UT:IFunc:=⟨2,29,[.cell 4 3 false],e [S 2 (.box 0 [6,11,14]),S 3 (.box 1 [8,18,21]),S 4 (.new [A6m false,A6n 0 [],A6l R 0] [])] (e [S 6 (.adr 2 2 2),S 7 (.ld 6 2 1 true),S 8 (.adr 3 3 2),S 9 (.ld 8 3 1 true),S 10 (.mx [7,9]),V 5 10] (.seq (.region true [S 11 (.adr 2 2 0),oL 12 11 2 2,V 13 5,S 14 (.adr 2 2 2),S 15 (.ld 14 2 1 true),oB 16 .sub 13 15,n 17 104 [12,16],S 18 (.adr 3 3 0),oL 19 18 3 2,V 20 5,S 21 (.adr 3 3 2),S 22 (.ld 21 3 1 true),oB 23 .sub 20 22,n 24 104 [19,23],n 25 111 [17,24],V 26 5,oI 27 .add 26 1,n 28 130 [25,27],oS 4 4 3 28]) .ret))⟩
def Aix:List (Nat × Nat):=[(6,2),(8,3),(11,2),(14,2),(18,3),(21,3)]
theorem vC:AU c Aix Tryz.f133 UT=true:=by kernel_rfl
def Mr:ICode := .seq (e [V 19 5,oI 20 .geq 19 0] (.cond 20 .skip (.exit 0))) (.seq (.block 1 (.seq (.region true [V 23 0,V 24 5,oA 25 23 24 1,S 26 (.ld 25 25 1 true),V 27 1,V 28 5,oA 29 27 28 1,S 30 (.ld 29 29 1 true),oB 31 .neq 26 30]) (.cond 31 (.seq (.seq (.region true [V 32 0,V 33 5,oA 34 32 33 1,S 35 (.ld 34 34 1 true),V 36 1,V 37 5,oA 38 36 37 1,S 39 (.ld 38 38 1 true),oB 40 .lss 35 39]) (.cond 40 (e [S 4 (.mov (ci (-1)))] .ret) .skip)) (e [S 4 (.mov (ci 1))] .ret)) .skip))) (rg [V 21 5,oI 22 .sub 21 1,V 5 22]))
def RH:IFunc:=⟨2,41,[.tmp 4],e [S 4 (.mov (ci 0))] (.seq (e [V 6 0,S 7 (.len 6),V 8 1,S 9 (.len 8),oB 10 .neq 7 9] (.cond 10 (.seq (e [V 11 0,S 12 (.len 11),V 13 1,S 14 (.len 13),oB 15 .lss 12 14] (.cond 15 (e [S 4 (.mov (ci (-1)))] .ret) .skip)) (e [S 4 (.mov (ci 1))] .ret)) .skip)) (.seq (e [V 16 0,S 17 (.len 16),oI 18 .sub 17 1,V 5 18] (.block 0 (.loop Mr))) (e [S 4 (.mov (ci 0))] .ret)))⟩
def Aiy:List (Nat × Nat):=[]
theorem vD:AU c Aiy Tryz.f134 RH=true:=by kernel_rfl
def PF:ICode := .seq (e [V 11 6,S 12 (.len 11),oI 13 .gtr 12 0] (.cond 13 .skip (.exit 0))) (.block 1 (rg [V 14 6,V 15 5,V 16 6,n 17 118 [15,16],V 5 14,V 6 17]))
def RI:IFunc:=⟨2,20,[.tmp 4],e [S 4 (.nlo 2)] (e [V 7 0,n 8 115 [7],V 9 1,n 10 115 [9],V 5 8,V 6 10] (.seq (.block 0 (.loop PF)) (e [V 18 5,S 19 (.clo 155 [18]),S 4 (.tra 19)] .ret)))⟩
def Aiz:List (Nat × Nat):=[]
theorem vE:AU c Aiz Tryz.f135 RI=true:=by kernel_rfl
def UU:IFunc:=⟨3,17,[.tmp 6],e [S 4 (.box 1 []),S 5 (.box 2 []),S 6 (.mov (ci 0))] (e [V 8 0,n 9 67 [8],V 7 9] (.seq (.region true [V 10 7,oL 11 4 4 3,n 12 68 [10,11],V 13 7,oL 14 5 5 3,n 15 68 [13,14],oB 16 .sub 12 15,V 6 16]) .ret))⟩
def Aja:List (Nat × Nat):=[]
theorem vF:AU c Aja Tryz.f136 UU=true:=by kernel_rfl
def UV:ICode := .seq (e [V 6 4,V 7 0,S 8 (.len 7),oB 9 .lss 6 8] (.cond 9 .skip (.exit 0))) (.seq (.block 1 (.region true [oL 12 3 3 2,V 13 0,V 14 4,oA 15 13 14 2,oL 16 15 15 2,n 17 164 [12,16],oS 3 3 2 17])) (rg [V 10 4,oI 11 .add 10 1,V 4 11]))
def UW:IFunc:=⟨1,19,[.cell 2 2 false],e [S 2 (.new [A6m false,A6n 0 []] [])] (e [S 5 (.bld [A6m false,A6n 0 []] []),S 3 (.new [A6m false,A6n 0 []] []),oS 3 3 2 5] (.seq (e [S 4 (.mov (ci 0))] (.block 0 (.loop UV))) (e [oL 18 3 3 2,oS 2 2 2 18] .ret)))⟩
def Ajb:List (Nat × Nat):=[]
theorem vG:AU c Ajb Tryz.f137 UW=true:=by kernel_rfl
def UX:IFunc:=⟨2,29,[.cell 4 2 false,.cell 5 2 false],e [S 2 (.box 0 [9,18,25]),S 3 (.box 1 [12,20]),S 4 (.new [A6m false,A6n 0 []] []),S 5 (.new [A6m false,A6n 0 []] [])] (.seq (.region true [S 9 (.adr 2 2 1),S 10 (.ld 9 2 1 true),n 11 99 [10],S 12 (.adr 3 3 1),S 13 (.ld 12 3 1 true),n 14 99 [13],n 15 165 [11,14],V 8 15,oE 16 8 0,oE 17 8 1,V 6 16,V 7 17]) (.seq (.region true [S 18 (.adr 2 2 0),S 19 (.ld 18 2 1 true),S 20 (.adr 3 3 0),S 21 (.ld 20 3 1 true),S 22 (.eqb true 19 21),V 23 6,n 24 98 [22,23],S 25 (.adr 2 2 0),S 26 (.ld 25 2 1 true),V 27 7,n 28 98 [26,27],oS 4 4 2 24,oS 5 5 2 28]) .ret))⟩
def Ajc:List (Nat × Nat):=[(9,2),(12,3),(18,2),(20,3),(25,2)]
theorem vH:AU c Ajc Tryz.f138 UX=true:=by kernel_rfl
def PG:ICode := .seq (e [V 8 4,oI 9 .gtr 8 0,V 10 9,h 11 (.adr 1 1 1) 10 true,h 12 (.ld 11 1 1 true) 10 true,h 13 (.mov 4) 10 true,h 14 (.bin .sub 13 (ci 1)) 10 true,h 15 (.ixa 12 14 1) 10 true,h 16 (.ld 15 15 1 true) 10 true,h 17 (.bin .eql 16 (.c (A6l A5 0))) 10 true,S 18 (.pick 10 17 (cb false))] (.cond 18 .skip (.exit 0))) (.block 1 (rg [V 19 4,oI 20 .sub 19 1,V 4 20]))
def RJ:IFunc:=⟨1,31,[.tmp 2,.tmp 3],e [S 1 (.box 0 [5,11,21,27]),S 2 (.mov (cb false)),S 3 (.nlo 1)] (e [S 5 (.adr 1 1 1),S 6 (.ld 5 1 1 true),S 7 (.len 6),V 4 7] (.seq (.block 0 (.loop PG)) (.seq (.region true [S 21 (.adr 1 1 0),S 22 (.ld 21 1 1 true),V 23 22,h 24 (.mov 4) 23 true,h 25 (.bin .gtr 24 (ci 0)) 23 true,S 26 (.pick 23 25 (cb false)),S 27 (.adr 1 1 1),S 28 (.ld 27 1 1 true),V 29 4,S 30 (.sli 28 none (some 29) none 1),V 2 26,S 3 (.tra 30)]) .ret)))⟩
def Ajd:List (Nat × Nat):=[(5,1),(11,1),(21,1),(27,1)]
theorem vI:AU c Ajd Tryz.f143 RJ=true:=by kernel_rfl
def Ms:ICode := .seq (e [V 8 7,V 9 0,S 10 (.len 9),oB 11 .lss 8 10,V 12 11,h 13 (.mov 7) 12 false,h 14 (.mov 1) 12 false,h 15 (.len 14) 12 false,h 16 (.bin .lss 13 15) 12 false,S 17 (.pick 12 (cb true) 16),V 18 17,h 19 (.mov 6) 18 false,h 20 (.bin .gtr 19 (.c (A6l U 0))) 18 false,S 21 (.pick 18 (cb true) 20)] (.cond 21 .skip (.exit 0))) (.seq (.block 1 (.seq (e [V 24 7,V 25 0,S 26 (.len 25),oB 27 .lss 24 26] (.cond 27 (rg [V 28 6,V 29 0,V 30 7,oA 31 29 30 1,S 32 (.ld 31 31 1 true),S 33 (.cv .u64 32),oB 34 .add 28 33,V 6 34]) .skip)) (.seq (e [V 35 7,V 36 1,S 37 (.len 36),oB 38 .lss 35 37] (.cond 38 (rg [V 39 6,V 40 1,V 41 7,oA 42 40 41 1,S 43 (.ld 42 42 1 true),S 44 (.cv .u64 43),oB 45 .add 39 44,V 6 45]) .skip)) (e [S 46 (.tra 5),V 47 6,S 48 (.cv .u32 47),S 49 (.bls 1 [A6l A5 0] [(0,1,.t 48)]),S 50 (.apd true 46 49 1 35184372088832),S 5 (.tra 50)] (rg [V 51 6,S 52 (.bin .shr 51 (.c (A6l U 32))),V 6 52]))))) (rg [V 22 7,oI 23 .add 22 1,V 7 23]))
def UY:IFunc:=⟨2,54,[.tmp 4],e [S 4 (.nlo 1)] (e [S 5 (.nlo 1)] (e [S 6 (.mov (.c (A6l U 0)))] (.seq (e [S 7 (.mov (ci 0))] (.block 0 (.loop Ms))) (e [S 53 (.tra 5),S 4 (.tra 53)] .ret))))⟩
def Aje:List (Nat × Nat):=[]
theorem vJ:AU c Aje Tryz.f144 UY=true:=by kernel_rfl
def PH:ICode := .seq (e [V 10 7,V 11 0,S 12 (.len 11),oB 13 .lss 10 12] (.cond 13 .skip (.exit 0))) (.seq (.block 1 (e [S 8 (.mov (.c (A6l U 0)))] (.seq (e [V 16 7,V 17 1,S 18 (.len 17),oB 19 .lss 16 18] (.cond 19 (rg [V 20 1,V 21 7,oA 22 20 21 1,S 23 (.ld 22 22 1 true),S 24 (.cv .u64 23),V 8 24]) .skip)) (e [V 25 0,V 26 7,oA 27 25 26 1,S 28 (.ld 27 27 1 true),S 29 (.cv .u64 28),V 30 8,oB 31 .sub 29 30,V 32 6,oB 33 .sub 31 32,V 9 33] (e [S 34 (.tra 5),V 35 9,S 36 (.cv .u32 35),S 37 (.bls 1 [A6l A5 0] [(0,1,.t 36)]),S 38 (.apd true 34 37 1 35184372088832),S 5 (.tra 38)] (rg [V 39 9,S 40 (.bin .shr 39 (.c (A6l U 63))),V 6 40])))))) (rg [V 14 7,oI 15 .add 14 1,V 7 15]))
def UZ:IFunc:=⟨2,42,[.tmp 4],e [S 4 (.nlo 1)] (e [S 5 (.nlo 1)] (e [S 6 (.mov (.c (A6l U 0)))] (.seq (e [S 7 (.mov (ci 0))] (.block 0 (.loop PH))) (e [S 41 (.tra 5),S 4 (.tra 41)] .ret))))⟩
def Ajf:List (Nat × Nat):=[]
theorem vK:AU c Ajf Tryz.f145 UZ=true:=by kernel_rfl
def QD:ICode := .seq (e [V 21 8,V 22 1,S 23 (.len 22),oB 24 .lss 21 23] (.cond 24 .skip (.exit 2))) (.seq (.block 3 (.seq (.region true [V 27 7,S 28 (.cpy 5),V 29 6,V 30 8,oB 31 .add 29 30,S 32 (.ixo 28 5 31 1),S 33 (.ld 32 5 1 true),S 34 (.cv .u64 33),V 35 0,V 36 6,oA 37 35 36 1,S 38 (.ld 37 37 1 true),S 39 (.cv .u64 38),V 40 1,V 41 8,oA 42 40 41 1,S 43 (.ld 42 42 1 true),S 44 (.cv .u64 43),oB 45 .mul 39 44,oB 46 .add 34 45,oB 47 .add 27 46,V 7 47]) (e [S 48 (.cpy 5),V 49 6,V 50 8,oB 51 .add 49 50,V 52 7,S 53 (.cv .u32 52),S 54 (.ixo 48 5 51 1),oS 54 5 1 53] (rg [V 55 7,S 56 (.bin .shr 55 (.c (A6l U 32))),V 7 56])))) (rg [V 25 8,oI 26 .add 25 1,V 8 26]))
def QE:ICode := .seq (e [V 15 6,V 16 0,S 17 (.len 16),oB 18 .lss 15 17] (.cond 18 .skip (.exit 0))) (.seq (.block 1 (e [S 7 (.mov (.c (A6l U 0)))] (.seq (e [S 8 (.mov (ci 0))] (.block 2 (.loop QD))) (rg [S 57 (.cpy 5),V 58 6,V 59 1,S 60 (.len 59),oB 61 .add 58 60,V 62 7,S 63 (.cv .u32 62),S 64 (.ixo 57 5 61 1),oS 64 5 1 63])))) (rg [V 19 6,oI 20 .add 19 1,V 6 20]))
def U_:IFunc:=⟨2,66,[.tmp 4],e [S 4 (.nlo 1)] (e [V 9 0,S 10 (.len 9),V 11 1,S 12 (.len 11),oB 13 .add 10 12,S 14 (.mks [A6l A5 0] 13),⟨some 5,.tra 14,none,[28,32,48,54,57,64]⟩] (.seq (e [S 6 (.mov (ci 0))] (.block 0 (.loop QE))) (e [S 65 (.tra 5),S 4 (.tra 65)] .ret)))⟩
def Ajg:List (Nat × Nat):=[(28,5),(32,5),(48,5),(54,5),(57,5),(64,5)]
theorem vL:AU c Ajg Tryz.f146 U_=true:=by kernel_rfl
def Ie:ICode := .seq (e [V 17 6,V 18 5,oB 19 .leq 17 18] (.cond 19 .skip (.exit 2))) (.seq (.block 3 (e [V 22 4,V 23 6,oA 24 22 23 2,oL 25 24 24 2,n 26 177 [25],oI 27 .gtr 26 256] (.cond 27 (e [S 2 (.mov (cb true))] .ret) .skip))) (rg [V 20 6,oI 21 .add 20 1,V 6 21]))
def rU:ICode:=e [oB 10 .lss 9 8] (.seq (.cond 10 .skip (.exit 0)) (.seq (.block 1 (e [oA 11 7 9 1,S 12 (.ld 11 11 1 true),V 4 12] (e [V 13 4,n 14 53 [13],V 5 14] (.seq (e [V 15 5,oI 16 .gtr 15 16] (.cond 16 (e [S 2 (.mov (cb true))] .ret) .skip)) (e [S 6 (.mov (ci 0))] (.block 2 (.loop Ie))))))) (rg [oI 28 .add 9 1,V 9 28])))
def RK:IFunc:=⟨1,29,[.tmp 2],e [S 2 (.mov (cb false))] (.seq (e [V 7 0,S 8 (.len 7),S 9 (.mov (ci 0))] (.block 0 (.loop rU))) (e [S 2 (.mov (cb false))] .ret))⟩
def Ajh:List (Nat × Nat):=[]
theorem vM:AU c Ajh Tryz.f147 RK=true:=by kernel_rfl
def Va:IFunc:=⟨1,8,[.tmp 2,.tmp 3],e [S 2 (.nlo 2),S 3 (.mov (ci 0))] (.seq (e [V 4 0,S 5 (.bls 1 [A6n 0 []] [(0,1,.t 4)]),n 6 147 [5]] (.cond 6 (e [S 2 (.nlo 2),S 3 (.mov (ci 2))] .ret) .skip)) (e [V 7 0,S 2 (.tra 7),S 3 (.mov (ci 0))] .ret))⟩
def Aji:List (Nat × Nat):=[]
theorem vN:AU c Aji Tryz.f148 Va=true:=by kernel_rfl
def NF:ICode:=e [oB 22 .lss 21 20] (.seq (.cond 22 .skip (.exit 0)) (.seq (.block 1 (e [V 23 21,V 8 23] (.seq (e [V 24 8,V 25 5,oB 26 .lss 24 25] (.cond 26 (rg [S 27 (.cpy 7),V 28 8,V 29 0,V 30 8,oA 31 29 30 2,oL 32 31 31 2,S 33 (.ixo 27 7 28 2),oS 33 7 2 32]) .skip)) (e [V 34 8,V 35 6,oB 36 .lss 34 35] (.cond 36 (.region true [S 37 (.cpy 7),V 38 8,S 39 (.cpy 7),V 40 8,S 41 (.ixo 39 7 40 2),oL 42 41 7 2,V 43 1,V 44 8,oA 45 43 44 2,oL 46 45 45 2,n 47 111 [42,46],S 48 (.ixo 37 7 38 2),oS 48 7 2 47]) .skip))))) (rg [oI 49 .add 21 1,V 21 49])))
def Vb:IFunc:=⟨2,52,[.tmp 4],e [S 4 (.nlo 2)] (e [V 9 0,n 10 53 [9],oI 11 .add 10 1,V 12 1,n 13 53 [12],oI 14 .add 13 1,V 5 11,V 6 14] (e [V 15 5,V 16 6,S 17 (.mx [15,16]),S 18 (.mks [A6m false,A6n 0 []] 17),⟨some 7,.tra 18,none,[19,27,33,37,39,41,48]⟩] (.seq (e [S 19 (.cpy 7),S 20 (.lno 19 7),S 21 (.mov (ci 0))] (.block 0 (.loop NF))) (e [S 50 (.frz 7),S 51 (.clo 66 [50]),S 4 (.tra 51)] .ret))))⟩
def Ajj:List (Nat × Nat):=[(19,7),(27,7),(33,7),(37,7),(39,7),(41,7),(48,7)]
theorem vO:AU c Ajj Tryz.f149 Vb=true:=by kernel_rfl
def RL:List UInt8:=0::1::2::2::3::3::3::3::4::4::4::4::4::4::4::4::5::5::5::5::5::5::5::5::5::5::5::5::5::5::5::5::6::6::6::6::6::6::6::6::[]
def RM:List UInt8:=6::6::6::6::6::6::6::6::6::6::6::6::6::6::6::6::6::6::6::6::6::6::6::6::7::7::7::7::7::7::7::7::7::7::7::7::7::7::7::7::[]
def RN:List UInt8:=7::7::7::7::7::7::7::7::7::7::7::7::7::7::7::7::7::7::7::7::7::7::7::7::7::7::7::7::7::7::7::7::7::7::7::7::7::7::7::7::[]
def RO:List UInt8:=7::7::7::7::7::7::7::7::8::8::8::8::8::8::8::8::8::8::8::8::8::8::8::8::8::8::8::8::8::8::8::8::8::8::8::8::8::8::8::8::[]
def RP:List UInt8:=8::8::8::8::8::8::8::8::8::8::8::8::8::8::8::8::8::8::8::8::8::8::8::8::8::8::8::8::8::8::8::8::8::8::8::8::8::8::8::8::[]
def RQ:List UInt8:=8::8::8::8::8::8::8::8::8::8::8::8::8::8::8::8::8::8::8::8::8::8::8::8::8::8::8::8::8::8::8::8::8::8::8::8::8::8::8::8::[]
def RR:List UInt8:=8::8::8::8::8::8::8::8::8::8::8::8::8::8::8::8::[]
def Ey:ByteArray:=⟨(RL++RM++RN++RO++RP++RQ++RR).toArray⟩
def YV:IFunc:=⟨1,19,[.tmp 2],e [S 2 (.mov (ci 0))] (.seq (e [V 3 0,S 4 (.bin .geq 3 (.c (A6l A5 65536)))] (.cond 4 (e [V 5 0,S 6 (.bin .shr 5 (.c (A6l U 16))),V 0 6] (rg [S 2 (.mov (ci 16))])) .skip)) (.seq (e [V 7 0,S 8 (.bin .geq 7 (.c (A6l A5 256)))] (.cond 8 (e [V 9 0,S 10 (.bin .shr 9 (.c (A6l U 8))),V 0 10] (rg [V 11 2,oI 12 .add 11 8,V 2 12])) .skip)) (e [V 13 2,V 14 0,S 15 (.cv .u8 14),S 16 (.six (.c (.str Ey)) 15),S 17 (.cv .i64 16),oB 18 .add 13 17,V 2 18] .ret)))⟩
def Ajk:List (Nat × Nat):=[]
theorem vP:AU c Ajk Tryz.f150 YV=true:=by kernel_rfl
def Mt:ICode := .seq (e [V 19 5,oI 20 .geq 19 0] (.cond 20 .skip (.exit 0))) (.seq (.block 1 (.seq (.region true [V 23 0,V 24 5,oA 25 23 24 1,S 26 (.ld 25 25 1 true),V 27 1,V 28 5,oA 29 27 28 1,S 30 (.ld 29 29 1 true),oB 31 .neq 26 30]) (.cond 31 (.seq (.seq (.region true [V 32 0,V 33 5,oA 34 32 33 1,S 35 (.ld 34 34 1 true),V 36 1,V 37 5,oA 38 36 37 1,S 39 (.ld 38 38 1 true),oB 40 .lss 35 39]) (.cond 40 (e [S 4 (.mov (ci (-1)))] .ret) .skip)) (e [S 4 (.mov (ci 1))] .ret)) .skip))) (rg [V 21 5,oI 22 .sub 21 1,V 5 22]))
def RS:IFunc:=⟨2,41,[.tmp 4],e [S 4 (.mov (ci 0))] (.seq (e [V 6 0,S 7 (.len 6),V 8 1,S 9 (.len 8),oB 10 .neq 7 9] (.cond 10 (.seq (e [V 11 0,S 12 (.len 11),V 13 1,S 14 (.len 13),oB 15 .lss 12 14] (.cond 15 (e [S 4 (.mov (ci (-1)))] .ret) .skip)) (e [S 4 (.mov (ci 1))] .ret)) .skip)) (.seq (e [V 16 0,S 17 (.len 16),oI 18 .sub 17 1,V 5 18] (.block 0 (.loop Mt))) (e [S 4 (.mov (ci 0))] .ret)))⟩
def Ajl:List (Nat × Nat):=[]
theorem vQ:AU c Ajl Tryz.f151 RS=true:=by kernel_rfl
def PI:ICode := .seq (e [V 8 5,oI 9 .gtr 8 0,V 10 9,h 11 (.mov 1) 10 true,h 12 (.mov 5) 10 true,h 13 (.bin .sub 12 (ci 1)) 10 true,h 14 (.ixa 11 13 1) 10 true,h 15 (.ld 14 14 1 true) 10 true,h 16 (.bin .eql 15 (.c (A6l A5 0))) 10 true,S 17 (.pick 10 16 (cb false))] (.cond 17 .skip (.exit 0))) (.block 1 (rg [V 18 5,oI 19 .sub 18 1,V 5 19]))
def RT:IFunc:=⟨2,29,[.cell 4 2 false],e [S 4 (.new [A6m false,A6n 0 []] [])] (e [V 6 1,S 7 (.len 6),V 5 7] (.seq (.block 0 (.loop PI)) (.seq (e [V 20 5,oI 21 .eql 20 0] (.cond 21 (e [S 22 (.bld [A6m false,A6n 0 []] []),oS 4 4 2 22] .ret) .skip)) (e [V 23 0,V 24 1,V 25 5,V 26 5,S 27 (.sli 24 none (some 25) (some 26) 1),S 28 (.bld [A6m false,A6n 0 []] [(0,1,.t 23),(1,1,.t 27)]),oS 4 4 2 28] .ret))))⟩
def Ajm:List (Nat × Nat):=[]
theorem vR:AU c Ajm Tryz.f152 RT=true:=by kernel_rfl
def Vc:ICode := .seq (e [V 5 4,V 6 0,S 7 (.len 6),oB 8 .lss 5 7] (.cond 8 .skip (.exit 0))) (.seq (.block 1 (rg [S 11 (.tra 3),V 12 0,V 13 4,oA 14 12 13 2,oL 15 14 14 2,n 16 161 [15],S 17 (.bls 1 [A6m false,A6n 0 []] [(0,2,.t 16)]),S 18 (.apd true 11 17 2 1048576),S 3 (.tra 18)])) (rg [V 9 4,oI 10 .add 9 1,V 4 10]))
def Ve:IFunc:=⟨1,21,[.tmp 2],e [S 2 (.nlo 2)] (e [S 3 (.nlo 2)] (.seq (e [S 4 (.mov (ci 0))] (.block 0 (.loop Vc))) (e [S 19 (.frz 3),S 20 (.clo 46 [19]),S 2 (.tra 20)] .ret)))⟩
def Ajn:List (Nat × Nat):=[]
theorem vS:AU c Ajn Tryz.f153 Ve=true:=by kernel_rfl
def YW:IFunc:=⟨4,31,[.cell 8 2 false],e [S 8 (.new [A6m false,A6n 0 []] [])] (.seq (e [V 9 0,V 10 2,S 11 (.eqb false 9 10)] (.cond 11 (e [V 12 0,V 13 1,V 14 3,n 15 178 [13,14],n 16 152 [12,15],oS 8 8 2 16] .ret) .skip)) (.seq (e [V 17 1,V 18 3,n 19 151 [17,18],oI 20 .geq 19 0] (.cond 20 (e [V 21 0,V 22 1,V 23 3,n 24 179 [22,23],n 25 152 [21,24],oS 8 8 2 25] .ret) .skip)) (e [V 26 2,V 27 3,V 28 1,n 29 179 [27,28],n 30 152 [26,29],oS 8 8 2 30] .ret)))⟩
def Ajo:List (Nat × Nat):=[]
theorem vT:AU c Ajo Tryz.f154 YW=true:=by kernel_rfl
def PJ:IFunc:=⟨1,20,[.tmp 2],e [S 2 (.nlo 2)] (.seq (e [V 4 0,S 5 (.len 4),V 3 5] (e [V 6 3,oI 7 .gtr 6 0,V 8 7,h 9 (.mov 0) 8 true,h 10 (.mov 3) 8 true,h 11 (.bin .sub 10 (ci 1)) 8 true,h 12 (.ixa 9 11 2) 8 true,h 13 (.ld 12 12 2 false) 8 true,h 14 (.call 101 [13]) 8 true,h 15 (.bin .lss 14 (ci 0)) 8 true,S 16 (.pick 8 15 (cb false))] (.cond 16 (e [V 17 0,S 18 (.clo 117 [17]),S 2 (.tra 18)] .ret) .skip))) (e [V 19 0,S 2 (.tra 19)] .ret))⟩
def Ajp:List (Nat × Nat):=[]
theorem vU:AU c Ajp Tryz.f155 PJ=true:=by kernel_rfl
def O5:ICode:=e [oB 46 .lss 45 44] (.seq (.cond 46 .skip (.exit 2)) (.seq (.block 3 (e [V 47 45,V 10 47] (.region true [S 48 (.cpy 5),V 49 10,S 50 (.cpy 5),V 51 10,S 52 (.ixo 50 5 51 2),oL 53 52 5 2,oL 54 6 6 2,n 55 112 [53,54],S 56 (.ixo 48 5 49 2),oS 56 5 2 55]))) (rg [oI 57 .add 45 1,V 45 57])))
def O6:ICode:=e [oB 61 .lss 60 59] (.seq (.cond 61 .skip (.exit 4)) (.seq (.block 5 (e [V 62 60,V 11 62] (.region true [S 63 (.cpy 7),V 64 11,S 65 (.cpy 7),V 66 11,S 67 (.ixo 65 7 66 2),oL 68 67 7 2,oL 69 6 6 2,n 70 112 [68,69],S 71 (.ixo 63 7 64 2),oS 71 7 2 70]))) (rg [oI 72 .add 60 1,V 60 72])))
def O7:ICode:=e [oB 80 .lss 79 78] (.seq (.cond 80 .skip (.exit 6)) (.seq (.block 7 (e [V 81 79,V 12 81] (.region true [S 82 (.cpy 5),V 83 8,V 84 12,oB 85 .add 83 84,S 86 (.cpy 5),V 87 8,V 88 12,oB 89 .add 87 88,S 90 (.ixo 86 5 89 2),oL 91 90 5 2,oL 92 9 9 2,V 93 1,V 94 12,oA 95 93 94 2,oL 96 95 95 2,n 97 112 [92,96],n 98 127 [91,97],S 99 (.ixo 82 5 85 2),oS 99 5 2 98]))) (rg [oI 100 .add 79 1,V 79 100])))
def Vf:ICode := .seq (e [V 31 8,oI 32 .geq 31 0] (.cond 32 .skip (.exit 0))) (.seq (.block 1 (e [S 35 (.cpy 5),V 36 8,V 37 1,S 38 (.len 37),oB 39 .add 36 38,oI 40 .sub 39 1,S 41 (.ixo 35 5 40 2),oL 42 41 5 2,S 9 (.new [A6m false,A6n 0 []] []),oS 9 9 2 42] (.seq (e [S 43 (.cpy 5),S 44 (.lno 43 5),S 45 (.mov (ci 0))] (.block 2 (.loop O5))) (.seq (e [S 58 (.cpy 7),S 59 (.lno 58 7),S 60 (.mov (ci 0))] (.block 4 (.loop O6))) (e [S 73 (.cpy 7),V 74 8,oL 75 9 9 2,S 76 (.ixo 73 7 74 2),oS 76 7 2 75] (e [V 77 1,S 78 (.len 77),S 79 (.mov (ci 0))] (.block 6 (.loop O7)))))))) (rg [V 33 8,oI 34 .sub 33 1,V 8 34]))
def Vg:IFunc:=⟨2,103,[.tmp 4],e [S 4 (.nlo 2)] (e [V 13 0,S 14 (.clo 66 [13]),⟨some 5,.tra 14,none,[21,35,41,43,48,50,52,56,82,86,90,99]⟩] (e [V 15 1,V 16 1,S 17 (.len 16),oI 18 .sub 17 1,oA 19 15 18 2,oL 20 19 19 2,S 6 (.new [A6m false,A6n 0 []] []),oS 6 6 2 20] (e [S 21 (.cpy 5),S 22 (.lno 21 5),V 23 1,S 24 (.len 23),oB 25 .sub 22 24,oI 26 .add 25 1,S 27 (.mks [A6m false,A6n 0 []] 26),⟨some 7,.tra 27,none,[28,58,63,65,67,71,73,76]⟩] (.seq (e [S 28 (.cpy 7),S 29 (.lno 28 7),oI 30 .sub 29 1,V 8 30] (.block 0 (.loop Vf))) (e [S 101 (.frz 7),S 102 (.clo 115 [101]),S 4 (.tra 102)] .ret)))))⟩
def Ajq:List (Nat × Nat):=[(21,5),(28,7),(35,5),(41,5),(43,5),(48,5),(50,5),(52,5),(56,5),(58,7),(63,7),(65,7),(67,7),(71,7),(73,7),(76,7),(82,5),(86,5),(90,5),(99,5)]
theorem vV:AU c Ajq Tryz.f156 Vg=true:=by kernel_rfl
def RU:ICode := .seq (e [V 8 4,oI 9 .geq 8 0,V 10 9,h 11 (.ld 3 3 2 false) 10 true,h 12 (.call 102 [11]) 10 true,h 13 (.bin .neq 12 (ci 1)) 10 true,S 14 (.pick 10 13 (cb false))] (.cond 14 .skip (.exit 0))) (.seq (.block 1 (.region true [oL 17 3 3 2,V 18 0,V 19 4,oA 20 18 19 2,oL 21 20 20 2,n 22 159 [17,21],oS 3 3 2 22])) (rg [V 15 4,oI 16 .sub 15 1,V 4 16]))
def Vh:IFunc:=⟨1,24,[.cell 2 2 false],e [S 2 (.new [A6m false,A6n 0 []] [])] (e [S 3 (.new [A6m false,A6n 0 []] [])] (.seq (e [V 5 0,S 6 (.len 5),oI 7 .sub 6 1,V 4 7] (.block 0 (.loop RU))) (e [oL 23 3 3 2,oS 2 2 2 23] .ret)))⟩
def Ajr:List (Nat × Nat):=[]
theorem vW:AU c Ajr Tryz.f157 Vh=true:=by kernel_rfl
def Vi:IFunc:=⟨2,36,[.cell 4 2 false,.cell 5 2 false],e [S 2 (.box 0 []),S 3 (.box 1 []),S 4 (.new [A6m false,A6n 0 []] []),S 5 (.new [A6m false,A6n 0 []] [])] (e [oL 13 2 2 2,n 14 143 [13],V 12 14,oE 15 12 0,oE 16 12 1,V 6 15,V 7 16] (e [oL 18 3 3 2,n 19 143 [18],V 17 19,oE 20 17 0,oE 21 17 1,V 8 20,V 9 21] (e [V 23 7,V 24 9,n 25 180 [23,24],V 22 25,oE 26 22 0,oE 27 22 1,V 10 26,V 11 27] (e [V 28 6,V 29 8,S 30 (.eqb true 28 29),V 31 10,n 32 152 [30,31],V 33 6,V 34 11,n 35 152 [33,34],oS 4 4 2 32,oS 5 5 2 35] .ret))))⟩
def Ajs:List (Nat × Nat):=[]
theorem vX:AU c Ajs Tryz.f158 Vi=true:=by kernel_rfl
def Lt:ICode := .seq (e [S 13 (.adr 6 6 1),S 14 (.ld 13 6 1 true),S 15 (.len 14),oI 16 .gtr 15 0] (.cond 16 .skip (.exit 0))) (.block 1 (.seq (e [S 17 (.adr 5 5 1),S 18 (.ld 17 5 1 true),S 19 (.len 18),oI 20 .leq 19 2,V 21 20,h 22 (.adr 6 6 1) 21 true,h 23 (.ld 22 6 1 true) 21 true,h 24 (.len 23) 21 true,h 25 (.bin .leq 24 (ci 2)) 21 true,S 26 (.pick 21 25 (cb false))] (.cond 26 (.seq (.region true [oL 27 5 5 2,n 28 183 [27],oL 29 6 6 2,n 30 183 [29],n 31 182 [28,30],n 32 181 [31],oS 4 4 2 32]) .ret) .skip)) (e [oL 34 5 5 2,oL 35 6 6 2,n 36 158 [34,35],V 33 36,oE 37 33 0,oE 38 33 1,S 7 (.new [A6m false,A6n 0 []] []),S 8 (.new [A6m false,A6n 0 []] []),oS 7 7 2 37,oS 8 8 2 38] (.region true [oL 39 6 6 2,oL 40 8 8 2,oS 5 5 2 39,oS 6 6 2 40]))))
def RV:IFunc:=⟨2,42,[.cell 4 2 false],e [S 2 (.box 0 []),S 3 (.box 1 []),S 4 (.new [A6m false,A6n 0 []] [])] (.seq (.region true [oL 9 2 2 2,n 10 160 [9],oL 11 3 3 2,n 12 160 [11],S 5 (.new [A6m false,A6n 0 []] [17]),S 6 (.new [A6m false,A6n 0 []] [13,22]),oS 5 5 2 10,oS 6 6 2 12]) (.seq (.block 0 (.loop Lt)) (e [oL 41 5 5 2,oS 4 4 2 41] .ret)))⟩
def Ajt:List (Nat × Nat):=[(13,6),(17,5),(22,6)]
theorem vY:AU c Ajt Tryz.f159 RV=true:=by kernel_rfl
def Vj:IFunc:=⟨1,13,[.cell 2 2 false],e [S 1 (.box 0 []),S 2 (.new [A6m false,A6n 0 []] [])] (e [oL 6 1 1 2,n 7 143 [6],V 5 7,oE 8 5 0,oE 9 5 1,V 3 8,V 4 9] (e [V 10 4,S 11 (.apd false (.c (.nil)) 10 1 35184372088832),S 12 (.call 152 [cb false,11]),oS 2 2 2 12] .ret))⟩
def Aju:List (Nat × Nat):=[]
theorem vZ:AU c Aju Tryz.f160 Vj=true:=by kernel_rfl
def Vk:IFunc:=⟨1,9,[.cell 2 2 false],e [S 1 (.box 0 [3,6]),S 2 (.new [A6m false,A6n 0 []] [])] (e [S 3 (.adr 1 1 0),S 4 (.ld 3 1 1 true),S 5 (.un .not 4),S 6 (.adr 1 1 1),S 7 (.ld 6 1 1 true),n 8 98 [5,7],oS 2 2 2 8] .ret)⟩
def Ajv:List (Nat × Nat):=[(3,1),(6,1)]
theorem wA:AU c Ajv Tryz.f161 Vk=true:=by kernel_rfl
def PK:ICode := .seq (e [V 10 4,oI 11 .gtr 10 0,V 12 11,h 13 (.adr 3 3 1) 12 true,h 14 (.ld 13 3 1 true) 12 true,h 15 (.len 14) 12 true,h 16 (.bin .eql 15 (ci 0)) 12 true,h 17 (.mov 16) 12 true,h 18 (.adr 3 3 1) 17 false,h 19 (.ld 18 3 1 true) 17 false,h 20 (.ixa 19 (ci 0) 1) 17 false,h 21 (.ld 20 20 1 true) 17 false,h 22 (.bin .and 21 (.c (A6l A5 1))) 17 false,h 23 (.bin .eql 22 (.c (A6l A5 0))) 17 false,h 24 (.pick 17 (cb true) 23) 12 true,S 25 (.pick 12 24 (cb false))] (.cond 25 .skip (.exit 0))) (.block 1 (rg [oL 26 3 3 2,S 27 (.call 128 [26,.c (A6l R 1)]),V 28 4,oI 29 .sub 28 1,oS 3 3 2 27,V 4 29]))
def Vl:IFunc:=⟨1,33,[.cell 2 3 false],e [S 1 (.box 0 [5,8]),S 2 (.new [A6m false,A6n 0 [],A6l R 0] [])] (.seq (.region true [S 5 (.adr 1 1 0),oL 6 5 1 2,n 7 97 [6],S 8 (.adr 1 1 2),S 9 (.ld 8 1 1 true),S 3 (.new [A6m false,A6n 0 []] [13,18]),oS 3 3 2 7,V 4 9]) (.seq (.block 0 (.loop PK)) (e [oL 30 3 3 2,V 31 4,S 32 (.bld [A6m false,A6n 0 [],A6l R 0] [(0,2,.t 30),(2,1,.t 31)]),oS 2 2 3 32] .ret)))⟩
def Ajw:List (Nat × Nat):=[(5,1),(8,1),(13,3),(18,3)]
theorem wB:AU c Ajw Tryz.f162 Vl=true:=by kernel_rfl
def KN:ICode := .seq (e [V 24 10,V 25 7,oB 26 .lss 24 25,V 27 26,h 28 (.mov 10) 27 true,h 29 (.mov 6) 27 true,h 30 (.len 29) 27 true,h 31 (.bin .lss 28 30) 27 true,S 32 (.pick 27 31 (cb false))] (.cond 32 .skip (.exit 0))) (.seq (.block 1 (rg [V 35 9,V 36 35,h 37 (.mov 6) 36 false,h 38 (.mov 10) 36 false,h 39 (.ixa 37 38 1) 36 false,h 40 (.ld 39 39 1 true) 36 false,h 41 (.bin .neq 40 (.c (A6l A5 0))) 36 false,S 42 (.pick 36 (cb true) 41),V 9 42])) (rg [V 33 10,oI 34 .add 33 1,V 10 34]))
def JN:ICode := .seq (e [V 44 12,V 45 6,S 46 (.len 45),oB 47 .lss 44 46] (.cond 47 .skip (.exit 2))) (.seq (.block 3 (e [V 50 6,V 51 12,oA 52 50 51 1,S 53 (.ld 52 52 1 true),S 54 (.cv .u64 53),V 13 54] (.seq (e [V 55 12,oI 56 .add 55 1,V 57 6,S 58 (.len 57),oB 59 .lss 56 58] (.cond 59 (rg [V 60 13,V 61 6,V 62 12,oI 63 .add 62 1,oA 64 61 63 1,S 65 (.ld 64 64 1 true),S 66 (.cv .u64 65),S 67 (.bin .shl 66 (.c (A6l U 32))),oB 68 .or 60 67,V 13 68]) .skip)) (rg [S 69 (.tra 11),V 70 13,V 71 8,oB 72 .shr 70 71,S 73 (.cv .u32 72),S 74 (.bls 1 [A6l A5 0] [(0,1,.t 73)]),S 75 (.apd true 69 74 1 35184372088832),S 11 (.tra 75)])))) (rg [V 48 12,oI 49 .add 48 1,V 12 49]))
def RW:IFunc:=⟨2,103,[.cell 4 2 false],e [S 2 (.box 0 []),S 4 (.new [A6m false,A6n 0 []] [])] (e [oL 15 2 2 2,n 16 143 [15],V 14 16,oE 17 14 0,oE 18 14 1,V 5 17,V 6 18] (e [V 19 1,oI 20 .quo 19 32,V 21 1,oI 22 .rem 21 32,S 23 (.cv .u64 22),V 7 20,V 8 23] (e [S 9 (.mov (cb false))] (.seq (e [S 10 (.mov (ci 0))] (.block 0 (.loop KN))) (e [S 11 (.nlo 1)] (.seq (e [V 43 7,V 12 43] (.block 2 (.loop JN))) (.seq (e [V 76 7,V 77 6,S 78 (.len 77),oB 79 .lss 76 78,V 80 79,h 81 (.mov 6) 80 true,h 82 (.mov 7) 80 true,h 83 (.ixa 81 82 1) 80 true,h 84 (.ld 83 83 1 true) 80 true,h 85 (.mov 8) 80 true,h 86 (.bin .shl (.c (A6l A5 1)) 85) 80 true,h 87 (.bin .sub 86 (.c (A6l A5 1))) 80 true,h 88 (.bin .and 84 87) 80 true,h 89 (.bin .neq 88 (.c (A6l A5 0))) 80 true,S 90 (.pick 80 89 (cb false))] (.cond 90 (rg [S 9 (.mov (cb true))]) .skip)) (.seq (e [V 91 5,V 92 91,h 93 (.mov 9) 92 true,S 94 (.pick 92 93 (cb false))] (.cond 94 (e [S 95 (.frz 11),n 96 184 [95],S 97 (.bls 1 [A6l A5 0] [(0,1,.c (A6l A5 1))]),n 98 178 [96,97],S 99 (.call 152 [cb true,98]),oS 4 4 2 99] .ret) .skip)) (e [V 100 5,S 101 (.frz 11),n 102 152 [100,101],oS 4 4 2 102] .ret)))))))))⟩
def Ajx:List (Nat × Nat):=[]
theorem wC:AU c Ajx Tryz.f163 RW=true:=by kernel_rfl
def QF:ICode := .seq (e [oL 15 6 6 2,n 16 79 [15],oI 17 .neq 16 0] (.cond 17 .skip (.exit 0))) (.block 1 (e [oL 19 5 5 2,oL 20 6 6 2,n 21 138 [19,20],V 18 21,oE 22 18 0,oE 23 18 1,S 7 (.new [A6m false,A6n 0 []] []),S 8 (.new [A6m false,A6n 0 []] []),oS 7 7 2 22,oS 8 8 2 23] (.region true [oL 24 6 6 2,oL 25 8 8 2,oS 5 5 2 24,oS 6 6 2 25])))
def Vm:IFunc:=⟨2,27,[.cell 4 2 false],e [S 2 (.box 0 [9]),S 3 (.box 1 [12]),S 4 (.new [A6m false,A6n 0 []] [])] (.seq (.region true [S 9 (.adr 2 2 1),S 10 (.ld 9 2 1 true),S 11 (.call 98 [cb false,10]),S 12 (.adr 3 3 1),S 13 (.ld 12 3 1 true),S 14 (.call 98 [cb false,13]),S 5 (.new [A6m false,A6n 0 []] []),S 6 (.new [A6m false,A6n 0 []] []),oS 5 5 2 11,oS 6 6 2 14]) (.seq (.block 0 (.loop QF)) (e [oL 26 5 5 2,oS 4 4 2 26] .ret)))⟩
def Ajy:List (Nat × Nat):=[(9,2),(12,3)]
theorem wD:AU c Ajy Tryz.f164 Vm=true:=by kernel_rfl
def QG:ICode := .seq (e [V 73 1,V 74 1,S 75 (.len 74),oI 76 .sub 75 1,oA 77 73 76 1,S 78 (.ld 77 77 1 true),V 79 9,S 80 (.cv .u64 79),oB 81 .shl 78 80,S 82 (.bin .and 81 (.c (A6l A5 2147483648))),S 83 (.bin .eql 82 (.c (A6l A5 0)))] (.cond 83 .skip (.exit 2))) (.block 3 (rg [V 84 9,oI 85 .add 84 1,V 9 85]))
def QH:ICode := .seq (e [V 39 8,oI 40 .geq 39 0] (.cond 40 .skip (.exit 0))) (.seq (.block 1 (e [V 43 7,S 44 (.bin .shl 43 (.c (A6l U 32))),V 45 0,V 46 8,oA 47 45 46 1,S 48 (.ld 47 47 1 true),S 49 (.cv .u64 48),oB 50 .or 44 49,V 7 50] (e [S 51 (.cpy 6),V 52 8,V 53 7,V 54 1,S 55 (.ixa 54 (ci 0) 1),S 56 (.ld 55 55 1 true),S 57 (.cv .u64 56),oB 58 .quo 53 57,S 59 (.cv .u32 58),S 60 (.ixo 51 6 52 1),oS 60 6 1 59] (rg [V 61 7,V 62 1,S 63 (.ixa 62 (ci 0) 1),S 64 (.ld 63 63 1 true),S 65 (.cv .u64 64),oB 66 .rem 61 65,V 7 66])))) (rg [V 41 8,oI 42 .sub 41 1,V 8 42]))
def QI:ICode := .seq (e [V 256 24,V 257 12,oB 258 .lss 256 257] (.cond 258 .skip (.exit 10))) (.seq (.block 11 (.seq (.region true [V 261 23,S 262 (.cpy 11),V 263 24,V 264 14,oB 265 .add 263 264,S 266 (.ixo 262 11 265 1),S 267 (.ld 266 11 1 true),S 268 (.cv .u64 267),V 269 10,V 270 24,oA 271 269 270 1,S 272 (.ld 271 271 1 true),S 273 (.cv .u64 272),oB 274 .add 268 273,oB 275 .add 261 274,V 23 275]) (e [S 276 (.cpy 11),V 277 24,V 278 14,oB 279 .add 277 278,V 280 23,S 281 (.cv .u32 280),S 282 (.ixo 276 11 279 1),oS 282 11 1 281] (rg [V 283 23,S 284 (.bin .shr 283 (.c (A6l U 32))),V 23 284])))) (rg [V 259 24,oI 260 .add 259 1,V 24 260]))
def O8:ICode := .seq (e [V 196 20,V 197 12,oB 198 .lss 196 197] (.cond 198 .skip (.exit 8))) (.seq (.block 9 (e [V 201 19,V 202 16,V 203 10,V 204 20,oA 205 203 204 1,S 206 (.ld 205 205 1 true),S 207 (.cv .u64 206),oB 208 .mul 202 207,oB 209 .add 201 208,V 19 209] (e [S 210 (.cpy 11),V 211 20,V 212 14,oB 213 .add 211 212,S 214 (.ixo 210 11 213 1),S 215 (.ld 214 11 1 true),S 216 (.cv .u64 215),V 217 19,S 218 (.bin .and 217 (.c (A6l U 4294967295))),oB 219 .sub 216 218,V 220 18,oB 221 .sub 219 220,V 21 221] (e [S 222 (.cpy 11),V 223 20,V 224 14,oB 225 .add 223 224,V 226 21,S 227 (.cv .u32 226),S 228 (.ixo 222 11 225 1),oS 228 11 1 227] (e [V 229 21,S 230 (.bin .shr 229 (.c (A6l U 63))),V 18 230] (rg [V 231 19,S 232 (.bin .shr 231 (.c (A6l U 32))),V 19 232])))))) (rg [V 199 20,oI 200 .add 199 1,V 20 200]))
def HC:ICode := .seq (.seq (.region true [V 156 16,S 157 (.bin .geq 156 (.c (A6l U 4294967296))),V 158 157,h 159 (.mov 17) 158 false,h 160 (.bin .lss 159 (.c (A6l U 4294967296))) 158 false,h 161 (.mov 160) 158 false,h 162 (.mov 16) 161 true,h 163 (.mov 10) 161 true,h 164 (.mov 12) 161 true,h 165 (.bin .sub 164 (ci 2)) 161 true,h 166 (.ixa 163 165 1) 161 true,h 167 (.ld 166 166 1 true) 161 true,h 168 (.cv .u64 167) 161 true,h 169 (.bin .mul 162 168) 161 true,h 170 (.mov 17) 161 true,h 171 (.bin .shl 170 (.c (A6l U 32))) 161 true,h 172 (.cpy 11) 161 true,h 173 (.mov 14) 161 true,h 174 (.mov 12) 161 true,h 175 (.bin .add 173 174) 161 true,h 176 (.bin .sub 175 (ci 2)) 161 true,h 177 (.ixo 172 11 176 1) 161 true,h 178 (.ld 177 11 1 true) 161 true,h 179 (.cv .u64 178) 161 true,h 180 (.bin .or 171 179) 161 true,h 181 (.bin .gtr 169 180) 161 true,h 182 (.pick 161 181 (cb false)) 158 false,S 183 (.pick 158 (cb true) 182)]) (.cond 183 .skip (.exit 6))) (.block 7 (e [V 184 16,S 185 (.bin .sub 184 (.c (A6l U 1))),V 16 185] (e [V 186 17,V 187 10,V 188 12,oI 189 .sub 188 1,oA 190 187 189 1,S 191 (.ld 190 190 1 true),S 192 (.cv .u64 191),oB 193 .add 186 192,V 17 193] (e [V 194 17,S 195 (.bin .geq 194 (.c (A6l U 4294967296)))] (.cond 195 (.exit 6) .skip)))))
def NG:ICode := .seq (e [V 119 14,oI 120 .geq 119 0] (.cond 120 .skip (.exit 4))) (.seq (.block 5 (.seq (.region true [S 123 (.cpy 11),V 124 14,V 125 12,oB 126 .add 124 125,S 127 (.ixo 123 11 126 1),S 128 (.ld 127 11 1 true),S 129 (.cv .u64 128),S 130 (.bin .shl 129 (.c (A6l U 32))),S 131 (.cpy 11),V 132 14,V 133 12,oB 134 .add 132 133,oI 135 .sub 134 1,S 136 (.ixo 131 11 135 1),S 137 (.ld 136 11 1 true),S 138 (.cv .u64 137),oB 139 .or 130 138,V 15 139]) (.seq (.region true [V 140 15,V 141 10,V 142 12,oI 143 .sub 142 1,oA 144 141 143 1,S 145 (.ld 144 144 1 true),S 146 (.cv .u64 145),oB 147 .quo 140 146,V 148 15,V 149 10,V 150 12,oI 151 .sub 150 1,oA 152 149 151 1,S 153 (.ld 152 152 1 true),S 154 (.cv .u64 153),oB 155 .rem 148 154,V 16 147,V 17 155]) (.seq (.block 6 (.loop HC)) (e [S 18 (.mov (.c (A6l U 0))),S 19 (.mov (.c (A6l U 0)))] (.seq (e [S 20 (.mov (ci 0))] (.block 8 (.loop O8))) (e [S 233 (.cpy 11),V 234 14,V 235 12,oB 236 .add 234 235,S 237 (.ixo 233 11 236 1),S 238 (.ld 237 11 1 true),S 239 (.cv .u64 238),V 240 19,oB 241 .sub 239 240,V 242 18,oB 243 .sub 241 242,V 22 243] (e [S 244 (.cpy 11),V 245 14,V 246 12,oB 247 .add 245 246,V 248 22,S 249 (.cv .u32 248),S 250 (.ixo 244 11 247 1),oS 250 11 1 249] (.seq (e [V 251 22,S 252 (.bin .shr 251 (.c (A6l U 63))),S 253 (.bin .neq 252 (.c (A6l U 0)))] (.cond 253 (e [V 254 16,S 255 (.bin .sub 254 (.c (A6l U 1))),V 16 255] (e [S 23 (.mov (.c (A6l U 0)))] (.seq (e [S 24 (.mov (ci 0))] (.block 10 (.loop QI))) (rg [S 285 (.cpy 11),V 286 14,V 287 12,oB 288 .add 286 287,S 289 (.ixo 285 11 288 1),S 290 (.ld 289 11 1 true),V 291 23,S 292 (.cv .u32 291),oB 293 .add 290 292,S 294 (.ixo 285 11 288 1),oS 294 11 1 293])))) .skip)) (rg [S 295 (.cpy 13),V 296 14,V 297 16,S 298 (.cv .u32 297),S 299 (.ixo 295 13 296 1),oS 299 13 1 298])))))))))) (rg [V 121 14,oI 122 .sub 121 1,V 14 122]))
def PL:IFunc:=⟨2,307,[.tmp 4,.tmp 5],e [S 4 (.nlo 1),S 5 (.nlo 1)] (.seq (e [V 25 0,V 26 1,n 27 134 [25,26],oI 28 .lss 27 0] (.cond 28 (e [V 29 0,S 4 (.nlo 1),S 5 (.tra 29)] .ret) .skip)) (.seq (e [V 30 1,S 31 (.len 30),oI 32 .eql 31 1] (.cond 32 (e [V 33 0,S 34 (.len 33),S 35 (.mks [A6l A5 0] 34),⟨some 6,.tra 35,none,[51,60]⟩] (e [S 7 (.mov (.c (A6l U 0)))] (.seq (e [V 36 0,S 37 (.len 36),oI 38 .sub 37 1,V 8 38] (.block 0 (.loop QH))) (e [S 67 (.frz 6),S 68 (.clo 99 [67]),V 69 7,S 70 (.cv .u32 69),S 71 (.bls 1 [A6l A5 0] [(0,1,.t 70)]),S 72 (.clo 99 [71]),S 4 (.tra 68),S 5 (.tra 72)] .ret)))) .skip)) (e [S 9 (.mov (ci 0))] (.seq (.block 2 (.loop QG)) (e [V 86 1,S 87 (.bld [A6m false,A6n 0 []] [(1,1,.t 86)]),V 88 9,n 89 84 [87,88],S 90 (.fld 89 1 1 true),V 10 90] (e [V 91 0,S 92 (.bld [A6m false,A6n 0 []] [(1,1,.t 91)]),V 93 9,S 94 (.cln 84 [92,93] []),S 95 (.fdo 94),S 96 (.bls 2 [A6l A5 0,A6l A5 0] [(0,1,.c (A6l A5 0)),(1,1,.c (A6l A5 0))]),S 97 (.apd true 95 96 1 35184372088832),⟨some 11,.tra 97,none,[109,114,123,127,131,136,172,177,210,214,222,228,233,237,244,250,262,266,276,282,285,289,294]⟩] (e [S 98 (.tra 11),V 99 0,S 100 (.len 99),oI 101 .add 100 1,V 102 1,S 103 (.len 102),oI 104 .add 103 1,S 105 (.mx [101,104]),S 106 (.slo 98 105 1),⟨some 11,.tra 106,none,[109,114,123,127,131,136,172,177,210,214,222,228,233,237,244,250,262,266,276,282,285,289,294]⟩] (e [V 107 10,S 108 (.len 107),V 12 108] (e [S 109 (.cpy 11),S 110 (.lno 109 11),V 111 12,oB 112 .sub 110 111,S 113 (.mks [A6l A5 0] 112),⟨some 13,.tra 113,none,[295,299]⟩] (.seq (e [S 114 (.cpy 11),S 115 (.lno 114 11),V 116 12,oB 117 .sub 115 116,oI 118 .sub 117 1,V 14 118] (.block 4 (.loop NG))) (e [S 300 (.frz 13),S 301 (.clo 99 [300]),S 302 (.frz 11),S 303 (.bld [A6m false,A6n 0 []] [(1,1,.t 302)]),V 304 9,n 305 128 [303,304],S 306 (.fld 305 1 1 true),S 4 (.tra 301),S 5 (.tra 306)] .ret)))))))))))⟩
def Ajz:List (Nat × Nat):=[(51,6),(60,6),(109,11),(114,11),(123,11),(127,11),(131,11),(136,11),(172,11),(177,11),(210,11),(214,11),(222,11),(228,11),(233,11),(237,11),(244,11),(250,11),(262,11),(266,11),(276,11),(282,11),(285,11),(289,11),(294,11),(295,13),(299,13)]
theorem wE:AU c Ajz Tryz.f165 PL=true:=by kernel_rfl
def Vn:IFunc:=⟨1,12,[.tmp 2],e [S 1 (.box 0 []),S 2 (.mov (ci 0))] (e [oL 6 1 1 2,n 7 143 [6],V 5 7,oE 8 5 0,oE 9 5 1,V 3 8,V 4 9] (e [V 10 4,S 11 (.len 10),V 2 11] .ret))⟩
def Aka:List (Nat × Nat):=[]
theorem wF:AU c Aka Tryz.f177 Vn=true:=by kernel_rfl
def NH:ICode:=e [oB 23 .lss 22 21] (.seq (.cond 23 .skip (.exit 0)) (.seq (.block 1 (e [V 24 22,V 7 24] (e [V 25 0,V 26 7,oA 27 25 26 1,S 28 (.ld 27 27 1 true),S 29 (.cv .u64 28),V 30 6,oB 31 .add 29 30,V 8 31] (.seq (e [V 32 7,V 33 1,S 34 (.len 33),oB 35 .lss 32 34] (.cond 35 (rg [V 36 8,V 37 1,V 38 7,oA 39 37 38 1,S 40 (.ld 39 39 1 true),S 41 (.cv .u64 40),oB 42 .add 36 41,V 8 42]) .skip)) (rg [S 43 (.cpy 5),V 44 7,V 45 8,S 46 (.cv .u32 45),V 47 8,S 48 (.bin .shr 47 (.c (A6l U 32))),S 49 (.ixo 43 5 44 1),oS 49 5 1 46,V 6 48]))))) (rg [oI 50 .add 22 1,V 22 50])))
def RX:IFunc:=⟨2,58,[.tmp 4],e [S 4 (.nlo 1)] (.seq (e [V 9 0,S 10 (.len 9),V 11 1,S 12 (.len 11),oB 13 .lss 10 12] (.cond 13 (rg [V 14 1,V 15 0,V 0 14,V 1 15]) .skip)) (e [V 16 0,S 17 (.len 16),oI 18 .add 17 1,S 19 (.mks [A6l A5 0] 18),⟨some 5,.tra 19,none,[43,49,51,56]⟩] (e [S 6 (.mov (.c (A6l U 0)))] (.seq (e [V 20 0,S 21 (.len 20),S 22 (.mov (ci 0))] (.block 0 (.loop NH))) (e [S 51 (.cpy 5),V 52 0,S 53 (.len 52),V 54 6,S 55 (.cv .u32 54),S 56 (.ixo 51 5 53 1),oS 56 5 1 55] (e [S 57 (.tra 5),S 4 (.tra 57)] .ret))))))⟩
def Akb:List (Nat × Nat):=[(43,5),(49,5),(51,5),(56,5)]
theorem wG:AU c Akb Tryz.f178 RX=true:=by kernel_rfl
def RY:ICode:=e [oB 15 .lss 14 13] (.seq (.cond 15 .skip (.exit 0)) (.seq (.block 1 (e [V 16 14,V 7 16] (e [V 17 0,V 18 7,oA 19 17 18 1,S 20 (.ld 19 19 1 true),S 21 (.cv .u64 20),V 22 6,oB 23 .sub 21 22,V 8 23] (.seq (e [V 24 7,V 25 1,S 26 (.len 25),oB 27 .lss 24 26] (.cond 27 (rg [V 28 8,V 29 1,V 30 7,oA 31 29 30 1,S 32 (.ld 31 31 1 true),S 33 (.cv .u64 32),oB 34 .sub 28 33,V 8 34]) .skip)) (rg [S 35 (.cpy 5),V 36 7,V 37 8,S 38 (.cv .u32 37),V 39 8,S 40 (.bin .shr 39 (.c (A6l U 63))),S 41 (.ixo 35 5 36 1),oS 41 5 1 38,V 6 40]))))) (rg [oI 42 .add 14 1,V 14 42])))
def Vo:IFunc:=⟨2,44,[.tmp 4],e [S 4 (.nlo 1)] (e [V 9 0,S 10 (.len 9),S 11 (.mks [A6l A5 0] 10),⟨some 5,.tra 11,none,[35,41]⟩] (e [S 6 (.mov (.c (A6l U 0)))] (.seq (e [V 12 0,S 13 (.len 12),S 14 (.mov (ci 0))] (.block 0 (.loop RY))) (e [S 43 (.tra 5),S 4 (.tra 43)] .ret))))⟩
def Akc:List (Nat × Nat):=[(35,5),(41,5)]
theorem wH:AU c Akc Tryz.f179 Vo=true:=by kernel_rfl
def QJ:ICode := .seq (e [V 202 26,V 203 11,oB 204 .lss 202 203] (.cond 204 .skip (.exit 6))) (.seq (.block 7 (.seq (.region true [S 207 (.cpy 9),V 208 26,V 209 15,oB 210 .add 208 209,S 211 (.ixo 207 9 210 1),S 212 (.ld 211 9 1 true),S 213 (.cv .u64 212),V 214 10,V 215 26,oA 216 214 215 1,S 217 (.ld 216 216 1 true),S 218 (.cv .u64 217),oB 219 .add 213 218,V 220 25,oB 221 .add 219 220,V 27 221]) (rg [S 222 (.cpy 9),V 223 26,V 224 15,oB 225 .add 223 224,V 226 27,S 227 (.cv .u32 226),V 228 27,S 229 (.bin .shr 228 (.c (A6l U 32))),S 230 (.ixo 222 9 225 1),oS 230 9 1 227,V 25 229]))) (rg [V 205 26,oI 206 .add 205 1,V 26 206]))
def Mu:ICode := .seq (e [V 248 28,V 249 11,oB 250 .lss 248 249] (.cond 250 .skip (.exit 8))) (.seq (.block 9 (e [S 253 (.cpy 5),V 254 28,S 255 (.cpy 9),V 256 28,S 257 (.ixo 255 9 256 1),S 258 (.ld 257 9 1 true),V 259 8,S 260 (.cv .u64 259),oB 261 .shr 258 260,S 262 (.ixo 253 5 254 1),oS 262 5 1 261] (e [V 263 8,oI 264 .gtr 263 0] (.cond 264 (.region true [S 265 (.cpy 5),V 266 28,S 267 (.ixo 265 5 266 1),S 268 (.ld 267 5 1 true),S 269 (.cpy 9),V 270 28,oI 271 .add 270 1,S 272 (.ixo 269 9 271 1),S 273 (.ld 272 9 1 true),V 274 8,S 275 (.bin .sub (ci 32) 274),S 276 (.cv .u64 275),oB 277 .shl 273 276,oB 278 .or 268 277,S 279 (.ixo 265 5 266 1),oS 279 5 1 278]) .skip)))) (rg [V 251 28,oI 252 .add 251 1,V 28 252]))
def O9:ICode := .seq (e [V 141 21,V 142 11,oB 143 .lss 141 142] (.cond 143 .skip (.exit 4))) (.seq (.block 5 (e [V 146 17,V 147 10,V 148 21,oA 149 147 148 1,S 150 (.ld 149 149 1 true),S 151 (.cv .u64 150),oB 152 .mul 146 151,V 153 20,oB 154 .add 152 153,V 22 154] (e [V 155 22,S 156 (.bin .shr 155 (.c (A6l U 32))),V 20 156] (e [S 157 (.cpy 9),V 158 21,V 159 15,oB 160 .add 158 159,S 161 (.ixo 157 9 160 1),S 162 (.ld 161 9 1 true),S 163 (.cv .u64 162),V 164 22,S 165 (.cv .u32 164),S 166 (.cv .u64 165),oB 167 .sub 163 166,V 168 19,oB 169 .sub 167 168,V 23 169] (rg [S 170 (.cpy 9),V 171 21,V 172 15,oB 173 .add 171 172,V 174 23,S 175 (.cv .u32 174),V 176 23,S 177 (.bin .shr 176 (.c (A6l U 63))),S 178 (.ixo 170 9 173 1),oS 178 9 1 175,V 19 177]))))) (rg [V 144 21,oI 145 .add 144 1,V 21 145]))
def HD:ICode := .seq (e [V 115 17,S 116 (.bin .geq 115 (.c (A6l U 4294967296))),V 117 116,h 118 (.mov 17) 117 false,h 119 (.mov 14) 117 false,h 120 (.bin .mul 118 119) 117 false,h 121 (.mov 18) 117 false,h 122 (.bin .shl 121 (.c (A6l U 32))) 117 false,h 123 (.cpy 9) 117 false,h 124 (.mov 15) 117 false,h 125 (.mov 11) 117 false,h 126 (.bin .add 124 125) 117 false,h 127 (.bin .sub 126 (ci 2)) 117 false,h 128 (.ixo 123 9 127 1) 117 false,h 129 (.ld 128 9 1 true) 117 false,h 130 (.cv .u64 129) 117 false,h 131 (.bin .or 122 130) 117 false,h 132 (.bin .gtr 120 131) 117 false,S 133 (.pick 117 (cb true) 132)] (.cond 133 .skip (.exit 2))) (.block 3 (e [V 134 17,S 135 (.bin .sub 134 (.c (A6l U 1))),V 17 135] (e [V 136 18,V 137 13,oB 138 .add 136 137,V 18 138] (e [V 139 18,S 140 (.bin .geq 139 (.c (A6l U 4294967296)))] (.cond 140 (.exit 2) .skip)))))
def Mv:ICode := .seq (e [V 88 15,oI 89 .geq 88 0] (.cond 89 .skip (.exit 0))) (.seq (.block 1 (.seq (.region true [S 92 (.cpy 9),V 93 15,V 94 11,oB 95 .add 93 94,S 96 (.ixo 92 9 95 1),S 97 (.ld 96 9 1 true),S 98 (.cv .u64 97),S 99 (.bin .shl 98 (.c (A6l U 32))),S 100 (.cpy 9),V 101 15,V 102 11,oB 103 .add 101 102,oI 104 .sub 103 1,S 105 (.ixo 100 9 104 1),S 106 (.ld 105 9 1 true),S 107 (.cv .u64 106),oB 108 .or 99 107,V 16 108]) (.seq (.region true [V 109 16,V 110 13,oB 111 .quo 109 110,V 112 16,V 113 13,oB 114 .rem 112 113,V 17 111,V 18 114]) (.seq (.block 2 (.loop HD)) (e [S 19 (.mov (.c (A6l U 0))),S 20 (.mov (.c (A6l U 0)))] (.seq (e [S 21 (.mov (ci 0))] (.block 4 (.loop O9))) (e [S 179 (.cpy 9),V 180 15,V 181 11,oB 182 .add 180 181,S 183 (.ixo 179 9 182 1),S 184 (.ld 183 9 1 true),S 185 (.cv .u64 184),V 186 20,oB 187 .sub 185 186,V 188 19,oB 189 .sub 187 188,V 24 189] (e [S 190 (.cpy 9),V 191 15,V 192 11,oB 193 .add 191 192,V 194 24,S 195 (.cv .u32 194),S 196 (.ixo 190 9 193 1),oS 196 9 1 195] (.seq (e [V 197 24,S 198 (.bin .shr 197 (.c (A6l U 63))),S 199 (.bin .neq 198 (.c (A6l U 0)))] (.cond 199 (e [V 200 17,S 201 (.bin .sub 200 (.c (A6l U 1))),V 17 201] (e [S 25 (.mov (.c (A6l U 0)))] (.seq (e [S 26 (.mov (ci 0))] (.block 6 (.loop QJ))) (rg [S 231 (.cpy 9),V 232 15,V 233 11,oB 234 .add 232 233,S 235 (.ixo 231 9 234 1),S 236 (.ld 235 9 1 true),V 237 25,S 238 (.cv .u32 237),oB 239 .add 236 238,S 240 (.ixo 231 9 234 1),oS 240 9 1 239])))) .skip)) (rg [S 241 (.cpy 4),V 242 15,V 243 17,S 244 (.cv .u32 243),S 245 (.ixo 241 4 242 1),oS 245 4 1 244])))))))))) (rg [V 90 15,oI 91 .sub 90 1,V 15 91]))
def PM:IFunc:=⟨2,282,[.tmp 4,.tmp 5],e [⟨some 4,.nlo 1,none,[241,245]⟩,⟨some 5,.nlo 1,none,[253,262,265,267,279]⟩] (.seq (e [V 29 0,V 30 1,n 31 151 [29,30],oI 32 .lss 31 0] (.cond 32 (e [V 33 0,S 34 (.apd true (.c (.nil)) 33 1 35184372088832),⟨some 4,.nlo 1,none,[241,245]⟩,⟨some 5,.tra 34,none,[253,262,265,267,279]⟩] .ret) .skip)) (.seq (e [V 35 1,S 36 (.len 35),oI 37 .eql 36 1] (.cond 37 (e [V 39 0,V 40 1,S 41 (.ixa 40 (ci 0) 1),S 42 (.ld 41 41 1 true),n 43 187 [39,42],V 38 43,oE 44 38 0,oE 45 38 1,V 6 44,V 7 45] (e [V 46 6,V 47 7,S 48 (.blo 1 1 [A6l A5 0] [(0,1,.t 47)]),⟨some 4,.tra 46,none,[241,245]⟩,⟨some 5,.tra 48,none,[253,262,265,267,279]⟩] .ret)) .skip)) (e [V 49 1,V 50 1,S 51 (.len 50),oI 52 .sub 51 1,oA 53 49 52 1,S 54 (.ld 53 53 1 true),n 55 188 [54],V 8 55] (.seq (.region true [V 56 0,V 57 8,S 58 (.clo 189 [56,57]),V 59 1,V 60 8,n 61 189 [59,60],V 62 1,S 63 (.len 62),S 64 (.sli 61 none (some 63) none 1),⟨some 9,.tra 58,none,[92,96,100,105,123,128,157,161,170,178,179,183,190,196,207,211,222,230,231,235,240,255,257,269,272]⟩,V 10 64]) (e [V 65 1,S 66 (.len 65),V 67 0,S 68 (.len 67),V 69 1,S 70 (.len 69),oB 71 .sub 68 70,V 11 66,V 12 71] (e [V 72 12,oI 73 .add 72 1,S 74 (.mks [A6l A5 0] 73),⟨some 4,.tra 74,none,[241,245]⟩] (.seq (.region true [V 75 10,V 76 11,oI 77 .sub 76 1,oA 78 75 77 1,S 79 (.ld 78 78 1 true),S 80 (.cv .u64 79),V 81 10,V 82 11,oI 83 .sub 82 2,oA 84 81 83 1,S 85 (.ld 84 84 1 true),S 86 (.cv .u64 85),V 13 80,V 14 86]) (.seq (e [V 87 12,V 15 87] (.block 0 (.loop Mv))) (e [V 246 11,S 247 (.mks [A6l A5 0] 246),⟨some 5,.tra 247,none,[253,262,265,267,279]⟩] (.seq (e [S 28 (.mov (ci 0))] (.block 8 (.loop Mu))) (e [S 280 (.tra 4),S 281 (.tra 5),⟨some 4,.tra 280,none,[241,245]⟩,⟨some 5,.tra 281,none,[253,262,265,267,279]⟩] .ret)))))))))))⟩
def Akd:List (Nat × Nat):=[(92,9),(96,9),(100,9),(105,9),(123,9),(128,9),(157,9),(161,9),(170,9),(178,9),(179,9),(183,9),(190,9),(196,9),(207,9),(211,9),(222,9),(230,9),(231,9),(235,9),(240,9),(241,4),(245,4),(253,5),(255,9),(257,9),(262,5),(265,5),(267,5),(269,9),(272,9),(279,5)]
theorem wI:AU c Akd Tryz.f180 PM=true:=by kernel_rfl
def Vp:IFunc:=⟨1,10,[.cell 2 2 false],e [S 2 (.new [A6m false,A6n 0 []] [])] (e [V 3 0,S 4 (.cv .u32 3),V 5 0,S 6 (.bin .shr 5 (.c (A6l U 32))),S 7 (.cv .u32 6),S 8 (.bls 2 [A6l A5 0,A6l A5 0] [(0,1,.t 4),(1,1,.t 7)]),S 9 (.call 152 [cb false,8]),oS 2 2 2 9] .ret)⟩
def Ake:List (Nat × Nat):=[]
theorem wJ:AU c Ake Tryz.f181 Vp=true:=by kernel_rfl
def Vq:ICode := .seq (e [V 5 1,S 6 (.bin .gtr 5 (.c (A6l U 0)))] (.cond 6 .skip (.exit 0))) (.block 1 (.region true [V 7 1,V 8 0,V 9 1,oB 10 .rem 8 9,V 0 7,V 1 10]))
def Vr:IFunc:=⟨2,12,[.tmp 4],e [S 4 (.mov (.c (A6l U 0)))] (.seq (.block 0 (.loop Vq)) (e [V 11 0,V 4 11] .ret))⟩
def Akf:List (Nat × Nat):=[]
theorem wK:AU c Akf Tryz.f182 Vr=true:=by kernel_rfl
def Vs:ICode:=e [oB 10 .lss 9 8] (.seq (.cond 10 .skip (.exit 0)) (.seq (.block 1 (e [V 11 9,oA 12 7 9 1,S 13 (.ld 12 12 1 true),V 4 11,V 5 13] (rg [V 14 3,V 15 5,S 16 (.cv .u64 15),V 17 4,S 18 (.bin .mul (ci 32) 17),S 19 (.cv .u64 18),oB 20 .shl 16 19,oB 21 .or 14 20,V 3 21]))) (rg [oI 22 .add 9 1,V 9 22])))
def Vt:IFunc:=⟨1,24,[.tmp 2],e [S 1 (.box 0 [6]),S 2 (.mov (.c (A6l U 0)))] (e [S 3 (.mov (.c (A6l U 0)))] (.seq (e [S 6 (.adr 1 1 1),S 7 (.ld 6 1 1 true),S 8 (.len 7),S 9 (.mov (ci 0))] (.block 0 (.loop Vs))) (e [V 23 3,V 2 23] .ret)))⟩
def Akg:List (Nat × Nat):=[(6,1)]
theorem wL:AU c Akg Tryz.f183 Vt=true:=by kernel_rfl
def YX:IFunc:=⟨1,21,[.tmp 2],e [S 2 (.nlo 1)] (e [V 4 0,S 5 (.len 4),V 3 5] (.seq (.block 0 (.loop (.seq (e [V 6 3,oI 7 .gtr 6 0,V 8 7,h 9 (.mov 0) 8 true,h 10 (.mov 3) 8 true,h 11 (.bin .sub 10 (ci 1)) 8 true,h 12 (.ixa 9 11 1) 8 true,h 13 (.ld 12 12 1 true) 8 true,h 14 (.bin .eql 13 (.c (A6l A5 0))) 8 true,S 15 (.pick 8 14 (cb false))] (.cond 15 .skip (.exit 0))) (.block 1 (rg [V 16 3,oI 17 .sub 16 1,V 3 17]))))) (e [V 18 0,V 19 3,S 20 (.sli 18 none (some 19) none 1),S 2 (.tra 20)] .ret)))⟩
def Akh:List (Nat × Nat):=[]
theorem wM:AU c Akh Tryz.f184 YX=true:=by kernel_rfl
def Vu:ICode := .seq (e [V 16 8,oI 17 .geq 16 0] (.cond 17 .skip (.exit 0))) (.seq (.block 1 (e [V 20 7,S 21 (.bin .shl 20 (.c (A6l U 32))),V 22 0,V 23 8,oA 24 22 23 1,S 25 (.ld 24 24 1 true),S 26 (.cv .u64 25),oB 27 .or 21 26,V 9 27] (.region true [S 28 (.cpy 6),V 29 8,V 30 9,V 31 1,S 32 (.cv .u64 31),oB 33 .quo 30 32,S 34 (.cv .u32 33),V 35 9,V 36 1,S 37 (.cv .u64 36),oB 38 .rem 35 37,S 39 (.ixo 28 6 29 1),oS 39 6 1 34,V 7 38]))) (rg [V 18 8,oI 19 .sub 18 1,V 8 19]))
def Vv:IFunc:=⟨2,43,[.tmp 4,.tmp 5],e [S 4 (.nlo 1),S 5 (.mov (.c (A6l A5 0)))] (e [V 10 0,S 11 (.len 10),S 12 (.mks [A6l A5 0] 11),⟨some 6,.tra 12,none,[28,39]⟩] (e [S 7 (.mov (.c (A6l U 0)))] (.seq (e [V 13 0,S 14 (.len 13),oI 15 .sub 14 1,V 8 15] (.block 0 (.loop Vu))) (e [S 40 (.tra 6),V 41 7,S 42 (.cv .u32 41),S 4 (.tra 40),V 5 42] .ret))))⟩
def Aki:List (Nat × Nat):=[(28,6),(39,6)]
theorem wN:AU c Aki Tryz.f187 Vv=true:=by kernel_rfl
def Vw:IFunc:=⟨1,6,[.tmp 2],e [S 2 (.mov (ci 0))] (e [V 3 0,n 4 150 [3],S 5 (.bin .sub (ci 32) 4),V 2 5] .ret)⟩
def Akj:List (Nat × Nat):=[]
theorem wO:AU c Akj Tryz.f188 Vw=true:=by kernel_rfl
def Vx:ICode:=e [oB 16 .lss 15 14] (.seq (.cond 16 .skip (.exit 0)) (.seq (.block 1 (e [V 17 15,oA 18 13 15 1,S 19 (.ld 18 18 1 true),V 6 17,V 7 19] (e [V 20 7,S 21 (.cv .u64 20),V 22 1,S 23 (.cv .u64 22),oB 24 .shl 21 23,V 8 24] (e [S 25 (.cpy 5),V 26 6,S 27 (.ixo 25 5 26 1),S 28 (.ld 27 5 1 true),V 29 8,S 30 (.cv .u32 29),oB 31 .or 28 30,S 32 (.ixo 25 5 26 1),oS 32 5 1 31] (rg [S 33 (.cpy 5),V 34 6,oI 35 .add 34 1,V 36 8,S 37 (.bin .shr 36 (.c (A6l U 32))),S 38 (.cv .u32 37),S 39 (.ixo 33 5 35 1),oS 39 5 1 38]))))) (rg [oI 40 .add 15 1,V 15 40])))
def Vy:IFunc:=⟨2,42,[.tmp 4],e [S 4 (.nlo 1)] (e [V 9 0,S 10 (.len 9),oI 11 .add 10 1,S 12 (.mks [A6l A5 0] 11),⟨some 5,.tra 12,none,[25,27,32,33,39]⟩] (.seq (e [V 13 0,S 14 (.len 13),S 15 (.mov (ci 0))] (.block 0 (.loop Vx))) (e [S 41 (.tra 5),S 4 (.tra 41)] .ret)))⟩
def Akk:List (Nat × Nat):=[(25,5),(27,5),(32,5),(33,5),(39,5)]
theorem wP:AU c Akk Tryz.f189 Vy=true:=by kernel_rfl
end Go.Proofs.YtajompaehjkgkaaGreat
namespace Go.Ai
open Go.RowKit
open List renaming all_eq_true->BQ,getD_eq_getElem?_getD->Z,getElem?_map->C7
open Nat renaming le_refl->An,zero_add->Ch
open Option renaming getD_some->G6,map_eq_some_iff->Ah,map_some->A4
open Option.some renaming injEq->Ay
open Prod.mk renaming injEq->Dq
def GF(s s':Ak):Prop:=s.length=s'.length/\∀ t,A2 s t = .dead\/A2 s t=A2 s' t
theorem GF.refl(s:Ak):GF s s:=⟨rfl,fun _ => .inr rfl⟩
theorem GF.trans{a b c:Ak}(h:GF a b)(k:GF b c):GF a c:=by
 refine⟨h.1.trans k.1,fun t => ?_⟩;rcases h.2 t with h1 | h1
 ·exact .inl h1
 ·rcases k.2 t with k1 | k1
  ·exact .inl (h1.trans k1)
  ·exact .inr (h1.trans k1)
theorem GF.get{s s':Ak}(h:GF s s'){t:Nat}{r:Reg}(hr:A2 s t=r)(hd:r ≠ .dead):A2 s' t=r:=by
 rcases h.2 t with h1 | h1
 ·exact absurd (hr.symm.trans h1) hd
 ·rw[<- h1,hr]
theorem GF.av{s s':Ak}(h:GF s s'){o:Opd}{x:AV}(hx:o.av s=some x):o.av s'=some x:=by
 cases o with
 | c y=>exact hx
 | t n =>
  simp only[Opd.av,Opd.reg] at hx |-;split at hx
  ·rename_i y hy;cases hx;rw[h.get hy (by nofun)]
  ·cases hx
theorem GF.avs{s s':Ak}(h:GF s s'):∀ {l:List Opd} {xs:List AV},avs s l=some xs->avs s' l=some xs
 | [],xs,hx=>hx
 | o::l,xs,hx=>by
  simp only[Go.Ai.avs] at hx |-;cases h1:o.av s with
  | none=>rw[h1] at hx;cases hx
  | some x =>
   rw[h1] at hx;rw[h.av h1];cases h2:Go.Ai.avs s l with
   | none=>rw[h2] at hx;cases hx
   | some ys =>
    rw[h2] at hx;rw[h.avs h2];exact hx
theorem GF.fill{s s':Ak}(h:GF s s'):∀ {ps:List (Nat × Nat × Opd)} {cs cs':List AV},FL s cs ps=some cs'->FL s' cs ps=some cs'
 | [],_,_,hx=>hx
 | (off,n,o)::ps,cs,cs',hx=>by
  simp only[FL] at hx |-;cases h1:o.av s with
  | none=>rw[h1] at hx;cases hx
  | some x =>
   rw[h1] at hx;rw[h.av h1];dsimp only at hx |-;cases h2:Gf x n with
   | none=>rw[h2] at hx;cases hx
   | some ys =>
    rw[h2] at hx;dsimp only at hx |-;cases h3:Cu cs off ys with
    | none=>rw[h3] at hx;cases hx
    | some cs1 =>
     rw[h3] at hx;dsimp only at hx |-;exact h.fill hx
theorem GF.reg{s s':Ak}(h:GF s s'){o:Opd}{r:Reg}(hx:o.reg s=r)(hd:r ≠ .dead):o.reg s'=r:=by
 cases o with
 | c y=>exact hx
 | t n=>exact h.get hx hd
theorem GF.bnd{s s':Ak}(h:GF s s'){o:Option Opd}{d n:Nat}(hx:GD s d o=some n):GD s' d o=some n:=by
 cases o with
 | none=>exact hx
 | some o =>
  simp only[GD] at hx |-;split at hx
  ·rename_i k i hi;rw[h.av hi];exact hx
  ·cases hx
theorem GF.firm{s s':Ak}(h:GF s s'){l:List Nat}(hl:(l.all fun t=>Ge (A2 s t))=true):(l.all fun t=>Ge (A2 s' t))=true:=by
 rw[BQ] at hl |-;intro t ht;have h1:=hl t ht;rw[h.get (r:=A2 s t) rfl (by intro e;rw[e] at h1;cases h1)];exact h1
theorem wQ{F:BA}{s s':Ak}(h:GF s s'){k:K}{p:Reg × List (Nat × Reg)}(hk:B7 F s k=some p):B7 F s' k=some p:=by
 cases k <;> simp only[B7] at hk |-
 case mov x =>
  simp only[Ah] at hk |-;obtain⟨v,hv,e⟩:=hk;exact⟨v,h.av hv,e⟩
 case pick c a b =>
  split at hk
  ·rename_i hc;rw[h.av hc];simp only[Ah] at hk |-;obtain⟨v,hv,e⟩:=hk;exact⟨v,h.av hv,e⟩
  ·rename_i hc;rw[h.av hc];simp only[Ah] at hk |-;obtain⟨v,hv,e⟩:=hk;exact⟨v,h.av hv,e⟩
  ·cases hk
 case bin op x y =>
  split at hk
  ·rename_i hx hy;rw[h.av hx,h.av hy];exact hk
  ·cases hk
 case eqb neg x y =>
  split at hk
  ·rename_i hx hy;rw[h.av hx,h.av hy];exact hk
  ·cases hk
 case un op x =>
  split at hk
  ·rename_i hx;rw[h.av hx];exact hk
  ·cases hk
 case cv k x =>
  split at hk
  ·rename_i hx;rw[h.av hx];exact hk
  ·cases hk
 case new z ks=>exact hk
 case box x ks =>
  split at hk
  ·rename_i hx;rw[h.av hx];exact hk
  ·rename_i y hne hx;rw[h.av hx];split at hk
   ·rename_i hd;cases hk;cases y <;> first | (cases hd;done) | simp only[KC,if_true]
   ·cases hk
  ·cases hk
 case bld z ps =>
  simp only[Ah] at hk |-;obtain⟨v,hv,e⟩:=hk;exact⟨v,h.fill hv,e⟩
 case bls n z ps =>
  simp only[Ah] at hk |-;obtain⟨v,hv,e⟩:=hk;exact⟨v,h.fill hv,e⟩
 case adr x d off =>
  cases hr:A2 s x <;> rw[hr] at hk <;> first | (cases hk;done) | (rw[h.get hr (by nofun)];exact hk)
 case ld x d n one =>
  cases hr:A2 s x with
  | box cs=>rw[hr] at hk;rw[h.get hr (by nofun)];exact hk
  | mem cs=>rw[hr] at hk;rw[h.get hr (by nofun)];exact hk
  | ptr d' off =>
   rw[hr] at hk;rw[h.get hr (by nofun)];dsimp only at hk |-;split at hk
   ·rename_i hd;rw[if_pos hd];cases hr2:A2 s d <;> rw[hr2] at hk <;> first | (cases hk;done) | (rw[h.get hr2 (by nofun)];exact hk)
   ·cases hk
  | val x=>rw[hr] at hk;cases hk
  | own _ _ _=>rw[hr] at hk;cases hk
  | agn _ _ _ _=>rw[hr] at hk;cases hk
  | bxl _=>rw[hr] at hk;cases hk
  | dup d=>rw[hr] at hk;cases hk
  | sub _ _ _ _=>rw[hr] at hk;cases hk
  | dead=>rw[hr] at hk;cases hk
 case st x d n v =>
  split at hk
  ·cases hk
  ·rename_i a ha;rw[h.av ha];dsimp only at hk |-;split at hk
   ·cases hk
   ·rename_i ys hys;cases hr:A2 s x with
    | box cs=>rw[hr] at hk;rw[h.get hr (by nofun)];exact hk
    | ptr d' off =>
     rw[hr] at hk;rw[h.get hr (by nofun)];dsimp only at hk |-;split at hk
     ·rename_i hd;rw[if_pos hd];cases hr2:A2 s d <;> rw[hr2] at hk <;> first | (cases hk;done) | (rw[h.get hr2 (by nofun)];exact hk)
     ·cases hk
    | mem cs=>rw[hr] at hk;cases hk
    | val x=>rw[hr] at hk;cases hk
    | own _ _ _=>rw[hr] at hk;cases hk
    | agn _ _ _ _=>rw[hr] at hk;cases hk
    | bxl _=>rw[hr] at hk;cases hk
    | dup d=>rw[hr] at hk;cases hk
    | sub _ _ _ _=>rw[hr] at hk;cases hk
    | dead=>rw[hr] at hk;cases hk
 case fld x off n one =>
  split at hk
  ·rename_i hx;rw[h.av hx];exact hk
  ·cases hk
 case ixa x i k =>
  split at hk
  ·rename_i k1 iv hi;rw[h.av hi];dsimp only at hk |-;split at hk
   ·rename_i n cs hr;rw[h.get hr (by nofun)];exact hk
   ·cases hk
  ·cases hk
 case six x i =>
  split at hk
  ·rename_i hx hi;rw[h.av hx,h.av hi];exact hk
  ·cases hk
 case ext x i =>
  split at hk
  ·rename_i hx;rw[h.av hx];exact hk
  ·cases hk
 case len x =>
  split at hk
  ·rename_i hx;rw[h.av hx];exact hk
  ·rename_i hx;rw[h.av hx];exact hk
  ·cases hk
 case mx xs =>
  split at hk
  ·rename_i hx;rw[h.avs hx];exact hk
  ·cases hk
 case mn xs =>
  split at hk
  ·rename_i hx;rw[h.avs hx];exact hk
  ·cases hk
 case call f xs =>
  split at hk
  ·rename_i hx;rw[h.avs hx];exact hk
  ·cases hk
 case clo f xs =>
  split at hk
  ·rename_i hx;rw[h.avs hx];exact hk
  ·cases hk
 case brw f x d =>
  cases hr:A2 s x <;> rw[hr] at hk <;> first | (cases hk;done) | skip
  rename_i d';rw[h.get hr (by nofun)];simp only at hk |-;by_cases hd:d'=d
  ·rw[if_pos hd] at hk |-;cases hr2:A2 s d <;> rw[hr2] at hk <;> first | (cases hk;done) | skip
   rw[h.get hr2 (by nofun)];exact hk
  ·rw[if_neg hd] at hk;cases hk
 case cpy x =>
  cases hr:A2 s x <;> rw[hr] at hk <;> first | (cases hk;done) | (rw[h.get hr (by nofun)];exact hk)
 case tra x =>
  cases hr:A2 s x <;> rw[hr] at hk <;> first | (cases hk;done) | (rw[h.get hr (by nofun)];exact hk)
 case frz x =>
  cases hr:A2 s x <;> rw[hr] at hk <;> first | (cases hk;done) | (rw[h.get hr (by nofun)];exact hk)
 case mks z n =>
  split at hk
  ·rename_i hx;rw[h.av hx];exact hk
  ·cases hk
 case blo k n z ps =>
  simp only[Ah] at hk |-;obtain⟨v,hv,e⟩:=hk;exact⟨v,h.fill hv,e⟩
 case apd ow x y k B =>
  split at hk
  ·rename_i hy;rw[h.av hy];dsimp only;cases hr:x.reg s <;> rw[hr] at hk <;> first | (cases hk;done) | (rw[h.reg hr (by nofun)];exact hk)
  ·rename_i m ys hy;rw[h.av hy];dsimp only;split at hk
   ·rename_i hl;rw[if_pos hl];cases hr:x.reg s <;> rw[hr] at hk <;> first | (cases hk;done) | (rw[h.reg hr (by nofun)];exact hk)
   ·cases hk
  ·cases hk
 case sli x lo hi mx k =>
  split at hk
  ·rename_i hx;rw[h.av hx];dsimp only;split at hk
   ·rename_i b1 b2 b3;rw[h.bnd b1,h.bnd b2,h.bnd b3];exact hk
   ·cases hk
  ·rename_i n cs hx;rw[h.av hx];dsimp only;split at hk
   ·rename_i m hh l b1 b2 b3;rw[h.bnd b1,h.bnd b2,h.bnd b3];exact hk
   ·cases hk
  ·cases hk
 case ixo x d i k =>
  split at hk
  ·rename_i k1 iv hi;rw[h.av hi];dsimp only at hk |-;split at hk
   ·rename_i n cs hr;rw[h.get hr (by nofun)];exact hk
   ·rename_i d' hr;rw[h.get hr (by nofun)];dsimp only;split at hk
    ·rename_i hd;rw[if_pos hd];split at hk
     ·rename_i k' n cs hr2;rw[h.get hr2 (by nofun)];exact hk
     ·cases hk
    ·cases hk
   ·cases hk
  ·cases hk
 case lno x d =>
  split at hk
  ·rename_i hr;rw[h.get hr (by nofun)];exact hk
  ·rename_i n cs hr;rw[h.get hr (by nofun)];exact hk
  ·rename_i d' hr;rw[h.get hr (by nofun)];dsimp only;split at hk
   ·rename_i hd;rw[if_pos hd];split at hk
    ·rename_i k' n cs hr2;rw[h.get hr2 (by nofun)];exact hk
    ·cases hk
   ·cases hk
  ·cases hk
 case nlo k=>exact hk
 case bdo y x ls =>
  split at hk
  ·rename_i b hb;rw[h.av hb];dsimp only at hk |-;split at hk
   ·rename_i k n cs hr;rw[h.get hr (by nofun)];dsimp only;split at hk
    ·rename_i hl;rw[if_pos (h.firm hl)];exact hk
    ·cases hk
   ·cases hk
  ·cases hk
 case cln f xs ls =>
  split at hk
  ·rename_i vs hvs;rw[h.avs hvs];dsimp only;split at hk
   ·rename_i hl;rw[if_pos (h.firm hl)];exact hk
   ·cases hk
  ·cases hk
 case stl x v =>
  split at hk
  ·rename_i cs hr;rw[h.get hr (by nofun)];dsimp only;split at hk
   ·rename_i b k n ds hr2;rw[h.get hr2 (by nofun)];exact hk
   ·cases hk
  ·cases hk
 case fdo x =>
  split at hk
  ·rename_i b k n cs hr;rw[h.get hr (by nofun)];exact hk
  ·cases hk
 case exo x =>
  split at hk
  ·rename_i b k n cs hr;rw[h.get hr (by nofun)];exact hk
  ·cases hk
 case slo x hi k =>
  split at hk
  ·rename_i k1 iv hiv;rw[h.av hiv];dsimp only at hk |-;split at hk
   ·rename_i k' n cs hr;rw[h.get hr (by nofun)];exact hk
   ·cases hk
  ·cases hk
 case bad=>cases hk
theorem GF.set{s s':Ak}(h:GF s s')(d:Nat)(r:Reg):GF (s.set d r) (s'.set d r):=by
 refine⟨by simp[h.1],fun t => ?_⟩;rw[Dn,Dn,h.1];split
 ·exact .inr rfl
 ·exact h.2 t
theorem GF.puts{s s':Ak}(h:GF s s'):∀ (l:List (Nat × Reg)),GF (BS s l) (BS s' l):=by
 intro l;induction l generalizing s s' with
 | nil=>exact h
 | cons p l ih=>obtain⟨t,r⟩:=p;exact ih (h.set t r)
theorem GF.put{s s':Ak}(h:GF s s')(d:Option Nat)(r:Reg):GF (DQ s d r) (DQ s' d r):=by
 cases d with
 | none=>exact h
 | some d=>exact h.set d r
theorem SS{s s':Ak}(h:GF s s'){g:Option (Nat × Bool)}{b:Bool}(hw:GE s g=some b):GE s' g=some b:=by
 cases g with
 | none=>exact hw
 | some p =>
  obtain⟨t,x⟩:=p;simp only[GE] at hw |-;split at hw
  ·rename_i hr;rw[h.get hr (by nofun)];exact hw
  ·rename_i hr;rw[h.get hr (by nofun)];exact hw
  ·cases hw
theorem jL{F:BA}{o:IOp}{s s' t:Ak}(h:GF s s')(he:FM F o s=some t):∃ t',FM F o s'=some t'/\GF t t':=by
 have h:GF (kill s o.ks) (kill s' o.ks):=h.puts _;simp only[FM,H_] at he |-;generalize kill s o.ks=s at *
 generalize kill s' o.ks=s' at *
 split at he
 ·cases he
 ·rename_i hw;cases he;rw[SS h hw];exact⟨_,rfl,h.put _ _⟩
 ·rename_i hw;rw[SS h hw];split at he
  ·cases he
  ·rename_i r l hk;cases he;rw[wQ h hk];exact⟨_,rfl,(h.puts l).put _ _⟩
theorem SU{F:BA}:∀ {l:List IOp} {s s' t:Ak},GF s s'->D_ F l s=some t->∃ t',D_ F l s'=some t'/\GF t t'
 | [],s,s',t,h,he=>by
  simp only[D_,Ay] at he;subst he;exact⟨s',rfl,h⟩
 | o::l,s,s',t,h,he=>by
  simp only[D_] at he |-;cases h1:FM F o s with
  | none=>rw[h1] at he;cases he
  | some s1 =>
   rw[h1] at he;obtain⟨s2,h2,h3⟩:=jL h h1;rw[h2];exact SU h3 he
theorem wR{F:BA}:∀ (n:Nat) {c:ICode} {s s' t:Ak} {ex:Ex},GF s s'->Cg F n c s=some (ex,t)->∃ t',Cg F n c s'=some (ex,t')/\GF t t':=by
 intro n;induction n with
 | zero=>intro c s s' t ex _ he;simp[Cg] at he
 | succ n ih =>
  intro c s s' t ex h he;cases c with
  | skip=>simp only[Cg,Ay,Dq] at he |-;obtain⟨rfl,rfl⟩:=he;exact⟨s',⟨rfl,rfl⟩,h⟩
  | exit id=>simp only[Cg,Ay,Dq] at he |-;obtain⟨rfl,rfl⟩:=he;exact⟨s',⟨rfl,rfl⟩,h⟩
  | ret=>simp only[Cg,Ay,Dq] at he |-;obtain⟨rfl,rfl⟩:=he;exact⟨s',⟨rfl,rfl⟩,h⟩
  | region d ops =>
   simp only[Cg,Ah] at he |-;obtain⟨s1,h1,e⟩:=he;cases e;obtain⟨t',h2,h3⟩:=SU h h1;exact⟨t',⟨t',h2,rfl⟩,h3⟩
  | seq a b =>
   simp only[Cg] at he |-;cases h1:Cg F n a s with
   | none=>rw[h1] at he;cases he
   | some p =>
    obtain⟨e1,s1⟩:=p;rw[h1] at he;obtain⟨s2,h2,h3⟩:=ih h h1;rw[h2];cases e1 with
    | norm=>exact ih h3 he
    | exit i=>cases he;exact⟨s2,rfl,h3⟩
    | ret=>cases he;exact⟨s2,rfl,h3⟩
  | cond c a b =>
   simp only[Cg] at he |-;have key:∀ v,Js s c=some v->Js s' c=some v:=by
    intro v hv;unfold Js at hv |-;split at hv
    ·rename_i b' hb;rw[h.av hb];exact hv
    ·cases hv
   split at he
   ·rename_i hc;rw[key _ hc];exact ih h he
   ·rename_i hc;rw[key _ hc];exact ih h he
   ·cases he
  | block id c =>
   simp only[Cg] at he |-;cases h1:Cg F n c s with
   | none=>rw[h1] at he;cases he
   | some p =>
    obtain⟨e1,s1⟩:=p;rw[h1] at he;obtain⟨s2,h2,h3⟩:=ih h h1;rw[h2];cases e1 with
    | norm=>cases he;exact⟨s2,rfl,h3⟩
    | ret=>cases he;exact⟨s2,rfl,h3⟩
    | exit i =>
     dsimp only at he |-;split at he
     ·rename_i hi;cases he;exact⟨s2,by rw[if_pos hi],h3⟩
     ·rename_i hi;cases he;exact⟨s2,by rw[if_neg hi],h3⟩
  | scope c=>simp only[Cg] at he |-;exact ih h he
  | loop c =>
   simp only[Cg] at he |-;cases h1:Cg F n c s with
   | none=>rw[h1] at he;cases he
   | some p =>
    obtain⟨e1,s1⟩:=p;rw[h1] at he;obtain⟨s2,h2,h3⟩:=ih h h1;rw[h2];cases e1 with
    | norm=>exact ih h3 he
    | exit i=>cases he;exact⟨s2,rfl,h3⟩
    | ret=>cases he;exact⟨s2,rfl,h3⟩
def W(prog:Nat->Option IFunc)(c:ICode)(s:Ak)(ex:Ex)(t:Ak):Prop:=∃ t',D7 prog c s ex t'/\GF t t'
section
variable {prog:Nat->Option IFunc}
theorem D7.w{c:ICode}{s t:Ak}{ex:Ex}(h:D7 prog c s ex t):W prog c s ex t:=⟨t,h,GF.refl t⟩
theorem D7.mono{c:ICode}{s s' t:Ak}{ex:Ex}(h:D7 prog c s ex t)(hs:GF s s'):W prog c s' ex t:=by
 obtain⟨n,h⟩:=h;obtain⟨t',h1,h2⟩:=wR n hs h;exact⟨t',⟨n,h1⟩,h2⟩
theorem W.weak{c:ICode}{s s' t t':Ak}{ex:Ex}(h:W prog c s ex t)(hs:GF s s')(ht:GF t' t):W prog c s' ex t':=by
 obtain⟨t1,h1,h2⟩:=h;obtain⟨t2,h3,h4⟩:=h1.mono hs;exact⟨t2,h3,(ht.trans h2).trans h4⟩
theorem W.seq{a b:ICode}{s s1 t:Ak}{ex:Ex}(h1:W prog a s .norm s1)(h2:W prog b s1 ex t):W prog (.seq a b) s ex t:=by
 obtain⟨u,k1,k2⟩:=h1;obtain⟨v,k3,k4⟩:=h2.weak k2 (GF.refl t);exact⟨v,D7.seq k1 k3,k4⟩
theorem p{a b:ICode}{s t:Ak}{ex:Ex}(h1:W prog a s ex t)(hex:ex ≠ .norm):W prog (.seq a b) s ex t:=by
 obtain⟨u,k1,k2⟩:=h1;exact⟨u,Ew k1 hex,k2⟩
theorem D7.inv{prog:Nat->Option IFunc}{a b:ICode}{s t:Ak}{ex:Ex}(h:D7 prog (.seq a b) s ex t):(D7 prog a s ex t/\ex ≠ .norm)\/∃ v,D7 prog a s .norm v/\D7 prog b v ex t:=by
 obtain⟨n,h⟩:=h;cases n with
 | zero=>simp[Cg] at h
 | succ n =>
  simp only[Cg] at h;have up:∀ {c:ICode} {s:Ak} {q:Ex × Ak},Cg (Nr prog (n+1)) n c s=some q->Cg (Nr prog (n+1)) (n+1) c s=some q:=fun hh=>Fo (Es prog (An _)) (Nat.le_succ n) hh;split at h
  ·rename_i v hv;exact .inr ⟨v,⟨n+1,up hv⟩,⟨n+1,up h⟩⟩
  ·rename_i hne;refine .inl ⟨⟨n+1,up h⟩,?_⟩;intro e;subst e;exact hne _ h
theorem L{a b r:ICode}{s t:Ak}{ex:Ex}(h:W prog (.seq (.seq a b) r) s ex t):W prog (.seq a (.seq b r)) s ex t:=by
 obtain⟨u,k1,k2⟩:=h;refine⟨u,?_,k2⟩;rcases k1.inv with ⟨h1,hne⟩ | ⟨v,h1,h2⟩
 ·rcases h1.inv with ⟨h3,_⟩ | ⟨x,h3,h4⟩
  ·exact Ew h3 hne
  ·exact D7.seq h3 (Ew h4 hne)
 ·rcases h1.inv with ⟨_,hne⟩ | ⟨x,h3,h4⟩
  ·exact absurd rfl hne
  ·exact D7.seq h3 (D7.seq h4 h2)
theorem q{p i l r:ICode}{s t:Ak}{ex:Ex}(h:W prog (.seq (.seq p i) (.seq l r)) s ex t):W prog (.seq p (.seq (.seq i l) r)) s ex t:=by
 obtain⟨u,k1,k2⟩:=h;refine⟨u,?_,k2⟩;rcases k1.inv with ⟨h1,hne⟩ | ⟨v,h1,h2⟩
 ·rcases h1.inv with ⟨h3,_⟩ | ⟨x,h3,h4⟩
  ·exact Ew h3 hne
  ·exact D7.seq h3 (Ew (Ew h4 hne) hne)
 ·rcases h1.inv with ⟨_,hne⟩ | ⟨x,h3,h4⟩
  ·exact absurd rfl hne
  ·rcases h2.inv with ⟨h5,hne⟩ | ⟨y,h5,h6⟩
   ·exact D7.seq h3 (Ew (D7.seq h4 h5) hne)
   ·exact D7.seq h3 (D7.seq (D7.seq h4 h5) h6)
theorem W.scope{c:ICode}{s t:Ak}{ex:Ex}(h:W prog c s ex t):W prog (.scope c) s ex t:=by
 obtain⟨u,k1,k2⟩:=h;exact⟨u,D7.scope k1,k2⟩
theorem W.block{id:Nat}{c:ICode}{s t:Ak}(h:W prog c s (.exit id) t):W prog (.block id c) s .norm t:=by
 obtain⟨u,k1,k2⟩:=h;exact⟨u,D7.block k1,k2⟩
theorem DU{id:Nat}{c:ICode}{s t:Ak}(h:W prog c s .ret t):W prog (.block id c) s .ret t:=by
 obtain⟨u,k1,k2⟩:=h;exact⟨u,LG k1,k2⟩
theorem Ci{id:Nat}{c:ICode}{s t:Ak}(h:W prog c s .norm t):W prog (.block id c) s .norm t:=by
 obtain⟨u,k1,k2⟩:=h;exact⟨u,KJ k1,k2⟩
theorem W.loop{c:ICode}{s s1 t:Ak}{ex:Ex}(h1:W prog c s .norm s1)(h2:W prog (.loop c) s1 ex t):W prog (.loop c) s ex t:=by
 obtain⟨u,k1,k2⟩:=h1;obtain⟨v,k3,k4⟩:=h2.weak k2 (GF.refl t);exact⟨v,D7.loop k1 k3,k4⟩
theorem Am{c:ICode}{s t:Ak}{ex:Ex}(h1:W prog c s ex t)(hex:ex ≠ .norm):W prog (.loop c) s ex t:=by
 obtain⟨u,k1,k2⟩:=h1;exact⟨u,M_ k1 hex,k2⟩
theorem jM{s s':Ak}(h:GF s s'){r:IRes}{x:AV}(hr:EH s r=some x):EH s' r=some x:=by
 cases r with
 | tmp t =>
  simp only[EH] at hr |-;split at hr
  ·rename_i y hy;rw[h.get hy (by nofun)];exact hr
  ·rename_i k n cs hy;rw[h.get hy (by nofun)];exact hr
  ·cases hr
 | cell t n one =>
  simp only[EH] at hr |-;split at hr
  ·rename_i y hy;rw[h.get hy (by nofun)];exact hr
  ·cases hr
theorem NI{s s':Ak}(h:GF s s'):∀ {l:List IRes} {xs:List AV},DJ s l=some xs->DJ s' l=some xs
 | [],xs,hx=>hx
 | r::l,xs,hx=>by
  simp only[DJ] at hx |-;cases h1:EH s r with
  | none=>rw[h1] at hx;cases hx
  | some x =>
   rw[h1] at hx;rw[jM h h1];cases h2:DJ s l with
   | none=>rw[h2] at hx;cases hx
   | some ys =>
    rw[h2] at hx;rw[NI h h2];exact hx
theorem YY{s s':Ak}(h:GF s s'){l:List IRes}{x:AV}(hx:HA s l=some x):HA s' l=some x:=by
 unfold HA at hx |-;split at hx
 ·rename_i t;split at hx
  ·rename_i k n cs hr;rw[h.get hr (by nofun)];exact hx
  ·rename_i b k n cs hr;rw[h.get hr (by nofun)];exact hx
  ·cases hx
 ·rename_i t u;split at hx
  ·rename_i k n cs hr;rw[h.get hr (by nofun)];dsimp only;split at hx
   ·rename_i b hru;rw[h.get hru (by nofun)];exact hx
   ·cases hx
  ·cases hx
 ·rename_i t n one;split at hx
  ·rename_i d hr;rw[h.get hr (by nofun)];dsimp only;split at hx
   ·rename_i b k m cs hr2;rw[h.get hr2 (by nofun)];exact hx
   ·cases hx
  ·cases hx
 ·cases hx
theorem QK{s s':Ak}(h:GF s s'){l:List IRes}{xs:List AV}(hf:HA s l=none)(hx:DJ s l=some xs):HA s' l=none:=by
 cases l with
 | nil=>rfl
 | cons r l =>
  cases r with
  | cell t n one =>
   cases l with
   | cons _ _=>rfl
   | nil =>
    simp only[HA] at hf |-;cases hr:A2 s t with
    | box cs=>rw[h.get hr (by nofun)]
    | val x=>simp only[DJ,EH,hr] at hx;cases hx
    | own k n cs=>simp only[DJ,EH,hr] at hx;cases hx
    | agn b k n cs=>simp only[DJ,EH,hr] at hx;cases hx
    | bxl _=>simp only[DJ,EH,hr] at hx;cases hx
    | ptr _ _=>simp only[DJ,EH,hr] at hx;cases hx
    | mem _=>simp only[DJ,EH,hr] at hx;cases hx
    | dup _=>simp only[DJ,EH,hr] at hx;cases hx
    | sub _ _ _ _=>simp only[DJ,EH,hr] at hx;cases hx
    | dead=>simp only[DJ,EH,hr] at hx;cases hx
  | tmp t =>
   cases l with
   | cons r2 l2 =>
    cases r2 with
    | cell _ _ _=>rfl
    | tmp u =>
     cases l2 with
     | cons _ _=>rfl
     | nil =>
      have hru:∃ r,EH s (.tmp u)=some r:=by
       cases h1:EH s (.tmp t) with
       | none=>simp only[DJ,h1] at hx;cases hx
       | some x1 =>
        cases h2:EH s (.tmp u) with
        | none=>simp only[DJ,h1,h2] at hx;cases hx
        | some x2=>exact⟨x2,rfl⟩
      have hrt:∃ r,EH s (.tmp t)=some r:=by
       cases h1:EH s (.tmp t) with
       | none=>simp only[DJ,h1] at hx;cases hx
       | some x1=>exact⟨x1,rfl⟩
      obtain⟨_,hru⟩:=hru;obtain⟨_,hrt⟩:=hrt;simp only[HA] at hf |-;have gt:A2 s' t=A2 s t:=by
       have hne:A2 s t ≠ .dead:=by
        intro e;simp only[EH,e] at hrt;cases hrt
       exact h.get rfl hne
      have gu:A2 s' u=A2 s u:=by
       have hne:A2 s u ≠ .dead:=by
        intro e;simp only[EH,e] at hru;cases hru
       exact h.get rfl hne
      rw[gt,gu];exact hf
   | nil =>
    simp only[HA] at hf |-;cases hr:A2 s t with
    | val x=>rw[h.get hr (by nofun)]
    | own k n cs=>rw[hr] at hf;cases hf
    | agn b k n cs=>rw[hr] at hf;cases hf
    | bxl _=>simp only[DJ,EH,hr] at hx;cases hx
    | box _=>simp only[DJ,EH,hr] at hx;cases hx
    | ptr _ _=>simp only[DJ,EH,hr] at hx;cases hx
    | mem _=>simp only[DJ,EH,hr] at hx;cases hx
    | dup _=>simp only[DJ,EH,hr] at hx;cases hx
    | sub _ _ _ _=>simp only[DJ,EH,hr] at hx;cases hx
    | dead=>simp only[DJ,EH,hr] at hx;cases hx
theorem X{f:Nat}{fn:IFunc}{args:List AV}{s:Ak}{ex:Ex}{r:AV}(hf:prog f=some fn)(hl:args.length=fn.params)(h:W prog fn.body (HG fn args) ex s)
  (hex:∀ i,ex ≠ .exit i) (hr:H0 s fn.res=some r):H prog f args r:=by
 obtain⟨u,k1,k2⟩:=h;refine H2 hf hl k1 hex ?_;unfold H0 at hr |-;cases hfr:HA s fn.res with
 | some y=>rw[hfr] at hr;rw[YY k2 hfr];exact hr
 | none =>
  rw[hfr] at hr;dsimp only at hr;split at hr
  ·rename_i y hy;cases hr;rw[QK k2 hfr hy,NI k2 hy]
  ·rename_i ys hne hy;cases hr;rw[QK k2 hfr hy,NI k2 hy];cases ys with
   | nil=>rfl
   | cons y l =>
    cases l with
    | nil=>exact (hne y rfl).elim
    | cons _ _=>rfl
  ·cases hr
def Vz(ks:List Nat)(s:Ak):Ak:=s.zipIdx.map fun p=>if ks.contains p.2 then p.1 else .dead
theorem X9(ks:List Nat)(s:Ak):GF (Vz ks s) s:=by
 refine⟨by simp[Vz],fun t => ?_⟩;simp only[A2,Vz,Z,C7,List.getElem?_zipIdx];cases h:s[t]? with
 | none=>simp
 | some r =>
  simp only[A4,Ch,G6];split
  ·exact .inr rfl
  ·exact .inl rfl
def Akl(prog:Nat->Option IFunc)(T:Cm)(n:Nat)(c:ICode)(s:Ak)(sc:List Sc)(ks:List Nat):Option (Ex × Ak × List Prop) :=
 match Hk prog T n c s sc [] with
 | some ((ex,t),[],ps)=>some (ex,Vz ks t,ps)
 | _=>none
theorem DK{T:Cm}(hT:BY prog T)(n:Nat){c:ICode}{s t:Ak}{ex:Ex}(sc:List Sc)(ks:List Nat){ps:List Prop}
  (h:Akl prog T n c s sc ks=some (ex,t,ps)) (hp:Ga ps):W prog c s ex t:=by
 unfold Akl at h;split at h
 ·rename_i ex' t' ps' h1;cases h;exact⟨_,Ls hT n sc h1 hp,X9 ks _⟩
 ·cases h
theorem C{T:Cm}(hT:BY prog T)(n:Nat){c:ICode}{s t:Ak}{ex:Ex}(sc:List Sc)(ks:List Nat){ps:List Prop}
  (hp:Ga ps) (h:Akl prog T n c s sc ks=some (ex,t,ps):=by kernel_rfl):W prog c s ex t:=DK hT n sc ks h hp
end
theorem P{p:Prop}{ps:List Prop}(h:p)(hs:Ga ps):Ga (p::ps):=⟨h,hs⟩
theorem a0:Ga []:=trivial
theorem i{prog:Nat->Option IFunc}{T:Cm}(hT:BY prog T){f:Nat}{fn:IFunc}(hf:prog f=some fn)(n:Nat){args:List AV}(hl:args.length=fn.params)(sc:List Sc){r:AV}{ps:List Prop}
  (hp:Ga ps) (h:Afq prog T n fn args sc=some (r,ps):=by kernel_rfl):H prog f args r:=Bt hT hf n hl sc h hp
theorem FA:false=false:=rfl
theorem HX:¬ (32:Int)<0:=by decide
theorem HY:true=true:=rfl
theorem WM:¬ (63:Int)<0:=by decide
theorem FB:¬ (32:Int)=0:=by decide
theorem H4{b:Bool}(h:b=true):(!b)=false:=by rw[h];rfl
theorem jN{b:Bool}(h:b=false):(!b)=true:=by rw[h];rfl
end Go.Ai
