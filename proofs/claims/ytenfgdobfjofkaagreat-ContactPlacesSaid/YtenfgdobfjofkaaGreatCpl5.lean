/- Texts of the proof of ContactPlaces: part 5 of 17. -/
import Derived.Test.YtenfgdobfjofkaaGreatProg
import Derived.KernelRfl
import Derived.Test.YtenfgdobfjofkaaGreatCpl4
namespace Go.Proofs.YtenfgdobfjofkaaGreat
open Go.Ai
set_option maxRecDepth 100000
open Go.Ai.AV renaming bool->I,int->A,sl->G
open Go.IntKind renaming i64->D,u32->Bm
open Go.Proofs.Tryz renaming f4->Qq,prog->g
noncomputable section
def CG(x:Fx)(n p:Nat):ICode:=cP g x n p
def iY:Fx:=fx Qq 3 73 [.tmp 6] [(8,[22])] []
def UQ:Fx:=fx Tryz.f9 1 149 [.cell 2 18 false] [(44,[4,35,40,65,103,113,118,135]),(51,[4,35,40,65,103,113,118,135]),(68,[4,35,40,65,103,113,118,135]),(106,[4,35,40,65,103,113,118,135]),(121,[4,35,40,65,103,113,118,135]),(138,[4,35,40,65,103,113,118,135]),(3,[15,17,19,21,23,27,30,46,49,53,59,70,78,80,82,84,86,89,92,95,98,108,111,123,129,140]),(4,[34,39,45,52,64,69,102,107,112,117,122,134,139]),(7,[63]),(9,[100,101]),(10,[116]),(12,[133]),(1000,[3]),(1002,[14]),(1004,[15,17,19,21,23,27,30,46,49,53,59,70,78,80,82,84,86,89,92,95,98,108,111,123,129,140])] [(32,.bld [A D 0,A D 0,A D 0,A D 0,A D 0,A D 0,A D 0,.nil,.nil,.nil,.nil,.nil,.nil,.nil,.nil,.nil,.nil,.nil] [(0,1,.t 16),(1,1,.t 18),(2,1,.t 20),(3,2,.t 26),(5,1,.t 29),(6,1,.t 31)]),(4,.new [A D 0,A D 0,A D 0,A D 0,A D 0,A D 0,A D 0,.nil,.nil,.nil,.nil,.nil,.nil,.nil,.nil,.nil,.nil,.nil] [34,39,45,52,64,69,102,107,112,117,122,134,139]),(1004032,.st 4 4 18 32),(35,.ldh 34 4 false [44,51,68,106,121,138]),(40,.ldh 39 4 false [44,51,68,106,121,138]),(44,.aph 40 43 1 1048576 4 [44]),(1045044,.sth 45 4 44),(46,.mvf 3 4 [44,51,68,106,121,138] [7]),(51,.clw 39 [.c (A D 3000),50] 51 [4]),(1052051,.sth 52 4 51),(65,.ldh 64 4 false [44,51,68,106,121,138]),(68,.aph 65 67 13 1048576 4 [51,68]),(1069068,.sth 69 4 68),(70,.mvf 3 4 [44,51,68,106,121,138] [7,8]),(103,.ldh 102 4 false [44,51,68,106,121,138]),(106,.aph 103 105 11 1048576 4 [106]),(1107106,.sth 107 4 106),(108,.mvf 3 4 [44,51,68,106,121,138] [7,8,10]),(113,.ldh 112 4 false [44,51,68,106,121,138]),(118,.ldh 117 4 false [44,51,68,106,121,138]),(121,.aph 118 120 12 1048576 4 [121]),(1122121,.sth 122 4 121),(123,.mvf 3 4 [44,51,68,106,121,138] [7,8,9,10]),(135,.ldh 134 4 false [44,51,68,106,121,138]),(138,.aph 135 137 15 1048576 4 [138]),(1139138,.sth 139 4 138),(140,.mvf 3 4 [44,51,68,106,121,138] [7,8,9,10,11]),(141,.ldz 4 18 [44,51,68,106,121,138] [7,8,9,10,11]),(1004142,.st 4 4 18 142),(143,.ldz 4 18 [44,51,68,106,121,138] [7,8,9,10,11,12,13,14,15,16,17]),(148,.ldz 4 18 [44,51,68,106,121,138] [7,8,9,10,11,12,13,14,15,16,17])]
def iZ:Fx:=fx Tryz.f11 2 152 [.cell 4 6 false] [(15,[28,6,40,58,100,108,133,143,146]),(19,[28,6,40,58,100,108,133,143,56]),(23,[28,6,40,58,100,108,133,143,75]),(27,[28,6,40,58,100,108,133,143,105]),(2,[13,16,20,24,33,43,49,61,68,77,83,91]),(5,[29,42,60,102,113,115,118,120,124,128,147]),(6,[31,39,57,99,107,142,150]),(152,[47,53,65,72,87,95]),(10,[127,134,136]),(1000,[5]),(1002,[12]),(1004,[29,42,60,102,113,115,118,120,124,128,147])] [(15,.mkw [A D 0,A D 0,A D 0,A D 0,A D 0,A D 0,A D 0] 14 [28,6,40,58,100,108,133,143,146]),(19,.mkw [A D 0] 18 [28,6,40,58,100,108,133,143,56]),(23,.mkw [A D 0] 22 [28,6,40,58,100,108,133,143,75]),(27,.mkw [I false] 26 [28,6,40,58,100,108,133,143,105]),(28,.blh [A D 0,G 0 [],G 0 [],G 0 [],G 0 [],A Bm 0] [(1,15),(2,19),(3,23),(4,27)]),(1006028,.sta 6 28 6 [15,19,23,27]),(1031030,.sts 31 6 30),(40,.ldh 39 6 false [15,19,23,27]),(56,.ixo 40 19 41 1),(58,.ldh 57 6 false [15,19,23,27]),(75,.ixo 58 23 59 1),(100,.ldh 99 6 false [15,19,23,27]),(105,.ixo 100 27 101 1),(108,.ldh 107 6 false [15,19,23,27]),(133,.lda 6 6 [15,19,23,27]),(139,.bwh 17 [132,133,135,137,138] [15,19,23,27]),(143,.ldh 142 6 false [15,19,23,27]),(1150149,.sts 150 6 149),(151,.ldz 6 6 [15,19,23,27] [1,2,3,4])]
def Z0:Fx:=fx Tryz.f14 3 99 [.tmp 6] [(3,[11,39,91]),(4,[19,25,34]),(99,[29]),(7,[47,60,61,63,70,96]),(10,[49,66,72,74,79,87,89]),(8,[51,77,85]),(1000,[6,7,33,98])] []
def Z1:Fx:=fx Tryz.f15 3 111 [.tmp 6] [(3,[11,40,46,104]),(4,[19,25,34,60,65]),(111,[29]),(7,[51,73,77,79,81,109]),(10,[53,74,84,86,91,100,102]),(8,[55,89,98]),(1000,[6,7,33,110])] []
def Q7:Fx:=fx Tryz.f16 5 161 [.tmp 10] [(5,[21,50,55,69,74,89,97,124,155]),(12,[29,34,46,48]),(14,[62]),(16,[81,87,91]),(18,[105]),(6,[111,119,129]),(20,[141,146,153])] []
def Q8:Fx:=fx Tryz.f17 5 197 [.tmp 10] [(5,[19,25,60,65,71,81,86,91,97,107,113,115,125,138,148,158,192]),(12,[30,35,56,58]),(6,[41,46,131,153,163,169]),(197,[75,101,111,119,142]),(17,[178,183,190])] []
def Yx33:Fx:=fx Tryz.f33 1 19 [.cell 2 2 false] [] []
def Aul:Fx:=fx Tryz.f36 1 6 [.tmp 2] [(1000,[2])] []
def Aum:Fx:=fx Tryz.f37 3 15 [.giv,.tmp 6] [(0,[8]),(1004,[8])] []
def xJ:Fx:=fx Tryz.f38 2 41 [.giv,.tmp 4] [(0,[6,7,8,10,11,12,16,17,18,20,21,22,28,29,30,33,34]),(1004,[6,10,16,20,28])] []
def Yx39:Fx:=fx Tryz.f39 2 64 [.tmp 4] [(9,[41,46,48,50,52,55,56,57,58,59,60,61,62]),(1000,[4,9,63]),(1002,[39])] []
def Q9:Fx:=fx Tryz.f40 1 57 [.giv,.cell 2 13 false] [(0,[6,8,11,19,33,35,37,40,46,52]),(4,[18,24,29]),(3,[22,27]),(5,[43,48,49,55]),(1004,[6,8,11,19,33,35,37,40,46,52])] [(17,.eqv false 2 15 16)]
def Aun:Fx:=fx Tryz.f41 2 9 [.tmp 4] [] []
def Auo:Fx:=fx Tryz.f42 1 10 [.giv,.cell 2 2 false] [(0,[3,6]),(1004,[3,6])] []
def Aup:Fx:=fx Tryz.f43 2 74 [.giv,.cell 4 12 false] [(0,[13,15,20,23,67,69,71]),(9,[37,44,52,59]),(10,[40,47]),(11,[55,62]),(1004,[13,15,20,23,67,69,71])] []
def Auq:Fx:=fx Tryz.f44 1 33 [.giv,.cell 2 15 false] [(0,[4,6,8,10,15,18,20,22,24,26,28,30]),(1004,[4,6,8,10,15,18,20,22,24,26,28,30])] []
def UR:Fx:=fx Tryz.f45 2 138 [.giv,.cell 4 18 false] [(41,[3,17,47,52,77,94,110,123]),(68,[3,17,47,52,77,94,110,123]),(88,[3,17,47,52,77,94,110,123]),(104,[3,17,47,52,77,94,110,123]),(117,[3,17,47,52,77,94,110,123]),(135,[3,17,47,52,77,94,110,123]),(0,[8,14,23,28,32,34,37,43,48,50,55,57,59,62,64,70,80,82,84,90,95,97,99,106,111,113,119,124,126,128,131]),(3,[16,42,46,51,69,76,89,93,105,109,118,122,136]),(6,[21,26]),(1004,[8,14,23,28,32,34,37,43,48,50,55,57,59,62,64,70,80,82,84,90,95,97,99,106,111,113,119,124,126,128,131])] [(8,.mvf 0 3 [41,68,88,104,117,135] []),(17,.ldh 16 3 false [41,68,88,104,117,135]),(41,.aph 17 40 9 1048576 3 [41]),(1042041,.sth 42 3 41),(43,.mvf 0 3 [41,68,88,104,117,135] [12]),(47,.ldh 46 3 false [41,68,88,104,117,135]),(52,.ldh 51 3 false [41,68,88,104,117,135]),(68,.aph 47 67 10 1048576 3 [68]),(1069068,.sth 69 3 68),(70,.mvf 0 3 [41,68,88,104,117,135] [12,13]),(77,.ldh 76 3 false [41,68,88,104,117,135]),(88,.aph 77 87 6 1048576 3 [88]),(1089088,.sth 89 3 88),(90,.mvf 0 3 [41,68,88,104,117,135] [12,13,14]),(94,.ldh 93 3 false [41,68,88,104,117,135]),(104,.aph 94 103 8 1048576 3 [104]),(1105104,.sth 105 3 104),(106,.mvf 0 3 [41,68,88,104,117,135] [12,13,14,15]),(110,.ldh 109 3 false [41,68,88,104,117,135]),(117,.aph 110 116 5 1048576 3 [117]),(1118117,.sth 118 3 117),(119,.mvf 0 3 [41,68,88,104,117,135] [12,13,14,15,16]),(123,.ldh 122 3 false [41,68,88,104,117,135]),(135,.aph 123 134 7 1048576 3 [135]),(1136135,.sth 136 3 135),(137,.ldz 3 18 [41,68,88,104,117,135] [7,8,9,10,11,12,13,14,15,16,17])]
def MA:Fx:=fx Tryz.f46 1 166 [.tmp 2] [(1,[8,13,19,25,31,37,43,49,55,61,67,73,76,80,84,89,94,99,104,112]),(166,[132,144,149,155,161])] []
def Aur:Fx:=fx Tryz.f54 2 17 [.tmp 4] [(2,[6,11])] []
def Yx55:Fx:=fx Tryz.f55 2 24 [.tmp 4] [(2,[13,18]),(3,[15,20])] []
def Yx56:Fx:=fx Tryz.f56 2 26 [.cell 4 2 false] [(2,[14,19]),(3,[16,21])] []
def Yx57:Fx:=fx Tryz.f57 4 72 [.tmp 8] [] []
def Yx58:Fx:=fx Tryz.f58 2 24 [.tmp 4] [(2,[13,18]),(3,[15,20])] []
def Yx59:Fx:=fx Tryz.f59 2 26 [.cell 4 2 false] [(2,[14,19]),(3,[16,21])] []
def Yx60:Fx:=fx Tryz.f60 4 84 [.tmp 8] [] []
def Yx61:Fx:=fx Tryz.f61 3 90 [.tmp 6] [(4,[34,40,46,49,51,59,61])] []
def Yx62:Fx:=fx Tryz.f62 3 36 [.tmp 6] [] []
def Yx63:Fx:=fx Tryz.f63 4 96 [.tmp 8] [(4,[26,28]),(5,[41,62,71,73,82])] []
def Yx64:Fx:=fx Tryz.f64 3 62 [.tmp 6] [(3,[21,26]),(4,[23,28])] []
def Yx65:Fx:=fx Tryz.f65 3 92 [.tmp 6] [(3,[28,33,38,43]),(4,[48,54,60])] []
def Yx66:Fx:=fx Tryz.f66 3 34 [.tmp 6] [] []
def QA:Fx:=fx Tryz.f67 4 76 [.tmp 8] [(4,[14,18,23,28])] []
def Yx68:Fx:=fx Tryz.f68 3 54 [.tmp 6] [(3,[17,22]),(4,[19,24])] []
def Yx76:Fx:=fx Tryz.f76 1 10 [.tmp 2,.tmp 3] [] []
def jA:Fx:=fx Tryz.f79 5 151 [.tmp 10] [(6,[67,77,103,118,120,126]),(1000,[10]),(1002,[150])] []
def Yx99:Fx:=fx Tryz.f99 1 16 [.tmp 2] [(1,[3,7,12])] []
def Aie:Fx:=fx Tryz.f106 1 9 [.cell 2 2 false] [(1,[3,6])] []
def Ayf:Fx:=fx Tryz.f108 2 16 [.cell 4 2 false] [(15,[4]),(5,[10]),(1000,[5,14]),(1002,[7]),(1003,[15])] [(15,.bdo 13 14 [4])]
def Aif:Fx:=fx Tryz.f117 0 14 [.tmp 0] [(1000,[0]),(1002,[13])] []
def Ayg:Fx:=fx Tryz.f118 3 15 [.tmp 6] [] []
def Ayh:Fx:=fx Tryz.f119 2 19 [.tmp 4] [(2,[5,12])] []
def Nv:Fx:=fx Tryz.f120 1 266 [.tmp 2] [(1,[17,23,89,95,146,155,161,217,223]),(5,[28,32,37,42,47,52,57,62,67,72,77,80,82]),(8,[100,104,109,114,119,124,129,134,139]),(11,[166,170,175,180,185,190,195,200,205,210]),(14,[228,236,241,246,251,256]),(1000,[2,3,76,138,209,255,262]),(1002,[87,153,215,261,265])] [(84,.eqv true 2 81 83)]
def PN:Fx:=fx Tryz.f121 1 36 [.tmp 2] [] []
def KL:Fx:=fx Tryz.f122 1 130 [.tmp 2] [(1,[16,27,32,55,66,71,94,105,110,125]),(5,[37,43,47]),(6,[39,45,49]),(9,[76,82,86]),(10,[78,84,88]),(13,[115,121]),(14,[117,123])] []
def Ayi:Fx:=fx Tryz.f133 1 21 [.tmp 2] [(1,[3,7,12,17])] []
def Ayj:Fx:=fx Tryz.f134 1 8 [.cell 2 2 false] [] []
def Ayk:Fx:=fx Tryz.f135 2 38 [.tmp 4] [(6,[13,19,25,32])] []
def Ayl:Fx:=fx Tryz.f136 2 24 [.tmp 4] [(2,[13,18]),(3,[15,20])] []
def Aym:Fx:=fx Tryz.f137 3 42 [.tmp 6] [] []
def Ayn:Fx:=fx Tryz.f138 1 21 [.tmp 2] [(1,[3,7,12,17])] []
def Ayo:Fx:=fx Tryz.f139 1 7 [.cell 2 2 false] [] []
def Ayp:Fx:=fx Tryz.f140 2 29 [.tmp 4] [(2,[5,11,17,24])] []
def Ayq:Fx:=fx Tryz.f141 2 24 [.tmp 4] [(2,[13,18]),(3,[15,20])] []
def Ayr:Fx:=fx Tryz.f142 2 32 [.tmp 4] [(2,[20]),(3,[23])] []
def Aig:Fx:=fx Tryz.f143 2 18 [.cell 4 2 false] [(2,[5,10]),(3,[7,13])] []
def Ays:Fx:=fx Tryz.f144 1 59 [.tmp 2,.tmp 3] [(1,[8,10,12,17,19,22,24])] []
def Ayt:Fx:=fx Tryz.f145 2 38 [.tmp 4] [(6,[13,19,25,32])] []
def Ayu:Fx:=fx Tryz.f146 2 56 [.tmp 4] [(2,[5,6,8,9,14,20,22,28,30,35,37,39,45,47])] []
def Ayv:Fx:=fx Tryz.f147 3 24 [.tmp 6] [] []
def Ayw:Fx:=fx Tryz.f148 3 35 [.cell 6 2 false,.tmp 7] [(3,[21]),(8,[23,26])] []
def Ayx:Fx:=fx Tryz.f149 2 42 [.tmp 4] [(2,[20,24,26,34,36])] []
def Ayy:Fx:=fx Tryz.f150 2 32 [.cell 4 2 false] [(2,[22,26])] [(11,.eqv false 2 9 10)]
def Aih:Fx:=fx Tryz.f151 1 11 [.cell 2 6 false] [] []
def bE:Fx:=fx Tryz.f152 1 35 [.tmp 2] [(1000,[2,4,26,34]),(1002,[33])] []
def bG:Fx:=fx Tryz.f153 1 12 [.tmp 2] [(1,[4,10])] []
def Ayz:Fx:=fx Tryz.f154 1 51 [.tmp 2] [(1,[3,7,12,17,22,24,29,34,39,44,46])] []
def Aza:Fx:=fx Tryz.f155 1 9 [.tmp 2] [] []
def Aii:Fx:=fx Tryz.f169 2 25 [.tmp 4,.tmp 5] [(3,[14,20]),(1000,[4,5]),(1002,[18,24])] []
def rX:Fx:=fx Tryz.f170 2 31 [.tmp 4] [(1000,[4,5,19]),(1001,[29]),(1002,[28,30])] []
def Aij:Fx:=fx Tryz.f171 2 10 [.tmp 4] [(1000,[4]),(1002,[9])] []
def Aik:Fx:=fx Tryz.f172 2 9 [.tmp 4] [(1000,[4]),(1002,[8])] []
def RP:Fx:=fx Tryz.f173 2 58 [.tmp 4] [(5,[35,39,43,55]),(1000,[4,5]),(1001,[56]),(1002,[57])] []
def rY:Fx:=fx Tryz.f175 1 21 [.tmp 2] [(1000,[2,3,11]),(1001,[19]),(1002,[18,20])] []
def Azb:Fx:=fx Tryz.f176 1 61 [.tmp 2] [(1,[7,12,18,23,25,28,30])] []
def Ail:Fx:=fx Tryz.f177 2 12 [.tmp 4] [(1000,[4]),(1002,[11])] []
def rZ:Fx:=fx Tryz.f178 1 21 [.tmp 2] [(1000,[2,3,11]),(1001,[19]),(1002,[18,20])] []
def Azc:Fx:=fx Tryz.f192 2 29 [.tmp 4] [(2,[5,11,17,24])] []
def Aim:Fx:=fx Tryz.f209 1 8 [.cell 2 2 false] [(1,[3,5])] []
def sA:Fx:=fx Tryz.f211 1 22 [.tmp 2] [(1000,[2]),(1002,[21])] [(21,.apd true (.c (.nil)) 20 1 35184372088832)]
def KM:Fx:=fx Tryz.f220 1 291 [.tmp 2] [(1,[20,26,78,84,128,135,141,171,177,224,230,255,261]),(5,[31,35,40,45,50,55,58,59,61,62,66,67,69,70]),(8,[89,93,98,103,108,113,118,123,126]),(11,[147,149,153,158,163]),(13,[182,186,191,196,201,206,209,211,215]),(16,[236,238,242,247]),(18,[267,269,273,278,283]),(1000,[2,3,54,122,146,205,235,266,290]),(1002,[76,133,169,222,253,289])] [(218,.eqv true 2 216 217)]
def Azd:Fx:=fx Tryz.f221 1 9 [.tmp 2] [] []
def Aze:Fx:=fx Tryz.f222 1 9 [.tmp 2] [] []
def sB:Fx:=fx Tryz.f224 1 22 [.tmp 2] [] []
def Azf:Fx:=fx Tryz.f226 2 51 [.tmp 4,.tmp 5] [] []
def bH:Fx:=fx Tryz.f227 2 41 [.tmp 4] [] []
def bI:Fx:=fx Tryz.f228 2 66 [.tmp 4] [(5,[28,32,48,54,57,64]),(1000,[4,5,65])] []
def Azg:Fx:=fx Tryz.f229 1 21 [.tmp 2] [(1,[3,7,12,17])] []
def Ain:Fx:=fx Tryz.f245 1 29 [.tmp 2,.tmp 3] [(1,[7,8,10,11,13,14,18,19,21,22,24,25]),(1000,[2,3]),(1002,[17,28])] []
def bJ:Fx:=fx Tryz.f246 2 42 [.cell 4 2 false] [(2,[7,14,19,30]),(3,[10,16,36])] []
def sC:Fx:=fx Tryz.f247 2 14 [.cell 4 2 false] [] []
def sD:Fx:=fx Tryz.f248 1 23 [.tmp 2] [] []
def sE:Fx:=fx Tryz.f289 2 54 [.tmp 4] [(1000,[4,5,46,53]),(1002,[50])] []
def sF:Fx:=fx Tryz.f290 2 42 [.tmp 4] [(1000,[4,5,34,41]),(1002,[38])] []
end
end Go.Proofs.YtenfgdobfjofkaaGreat
namespace Go.Ai
open Go.RowKit
open List renaming all_eq_true->A6,getD_eq_getElem?_getD->Z,getElem?_map->E5,length->C
open Nat renaming le_refl->Ar,le_succ->Abr,zero_add->AJ
open Option renaming getD_some->EA,map_eq_some_iff->S,map_some->Al
open Option.some renaming injEq->Ab
open Prod.mk renaming injEq->BP
def EH(s s':V):Prop:=C s=C s'/\∀ t,Ag s t = .dead\/Ag s t=Ag s' t
theorem EH.refl(s:V):EH s s:=⟨rfl,fun _ => .inr rfl⟩
theorem EH.trans{a b c:V}(h:EH a b)(k:EH b c):EH a c:=by
 refine⟨h.1.trans k.1,fun t => ?_⟩;rcases h.2 t with h1 | h1
 ·exact .inl h1
 ·rcases k.2 t with d | d
  ·exact .inl (h1.trans d)
  ·exact .inr (h1.trans d)
theorem EH.get{s s':V}(h:EH s s'){t:Nat}{r:Reg}(hr:Ag s t=r)(hd:r ≠ .dead):Ag s' t=r:=by
 rcases h.2 t with h1 | h1
 ·exact absurd (hr.symm.trans h1) hd
 ·rw[<- h1,hr]
theorem EH.av{s s':V}(h:EH s s'){o:Opd}{x:AV}(a:o.av s=some x):o.av s'=some x:=by
 cases o with
 | c y=>exact a
 | t n =>
  simp only[Opd.av,Opd.reg] at a |-;split at a
  next y b=>cases a;rw[h.get b (by nofun)]
  ·cases a
theorem EH.avs{s s':V}(h:EH s s'):∀ {l:List Opd} {xs:List AV},avs s l=some xs->avs s' l=some xs
 | [],xs,a=>a
 | o::l,xs,a=>by
  simp only[Go.Ai.avs] at a |-;cases h1:o.av s with
  | none=>rw[h1] at a;cases a
  | some x =>
   rw[h1] at a;rw[h.av h1];cases h2:Go.Ai.avs s l with
   | none=>rw[h2] at a;cases a
   | some b =>
    rw[h2] at a;rw[h.avs h2];exact a
theorem EH.fill{s s':V}(h:EH s s'):∀ {ps:List (Nat × Nat × Opd)} {cs b:List AV},FY s cs ps=some b->FY s' cs ps=some b
 | [],_,_,a=>a
 | (off,n,o)::ps,cs,b,a=>by
  simp only[FY] at a |-;cases h1:o.av s with
  | none=>rw[h1] at a;cases a
  | some x =>
   rw[h1] at a;rw[h.av h1];dsimp only at a |-;cases h2:Gz x n with
   | none=>rw[h2] at a;cases a
   | some d =>
    rw[h2] at a;dsimp only at a |-;cases c:BE cs off d with
    | none=>rw[c] at a;cases a
    | some e =>
     rw[c] at a;dsimp only at a |-;exact h.fill a
theorem EH.reg{s s':V}(h:EH s s'){o:Opd}{r:Reg}(a:o.reg s=r)(hd:r ≠ .dead):o.reg s'=r:=by
 cases o with
 | c y=>exact a
 | t n=>exact h.get a hd
theorem EH.bnd{s s':V}(h:EH s s'){o:Option Opd}{d n:Nat}(a:GU s d o=some n):GU s' d o=some n:=by
 cases o with
 | none=>exact a
 | some o =>
  simp only[GU] at a |-;split at a
  next k i hi=>rw[h.av hi];exact a
  ·cases a
theorem EH.firm{s s':V}(h:EH s s'){l:List Nat}(hl:(l.all fun t=>Ew (Ag s t))=true):(l.all fun t=>Ew (Ag s' t))=true:=by
 rw[A6] at hl |-;intro t a;have h1:=hl t a;rw[h.get (r:=Ag s t) rfl (by intro e;rw[e] at h1;cases h1)];exact h1
theorem EH.frz{s s':V}(h:EH s s'):∀ {ls:List (Nat × Nat)} {cs:List AV} {r:List AV × List (Nat × Reg)},Ie s ls cs=some r->Ie s' ls cs=some r
 | [],_,_,a=>a
 | (o,u)::ls,cs,r,a=>by
  simp only[Ie] at a |-;split at a
  ·rename_i hr;rw[h.get hr (by nofun)];dsimp only;split at a
   next hf=>rw[h.frz hf];exact a
   ·cases a
  ·cases a
theorem EH.lnt{s s':V}(h:EH s s'):∀ {ls:List (Nat × Nat)} {cs r:List AV},Kj s ls cs=some r->Kj s' ls cs=some r
 | [],_,_,a=>a
 | (o,u)::ls,cs,r,a=>by
  simp only[Kj] at a |-;split at a
  next hr=>rw[h.get hr (by nofun)];simp only[S] at a |-;obtain⟨v,b,e⟩:=a;exact⟨v,h.lnt b,e⟩
  ·cases a
theorem EH.link{s s':V}(h:EH s s'):∀ {qs:List (Nat × Nat)} {cs r:List AV},IQ s qs cs=some r->IQ s' qs cs=some r
 | [],_,_,a=>a
 | (o,u)::qs,cs,r,a=>by
  simp only[IQ] at a |-;split at a
  ·rename_i hr;rw[h.get hr (by nofun)];dsimp only;split at a
   next hc=>rw[Af hc];simp only[S] at a |-;obtain⟨v,b,e⟩:=a;exact⟨v,h.link b,e⟩
   ·cases a
  ·cases a
theorem EH.avH{s s':V}(h:EH s s'){us:List Nat}{o:Opd}{x:AV}(a:avH s us o=some x):avH s' us o=some x:=by
 unfold Go.Ai.avH at a |-;split at a
 next hr=>rw[h.reg hr (by nofun)];exact a
 ·rename_i hr;rw[h.reg hr (by nofun)];dsimp only;split at a
  ·rename_i hc;rw[Af hc];split at a
   next hl=>rw[h.lnt hl];exact a
   ·cases a
  ·cases a
 ·cases a
theorem EH.avsH{s s':V}(h:EH s s'){us:List Nat}:∀ {l:List Opd} {xs:List AV},avsH s us l=some xs->avsH s' us l=some xs
 | [],xs,a=>a
 | o::l,xs,a=>by
  simp only[Go.Ai.avsH] at a |-;cases h1:Go.Ai.avH s us o with
  | none=>rw[h1] at a;cases a
  | some x =>
   rw[h1] at a;rw[h.avH h1];cases h2:Go.Ai.avsH s us l with
   | none=>rw[h2] at a;cases a
   | some b =>
    rw[h2] at a;rw[h.avsH h2];exact a
section
variable{s s':V}
theorem EH.ldh(h:EH s s'){d off:Nat}{fz:Bool}{us:List Nat}{cs:List AV}{ls:List (Nat × Nat)}{p:Reg × List (Nat × Reg)}(a:MZ s d off fz us cs ls=some p):MZ s' d off fz us cs ls=some p:=by
 unfold MZ at a |-;split at a
 ·rename_i h1;rw[Af h1];split at a
  ·rename_i h2;rw[Af h2];split at a
   ·rename_i hf;have:(if fz=true then Ie s' (MY ls off) cs else some (cs,[]))=(if fz=true then Ie s (MY ls off) cs else some (cs,[])):=by
     cases fz with
     | false=>rfl
     | true=>simp only[if_true] at hf |-;rw[hf,h.frz hf]
    rw[this,hf];exact a
   ·cases a
  ·cases a
 ·cases a
theorem EH.ldz(h:EH s s'){x n:Nat}{us zs:List Nat}{cs:List AV}{ls:List (Nat × Nat)}{p:Reg × List (Nat × Reg)}(a:M_ s x n us zs cs ls=some p):M_ s' x n us zs cs ls=some p:=by
 unfold M_ at a |-;split at a
 ·rename_i h1;rw[Af h1];split at a
  next hf=>rw[h.frz hf];exact a
  ·cases a
 ·cases a
theorem EH.mvf(h:EH s s'){x y:Nat}{us zs:List Nat}{cs:List AV}{ls:List (Nat × Nat)}{p:Reg × List (Nat × Reg)}(a:M' s x y us zs cs ls=some p):M' s' x y us zs cs ls=some p:=by
 unfold M' at a |-;split at a
 ·rename_i h1;rw[Af h1];split at a
  next hf=>rw[h.frz hf];exact a
  ·cases a
 ·cases a
theorem EH.aph0(h:EH s s'){x m:Nat}{b:List AV}{k B:Nat}{p:Reg × List (Nat × Reg)}(a:aph0 (Ag s x) m b k B=some p):aph0 (Ag s' x) m b k B=some p:=by
 unfold Go.Ai.aph0 at a;split at a
 next hr=>rw[h.get hr (by nofun)];exact a
 ·cases a
end
theorem Abp{F:Bf}{s s':V}(h:EH s s'){k:K}{p:Reg × List (Nat × Reg)}(g:A2 F s k=some p):A2 F s' k=some p:=by
 cases k <;> simp only[A2] at g |-
 case mov x =>
  simp only[S] at g |-;obtain⟨v,q,e⟩:=g;exact⟨v,h.av q,e⟩
 case pick c a b =>
  split at g
  next hc=>rw[h.av hc];simp only[S] at g |-;obtain⟨v,q,e⟩:=g;exact⟨v,h.av q,e⟩
  next hc=>rw[h.av hc];simp only[S] at g |-;obtain⟨v,q,e⟩:=g;exact⟨v,h.av q,e⟩
  ·cases g
 case bin op x y =>
  split at g
  next j w=>rw[h.av j,h.av w];exact g
  ·cases g
 case eqb neg x y =>
  split at g
  next j w=>rw[h.av j,h.av w];exact g
  ·cases g
 case eqv neg n x y =>
  split at g
  next j w=>rw[h.av j,h.av w];exact g
  ·cases g
 case un op x =>
  split at g
  next j=>rw[h.av j];exact g
  ·cases g
 case cv k x =>
  split at g
  next j=>rw[h.av j];exact g
  ·cases g
 case new z ks=>exact g
 case box x ks =>
  split at g
  next j=>rw[h.av j];exact g
  ·rename_i y T j;rw[h.av j];split at g
   next hd=>cases g;cases y <;> first | (cases hd;done) | simp only[EM,if_true]
   ·cases g
  ·cases g
 case bld z ps =>
  simp only[S] at g |-;obtain⟨v,q,e⟩:=g;exact⟨v,h.fill q,e⟩
 case bls n z ps =>
  simp only[S] at g |-;obtain⟨v,q,e⟩:=g;exact⟨v,h.fill q,e⟩
 case adr x d off =>
  cases hr:Ag s x <;> rw[hr] at g <;> first | (cases g;done) | (rw[h.get hr (by nofun)];exact g)
 case ld x d n one =>
  cases hr:Ag s x with
  | box cs=>rw[hr] at g;rw[h.get hr (by nofun)];exact g
  | mem cs=>rw[hr] at g;rw[h.get hr (by nofun)];exact g
  | ptr C off =>
   rw[hr] at g;rw[h.get hr (by nofun)];dsimp only at g |-;split at g
   next hd=>rw[Af hd];cases o:Ag s d <;> rw[o] at g <;> first | (cases g;done) | (rw[h.get o (by nofun)];exact g)
   ·cases g
  | val x=>rw[hr] at g;cases g
  | own _ _ _=>rw[hr] at g;cases g
  | agn _ _ _ _=>rw[hr] at g;cases g
  | bxl _=>rw[hr] at g;cases g
  | dup d=>rw[hr] at g;cases g
  | sub _ _ _ _=>rw[hr] at g;cases g
  | bxh _ _=>rw[hr] at g;cases g
  | agh _ _=>rw[hr] at g;cases g
  | bxg _=>rw[hr] at g;cases g
  | dead=>rw[hr] at g;cases g
 case st x d n v =>
  split at g
  ·cases g
  ·rename_i a N;rw[h.av N];dsimp only at g |-;split at g
   ·cases g
   ·rename_i I U;cases hr:Ag s x with
    | box cs=>rw[hr] at g;rw[h.get hr (by nofun)];exact g
    | ptr C off =>
     rw[hr] at g;rw[h.get hr (by nofun)];dsimp only at g |-;split at g
     next hd=>rw[Af hd];cases o:Ag s d <;> rw[o] at g <;> first | (cases g;done) | (rw[h.get o (by nofun)];exact g)
     ·cases g
    | mem cs=>rw[hr] at g;cases g
    | val x=>rw[hr] at g;cases g
    | own _ _ _=>rw[hr] at g;cases g
    | agn _ _ _ _=>rw[hr] at g;cases g
    | bxl _=>rw[hr] at g;cases g
    | dup d=>rw[hr] at g;cases g
    | sub _ _ _ _=>rw[hr] at g;cases g
    | bxh _ _=>rw[hr] at g;cases g
    | agh _ _=>rw[hr] at g;cases g
    | bxg _=>rw[hr] at g;cases g
    | dead=>rw[hr] at g;cases g
 case fld x off n one =>
  split at g
  next j=>rw[h.av j];exact g
  ·cases g
 case ixa x i k =>
  split at g
  ·rename_i J L hi;rw[h.av hi];dsimp only at g |-;split at g
   next n cs hr=>rw[h.get hr (by nofun)];exact g
   ·cases g
  ·cases g
 case six x i =>
  split at g
  next j hi=>rw[h.av j,h.av hi];exact g
  ·cases g
 case ext x i =>
  split at g
  next j=>rw[h.av j];exact g
  ·cases g
 case len x =>
  split at g
  next j=>rw[h.av j];exact g
  next j=>rw[h.av j];exact g
  ·cases g
 case mx xs =>
  split at g
  next j=>rw[h.avs j];exact g
  ·cases g
 case mn xs =>
  split at g
  next j=>rw[h.avs j];exact g
  ·cases g
 case call f xs =>
  split at g
  next j=>rw[h.avs j];exact g
  ·cases g
 case clo f xs =>
  split at g
  next j=>rw[h.avs j];exact g
  ·cases g
 case brw f x d =>
  cases hr:Ag s x <;> rw[hr] at g <;> first | (cases g;done) | skip
  rename_i C;rw[h.get hr (by nofun)];simp only at g |-;by_cases hd:C=d
  ·rw[Af hd] at g |-;cases o:Ag s d <;> rw[o] at g <;> first | (cases g;done) | skip
   rw[h.get o (by nofun)];exact g
  ·rw[Ak hd] at g;cases g
 case cpy x =>
  cases hr:Ag s x <;> rw[hr] at g <;> first | (cases g;done) | (rw[h.get hr (by nofun)];exact g)
 case tra x =>
  cases hr:Ag s x <;> rw[hr] at g <;> first | (cases g;done) | (rw[h.get hr (by nofun)];exact g)
 case frz x =>
  cases hr:Ag s x <;> rw[hr] at g <;> first | (cases g;done) | (rw[h.get hr (by nofun)];exact g)
 case mks z n =>
  split at g
  next j=>rw[h.av j];exact g
  ·cases g
 case blo k n z ps =>
  simp only[S] at g |-;obtain⟨v,q,e⟩:=g;exact⟨v,h.fill q,e⟩
 case apd ow x y k B =>
  split at g
  next w=>rw[h.av w];dsimp only;cases hr:x.reg s <;> rw[hr] at g <;> first | (cases g;done) | (rw[h.reg hr (by nofun)];exact g)
  ·rename_i m I w;rw[h.av w];dsimp only;split at g
   next hl=>rw[Af hl];cases hr:x.reg s <;> rw[hr] at g <;> first | (cases g;done) | (rw[h.reg hr (by nofun)];exact g)
   ·cases g
  ·cases g
 case sli x lo hi mx k =>
  split at g
  ·rename_i j;rw[h.av j];dsimp only;split at g
   next D E G=>rw[h.bnd D,h.bnd E,h.bnd G];exact g
   ·cases g
  ·rename_i n cs j;rw[h.av j];dsimp only;split at g
   next m W l D E G=>rw[h.bnd D,h.bnd E,h.bnd G];exact g
   ·cases g
  ·cases g
 case ixo x d i k =>
  split at g
  ·rename_i J L hi;rw[h.av hi];dsimp only at g |-;split at g
   next n cs hr=>rw[h.get hr (by nofun)];exact g
   ·rename_i C hr;rw[h.get hr (by nofun)];dsimp only;split at g
    ·rename_i hd;rw[Af hd];split at g
     next M n cs o=>rw[h.get o (by nofun)];exact g
     ·cases g
    ·cases g
   ·cases g
  ·cases g
 case lno x d =>
  split at g
  next hr=>rw[h.get hr (by nofun)];exact g
  next n cs hr=>rw[h.get hr (by nofun)];exact g
  ·rename_i C hr;rw[h.get hr (by nofun)];dsimp only;split at g
   ·rename_i hd;rw[Af hd];split at g
    next M n cs o=>rw[h.get o (by nofun)];exact g
    ·cases g
   ·cases g
  ·cases g
 case nlo k=>exact g
 case bdo y x ls =>
  split at g
  ·rename_i b hb;rw[h.av hb];dsimp only at g |-;split at g
   ·rename_i k n cs hr;rw[h.get hr (by nofun)];dsimp only;split at g
    next hl=>rw[Af (h.firm hl)];exact g
    ·cases g
   ·cases g
  ·cases g
 case cln f xs ls =>
  split at g
  ·rename_i vs A;rw[h.avs A];dsimp only;split at g
   next hl=>rw[Af (h.firm hl)];exact g
   ·cases g
  ·cases g
 case stl x v =>
  split at g
  ·rename_i cs hr;rw[h.get hr (by nofun)];dsimp only;split at g
   next b k n X o=>rw[h.get o (by nofun)];exact g
   ·cases g
  ·cases g
 case fdo x =>
  split at g
  next b k n cs hr=>rw[h.get hr (by nofun)];exact g
  ·cases g
 case exo x =>
  split at g
  next b k n cs hr=>rw[h.get hr (by nofun)];exact g
  ·cases g
 case slo x hi k =>
  split at g
  ·rename_i J L O;rw[h.av O];dsimp only at g |-;split at g
   next M n cs hr=>rw[h.get hr (by nofun)];exact g
   ·cases g
  ·cases g
 case cao f k x xs =>
  split at g
  ·rename_i vs A;rw[h.avs A];dsimp only;cases x with
   | c y=>cases y <;> first | exact g | (rename_i n cs;cases n <;> cases cs <;> exact g)
   | t m =>
    dsimp only at g |-;cases hr:Ag s m <;> rw[hr] at g <;> first | (cases g;done) | (rw[h.get hr (by nofun)];exact g)
  ·cases g
 case npt=>exact g
 case mvp x d =>
  split at g
  ·rename_i H;rw[Af H];split at g
   next q=>rw[h.get (r:=Ag s x) rfl (by intro e;rw[e] at q;cases q),Af q];exact g
   ·cases g
  next H=>rw[Ak H];cases hr:Ag s x <;> rw[hr] at g <;> first | (cases g;done) | (rw[h.get hr (by nofun)];exact g)
 case mvf x y us zs =>
  split at g
  ·rename_i q;rw[h.get (r:=Ag s x) rfl (by intro e;rw[e] at q;cases q),Af q];split at g
   next hr=>rw[h.get hr (by nofun)];exact g
   next hr=>rw[h.get hr (by nofun)];exact h.mvf g
   ·cases g
  ·cases g
 case ldh x d fz us =>
  split at g
  ·rename_i C off hr;rw[h.get hr (by nofun)];dsimp only;split at g
   ·rename_i hd;rw[Af hd];split at g
    next o=>rw[h.get o (by nofun)];exact g
    next o=>rw[h.get o (by nofun)];exact h.ldh g
    ·cases g
   ·cases g
  ·cases g
 case sth x d v =>
  split at g
  ·rename_i C off hr;rw[h.get hr (by nofun)];dsimp only;split at g
   ·rename_i hd;rw[Af hd];split at g
    ·rename_i P;rw[h.get P (by nofun)];dsimp only;split at g
     next o=>rw[h.get o (by nofun)];exact g
     next o=>rw[h.get o (by nofun)];exact g
     ·cases g
    ·cases g
   ·cases g
  ·cases g
 case sts x d v =>
  split at g
  ·rename_i C off c hr hc;rw[h.get hr (by nofun),h.av hc];dsimp only;split at g
   ·rename_i hd;rw[Af hd];split at g
    next o=>rw[h.get o (by nofun)];exact g
    ·cases g
   ·cases g
  ·cases g
 case aph x y k B d us =>
  split at g
  ·rename_i m I w;rw[h.av w];dsimp only;split at g
   ·rename_i hl;rw[Af hl];split at g
    next o=>rw[h.get o (by nofun)];exact h.aph0 g
    next o=>rw[h.get o (by nofun)];exact h.aph0 g
    ·rename_i cs off u o;rw[h.get o (by nofun)];dsimp only;split at g
     ·rename_i Y hr;rw[h.get hr (by nofun)];dsimp only;split at g
      ·rename_i hc;rw[Af hc];unfold iG at g;split at g
       next Q=>rw[h.get Q (by nofun)];exact g
       ·cases g
      ·cases g
     ·cases g
    ·cases g
   ·cases g
  ·cases g
 case lda x n us =>
  split at g
  next hr=>rw[h.get hr (by nofun)];exact g
  next hr=>rw[h.get hr (by nofun)];exact g
  ·cases g
 case ldz x n us zs =>
  split at g
  next hr=>rw[h.get hr (by nofun)];exact g
  next hr=>rw[h.get hr (by nofun)];exact h.ldz g
  ·cases g
 case blh z qs =>
  simp only[S] at g |-;obtain⟨v,q,e⟩:=g;exact⟨v,h.link q,e⟩
 case sta x v n us =>
  split at g
  next hr o=>rw[h.get hr (by nofun),h.get o (by nofun)];exact g
  ·cases g
 case mkw z n l =>
  split at g
  ·rename_i hn;rw[h.av hn];dsimp only;split at g
   next hl=>rw[Af (h.firm hl)];exact g
   ·cases g
  ·cases g
 case clw f xs d l =>
  split at g
  ·rename_i A;rw[h.avs A];dsimp only;split at g
   ·rename_i hl;rw[Af (A6.2 fun t R => ?_)]
    ·exact g
    ·have h1:=A6.1 hl t R;rw[h.get (r:=Ag s t) rfl (by intro e;rw[e] at h1;cases h1)];exact h1
   ·cases g
  ·cases g
 case bwh f xs us =>
  split at g
  next A=>rw[h.avsH A];exact g
  ·cases g
 case cab f x d xs =>
  split at g
  ·rename_i C hr;rw[h.get hr (by nofun)];split at g
   ·rename_i hd;subst hd;simp only[if_true];split at g
    next o A=>rw[h.get o (by nofun),h.avs A];exact g
    next o A=>rw[h.get o (by nofun),h.avs A];exact g
    ·cases g
   ·cases g
  ·cases g
 case sbn op x y =>
  split at g
  next j w=>rw[h.av j,h.av w];exact g
  ·cases g
 case sln x =>
  split at g
  next j=>rw[h.av j];exact g
  ·cases g
 case bad=>cases g
section
variable{s s':V}
theorem EH.set(h:EH s s')(d:Nat)(r:Reg):EH (s.set d r) (s'.set d r):=by
 refine⟨by simp[h.1],fun t => ?_⟩;rw[Ci,Ci,h.1];split
 ·exact .inr rfl
 ·exact h.2 t
theorem EH.puts(h:EH s s'):∀ (l:List (Nat × Reg)),EH (AE s l) (AE s' l):=by
 intro l;induction l generalizing s s' with
 | nil=>exact h
 | cons p l c=>obtain⟨t,r⟩:=p;exact c (h.set t r)
theorem EH.put(h:EH s s')(d:Option Nat)(r:Reg):EH (BD s d r) (BD s' d r):=by
 cases d with
 | none=>exact h
 | some d=>exact h.set d r
theorem Ti(h:EH s s'){g:Option (Nat × Bool)}{b:Bool}(a:Eb s g=some b):Eb s' g=some b:=by
 cases g with
 | none=>exact a
 | some p =>
  obtain⟨t,x⟩:=p;simp only[Eb] at a |-;split at a
  next hr=>rw[h.get hr (by nofun)];exact a
  next hr=>rw[h.get hr (by nofun)];exact a
  ·cases a
end
theorem sG{F:Bf}{o:IOp}{s s' t:V}(h:EH s s')(a:Dz F o s=some t):∃ t',Dz F o s'=some t'/\EH t t':=by
 have h:EH (kill s o.ks) (kill s' o.ks):=h.puts _;simp only[Dz,Gi] at a |-;generalize kill s o.ks=s at *
 generalize kill s' o.ks=s' at *
 split at a
 ·cases a
 next b=>cases a;rw[Ti h b];exact⟨_,rfl,h.put _ _⟩
 ·rename_i b;rw[Ti h b];split at a
  ·cases a
  next r l c=>cases a;rw[Abp h c];exact⟨_,rfl,(h.puts l).put _ _⟩
theorem Tj{F:Bf}:∀ {l:List IOp} {s s' t:V},EH s s'->Cx F l s=some t->∃ t',Cx F l s'=some t'/\EH t t'
 | [],s,s',t,h,a=>by
  simp only[Cx,Ab] at a;subst a;exact⟨s',rfl,h⟩
 | o::l,s,s',t,h,a=>by
  simp only[Cx] at a |-;cases h1:Dz F o s with
  | none=>rw[h1] at a;cases a
  | some c =>
   rw[h1] at a;obtain⟨d,h2,b⟩:=sG h h1;rw[h2];exact Tj b a
theorem Abq{F:Bf}:∀ (n:Nat) {c:ICode} {s s' t:V} {ex:Ex},EH s s'->B1 F n c s=some (ex,t)->∃ t',B1 F n c s'=some (ex,t')/\EH t t':=by
 intro n;induction n with
 | zero=>intro c s s' t ex _ f;simp[B1] at f
 | succ n k =>
  intro c s s' t ex h f;cases c with
  | skip=>simp only[B1,Ab,BP] at f |-;obtain⟨rfl,rfl⟩:=f;exact⟨s',⟨rfl,rfl⟩,h⟩
  | exit id=>simp only[B1,Ab,BP] at f |-;obtain⟨rfl,rfl⟩:=f;exact⟨s',⟨rfl,rfl⟩,h⟩
  | ret=>simp only[B1,Ab,BP] at f |-;obtain⟨rfl,rfl⟩:=f;exact⟨s',⟨rfl,rfl⟩,h⟩
  | region d ops =>
   simp only[B1,S] at f |-;obtain⟨o,h1,e⟩:=f;cases e;obtain⟨t',h2,g⟩:=Tj h h1;exact⟨t',⟨t',h2,rfl⟩,g⟩
  | seq a b =>
   simp only[B1] at f |-;cases h1:B1 F n a s with
   | none=>rw[h1] at f;cases f
   | some p =>
    obtain⟨l,o⟩:=p;rw[h1] at f;obtain⟨j,h2,g⟩:=k h h1;rw[h2];cases l with
    | norm=>exact k g f
    | exit i=>cases f;exact⟨j,rfl,g⟩
    | ret=>cases f;exact⟨j,rfl,g⟩
  | cond c a b =>
   simp only[B1] at f |-;have q:∀ v,J8 s c=some v->J8 s' c=some v:=by
    intro v m;unfold J8 at m |-;split at m
    next b' hb=>rw[h.av hb];exact m
    ·cases m
   split at f
   next hc=>rw[q _ hc];exact k h f
   next hc=>rw[q _ hc];exact k h f
   ·cases f
  | block id c =>
   simp only[B1] at f |-;cases h1:B1 F n c s with
   | none=>rw[h1] at f;cases f
   | some p =>
    obtain⟨l,o⟩:=p;rw[h1] at f;obtain⟨j,h2,g⟩:=k h h1;rw[h2];cases l with
    | norm=>cases f;exact⟨j,rfl,g⟩
    | ret=>cases f;exact⟨j,rfl,g⟩
    | exit i =>
     dsimp only at f |-;split at f
     next hi=>cases f;exact⟨j,by rw[Af hi],g⟩
     next hi=>cases f;exact⟨j,by rw[Ak hi],g⟩
  | scope c=>simp only[B1] at f |-;exact k h f
  | loop c =>
   simp only[B1] at f |-;cases h1:B1 F n c s with
   | none=>rw[h1] at f;cases f
   | some p =>
    obtain⟨l,o⟩:=p;rw[h1] at f;obtain⟨j,h2,g⟩:=k h h1;rw[h2];cases l with
    | norm=>exact k g f
    | exit i=>cases f;exact⟨j,rfl,g⟩
    | ret=>cases f;exact⟨j,rfl,g⟩
def B6(prog:Nat->Option IFunc)(c:ICode)(s:V)(ex:Ex)(t:V):Prop:=∃ t',CO prog c s ex t'/\EH t t'
section
variable {prog:Nat->Option IFunc}
theorem CO.w{c:ICode}{s t:V}{ex:Ex}(h:CO prog c s ex t):B6 prog c s ex t:=⟨t,h,EH.refl t⟩
theorem CO.mono{c:ICode}{s s' t:V}{ex:Ex}(h:CO prog c s ex t)(hs:EH s s'):B6 prog c s' ex t:=by
 obtain⟨n,h⟩:=h;obtain⟨t',h1,h2⟩:=Abq n hs h;exact⟨t',⟨n,h1⟩,h2⟩
theorem B6.weak{c:ICode}{s s' t t':V}{ex:Ex}(h:B6 prog c s ex t)(hs:EH s s')(a:EH t' t):B6 prog c s' ex t':=by
 obtain⟨f,h1,h2⟩:=h;obtain⟨b,d,e⟩:=h1.mono hs;exact⟨b,d,(a.trans h2).trans e⟩
theorem T{a b:ICode}{s c t:V}{ex:Ex}(h1:B6 prog a s .norm c)(h2:B6 prog b c ex t):B6 prog (.seq a b) s ex t:=by
 obtain⟨u,d,e⟩:=h1;obtain⟨v,f,g⟩:=h2.weak e (EH.refl t);exact⟨v,CO.seq d f,g⟩
theorem d{a b:ICode}{s t:V}{ex:Ex}(h1:B6 prog a s ex t)(c:ex≠.norm:=by nofun):B6 prog (.seq a b) s ex t:=by
 obtain⟨u,e,f⟩:=h1;exact⟨u,Eg e c,f⟩
theorem CO.inv{prog:Nat->Option IFunc}{a b:ICode}{s t:V}{ex:Ex}(h:CO prog (.seq a b) s ex t):(CO prog a s ex t/\ex ≠ .norm)\/∃ v,CO prog a s .norm v/\CO prog b v ex t:=by
 obtain⟨n,h⟩:=h;cases n with
 | zero=>simp[B1] at h
 | succ n =>
  simp only[B1] at h;have d:∀ {c:ICode} {s:V} {q:Ex × V},B1 (Ia prog (n+1)) n c s=some q->B1 (Ia prog (n+1)) (n+1) c s=some q:=fun f=>EP (Dn prog (Ar _)) (Abr n) f;split at h
  next v g=>exact .inr ⟨v,⟨n+1,d g⟩,⟨n+1,d h⟩⟩
  next i=>refine .inl ⟨⟨n+1,d h⟩,?_⟩;intro e;subst e;exact i _ h
theorem BZ{a b r:ICode}{s t:V}{ex:Ex}(h:B6 prog (.seq (.seq a b) r) s ex t):B6 prog (.seq a (.seq b r)) s ex t:=by
 obtain⟨u,f,g⟩:=h;refine⟨u,?_,g⟩;rcases f.inv with ⟨h1,d⟩ | ⟨v,h1,h2⟩
 ·rcases h1.inv with ⟨c,_⟩ | ⟨x,c,e⟩
  ·exact Eg c d
  ·exact CO.seq c (Eg e d)
 ·rcases h1.inv with ⟨_,d⟩ | ⟨x,c,e⟩
  ·exact absurd rfl d
  ·exact CO.seq c (CO.seq e h2)
theorem B3{p i l r:ICode}{s t:V}{ex:Ex}(h:B6 prog (.seq (.seq p i) (.seq l r)) s ex t):B6 prog (.seq p (.seq (.seq i l) r)) s ex t:=by
 obtain⟨u,e,f⟩:=h;refine⟨u,?_,f⟩;rcases e.inv with ⟨h1,a⟩ | ⟨v,h1,h2⟩
 ·rcases h1.inv with ⟨b,_⟩ | ⟨x,b,c⟩
  ·exact Eg b a
  ·exact CO.seq b (Eg (Eg c a) a)
 ·rcases h1.inv with ⟨_,a⟩ | ⟨x,b,c⟩
  ·exact absurd rfl a
  ·rcases h2.inv with ⟨d,a⟩ | ⟨y,d,g⟩
   ·exact CO.seq b (Eg (CO.seq c d) a)
   ·exact CO.seq b (CO.seq (CO.seq c d) g)
theorem B6.scope{c:ICode}{s t:V}{ex:Ex}(h:B6 prog c s ex t):B6 prog (.scope c) s ex t:=by
 obtain⟨u,a,b⟩:=h;exact⟨u,CO.scope a,b⟩
section
variable{id:Nat}{c:ICode}{s t:V}
theorem m(h:B6 prog c s (.exit id) t):B6 prog (.block id c) s .norm t:=by
 obtain⟨u,a,b⟩:=h;exact⟨u,CO.block a,b⟩
theorem n(h:B6 prog c s .ret t):B6 prog (.block id c) s .ret t:=by
 obtain⟨u,a,b⟩:=h;exact⟨u,Li a,b⟩
theorem Bc(h:B6 prog c s .norm t):B6 prog (.block id c) s .norm t:=by
 obtain⟨u,a,b⟩:=h;exact⟨u,Km a,b⟩
end
theorem Ay{c:ICode}{s a t:V}{ex:Ex}(h1:B6 prog c s .norm a)(h2:B6 prog (.loop c) a ex t):B6 prog (.loop c) s ex t:=by
 obtain⟨u,b,d⟩:=h1;obtain⟨v,e,f⟩:=h2.weak d (EH.refl t);exact⟨v,CO.loop b e,f⟩
theorem f{c:ICode}{s t:V}{ex:Ex}(h1:B6 prog c s ex t)(a:ex≠.norm:=by nofun):B6 prog (.loop c) s ex t:=by
 obtain⟨u,b,d⟩:=h1;exact⟨u,M9 b a,d⟩
theorem sH{s s':V}(h:EH s s'){r:IRes}{x:AV}(hr:DK s r=some x):DK s' r=some x:=by
 cases r with
 | tmp t =>
  simp only[DK] at hr |-;split at hr
  next y a=>rw[h.get a (by nofun)];exact hr
  next k n cs a=>rw[h.get a (by nofun)];exact hr
  ·cases hr
 | cell t n one =>
  simp only[DK] at hr |-;split at hr
  next y a=>rw[h.get a (by nofun)];exact hr
  ·cases hr
 | giv=>cases hr
theorem Nw{s s':V}(h:EH s s'):∀ {l:List IRes} {xs:List AV},CB s l=some xs->CB s' l=some xs
 | [],xs,a=>a
 | r::l,xs,a=>by
  simp only[CB] at a |-;cases h1:DK s r with
  | none=>rw[h1] at a;cases a
  | some x =>
   rw[h1] at a;rw[sH h h1];cases h2:CB s l with
   | none=>rw[h2] at a;cases a
   | some b =>
    rw[h2] at a;rw[Nw h h2];exact a
section
variable{s s':V}
theorem bK(h:EH s s'){l:List IRes}{x:AV}(a:G_ s l=some x):G_ s' l=some x:=by
 unfold G_ at a |-;split at a
 ·rename_i t;split at a
  next cs hr=>rw[h.get hr (by nofun)];exact a
  next k n cs hr=>rw[h.get hr (by nofun)];exact a
  next b k n cs hr=>rw[h.get hr (by nofun)];exact a
  ·cases a
 ·rename_i t u;split at a
  ·rename_i k n cs hr;rw[h.get hr (by nofun)];dsimp only;split at a
   next b f=>rw[h.get f (by nofun)];exact a
   ·cases a
  ·cases a
 ·rename_i t n one;split at a
  ·rename_i d hr;rw[h.get hr (by nofun)];dsimp only;split at a
   next b k m cs q=>rw[h.get q (by nofun)];exact a
   ·cases a
  ·cases a
 ·cases a
theorem QB(h:EH s s'){l:List IRes}{xs:List AV}(hf:G_ s l=none)(a:CB s l=some xs):G_ s' l=none:=by
 cases l with
 | nil=>rfl
 | cons r l =>
  cases r with
  | giv=>rfl
  | cell t n one =>
   cases l with
   | cons _ _=>rfl
   | nil =>
    simp only[G_] at hf |-;cases hr:Ag s t with
    | box cs=>rw[h.get hr (by nofun)]
    | val x=>simp only[CB,DK,hr] at a;cases a
    | own k n cs=>simp only[CB,DK,hr] at a;cases a
    | agn b k n cs=>simp only[CB,DK,hr] at a;cases a
    | bxl _=>simp only[CB,DK,hr] at a;cases a
    | ptr _ _=>simp only[CB,DK,hr] at a;cases a
    | mem _=>simp only[CB,DK,hr] at a;cases a
    | dup _=>simp only[CB,DK,hr] at a;cases a
    | sub _ _ _ _=>simp only[CB,DK,hr] at a;cases a
    | bxh _ _=>simp only[CB,DK,hr] at a;cases a
    | agh _ _=>simp only[CB,DK,hr] at a;cases a
    | bxg _=>simp only[CB,DK,hr] at a;cases a
    | dead=>simp only[CB,DK,hr] at a;cases a
  | tmp t =>
   cases l with
   | cons r2 v =>
    cases r2 with
    | cell _ _ _=>rfl
    | giv=>rfl
    | tmp u =>
     cases v with
     | cons _ _=>rfl
     | nil =>
      have f:∃ r,DK s (.tmp u)=some r:=by
       cases h1:DK s (.tmp t) with
       | none=>simp only[CB,h1] at a;cases a
       | some p =>
        cases h2:DK s (.tmp u) with
        | none=>simp only[CB,h1,h2] at a;cases a
        | some w=>exact⟨w,rfl⟩
      have o:∃ r,DK s (.tmp t)=some r:=by
       cases h1:DK s (.tmp t) with
       | none=>simp only[CB,h1] at a;cases a
       | some p=>exact⟨p,rfl⟩
      obtain⟨_,f⟩:=f;obtain⟨_,o⟩:=o;simp only[G_] at hf |-;have z:Ag s' t=Ag s t:=by
       have g:Ag s t ≠ .dead:=by
        intro e;simp only[DK,e] at o;cases o
       exact h.get rfl g
      have A:Ag s' u=Ag s u:=by
       have g:Ag s u ≠ .dead:=by
        intro e;simp only[DK,e] at f;cases f
       exact h.get rfl g
      rw[z,A];exact hf
   | nil =>
    simp only[G_] at hf |-;cases hr:Ag s t with
    | val x=>rw[h.get hr (by nofun)]
    | own k n cs=>rw[hr] at hf;cases hf
    | agn b k n cs=>rw[hr] at hf;cases hf
    | bxl _=>simp only[CB,DK,hr] at a;cases a
    | box cs=>rw[hr] at hf;cases hf
    | ptr _ _=>simp only[CB,DK,hr] at a;cases a
    | mem _=>simp only[CB,DK,hr] at a;cases a
    | dup _=>simp only[CB,DK,hr] at a;cases a
    | sub _ _ _ _=>simp only[CB,DK,hr] at a;cases a
    | bxh _ _=>simp only[CB,DK,hr] at a;cases a
    | agh _ _=>simp only[CB,DK,hr] at a;cases a
    | bxg _=>simp only[CB,DK,hr] at a;cases a
    | dead=>simp only[CB,DK,hr] at a;cases a
theorem Y1(c:EH s s'){l:List IRes}{r:AV}(hr:GV s l=some r):GV s' l=some r:=by
 unfold GV at hr |-;cases i:G_ s l with
 | some y=>rw[i] at hr;rw[bK c i];exact hr
 | none =>
  rw[i] at hr;dsimp only at hr;split at hr
  next y j=>cases hr;rw[QB c i j,Nw c j]
  ·rename_i B g j;cases hr;rw[QB c i j,Nw c j];cases B with
   | nil=>rfl
   | cons y l =>
    cases l with
    | nil=>exact (g y rfl).elim
    | cons _ _=>rfl
  ·cases hr
theorem sI(c:EH s s'){r:IRes}{x:AV}(a:Zi s r=some x):Zi s' r=some x:=by
 unfold Zi at a |-;split at a
 ·split at a
  next hr=>rw[c.get hr (by nofun)];exact a
  ·cases a
 ·split at a
  next hr=>rw[c.get hr (by nofun)];exact a
  ·cases a
 ·cases a
theorem Y2(c:EH s s'){l:List IRes}{r:AV}(hr:EY s l=some r):EY s' l=some r:=by
 unfold EY at hr |-;split at hr
 ·split at hr
  next h0 h1=>rw[c.get h0 (by nofun),sI c h1];exact hr
  ·cases hr
 ·cases hb:GV s l with
  | none=>rw[hb] at hr;cases hr
  | some y=>rw[hb] at hr;rw[Y1 c hb];exact hr
end
theorem BR{f:Nat}{fn:IFunc}{args:List AV}{s:V}{ex:Ex}{r:AV}(hf:prog f=some fn)(hl:C args=fn.params)(h:B6 prog fn.body (CX fn args) ex s)
  (a:∀ i,ex ≠ .exit i) (hr:EY s fn.res=some r):EZ prog f args r:=by
 obtain⟨u,b,c⟩:=h;refine KJ hf hl b a ?_;exact Y2 c hr
def Nx(ks:List Nat)(s:V):V:=s.zipIdx.map fun p=>if ks.contains p.2 then p.1 else .dead
theorem Lj(ks:List Nat)(s:V):EH (Nx ks s) s:=by
 refine⟨by simp[Nx],fun t => ?_⟩;simp only[Ag,Nx,Z,E5,List.getElem?_zipIdx];cases h:s[t]? with
 | none=>simp
 | some r =>
  simp only[Al,AJ,EA];split
  ·exact .inr rfl
  ·exact .inl rfl
def xK(prog:Nat->Option IFunc)(T:Bo)(n:Nat)(c:ICode)(s:V)(a:List Sc)(ks:List Nat):Option (Ex × V × List Prop) :=
 match GG prog T n c s a [] with
 | some ((ex,t),[],ps)=>some (ex,Nx ks t,ps)
 | _=>none
theorem C0{T:Bo}(b:AQ prog T)(n:Nat){c:ICode}{s t:V}{ex:Ex}(a:List Sc)(ks:List Nat){ps:List Prop}
  (h:xK prog T n c s a ks=some (ex,t,ps)) (d:Dl ps):B6 prog c s ex t:=by
 unfold xK at h;split at h
 next ex' t' e h1=>cases h;exact⟨_,KK b n a h1 d,Lj ks _⟩
 ·cases h
theorem BU{T:Bo}(b:AQ prog T)(n:Nat){c:ICode}{s t:V}{ex:Ex}(a:List Sc)(ks:List Nat){ps:List Prop}
  (d:Dl ps) (h:xK prog T n c s a ks=some (ex,t,ps):=by kernel_rfl):B6 prog c s ex t:=C0 b n a ks h d
end
theorem ac{p:Prop}{ps:List Prop}(h:p)(hs:Dl ps):Dl (p::ps):=⟨h,hs⟩
theorem a0:Dl []:=trivial
theorem Bz{prog:Nat->Option IFunc}{T:Bo}(hT:AQ prog T){f:Nat}{fn:IFunc}(hf:prog f=some fn)(n:Nat){args:List AV}(hl:C args=fn.params)(sc:List Sc){r:AV}{ps:List Prop}
  (hp:Dl ps) (h:Aia prog T n fn args sc=some (r,ps):=by kernel_rfl):EZ prog f args r:=N hT hf n hl sc h hp
theorem GJ:true=true:=rfl
theorem Dr:false=false:=rfl
theorem TI:1<=1048576:=by decide
theorem sw7:¬ (32:Int)<0:=by decide
theorem Bp{p1:Prop}(h1:p1):Dl [p1]:=⟨h1,trivial⟩
theorem GY{p1 p2:Prop}(h1:p1)(h2:p2):Dl [p1,p2]:=⟨h1,h2,trivial⟩
theorem Im{p1 p2 p3:Prop}(h1:p1)(h2:p2)(h3:p3):Dl [p1,p2,p3]:=⟨h1,h2,h3,trivial⟩
theorem Jm{p1 p2 p3 p4:Prop}(h1:p1)(h2:p2)(h3:p3)(h4:p4):Dl [p1,p2,p3,p4]:=⟨h1,h2,h3,h4,trivial⟩
theorem GK{p1 p2 p3 p4 p5:Prop}(h1:p1)(h2:p2)(h3:p3)(h4:p4)(h5:p5):Dl [p1,p2,p3,p4,p5]:=⟨h1,h2,h3,h4,h5,trivial⟩
theorem Kf{p1 p2 p3 p4 p5 p6:Prop}(h1:p1)(h2:p2)(h3:p3)(h4:p4)(h5:p5)(h6:p6):Dl [p1,p2,p3,p4,p5,p6]:=⟨h1,h2,h3,h4,h5,h6,trivial⟩
theorem Jn{p1 p2 p3 p4 p5 p6 p7:Prop}(h1:p1)(h2:p2)(h3:p3)(h4:p4)(h5:p5)(h6:p6)(h7:p7):Dl [p1,p2,p3,p4,p5,p6,p7]:=⟨h1,h2,h3,h4,h5,h6,h7,trivial⟩
theorem US{p1 p2 p3 p4 p5 p6 p7 p8:Prop}(h1:p1)(h2:p2)(h3:p3)(h4:p4)(h5:p5)(h6:p6)(h7:p7)(h8:p8):Dl [p1,p2,p3,p4,p5,p6,p7,p8]:=⟨h1,h2,h3,h4,h5,h6,h7,h8,trivial⟩
theorem Y3{p1 p2 p3 p4 p5 p6 p7 p8 p9:Prop}(h1:p1)(h2:p2)(h3:p3)(h4:p4)(h5:p5)(h6:p6)(h7:p7)(h8:p8)(h9:p9):Dl [p1,p2,p3,p4,p5,p6,p7,p8,p9]:=⟨h1,h2,h3,h4,h5,h6,h7,h8,h9,trivial⟩
theorem Ig{p1 p2 p3 p4 p5 p6 p7 p8 p9 p10:Prop}(h1:p1)(h2:p2)(h3:p3)(h4:p4)(h5:p5)(h6:p6)(h7:p7)(h8:p8)(h9:p9)(h10:p10):Dl [p1,p2,p3,p4,p5,p6,p7,p8,p9,p10]:=⟨h1,h2,h3,h4,h5,h6,h7,h8,h9,h10,trivial⟩
theorem Lk{p1 p2 p3 p4 p5 p6 p7 p8 p9 p10 p11:Prop}(h1:p1)(h2:p2)(h3:p3)(h4:p4)(h5:p5)(h6:p6)(h7:p7)(h8:p8)(h9:p9)(h10:p10)(h11:p11):Dl [p1,p2,p3,p4,p5,p6,p7,p8,p9,p10,p11]:=⟨h1,h2,h3,h4,h5,h6,h7,h8,h9,h10,h11,trivial⟩
theorem Jc{p1 p2 p3 p4 p5 p6 p7 p8 p9 p10 p11 p12:Prop}(h1:p1)(h2:p2)(h3:p3)(h4:p4)(h5:p5)(h6:p6)(h7:p7)(h8:p8)(h9:p9)(h10:p10)(h11:p11)(h12:p12):Dl [p1,p2,p3,p4,p5,p6,p7,p8,p9,p10,p11,p12]:=⟨h1,h2,h3,h4,h5,h6,h7,h8,h9,h10,h11,h12,trivial⟩
theorem LX{p1 p2 p3 p4 p5 p6 p7 p8:Prop}{l:List Prop}(h1:p1)(h2:p2)(h3:p3)(h4:p4)(h5:p5)(h6:p6)(h7:p7)(h8:p8)(h:Dl l):Dl (p1::p2::p3::p4::p5::p6::p7::p8::l):=⟨h1,h2,h3,h4,h5,h6,h7,h8,h⟩
theorem B{prog:Nat->Option IFunc}{T:Bo}(hT:AQ prog T){c:ICode}{s t:V}{ex:Ex}(sc:List Sc)(ks:List Nat){ps:List Prop}(hp:Dl ps)(h:xK prog T 400 c s sc ks=some (ex,t,ps):=by kernel_rfl):B6 prog c s ex t:=BU hT 400 sc ks hp h
def q:Sc:=.b true
def Y:Sc:=.b false
def UT:List Nat:=[0,1,4,5,6]
def sJ:List Nat:=[0,1,4,5]
def P5:List Nat:=[0,1,5,6,7]
def Z2:List Nat:=[0,2,3,4]
def P6:List Nat:=[0,2,3]
def jB:List Nat:=[0,3,4,5]
def QD:List Nat:=[0,3,4]
def Tk:List Nat:=[1,2,11,12]
def MB:List Nat:=[1,2,3,4]
def UU:List Nat:=[1,2,5,6,7]
def MD:List Nat:=[1,2,5,6]
def Tl:List Nat:=[1,2,7,8]
def Ny:List Nat:=[1,3,10]
def Tm:List Nat:=[1,3,12]
def Z3:List Nat:=[1,3,17]
def Nz:List Nat:=[1,3,4]
def Ll:List Nat:=[1,3,7]
def xL:List Nat:=[2,3,4,6,68]
def UV:List Nat:=[2,3,4,7,8,40,41,42]
def Tn:List Nat:=[2,3,4,7,8,9]
def jC:List Nat:=[2,3,4,8,106]
def Aio:List Nat:=[2,4,5,6,7,15,19,23,27]
def UW:List Nat:=[2,4,5,6,8,10,11]
def UX:List Nat:=[2,4,5,6,8,10,130,131,132]
def jD:List Nat:=[2,4,5,6,8,10,13]
def jE:List Nat:=[2,4,5,6,8,10,14]
def jF:List Nat:=[2,4,5,6,8,10,15]
def UY:List Nat:=[2,4,5,6,8,10,16]
def UZ:List Nat:=[2,4,5,6,8,10,22,23,24]
def jG:List Nat:=[2,4,5,6,8,10,56,57,58]
def jH:List Nat:=[2,4,5,6,8,10,75,76,77]
def jI:List Nat:=[2,4,5,6,8,10,98,99,100]
def jJ:List Nat:=[2,4,5,6,8,15,19,23,27]
def To:List Nat:=[2,4,5,6,9,15,19,23,27]
def sK:List Nat:=[5,7,8,9,10,11,12]
def RR:List Nat:=[8,9,10,11,12]
def N0:List Nat:=[8,9,10]
theorem A1g{prog:Nat->Option IFunc}{f:Nat}{args:List AV}{r:AV}(fn:IFunc)(s:V)(h:B6 prog fn.body (CX fn args) .ret s)(hf:prog f=some fn:=by exact rfl)(hl:C args=fn.params:=by exact rfl)(hr:EY s fn.res=some r:=by exact rfl):EZ prog f args r:=BR hf hl h (by nofun) hr
theorem bL{b:Bool}(h:b=true):(!b)=false:=by rw[h];rfl
theorem bM{b:Bool}(h:b=false):(!b)=true:=by rw[h];rfl
abbrev u:=List AV
end Go.Ai
namespace Go.Ai
open List renaming append_assoc->EU,drop->R,drop_append->Agk,drop_eq_nil_of_le->KF,getElem?_append_left->AA,getElem?_drop->C8,getElem_cons_succ->G',length->C,length_append->Ac,length_cons->BF,nil_append->C',replicate->AK,replicate_succ->Jo,set_cons_succ->iD,take_of_length_le->Ej
open Nat renaming add_mul->Ek,add_zero->Bn,mul_le_mul_right->Hf,succ_mul->Kh
open Option.some renaming injEq->Ab
variable {α:Type} {c:α->u} {k:Nat}
def H(c:α->u)(es:List α):u:=es.flatMap c
theorem HF(e:α)(es:List α):H c (e::es)=c e++H c es:=rfl
theorem U'(hc:∀ e,C (c e)=k):∀ es:List α,C (H c es)=C es*k
 | []=>by simp[H]
 | e::es=>by rw[HF,Ac,hc,U' hc es,BF,Ek];omega
theorem QE(hc:∀ e,C (c e)=k):∀ {es:List α} {i:Nat} (h:i<C es),R (i*k) (H c es)=c es[i]++H c (es.drop (i+1))
 | e::es,0,_=>by simp[HF]
 | e::es,i+1,h=>by
  have hi:i<C es:=by simpa using h
  have a:(i+1)*k=C (c e)+i*k:=by rw[hc,Ek];omega
  rw[HF,a,Agk];simp only[Nat.add_sub_cancel_left,List.drop_succ_cons,G'];rw[KF (by omega),C',QE hc hi]
theorem DP(hc:∀ e,C (c e)=k){es:List α}{i:Nat}(h:i<C es){j:Nat}(a:j<k):Ae (R j (R (i*k) (H c es))) 0 1 true=(c es[i])[j]? := by
 rw[QE hc h];simp only[Ae,if_true,C8,Bn];rw[AA (by rw[hc];exact a)]
theorem De(hc:∀ e,C (c e)=k):∀ {es:List α} {i:Nat} (_:i<C es) (e:α),BE (H c es) (i*k) (c e)=some (H c (es.set i e))
 | a::es,0,_,e=>by
  unfold BE;rw[Af (by simp[HF,hc])];simp[HF,hc]
 | a::es,i+1,h,e=>by
  have hi:i<C es:=by simpa using h
  have b:=De hc hi e;unfold BE at b |-;have hl:=U' hc es;have d:(i+1)*k=k+i*k:=by rw[Ek];omega
  have hb:i*k+k<=C es*k:=by
   have:=Hf k (Nat.succ_le_of_lt hi);rw[Kh] at this;exact this
  rw[Af (by rw[hc,hl];exact hb)] at b;rw[Af (by rw[HF,Ac,hc,hc,hl,d];omega)];simp only[Ab] at b |-;rw[iD,HF,HF,<- b,d,List.take_append,Agk,hc,hc,Ej (by rw[hc];omega),KF (by rw[hc];omega)];have f:k+i*k-k=i*k:=by omega
  have g:k+i*k+k-k=i*k+k:=by omega
  rw[f,g];simp[EU]
theorem Et(es:List α)(e:α):H c es++c e=H c (es++[e]):=by simp [H]
theorem G3(e:α):∀ n,CE (c e) n=H c (AK n e)
 | 0=>rfl
 | n+1=>by rw[Jo,HF,<- G3 e n];rfl
end Go.Ai
namespace Go.Ai
open Bool renaming and_eq_true->U,and_self->DN,false_eq_true->AC,not_eq_true'->BJ,or_eq_true->C7
open Decidable renaming decide->E
open Go.Ai.AV renaming int->A
open Int renaming le_of_dvd->Aut,le_refl->SQ,mul_add->Pv,mul_assoc->Aat,mul_comm->Gc,natAbs->Ax,natCast_pow->Arl,pow_succ->EV,pow_zero->hJ,toNat->L,zero_add->Axz
open List renaming all_eq_true->A6,cons_append->LH,drop->R,drop_eq_getElem_cons->Jf,drop_eq_nil_of_le->KF,drop_zero->DF,eq_nil_of_length_eq_zero->A_,eq_of_mem_replicate->J6,ext_getElem->Agl,flatMap_cons->MP,getD->O,getD_cons_succ->TW,getD_cons_zero->KW,getD_eq_getElem?_getD->Z,getElem?_cons_succ->Du,getElem?_cons_zero->Cb,getElem?_drop->C8,getElem?_eq_getElem->Ad,getElem?_eq_none->AS,getElem?_map->E5,getElem?_set_ne->Do,getElem?_take_of_lt->BO,length->C,length_append->Ac,length_cons->BF,length_drop->ET,length_eq_zero_iff->Uz,length_nil->Ev,length_set->Az,length_singleton->MR,map_cons->BQ,mem_cons->Aw,mem_cons_of_mem->AI,mem_cons_self->A1,mem_filter->H4,mem_map->Dv,mem_of_getElem?->aL,mem_of_mem_take->B8,mem_or_eq_of_mem_set->TE,range->A',replicate->AK,replicate_succ->Jo,set_cons_succ->iD,set_cons_zero->A0u,set_eq_take_append_cons_drop->wX,take_append_drop->Axx,take_succ_cons->MW
open Nat renaming add_assoc->Fs,add_comm->S',add_mul->Ek,add_zero->Bn,beq->Au,beq_refl->DM,eq_of_beq_eq_true->Aj,le_refl->Ar,le_succ->Abr,le_trans->AR,lt_of_lt_of_le->Ba,lt_or_ge->C6,mul_one->Kc,one_mul->A0y,pow_succ->Qp,sub_self->Tg,zero_add->AJ,zero_le->Cj
open Ne renaming symm->EG
open Option renaming isNone_iff_eq_none->I9,map_eq_some_iff->S,map_some->Al
open Option.some renaming injEq->Ab
def lm(xs:LI):u:=xs.map (A .u32)
def DJ(xs:LI):Prop:=∀ x∈xs,0<=x/\x<4294967296
def z:LI->Int
 | []=>0
 | x::xs=>x+4294967296*z xs
theorem Tp(xs:LI):C (lm xs)=C xs:=by simp [lm]
section
variable{xs:LI}{i:Nat}
theorem jK(h:i<C xs):(lm xs)[i]? = some (.int .u32 (O xs i 0)):=by
 simp[lm,E5,Ad h,Z]
theorem J2(h:i<C xs):Ae (R (i*1) (lm xs)) 0 1 true=some (.int .u32 (O xs i 0)):=by
 simp only[Ae,if_true,Kc,C8,Bn];exact jK h
theorem Aip(h:i<C xs):Ae (lm xs) (i*1) 1 true=some (.int .u32 (O xs i 0)):=by
 simp only[Ae,if_true,Kc];exact jK h
theorem jL{v:Int}(h:i<C xs):BE (lm xs) (i*1) [.int .u32 v]=some (lm (xs.set i v)):=by
 unfold BE;rw[Af (by simp[Tp];omega)];congr 1;simp only[lm,List.map_set,Kc,MR];rw[wX,Af (by simpa using h)];simp
end
theorem Abs(n:Nat):CE [.int .u32 0] n=lm (AK n 0):=by
 induction n with
 | zero=>rfl
 | succ n a=>simp only[CE,a,lm,Jo,BQ];rfl
theorem FU{xs:LI}(h:DJ xs)(i:Nat):0<=O xs i 0/\O xs i 0<4294967296:=by
 rw[Z];cases a:xs[i]? with
 | none=>simp
 | some x=>exact h x (aL a)
theorem Fa{xs:LI}(h:DJ xs):0<=z xs:=by
 induction xs with
 | nil=>exact SQ _
 | cons x xs a =>
  have h1:=h x A1;have h2:=a fun y b=>h y (AI _ b);simp only[z];omega
theorem LY(xs a:LI):z (xs++a)=z xs+4294967296^C xs*z a:=by
 induction xs with
 | nil=>simp[z]
 | cons x xs b =>
  simp only[LH,z,b,BF,EV];rw[Pv,<- Int.add_assoc];congr 1;rw[<- Aat,Gc 4294967296 (4294967296^C xs)]
theorem jM(n:Nat):z (AK n 0)=0:=by
 induction n with
 | zero=>rfl
 | succ n a=>simp[Jo,z,a]
theorem JF{xs:LI}(h:DJ xs):z xs<4294967296^C xs:=by
 induction xs with
 | nil=>simp[z]
 | cons x xs a =>
  have h1:=h x A1;have h2:=a fun y b=>h y (AI _ b);simp only[z,BF,EV];omega
theorem Z4(xs:LI)(i:Nat)(v:Int)(h:i<C xs):z (xs.set i v)=z xs+4294967296^i*(v-O xs i 0):=by
 induction xs generalizing i with
 | nil=>simp at h
 | cons x xs a =>
  cases i with
  | zero=>simp only[A0u,z,hJ,KW];omega
  | succ i =>
   simp only[iD,z,TW];rw[a i (by simpa using h),EV,Pv,<- Aat,Gc 4294967296 (4294967296^i)];omega
theorem U_{xs:LI}(h:DJ xs){i:Nat}{v:Int}(a:0<=v/\v<4294967296):DJ (xs.set i v):=by
 intro x b;rcases TE b with h1 | h1
 ·exact h x h1
 ·rw[h1];exact a
def BW(xs:LI):Nat->Nat
 | 0=>0
 | n+1=>if O xs n 0=0 then BW xs n else n+1
section
variable(xs:LI)
def l:LI:=xs.take (BW xs (C xs))
theorem N1(n:Nat):BW xs n<=n:=by
 induction n with
 | zero=>exact Ar _
 | succ n a=>simp only[BW];split <;> omega
theorem Abt(n:Nat):BW xs n=0\/O xs (BW xs n-1) 0 ≠ 0:=by
 induction n with
 | zero=>exact .inl rfl
 | succ n a =>
  simp only[BW];split
  ·exact a
  ·exact .inr (by simpa)
theorem Va(n:Nat):∀ i,BW xs n<=i->i<n->O xs i 0=0:=by
 induction n with
 | zero=>intro i _ h;omega
 | succ n a =>
  intro i h1 h2;simp only[BW] at h1;split at h1
  ·rename_i h0;by_cases hi:i=n
   ·subst hi;exact h0
   ·exact a i h1 (by omega)
  ·omega
def Hk:Prop:=DJ xs/\(xs=[]\/O xs (C xs-1) 0 ≠ 0)
end
theorem Jp{xs:LI}(h:DJ xs):Hk (l xs):=by
 have hl:=N1 xs (C xs);have b:C (l xs)=BW xs (C xs):=by simp[l];omega
 refine⟨fun x c=>h x (B8 c),?_⟩;by_cases a:BW xs (C xs)=0
 ·left;simp[l,a]
 ·right;have h0:=(Abt xs (C xs)).resolve_left a;rw[b,Z,l,BO (by omega),<- Z];exact h0
theorem TJ{xs:LI}(h:∀ i,i<C xs->O xs i 0=0):z xs=0:=by
 induction xs with
 | nil=>rfl
 | cons x xs a =>
  have h0:=h 0 (by simp);simp only[KW] at h0;subst h0;simp only[z];rw[a fun i hi=>by simpa using h (i+1) (by simpa using hi)];rfl
theorem Gm(xs:LI):z (l xs)=z xs:=by
 have e:z xs=z (xs.take (BW xs (C xs))++xs.drop (BW xs (C xs))):=by rw[Axx]
 rw[e,LY];have:z (xs.drop (BW xs (C xs)))=0:=by
  apply TJ;intro i hi;have a:BW xs (C xs)+i<C xs:=by simp at hi;omega
  have:=Va xs (C xs) (BW xs (C xs)+i) (by omega) a;rw[Z,C8,<- Z];exact this
 rw[this,Int.mul_zero,Int.add_zero];rfl
theorem Kn{x:Int}{xs:LI}(h:Hk (x::xs)):Hk xs:=by
 refine⟨fun y a=>h.1 y (AI _ a),?_⟩;cases xs with
 | nil=>exact .inl rfl
 | cons y b =>
  right;rcases h.2 with h0 | h0
  ·cases h0
  ·simpa using h0
theorem LZ:∀ {xs:LI},Hk xs->xs ≠ []->0<z xs
 | [],_,h=>absurd rfl h
 | [x],h,_=>by
  have h1:=h.1 x A1;rcases h.2 with h0 | h0
  ·cases h0
  ·simp only[MR,Tg,KW] at h0;simp only[z];omega
 | x::y::a,h,_=>by
  have h1:=h.1 x A1;have h2:=LZ (Kn h) (by simp);simp only[z] at h2 |-;omega
theorem Z5:∀ {xs a:LI},Hk xs->Hk a->z xs=z a->xs=a
 | [],[],_,_,_=>rfl
 | [],y::a,_,h2,h=>by
  have:=LZ h2 (by simp);rw[<- h] at this;simp[z] at this
 | x::xs,[],h1,_,h=>by
  have:=LZ h1 (by simp);rw[h] at this;simp[z] at this
 | x::xs,y::a,h1,h2,h=>by
  have d:=h1.1 x A1;have e:=h2.1 y A1;simp only[z] at h;have b:x=y:=by omega
  have c:z xs=z a:=by omega
  rw[b,Z5 (Kn h1) (Kn h2) c]
def L':Nat->Nat->LI
 | 0,_=>[]
 | f+1,n=>if n=0 then [] else ((n % 4294967296:Nat):Int)::L' f (n / 4294967296)
def o(n:Nat):LI:=L' (n+1) n
theorem PO:∀ (f n:Nat),n<f->Hk (L' f n)/\z (L' f n)=n/\(L' f n=[]↔n=0):=by
 intro f;induction f with
 | zero=>intro n h;omega
 | succ f b =>
  intro n h;simp only[L'];by_cases h0:n=0
  ·subst h0;simp[z,Hk,DJ]
  ·rw[Ak h0];obtain⟨c1,c2,c3⟩:=b (n / 4294967296) (by omega);have c:=Nat.mod_lt n (show 0<4294967296 by omega);refine⟨⟨?_,?_⟩,?_,by simp[h0]⟩
   ·intro x a;rcases Aw.1 a with rfl | a
    ·omega
    ·exact c1.1 x a
   ·right;cases hl:L' f (n / 4294967296) with
    | nil =>
     have:=c3.1 hl;simp;omega
    | cons y d =>
     rcases c1.2 with h1 | h1
     ·rw[hl] at h1;cases h1
     ·rw[hl] at h1;simpa using h1
   ·simp only[z,c2];omega
theorem DZ(n:Nat):Hk (o n):=(PO _ n (by omega)).1
theorem Gn(n:Nat):z (o n)=n:=(PO _ n (by omega)).2.1
theorem PP(n:Nat):o n=[]↔n=0:=(PO _ n (by omega)).2.2
theorem RS{xs:LI}(h:DJ xs):l xs=o (z xs).toNat:=by
 apply Z5 (Jp h) (DZ _);rw[Gm,Gn];have:=Fa h;omega
def B4(n:Int):AV := .agg [.bool (E (n<0)),y lm (o (Ax n))]
def HG(n:Int):AV := .frs (.st (E (n<0))) 1 (C (o (Ax n))) (lm (o (Ax n)))
theorem Vb(n:Nat):(0:Int)<4294967296^n:=Int.pow_pos (by decide)
theorem RT:∀ {xs:LI},Hk xs->xs ≠ []->(4294967296:Int)^(C xs-1)<=z xs
 | [],_,h=>absurd rfl h
 | [x],h,_=>by
  have:=LZ h (by simp);simp only[MR,Tg,hJ];omega
 | x::y::a,h,_=>by
  have h1:=h.1 x A1;have h2:=RT (Kn h) (by simp);simp only[BF,Nat.add_sub_cancel] at h2 |-;rw[EV];show _<=x+4294967296*z (y::a);omega
theorem         Tq {a b : Nat} (h : a <= b) : (4294967296 : Int) ^ a <= 4294967296 ^ b := by
  induction b with
  | zero => have : a = 0 := by omega
            subst this; exact          SQ _
  | succ b ih =>
    by_cases hh : a = b + 1
    · subst hh; exact          SQ _
    · have := ih (by omega)
      have hp :=        Vb b
      rw [          EV]; omega
theorem PQ{xs:LI}(h:Hk xs){k:Nat}(a:z xs<4294967296^k):C xs<=k:=by
 by_cases hn:xs=[]
 ·subst hn;simp
 ·have h1:=RT h hn;rcases C6 k (C xs) with h2 | h2
  ·have:=Tq (show k<=C xs-1 by omega);omega
  ·exact h2
theorem sM{n k:Nat}(h:(n:Int)<4294967296^k):C (o n)<=k:=PQ (DZ n) (by rw [Gn];exact h)
def Co(k:Nat)(n:Int):Prop:=Ax n<4294967296^k
theorem Co.len{k:Nat}{n:Int}(h:Co k n):C (o (Ax n))<=k:=by
 apply sM;have h1:(Ax n:Int)<((4294967296^k:Nat):Int):=Int.ofNat_lt.mpr h;rwa [Arl] at h1
theorem Co.mono{j k:Nat}{n:Int}(h:Co j n)(a:j<=k):Co k n:=Ba h (Nat.pow_le_pow_right (by decide) a)
theorem Co.mul{j k:Nat}{a b:Int}(c:Co j a)(hb:Co k b):Co (j+k) (a*b):=by
 unfold Co at *
 rw[Int.natAbs_mul,Nat.pow_add];exact Nat.mul_lt_mul'' c hb
theorem Co.add{j:Nat}{a b:Int}(c:Co j a)(hb:Co j b):Co (j+1) (a+b):=by
 unfold Co at *
 rw[Qp];have:=Int.natAbs_add_le a b;omega
theorem Co.neg{j:Nat}{a:Int}(b:Co j a):Co j (-a):=by
 unfold Co at *
 rwa [Int.natAbs_neg]
theorem DG{n:Int}(h : -9223372036854775808<=n/\n<=9223372036854775807):Co 2 n:=by
 unfold Co;have:(4294967296:Nat)^2=18446744073709551616:=by decide
 omega
def rv(neg:Bool)(xs:LI):Int:=if neg then -z xs else z xs
theorem Asa{neg:Bool}{xs:LI}(hu:DJ xs):Ax (rv neg xs)=(z xs).toNat:=by
 have:=Fa hu;unfold rv;cases neg <;> simp <;> omega
theorem xM(n:Int):rv (E (n<0)) (o (Ax n))=n:=by
 unfold rv;rw[Gn];by_cases h:n<0 <;> simp[h] <;> omega
theorem TK(n:Nat):C (o n)=0↔n=0:=by rw [Uz,PP]
theorem Lm(xs:LI):C (l xs)<=C xs:=by simp [l];omega
theorem Aiq{neg:Bool}{xs:LI}(hu:DJ xs):Co (C xs) (rv neg xs):=by
 unfold Co;rw[Asa hu];have h1:=Fa hu;have h2:=JF hu;have a:((4294967296^C xs:Nat):Int)=(4294967296:Int)^C xs:=by rw[Arl];rfl
 omega
theorem jN(n:Nat):DJ (o n):=(DZ n).1
def vl(xs : List Int) : Reg := .val (.sl (C xs) (lm xs))
def vi(n : Int) : Reg := .val (.int .i64 n)
theorem Ln:∀ (xs:LI) (i:Nat),z (xs.drop i)=O xs i 0+4294967296*z (xs.drop (i+1))
 | [],i=>by simp[z]
 | x::xs,0=>by simp[z]
 | x::xs,i+1=>by
  have:=Ln xs i;simpa using this
theorem Ft{xs:LI}{i:Nat}(h:C xs<=i):O xs i 0=0:=by
 simp[Z,AS h]
theorem OI{xs:LI}{i:Nat}(h:C xs<=i):z (xs.drop i)=0:=by
 rw[KF h];rfl
abbrev Rn:=Bool × LI
def AX(r:Rn):Int:=rv r.1 r.2
def cn(n:Int):Rn:=(E (n<0),o (Ax n))
def s(rs:List Rn):u:=rs.flatMap fun r=>[.bool r.1,.sl (C r.2) (lm r.2)]
def vals(rs:List Rn):LI:=rs.map AX
def pk(ps:LI):u:=s (ps.map cn)
def z0:Rn:=(false,[])
def DQ(K:Nat)(r:Rn):Prop:=DJ r.2/\C r.2<=K
def CC(r:Rn):AV := .agg [.bool r.1,.sl (C r.2) (lm r.2)]
theorem Lo(n:Int):AX (cn n)=n:=xM n
theorem jO:AX z0=0:=rfl
theorem jP(ps:LI):vals (ps.map cn)=ps:=by
 unfold vals;rw[List.map_map];have:(AX ∘ cn)=id:=funext Lo;rw[this,List.map_id]
theorem JG{k:Nat}{n:Int}(h:Co k n):DQ k (cn n):=⟨jN _,h.len⟩
theorem jQ(k:Nat):DQ k z0:=⟨fun x a=>(by cases a),Cj _⟩
theorem DQ.mono{j k:Nat}{r:Rn}(h:DQ j r)(a:j<=k):DQ k r:=⟨h.1,AR h.2 a⟩
theorem DQ.fits{k:Nat}{r:Rn}(h:DQ k r):Co k (AX r):=(Aiq h.1).mono h.2
theorem Vc(rs:List Rn):C (s rs)=C rs*2:=by
 induction rs with
 | nil=>rfl
 | cons r rs a=>simp only[s,MP,Ac,BF,Ev] at a |-;omega
theorem N2(r:Rn)(rs:List Rn):s (r::rs) = .bool r.1 :: .sl (C r.2) (lm r.2)::s rs:=rfl
theorem Vd(rs ss:List Rn):s (rs++ss)=s rs++s ss:=by simp [s]
theorem Ve:∀ (i:Nat) (rs:List Rn),(s rs).drop (i*2)=s (rs.drop i)
 | 0,rs=>by simp
 | i+1,[]=>by simp[s]
 | i+1,r::rs=>by
  rw[N2,Ek,A0y];show (s rs).drop (i*2)=_;rw[Ve i rs];rfl
theorem jR:∀ (i:Nat) (rs:List Rn),(s rs).take (i*2)=s (rs.take i)
 | 0,rs=>by simp[s]
 | i+1,[]=>by simp[s]
 | i+1,r::rs=>by
  rw[N2,Ek,A0y];show _::_::(s rs).take (i*2)=_;rw[jR i rs];rfl
section
variable{rs:List Rn}{i:Nat}
theorem jS(h:i<C rs):Ae (R (i*2) (s rs)) 0 2 false=some (CC (O rs i z0)):=by
 rw[Ve,Jf h,N2];simp[Ae,CC,Z,Ad h]
theorem Asb(h:i<C rs):Ae (s rs) (i*2) 2 false=some (CC (O rs i z0)):=by
 have h1:=jS h;have hl:=Vc rs;simp only[Ae,AC,if_false,AJ,DF,ET] at h1 |-;rw[Af (by omega)] at h1;rw[Af (by omega)];exact h1
theorem Asc{r:Rn}(h:i<C rs):BE (s rs) (i*2) [.bool r.1,.sl (C r.2) (lm r.2)]=some (s (rs.set i r)):=by
 have hl:=Vc rs;simp only[BE,BF,Ev];rw[Af (by omega)];congr 1;have hs:rs.set i r=rs.take i++r::rs.drop (i+1):=by rw[wX,Af h]
 rw[hs,Vd,N2,jR];have:(s rs).drop (i*2+(0+1+1))=s (rs.drop (i+1)):=by rw[<- Ve];congr 1;omega
 simp only[AJ] at this;rw[this];simp
end
theorem Air(n:Nat):CE [.bool false,.sl 0 []] n=s (AK n z0):=by
 induction n with
 | zero=>rfl
 | succ n a=>rw[Jo,N2,<- a];rfl
section
variable(rs:List Rn)
theorem FF:C (vals rs)=C rs:=by simp [vals]
theorem FG(i:Nat):O (vals rs) i 0=AX (O rs i z0):=by
 simp only[vals,Z,E5];cases rs[i]? <;> rfl
theorem Abu(i:Nat)(r:Rn):vals (rs.set i r)=(vals rs).set i (AX r):=by simp [vals,List.map_set]
end
theorem jT(n:Nat):vals (AK n z0)=AK n 0:=by simp [vals,jO]
theorem CY{K:Nat}{rs:List Rn}(h:∀ r∈rs,DQ K r)(i:Nat):DQ K (O rs i z0):=by
 rw[Z];cases e:rs[i]? with
 | none=>exact jQ K
 | some r=>exact h r (aL e)
theorem Abv{K:Nat}{rs:List Rn}(h:∀ r∈rs,DQ K r){i:Nat}{r:Rn}(hr:DQ K r):∀ x∈rs.set i r,DQ K x:=by
 intro x a;rcases TE a with g | g
 ·exact h x g
 ·rw[g];exact hr
theorem Ts(K n:Nat):∀ r∈AK n z0,DQ K r:=fun r hr=>by rw [J6 hr];exact jQ K
theorem Z6{k:Nat}{ps:LI}(h:∀ x∈ps,Co k x):∀ r∈ps.map cn,DQ k r:=fun r hr=>by
 obtain⟨x,a,rfl⟩:=Dv.1 hr;exact JG (h x a)
theorem sN{k:Nat}{rs:List Rn}(h:∀ r∈rs,DQ k r):∀ x∈vals rs,Co k x:=fun x a=>by
 obtain⟨r,hr,rfl⟩:=Dv.1 a;exact (h r hr).fits
theorem Z7{xs a:LI}(h:∀ i,O xs i 0=O a i 0):∀ n,BW xs n=BW a n:=by
 intro n;induction n with
 | zero=>rfl
 | succ n b=>simp only[BW,h n,b]
theorem Vf(xs:LI):∀ d,BW xs (C xs+d)=BW xs (C xs):=by
 intro d;induction d with
 | zero=>rfl
 | succ d a =>
  rw[<- Fs];simp only[BW];rw[Ft (by omega),Af rfl,a]
theorem Hl(xs:LI)(i:Nat):O (l xs) i 0=O xs i 0:=by
 unfold l;rcases C6 i (BW xs (C xs)) with h | h
 ·simp only[Z,List.getElem?_take,Af h]
 ·have e:O (xs.take (BW xs (C xs))) i 0=0:=Ft (by simp;omega);rw[e];rcases C6 i (C xs) with h2 | h2
  ·exact (Va xs (C xs) i h h2).symm
  ·exact (Ft h2).symm
theorem Abw{xs a:LI}(hl:C xs=C a)(h:∀ i,O xs i 0=O a i 0):xs=a:=by
 apply Agl hl;intro i h1 h2;have:=h i;simpa [Z,Ad h1,Ad h2] using this
theorem J3{xs a:LI}(h:∀ i,O xs i 0=O a i 0):l xs=l a:=by
 have b:C (l xs)=C (l a):=by
  have h1:∀ zs:LI,C (l zs)=BW zs (C zs):=fun zs=>by have:=N1 zs (C zs);simp[l];omega
  rw[h1,h1];rcases Nat.le_total (C xs) (C a) with g | g
  ·have:=Vf xs (C a-C xs);rw[show C xs+(C a-C xs)=C a by omega] at this;rw[<- this,Z7 h]
  ·have:=Vf a (C xs-C a);rw[show C a+(C xs-C a)=C xs by omega] at this;rw[<- this,Z7 h]
 refine Abw b fun i => ?_;rw[Hl,Hl,h i]
theorem bP(xs:LI):C (l xs)=BW xs (C xs):=by have:=N1 xs (C xs);simp [l];omega
theorem Abx{xs:LI}{x:Int}(h:x∈l xs):x∈xs:=B8 h
theorem L_(xs:LI):l (l xs)=l xs:=J3 (Hl xs)
def Br:LI->Int->Int
 | [],_=>0
 | p::ps,x=>p+x*Br ps x
theorem Tt{xs:LI}(h:∀ i,O xs i 0=0)(x:Int):Br xs x=0:=by
 induction xs with
 | nil=>rfl
 | cons p ps a =>
  have h0:=h 0;simp at h0;have:=a (fun i=>by simpa using h (i+1));simp[Br,h0,this]
theorem Vg:∀ {xs a:LI},(∀ i,O xs i 0=O a i 0)->∀ x,Br xs x=Br a x
 | [],a,h,x=>(Tt (fun i=>(h i).symm) x).symm
 | p::ps,[],h,x=>Tt (fun i=>h i) x
 | p::ps,q::qs,h,x=>by
  have h0:=h 0;simp at h0;simp only[Br,h0];rw[Vg (fun i=>by simpa using h (i+1)) x]
theorem N3(xs:LI)(x:Int):Br (l xs) x=Br xs x:=Vg (Hl xs) x
theorem N4(g:Nat->Rn)(n i:Nat):O (vals ((A' n).map g)) i 0=if i<n then AX (g i) else 0:=by
 rw[FG,Z];by_cases h:i<n
 ·simp[h]
 ·simp[h,jO]
theorem Aby(xs:LI):(A' (C xs)).map (fun i=>cn (O xs i 0))=xs.map cn:=by
 apply Agl (by simp);intro i h1 h2;have a:i<C xs:=by simpa using h2
 simp[Z,Ad a]
theorem PR{K:Nat}{g:Nat->Rn}{n:Nat}(h:∀ i,i<n->DQ K (g i)):∀ r∈(A' n).map g,DQ K r:=fun r hr=>by
 obtain⟨i,hi,rfl⟩:=Dv.1 hr;exact h i (List.mem_range.1 hi)
def HH(ps qs:LI):LI:=l ((A' (max (C ps) (C qs))).map fun i=>O ps i 0+O qs i 0)
def Hu(ps:LI):LI:=ps.map fun x => -x
theorem Ma(ps qs:LI)(i:Nat):O (HH ps qs) i 0=O ps i 0+O qs i 0:=by
 unfold HH;rw[Hl,Z];by_cases h:i<max (C ps) (C qs)
 ·simp[h]
 ·have h1:C ps<=i:=by omega
  have h2:C qs<=i:=by omega
  rw[Ft h1,Ft h2];simp[h]
theorem Vh(ps:LI)(i:Nat):O (Hu ps) i 0 = -(O ps i 0):=by
 unfold Hu;simp only[Z,E5];cases ps[i]? <;> simp
theorem PS(ps qs:LI):l (HH ps qs)=HH ps qs:=L_ _
theorem N5(xs:LI)(x:Int):Br xs x=O xs 0 0+x*Br (xs.drop 1) x:=by
 cases xs <;> simp[Br]
theorem TL:∀ (n:Nat) (us bs cs:LI),C us<=n->C bs<=n->C cs<=n->(∀ i,O cs i 0=O us i 0+O bs i 0)->∀ x,Br cs x=Br us x+Br bs x:=by
 intro n;induction n with
 | zero =>
  intro us bs cs h1 h2 a _ x;rw[A_ (by omega:C us=0),A_ (by omega:C bs=0),A_ (by omega:C cs=0)];rfl
 | succ n b =>
  intro us bs cs h1 h2 a h x;rw[N5 us,N5 bs,N5 cs,h 0,b (us.drop 1) (bs.drop 1) (cs.drop 1) (by simp;omega) (by simp;omega) (by simp;omega) (fun i=>by
   have:=h (i+1);simpa [Z,S'] using this) x]
  rw[Pv];omega
theorem Ko(ps qs:LI)(x:Int):Br (HH ps qs) x=Br ps x+Br qs x :=
 TL (max (max (C ps) (C qs)) (C (HH ps qs))) ps qs _ (by omega) (by omega) (by omega) (Ma ps qs) x
theorem N6(ps:LI)(x:Int):Br (Hu ps) x = -Br ps x:=by
 induction ps with
 | nil=>rfl
 | cons p ps ih =>
  have:Hu (p::ps) = -p::Hu ps:=rfl;rw[this];simp only[Br,ih];rw[Int.mul_neg];omega
def vp(rs : List Rn) : Reg := .val (.sl (C rs) (s rs))
def bR(r : Rn) : Reg := .box [.bool r.1, .sl (C r.2) (lm r.2)]
def bN(n : Int) : Reg := .box [.bool (decide (n < 0)), y lm (o (Ax n))]
abbrev BX:=List Rn
section
variable {prog:Nat->Option IFunc}
section
variable{c:Opd}{a b:ICode}{s t:V}{ex:Ex}
theorem Y4(h:c.av s=some (.bool true))(h1:CO prog a s ex t):CO prog (.cond c a b) s ex t:=by
 obtain⟨n,h1⟩:=h1;refine⟨n+1,?_⟩;have d:=EP (Dn prog (show n<=n+1 by omega)) (Ar n) h1;simp only[B1,J8,h,d]
theorem Y5(h:c.av s=some (.bool false))(h1:CO prog b s ex t):CO prog (.cond c a b) s ex t:=by
 obtain⟨n,h1⟩:=h1;refine⟨n+1,?_⟩;have d:=EP (Dn prog (show n<=n+1 by omega)) (Ar n) h1;simp only[B1,J8,h,d]
theorem Y6{x:Bool}(h:c.av s=some (.bool x))(e:x=true)(h1:B6 prog a s ex t):B6 prog (.cond c a b) s ex t:=by
 subst e;obtain⟨u,f,g⟩:=h1;exact⟨u,Y4 h f,g⟩
theorem Y7{x:Bool}(h:c.av s=some (.bool x))(e:x=false)(h1:B6 prog b s ex t):B6 prog (.cond c a b) s ex t:=by
 subst e;obtain⟨u,f,g⟩:=h1;exact⟨u,Y5 h f,g⟩
end
theorem Abz{id:Nat}{c:ICode}{s t:V}{i:Nat}(h:B6 prog c s (.exit i) t)(hi:i ≠ id):B6 prog (.block id c) s (.exit i) t:=by
 obtain⟨u,a,b⟩:=h;exact⟨u,Lh a hi,b⟩
theorem PT{c:ICode}{ex:Ex}{fin:V}(st:Nat->V)(n:Nat)(a:ex ≠ .norm)(step:∀ i,i<n->B6 prog c (st i) .norm (st (i+1)))(out:B6 prog c (st n) ex fin):∀ i,i<=n->B6 prog (.loop c) (st i) ex fin:=by
 have b:∀ r i,i+r=n->B6 prog (.loop c) (st i) ex fin:=by
  intro r;induction r with
  | zero =>
   intro i hi;have:i=n:=by omega
   subst this;exact f out a
  | succ r d =>
   intro i hi;exact Ay (step i (by omega)) (d (i+1) (by omega))
 intro i hi;exact b (n-i) i (by omega)
theorem B6.to{c:ICode}{ex:Ex}{s t s' t':V}(h:B6 prog c s ex t)(hs:s=s')(a:t=t'):B6 prog c s' ex t':=hs ▸ a ▸ h
end
theorem Io{X:Int}{n:Nat}(h:0<=X/\X<n):L X<n:=by omega
theorem Hm{xs:LI}{X:Int}(h:0<=X/\X<C xs):Ae (R (L X*1) (lm xs)) 0 1 true=some (.int .u32 (O xs (L X) 0)):=J2 (Io h)
theorem Hv{rs:BX}{X:Int}(h:0<=X/\X<C rs):Ae (R (L X*2) (s rs)) 0 2 false=some (CC (O rs (L X) z0)):=jS (Io h)
theorem Ais{rs:BX}{n:Nat}(hl:C rs=n){X:Int}(h:0<=X/\X<n):Ae (s rs) (L X*2) 2 false=some (CC (O rs (L X) z0)):=Asb (hl ▸ Io h)
theorem Ait{rs:BX}{n:Nat}(hl:C rs=n){X:Int}(h:0<=X/\X<n){r:Rn}:BE (s rs) (L X*2) [.bool r.1,.sl (C r.2) (lm r.2)]=some (s (rs.set (L X) r)):=Asc (hl ▸ Io h)
def li(xs:LI):u:=xs.map (A .i64)
theorem Asd{xs:LI}{i:Nat}(h:i<C xs):(li xs)[i]? = some (.int .i64 (O xs i 0)):=by
 simp[li,E5,Ad h,Z]
theorem RU{xs:LI}{X:Int}(h:0<=X/\X<C xs):Ae (R (L X*1) (li xs)) 0 1 true=some (.int .i64 (O xs (L X) 0)):=by
 simp only[Ae,if_true,Kc,C8,Bn];exact Asd (Io h)
def pp(ps:List BX):u:=ps.map fun rs => y s rs
theorem Ase{ps:List BX}{i:Nat}(h:i<C ps):(pp ps)[i]? = some (y s (O ps i [])):=by
 simp[pp,E5,Ad h,Z]
theorem RV{ps:List BX}{X:Int}(h:0<=X/\X<C ps):Ae (R (L X*1) (pp ps)) 0 1 true=some (y s (O ps (L X) [])):=by
 simp only[Ae,if_true,Kc,C8,Bn];exact Ase (Io h)
abbrev PU:=List (List BX)
def QF(l:List (List BX)):u:=l.map fun ps => y pp ps
theorem Aiu{l:List (List BX)}{i:Nat}(h:i<C l):(QF l)[i]? = some (y pp (O l i [])):=by
 simp[QF,E5,Ad h,Z]
theorem Hn{l:List (List BX)}{X:Int}(h:0<=X/\X<C l):Ae (R (L X*1) (QF l)) 0 1 true=some (y pp (O l (L X) [])):=by
 simp only[Ae,if_true,Kc,C8,Bn];exact Aiu (Io h)
section
variable {prog:Nat->Option IFunc}
theorem A7{c:ICode}{ex:Ex}{s t u:V}(ks:List Nat)(h:B6 prog c s ex t)(e:Nx ks t=u):B6 prog c s ex u:=e ▸ B6.weak h (EH.refl _) (Lj ks t)
theorem Fh{c:Opd}{a b:ICode}{s u t:V}{ex:Ex}(ks:List Nat)(h:c.av s=some (.bool true))(hu:Nx ks s=u)(h1:B6 prog a u ex t):B6 prog (.cond c a b) s ex t :=
 Y6 h rfl (h1.weak (hu ▸ Lj ks s) (EH.refl _))
theorem FV{c:Opd}{a:ICode}{s u:V}(ks:List Nat)(h:c.av s=some (.bool false))(hu:Nx ks s=u):B6 prog (.cond c a .skip) s .norm u :=
 Y7 h rfl ⟨s,⟨1,rfl⟩,hu ▸ Lj ks s⟩
end
def c(l:LI)(p:Int):u:=[.sl (C l) (li l),.int .i64 p]
def Sm(x:Int):Prop := -100000<=x/\x<=100000
structure El where
 s:ByteArray
 i:List Int
 b:Bool
def El.n(e:El)(k:Nat):Int:=O e.i k 0
def El.ok(e:El):Prop:=∀ x∈e.i,Sm x
theorem El.ok.n{e:El}(h:e.ok)(k:Nat):Sm (e.n k):=by
 unfold El.n;rw[Z];cases a:e.i[k]? with
 | none=>exact⟨by decide,by decide⟩
 | some x=>exact h x (aL a)
def bQ(e:El):Prop:=e.ok/\e.n 4<=e.n 5/\0<=e.n 8
def cI(x:Int):u:=[.int .i64 x]
def cO(b:Bool):u:=[.bool b]
section
variable(e:El)
def cB:u:=[.int .i64 (e.n 0),.int .i64 (e.n 1),.int .i64 (e.n 2),.int .i64 (e.n 3),.int .i64 (e.n 4),.int .i64 (e.n 5),.int .i64 (e.n 6)]
def cD:u:=[.str e.s,.int .i64 (e.n 0),.int .i64 (e.n 1),.int .i64 (e.n 2),.int .i64 (e.n 3)]
def cL:u:=[.str e.s,.int .i64 (e.n 0),.int .i64 (e.n 1),.int .i64 (e.n 2),.int .i64 (e.n 3),.int .i64 (e.n 4)]
def cK:u:=[.str e.s,.int .i64 (e.n 0),.int .i64 (e.n 1),.int .i64 (e.n 2),.int .i64 (e.n 3),.int .i64 (e.n 4),.int .i64 (e.n 5)]
def cR:u:=[.str e.s,.int .i64 (e.n 0),.int .i64 (e.n 1),.int .i64 (e.n 2),.int .i64 (e.n 3),.int .i64 (e.n 4),.int .i64 (e.n 5),.int .i64 (e.n 6)]
def cZ:u:=[.str e.s,.int .i64 (e.n 0),.int .i64 (e.n 1),.int .i64 (e.n 2),.int .i64 (e.n 3),.int .i64 (e.n 4),.int .i64 (e.n 5),.int .i64 (e.n 6),.int .i64 (e.n 7)]
def AU:u:=[.str e.s,.int .i64 (e.n 0),.int .i64 (e.n 1),.int .i64 (e.n 2),.int .i64 (e.n 3),.int .i64 (e.n 4),.int .i64 (e.n 5),.int .i64 (e.n 6),.int .i64 (e.n 7),.int .i64 (e.n 8)]
def p:u:=[.str e.s,.int .i64 (e.n 0),.int .i64 (e.n 1),.int .i64 (e.n 2),.int .i64 (e.n 3),.int .i64 (e.n 4),.int .i64 (e.n 5),.int .i64 (e.n 6),.int .i64 (e.n 7),.int .i64 (e.n 8),.int .i64 (e.n 9)]
def AH:u:=[.str e.s,.int .i64 (e.n 0),.int .i64 (e.n 1),.int .i64 (e.n 2),.int .i64 (e.n 3),.int .i64 (e.n 4),.int .i64 (e.n 5),.int .i64 (e.n 6),.int .i64 (e.n 7),.int .i64 (e.n 8),.int .i64 (e.n 9),.int .i64 (e.n 10)]
def cW:u:=[.str e.s,.int .i64 (e.n 0),.int .i64 (e.n 1),.int .i64 (e.n 2),.int .i64 (e.n 3),.int .i64 (e.n 4),.int .i64 (e.n 5),.int .i64 (e.n 6),.int .i64 (e.n 7),.int .i64 (e.n 8),.int .i64 (e.n 9),.int .i64 (e.n 10),.int .i64 (e.n 11)]
def cF:u:=[.str e.s,.int .i64 (e.n 0),.int .i64 (e.n 1),.int .i64 (e.n 2),.int .i64 (e.n 3),.bool e.b,.int .i64 (e.n 4),.int .i64 (e.n 5),.int .i64 (e.n 6),.int .i64 (e.n 7),.int .i64 (e.n 8),.int .i64 (e.n 9),.int .i64 (e.n 10),.int .i64 (e.n 11),.int .i64 (e.n 12)]
end
structure Tbl where
 r0:Int
 r1:Int
 r2:Int
 r3:Int
 r4:Int
 r5:Int
 r6:Int
 tr:List Int:=[]
 ws:List El:=[]
 ar:List El:=[]
 po:List El:=[]
 fl:List El:=[]
 zo:List El:=[]
 sa:List El:=[]
 la:List El:=[]
 ra:List El:=[]
 dr:List El:=[]
 ln:List El:=[]
def Vi{α:Type}(c:α->u)(es:List α):AV := .sl (C es) (H c es)
def Tbl.cs(t:Tbl):u:=[.int .i64 t.r0,.int .i64 t.r1,.int .i64 t.r2,.int .i64 t.r3,.int .i64 t.r4,.int .i64 t.r5,.int .i64 t.r6,Vi cI t.tr,Vi cW t.ws,Vi AH t.ar,Vi p t.po,Vi cF t.fl,Vi cZ t.zo,Vi AU t.sa,Vi cL t.la,Vi cR t.ra,Vi cD t.dr,Vi cK t.ln]
def Tbl.av(t:Tbl):AV := .agg t.cs
def Tbl.upto(t:Tbl)(k:Nat):u:=t.cs.take k++AK (18-k) .nil
theorem CH{α:Type}{c:α->u}{k:Nat}(hc:∀ e,C (c e)=k){es:List α}{i:Nat}(h:i<C es):Ae (R (i*k) (H c es)) 0 k false=some (.agg (c es[i])):=by
 rw[QE hc h];simp only[Ae,AC,if_false,AJ,DF];rw[Af (by rw[Ac,hc];omega),List.take_left' (hc _)]
inductive CK where
 | i (k:IntKind)
 | b
 | s
 | l
 deriving DecidableEq
inductive Ty where
 | c (k:CK)
 | g (ks:List CK)
 deriving DecidableEq
def CK.ok:CK->AV->Bool
 | .i k,.int a _=>decide (k=a)
 | .b,.bool _=>true
 | .s,.str _=>true
 | .l,.sl _ _=>true
 | _,_=>false
def Dc:List CK->u->Bool
 | [],[]=>true
 | k::ks,c::cs=>k.ok c&&Dc ks cs
 | _,_=>false
def Ty.ok:Ty->AV->Bool
 | .c k,x=>k.ok x
 | .g ks,.agg cs=>Dc ks cs
 | _,_=>false
inductive En where
 | v (t:Ty)
 | box (ks:List CK)
 | ptr (d off:Nat)
 deriving DecidableEq
def En.ok:En->Reg->Bool
 | .v t,.val x=>t.ok x
 | .box ks,.box cs=>Dc ks cs
 | .ptr d o,.ptr a o'=>Au d a&&Au o o'
 | _,_=>false
structure Ent where
 t:Nat
 e:En
 g:Option (Nat × Bool)
abbrev MS:=List Ent
def Y8(t:Nat):MS->Option Ent
 | []=>none
 | x::l=>if x.t=t then some x else Y8 t l
theorem JH{t:Nat}:∀ {l:MS} {x:Ent},Y8 t l=some x->x∈l/\x.t=t
 | [],_,h=>by cases h
 | y::l,x,h=>by
  simp only[Y8] at h;split at h
  next e=>cases h;exact⟨A1 ..,e⟩
  ·obtain⟨h1,h2⟩:=JH h;exact⟨AI _ h1,h2⟩
def jU:Reg->Bool
 | .val .undef=>true
 | _=>false
def Vj(b:Bool):Reg->Bool
 | .val (.bool c)=>c==b
 | _=>false
def Ent.ok(x:Ent)(s:V):Prop :=
 match x.g with
 | none=>x.e.ok (Ag s x.t)=true
 | some (j,b)=>(x.e.ok (Ag s x.t)=true\/jU (Ag s x.t)=true)/\(Vj b (Ag s j)=true->x.e.ok (Ag s x.t)=true)
def KN(l:MS)(s:V):Prop:=∀ x∈l,x.ok s
def QG:MS->V->Bool
 | [],_=>true
 | x::l,s=>(x.g.isNone&&x.e.ok (Ag s x.t))&&QG l s
theorem Z8:∀ {l:MS} {s:V},QG l s=true->KN l s
 | [],_,_=>fun x a=>by cases a
 | y::l,s,h=>by
  simp only[QG,U] at h;intro x a;rcases Aw.1 a with rfl | a
  ·have:=h.1;unfold Ent.ok;cases b:x.g with
   | none=>exact this.2
   | some q=>rw[b] at this;cases this.1
  ·exact Z8 h.2 x a
def jV(g a:Option (Nat × Bool)):Bool :=
 match a with
 | none=>true
 | some (j,b)=>match g with
  | some (i,c)=>Au i j&&(b==c)
  | none=>false
def Ho(l:MS)(g:Option (Nat × Bool)):Opd->Option Ty
 | .c (.int k _)=>some (.c (.i k))
 | .c (.bool _)=>some (.c .b)
 | .c _=>none
 | .t t=>match Y8 t l with
  | some x=>match x.e with
   | .v a=>if jV g x.g then some a else none
   | _=>none
  | none=>none
def T_(l:MS)(g:Option (Nat × Bool)):List Opd->Option (List Ty)
 | []=>some []
 | o::os=>match Ho l g o,T_ l g os with
  | some t,some a=>some (t::a)
  | _,_=>none
def N7:List Ty->u->Bool
 | [],[]=>true
 | t::a,x::xs=>t.ok x&&N7 a xs
 | _,_=>false
abbrev bS:=List (Nat × List Ty × Ty)
def bU(f:Nat)(a:List Ty):bS->Option Ty
 | []=>none
 | (b,ts',t)::l=>if f=b/\a=ts' then some t else bU f a l
def Azh:BinOp->Bool
 | .add | .sub | .mul=>true
 | _=>false
def Azi:BinOp->Bool
 | .eql | .neq | .lss | .leq | .gtr | .geq=>true
 | _=>false
def plain:Ty->Bool
 | .c _=>true
 | _=>false
def Aiv(sg:bS)(l:MS)(g:Option (Nat × Bool)):K->Option En
 | .mov x=>(Ho l g x).map .v
 | .pick c a b=>match c with
  | .t j=>match Ho l g (.t j),Ho l (some (j,true)) a,Ho l (some (j,false)) b with
   | some (.c .b),some h,some p=>if h=p then (match g with
    | none=>some (.v h)
    | some _=>match Ho l g a,Ho l g b with
     | some _,some _=>some (.v h)
     | _,_=>none) else none
   | _,_,_=>none
  | _=>none
 | .bin op x y=>match Ho l g x,Ho l g y with
  | some (.c (.i k)),some (.c (.i q))=>if k=q then (if Azh op then some (.v (.c (.i k))) else if Azi op then some (.v (.c .b)) else none) else none
  | _,_=>none
 | .eqb _ x y=>match Ho l g x,Ho l g y with
  | some (.c .b),some (.c .b)=>some (.v (.c .b))
  | _,_=>none
 | .un .not x=>match Ho l g x with
  | some (.c .b)=>some (.v (.c .b))
  | _=>none
 | .adr x d off=>match Y8 x l with
  | some e=>if jV g e.g then (match e.e with
   | .box _=>if x=d then some (.ptr d off) else none
   | .ptr m o=>if m=d then some (.ptr d (o+off)) else none
   | _=>none) else none
  | none=>none
 | .ld x d n one=>match Y8 x l with
  | some e=>if jV g e.g then (match e.e with
   | .ptr m off=>if m=d then (match Y8 d l with
    | some b=>match b.g,b.e with
     | none,.box ks=>if one then (ks[off]?).map fun k => .v (.c k) else if off+n<=C ks then some (.v (.g ((ks.drop off).take n))) else none
     | _,_=>none
    | none=>none) else none
   | .box ks=>if x=d then (if one then (ks[0]?).map fun k => .v (.c k) else if 0+n<=C ks then some (.v (.g ((ks.drop 0).take n))) else none) else none
   | _=>none) else none
  | none=>none
 | .len x=>match Ho l g x with
  | some (.c .l)=>some (.v (.c (.i .i64)))
  | _=>none
 | .call f xs=>match T_ l g xs with
  | some r=>match bU f r sg with
   | some t=>if plain t then some (.v t) else none
   | none=>none
  | none=>none
 | _=>none
def gOk(l:MS):Option (Nat × Bool)->Bool
 | none=>true
 | some (j,_)=>match Y8 j l with
  | some x=>decide (x.e = .v (.c .b))
  | none=>false
def Vk(d:Nat)(x:Ent):Bool :=
 !(Au x.t d)&&(match x.g with | some (j,_) => !(Au j d) | none=>true)
def sO(sg:bS)(l:MS)(o:IOp):Option MS :=
 match o.dst with
 | some d=>if o.ks.isEmpty&&gOk l o.g&&(match o.g with | some (j,_) => !(Au j d) | none=>true) then (Aiv sg l o.g o.k).map fun e=>⟨d,e,o.g⟩::l.filter (Vk d) else none
 | none=>none
def chk(sg:bS):MS->List IOp->Option MS
 | l,[]=>some l
 | l,o::os=>match sO sg l o with
  | some a=>chk sg a os
  | none=>none
def RW(prog:Nat->Option IFunc)(sg:bS):Prop:=∀ f a t,(f,a,t)∈sg->∀ args,N7 a args=true->∃ r,EZ prog f args r/\t.ok r=true
theorem Vl{f:Nat}{a:List Ty}:∀ {sg:bS} {t:Ty},bU f a sg=some t->(f,a,t)∈sg
 | [],_,h=>by cases h
 | (b,ts',t')::l,t,h=>by
  simp only[bU] at h;split at h
  next e=>cases h;rw[e.1,e.2];exact A1 ..
  ·exact AI _ (Vl h)
theorem QH:∀ {ks:List CK} {cs:u},Dc ks cs=true->C ks=C cs
 | [],[],_=>rfl
 | [],_::_,h=>by cases h
 | _::_,[],h=>by cases h
 | k::ks,c::cs,h=>by
  simp only[Dc,U] at h;simp[QH h.2]
theorem QI:∀ {ks:List CK} {cs:u} {i:Nat} {k:CK},Dc ks cs=true->ks[i]? = some k->∃ c,cs[i]? = some c/\k.ok c=true
 | [],[],_,_,_,h=>by simp at h
 | [],_::_,_,_,h,_=>by cases h
 | _::_,[],_,_,h,_=>by cases h
 | k::ks,c::cs,i,a,h,hi=>by
  simp only[Dc,U] at h;cases i with
  | zero=>simp only[Cb,Ab] at hi;subst hi;exact⟨c,rfl,h.1⟩
  | succ i=>simp only[Du] at hi |-;exact QI h.2 hi
theorem P7:∀ (n:Nat) {ks:List CK} {cs:u},Dc ks cs=true->Dc (ks.drop n) (cs.drop n)=true
 | 0,_,_,h=>h
 | _+1,[],[],h=>h
 | _+1,[],_::_,h=>by cases h
 | _+1,_::_,[],h=>by cases h
 | n+1,k::ks,c::cs,h=>by
  simp only[Dc,U] at h;exact P7 n h.2
theorem P8:∀ (n:Nat) {ks:List CK} {cs:u},Dc ks cs=true->Dc (ks.take n) (cs.take n)=true
 | 0,_,_,_=>rfl
 | _+1,[],[],h=>h
 | _+1,[],_::_,h=>by cases h
 | _+1,_::_,[],h=>by cases h
 | n+1,k::ks,c::cs,h=>by
  simp only[Dc,U] at h;simp only[MW,Dc,U];exact⟨h.1,P8 n h.2⟩
theorem jW{ks:List CK}{cs:u}(h:Dc ks cs=true){off n:Nat}{one:Bool}{e:En}
  (a:(if one then (ks[off]?).map fun k=>En.v (.c k) else if off+n<=C ks then some (.v (.g ((ks.drop off).take n))) else none)=some e):∃ v,Ae cs off n one=some v/\e.ok (.val v)=true:=by
 unfold Ae;cases one with
 | true =>
  simp only[if_true,S] at a |-;obtain⟨k,b,rfl⟩:=a;obtain⟨c,h1,h2⟩:=QI h b;exact⟨c,h1,h2⟩
 | false =>
  simp only[AC,if_false] at a |-;split at a
  next hn=>cases a;rw[Af (by rw[<- QH h];exact hn)];exact⟨_,rfl,P8 n (P7 off h)⟩
  ·cases a
theorem Z9{x:AV}(h:Ty.ok (.c .b) x=true):∃ b,x = .bool b:=by
 cases x <;> first | exact⟨_,rfl⟩ | cases h
theorem Aus{k:IntKind}{x:AV}(h:Ty.ok (.c (.i k)) x=true):∃ n,x = .int k n:=by
 cases x <;> first | (cases h;done) | skip
 simp only[Ty.ok,CK.ok,Dm] at h;exact⟨_,by rw[h]⟩
theorem ty_l{x:AV}(h:Ty.ok (.c .l) x=true):∃ n cs,x = .sl n cs:=by
 cases x <;> first | exact⟨_,_,rfl⟩ | cases h
theorem enV{t:Ty}{r:Reg}(h:En.ok (.v t) r=true):∃ x,r = .val x/\t.ok x=true:=by
 cases r <;> first | exact⟨_,rfl,h⟩ | cases h
theorem sP{ks:List CK}{r:Reg}(h:En.ok (.box ks) r=true):∃ cs,r = .box cs/\Dc ks cs=true:=by
 cases r <;> first | exact⟨_,rfl,h⟩ | cases h
theorem Aiw{d o:Nat}{r:Reg}(h:En.ok (.ptr d o) r=true):r = .ptr d o:=by
 cases r <;> first | (cases h;done) | skip
 simp only[En.ok,U] at h;rw[Aj h.1,Aj h.2]
theorem HI{s:V}{d:Nat}{r:Reg}(h:d<C s):Ag (s.set d r) d=r:=by rw [Ci,Af ⟨rfl,h⟩]
section
variable {prog:Nat->Option IFunc} {sg:bS} {l:MS} {s:V}
def GH(s:V):Option (Nat × Bool)->Prop
 | none=>True
 | some (j,b)=>Vj b (Ag s j)=true
theorem bV(hs:KN l s){g:Option (Nat × Bool)}(d:GH s g){x:Ent}(f:x∈l)(hu:jV g x.g=true):x.e.ok (Ag s x.t)=true:=by
 have h:=hs x f;unfold Ent.ok at h;cases a:x.g with
 | none=>rw[a] at h;exact h
 | some q =>
  obtain⟨j,b⟩:=q;rw[a] at h hu;cases g with
  | none=>cases hu
  | some q =>
   obtain⟨i,c⟩:=q;simp only[jV,U,AW] at hu;have k:=Aj hu.1;refine h.2 ?_;rw[<- k,hu.2];exact d
theorem Fu(hs:KN l s){g:Option (Nat × Bool)}(a:GH s g){o:Opd}{t:Ty}(h:Ho l g o=some t):∃ x,o.av s=some x/\t.ok x=true:=by
 unfold Ho at h;split at h
 ·cases h;exact⟨_,rfl,by simp[Ty.ok,CK.ok]⟩
 ·cases h;exact⟨_,rfl,rfl⟩
 ·cases h
 ·rename_i t';split at h
  ·rename_i x b;split at h
   ·rename_i f c;split at h
    next hu=>cases h;obtain⟨h1,h2⟩:=JH b;have:=bV hs a h1 hu;rw[c,h2] at this;obtain⟨v,d,e⟩:=enV this;exact⟨v,by simp only[Opd.av,Opd.reg,d],e⟩
    ·cases h
   ·cases h
  ·cases h
theorem Vm(hs:KN l s){g:Option (Nat × Bool)}(b:GH s g):∀ {os:List Opd} {a:List Ty},T_ l g os=some a->∃ xs,avs s os=some xs/\N7 a xs=true
 | [],_,h=>by cases h;exact⟨[],rfl,rfl⟩
 | o::os,a,h=>by
  simp only[T_] at h;split at h
  next t ts' h1 h2=>cases h;obtain⟨x,c,d⟩:=Fu hs b h1;obtain⟨xs,e,f⟩:=Vm hs b h2;exact⟨x::xs,by simp only[avs,c,e],by simp only[N7,d,f,DN]⟩
  ·cases h
theorem jX{t:Ty}(a:plain t=true){r:AV}(h:t.ok r=true):KZ r=r:=by
 cases t with
 | g ks=>cases a
 | c k=>cases k <;> cases r <;> first | rfl | cases h
theorem jY(L:RW prog sg)(hs:KN l s){g:Option (Nat × Bool)}(z:GH s g){k:K}{e:En}(h:Aiv sg l g k=some e):∃ n r,A2 (Ia prog n) s k=some (r,[])/\e.ok r=true:=by
 cases k <;> simp only[Aiv] at h <;> try (cases h;done)
 case mov x =>
  simp only[S] at h;obtain⟨t,h1,rfl⟩:=h;obtain⟨v,i,p⟩:=Fu hs z h1;exact⟨0,.val v,by simp only[A2,i,Al],p⟩
 case pick c a b =>
  split at h
  case h_2=>cases h
  rename_i j;split at h
  case h_2=>cases h
  rename_i M tb h1 h2 N;split at h
  case isFalse=>cases h
  rename_i O;subst O;obtain⟨v,i,p⟩:=Fu hs z h1;obtain⟨cv,rfl⟩:=Z9 p;have J:Ag s j = .val (.bool cv):=by
   simp only[Opd.av,Opd.reg] at i;split at i
   next x P=>cases i;exact P
   ·cases i
  have Q:e = .v M:=by
   split at h
   ·cases h;rfl
   ·split at h <;> cases h;rfl
  subst Q;cases cv with
  | true =>
   obtain⟨x,u,A⟩:=Fu hs (g:=some (j,true)) (by simp only[GH,J];rfl) h2;exact⟨0,.val x,by simp only[A2,i,u,Al],A⟩
  | false =>
   obtain⟨x,u,A⟩:=Fu hs (g:=some (j,false)) (by simp only[GH,J];rfl) N;exact⟨0,.val x,by simp only[A2,i,u,Al],A⟩
 case bin op x y =>
  split at h
  case h_2=>cases h
  rename_i k k' h1 h2;split at h
  case isFalse=>cases h
  rename_i D;subst D;obtain⟨v,i,p⟩:=Fu hs z h1;obtain⟨w,u,A⟩:=Fu hs z h2;obtain⟨m,rfl⟩:=Aus p;obtain⟨n,rfl⟩:=Aus A;split at h
  next E=>cases h;cases op <;> first | (cases E;done) | exact⟨0,_,by simp only[A2,i,u,J7,GT,AC,if_false,if_true,U2,Al];rfl,by simp[En.ok,Ty.ok,CK.ok]⟩
  ·split at h
   next E=>cases h;cases op <;> first | (cases E;done) | exact⟨0,_,by simp only[A2,i,u,J7,GT,AC,if_false,if_true,U2,wY,Al];rfl,rfl⟩
   ·cases h
 case eqb neg x y =>
  split at h
  case h_2=>cases h
  rename_i h1 h2;cases h;obtain⟨v,i,p⟩:=Fu hs z h1;obtain⟨w,u,A⟩:=Fu hs z h2;obtain⟨m,rfl⟩:=Z9 p;obtain⟨n,rfl⟩:=Z9 A;exact⟨0,_,by simp only[A2,i,u];rfl,rfl⟩
 case un op x =>
  cases op <;> simp only at h <;> try (cases h;done)
  split at h
  case h_2=>cases h
  rename_i h1;cases h;obtain⟨v,i,p⟩:=Fu hs z h1;obtain⟨m,rfl⟩:=Z9 p;exact⟨0,_,by simp only[A2,i,unA,Al];rfl,rfl⟩
 case adr x d off =>
  split at h
  case h_2=>cases h
  rename_i q F;split at h
  case isFalse=>cases h
  rename_i hu;obtain⟨G,H⟩:=JH F;have ho:=bV hs z G hu;rw[H] at ho;split at h
  next ks B=>rw[B] at ho;split at h <;> cases h;rename_i I;obtain⟨cs,i,_⟩:=sP ho;exact⟨0,.ptr d off,by simp only[A2,i,Af I],by simp[En.ok]⟩
  next R o B=>rw[B] at ho;split at h <;> cases h;rename_i I;have i:=Aiw ho;exact⟨0,.ptr d (o+off),by simp only[A2,i,Af I],by simp[En.ok]⟩
  ·cases h
 case ld x d n one =>
  split at h
  case h_2=>cases h
  rename_i q F;split at h
  case isFalse=>cases h
  rename_i hu;obtain⟨G,H⟩:=JH F;have ho:=bV hs z G hu;rw[H] at ho;split at h
  ·rename_i R off B;rw[B] at ho;split at h
   case isFalse=>cases h
   rename_i hd;split at h
   case h_2=>cases h
   rename_i T hb;split at h
   case h_2=>cases h
   rename_i ks U V;obtain⟨W,X⟩:=JH hb;have C:=hs T W;unfold Ent.ok at C;rw[U] at C;simp only at C;rw[V,X] at C;obtain⟨cs,i,p⟩:=sP C;obtain⟨v,u,A⟩:=jW p h;exact⟨0,.val v,by simp only[A2,Aiw ho,Af hd,i,u,Al],A⟩
  ·rename_i ks B;rw[B] at ho;split at h
   case isFalse=>cases h
   rename_i hd;obtain⟨cs,i,p⟩:=sP ho;obtain⟨v,u,A⟩:=jW p h;exact⟨0,.val v,by simp only[A2,i,Af hd,u,Al],A⟩
  ·cases h
 case len x =>
  split at h
  case h_2=>cases h
  rename_i h1;cases h;obtain⟨v,i,p⟩:=Fu hs z h1;obtain⟨m,cs,rfl⟩:=ty_l p;exact⟨0,_,by simp only[A2,i];rfl,by simp[En.ok,Ty.ok,CK.ok]⟩
 case call f xs =>
  split at h
  case h_2=>cases h
  rename_i Y h1;split at h
  case h_2=>cases h
  rename_i t h2;split at h
  case isFalse=>cases h
  rename_i Z;cases h;obtain⟨vs,i,p⟩:=Vm hs z h1;obtain⟨r,⟨n,hr⟩,D⟩:=L f Y t (Vl h2) vs p;exact⟨n,.val r,by simp only[A2,i,hr,Al,jX Z D],D⟩
theorem Ent.put{x:Ent}{d:Nat}{r:Reg}(h:x.ok s)(a:Vk d x=true):x.ok (s.set d r):=by
 simp only[Vk,U,BJ] at a;have i:x.t ≠ d:=fun e=>by rw[e,DM] at a;exact absurd a.1 (by decide)
 have c:Ag (s.set d r) x.t=Ag s x.t:=G0 (EG i);unfold Ent.ok at h |-;cases f:x.g with
 | none=>rw[f] at h;simp only at h |-;rw[c];exact h
 | some q =>
  obtain⟨j,b⟩:=q;rw[f] at h a;have k:j ≠ d:=fun e=>by
   have:=a.2;simp only[e,DM] at this;cases this
  simp only at h |-;rw[c,G0 (EG k)];exact h
theorem Aca(G:RW prog sg)(hs:KN l s){o:IOp}{H:MS}(h:sO sg l o=some H)(hd:∀ d,o.dst=some d->d<C s):∃ n d r,o.dst=some d/\Dz (Ia prog n) o s=some (s.set d r)/\KN H (s.set d r):=by
 unfold sO at h;split at h
 case h_2=>cases h
 rename_i d i;rw[Option.ite_none_right_eq_some] at h;obtain⟨hc,h⟩:=h;simp only[U] at hc;obtain⟨⟨K,p⟩,I⟩:=hc;simp only[S] at h;obtain⟨e,w,rfl⟩:=h;have A:=hd d i;have B:kill s o.ks=s:=by
  have:o.ks=[]:=by simpa using K
  rw[this];rfl
 have D:∀ r:Reg,∀ x∈l.filter (Vk d),x.ok (s.set d r):=fun r x a=>by
  rw[H4] at a;exact Ent.put (hs x a.1) a.2
 cases t:o.g with
 | none =>
  rw[t] at w;obtain⟨n,r,E,z⟩:=jY G hs (g:=none) trivial w;refine⟨n,d,r,i,?_,?_⟩
  ·simp only[Dz,B,Gi,t,Eb,E,i,BD,AE]
  ·intro x a;rcases Aw.1 a with rfl | a
   ·simp only[Ent.ok];rw[HI A];exact z
   ·exact D r x a
 | some q =>
  obtain⟨j,b⟩:=q;rw[t] at w p I;simp only[gOk] at p;split at p
  case h_2=>cases p
  rename_i y L;simp only[Dm] at p;obtain⟨M,N⟩:=JH L;have O:j ≠ d:=fun e=>by
   have:=I;simp only[e,DM] at this;cases this
  have k:(∃ c,Ag s j = .val (.bool c))\/Ag s j = .val .undef:=by
   have u:=hs y M;unfold Ent.ok at u;rw[p,N] at u;have hb:∀ {r:Reg},En.ok (.v (.c .b)) r=true->∃ c,r = .val (.bool c):=fun h=>by
    obtain⟨x,rfl,h2⟩:=enV h;obtain⟨c,rfl⟩:=Z9 h2;exact⟨c,rfl⟩
   split at u
   ·exact .inl (hb u)
   ·rcases u.1 with h1 | h1
    ·exact .inl (hb h1)
    ·right;unfold jU at h1;split at h1
     next hr=>exact hr
     ·cases h1
  have undef:Eb s (some (j,b))=some false->∃ n F r,o.dst=some F/\Dz (Ia prog n) o s=some (s.set F r)/\KN (⟨d,e,some (j,b)⟩::l.filter (Vk d)) (s.set F r):=by
   intro f;refine⟨0,d,.val .undef,i,?_,?_⟩
   ·simp only[Dz,B,Gi,t,f,i,BD]
   ·intro x a;rcases Aw.1 a with rfl | a
    ·simp only[Ent.ok];rw[HI A,G0 (EG O)];refine⟨.inr rfl,fun m => ?_⟩;exfalso;simp only[Eb] at f;split at f
     next c hc=>rw[hc] at m;simp only[Vj] at m;rw[m] at f;cases f
     next hc=>rw[hc] at m;cases m
     ·cases f
    ·exact D _ x a
  rcases k with ⟨c,k⟩ | k
  ·by_cases J:c=b
   ·subst J;have m:Vj c (Ag s j)=true:=by rw[k];simp[Vj]
    obtain⟨n,r,E,z⟩:=jY G hs (g:=some (j,c)) m w;refine⟨n,d,r,i,?_,?_⟩
    ·have f:Eb s (some (j,c))=some true:=by simp only[Eb,k];simp
     simp only[Dz,B,Gi,t,f,E,i,BD,AE]
    ·intro x a;rcases Aw.1 a with rfl | a
     ·simp only[Ent.ok];rw[HI A];exact⟨.inl z,fun _=>z⟩
     ·exact D r x a
   ·exact undef (by simp only[Eb,k];simp[J])
  ·exact undef (by simp only[Eb,k])
def N8:List IOp->List Nat
 | []=>[]
 | o::l=>match o.dst with
  | some d=>d::N8 l
  | none=>N8 l
theorem xN(c:RW prog sg):∀ {ops:List IOp} {l a:MS} {s:V},KN l s->chk sg l ops=some a->(∀ d∈N8 ops,d<C s)->∃ n s',Cx (Ia prog n) ops s=some s'/\KN a s'/\C s'=C s/\∀ t,t ∉ N8 ops->Ag s' t=Ag s t
 | [],l,a,s,hs,h,_=>by cases h;exact⟨0,s,rfl,hs,rfl,fun _ _=>rfl⟩
 | o::ops,l,a,s,hs,h,hd=>by
  simp only[chk] at h;split at h
  case h_2=>cases h
  rename_i x h1;obtain⟨n,d,r,f,g,i⟩:=Aca c hs h1 (fun d j=>hd d (by simp only[N8,j];exact A1 ..));have e:N8 (o::ops)=d::N8 ops:=by simp only[N8,f]
  obtain⟨m,s',k,p,q,u⟩:=xN c i h (fun v w=>by rw[Az];exact hd v (by rw[e];exact AI _ w));refine⟨max n m,s',?_,p,by rw[q,Az],fun t b => ?_⟩
  ·simp only[Cx,UL (Dn prog (Nat.le_max_left n m)) g];exact J1 (Dn prog (Nat.le_max_right n m)) k
  ·rw[e,Aw,not_or] at b;rw[u t b.2,G0 (EG b.1)]
def sQ:Reg->Bool
 | .dead=>true
 | _=>false
theorem Azj(m:RW prog sg){dr:Bool}{ops:List IOp}{l i:MS}{s:V}(x:Nat)(hs:QG l s=true)(hc:chk sg l ops=some i)(a:(match Y8 x i with | some e=>decide (e.e = .v (.c .b))&&e.g.isNone | none=>false)=true)
  (hd:(N8 ops).all (fun d=>decide (d<C s)&&(Au d x || sQ (Ag s d)))=true) (j:decide (x<C s)=true):∃ b,B6 prog (.region dr ops) s .norm (s.set x (.val (.bool b))):=by
 simp only[A6,U,Dm] at hd j;obtain⟨n,s',o,p,q,r⟩:=xN m (Z8 hs) hc (fun d h=>(hd d h).1);split at a
 case h_2=>cases a
 rename_i e u;simp only[U,Dm,I9] at a;obtain⟨w,y⟩:=JH u;have ho:=p e w;unfold Ent.ok at ho;rw[a.2] at ho;simp only at ho;rw[a.1,y] at ho;obtain⟨v,z,A⟩:=enV ho;obtain⟨b,rfl⟩:=Z9 A;refine⟨b,s',⟨n+1,?_⟩,?_,fun t => ?_⟩
 ·have:Cx (Ia prog (n+1)) ops s=some s':=J1 (Dn prog (Abr n)) o;simp only[B1,this,Al]
 ·rw[Az,q]
 ·by_cases f:t=x
  ·subst f;right;rw[HI j,z]
  ·rw[G0 (EG f)];by_cases k:t∈N8 ops
   ·left;have:=(hd t k).2;simp only[C7] at this;rcases this with h | h
    ·exact absurd (Aj h) f
    ·unfold sQ at h;split at h
     next hr=>exact hr
     ·cases h
   ·right;rw[r t k]
end
section
variable {prog:Nat->Option IFunc}
theorem B6.keep{c:ICode}{ex:Ex}{s t t':V}(ks:List Nat)(h:B6 prog c s ex t)(e:Nx ks t=t'):B6 prog c s ex t':=e ▸ B6.weak h (EH.refl _) (Lj ks t)
end
theorem sR(xs:LI)(i:Nat)(v x:Int)(h:i<C xs):Br (xs.set i v) x=Br xs x+x^i*(v-O xs i 0):=by
 induction xs generalizing i with
 | nil=>simp at h
 | cons p ps a =>
  cases i with
  | zero=>simp only[A0u,Br,hJ,KW];omega
  | succ i =>
   simp only[iD,Br,TW];rw[a i (by simpa using h),EV];generalize x^i=q;generalize Br ps x=y;generalize O ps i 0=z;grind
theorem bW(n:Nat)(x:Int):Br (AK n 0) x=0:=by
 induction n with
 | zero=>rfl
 | succ n a=>simp[Jo,Br,a]
theorem Aix:∀ (d:LI) (b:Int),(∀ x,b<=x->Br d x=0)->∀ i,O d i 0=0
 | [],_,_,i=>by simp
 | c::d,b,h,i=>by
  have hc:c=0:=by
   have h1:=h (max b (Ax c+1)) (by omega);simp only[Br] at h1;have h2:(max b ((Ax c:Int)+1))∣c:=⟨-(Br d (max b ((Ax c:Int)+1))),by rw[Int.mul_neg];omega⟩;rcases Int.lt_trichotomy c 0 with g | g | g
   ·have:=Aut (a:=max b ((Ax c:Int)+1)) (b := -c) (by omega) ((Int.dvd_neg).2 h2);omega
   ·exact g
   ·have:=Aut (a:=max b ((Ax c:Int)+1)) (b:=c) (by omega) h2;omega
  cases i with
  | zero=>simpa using hc
  | succ i =>
   have:=Aix d (max b 1) (fun x e=>by
    have h1:=h x (by omega);simp only[Br,hc,Axz] at h1;rcases Int.mul_eq_zero.1 h1 with g | g
    ·omega
    ·exact g) i
   simpa using this
theorem jZ{p q:LI}(h:∀ x,Br p x=Br q x)(i:Nat):O p i 0=O q i 0:=by
 have:=Aix (HH p (Hu q)) 0 (fun x _=>by rw[Ko,N6,h x];omega) i;rw[Ma,Vh] at this;omega
theorem PV{p q:LI}(h:∀ x,Br p x=Br q x):l p=l q:=J3 (jZ h)
def Tu(p q:LI):LI:=HH p (Hu q)
theorem kA(p q:LI)(x:Int):Br (Tu p q) x=Br p x-Br q x:=by rw [Tu,Ko,N6];omega
def Vn(a:Int)(q:LI):LI:=q.map fun x=>a*x
theorem bX(a:Int)(q:LI)(x:Int):Br (Vn a q) x=a*Br q x:=by
 induction q with
 | nil=>simp[Vn,Br]
 | cons c q b =>
  have:Vn a (c::q)=a*c::Vn a q:=rfl;rw[this];simp only[Br,b];generalize Br q x=y;grind
def Kp:LI->LI->LI
 | [],_=>[]
 | a::p,q=>HH (Vn a q) (0::Kp p q)
theorem N9(p q:LI)(x:Int):Br (Kp p q) x=Br p x*Br q x:=by
 induction p with
 | nil=>simp[Kp,Br]
 | cons a p b =>
  simp only[Kp,Ko,bX,Br,b];generalize Br q x=y;generalize Br p x=z;grind
theorem PW(p q:LI):l (Kp p q)=Kp p q:=by
 cases p with
 | nil=>rfl
 | cons a p=>exact PS _ _
theorem Vo{k:Nat}{p:LI}(a:∀ x∈p,Co k x):∀ x∈Hu p,Co k x:=by
 intro x b;obtain⟨y,c,rfl⟩:=Dv.1 b;exact (a y c).neg
theorem Vp{k:Nat}{p:LI}(a:∀ x∈p,Co k x):∀ x∈l p,Co k x:=fun x b=>a x (Abx b)
theorem Acb(p:LI):C (Hu p)=C p:=by simp [Hu]
theorem Lp(xs:LI)(j:Nat)(x:Int):Br (xs.take (j+1)) x=Br (xs.take j) x+x^j*O xs j 0:=by
 induction xs generalizing j with
 | nil=>simp[Br]
 | cons p ps a =>
  cases j with
  | zero=>simp[Br]
  | succ j =>
   simp only[MW,Br,TW,a j,EV];generalize x^j=q;generalize Br (ps.take j) x=y;generalize O ps j 0=z;grind
def Pw(rs ss os:BX)(i:Nat):Nat->BX
 | 0=>os
 | j+1=>(Pw rs ss os i j).set (i+j) (cn (AX (O (Pw rs ss os i j) (i+j) z0)+AX (O rs i z0)*AX (O ss j z0)))
def Kq(rs ss os:BX)(m:Nat):Nat->BX
 | 0=>os
 | i+1=>Pw rs ss (Kq rs ss os m i) i m
section
variable(rs ss os:BX)
theorem NA(i j:Nat):C (Pw rs ss os i j)=C os:=by
 induction j with
 | zero=>rfl
 | succ j a=>simp only[Pw,Az,a]
theorem Mb(m i:Nat):C (Kq rs ss os m i)=C os:=by
 induction i with
 | zero=>rfl
 | succ i a=>rw[Kq,NA,a]
theorem kB(i j t:Nat)(h:i+j<=t):O (Pw rs ss os i j) t z0=O os t z0:=by
 induction j with
 | zero=>rfl
 | succ j a =>
  rw[Pw,Z,Do (by omega),<- Z];exact a (by omega)
end
theorem Acd{K B:Nat}{rs ss os:BX}(hr:∀ r∈rs,DQ K r)(hs:∀ r∈ss,DQ K r)(ho:∀ r∈os,DQ B r)(b:2*K<=B)(i j:Nat):∀ r∈Pw rs ss os i j,DQ (B+1) r:=by
 induction j with
 | zero=>exact fun r h=>(ho r h).mono (by omega)
 | succ j a =>
  rw[Pw];refine Abv a ?_;rw[kB _ _ _ _ _ _ (Ar _)];exact JG ((CY ho _).fits.add (((CY hr i).fits.mul (CY hs j).fits).mono (by omega)))
theorem Vq{K:Nat}{rs ss os:BX}(hr:∀ r∈rs,DQ K r)(hs:∀ r∈ss,DQ K r)(ho:∀ r∈os,DQ (2*K) r)(m i:Nat):∀ r∈Kq rs ss os m i,DQ (2*K+i) r:=by
 induction i with
 | zero=>exact ho
 | succ i a=>exact Acd hr hs a (by omega) i m
theorem Ace(rs ss os:BX)(i:Nat)(x:Int):∀ j,i+j<=C os->Br (vals (Pw rs ss os i j)) x=Br (vals os) x+x^i*(AX (O rs i z0)*Br ((vals ss).take j) x):=by
 intro j;induction j with
 | zero=>intro _;simp[Pw,Br]
 | succ j a =>
  intro h;have h1:=a (by omega);rw[Pw,Abu,sR _ _ _ _ (by rw[FF,NA];omega),h1,Lo,FG,Lp,FG,Int.pow_add];generalize x^i=p;generalize x^j=q;generalize Br ((vals ss).take j) x=y;grind
theorem sS(rs ss:BX)(m n:Nat)(x:Int):∀ i,i+m<=n+1->Br (vals (Kq rs ss (AK n z0) m i)) x=Br ((vals rs).take i) x*Br ((vals ss).take m) x:=by
 intro i;induction i with
 | zero=>intro _;simp[Kq,jT,bW,Br]
 | succ i a =>
  intro h;rw[Kq,Ace _ _ _ _ _ _ (by rw[Mb];simp;omega),a (by omega),Lp,FG];generalize x^i=p;grind
theorem RX{p q:LI}(h:BW q (C q)=0):Kp p q=[]:=by
 have h1:l q=[]:=by rw[l,h];rfl
 rw[<- PW];have:l (Kp p q)=l []:=PV fun x=>by
  rw[N9,<- N3 q,h1];simp[Br]
 rw[this];rfl
end Go.Ai
namespace Go.Proofs.YtenfgdobfjofkaaGreat
open Go.Ai
set_option maxRecDepth 100000
open BitVec renaming ofInt->As,ofInt_natCast->Jy,toNat_ofNat->KV
open Bool renaming and_eq_true->U,and_self->DN,false_and->M7,false_eq_true->AC
open _root_.ByteArray renaming empty->AP,size->Cc
open Decidable renaming decide->E
open Go.Ai.AV renaming agg->M,bool->I,fresh->P,int->A,sl->G,tup->Dj
open Go.Ai.Reg renaming box->Q,own->An,val->X
open Go.IntKind renaming bits->Bu,i64->D,u32->Bm,u64->A3,wrap->J
open Go.Proofs.Tryz renaming prog->g
open Int renaming fdiv->Bd,fdiv_eq_ediv_of_nonneg->Fl,le_refl->SQ,mul_le_mul->P9,mul_le_mul_of_nonneg_left->Cz,mul_nonneg->F3,ofNat_le->Agi,tdiv->C_,tdiv_eq_ediv_of_nonneg->TF,tmod->Fy,tmod_lt_of_pos->Acv,toNat->L,zero_sub->LF
open Int.ofNat renaming inj->xT
open List renaming drop->R,eq_of_mem_replicate->J6,getD->O,getElem_mem->Bl,length->C,length_replicate->Cp,length_set->Az,mem_cons->Aw,mem_or_eq_of_mem_set->TE,not_mem_nil->AD,replicate->AK
open Nat renaming beq->Au,eq_of_beq_eq_true->Aj,le_refl->Ar,mod_eq_of_lt->Hg,mul_one->Kc,ne_of_gt->Azk,pow_succ->Qp
noncomputable section
noncomputable section
theorem xO:g.follows .mixedOrders=true:=by kernel_rfl
def Aiy:List (Nat × Fx):=[(4,iY),(9,UQ),(11,iZ),(14,Z0),(15,Z1),(16,Q7),(17,Q8),(33,Yx33),(36,Aul),(37,Aum),(38,xJ),(39,Yx39),(40,Q9),(41,Aun),(42,Auo),(43,Aup),(44,Auq),(45,UR),(46,MA),(54,Aur),(55,Yx55),(56,Yx56),(57,Yx57)]
def Aiz:List (Nat × Fx):=[(58,Yx58),(59,Yx59),(60,Yx60),(61,Yx61),(62,Yx62),(63,Yx63),(64,Yx64),(65,Yx65),(66,Yx66),(67,QA),(68,Yx68),(76,Yx76),(79,jA),(99,Yx99),(106,Aie),(108,Ayf),(117,Aif),(118,Ayg),(119,Ayh),(120,Nv),(121,PN),(122,KL),(133,Ayi),(134,Ayj)]
def Aja:List (Nat × Fx):=[(135,Ayk),(136,Ayl),(137,Aym),(138,Ayn),(139,Ayo),(140,Ayp),(141,Ayq),(142,Ayr),(143,Aig),(144,Ays),(145,Ayt),(146,Ayu),(147,Ayv),(148,Ayw),(149,Ayx),(150,Ayy),(151,Aih),(152,bE),(153,bG),(154,Ayz),(155,Aza),(169,Aii),(170,rX)]
def Ajb:List (Nat × Fx):=[(171,Aij),(172,Aik),(173,RP),(175,rY),(176,Azb),(177,Ail),(178,rZ),(192,Azc),(209,Aim),(211,sA),(220,KM),(221,Azd),(222,Aze),(224,sB),(226,Azf),(227,bH),(228,bI),(229,Azg),(245,Ain),(246,bJ),(247,sC),(248,sD),(289,sE),(290,sF)]
def Ajc:List (Nat × Fx):=Aiy++Aiz++Aja++Ajb
def Yaw:IFunc:=⟨0,1,[.tmp 0],.region false [o1 0 (.mov (.c (I true)))]⟩
def Vr:IFunc:=⟨1,5,[.tmp 1],.seq (.region false [o1 2 (.bin .eql (.t 0) (.c (A D 1)))]) (.cond (.t 2) (.region false [o1 1 (.mov (.c (.str ⟨#[49]⟩)))]) (.seq (.region false [o1 3 (.bin .eql (.t 0) (.c (A D 2)))]) (.cond (.t 3) (.region false [o1 1 (.mov (.c (.str ⟨#[50]⟩)))]) (.seq (.region false [o1 4 (.bin .eql (.t 0) (.c (A D 3)))]) (.cond (.t 4) (.region false [o1 1 (.mov (.c (.str ⟨#[51]⟩)))]) (.region false [o1 1 .bad]))))))⟩
def Cy(f:Nat):Option IFunc:=cond (Au f 8) (some Yaw) (cond (Au f 116) (some Vr) ((lk Ajc f).map (iF g)))
theorem Acf:Aiy.all (rW g)=true:=by kernel_rfl
theorem Acg:Aiz.all (rW g)=true:=by kernel_rfl
theorem Ach:Aja.all (rW g)=true:=by kernel_rfl
theorem Aci:Ajb.all (rW g)=true:=by kernel_rfl
theorem Ajd:Ajc.all (rW g)=true:=by
 simp only[Ajc,List.all_append,Acf,Acg,Ach,Aci,DN]
theorem Asf(f:Nat)(ifn:IFunc)(h:Cy f=some ifn):(∃ fn roots,g.funcs[f]? = some fn/\UK g roots fn ifn=true)\/(f=8/\ifn=Yaw)\/(f=116/\ifn=Vr):=by
 unfold Cy at h;cases hb:Au f 8 <;> rw[hb] at h
 ·cases hd:Au f 116 <;> rw[hd] at h
  ·exact .inl (Aid Ajd f ifn h)
  ·cases h;exact .inr (.inr ⟨Aj hd,rfl⟩)
 ·cases h;exact .inr (.inl ⟨Aj hb,rfl⟩)
abbrev RQ:=EZ Cy
abbrev w:=B6 Cy
theorem IU(x:Fx){f:Nat}{args:u}{r:AV}(s:V)(h:B6 Cy (iF g x).body (CX (iF g x) args) .ret s)(hf:Cy f=some (iF g x):=by exact rfl)(hl:C args=x.params:=by exact rfl)(hr:EY s x.res=some r:=by exact rfl):EZ Cy f args r:=BR hf hl h (by nofun) hr
end
theorem Cs:AQ Cy []:=AQ.nil _
section
variable(l:LI)
theorem xP  : RQ 36 [G (C l) (li l)] (.gb (c l 0)):=Bz (fn:=iF g Aul) Cs rfl 400 rfl [] a0
theorem Acj(p n:Int)(c1:E (p>=(C l:Int))=true):RQ 38 [.gb (c l p),A D n] (.io (c l p) (A D 0)):=Bz (fn:=iF g xJ) Cs rfl 400 rfl [q] (Bp c1)
theorem Ack(p n:Int)(c1:E (p>=(C l:Int))=false)(c2:E (Fy (O l (L p) 0) n<0)=true)(H:0<=p/\p<C l)(P:¬ n=0):RQ 38 [.gb (c l p),A D n] (.io (c l (J D (p+1))) (A D (J D (Fy (O l (L p) 0) n+n)))):=Bz (fn:=iF g xJ) Cs rfl 400 rfl [Y,.v (A D (O l (L p) 0)),q] (GK c1 H (RU H) P c2)
theorem Acl(p n:Int)(c1:E (p>=(C l:Int))=false)(c2:E (Fy (O l (L p) 0) n<0)=false)(H:0<=p/\p<C l)(P:¬ n=0):RQ 38 [.gb (c l p),A D n] (.io (c l (J D (p+1))) (A D (Fy (O l (L p) 0) n))):=Bz (fn:=iF g xJ) Cs rfl 400 rfl [Y,.v (A D (O l (L p) 0)),Y] (GK c1 H (RU H) P c2)
theorem Asg(a b F e X:Int)(H:RQ 38 [.gb (c l F),A D (J D (J D (b-a)+1))] (.io (c l e) (A D X))):RQ 37 [.gb (c l F),A D a,A D b] (.io (c l e) (A D (J D (a+X)))):=Bz (fn:=iF g Aum) Cs rfl 400 rfl [.r (.io (c l e) (A D X))] (Bp H)
theorem Ash(F e X h i:Int)(H:RQ 37 [.gb (c l F),A D (-50),A D 50] (.io (c l e) (A D X)))(P:RQ 37 [.gb (c l e),A D (-50),A D 50] (.io (c l h) (A D i))):RQ 42 [.gb (c l F)] (.io (c l h) (M [A D (J D (50*X)),A D (J D (50*i))])):=Bz (fn:=iF g Auo) Cs rfl 400 rfl [.r (.io (c l e) (A D X)),.r (.io (c l h) (A D i))] (GY H P)
theorem Acm(F e j k h i m f o d s t u w x y z B K N Z a1:Int)(c1:(J D (10*i)==0&&(J D (10*f)==0&&true))=true)(c2:(d != 1)=true)(c3:(d==4)=true)(H:RQ 42 [.gb (c l F)] (.io (c l e) (M [A D j,A D k])))(P:RQ 37 [.gb (c l e),A D (-90),A D 90] (.io (c l h) (A D i)))(Q:RQ 37 [.gb (c l h),A D (-90),A D 90] (.io (c l m) (A D f)))(R:RQ 37 [.gb (c l m),A D 1,A D 4] (.io (c l o) (A D d)))(S:RQ 38 [.gb (c l o),A D 16] (.io (c l s) (A D t)))(T:RQ 38 [.gb (c l s),A D 4] (.io (c l u) (A D w)))(U:RQ 38 [.gb (c l u),A D 6] (.io (c l x) (A D y)))(V:RQ 37 [.gb (c l x),A D (-1),A D 9] (.io (c l z) (A D B)))(W:RQ 38 [.gb (c l z),A D 4] (.io (c l K) (A D N)))(a2:RQ 38 [.gb (c l K),A D 8] (.io (c l Z) (A D a1))):RQ 40 [.gb (c l F)] (.io (c l Z) (M [.str AP,A D d,A D 0,A D j,A D k,A D (J D (j+400)),A D (J D (k+J D (10*f))),A D t,A D w,A D (J D (50*a1)),A D (J D (20*y)),A D N,A D B])):=Bz (fn:=iF g Q9) Cs rfl 400 rfl [.r (.io (c l e) (M [A D j,A D k])),.r (.io (c l h) (A D i)),.r (.io (c l m) (A D f)),q,.r (.io (c l o) (A D d)),.r (.io (c l s) (A D t)),.r (.io (c l u) (A D w)),.r (.io (c l x) (A D y)),.r (.io (c l z) (A D B)),q,.r (.io (c l K) (A D N)),q,.r (.io (c l Z) (A D a1))] (LX H P Q c1 R S T U (GK V c2 W c3 a2))
theorem Acn(F e j k h i m f o d s t u w x y z B K N:Int)(c1:(J D (10*i)==0&&(J D (10*f)==0&&true))=true)(c2:(d != 1)=true)(c3:(d==4)=false)(H:RQ 42 [.gb (c l F)] (.io (c l e) (M [A D j,A D k])))(P:RQ 37 [.gb (c l e),A D (-90),A D 90] (.io (c l h) (A D i)))(Q:RQ 37 [.gb (c l h),A D (-90),A D 90] (.io (c l m) (A D f)))(R:RQ 37 [.gb (c l m),A D 1,A D 4] (.io (c l o) (A D d)))(S:RQ 38 [.gb (c l o),A D 16] (.io (c l s) (A D t)))(T:RQ 38 [.gb (c l s),A D 4] (.io (c l u) (A D w)))(U:RQ 38 [.gb (c l u),A D 6] (.io (c l x) (A D y)))(V:RQ 37 [.gb (c l x),A D (-1),A D 9] (.io (c l z) (A D B)))(W:RQ 38 [.gb (c l z),A D 4] (.io (c l K) (A D N))):RQ 40 [.gb (c l F)] (.io (c l K) (M [.str AP,A D d,A D 0,A D j,A D k,A D (J D (j+400)),A D (J D (k+J D (10*f))),A D t,A D w,A D 0,A D (J D (20*y)),A D N,A D B])):=Bz (fn:=iF g Q9) Cs rfl 400 rfl [.r (.io (c l e) (M [A D j,A D k])),.r (.io (c l h) (A D i)),.r (.io (c l m) (A D f)),q,.r (.io (c l o) (A D d)),.r (.io (c l s) (A D t)),.r (.io (c l u) (A D w)),.r (.io (c l x) (A D y)),.r (.io (c l z) (A D B)),q,.r (.io (c l K) (A D N)),Y] (Jc H P Q c1 R S T U V c2 W c3)
theorem Aco(F e j k h i m f o d s t u w x y z B K N:Int)(c1:(J D (10*i)==0&&(J D (10*f)==0&&true))=true)(c2:(d != 1)=false)(c3:(d==4)=true)(H:RQ 42 [.gb (c l F)] (.io (c l e) (M [A D j,A D k])))(P:RQ 37 [.gb (c l e),A D (-90),A D 90] (.io (c l h) (A D i)))(Q:RQ 37 [.gb (c l h),A D (-90),A D 90] (.io (c l m) (A D f)))(R:RQ 37 [.gb (c l m),A D 1,A D 4] (.io (c l o) (A D d)))(S:RQ 38 [.gb (c l o),A D 16] (.io (c l s) (A D t)))(T:RQ 38 [.gb (c l s),A D 4] (.io (c l u) (A D w)))(U:RQ 38 [.gb (c l u),A D 6] (.io (c l x) (A D y)))(V:RQ 37 [.gb (c l x),A D (-1),A D 9] (.io (c l z) (A D B)))(W:RQ 38 [.gb (c l z),A D 8] (.io (c l K) (A D N))):RQ 40 [.gb (c l F)] (.io (c l K) (M [.str AP,A D d,A D 0,A D j,A D k,A D (J D (j+400)),A D (J D (k+J D (10*f))),A D t,A D w,A D (J D (50*N)),A D (J D (20*y)),A D (-1),A D B])):=Bz (fn:=iF g Q9) Cs rfl 400 rfl [.r (.io (c l e) (M [A D j,A D k])),.r (.io (c l h) (A D i)),.r (.io (c l m) (A D f)),q,.r (.io (c l o) (A D d)),.r (.io (c l s) (A D t)),.r (.io (c l u) (A D w)),.r (.io (c l x) (A D y)),.r (.io (c l z) (A D B)),Y,q,.r (.io (c l K) (A D N))] (Jc H P Q c1 R S T U V c2 c3 W)
theorem Acp(F e j k h i m f o d s t u w x y z B:Int)(c1:(J D (10*i)==0&&(J D (10*f)==0&&true))=true)(c2:(d != 1)=false)(c3:(d==4)=false)(H:RQ 42 [.gb (c l F)] (.io (c l e) (M [A D j,A D k])))(P:RQ 37 [.gb (c l e),A D (-90),A D 90] (.io (c l h) (A D i)))(Q:RQ 37 [.gb (c l h),A D (-90),A D 90] (.io (c l m) (A D f)))(R:RQ 37 [.gb (c l m),A D 1,A D 4] (.io (c l o) (A D d)))(S:RQ 38 [.gb (c l o),A D 16] (.io (c l s) (A D t)))(T:RQ 38 [.gb (c l s),A D 4] (.io (c l u) (A D w)))(U:RQ 38 [.gb (c l u),A D 6] (.io (c l x) (A D y)))(V:RQ 37 [.gb (c l x),A D (-1),A D 9] (.io (c l z) (A D B))):RQ 40 [.gb (c l F)] (.io (c l z) (M [.str AP,A D d,A D 0,A D j,A D k,A D (J D (j+400)),A D (J D (k+J D (10*f))),A D t,A D w,A D 0,A D (J D (20*y)),A D (-1),A D B])):=Bz (fn:=iF g Q9) Cs rfl 400 rfl [.r (.io (c l e) (M [A D j,A D k])),.r (.io (c l h) (A D i)),.r (.io (c l m) (A D f)),q,.r (.io (c l o) (A D d)),.r (.io (c l s) (A D t)),.r (.io (c l u) (A D w)),.r (.io (c l x) (A D y)),.r (.io (c l z) (A D B)),Y,Y] (Lk H P Q c1 R S T U V c2 c3)
theorem Acq(F e j k h i m f o d s t u w x y z B K N Z a1:Int)(c1:(J D (10*i)==0&&(J D (10*f)==0&&true))=false)(c2:(d != 1)=true)(c3:(d==4)=true)(H:RQ 42 [.gb (c l F)] (.io (c l e) (M [A D j,A D k])))(P:RQ 37 [.gb (c l e),A D (-90),A D 90] (.io (c l h) (A D i)))(Q:RQ 37 [.gb (c l h),A D (-90),A D 90] (.io (c l m) (A D f)))(R:RQ 37 [.gb (c l m),A D 1,A D 4] (.io (c l o) (A D d)))(S:RQ 38 [.gb (c l o),A D 16] (.io (c l s) (A D t)))(T:RQ 38 [.gb (c l s),A D 4] (.io (c l u) (A D w)))(U:RQ 38 [.gb (c l u),A D 6] (.io (c l x) (A D y)))(V:RQ 37 [.gb (c l x),A D (-1),A D 9] (.io (c l z) (A D B)))(W:RQ 38 [.gb (c l z),A D 4] (.io (c l K) (A D N)))(a2:RQ 38 [.gb (c l K),A D 8] (.io (c l Z) (A D a1))):RQ 40 [.gb (c l F)] (.io (c l Z) (M [.str AP,A D d,A D 0,A D j,A D k,A D (J D (j+J D (10*i))),A D (J D (k+J D (10*f))),A D t,A D w,A D (J D (50*a1)),A D (J D (20*y)),A D N,A D B])):=Bz (fn:=iF g Q9) Cs rfl 400 rfl [.r (.io (c l e) (M [A D j,A D k])),.r (.io (c l h) (A D i)),.r (.io (c l m) (A D f)),Y,.r (.io (c l o) (A D d)),.r (.io (c l s) (A D t)),.r (.io (c l u) (A D w)),.r (.io (c l x) (A D y)),.r (.io (c l z) (A D B)),q,.r (.io (c l K) (A D N)),q,.r (.io (c l Z) (A D a1))] (LX H P Q c1 R S T U (GK V c2 W c3 a2))
theorem Acr(F e j k h i m f o d s t u w x y z B K N:Int)(c1:(J D (10*i)==0&&(J D (10*f)==0&&true))=false)(c2:(d != 1)=true)(c3:(d==4)=false)(H:RQ 42 [.gb (c l F)] (.io (c l e) (M [A D j,A D k])))(P:RQ 37 [.gb (c l e),A D (-90),A D 90] (.io (c l h) (A D i)))(Q:RQ 37 [.gb (c l h),A D (-90),A D 90] (.io (c l m) (A D f)))(R:RQ 37 [.gb (c l m),A D 1,A D 4] (.io (c l o) (A D d)))(S:RQ 38 [.gb (c l o),A D 16] (.io (c l s) (A D t)))(T:RQ 38 [.gb (c l s),A D 4] (.io (c l u) (A D w)))(U:RQ 38 [.gb (c l u),A D 6] (.io (c l x) (A D y)))(V:RQ 37 [.gb (c l x),A D (-1),A D 9] (.io (c l z) (A D B)))(W:RQ 38 [.gb (c l z),A D 4] (.io (c l K) (A D N))):RQ 40 [.gb (c l F)] (.io (c l K) (M [.str AP,A D d,A D 0,A D j,A D k,A D (J D (j+J D (10*i))),A D (J D (k+J D (10*f))),A D t,A D w,A D 0,A D (J D (20*y)),A D N,A D B])):=Bz (fn:=iF g Q9) Cs rfl 400 rfl [.r (.io (c l e) (M [A D j,A D k])),.r (.io (c l h) (A D i)),.r (.io (c l m) (A D f)),Y,.r (.io (c l o) (A D d)),.r (.io (c l s) (A D t)),.r (.io (c l u) (A D w)),.r (.io (c l x) (A D y)),.r (.io (c l z) (A D B)),q,.r (.io (c l K) (A D N)),Y] (Jc H P Q c1 R S T U V c2 W c3)
theorem Acs(F e j k h i m f o d s t u w x y z B K N:Int)(c1:(J D (10*i)==0&&(J D (10*f)==0&&true))=false)(c2:(d != 1)=false)(c3:(d==4)=true)(H:RQ 42 [.gb (c l F)] (.io (c l e) (M [A D j,A D k])))(P:RQ 37 [.gb (c l e),A D (-90),A D 90] (.io (c l h) (A D i)))(Q:RQ 37 [.gb (c l h),A D (-90),A D 90] (.io (c l m) (A D f)))(R:RQ 37 [.gb (c l m),A D 1,A D 4] (.io (c l o) (A D d)))(S:RQ 38 [.gb (c l o),A D 16] (.io (c l s) (A D t)))(T:RQ 38 [.gb (c l s),A D 4] (.io (c l u) (A D w)))(U:RQ 38 [.gb (c l u),A D 6] (.io (c l x) (A D y)))(V:RQ 37 [.gb (c l x),A D (-1),A D 9] (.io (c l z) (A D B)))(W:RQ 38 [.gb (c l z),A D 8] (.io (c l K) (A D N))):RQ 40 [.gb (c l F)] (.io (c l K) (M [.str AP,A D d,A D 0,A D j,A D k,A D (J D (j+J D (10*i))),A D (J D (k+J D (10*f))),A D t,A D w,A D (J D (50*N)),A D (J D (20*y)),A D (-1),A D B])):=Bz (fn:=iF g Q9) Cs rfl 400 rfl [.r (.io (c l e) (M [A D j,A D k])),.r (.io (c l h) (A D i)),.r (.io (c l m) (A D f)),Y,.r (.io (c l o) (A D d)),.r (.io (c l s) (A D t)),.r (.io (c l u) (A D w)),.r (.io (c l x) (A D y)),.r (.io (c l z) (A D B)),Y,q,.r (.io (c l K) (A D N))] (Jc H P Q c1 R S T U V c2 c3 W)
theorem Acu(F e j k h i m f o d s t u w x y z B:Int)(c1:(J D (10*i)==0&&(J D (10*f)==0&&true))=false)(c2:(d != 1)=false)(c3:(d==4)=false)(H:RQ 42 [.gb (c l F)] (.io (c l e) (M [A D j,A D k])))(P:RQ 37 [.gb (c l e),A D (-90),A D 90] (.io (c l h) (A D i)))(Q:RQ 37 [.gb (c l h),A D (-90),A D 90] (.io (c l m) (A D f)))(R:RQ 37 [.gb (c l m),A D 1,A D 4] (.io (c l o) (A D d)))(S:RQ 38 [.gb (c l o),A D 16] (.io (c l s) (A D t)))(T:RQ 38 [.gb (c l s),A D 4] (.io (c l u) (A D w)))(U:RQ 38 [.gb (c l u),A D 6] (.io (c l x) (A D y)))(V:RQ 37 [.gb (c l x),A D (-1),A D 9] (.io (c l z) (A D B))):RQ 40 [.gb (c l F)] (.io (c l z) (M [.str AP,A D d,A D 0,A D j,A D k,A D (J D (j+J D (10*i))),A D (J D (k+J D (10*f))),A D t,A D w,A D 0,A D (J D (20*y)),A D (-1),A D B])):=Bz (fn:=iF g Q9) Cs rfl 400 rfl [.r (.io (c l e) (M [A D j,A D k])),.r (.io (c l h) (A D i)),.r (.io (c l m) (A D f)),Y,.r (.io (c l o) (A D d)),.r (.io (c l s) (A D t)),.r (.io (c l u) (A D w)),.r (.io (c l x) (A D y)),.r (.io (c l z) (A D B)),Y,Y] (Lk H P Q c1 R S T U V c2 c3)
theorem Asi(F e X h x2 y2 m f o d s t u w x y z B K N Z a1 a3 a4 a5 a6:Int)(H:RQ 37 [.gb (c l F),A D (-120),A D 60] (.io (c l e) (A D X)))(P:RQ 42 [.gb (c l e)] (.io (c l h) (M [A D x2,A D y2])))(Q:RQ 37 [.gb (c l h),A D 300,A D 1000] (.io (c l m) (A D f)))(R:RQ 38 [.gb (c l m),A D 2] (.io (c l o) (A D d)))(S:RQ 37 [.gb (c l o),A D 20,A D 120] (.io (c l s) (A D t)))(T:RQ 37 [.gb (c l s),A D 1,A D 12] (.io (c l u) (A D w)))(U:RQ 37 [.gb (c l u),A D 1,A D 6] (.io (c l x) (A D y)))(V:RQ 37 [.gb (c l x),A D 4,A D 40] (.io (c l z) (A D B)))(W:RQ 38 [.gb (c l z),A D 16] (.io (c l K) (A D N)))(a2:RQ 38 [.gb (c l K),A D 3] (.io (c l Z) (A D a1)))(a7:RQ 38 [.gb (c l Z),A D 4] (.io (c l a3) (A D a4)))(a8:RQ 37 [.gb (c l a3),A D (-1),A D 9] (.io (c l a5) (A D a6))):RQ 44 [.gb (c l F)] (.io (c l a5) (M [.str AP,A D 0,A D x2,A D y2,A D f,I (d==1),A D X,A D (J D (X+t)),A D w,A D y,A D B,A D N,A D a1,A D a4,A D a6])):=Bz (fn:=iF g Auq) Cs rfl 400 rfl [.r (.io (c l e) (A D X)),.r (.io (c l h) (M [A D x2,A D y2])),.r (.io (c l m) (A D f)),.r (.io (c l o) (A D d)),.r (.io (c l s) (A D t)),.r (.io (c l u) (A D w)),.r (.io (c l x) (A D y)),.r (.io (c l z) (A D B)),.r (.io (c l K) (A D N)),.r (.io (c l Z) (A D a1)),.r (.io (c l a3) (A D a4)),.r (.io (c l a5) (A D a6))] (Jc H P Q R S T U V W a2 a7 a8)
end
def RY:u:=[A D 5,A D 0,A D 4,A D 3,A D 3,A D 4,A D 0,A D 5,A D (-3),A D 4,A D (-4),A D 3,A D (-5),A D 0,A D (-4),A D (-3),A D (-3),A D (-4),A D 0,A D (-5),A D 3,A D (-4),A D 4,A D (-3)]
theorem Aje:RQ 117 [] (P 2 12 RY):=Bz (fn:=iF g Aif) Cs rfl 400 rfl [] a0
theorem Asj(l:LI)(a z i b j e k d m f h n o p q s t u w x y:Int)(B:0<=b/\b<((12:Nat):Int))(C:0<=Fy (J D (b+e)) 12/\Fy (J D (b+e)) 12<((12:Nat):Int))(E:RQ 38 [.gb (c l z),A D 12] (.io (c l i) (A D b)))(F:RQ 37 [.gb (c l i),A D 1,A D 4] (.io (c l j) (A D e)))(G:RQ 38 [.gb (c l j),A D 200] (.io (c l k) (A D d)))(H:RQ 42 [.gb (c l k)] (.io (c l m) (M [A D f,A D h])))(I:Ae (R (L b*2) RY) 0 2 false=some (M [A D u,A D w]))(K:Ae (R (L (Fy (J D (b+e)) 12)*2) RY) 0 2 false=some (M [A D x,A D y]))(N:RQ 38 [.gb (c l m),A D 16] (.io (c l n) (A D o)))(O:RQ 38 [.gb (c l n),A D 4] (.io (c l p) (A D q)))(Q:RQ 37 [.gb (c l p),A D (-1),A D 9] (.io (c l s) (A D t))):RQ 43 [.gb (c l z),A D a] (.io (c l s) (M [.str AP,A D 0,A D f,A D h,A D (J D (f+J D (J D (J D (J D (C_ a 5)+1)+d)*u))),A D (J D (h+J D (J D (J D (J D (C_ a 5)+1)+d)*w))),A D (J D (f+J D (J D (J D (J D (C_ a 5)+1)+d)*x))),A D (J D (h+J D (J D (J D (J D (C_ a 5)+1)+d)*y))),A D o,A D q,A D 0,A D t])):=Bz (fn:=iF g Aup) Cs rfl 400 rfl [.r (P 2 12 RY),.r (.io (c l i) (A D b)),.r (.io (c l j) (A D e)),.r (.io (c l k) (A D d)),.r (.io (c l m) (M [A D f,A D h])),.v (M [A D u,A D w]),.v (M [A D x,A D y]),.r (.io (c l n) (A D o)),.r (.io (c l p) (A D q)),.r (.io (c l s) (A D t))] (LX (show RQ 117 [] (P 2 12 RY) from Aje) E F (show ¬ (5:Int)=0 from (by decide)) G H B I (Kf (show ¬ (12:Int)=0 from (by decide)) C K N O Q))
def Ajf(a b:Int):AV := P 13 4 ((.str ⟨#[115,111,117,116,104]⟩)::A D 1::A D 0::A D (J D (0-a))::A D (J D (0-a))::A D a::A D (J D (0-a))::A D b::A D 0::A D 0::A D 0::A D (-1)::A D (-1)::(.str ⟨#[101,97,115,116]⟩)::A D 1::A D 0::A D a::A D (J D (0-a))::A D a::A D a::A D b::A D 0::A D 0::A D 0::A D (-1)::A D (-1)::(.str ⟨#[110,111,114,116,104]⟩)::A D 1::A D 0::A D a::A D a::A D (J D (0-a))::A D a::A D b::A D 0::A D 0::A D 0::A D (-1)::A D (-1)::(.str ⟨#[119,101,115,116]⟩)::A D 1::A D 0::A D (J D (0-a))::A D a::A D (J D (0-a))::A D (J D (0-a))::A D b::A D 0::A D 0::A D 0::A D (-1)::A D (-1)::[])
theorem Asl(a b:Int)  : RQ 39 [A D a,A D b] (Ajf a b):=by
 unfold Ajf;exact N (r := P 13 4 ((.str ⟨#[115,111,117,116,104]⟩)::A D 1::A D 0::A D (J D (0-a))::A D (J D (0-a))::A D a::A D (J D (0-a))::A D b::A D 0::A D 0::A D 0::A D (-1)::A D (-1)::(.str ⟨#[101,97,115,116]⟩)::A D 1::A D 0::A D a::A D (J D (0-a))::A D a::A D a::A D b::A D 0::A D 0::A D 0::A D (-1)::A D (-1)::(.str ⟨#[110,111,114,116,104]⟩)::A D 1::A D 0::A D a::A D a::A D (J D (0-a))::A D a::A D b::A D 0::A D 0::A D 0::A D (-1)::A D (-1)::(.str ⟨#[119,101,115,116]⟩)::A D 1::A D 0::A D (J D (0-a))::A D a::A D (J D (0-a))::A D (J D (0-a))::A D b::A D 0::A D 0::A D 0::A D (-1)::A D (-1)::[])) (ps:=((true=true)::(0<=(0:Int)/\(0:Int)<((4:Nat):Int))::(BE ((.str ⟨#[115,111,117,116,104]⟩)::A D 0::A D 0::A D (J D (0-a))::A D (J D (0-a))::A D a::A D (J D (0-a))::A D 0::A D 0::A D 0::A D 0::A D 0::A D 0::(.str ⟨#[101,97,115,116]⟩)::A D 0::A D 0::A D a::A D (J D (0-a))::A D a::A D a::A D 0::A D 0::A D 0::A D 0::A D 0::A D 0::(.str ⟨#[110,111,114,116,104]⟩)::A D 0::A D 0::A D a::A D a::A D (J D (0-a))::A D a::A D 0::A D 0::A D 0::A D 0::A D 0::A D 0::(.str ⟨#[119,101,115,116]⟩)::A D 0::A D 0::A D (J D (0-a))::A D a::A D (J D (0-a))::A D (J D (0-a))::A D 0::A D 0::A D 0::A D 0::A D 0::A D 0::[]) 1 [A D 1]=some ((.str ⟨#[115,111,117,116,104]⟩)::A D 1::A D 0::A D (J D (0-a))::A D (J D (0-a))::A D a::A D (J D (0-a))::A D 0::A D 0::A D 0::A D 0::A D 0::A D 0::(.str ⟨#[101,97,115,116]⟩)::A D 0::A D 0::A D a::A D (J D (0-a))::A D a::A D a::A D 0::A D 0::A D 0::A D 0::A D 0::A D 0::(.str ⟨#[110,111,114,116,104]⟩)::A D 0::A D 0::A D a::A D a::A D (J D (0-a))::A D a::A D 0::A D 0::A D 0::A D 0::A D 0::A D 0::(.str ⟨#[119,101,115,116]⟩)::A D 0::A D 0::A D (J D (0-a))::A D a::A D (J D (0-a))::A D (J D (0-a))::A D 0::A D 0::A D 0::A D 0::A D 0::A D 0::[]))::(0<=(0:Int)/\(0:Int)<((4:Nat):Int))::(BE ((.str ⟨#[115,111,117,116,104]⟩)::A D 1::A D 0::A D (J D (0-a))::A D (J D (0-a))::A D a::A D (J D (0-a))::A D 0::A D 0::A D 0::A D 0::A D 0::A D 0::(.str ⟨#[101,97,115,116]⟩)::A D 0::A D 0::A D a::A D (J D (0-a))::A D a::A D a::A D 0::A D 0::A D 0::A D 0::A D 0::A D 0::(.str ⟨#[110,111,114,116,104]⟩)::A D 0::A D 0::A D a::A D a::A D (J D (0-a))::A D a::A D 0::A D 0::A D 0::A D 0::A D 0::A D 0::(.str ⟨#[119,101,115,116]⟩)::A D 0::A D 0::A D (J D (0-a))::A D a::A D (J D (0-a))::A D (J D (0-a))::A D 0::A D 0::A D 0::A D 0::A D 0::A D 0::[]) 7 [A D b]=some ((.str ⟨#[115,111,117,116,104]⟩)::A D 1::A D 0::A D (J D (0-a))::A D (J D (0-a))::A D a::A D (J D (0-a))::A D b::A D 0::A D 0::A D 0::A D 0::A D 0::(.str ⟨#[101,97,115,116]⟩)::A D 0::A D 0::A D a::A D (J D (0-a))::A D a::A D a::A D 0::A D 0::A D 0::A D 0::A D 0::A D 0::(.str ⟨#[110,111,114,116,104]⟩)::A D 0::A D 0::A D a::A D a::A D (J D (0-a))::A D a::A D 0::A D 0::A D 0::A D 0::A D 0::A D 0::(.str ⟨#[119,101,115,116]⟩)::A D 0::A D 0::A D (J D (0-a))::A D a::A D (J D (0-a))::A D (J D (0-a))::A D 0::A D 0::A D 0::A D 0::A D 0::A D 0::[]))::(0<=(0:Int)/\(0:Int)<((4:Nat):Int))::(BE ((.str ⟨#[115,111,117,116,104]⟩)::A D 1::A D 0::A D (J D (0-a))::A D (J D (0-a))::A D a::A D (J D (0-a))::A D b::A D 0::A D 0::A D 0::A D 0::A D 0::(.str ⟨#[101,97,115,116]⟩)::A D 0::A D 0::A D a::A D (J D (0-a))::A D a::A D a::A D 0::A D 0::A D 0::A D 0::A D 0::A D 0::(.str ⟨#[110,111,114,116,104]⟩)::A D 0::A D 0::A D a::A D a::A D (J D (0-a))::A D a::A D 0::A D 0::A D 0::A D 0::A D 0::A D 0::(.str ⟨#[119,101,115,116]⟩)::A D 0::A D 0::A D (J D (0-a))::A D a::A D (J D (0-a))::A D (J D (0-a))::A D 0::A D 0::A D 0::A D 0::A D 0::A D 0::[]) 11 [A D (-1)]=some ((.str ⟨#[115,111,117,116,104]⟩)::A D 1::A D 0::A D (J D (0-a))::A D (J D (0-a))::A D a::A D (J D (0-a))::A D b::A D 0::A D 0::A D 0::A D (-1)::A D 0::(.str ⟨#[101,97,115,116]⟩)::A D 0::A D 0::A D a::A D (J D (0-a))::A D a::A D a::A D 0::A D 0::A D 0::A D 0::A D 0::A D 0::(.str ⟨#[110,111,114,116,104]⟩)::A D 0::A D 0::A D a::A D a::A D (J D (0-a))::A D a::A D 0::A D 0::A D 0::A D 0::A D 0::A D 0::(.str ⟨#[119,101,115,116]⟩)::A D 0::A D 0::A D (J D (0-a))::A D a::A D (J D (0-a))::A D (J D (0-a))::A D 0::A D 0::A D 0::A D 0::A D 0::A D 0::[]))::(0<=(0:Int)/\(0:Int)<((4:Nat):Int))::(BE ((.str ⟨#[115,111,117,116,104]⟩)::A D 1::A D 0::A D (J D (0-a))::A D (J D (0-a))::A D a::A D (J D (0-a))::A D b::A D 0::A D 0::A D 0::A D (-1)::A D 0::(.str ⟨#[101,97,115,116]⟩)::A D 0::A D 0::A D a::A D (J D (0-a))::A D a::A D a::A D 0::A D 0::A D 0::A D 0::A D 0::A D 0::(.str ⟨#[110,111,114,116,104]⟩)::A D 0::A D 0::A D a::A D a::A D (J D (0-a))::A D a::A D 0::A D 0::A D 0::A D 0::A D 0::A D 0::(.str ⟨#[119,101,115,116]⟩)::A D 0::A D 0::A D (J D (0-a))::A D a::A D (J D (0-a))::A D (J D (0-a))::A D 0::A D 0::A D 0::A D 0::A D 0::A D 0::[]) 12 [A D (-1)]=some ((.str ⟨#[115,111,117,116,104]⟩)::A D 1::A D 0::A D (J D (0-a))::A D (J D (0-a))::A D a::A D (J D (0-a))::A D b::A D 0::A D 0::A D 0::A D (-1)::A D (-1)::(.str ⟨#[101,97,115,116]⟩)::A D 0::A D 0::A D a::A D (J D (0-a))::A D a::A D a::A D 0::A D 0::A D 0::A D 0::A D 0::A D 0::(.str ⟨#[110,111,114,116,104]⟩)::A D 0::A D 0::A D a::A D a::A D (J D (0-a))::A D a::A D 0::A D 0::A D 0::A D 0::A D 0::A D 0::(.str ⟨#[119,101,115,116]⟩)::A D 0::A D 0::A D (J D (0-a))::A D a::A D (J D (0-a))::A D (J D (0-a))::A D 0::A D 0::A D 0::A D 0::A D 0::A D 0::[]))::(true=true)::(0<=(1:Int)/\(1:Int)<((4:Nat):Int))::(BE ((.str ⟨#[115,111,117,116,104]⟩)::A D 1::A D 0::A D (J D (0-a))::A D (J D (0-a))::A D a::A D (J D (0-a))::A D b::A D 0::A D 0::A D 0::A D (-1)::A D (-1)::(.str ⟨#[101,97,115,116]⟩)::A D 0::A D 0::A D a::A D (J D (0-a))::A D a::A D a::A D 0::A D 0::A D 0::A D 0::A D 0::A D 0::(.str ⟨#[110,111,114,116,104]⟩)::A D 0::A D 0::A D a::A D a::A D (J D (0-a))::A D a::A D 0::A D 0::A D 0::A D 0::A D 0::A D 0::(.str ⟨#[119,101,115,116]⟩)::A D 0::A D 0::A D (J D (0-a))::A D a::A D (J D (0-a))::A D (J D (0-a))::A D 0::A D 0::A D 0::A D 0::A D 0::A D 0::[]) 14 [A D 1]=some ((.str ⟨#[115,111,117,116,104]⟩)::A D 1::A D 0::A D (J D (0-a))::A D (J D (0-a))::A D a::A D (J D (0-a))::A D b::A D 0::A D 0::A D 0::A D (-1)::A D (-1)::(.str ⟨#[101,97,115,116]⟩)::A D 1::A D 0::A D a::A D (J D (0-a))::A D a::A D a::A D 0::A D 0::A D 0::A D 0::A D 0::A D 0::(.str ⟨#[110,111,114,116,104]⟩)::A D 0::A D 0::A D a::A D a::A D (J D (0-a))::A D a::A D 0::A D 0::A D 0::A D 0::A D 0::A D 0::(.str ⟨#[119,101,115,116]⟩)::A D 0::A D 0::A D (J D (0-a))::A D a::A D (J D (0-a))::A D (J D (0-a))::A D 0::A D 0::A D 0::A D 0::A D 0::A D 0::[]))::(0<=(1:Int)/\(1:Int)<((4:Nat):Int))::(BE ((.str ⟨#[115,111,117,116,104]⟩)::A D 1::A D 0::A D (J D (0-a))::A D (J D (0-a))::A D a::A D (J D (0-a))::A D b::A D 0::A D 0::A D 0::A D (-1)::A D (-1)::(.str ⟨#[101,97,115,116]⟩)::A D 1::A D 0::A D a::A D (J D (0-a))::A D a::A D a::A D 0::A D 0::A D 0::A D 0::A D 0::A D 0::(.str ⟨#[110,111,114,116,104]⟩)::A D 0::A D 0::A D a::A D a::A D (J D (0-a))::A D a::A D 0::A D 0::A D 0::A D 0::A D 0::A D 0::(.str ⟨#[119,101,115,116]⟩)::A D 0::A D 0::A D (J D (0-a))::A D a::A D (J D (0-a))::A D (J D (0-a))::A D 0::A D 0::A D 0::A D 0::A D 0::A D 0::[]) 20 [A D b]=some ((.str ⟨#[115,111,117,116,104]⟩)::A D 1::A D 0::A D (J D (0-a))::A D (J D (0-a))::A D a::A D (J D (0-a))::A D b::A D 0::A D 0::A D 0::A D (-1)::A D (-1)::(.str ⟨#[101,97,115,116]⟩)::A D 1::A D 0::A D a::A D (J D (0-a))::A D a::A D a::A D b::A D 0::A D 0::A D 0::A D 0::A D 0::(.str ⟨#[110,111,114,116,104]⟩)::A D 0::A D 0::A D a::A D a::A D (J D (0-a))::A D a::A D 0::A D 0::A D 0::A D 0::A D 0::A D 0::(.str ⟨#[119,101,115,116]⟩)::A D 0::A D 0::A D (J D (0-a))::A D a::A D (J D (0-a))::A D (J D (0-a))::A D 0::A D 0::A D 0::A D 0::A D 0::A D 0::[]))::(0<=(1:Int)/\(1:Int)<((4:Nat):Int))::(BE ((.str ⟨#[115,111,117,116,104]⟩)::A D 1::A D 0::A D (J D (0-a))::A D (J D (0-a))::A D a::A D (J D (0-a))::A D b::A D 0::A D 0::A D 0::A D (-1)::A D (-1)::(.str ⟨#[101,97,115,116]⟩)::A D 1::A D 0::A D a::A D (J D (0-a))::A D a::A D a::A D b::A D 0::A D 0::A D 0::A D 0::A D 0::(.str ⟨#[110,111,114,116,104]⟩)::A D 0::A D 0::A D a::A D a::A D (J D (0-a))::A D a::A D 0::A D 0::A D 0::A D 0::A D 0::A D 0::(.str ⟨#[119,101,115,116]⟩)::A D 0::A D 0::A D (J D (0-a))::A D a::A D (J D (0-a))::A D (J D (0-a))::A D 0::A D 0::A D 0::A D 0::A D 0::A D 0::[]) 24 [A D (-1)]=some ((.str ⟨#[115,111,117,116,104]⟩)::A D 1::A D 0::A D (J D (0-a))::A D (J D (0-a))::A D a::A D (J D (0-a))::A D b::A D 0::A D 0::A D 0::A D (-1)::A D (-1)::(.str ⟨#[101,97,115,116]⟩)::A D 1::A D 0::A D a::A D (J D (0-a))::A D a::A D a::A D b::A D 0::A D 0::A D 0::A D (-1)::A D 0::(.str ⟨#[110,111,114,116,104]⟩)::A D 0::A D 0::A D a::A D a::A D (J D (0-a))::A D a::A D 0::A D 0::A D 0::A D 0::A D 0::A D 0::(.str ⟨#[119,101,115,116]⟩)::A D 0::A D 0::A D (J D (0-a))::A D a::A D (J D (0-a))::A D (J D (0-a))::A D 0::A D 0::A D 0::A D 0::A D 0::A D 0::[]))::(0<=(1:Int)/\(1:Int)<((4:Nat):Int))::(BE ((.str ⟨#[115,111,117,116,104]⟩)::A D 1::A D 0::A D (J D (0-a))::A D (J D (0-a))::A D a::A D (J D (0-a))::A D b::A D 0::A D 0::A D 0::A D (-1)::A D (-1)::(.str ⟨#[101,97,115,116]⟩)::A D 1::A D 0::A D a::A D (J D (0-a))::A D a::A D a::A D b::A D 0::A D 0::A D 0::A D (-1)::A D 0::(.str ⟨#[110,111,114,116,104]⟩)::A D 0::A D 0::A D a::A D a::A D (J D (0-a))::A D a::A D 0::A D 0::A D 0::A D 0::A D 0::A D 0::(.str ⟨#[119,101,115,116]⟩)::A D 0::A D 0::A D (J D (0-a))::A D a::A D (J D (0-a))::A D (J D (0-a))::A D 0::A D 0::A D 0::A D 0::A D 0::A D 0::[]) 25 [A D (-1)]=some ((.str ⟨#[115,111,117,116,104]⟩)::A D 1::A D 0::A D (J D (0-a))::A D (J D (0-a))::A D a::A D (J D (0-a))::A D b::A D 0::A D 0::A D 0::A D (-1)::A D (-1)::(.str ⟨#[101,97,115,116]⟩)::A D 1::A D 0::A D a::A D (J D (0-a))::A D a::A D a::A D b::A D 0::A D 0::A D 0::A D (-1)::A D (-1)::(.str ⟨#[110,111,114,116,104]⟩)::A D 0::A D 0::A D a::A D a::A D (J D (0-a))::A D a::A D 0::A D 0::A D 0::A D 0::A D 0::A D 0::(.str ⟨#[119,101,115,116]⟩)::A D 0::A D 0::A D (J D (0-a))::A D a::A D (J D (0-a))::A D (J D (0-a))::A D 0::A D 0::A D 0::A D 0::A D 0::A D 0::[]))::(true=true)::(0<=(2:Int)/\(2:Int)<((4:Nat):Int))::(BE ((.str ⟨#[115,111,117,116,104]⟩)::A D 1::A D 0::A D (J D (0-a))::A D (J D (0-a))::A D a::A D (J D (0-a))::A D b::A D 0::A D 0::A D 0::A D (-1)::A D (-1)::(.str ⟨#[101,97,115,116]⟩)::A D 1::A D 0::A D a::A D (J D (0-a))::A D a::A D a::A D b::A D 0::A D 0::A D 0::A D (-1)::A D (-1)::(.str ⟨#[110,111,114,116,104]⟩)::A D 0::A D 0::A D a::A D a::A D (J D (0-a))::A D a::A D 0::A D 0::A D 0::A D 0::A D 0::A D 0::(.str ⟨#[119,101,115,116]⟩)::A D 0::A D 0::A D (J D (0-a))::A D a::A D (J D (0-a))::A D (J D (0-a))::A D 0::A D 0::A D 0::A D 0::A D 0::A D 0::[]) 27 [A D 1]=some ((.str ⟨#[115,111,117,116,104]⟩)::A D 1::A D 0::A D (J D (0-a))::A D (J D (0-a))::A D a::A D (J D (0-a))::A D b::A D 0::A D 0::A D 0::A D (-1)::A D (-1)::(.str ⟨#[101,97,115,116]⟩)::A D 1::A D 0::A D a::A D (J D (0-a))::A D a::A D a::A D b::A D 0::A D 0::A D 0::A D (-1)::A D (-1)::(.str ⟨#[110,111,114,116,104]⟩)::A D 1::A D 0::A D a::A D a::A D (J D (0-a))::A D a::A D 0::A D 0::A D 0::A D 0::A D 0::A D 0::(.str ⟨#[119,101,115,116]⟩)::A D 0::A D 0::A D (J D (0-a))::A D a::A D (J D (0-a))::A D (J D (0-a))::A D 0::A D 0::A D 0::A D 0::A D 0::A D 0::[]))::(0<=(2:Int)/\(2:Int)<((4:Nat):Int))::(BE ((.str ⟨#[115,111,117,116,104]⟩)::A D 1::A D 0::A D (J D (0-a))::A D (J D (0-a))::A D a::A D (J D (0-a))::A D b::A D 0::A D 0::A D 0::A D (-1)::A D (-1)::(.str ⟨#[101,97,115,116]⟩)::A D 1::A D 0::A D a::A D (J D (0-a))::A D a::A D a::A D b::A D 0::A D 0::A D 0::A D (-1)::A D (-1)::(.str ⟨#[110,111,114,116,104]⟩)::A D 1::A D 0::A D a::A D a::A D (J D (0-a))::A D a::A D 0::A D 0::A D 0::A D 0::A D 0::A D 0::(.str ⟨#[119,101,115,116]⟩)::A D 0::A D 0::A D (J D (0-a))::A D a::A D (J D (0-a))::A D (J D (0-a))::A D 0::A D 0::A D 0::A D 0::A D 0::A D 0::[]) 33 [A D b]=some ((.str ⟨#[115,111,117,116,104]⟩)::A D 1::A D 0::A D (J D (0-a))::A D (J D (0-a))::A D a::A D (J D (0-a))::A D b::A D 0::A D 0::A D 0::A D (-1)::A D (-1)::(.str ⟨#[101,97,115,116]⟩)::A D 1::A D 0::A D a::A D (J D (0-a))::A D a::A D a::A D b::A D 0::A D 0::A D 0::A D (-1)::A D (-1)::(.str ⟨#[110,111,114,116,104]⟩)::A D 1::A D 0::A D a::A D a::A D (J D (0-a))::A D a::A D b::A D 0::A D 0::A D 0::A D 0::A D 0::(.str ⟨#[119,101,115,116]⟩)::A D 0::A D 0::A D (J D (0-a))::A D a::A D (J D (0-a))::A D (J D (0-a))::A D 0::A D 0::A D 0::A D 0::A D 0::A D 0::[]))::(0<=(2:Int)/\(2:Int)<((4:Nat):Int))::(BE ((.str ⟨#[115,111,117,116,104]⟩)::A D 1::A D 0::A D (J D (0-a))::A D (J D (0-a))::A D a::A D (J D (0-a))::A D b::A D 0::A D 0::A D 0::A D (-1)::A D (-1)::(.str ⟨#[101,97,115,116]⟩)::A D 1::A D 0::A D a::A D (J D (0-a))::A D a::A D a::A D b::A D 0::A D 0::A D 0::A D (-1)::A D (-1)::(.str ⟨#[110,111,114,116,104]⟩)::A D 1::A D 0::A D a::A D a::A D (J D (0-a))::A D a::A D b::A D 0::A D 0::A D 0::A D 0::A D 0::(.str ⟨#[119,101,115,116]⟩)::A D 0::A D 0::A D (J D (0-a))::A D a::A D (J D (0-a))::A D (J D (0-a))::A D 0::A D 0::A D 0::A D 0::A D 0::A D 0::[]) 37 [A D (-1)]=some ((.str ⟨#[115,111,117,116,104]⟩)::A D 1::A D 0::A D (J D (0-a))::A D (J D (0-a))::A D a::A D (J D (0-a))::A D b::A D 0::A D 0::A D 0::A D (-1)::A D (-1)::(.str ⟨#[101,97,115,116]⟩)::A D 1::A D 0::A D a::A D (J D (0-a))::A D a::A D a::A D b::A D 0::A D 0::A D 0::A D (-1)::A D (-1)::(.str ⟨#[110,111,114,116,104]⟩)::A D 1::A D 0::A D a::A D a::A D (J D (0-a))::A D a::A D b::A D 0::A D 0::A D 0::A D (-1)::A D 0::(.str ⟨#[119,101,115,116]⟩)::A D 0::A D 0::A D (J D (0-a))::A D a::A D (J D (0-a))::A D (J D (0-a))::A D 0::A D 0::A D 0::A D 0::A D 0::A D 0::[]))::(0<=(2:Int)/\(2:Int)<((4:Nat):Int))::(BE ((.str ⟨#[115,111,117,116,104]⟩)::A D 1::A D 0::A D (J D (0-a))::A D (J D (0-a))::A D a::A D (J D (0-a))::A D b::A D 0::A D 0::A D 0::A D (-1)::A D (-1)::(.str ⟨#[101,97,115,116]⟩)::A D 1::A D 0::A D a::A D (J D (0-a))::A D a::A D a::A D b::A D 0::A D 0::A D 0::A D (-1)::A D (-1)::(.str ⟨#[110,111,114,116,104]⟩)::A D 1::A D 0::A D a::A D a::A D (J D (0-a))::A D a::A D b::A D 0::A D 0::A D 0::A D (-1)::A D 0::(.str ⟨#[119,101,115,116]⟩)::A D 0::A D 0::A D (J D (0-a))::A D a::A D (J D (0-a))::A D (J D (0-a))::A D 0::A D 0::A D 0::A D 0::A D 0::A D 0::[]) 38 [A D (-1)]=some ((.str ⟨#[115,111,117,116,104]⟩)::A D 1::A D 0::A D (J D (0-a))::A D (J D (0-a))::A D a::A D (J D (0-a))::A D b::A D 0::A D 0::A D 0::A D (-1)::A D (-1)::(.str ⟨#[101,97,115,116]⟩)::A D 1::A D 0::A D a::A D (J D (0-a))::A D a::A D a::A D b::A D 0::A D 0::A D 0::A D (-1)::A D (-1)::(.str ⟨#[110,111,114,116,104]⟩)::A D 1::A D 0::A D a::A D a::A D (J D (0-a))::A D a::A D b::A D 0::A D 0::A D 0::A D (-1)::A D (-1)::(.str ⟨#[119,101,115,116]⟩)::A D 0::A D 0::A D (J D (0-a))::A D a::A D (J D (0-a))::A D (J D (0-a))::A D 0::A D 0::A D 0::A D 0::A D 0::A D 0::[]))::(true=true)::(0<=(3:Int)/\(3:Int)<((4:Nat):Int))::(BE ((.str ⟨#[115,111,117,116,104]⟩)::A D 1::A D 0::A D (J D (0-a))::A D (J D (0-a))::A D a::A D (J D (0-a))::A D b::A D 0::A D 0::A D 0::A D (-1)::A D (-1)::(.str ⟨#[101,97,115,116]⟩)::A D 1::A D 0::A D a::A D (J D (0-a))::A D a::A D a::A D b::A D 0::A D 0::A D 0::A D (-1)::A D (-1)::(.str ⟨#[110,111,114,116,104]⟩)::A D 1::A D 0::A D a::A D a::A D (J D (0-a))::A D a::A D b::A D 0::A D 0::A D 0::A D (-1)::A D (-1)::(.str ⟨#[119,101,115,116]⟩)::A D 0::A D 0::A D (J D (0-a))::A D a::A D (J D (0-a))::A D (J D (0-a))::A D 0::A D 0::A D 0::A D 0::A D 0::A D 0::[]) 40 [A D 1]=some ((.str ⟨#[115,111,117,116,104]⟩)::A D 1::A D 0::A D (J D (0-a))::A D (J D (0-a))::A D a::A D (J D (0-a))::A D b::A D 0::A D 0::A D 0::A D (-1)::A D (-1)::(.str ⟨#[101,97,115,116]⟩)::A D 1::A D 0::A D a::A D (J D (0-a))::A D a::A D a::A D b::A D 0::A D 0::A D 0::A D (-1)::A D (-1)::(.str ⟨#[110,111,114,116,104]⟩)::A D 1::A D 0::A D a::A D a::A D (J D (0-a))::A D a::A D b::A D 0::A D 0::A D 0::A D (-1)::A D (-1)::(.str ⟨#[119,101,115,116]⟩)::A D 1::A D 0::A D (J D (0-a))::A D a::A D (J D (0-a))::A D (J D (0-a))::A D 0::A D 0::A D 0::A D 0::A D 0::A D 0::[]))::(0<=(3:Int)/\(3:Int)<((4:Nat):Int))::(BE ((.str ⟨#[115,111,117,116,104]⟩)::A D 1::A D 0::A D (J D (0-a))::A D (J D (0-a))::A D a::A D (J D (0-a))::A D b::A D 0::A D 0::A D 0::A D (-1)::A D (-1)::(.str ⟨#[101,97,115,116]⟩)::A D 1::A D 0::A D a::A D (J D (0-a))::A D a::A D a::A D b::A D 0::A D 0::A D 0::A D (-1)::A D (-1)::(.str ⟨#[110,111,114,116,104]⟩)::A D 1::A D 0::A D a::A D a::A D (J D (0-a))::A D a::A D b::A D 0::A D 0::A D 0::A D (-1)::A D (-1)::(.str ⟨#[119,101,115,116]⟩)::A D 1::A D 0::A D (J D (0-a))::A D a::A D (J D (0-a))::A D (J D (0-a))::A D 0::A D 0::A D 0::A D 0::A D 0::A D 0::[]) 46 [A D b]=some ((.str ⟨#[115,111,117,116,104]⟩)::A D 1::A D 0::A D (J D (0-a))::A D (J D (0-a))::A D a::A D (J D (0-a))::A D b::A D 0::A D 0::A D 0::A D (-1)::A D (-1)::(.str ⟨#[101,97,115,116]⟩)::A D 1::A D 0::A D a::A D (J D (0-a))::A D a::A D a::A D b::A D 0::A D 0::A D 0::A D (-1)::A D (-1)::(.str ⟨#[110,111,114,116,104]⟩)::A D 1::A D 0::A D a::A D a::A D (J D (0-a))::A D a::A D b::A D 0::A D 0::A D 0::A D (-1)::A D (-1)::(.str ⟨#[119,101,115,116]⟩)::A D 1::A D 0::A D (J D (0-a))::A D a::A D (J D (0-a))::A D (J D (0-a))::A D b::A D 0::A D 0::A D 0::A D 0::A D 0::[]))::(0<=(3:Int)/\(3:Int)<((4:Nat):Int))::(BE ((.str ⟨#[115,111,117,116,104]⟩)::A D 1::A D 0::A D (J D (0-a))::A D (J D (0-a))::A D a::A D (J D (0-a))::A D b::A D 0::A D 0::A D 0::A D (-1)::A D (-1)::(.str ⟨#[101,97,115,116]⟩)::A D 1::A D 0::A D a::A D (J D (0-a))::A D a::A D a::A D b::A D 0::A D 0::A D 0::A D (-1)::A D (-1)::(.str ⟨#[110,111,114,116,104]⟩)::A D 1::A D 0::A D a::A D a::A D (J D (0-a))::A D a::A D b::A D 0::A D 0::A D 0::A D (-1)::A D (-1)::(.str ⟨#[119,101,115,116]⟩)::A D 1::A D 0::A D (J D (0-a))::A D a::A D (J D (0-a))::A D (J D (0-a))::A D b::A D 0::A D 0::A D 0::A D 0::A D 0::[]) 50 [A D (-1)]=some ((.str ⟨#[115,111,117,116,104]⟩)::A D 1::A D 0::A D (J D (0-a))::A D (J D (0-a))::A D a::A D (J D (0-a))::A D b::A D 0::A D 0::A D 0::A D (-1)::A D (-1)::(.str ⟨#[101,97,115,116]⟩)::A D 1::A D 0::A D a::A D (J D (0-a))::A D a::A D a::A D b::A D 0::A D 0::A D 0::A D (-1)::A D (-1)::(.str ⟨#[110,111,114,116,104]⟩)::A D 1::A D 0::A D a::A D a::A D (J D (0-a))::A D a::A D b::A D 0::A D 0::A D 0::A D (-1)::A D (-1)::(.str ⟨#[119,101,115,116]⟩)::A D 1::A D 0::A D (J D (0-a))::A D a::A D (J D (0-a))::A D (J D (0-a))::A D b::A D 0::A D 0::A D 0::A D (-1)::A D 0::[]))::(0<=(3:Int)/\(3:Int)<((4:Nat):Int))::(BE ((.str ⟨#[115,111,117,116,104]⟩)::A D 1::A D 0::A D (J D (0-a))::A D (J D (0-a))::A D a::A D (J D (0-a))::A D b::A D 0::A D 0::A D 0::A D (-1)::A D (-1)::(.str ⟨#[101,97,115,116]⟩)::A D 1::A D 0::A D a::A D (J D (0-a))::A D a::A D a::A D b::A D 0::A D 0::A D 0::A D (-1)::A D (-1)::(.str ⟨#[110,111,114,116,104]⟩)::A D 1::A D 0::A D a::A D a::A D (J D (0-a))::A D a::A D b::A D 0::A D 0::A D 0::A D (-1)::A D (-1)::(.str ⟨#[119,101,115,116]⟩)::A D 1::A D 0::A D (J D (0-a))::A D a::A D (J D (0-a))::A D (J D (0-a))::A D b::A D 0::A D 0::A D 0::A D (-1)::A D 0::[]) 51 [A D (-1)]=some ((.str ⟨#[115,111,117,116,104]⟩)::A D 1::A D 0::A D (J D (0-a))::A D (J D (0-a))::A D a::A D (J D (0-a))::A D b::A D 0::A D 0::A D 0::A D (-1)::A D (-1)::(.str ⟨#[101,97,115,116]⟩)::A D 1::A D 0::A D a::A D (J D (0-a))::A D a::A D a::A D b::A D 0::A D 0::A D 0::A D (-1)::A D (-1)::(.str ⟨#[110,111,114,116,104]⟩)::A D 1::A D 0::A D a::A D a::A D (J D (0-a))::A D a::A D b::A D 0::A D 0::A D 0::A D (-1)::A D (-1)::(.str ⟨#[119,101,115,116]⟩)::A D 1::A D 0::A D (J D (0-a))::A D a::A D (J D (0-a))::A D (J D (0-a))::A D b::A D 0::A D 0::A D 0::A D (-1)::A D (-1)::[]))::(false=false)::[])) Cs rfl 300 rfl [q,.l ((.str ⟨#[115,111,117,116,104]⟩)::A D 1::A D 0::A D (J D (0-a))::A D (J D (0-a))::A D a::A D (J D (0-a))::A D 0::A D 0::A D 0::A D 0::A D 0::A D 0::(.str ⟨#[101,97,115,116]⟩)::A D 0::A D 0::A D a::A D (J D (0-a))::A D a::A D a::A D 0::A D 0::A D 0::A D 0::A D 0::A D 0::(.str ⟨#[110,111,114,116,104]⟩)::A D 0::A D 0::A D a::A D a::A D (J D (0-a))::A D a::A D 0::A D 0::A D 0::A D 0::A D 0::A D 0::(.str ⟨#[119,101,115,116]⟩)::A D 0::A D 0::A D (J D (0-a))::A D a::A D (J D (0-a))::A D (J D (0-a))::A D 0::A D 0::A D 0::A D 0::A D 0::A D 0::[]),.l ((.str ⟨#[115,111,117,116,104]⟩)::A D 1::A D 0::A D (J D (0-a))::A D (J D (0-a))::A D a::A D (J D (0-a))::A D b::A D 0::A D 0::A D 0::A D 0::A D 0::(.str ⟨#[101,97,115,116]⟩)::A D 0::A D 0::A D a::A D (J D (0-a))::A D a::A D a::A D 0::A D 0::A D 0::A D 0::A D 0::A D 0::(.str ⟨#[110,111,114,116,104]⟩)::A D 0::A D 0::A D a::A D a::A D (J D (0-a))::A D a::A D 0::A D 0::A D 0::A D 0::A D 0::A D 0::(.str ⟨#[119,101,115,116]⟩)::A D 0::A D 0::A D (J D (0-a))::A D a::A D (J D (0-a))::A D (J D (0-a))::A D 0::A D 0::A D 0::A D 0::A D 0::A D 0::[]),.l ((.str ⟨#[115,111,117,116,104]⟩)::A D 1::A D 0::A D (J D (0-a))::A D (J D (0-a))::A D a::A D (J D (0-a))::A D b::A D 0::A D 0::A D 0::A D (-1)::A D 0::(.str ⟨#[101,97,115,116]⟩)::A D 0::A D 0::A D a::A D (J D (0-a))::A D a::A D a::A D 0::A D 0::A D 0::A D 0::A D 0::A D 0::(.str ⟨#[110,111,114,116,104]⟩)::A D 0::A D 0::A D a::A D a::A D (J D (0-a))::A D a::A D 0::A D 0::A D 0::A D 0::A D 0::A D 0::(.str ⟨#[119,101,115,116]⟩)::A D 0::A D 0::A D (J D (0-a))::A D a::A D (J D (0-a))::A D (J D (0-a))::A D 0::A D 0::A D 0::A D 0::A D 0::A D 0::[]),.l ((.str ⟨#[115,111,117,116,104]⟩)::A D 1::A D 0::A D (J D (0-a))::A D (J D (0-a))::A D a::A D (J D (0-a))::A D b::A D 0::A D 0::A D 0::A D (-1)::A D (-1)::(.str ⟨#[101,97,115,116]⟩)::A D 0::A D 0::A D a::A D (J D (0-a))::A D a::A D a::A D 0::A D 0::A D 0::A D 0::A D 0::A D 0::(.str ⟨#[110,111,114,116,104]⟩)::A D 0::A D 0::A D a::A D a::A D (J D (0-a))::A D a::A D 0::A D 0::A D 0::A D 0::A D 0::A D 0::(.str ⟨#[119,101,115,116]⟩)::A D 0::A D 0::A D (J D (0-a))::A D a::A D (J D (0-a))::A D (J D (0-a))::A D 0::A D 0::A D 0::A D 0::A D 0::A D 0::[]),q,.l ((.str ⟨#[115,111,117,116,104]⟩)::A D 1::A D 0::A D (J D (0-a))::A D (J D (0-a))::A D a::A D (J D (0-a))::A D b::A D 0::A D 0::A D 0::A D (-1)::A D (-1)::(.str ⟨#[101,97,115,116]⟩)::A D 1::A D 0::A D a::A D (J D (0-a))::A D a::A D a::A D 0::A D 0::A D 0::A D 0::A D 0::A D 0::(.str ⟨#[110,111,114,116,104]⟩)::A D 0::A D 0::A D a::A D a::A D (J D (0-a))::A D a::A D 0::A D 0::A D 0::A D 0::A D 0::A D 0::(.str ⟨#[119,101,115,116]⟩)::A D 0::A D 0::A D (J D (0-a))::A D a::A D (J D (0-a))::A D (J D (0-a))::A D 0::A D 0::A D 0::A D 0::A D 0::A D 0::[]),.l ((.str ⟨#[115,111,117,116,104]⟩)::A D 1::A D 0::A D (J D (0-a))::A D (J D (0-a))::A D a::A D (J D (0-a))::A D b::A D 0::A D 0::A D 0::A D (-1)::A D (-1)::(.str ⟨#[101,97,115,116]⟩)::A D 1::A D 0::A D a::A D (J D (0-a))::A D a::A D a::A D b::A D 0::A D 0::A D 0::A D 0::A D 0::(.str ⟨#[110,111,114,116,104]⟩)::A D 0::A D 0::A D a::A D a::A D (J D (0-a))::A D a::A D 0::A D 0::A D 0::A D 0::A D 0::A D 0::(.str ⟨#[119,101,115,116]⟩)::A D 0::A D 0::A D (J D (0-a))::A D a::A D (J D (0-a))::A D (J D (0-a))::A D 0::A D 0::A D 0::A D 0::A D 0::A D 0::[]),.l ((.str ⟨#[115,111,117,116,104]⟩)::A D 1::A D 0::A D (J D (0-a))::A D (J D (0-a))::A D a::A D (J D (0-a))::A D b::A D 0::A D 0::A D 0::A D (-1)::A D (-1)::(.str ⟨#[101,97,115,116]⟩)::A D 1::A D 0::A D a::A D (J D (0-a))::A D a::A D a::A D b::A D 0::A D 0::A D 0::A D (-1)::A D 0::(.str ⟨#[110,111,114,116,104]⟩)::A D 0::A D 0::A D a::A D a::A D (J D (0-a))::A D a::A D 0::A D 0::A D 0::A D 0::A D 0::A D 0::(.str ⟨#[119,101,115,116]⟩)::A D 0::A D 0::A D (J D (0-a))::A D a::A D (J D (0-a))::A D (J D (0-a))::A D 0::A D 0::A D 0::A D 0::A D 0::A D 0::[]),.l ((.str ⟨#[115,111,117,116,104]⟩)::A D 1::A D 0::A D (J D (0-a))::A D (J D (0-a))::A D a::A D (J D (0-a))::A D b::A D 0::A D 0::A D 0::A D (-1)::A D (-1)::(.str ⟨#[101,97,115,116]⟩)::A D 1::A D 0::A D a::A D (J D (0-a))::A D a::A D a::A D b::A D 0::A D 0::A D 0::A D (-1)::A D (-1)::(.str ⟨#[110,111,114,116,104]⟩)::A D 0::A D 0::A D a::A D a::A D (J D (0-a))::A D a::A D 0::A D 0::A D 0::A D 0::A D 0::A D 0::(.str ⟨#[119,101,115,116]⟩)::A D 0::A D 0::A D (J D (0-a))::A D a::A D (J D (0-a))::A D (J D (0-a))::A D 0::A D 0::A D 0::A D 0::A D 0::A D 0::[]),q,.l ((.str ⟨#[115,111,117,116,104]⟩)::A D 1::A D 0::A D (J D (0-a))::A D (J D (0-a))::A D a::A D (J D (0-a))::A D b::A D 0::A D 0::A D 0::A D (-1)::A D (-1)::(.str ⟨#[101,97,115,116]⟩)::A D 1::A D 0::A D a::A D (J D (0-a))::A D a::A D a::A D b::A D 0::A D 0::A D 0::A D (-1)::A D (-1)::(.str ⟨#[110,111,114,116,104]⟩)::A D 1::A D 0::A D a::A D a::A D (J D (0-a))::A D a::A D 0::A D 0::A D 0::A D 0::A D 0::A D 0::(.str ⟨#[119,101,115,116]⟩)::A D 0::A D 0::A D (J D (0-a))::A D a::A D (J D (0-a))::A D (J D (0-a))::A D 0::A D 0::A D 0::A D 0::A D 0::A D 0::[]),.l ((.str ⟨#[115,111,117,116,104]⟩)::A D 1::A D 0::A D (J D (0-a))::A D (J D (0-a))::A D a::A D (J D (0-a))::A D b::A D 0::A D 0::A D 0::A D (-1)::A D (-1)::(.str ⟨#[101,97,115,116]⟩)::A D 1::A D 0::A D a::A D (J D (0-a))::A D a::A D a::A D b::A D 0::A D 0::A D 0::A D (-1)::A D (-1)::(.str ⟨#[110,111,114,116,104]⟩)::A D 1::A D 0::A D a::A D a::A D (J D (0-a))::A D a::A D b::A D 0::A D 0::A D 0::A D 0::A D 0::(.str ⟨#[119,101,115,116]⟩)::A D 0::A D 0::A D (J D (0-a))::A D a::A D (J D (0-a))::A D (J D (0-a))::A D 0::A D 0::A D 0::A D 0::A D 0::A D 0::[]),.l ((.str ⟨#[115,111,117,116,104]⟩)::A D 1::A D 0::A D (J D (0-a))::A D (J D (0-a))::A D a::A D (J D (0-a))::A D b::A D 0::A D 0::A D 0::A D (-1)::A D (-1)::(.str ⟨#[101,97,115,116]⟩)::A D 1::A D 0::A D a::A D (J D (0-a))::A D a::A D a::A D b::A D 0::A D 0::A D 0::A D (-1)::A D (-1)::(.str ⟨#[110,111,114,116,104]⟩)::A D 1::A D 0::A D a::A D a::A D (J D (0-a))::A D a::A D b::A D 0::A D 0::A D 0::A D (-1)::A D 0::(.str ⟨#[119,101,115,116]⟩)::A D 0::A D 0::A D (J D (0-a))::A D a::A D (J D (0-a))::A D (J D (0-a))::A D 0::A D 0::A D 0::A D 0::A D 0::A D 0::[]),.l ((.str ⟨#[115,111,117,116,104]⟩)::A D 1::A D 0::A D (J D (0-a))::A D (J D (0-a))::A D a::A D (J D (0-a))::A D b::A D 0::A D 0::A D 0::A D (-1)::A D (-1)::(.str ⟨#[101,97,115,116]⟩)::A D 1::A D 0::A D a::A D (J D (0-a))::A D a::A D a::A D b::A D 0::A D 0::A D 0::A D (-1)::A D (-1)::(.str ⟨#[110,111,114,116,104]⟩)::A D 1::A D 0::A D a::A D a::A D (J D (0-a))::A D a::A D b::A D 0::A D 0::A D 0::A D (-1)::A D (-1)::(.str ⟨#[119,101,115,116]⟩)::A D 0::A D 0::A D (J D (0-a))::A D a::A D (J D (0-a))::A D (J D (0-a))::A D 0::A D 0::A D 0::A D 0::A D 0::A D 0::[]),q,.l ((.str ⟨#[115,111,117,116,104]⟩)::A D 1::A D 0::A D (J D (0-a))::A D (J D (0-a))::A D a::A D (J D (0-a))::A D b::A D 0::A D 0::A D 0::A D (-1)::A D (-1)::(.str ⟨#[101,97,115,116]⟩)::A D 1::A D 0::A D a::A D (J D (0-a))::A D a::A D a::A D b::A D 0::A D 0::A D 0::A D (-1)::A D (-1)::(.str ⟨#[110,111,114,116,104]⟩)::A D 1::A D 0::A D a::A D a::A D (J D (0-a))::A D a::A D b::A D 0::A D 0::A D 0::A D (-1)::A D (-1)::(.str ⟨#[119,101,115,116]⟩)::A D 1::A D 0::A D (J D (0-a))::A D a::A D (J D (0-a))::A D (J D (0-a))::A D 0::A D 0::A D 0::A D 0::A D 0::A D 0::[]),.l ((.str ⟨#[115,111,117,116,104]⟩)::A D 1::A D 0::A D (J D (0-a))::A D (J D (0-a))::A D a::A D (J D (0-a))::A D b::A D 0::A D 0::A D 0::A D (-1)::A D (-1)::(.str ⟨#[101,97,115,116]⟩)::A D 1::A D 0::A D a::A D (J D (0-a))::A D a::A D a::A D b::A D 0::A D 0::A D 0::A D (-1)::A D (-1)::(.str ⟨#[110,111,114,116,104]⟩)::A D 1::A D 0::A D a::A D a::A D (J D (0-a))::A D a::A D b::A D 0::A D 0::A D 0::A D (-1)::A D (-1)::(.str ⟨#[119,101,115,116]⟩)::A D 1::A D 0::A D (J D (0-a))::A D a::A D (J D (0-a))::A D (J D (0-a))::A D b::A D 0::A D 0::A D 0::A D 0::A D 0::[]),.l ((.str ⟨#[115,111,117,116,104]⟩)::A D 1::A D 0::A D (J D (0-a))::A D (J D (0-a))::A D a::A D (J D (0-a))::A D b::A D 0::A D 0::A D 0::A D (-1)::A D (-1)::(.str ⟨#[101,97,115,116]⟩)::A D 1::A D 0::A D a::A D (J D (0-a))::A D a::A D a::A D b::A D 0::A D 0::A D 0::A D (-1)::A D (-1)::(.str ⟨#[110,111,114,116,104]⟩)::A D 1::A D 0::A D a::A D a::A D (J D (0-a))::A D a::A D b::A D 0::A D 0::A D 0::A D (-1)::A D (-1)::(.str ⟨#[119,101,115,116]⟩)::A D 1::A D 0::A D (J D (0-a))::A D a::A D (J D (0-a))::A D (J D (0-a))::A D b::A D 0::A D 0::A D 0::A D (-1)::A D 0::[]),.l ((.str ⟨#[115,111,117,116,104]⟩)::A D 1::A D 0::A D (J D (0-a))::A D (J D (0-a))::A D a::A D (J D (0-a))::A D b::A D 0::A D 0::A D 0::A D (-1)::A D (-1)::(.str ⟨#[101,97,115,116]⟩)::A D 1::A D 0::A D a::A D (J D (0-a))::A D a::A D a::A D b::A D 0::A D 0::A D 0::A D (-1)::A D (-1)::(.str ⟨#[110,111,114,116,104]⟩)::A D 1::A D 0::A D a::A D a::A D (J D (0-a))::A D a::A D b::A D 0::A D 0::A D 0::A D (-1)::A D (-1)::(.str ⟨#[119,101,115,116]⟩)::A D 1::A D 0::A D (J D (0-a))::A D a::A D (J D (0-a))::A D (J D (0-a))::A D b::A D 0::A D 0::A D 0::A D (-1)::A D (-1)::[]),Y] (by kernel_rfl) ⟨rfl,(by decide),rfl,(by decide),rfl,(by decide),rfl,(by decide),rfl,rfl,(by decide),rfl,(by decide),rfl,(by decide),rfl,(by decide),rfl,rfl,(by decide),rfl,(by decide),rfl,(by decide),rfl,(by decide),rfl,rfl,(by decide),rfl,(by decide),rfl,(by decide),rfl,(by decide),rfl,rfl,trivial⟩
theorem Asm(s t:ByteArray)(a:Int)(b:Cc s+Cc t<=9223372036854775807)(c:RQ 116 [A D a] (.str t)):RQ 41 [.str s,A D a] (.str (s++t)):=Bz (fn:=iF g Aun) Cs rfl 400 rfl [.r (.str t)] (GY c b)
theorem EZ.to{prog:Nat->Option IFunc}{f:Nat}{args:u}{r r':AV}(h:EZ prog f args r)(e:r=r'):EZ prog f args r':=e ▸ h
theorem Bb{n:Int}(h1 : -9223372036854775808<=n)(h2:n<=9223372036854775807):J D n=n:=by
 simp only[J,Bu,IntKind.signed];simp;omega
theorem wqz{n:Int}(a:-9223372036854775808<=n:=by omega)(b:n<=9223372036854775807:=by omega):J D n=n:=Bb a b
theorem wrz{n m:Int}(a:-9223372036854775808<=n:=by omega)(b:n<=9223372036854775807:=by omega)(e:n=m:=by omega):J D n=m:=(Bb a b).trans e
theorem Es(n:Int):J A3 n=n % 18446744073709551616:=by
 simp only[J,Bu,IntKind.signed,M7,AC,if_false];omega
theorem NB(n:Int):J Bm n=n % 4294967296:=by
 simp only[J,Bu,IntKind.signed,M7,AC,if_false];omega
def Sp(l:LI)(p:Int):Prop:=C l<4611686018427387904/\0<=p/\p<=(C l:Int)
section
variable{l:LI}
theorem Bs{p n:Int}(N:Sp l p)(hn:0<n)(hm:n<=1000000):∃ q v,Sp l q/\(0<=v/\v<n)/\RQ 38 [.gb (c l p),A D n] (.io (c l q) (A D v)):=by
 obtain⟨hl,h0,h1⟩:=N;cases c1:decide (p>=(C l:Int))
 ·have a5:p<(C l:Int):=by have:=of_decide_eq_false c1;omega
  have hw:J D (p+1)=p+1:=Bb (by omega) (by omega);have Z:Fy (O l (L p) 0) n<n:=Acv _ hn;have b2 : -n<Fy (O l (L p) 0) n:=by
   have:=Int.lt_tmod_of_pos (O l (L p) 0) hn;omega
  cases c2:decide (Fy (O l (L p) 0) n<0)
  ·have hc:=of_decide_eq_false c2;have h:=Acl l p n c1 c2 ⟨h0,a5⟩ (by omega);rw[hw] at h;exact⟨p+1,_,⟨hl,by omega,by omega⟩,⟨by omega,Z⟩,h⟩
  ·have hc:=of_decide_eq_true c2;have h:=Ack l p n c1 c2 ⟨h0,a5⟩ (by omega);rw[hw,Bb (n:=Fy (O l (L p) 0) n+n) (by omega) (by omega)] at h;exact⟨p+1,_,⟨hl,by omega,by omega⟩,⟨by omega,by omega⟩,h⟩
 ·exact⟨p,0,⟨hl,h0,h1⟩,⟨by omega,hn⟩,Acj l p n c1⟩
theorem Bv{p a b:Int}(N:Sp l p)(ha : -400000<=a)(d1:a<=b)(hb:b<=400000):∃ q v,Sp l q/\(a<=v/\v<=b)/\RQ 37 [.gb (c l p),A D a,A D b] (.io (c l q) (A D v)):=by
 obtain⟨q,v,hq,hv,h⟩:=Bs (n:=b-a+1) N (by omega) (by omega);have e1:J D (b-a)=b-a:=Bb (by omega) (by omega);have e2:J D (b-a+1)=b-a+1:=Bb (by omega) (by omega);have h:=Asg l a b p q v (by rw[e1,e2];exact h);rw[Bb (n:=a+v) (by omega) (by omega)] at h;exact⟨q,_,hq,⟨by omega,by omega⟩,h⟩
theorem FW{p:Int}(N:Sp l p):∃ q x y,Sp l q/\(-2500<=x/\x<=2500 /\ -2500<=y/\y<=2500)/\RQ 42 [.gb (c l p)] (.io (c l q) (M [A D x,A D y])):=by
 obtain⟨r,P,h1,Z,r1⟩:=Bv (a := -50) (b:=50) N (by omega) (by omega) (by omega);obtain⟨j,f,h2,b2,r2⟩:=Bv (a := -50) (b:=50) h1 (by omega) (by omega) (by omega);have h:=Ash l p r P j f r1 r2;rw[Bb (n:=50*P) (by omega) (by omega),Bb (n:=50*f) (by omega) (by omega)] at h;exact⟨j,_,_,h2,⟨by omega,by omega,by omega,by omega⟩,h⟩
theorem Ajg{i:Int}(N:Sp l i):∃ q e,Sp l q/\bQ e/\RQ 44 [.gb (c l i)] (.io (c l q) (M (cF e))):=by
 obtain⟨r,P,h1,Z,r1⟩:=Bv (a := -120) (b:=60) N (by omega) (by omega) (by omega);obtain⟨j,x2,y2,h2,b2,r2⟩:=FW h1;obtain⟨w,g,h3,b3,r3⟩:=Bv (a:=300) (b:=1000) h2 (by omega) (by omega) (by omega);obtain⟨z,k,h4,b4,r4⟩:=Bs (n:=2) h3 (by omega) (by omega);obtain⟨B,m,h5,b5,r5⟩:=Bv (a:=20) (b:=120) h4 (by omega) (by omega) (by omega);obtain⟨E,u,h6,b6,r6⟩:=Bv (a:=1) (b:=12) h5 (by omega) (by omega) (by omega);obtain⟨F,o,h7,b7,G⟩:=Bv (a:=1) (b:=6) h6 (by omega) (by omega) (by omega);obtain⟨H,s,V,b8,I⟩:=Bv (a:=4) (b:=40) h7 (by omega) (by omega) (by omega);obtain⟨W,T,Y,b9,X⟩:=Bs (n:=16) V (by omega) (by omega);obtain⟨a1,U,a2,c5,a3⟩:=Bs (n:=3) Y (by omega) (by omega);obtain⟨c6,a6,c7,d2,c8⟩:=Bs (n:=4) a2 (by omega) (by omega);obtain⟨a7,a8,c9,d3,d0⟩:=Bv (a := -1) (b:=9) c7 (by omega) (by omega) (by omega);have h:=Asi l i r P j x2 y2 w g z k B m E u F o H s W T a1 U c6 a6 a7 a8 r1 r2 r3 r4 r5 r6 G I X a3 c8 d0;rw[Bb (n:=P+m) (by omega) (by omega)] at h;refine⟨a7,⟨AP,[0,x2,y2,g,P,P+m,u,o,s,T,U,a6,a8],k==1⟩,c9,⟨?_,(by omega:P<=P+m),(by omega:0<=s)⟩,h⟩;intro x d;simp only[Aw,AD,or_false] at d;unfold Sm;omega
theorem kC{i:Int}(N:Sp l i):∃ q e,Sp l q/\e.ok/\RQ 40 [.gb (c l i)] (.io (c l q) (M (cW e))):=by
 obtain⟨r,t,K,h1,Z,r1⟩:=FW N;obtain⟨j,f,h2,b2,r2⟩:=Bv (a := -90) (b:=90) h1 (by omega) (by omega) (by omega);obtain⟨w,g,h3,b3,r3⟩:=Bv (a := -90) (b:=90) h2 (by omega) (by omega) (by omega);obtain⟨z,k,h4,b4,r4⟩:=Bv (a:=1) (b:=4) h3 (by omega) (by omega) (by omega);obtain⟨B,m,h5,b5,r5⟩:=Bs (n:=16) h4 (by omega) (by omega);obtain⟨E,u,h6,b6,r6⟩:=Bs (n:=4) h5 (by omega) (by omega);obtain⟨F,o,h7,b7,G⟩:=Bs (n:=6) h6 (by omega) (by omega);obtain⟨H,s,V,b8,I⟩:=Bv (a := -1) (b:=9) h7 (by omega) (by omega) (by omega);obtain⟨W,T,Y,b9,X⟩:=Bs (n:=4) V (by omega) (by omega);obtain⟨a9,a4,b0,d4,c0⟩:=Bs (n:=8) V (by omega) (by omega);obtain⟨a1,U,a2,c5,a3⟩:=Bs (n:=8) Y (by omega) (by omega);have g2:J D (10*f)=10*f:=Bb (by omega) (by omega);have Q:J D (10*g)=10*g:=Bb (by omega) (by omega);have gx:J D (t+10*f)=t+10*f:=Bb (by omega) (by omega);have g4:J D (t+400)=t+400:=Bb (by omega) (by omega);have R:J D (K+10*g)=K+10*g:=Bb (by omega) (by omega);have S:J D (20*o)=20*o:=Bb (by omega) (by omega);have c4:J D (50*U)=50*U:=Bb (by omega) (by omega);have g9:J D (50*a4)=50*a4:=Bb (by omega) (by omega);cases c1:(J D (10*f)==0&&(J D (10*g)==0&&true)) <;> cases c2:(k != 1) <;> cases c3:(k==4)
 ·have h:=Acu l i r t K j f w g z k B m E u F o H s c1 c2 c3 r1 r2 r3 r4 r5 r6 G I;rw[g2,Q,gx,R,S] at h;refine⟨_,⟨_,[_,_,_,_,_,_,_,_,_,_,_,_],false⟩,V,?_,h⟩;intro x d;simp only[Aw,AD,or_false] at d;unfold Sm;omega
 ·have h:=Acs l i r t K j f w g z k B m E u F o H s a9 a4 c1 c2 c3 r1 r2 r3 r4 r5 r6 G I c0;rw[g2,Q,gx,R,S,g9] at h;refine⟨_,⟨_,[_,_,_,_,_,_,_,_,_,_,_,_],false⟩,b0,?_,h⟩;intro x d;simp only[Aw,AD,or_false] at d;unfold Sm;omega
 ·have h:=Acr l i r t K j f w g z k B m E u F o H s W T c1 c2 c3 r1 r2 r3 r4 r5 r6 G I X;rw[g2,Q,gx,R,S] at h;refine⟨_,⟨_,[_,_,_,_,_,_,_,_,_,_,_,_],false⟩,Y,?_,h⟩;intro x d;simp only[Aw,AD,or_false] at d;unfold Sm;omega
 ·have h:=Acq l i r t K j f w g z k B m E u F o H s W T a1 U c1 c2 c3 r1 r2 r3 r4 r5 r6 G I X a3;rw[g2,Q,gx,R,S,c4] at h;refine⟨_,⟨_,[_,_,_,_,_,_,_,_,_,_,_,_],false⟩,a2,?_,h⟩;intro x d;simp only[Aw,AD,or_false] at d;unfold Sm;omega
 ·have h:=Acp l i r t K j f w g z k B m E u F o H s c1 c2 c3 r1 r2 r3 r4 r5 r6 G I;rw[Q,g4,R,S] at h;refine⟨_,⟨_,[_,_,_,_,_,_,_,_,_,_,_,_],false⟩,V,?_,h⟩;intro x d;simp only[Aw,AD,or_false] at d;unfold Sm;omega
 ·have h:=Aco l i r t K j f w g z k B m E u F o H s a9 a4 c1 c2 c3 r1 r2 r3 r4 r5 r6 G I c0;rw[Q,g4,R,S,g9] at h;refine⟨_,⟨_,[_,_,_,_,_,_,_,_,_,_,_,_],false⟩,b0,?_,h⟩;intro x d;simp only[Aw,AD,or_false] at d;unfold Sm;omega
 ·have h:=Acn l i r t K j f w g z k B m E u F o H s W T c1 c2 c3 r1 r2 r3 r4 r5 r6 G I X;rw[Q,g4,R,S] at h;refine⟨_,⟨_,[_,_,_,_,_,_,_,_,_,_,_,_],false⟩,Y,?_,h⟩;intro x d;simp only[Aw,AD,or_false] at d;unfold Sm;omega
 ·have h:=Acm l i r t K j f w g z k B m E u F o H s W T a1 U c1 c2 c3 r1 r2 r3 r4 r5 r6 G I X a3;rw[Q,g4,R,S,c4] at h;refine⟨_,⟨_,[_,_,_,_,_,_,_,_,_,_,_,_],false⟩,a2,?_,h⟩;intro x d;simp only[Aw,AD,or_false] at d;unfold Sm;omega
end
theorem xQ{i:Nat}(h:i<12):∃ x y,(-5<=x/\x<=5 /\ -5<=y/\y<=5)/\Ae (R (i*2) RY) 0 2 false=some (M [A D x,A D y]):=by
 match i,h with
 | 0,_=>exact⟨5,0,by decide,rfl⟩
 | 1,_=>exact⟨4,3,by decide,rfl⟩
 | 2,_=>exact⟨3,4,by decide,rfl⟩
 | 3,_=>exact⟨0,5,by decide,rfl⟩
 | 4,_=>exact⟨-3,4,by decide,rfl⟩
 | 5,_=>exact⟨-4,3,by decide,rfl⟩
 | 6,_=>exact⟨-5,0,by decide,rfl⟩
 | 7,_=>exact⟨-4,-3,by decide,rfl⟩
 | 8,_=>exact⟨-3,-4,by decide,rfl⟩
 | 9,_=>exact⟨0,-5,by decide,rfl⟩
 | 10,_=>exact⟨3,-4,by decide,rfl⟩
 | 11,_=>exact⟨4,-3,by decide,rfl⟩
theorem Ua{r x:Int}(hr:0<=r/\r<=500)(a : -5<=x/\x<=5) : -2500<=r*x/\r*x<=2500:=by
 have h1:r*x<=r*5:=Cz a.2 hr.1;have h2:r*(-5)<=r*x:=Cz a.1 hr.1;omega
theorem Asn{l:LI}{j a:Int}(E:Sp l j)(u:0<=a/\a<=1000):∃ q e,Sp l q/\e.ok/\RQ 43 [.gb (c l j),A D a] (.io (c l q) (M (AH e))):=by
 obtain⟨F,d,h1,v,r1⟩:=Bs (n:=12) E (by omega) (by omega);obtain⟨G,f,h2,b2,r2⟩:=Bv (a:=1) (b:=4) h1 (by omega) (by omega) (by omega);obtain⟨H,g,I,b3,r3⟩:=Bs (n:=200) h2 (by omega) (by omega);obtain⟨K,k,m,N,b4,r4⟩:=FW I;obtain⟨O,P,Q,b5,r5⟩:=Bs (n:=16) N (by omega) (by omega);obtain⟨R,S,T,b6,r6⟩:=Bs (n:=4) Q (by omega) (by omega);obtain⟨U,V,W,b7,X⟩:=Bv (a := -1) (b:=9) T (by omega) (by omega) (by omega);have w:J D (d+f)=d+f:=Bb (by omega) (by omega);have Y:0<=Fy (d+f) 12:=Int.tmod_nonneg _ (by omega);have Z:Fy (d+f) 12<12:=Acv _ (by omega);obtain⟨o,p,g3,a3⟩:=xQ (i:=L d) (by omega);obtain⟨s,t,g4,a4⟩:=xQ (i:=L (Fy (d+f) 12)) (by omega);have h:=Asj l a j F d G f H g K k m O P R S U V o p s t ⟨v.1,v.2⟩ (by rw[w];exact⟨Y,Z⟩) r1 r2 r3 r4 a3 (by rw[w];exact a4) r5 r6 X;have q1:0<=C_ a 5:=Int.tdiv_nonneg u.1 (by omega);have q2:C_ a 5<=200:=by rw[TF u.1];omega
 rw[Bb (n:=C_ a 5) (by omega) (by omega),Bb (n:=C_ a 5+1) (by omega) (by omega),Bb (n:=C_ a 5+1+g) (by omega) (by omega)] at h;have hr:0<=C_ a 5+1+g/\C_ a 5+1+g<=500:=by omega
 generalize C_ a 5+1+g=r at h hr;have m1:=Ua hr (x:=o) (by omega);have m2:=Ua hr (x:=p) (by omega);have m3:=Ua hr (x:=s) (by omega);have m4:=Ua hr (x:=t) (by omega);generalize r*o=y at h m1;generalize r*p=z at h m2;generalize r*s=B at h m3;generalize r*t=C at h m4;rw[Bb (n:=y) (by omega) (by omega),Bb (n:=z) (by omega) (by omega),Bb (n:=B) (by omega) (by omega),Bb (n:=C) (by omega) (by omega),Bb (n:=k+y) (by omega) (by omega),Bb (n:=m+z) (by omega) (by omega),Bb (n:=k+B) (by omega) (by omega),Bb (n:=m+C) (by omega) (by omega)] at h;refine⟨_,⟨_,[_,_,_,_,_,_,_,_,_,_,_],false⟩,W,?_,h⟩;intro x hx;simp only[Aw,AD,or_false] at hx;unfold Sm;omega
theorem sT{i:Int}(h:1<=i/\i<=3):∃ t:ByteArray,t.size=1/\RQ 116 [A D i] (.str t):=by
 have e:i=1\/i=2\/i=3:=by omega
 rcases e with rfl | rfl | rfl
 ·exact⟨⟨#[49]⟩,rfl,8,by kernel_rfl⟩
 ·exact⟨⟨#[50]⟩,rfl,8,by kernel_rfl⟩
 ·exact⟨⟨#[51]⟩,rfl,8,by kernel_rfl⟩
theorem Lq{s:ByteArray}{i:Int}(hs:s.size<=100)(h:1<=i/\i<=3):∃ t:ByteArray,RQ 41 [.str s,A D i] (.str t):=by
 obtain⟨t,a,hr⟩:=sT h;exact⟨_,Asm s t i (by omega) hr⟩
theorem CI:AQ Cy []:=AQ.nil _
def bY:ICode:=CG iZ 91 500
section
variable(r0 r1 r2 r3 r4 r5 r6:Int)(e:Nat)(f:u)(g:Nat)(h:u)(j:Nat)(m:u)(n:Nat)(o:u)(a:Nat)(b:u)(p:Nat)(s:u)(t:Nat)(x:u)(y:Nat)(z:u)(F:Nat)(H:u)(I:Nat)(K:u)(M:Nat)(N:u)(l:LI)(O k:Int)(P:Nat)(S:u)(c:Nat)(T:u)(d:Nat)(cs:u)(U:Nat)(X:u)(i:Int)
def NC:V:=W 2 (Q [A D r0,A D r1,A D r2,A D r3,A D r4,A D r5,A D r6,G e f,G g h,G j m,G n o,G a b,G p s,G t x,G y z,G F H,G I K,G M N]::W 1 (Q [A D 0,G 0 [],G 0 [],G 0 [],G 0 [],A Bm 0]::Q [G (C l) (li l),A D O]::.bxh [A D k,.undef,.undef,.undef,.undef,A Bm 0] [(1,15),(2,19),(3,23),(4,27)]::vi i::W 7 (An 7 P S::W 3 (An 1 c T::W 3 (An 1 d cs::W 3 (An 1 U X::W 124 []))))))
theorem Ajh(p1 v1 p2 v2 y0 y1 Z:Int)(a1 a2:u)(c1:E (i<a)=true)(n1:0<=i/\i<a)(n2:0<=i/\i<c)(n3:0<=i/\i<d)(n4:Ae (R 6 (R (L i*15) b)) 0 1 true=some (A D y0))(n5:Ae (R 7 (R (L i*15) b)) 0 1 true=some (A D y1))(n6:RQ 37 [.gb [G (C l) (li l),A D O],A D y0,A D y1] (.io [G (C l) (li l),A D p1] (A D v1)))(n7:BE T (L i*1) [A D v1]=some a1)(n8:Ae (R 10 (R (L i*15) b)) 0 1 true=some (A D Z))(n9:RQ 37 [.gb [G (C l) (li l),A D p1],A D (J D (0-Z)),A D Z] (.io [G (C l) (li l),A D p2] (A D v2)))(a3:BE cs (L i*1) [A D v2]=some a2):w bY (NC r0 r1 r2 r3 r4 r5 r6 e f g h j m n o a b p s t x y z F H I K M N l O k P S c T d cs U X i) .norm (NC r0 r1 r2 r3 r4 r5 r6 e f g h j m n o a b p s t x y z F H I K M N l p2 k P S c a1 d a2 U X (J D (i+1))):=B CI [q,.v (A D y0),.v (A D y1),.r (.io [G (C l) (li l),A D p1] (A D v1)),.l a1,.v (A D Z),.v (A D Z),.r (.io [G (C l) (li l),A D p2] (A D v2)),.l a2] Aio (LX c1 n1 n4 n1 n5 n6 n2 n7 (Jn n1 n8 n1 n8 n9 n3 a3))
theorem Aji(c1:E (i<a)=false):w bY (NC r0 r1 r2 r3 r4 r5 r6 e f g h j m n o a b p s t x y z F H I K M N l O k P S c T d cs U X i) xZ0 (NC r0 r1 r2 r3 r4 r5 r6 e f g h j m n o a b p s t x y z F H I K M N l O k P S c T d cs U X i):=B CI [Y] Aio (Bp c1)
end
def RZ:ICode:=CG iZ 90 1012
section
variable(r0 r1 r2 r3 r4 r5 r6:Int)(e:Nat)(f:u)(a:Nat)(c:u)(g:Nat)(h:u)(j:Nat)(m:u)(n:Nat)(o:u)(p:Nat)(s:u)(t:Nat)(x:u)(y:Nat)(z:u)(F:Nat)(H:u)(K:Nat)(M:u)(N:Nat)(O:u)(l:LI)(P k:Int)(S:Nat)(T:u)(U:Nat)(X:u)(Z:Nat)(cs:u)(d:Nat)(ca:u)(i:Int)
def IV:V:=W 2 (Q [A D r0,A D r1,A D r2,A D r3,A D r4,A D r5,A D r6,G e f,G a c,G g h,G j m,G n o,G p s,G t x,G y z,G F H,G K M,G N O]::W 1 (Q [A D 0,G 0 [],G 0 [],G 0 [],G 0 [],A Bm 0]::Q [G (C l) (li l),A D P]::.bxh [A D k,.undef,.undef,.undef,.undef,A Bm 0] [(1,15),(2,19),(3,23),(4,27)]::W 1 (vi i::W 6 (An 7 S T::W 3 (An 1 U X::W 3 (An 1 Z cs::W 3 (An 1 d ca::W 124 [])))))))
theorem Ajj(p1 v1 b:Int)(a1:u)(c1:E (i<a)=true)(c2:(b==2)=true)(n1:0<=i/\i<a)(n2:0<=i/\i<d)(n3:Ae (R 1 (R (L i*13) c)) 0 1 true=some (A D b))(n4:RQ 38 [.gb [G (C l) (li l),A D P],A D 2] (.io [G (C l) (li l),A D p1] (A D v1)))(n5:BE ca (L i*1) [I (v1==1)]=some a1):w RZ (IV r0 r1 r2 r3 r4 r5 r6 e f a c g h j m n o p s t x y z F H K M N O l P k S T U X Z cs d ca i) .norm (IV r0 r1 r2 r3 r4 r5 r6 e f a c g h j m n o p s t x y z F H K M N O l p1 k S T U X Z cs d a1 (J D (i+1))):=B CI [q,.v (A D b),q,q,.r (.io [G (C l) (li l),A D p1] (A D v1)),.l a1] jJ (US c1 n1 n3 c2 GJ n4 n2 n5)
theorem Ajk(p1 v1 b:Int)(a1:u)(c1:E (i<a)=true)(c2:(b==2)=false)(c3:(b==3)=true)(n1:0<=i/\i<a)(n2:0<=i/\i<d)(n3:Ae (R 1 (R (L i*13) c)) 0 1 true=some (A D b))(n4:RQ 38 [.gb [G (C l) (li l),A D P],A D 2] (.io [G (C l) (li l),A D p1] (A D v1)))(n5:BE ca (L i*1) [I (v1==1)]=some a1):w RZ (IV r0 r1 r2 r3 r4 r5 r6 e f a c g h j m n o p s t x y z F H K M N O l P k S T U X Z cs d ca i) .norm (IV r0 r1 r2 r3 r4 r5 r6 e f a c g h j m n o p s t x y z F H K M N O l p1 k S T U X Z cs d a1 (J D (i+1))):=B CI [q,.v (A D b),Y,.v (A D b),q,.r (.io [G (C l) (li l),A D p1] (A D v1)),.l a1] jJ (Ig c1 n1 n3 c2 n1 n3 c3 n4 n2 n5)
theorem Ajl(b:Int)(c1:E (i<a)=true)(c2:(b==2)=false)(c3:(b==3)=false)(n1:0<=i/\i<a)(n2:Ae (R 1 (R (L i*13) c)) 0 1 true=some (A D b)):w RZ (IV r0 r1 r2 r3 r4 r5 r6 e f a c g h j m n o p s t x y z F H K M N O l P k S T U X Z cs d ca i) .norm (IV r0 r1 r2 r3 r4 r5 r6 e f a c g h j m n o p s t x y z F H K M N O l P k S T U X Z cs d ca (J D (i+1))):=B CI [q,.v (A D b),Y,.v (A D b),Y] jJ (Jn c1 n1 n2 c2 n1 n2 c3)
theorem Ajm(c1:E (i<a)=false):w RZ (IV r0 r1 r2 r3 r4 r5 r6 e f a c g h j m n o p s t x y z F H K M N O l P k S T U X Z cs d ca i) xZ2 (IV r0 r1 r2 r3 r4 r5 r6 e f a c g h j m n o p s t x y z F H K M N O l P k S T U X Z cs d ca i):=B CI [Y] jJ (Bp c1)
end
def Mc:ICode:=CG iZ 89 2036
section
variable(r0 r1 r2 r3 r4 r5 r6:Int)(o:Nat)(p:u)(s:Nat)(t:u)(v:Nat)(x:u)(y:Nat)(z:u)(F:Nat)(H:u)(K:Nat)(N:u)(O:Nat)(P:u)(R:Nat)(S:u)(T:Nat)(U:u)(X:Nat)(Z:u)(a1:Nat)(a2:u)(l:LI)(p0 k:Int)(a:Nat)(cb:u)(nk:Nat)(ck:u)(ns:Nat)(cs:u)(na:Nat)(ca:u)(i:Int)
def FZ:V:=W 2 (Q [A D r0,A D r1,A D r2,A D r3,A D r4,A D r5,A D r6,G o p,G s t,G v x,G y z,G F H,G K N,G O P,G R S,G T U,G X Z,G a1 a2]::W 1 (Q [A D 0,G 0 [],G 0 [],G 0 [],G 0 [],A Bm 0]::Q [G (C l) (li l),A D p0]::.bxh [A D k,.undef,.undef,.undef,.undef,A Bm 0] [(1,15),(2,19),(3,23),(4,27)]::W 2 (vi i::W 5 (An 7 a cb::W 3 (An 1 nk ck::W 3 (An 1 ns cs::W 3 (An 1 na ca::W 124 [])))))))
theorem Ajn(b c d e f v3 g v4 h j m n:Int)(ov:Bool)(c1:E (i<a)=true)(c2:(j==7)=true)(c3:E (n<4)=true)(c4:ov=true)(n1:RQ 37 [.gb [G (C l) (li l),A D p0],A D (-2800),A D 2800] (.io [G (C l) (li l),A D b] (A D c)))(n2:RQ 37 [.gb [G (C l) (li l),A D b],A D (-2800),A D 2800] (.io [G (C l) (li l),A D d] (A D e)))(n3:RQ 37 [.gb [G (C l) (li l),A D d],A D (-500),A D 500] (.io [G (C l) (li l),A D f] (A D v3)))(n4:RQ 37 [.gb [G (C l) (li l),A D f],A D (-500),A D 500] (.io [G (C l) (li l),A D g] (A D v4)))(n5:RQ 38 [.gb [G (C l) (li l),A D g],A D 8] (.io [G (C l) (li l),A D h] (A D j)))(n6:RQ 38 [.gb [G (C l) (li l),A D h],A D 5] (.io [G (C l) (li l),A D m] (A D n)))(n7:RQ 17 [M [A D r0,A D r1,A D r2,A D r3,A D r4,A D r5,A D r6,G o p,G s t,G v x,G y z,G F H,G K N,G O P,G R S,G T U,G X Z,G a1 a2],M [A D k,G a cb,G nk ck,G ns cs,G na ca,A Bm 0],A D 1,M [A D c,A D e],A D i] (I ov)):w Mc (FZ r0 r1 r2 r3 r4 r5 r6 o p s t v x y z F H K N O P R S T U X Z a1 a2 l p0 k a cb nk ck ns cs na ca i) .norm (FZ r0 r1 r2 r3 r4 r5 r6 o p s t v x y z F H K N O P R S T U X Z a1 a2 l m k a cb nk ck ns cs na ca (J D (i+1))):=B CI [q,.r (.io [G (C l) (li l),A D b] (A D c)),.r (.io [G (C l) (li l),A D d] (A D e)),.r (.io [G (C l) (li l),A D f] (A D v3)),.r (.io [G (C l) (li l),A D g] (A D v4)),.r (.io [G (C l) (li l),A D h] (A D j)),q,.r (.io [G (C l) (li l),A D m] (A D n)),q,.r (I ov),Y] To (Lk c1 n1 n2 n3 n4 n5 c2 n6 c3 n7 (bL c4))
theorem Ajo(b c d e f v3 g v4 h j m n:Int)(a3:u)(ov:Bool)(c1:E (i<a)=true)(c2:(j==7)=true)(c3:E (n<4)=true)(c4:ov=false)(n1:0<=i/\i<a)(n2:RQ 37 [.gb [G (C l) (li l),A D p0],A D (-2800),A D 2800] (.io [G (C l) (li l),A D b] (A D c)))(n3:RQ 37 [.gb [G (C l) (li l),A D b],A D (-2800),A D 2800] (.io [G (C l) (li l),A D d] (A D e)))(n4:RQ 37 [.gb [G (C l) (li l),A D d],A D (-500),A D 500] (.io [G (C l) (li l),A D f] (A D v3)))(n5:RQ 37 [.gb [G (C l) (li l),A D f],A D (-500),A D 500] (.io [G (C l) (li l),A D g] (A D v4)))(n6:RQ 38 [.gb [G (C l) (li l),A D g],A D 8] (.io [G (C l) (li l),A D h] (A D j)))(n7:RQ 38 [.gb [G (C l) (li l),A D h],A D 5] (.io [G (C l) (li l),A D m] (A D n)))(n8:RQ 17 [M [A D r0,A D r1,A D r2,A D r3,A D r4,A D r5,A D r6,G o p,G s t,G v x,G y z,G F H,G K N,G O P,G R S,G T U,G X Z,G a1 a2],M [A D k,G a cb,G nk ck,G ns cs,G na ca,A Bm 0],A D 1,M [A D c,A D e],A D i] (I ov))(n9:BE cb (L i*7) [A D 1,A D 0,A D 1,A D c,A D e,A D v3,A D v4]=some a3):w Mc (FZ r0 r1 r2 r3 r4 r5 r6 o p s t v x y z F H K N O P R S T U X Z a1 a2 l p0 k a cb nk ck ns cs na ca i) .norm (FZ r0 r1 r2 r3 r4 r5 r6 o p s t v x y z F H K N O P R S T U X Z a1 a2 l m k a a3 nk ck ns cs na ca (J D (i+1))):=B CI [q,.r (.io [G (C l) (li l),A D b] (A D c)),.r (.io [G (C l) (li l),A D d] (A D e)),.r (.io [G (C l) (li l),A D f] (A D v3)),.r (.io [G (C l) (li l),A D g] (A D v4)),.r (.io [G (C l) (li l),A D h] (A D j)),q,.r (.io [G (C l) (li l),A D m] (A D n)),q,.r (I ov),q,.l a3] To (LX c1 n2 n3 n4 n5 n6 c2 n7 (GK c3 n8 (bM c4) n1 n9))
theorem Ajp(b c d e f v3 g v4 h j m n:Int)(c1:E (i<a)=true)(c2:(j==7)=true)(c3:E (n<4)=false)(n1:RQ 37 [.gb [G (C l) (li l),A D p0],A D (-2800),A D 2800] (.io [G (C l) (li l),A D b] (A D c)))(n2:RQ 37 [.gb [G (C l) (li l),A D b],A D (-2800),A D 2800] (.io [G (C l) (li l),A D d] (A D e)))(n3:RQ 37 [.gb [G (C l) (li l),A D d],A D (-500),A D 500] (.io [G (C l) (li l),A D f] (A D v3)))(n4:RQ 37 [.gb [G (C l) (li l),A D f],A D (-500),A D 500] (.io [G (C l) (li l),A D g] (A D v4)))(n5:RQ 38 [.gb [G (C l) (li l),A D g],A D 8] (.io [G (C l) (li l),A D h] (A D j)))(n6:RQ 38 [.gb [G (C l) (li l),A D h],A D 5] (.io [G (C l) (li l),A D m] (A D n))):w Mc (FZ r0 r1 r2 r3 r4 r5 r6 o p s t v x y z F H K N O P R S T U X Z a1 a2 l p0 k a cb nk ck ns cs na ca i) .norm (FZ r0 r1 r2 r3 r4 r5 r6 o p s t v x y z F H K N O P R S T U X Z a1 a2 l m k a cb nk ck ns cs na ca (J D (i+1))):=B CI [q,.r (.io [G (C l) (li l),A D b] (A D c)),.r (.io [G (C l) (li l),A D d] (A D e)),.r (.io [G (C l) (li l),A D f] (A D v3)),.r (.io [G (C l) (li l),A D g] (A D v4)),.r (.io [G (C l) (li l),A D h] (A D j)),q,.r (.io [G (C l) (li l),A D m] (A D n)),Y,Y] To (Ig c1 n1 n2 n3 n4 n5 c2 n6 c3 Dr)
theorem Ajq(b c d e f v3 g v4 h j m n:Int)(ov:Bool)(c1:E (i<a)=true)(c2:(j==7)=false)(c3:E (n<4)=true)(c4:ov=true)(n1:RQ 37 [.gb [G (C l) (li l),A D p0],A D (-2800),A D 2800] (.io [G (C l) (li l),A D b] (A D c)))(n2:RQ 37 [.gb [G (C l) (li l),A D b],A D (-2800),A D 2800] (.io [G (C l) (li l),A D d] (A D e)))(n3:RQ 37 [.gb [G (C l) (li l),A D d],A D (-500),A D 500] (.io [G (C l) (li l),A D f] (A D v3)))(n4:RQ 37 [.gb [G (C l) (li l),A D f],A D (-500),A D 500] (.io [G (C l) (li l),A D g] (A D v4)))(n5:RQ 38 [.gb [G (C l) (li l),A D g],A D 8] (.io [G (C l) (li l),A D h] (A D j)))(n6:RQ 38 [.gb [G (C l) (li l),A D h],A D 5] (.io [G (C l) (li l),A D m] (A D n)))(n7:RQ 17 [M [A D r0,A D r1,A D r2,A D r3,A D r4,A D r5,A D r6,G o p,G s t,G v x,G y z,G F H,G K N,G O P,G R S,G T U,G X Z,G a1 a2],M [A D k,G a cb,G nk ck,G ns cs,G na ca,A Bm 0],A D 0,M [A D c,A D e],A D i] (I ov)):w Mc (FZ r0 r1 r2 r3 r4 r5 r6 o p s t v x y z F H K N O P R S T U X Z a1 a2 l p0 k a cb nk ck ns cs na ca i) .norm (FZ r0 r1 r2 r3 r4 r5 r6 o p s t v x y z F H K N O P R S T U X Z a1 a2 l m k a cb nk ck ns cs na ca (J D (i+1))):=B CI [q,.r (.io [G (C l) (li l),A D b] (A D c)),.r (.io [G (C l) (li l),A D d] (A D e)),.r (.io [G (C l) (li l),A D f] (A D v3)),.r (.io [G (C l) (li l),A D g] (A D v4)),.r (.io [G (C l) (li l),A D h] (A D j)),Y,.r (.io [G (C l) (li l),A D m] (A D n)),q,.r (I ov),Y] To (Lk c1 n1 n2 n3 n4 n5 c2 n6 c3 n7 (bL c4))
theorem Ajr(b c d e f v3 g v4 h j m n:Int)(a3:u)(ov:Bool)(c1:E (i<a)=true)(c2:(j==7)=false)(c3:E (n<4)=true)(c4:ov=false)(n1:0<=i/\i<a)(n2:RQ 37 [.gb [G (C l) (li l),A D p0],A D (-2800),A D 2800] (.io [G (C l) (li l),A D b] (A D c)))(n3:RQ 37 [.gb [G (C l) (li l),A D b],A D (-2800),A D 2800] (.io [G (C l) (li l),A D d] (A D e)))(n4:RQ 37 [.gb [G (C l) (li l),A D d],A D (-500),A D 500] (.io [G (C l) (li l),A D f] (A D v3)))(n5:RQ 37 [.gb [G (C l) (li l),A D f],A D (-500),A D 500] (.io [G (C l) (li l),A D g] (A D v4)))(n6:RQ 38 [.gb [G (C l) (li l),A D g],A D 8] (.io [G (C l) (li l),A D h] (A D j)))(n7:RQ 38 [.gb [G (C l) (li l),A D h],A D 5] (.io [G (C l) (li l),A D m] (A D n)))(n8:RQ 17 [M [A D r0,A D r1,A D r2,A D r3,A D r4,A D r5,A D r6,G o p,G s t,G v x,G y z,G F H,G K N,G O P,G R S,G T U,G X Z,G a1 a2],M [A D k,G a cb,G nk ck,G ns cs,G na ca,A Bm 0],A D 0,M [A D c,A D e],A D i] (I ov))(n9:BE cb (L i*7) [A D 1,A D 0,A D 0,A D c,A D e,A D v3,A D v4]=some a3):w Mc (FZ r0 r1 r2 r3 r4 r5 r6 o p s t v x y z F H K N O P R S T U X Z a1 a2 l p0 k a cb nk ck ns cs na ca i) .norm (FZ r0 r1 r2 r3 r4 r5 r6 o p s t v x y z F H K N O P R S T U X Z a1 a2 l m k a a3 nk ck ns cs na ca (J D (i+1))):=B CI [q,.r (.io [G (C l) (li l),A D b] (A D c)),.r (.io [G (C l) (li l),A D d] (A D e)),.r (.io [G (C l) (li l),A D f] (A D v3)),.r (.io [G (C l) (li l),A D g] (A D v4)),.r (.io [G (C l) (li l),A D h] (A D j)),Y,.r (.io [G (C l) (li l),A D m] (A D n)),q,.r (I ov),q,.l a3] To (LX c1 n2 n3 n4 n5 n6 c2 n7 (GK c3 n8 (bM c4) n1 n9))
theorem Ajs(b c d e f v3 g v4 h j m n:Int)(c1:E (i<a)=true)(c2:(j==7)=false)(c3:E (n<4)=false)(n1:RQ 37 [.gb [G (C l) (li l),A D p0],A D (-2800),A D 2800] (.io [G (C l) (li l),A D b] (A D c)))(n2:RQ 37 [.gb [G (C l) (li l),A D b],A D (-2800),A D 2800] (.io [G (C l) (li l),A D d] (A D e)))(n3:RQ 37 [.gb [G (C l) (li l),A D d],A D (-500),A D 500] (.io [G (C l) (li l),A D f] (A D v3)))(n4:RQ 37 [.gb [G (C l) (li l),A D f],A D (-500),A D 500] (.io [G (C l) (li l),A D g] (A D v4)))(n5:RQ 38 [.gb [G (C l) (li l),A D g],A D 8] (.io [G (C l) (li l),A D h] (A D j)))(n6:RQ 38 [.gb [G (C l) (li l),A D h],A D 5] (.io [G (C l) (li l),A D m] (A D n))):w Mc (FZ r0 r1 r2 r3 r4 r5 r6 o p s t v x y z F H K N O P R S T U X Z a1 a2 l p0 k a cb nk ck ns cs na ca i) .norm (FZ r0 r1 r2 r3 r4 r5 r6 o p s t v x y z F H K N O P R S T U X Z a1 a2 l m k a cb nk ck ns cs na ca (J D (i+1))):=B CI [q,.r (.io [G (C l) (li l),A D b] (A D c)),.r (.io [G (C l) (li l),A D d] (A D e)),.r (.io [G (C l) (li l),A D f] (A D v3)),.r (.io [G (C l) (li l),A D g] (A D v4)),.r (.io [G (C l) (li l),A D h] (A D j)),Y,.r (.io [G (C l) (li l),A D m] (A D n)),Y,Y] To (Ig c1 n1 n2 n3 n4 n5 c2 n6 c3 Dr)
theorem Ajt(c1:E (i<a)=false):w Mc (FZ r0 r1 r2 r3 r4 r5 r6 o p s t v x y z F H K N O P R S T U X Z a1 a2 l p0 k a cb nk ck ns cs na ca i) xZ4 (FZ r0 r1 r2 r3 r4 r5 r6 o p s t v x y z F H K N O P R S T U X Z a1 a2 l p0 k a cb nk ck ns cs na ca i):=B CI [Y] To (Bp c1)
end
theorem Aso(r0 r1 r2 r3 r4 r5 r6:Int)(d:Nat)(e:u)(b:Nat)(f:u)(g:Nat)(h:u)(i:Nat)(j:u)(a:Nat)(k:u)(n:Nat)(o:u)(p:Nat)(q:u)(s:Nat)(t:u)(v:Nat)(x:u)(y:Nat)(z:u)(E:Nat)(F:u)(l:LI)(Z i2 i3 P c S U V X O:Int)(R H K N:u)(n1:0<=r1/\r1<=1048576)(Y:0<=(a:Int)/\(a:Int)<=1048576)(n3:0<=(b:Int)/\(b:Int)<=1048576)(n4:RQ 38 [.gb [G (C l) (li l),A D 0],A D 20] (.io [G (C l) (li l),A D P] (A D c)))(a1:w (.loop bY) (NC r0 r1 r2 r3 r4 r5 r6 d e b f g h i j a k n o p q s t v x y z E F l P c (L r1) (CE [A D 0,A D 0,A D 0,A D 0,A D 0,A D 0,A D 0] (L r1)) (L a) (CE [A D 0] (L a)) (L a) (CE [A D 0] (L a)) (L b) (CE [I false] (L b)) 0) xZ0 (NC r0 r1 r2 r3 r4 r5 r6 d e b f g h i j a k n o p q s t v x y z E F l S c (L r1) (CE [A D 0,A D 0,A D 0,A D 0,A D 0,A D 0,A D 0] (L r1)) (L a) H (L a) K (L b) (CE [I false] (L b)) Z))(a2:w (.loop RZ) (IV r0 r1 r2 r3 r4 r5 r6 d e b f g h i j a k n o p q s t v x y z E F l S c (L r1) (CE [A D 0,A D 0,A D 0,A D 0,A D 0,A D 0,A D 0] (L r1)) (L a) H (L a) K (L b) (CE [I false] (L b)) 0) xZ2 (IV r0 r1 r2 r3 r4 r5 r6 d e b f g h i j a k n o p q s t v x y z E F l U c (L r1) (CE [A D 0,A D 0,A D 0,A D 0,A D 0,A D 0,A D 0] (L r1)) (L a) H (L a) K (L b) N i2))(a3:w (.loop Mc) (FZ r0 r1 r2 r3 r4 r5 r6 d e b f g h i j a k n o p q s t v x y z E F l U c (L r1) (CE [A D 0,A D 0,A D 0,A D 0,A D 0,A D 0,A D 0] (L r1)) (L a) H (L a) K (L b) N 0) xZ4 (FZ r0 r1 r2 r3 r4 r5 r6 d e b f g h i j a k n o p q s t v x y z E F l V c (L r1) R (L a) H (L a) K (L b) N i3))(n8:RQ 38 [.gb [G (C l) (li l),A D V],A D 16] (.io [G (C l) (li l),A D X] (A D O))):RQ 11 [M [A D r0,A D r1,A D r2,A D r3,A D r4,A D r5,A D r6,G d e,G b f,G g h,G i j,G a k,G n o,G p q,G s t,G v x,G y z,G E F],G (C l) (li l)] (M [A D c,G (L r1) R,G (L a) H,G (L a) K,G (L b) N,A Bm (J Bm O)]):=IU iZ (W 4 (Q [A D c,G (L r1) R,G (L a) H,G (L a) K,G (L b) N,A Bm (J Bm O)]::W 147 [])) (BZ (BZ (BZ (B3 (T (B CI [.r (.gb [G (C l) (li l),A D 0]),.r (.io [G (C l) (li l),A D P] (A D c))] Aio (Kf (show RQ 36 [G (C l) (li l)] (.gb [G (C l) (li l),A D 0]) from xP l) n1 Y Y n3 n4)) (T (m a1) (T (T (B CI [] jJ a0) (m a2)) (T (T (B CI [] To a0) (m a3)) (B CI [.r (.io [G (C l) (li l),A D X] (A D O))] [4] (Bp n8))))))))))
theorem Vs{α:Type}{P:α->Prop}{l:List α}(h:∀ x∈l,P x){i:Nat}{a:α}(b:P a):∀ x∈l.set i a,P x:=by
 intro x c;rcases TE c with h1 | h1
 ·exact h x h1
 ·exact h1 ▸ b
section
variable {l:LI} {r0 r1 r2 r3 r4 r5 r6 k:Int} {m7 m8 m9 m10 m12 m13 m14 m15 m16 m17 nb na:Nat} {d7 d8 d9 d10 d12 d13 d14 d15 d16 d17 cb ca:u}
theorem Px{fs:List El}(hf:∀ e∈fs,bQ e)(hn:C fs<=1000000):∀ (d:Nat) {i:Nat} {p:Int} {ks ss:LI},i+d=C fs->Sp l p->C ks=C fs->C ss=C fs->(∀ x∈ks,Sm x)->(∀ x∈ss,Sm x) ->
  ∃ q g h,Sp l q/\C g=C fs/\C h=C fs/\(∀ x∈g,Sm x)/\(∀ x∈h,Sm x) /\
   w (.loop bY) (NC r0 r1 r2 r3 r4 r5 r6 m7 d7 m8 d8 m9 d9 m10 d10 (C fs) (H cF fs) m12 d12 m13 d13 m14 d14 m15 d15 m16 d16 m17 d17 l p k nb cb (C fs) (H cI ks) (C fs) (H cI ss) na ca i) xZ0
    (NC r0 r1 r2 r3 r4 r5 r6 m7 d7 m8 d8 m9 d9 m10 d10 (C fs) (H cF fs) m12 d12 m13 d13 m14 d14 m15 d15 m16 d16 m17 d17 l q k nb cb (C fs) (H cI g) (C fs) (H cI h) na ca (C fs)):=by
 intro d;induction d with
 | zero =>
  intro i p ks ss hi s h1 h2 t u;have e:i=C fs:=by omega
  subst e;exact⟨p,ks,ss,s,h1,h2,t,u,f (Aji _ _ _ _ _ _ _ _ _ _ _ _ _ _ _ _ _ _ _ _ _ _ _ _ _ _ _ _ _ _ _ _ _ _ _ _ _ _ _ _ _ (AG (by omega)))⟩
 | succ d B =>
  intro i p ks ss hi s h1 h2 t u;have y:i<C fs:=by omega
  obtain⟨v,ho,hs⟩:=hf fs[i] (Bl y);have E:=v.n 4;have F:=v.n 5;have G:=v.n 8;unfold Sm at E F G;obtain⟨I,m,K,c1,L⟩:=Bv (a:=fs[i].n 4) (b:=fs[i].n 5) s (by omega) ho (by omega);obtain⟨z,o,M,c2,N⟩:=Bv (a := -(fs[i].n 8)) (b:=fs[i].n 8) K (by omega) (by omega) (by omega);have O:J D (0-fs[i].n 8) = -(fs[i].n 8):=by rw[wqz];omega
  have P:J D (i+1)=((i+1:Nat):Int):=by rw[wqz];rfl
  have r:0<=(i:Int)/\(i:Int)<(C fs:Int):=by omega
  have cell:∀ j,j<15->Ae (R j (R (i*15) (H cF fs))) 0 1 true=(cF fs[i])[j]? := fun j Q=>DP (c:=cF) (k:=15) (fun _=>rfl) y Q;have A:=Ajh r0 r1 r2 r3 r4 r5 r6 m7 d7 m8 d8 m9 d9 m10 d10 (C fs) (H cF fs) m12 d12 m13 d13 m14 d14 m15 d15 m16 d16 m17 d17 l p k nb cb (C fs) (H cI ks) (C fs) (H cI ss) na ca i
   I m z o (fs[i].n 4) (fs[i].n 5) (fs[i].n 8) (H cI (ks.set i m)) (H cI (ss.set i o)) (AN r.2) r r r (cell 6 (by omega)) (cell 7 (by omega)) L
   (De (c:=cI) (k:=1) (fun _=>rfl) (by omega) m) (cell 10 (by omega)) (by rw[O];exact N) (De (c:=cI) (k:=1) (fun _=>rfl) (by omega) o)
  rw[P] at A;obtain⟨q,g,h,S,T,U,V,W,X⟩:=B (i:=i+1) (p:=z) (ks:=ks.set i m) (ss:=ss.set i o) (by omega) M (by rw[Az,h1]) (by rw[Az,h2])
   (Vs t (by unfold Sm;omega)) (Vs u (by unfold Sm;omega))
  exact⟨q,g,h,S,T,U,V,W,Ay A X⟩
theorem H5{ws:List El}{m11 nk ns:Nat}{d11 ck cs:u}(hn:C ws<=1000000):∀ (d:Nat) {i:Nat} {p:Int} {az:List Bool},i+d=C ws->Sp l p->C az=C ws ->
  ∃ q a,Sp l q/\C a=C ws /\
   w (.loop RZ) (IV r0 r1 r2 r3 r4 r5 r6 m7 d7 (C ws) (H cW ws) m9 d9 m10 d10 m11 d11 m12 d12 m13 d13 m14 d14 m15 d15 m16 d16 m17 d17 l p k nb cb nk ck ns cs (C ws) (H cO az) i) xZ2
    (IV r0 r1 r2 r3 r4 r5 r6 m7 d7 (C ws) (H cW ws) m9 d9 m10 d10 m11 d11 m12 d12 m13 d13 m14 d14 m15 d15 m16 d16 m17 d17 l q k nb cb nk ck ns cs (C ws) (H cO a) (C ws)):=by
 intro d;induction d with
 | zero =>
  intro i p az hi r h1;have e:i=C ws:=by omega
  subst e;exact⟨p,az,r,h1,f (Ajm _ _ _ _ _ _ _ _ _ _ _ _ _ _ _ _ _ _ _ _ _ _ _ _ _ _ _ _ _ _ _ _ _ _ _ _ _ _ _ _ _ (AG (by omega)))⟩
 | succ d t =>
  intro i p az hi r h1;have E:i<C ws:=by omega
  obtain⟨s,h,y,c1,z⟩:=Bs (n:=2) r (by omega) (by omega);have v:J D (i+1)=((i+1:Nat):Int):=by rw[wqz];rfl
  have b:0<=(i:Int)/\(i:Int)<(C ws:Int):=by omega
  have cell:Ae (R 1 (R (i*13) (H cW ws))) 0 1 true=(cW ws[i])[1]? := DP (c:=cW) (k:=13) (fun _=>rfl) E (by omega);have A:=De (c:=cO) (k:=1) (es:=az) (i:=i) (fun _=>rfl) (by omega) (h==1);cases x:(ws[i].n 0==2)
  ·cases B:(ws[i].n 0==3)
   ·obtain⟨q,a,j,m,o⟩:=t (i:=i+1) (p:=p) (az:=az) (by omega) r h1;have g:=Ajl r0 r1 r2 r3 r4 r5 r6 m7 d7 (C ws) (H cW ws) m9 d9 m10 d10 m11 d11 m12 d12 m13 d13 m14 d14 m15 d15 m16 d16 m17 d17 l p k nb cb nk ck ns cs (C ws) (H cO az) i
     (ws[i].n 0) (AN b.2) x B b cell
    rw[v] at g;exact⟨q,a,j,m,Ay g o⟩
   ·obtain⟨q,a,j,m,o⟩:=t (i:=i+1) (p:=s) (az:=az.set i (h==1)) (by omega) y (by rw[Az,h1]);have g:=Ajk r0 r1 r2 r3 r4 r5 r6 m7 d7 (C ws) (H cW ws) m9 d9 m10 d10 m11 d11 m12 d12 m13 d13 m14 d14 m15 d15 m16 d16 m17 d17 l p k nb cb nk ck ns cs (C ws) (H cO az) i
     s h (ws[i].n 0) _ (AN b.2) x B b b cell z A
    rw[v] at g;exact⟨q,a,j,m,Ay g o⟩
  ·obtain⟨q,a,j,m,o⟩:=t (i:=i+1) (p:=s) (az:=az.set i (h==1)) (by omega) y (by rw[Az,h1]);have g:=Ajj r0 r1 r2 r3 r4 r5 r6 m7 d7 (C ws) (H cW ws) m9 d9 m10 d10 m11 d11 m12 d12 m13 d13 m14 d14 m15 d15 m16 d16 m17 d17 l p k nb cb nk ck ns cs (C ws) (H cO az) i
    s h (ws[i].n 0) _ (AN b.2) x b b cell z A
   rw[v] at g;exact⟨q,a,j,m,Ay g o⟩
theorem st3{m8 m11 nk ns:Nat}{d8 d11 ck cs:u}(hn:nb<=1000000)
  (a3:∀ (bs:List El) (x y r:Int) (i:Nat),C bs=nb->(∀ e∈bs,e.ok)->Sm x->Sm y->(r=0\/r=1)->i<nb->∃ W,RQ 17 [M [A D r0,A D r1,A D r2,A D r3,A D r4,A D r5,A D r6,G m7 d7,G m8 d8,G m9 d9,G m10 d10,G m11 d11,G m12 d12,G m13 d13,G m14 d14,G m15 d15,G m16 d16,G m17 d17],M [A D k,G nb (H cB bs),G nk ck,G ns cs,G na ca,A Bm 0],A D r,M [A D x,A D y],A D i] (I W)) :
  ∀ (d:Nat) {i:Nat} {p:Int} {bs:List El},i+d=nb->Sp l p->C bs=nb->(∀ e∈bs,e.ok) ->
  ∃ q a1,Sp l q/\C a1=nb/\(∀ e∈a1,e.ok) /\
   w (.loop Mc) (FZ r0 r1 r2 r3 r4 r5 r6 m7 d7 m8 d8 m9 d9 m10 d10 m11 d11 m12 d12 m13 d13 m14 d14 m15 d15 m16 d16 m17 d17 l p k nb (H cB bs) nk ck ns cs na ca i) xZ4 (FZ r0 r1 r2 r3 r4 r5 r6 m7 d7 m8 d8 m9 d9 m10 d10 m11 d11 m12 d12 m13 d13 m14 d14 m15 d15 m16 d16 m17 d17 l q k nb (H cB a1) nk ck ns cs na ca nb):=by
 intro d;induction d with
 | zero =>
  intro i p bs hi hp h1 h2;have e:i=nb:=by omega
  subst e;exact⟨p,bs,hp,h1,h2,f (Ajt _ _ _ _ _ _ _ _ _ _ _ _ _ _ _ _ _ _ _ _ _ _ _ _ _ _ _ _ _ _ _ _ _ _ _ _ _ _ _ _ _ (AG (by omega)))⟩
 | succ d ih =>
  intro i p bs hi hp h1 h2;have a4:i<nb:=by omega
  obtain⟨B,h,g1,b1,E⟩:=Bv (a := -2800) (b:=2800) hp (by omega) (by omega) (by omega);obtain⟨F,j,g2,b2,K⟩:=Bv (a := -2800) (b:=2800) g1 (by omega) (by omega) (by omega);obtain⟨L,m,g3,b3,N⟩:=Bv (a := -500) (b:=500) g2 (by omega) (by omega) (by omega);obtain⟨O,o,g4,b4,P⟩:=Bv (a := -500) (b:=500) g3 (by omega) (by omega) (by omega);obtain⟨Q,v,g5,b5,R⟩:=Bs (n:=8) g4 (by omega) (by omega);obtain⟨t,z,g6,b6,S⟩:=Bs (n:=5) g5 (by omega) (by omega);have T:J D (i+1)=((i+1:Nat):Int):=by rw[wqz];rfl
  have s:0<=(i:Int)/\(i:Int)<(nb:Int):=by omega
  have a5:∀ r:Int,BE (H cB bs) (i*7) [A D 1,A D 0,A D r,A D h,A D j,A D m,A D o]=some (H cB (bs.set i ⟨AP,[1,0,r,h,j,m,o],false⟩)):=fun r =>
   De (c:=cB) (k:=7) (es:=bs) (i:=i) (fun _=>rfl) (by omega) ⟨AP,[1,0,r,h,j,m,o],false⟩
  have a6:∀ r:Int,(r=0\/r=1)->El.ok ⟨AP,[1,0,r,h,j,m,o],false⟩:=by
   intro r hr x s;simp only[Aw,AD,or_false] at s;unfold Sm;omega
  obtain⟨q,X,Y,Z,k3,k4⟩:=ih (i:=i+1) (p:=t) (bs:=bs) (by omega) g6 h1 h2;have put:∀ r:Int,(r=0\/r=1)->_:=fun r hr=>ih (i:=i+1) (p:=t) (bs:=bs.set i ⟨AP,[1,0,r,h,j,m,o],false⟩) (by omega) g6 (by rw[Az,h1]) (Vs h2 (a6 r hr));cases U:(v==7) <;> cases V:decide (z<4)
  ·have g:=Ajs r0 r1 r2 r3 r4 r5 r6 m7 d7 m8 d8 m9 d9 m10 d10 m11 d11 m12 d12 m13 d13 m14 d14 m15 d15 m16 d16 m17 d17 l p k nb (H cB bs) nk ck ns cs na ca i B h F j L m O o Q v t z (AN s.2) U V E K N P R S;rw[T] at g;exact⟨q,X,Y,Z,k3,Ay g k4⟩
  ·obtain⟨W,ho⟩:=a3 bs h j 0 i h1 h2 (by unfold Sm;omega) (by unfold Sm;omega) (by omega) a4;cases W
   ·obtain⟨q',a2,j1,j2,j3,j4⟩:=put 0 (by omega);have g:=Ajr r0 r1 r2 r3 r4 r5 r6 m7 d7 m8 d8 m9 d9 m10 d10 m11 d11 m12 d12 m13 d13 m14 d14 m15 d15 m16 d16 m17 d17 l p k nb (H cB bs) nk ck ns cs na ca i B h F j L m O o Q v t z _ false (AN s.2) U V rfl s E K N P R S ho (a5 0);rw[T] at g;exact⟨q',a2,j1,j2,j3,Ay g j4⟩
   ·have g:=Ajq r0 r1 r2 r3 r4 r5 r6 m7 d7 m8 d8 m9 d9 m10 d10 m11 d11 m12 d12 m13 d13 m14 d14 m15 d15 m16 d16 m17 d17 l p k nb (H cB bs) nk ck ns cs na ca i B h F j L m O o Q v t z true (AN s.2) U V rfl E K N P R S ho;rw[T] at g;exact⟨q,X,Y,Z,k3,Ay g k4⟩
  ·have g:=Ajp r0 r1 r2 r3 r4 r5 r6 m7 d7 m8 d8 m9 d9 m10 d10 m11 d11 m12 d12 m13 d13 m14 d14 m15 d15 m16 d16 m17 d17 l p k nb (H cB bs) nk ck ns cs na ca i B h F j L m O o Q v t z (AN s.2) U V E K N P R S;rw[T] at g;exact⟨q,X,Y,Z,k3,Ay g k4⟩
  ·obtain⟨W,ho⟩:=a3 bs h j 1 i h1 h2 (by unfold Sm;omega) (by unfold Sm;omega) (by omega) a4;cases W
   ·obtain⟨q',a2,j1,j2,j3,j4⟩:=put 1 (by omega);have g:=Ajo r0 r1 r2 r3 r4 r5 r6 m7 d7 m8 d8 m9 d9 m10 d10 m11 d11 m12 d12 m13 d13 m14 d14 m15 d15 m16 d16 m17 d17 l p k nb (H cB bs) nk ck ns cs na ca i B h F j L m O o Q v t z _ false (AN s.2) U V rfl s E K N P R S ho (a5 1);rw[T] at g;exact⟨q',a2,j1,j2,j3,Ay g j4⟩
   ·have g:=Ajn r0 r1 r2 r3 r4 r5 r6 m7 d7 m8 d8 m9 d9 m10 d10 m11 d11 m12 d12 m13 d13 m14 d14 m15 d15 m16 d16 m17 d17 l p k nb (H cB bs) nk ck ns cs na ca i B h F j L m O o Q v t z true (AN s.2) U V rfl E K N P R S ho;rw[T] at g;exact⟨q,X,Y,Z,k3,Ay g k4⟩
end
structure St where
 k:Int
 bs:List El
 ks:List Int
 ss:List Int
 az:List Bool
 co:Int
def St.av(s:St)(nb a b:Nat):AV := M [A D s.k,G nb (H cB s.bs),G a (H cI s.ks),G a (H cI s.ss),G b (H cO s.az),A Bm s.co]
def St.ok(s:St)(nb a b:Nat):Prop:=(0<=s.k/\s.k<20)/\C s.bs=nb/\C s.ks=a/\C s.ss=a/\C s.az=b/\(∀ e∈s.bs,e.ok)/\(∀ x∈s.ks,Sm x)/\(∀ x∈s.ss,Sm x)/\(0<=s.co/\s.co<4294967296)
theorem Acw{l:LI}(hl:C l<4611686018427387904){r0 r1 r2 r3 r4 r5 r6:Int}{fs ws:List El}{m7 m9 m10 m12 m13 m14 m15 m16 m17:Nat}{d7 d9 d10 d12 d13 d14 d15 d16 d17:u}
  (hr:0<=r1/\r1<=1000000) (hf:∀ e∈fs,bQ e) (F:C fs<=1000000) (K:C ws<=1000000)
  (L:∀ (s:St) (x y r:Int) (i:Nat),s.ok r1.toNat (C fs) (C ws)->s.co=0->Sm x->Sm y->(r=0\/r=1)->i<r1.toNat->∃ N,RQ 17 [M [A D r0,A D r1,A D r2,A D r3,A D r4,A D r5,A D r6,G m7 d7,G (C ws) (H cW ws),G m9 d9,G m10 d10,G (C fs) (H cF fs),G m12 d12,G m13 d13,G m14 d14,G m15 d15,G m16 d16,G m17 d17],s.av r1.toNat (C fs) (C ws),A D r,M [A D x,A D y],A D i] (I N)) :
  ∃ s:St,s.ok r1.toNat (C fs) (C ws)/\RQ 11 [M [A D r0,A D r1,A D r2,A D r3,A D r4,A D r5,A D r6,G m7 d7,G (C ws) (H cW ws),G m9 d9,G m10 d10,G (C fs) (H cF fs),G m12 d12,G m13 d13,G m14 d14,G m15 d15,G m16 d16,G m17 d17],G (C l) (li l)] (s.av r1.toNat (C fs) (C ws)):=by
 obtain⟨d,a,O,f,P⟩:=Bs (l:=l) (p:=0) (n:=20) ⟨hl,by omega,by omega⟩ (by omega) (by omega);have z0:Sm 0:=⟨by decide,by decide⟩;have rep:∀ n,∀ x∈AK n (0:Int),Sm x:=fun n x c=>by rw[J6 c];exact z0
 have Q:El.ok ⟨AP,[0,0,0,0,0,0,0],false⟩:=by
  intro x c;simp only[Aw,AD,or_false] at c;unfold Sm;omega
 obtain⟨g,ks,ss,R,j,m,o,q,t⟩:=Px (r0:=r0) (r1:=r1) (r2:=r2) (r3:=r3) (r4:=r4) (r5:=r5) (r6:=r6) (k:=a) (m7:=m7) (m8:=C ws) (m9:=m9) (m10:=m10) (m12:=m12) (m13:=m13) (m14:=m14) (m15:=m15) (m16:=m16) (m17:=m17) (nb:=r1.toNat) (na:=C ws)
  (d7:=d7) (d8:=H cW ws) (d9:=d9) (d10:=d10) (d12:=d12) (d13:=d13) (d14:=d14) (d15:=d15) (d16:=d16) (d17:=d17) (cb:=H cB (AK r1.toNat ⟨AP,[0,0,0,0,0,0,0],false⟩)) (ca:=H cO (AK (C ws) false))
  hf F (C fs) (i:=0) (p:=d) (ks:=AK (C fs) 0) (ss:=AK (C fs) 0) (by omega) O Cp Cp (rep _) (rep _)
 obtain⟨v,az,S,z,B⟩:=H5 (r0:=r0) (r1:=r1) (r2:=r2) (r3:=r3) (r4:=r4) (r5:=r5) (r6:=r6) (k:=a) (m7:=m7) (m9:=m9) (m10:=m10) (m11:=C fs) (m12:=m12) (m13:=m13) (m14:=m14) (m15:=m15) (m16:=m16) (m17:=m17) (nb:=r1.toNat) (nk:=C fs) (ns:=C fs)
  (d7:=d7) (d9:=d9) (d10:=d10) (d11:=H cF fs) (d12:=d12) (d13:=d13) (d14:=d14) (d15:=d15) (d16:=d16) (d17:=d17) (cb:=H cB (AK r1.toNat ⟨AP,[0,0,0,0,0,0,0],false⟩)) (ck:=H cI ks) (cs:=H cI ss)
  K (C ws) (i:=0) (p:=g) (az:=AK (C ws) false) (by omega) R Cp
 obtain⟨T,bs,U,V,W,E⟩:=st3 (r0:=r0) (r1:=r1) (r2:=r2) (r3:=r3) (r4:=r4) (r5:=r5) (r6:=r6) (k:=a) (m7:=m7) (m8:=C ws) (m9:=m9) (m10:=m10) (m11:=C fs) (m12:=m12) (m13:=m13) (m14:=m14) (m15:=m15) (m16:=m16) (m17:=m17) (nb:=r1.toNat) (nk:=C fs) (ns:=C fs) (na:=C ws)
  (d7:=d7) (d8:=H cW ws) (d9:=d9) (d10:=d10) (d11:=H cF fs) (d12:=d12) (d13:=d13) (d14:=d14) (d15:=d15) (d16:=d16) (d17:=d17) (ck:=H cI ks) (cs:=H cI ss) (ca:=H cO az)
  (by omega) (fun bs x y r i h1 h2 c X Y hi=>L ⟨a,bs,ks,ss,az,0⟩ x y r i ⟨f,h1,j,m,z,h2,o,q,⟨SQ 0,(by decide:(0:Int)<4294967296)⟩⟩ rfl c X Y hi)
  r1.toNat (i:=0) (p:=v) (bs:=AK r1.toNat ⟨AP,[0,0,0,0,0,0,0],false⟩) (by omega) S Cp (fun e Z=>by rw[J6 Z];exact Q)
 obtain⟨p5,b,g5,b5,q5⟩:=Bs (n:=16) U (by omega) (by omega);have w:J Bm b=b:=by rw[NB];omega
 rw[<- G3,<- G3,<- G3] at t;rw[<- G3,<- G3] at B;rw[<- G3] at E;have h:=Aso r0 r1 r2 r3 r4 r5 r6 m7 d7 (C ws) (H cW ws) m9 d9 m10 d10 (C fs) (H cF fs) m12 d12 m13 d13 m14 d14 m15 d15 m16 d16 m17 d17 l _ _ _ d a g v T p5 b _ _ _ _ ⟨hr.1,by omega⟩ (by omega) (by omega) P t B E q5;rw[w] at h;exact⟨⟨a,bs,ks,ss,az,b⟩,⟨f,V,j,m,z,W,o,q,⟨(by omega:0<=b),(by omega:b<4294967296)⟩⟩,h⟩
def TV0:Bo:=[]
theorem JI:AQ Cy TV0:=AQ.nil _
def e(x y:Int):Bool:=decide (-1073741824<=x)&&decide (x<=1073741824)&&decide (-1073741824<=y)&&decide (y<=1073741824)
theorem Ck{x y:Int}(h:e x y=true) : -1073741824<=x/\x<=1073741824 /\ -1073741824<=y/\y<=1073741824:=by
 simp[e] at h;omega
theorem C5{x y:Int}(h : -1073741824<=x/\x<=1073741824 /\ -1073741824<=y/\y<=1073741824):e x y=true:=by
 simp[e];omega
def Ub(x y:Int):AV :=
 match decide (x>=(-1073741824)) with
 | true=>(match decide (x<=1073741824) with
 | true=>(match decide (y>=(-1073741824)) with
 | true=>(I (E (y<=1073741824)))
 | false=>I false)
 | false=>I false)
 | false=>I false
theorem Aju(x y:Int)  : RQ 133 [M [A D x,A D y]] (Ub x y):=by
 unfold Ub;cases c1:(E (x>=(-1073741824)))
 ·exact N (r := I false) (ps:=[E (x>=(-1073741824))=false,false=false,false=false]) JI rfl 300 rfl [Y,Y,Y] (by kernel_rfl) ⟨c1,rfl,rfl,trivial⟩
 ·cases c2:(E (x<=1073741824))
  ·exact N (r := I false) (ps:=[E (x>=(-1073741824))=true,E (x<=1073741824)=false,false=false]) JI rfl 300 rfl [q,Y,Y] (by kernel_rfl) ⟨c1,c2,rfl,trivial⟩
  ·cases c3:(E (y>=(-1073741824)))
   ·exact N (r := I false) (ps:=[E (x>=(-1073741824))=true,E (x<=1073741824)=true,E (y>=(-1073741824))=false]) JI rfl 300 rfl [q,q,Y] (by kernel_rfl) ⟨c1,c2,c3,trivial⟩
   ·exact N (r := I (E (y<=1073741824))) (ps:=[E (x>=(-1073741824))=true,E (x<=1073741824)=true,E (y>=(-1073741824))=true]) JI rfl 300 rfl [q,q,q] (by kernel_rfl) ⟨c1,c2,c3,trivial⟩
theorem e133(x y:Int):Ub x y = I (e x y):=by
 unfold Ub e;repeat' split
 all_goals (simp_all <;> omega)
def Auu:u->Option (AV × List Prop)
 | [M [A D x,A D y]]=>some (I (e x y),[])
 | _=>none
def TV1:Bo:=(133,Auu)::TV0
theorem PX:AQ Cy TV1:=AQ.cons JI (by
 intro args r ps h a;unfold Auu at h;split at h
 ·cases h;exact e133 _ _ ▸ Aju _ _
 ·cases h)
section
variable(x y:Int)
def Ds:Int × Int:=if e x y then (x,y) else (0,0)
def Uc:AV :=
 match e x y with
 | true=>(M [A D x,A D y])
 | false=>(M [A D 0,A D 0])
theorem Ajv  : RQ 134 [M [A D x,A D y]] (Uc x y):=by
 unfold Uc;cases c1:(e x y)
 ·exact N (r := M [A D 0,A D 0]) (ps:=[(!(e x y))=true]) PX rfl 300 rfl [q] (by kernel_rfl) ⟨(by rw[c1];rfl),trivial⟩
 ·exact N (r := M [A D x,A D y]) (ps:=[(!(e x y))=false]) PX rfl 300 rfl [Y] (by kernel_rfl) ⟨(by rw[c1];rfl),trivial⟩
theorem e134:Uc x y = M [A D (Ds x y).1,A D (Ds x y).2]:=by
 unfold Uc Ds;cases h:e x y <;> rfl
end
def Auv:u->Option (AV × List Prop)
 | [M [A D x,A D y]]=>some (M [A D (Ds x y).1,A D (Ds x y).2],[])
 | _=>none
def TV2:Bo:=(134,Auv)::TV1
theorem Md:AQ Cy TV2:=AQ.cons PX (by
 intro args r ps h a;unfold Auv at h;split at h
 ·cases h;exact e134 _ _ ▸ Ajv _ _
 ·cases h)
section
variable(a b c d:Int)
def F:Int × Int:=if e a b&&e c d then Ds (a-c) (b-d) else (0,0)
def Vt:AV :=
 match e a b with
 | true=>(match e c d with
 | true=>(M [A D ((Ds (J D (a-c)) (J D (b-d))).1),A D ((Ds (J D (a-c)) (J D (b-d))).2)])
 | false=>M [A D 0,A D 0])
 | false=>(M [A D 0,A D 0])
theorem xR  : RQ 56 [M [A D a,A D b],M [A D c,A D d]] (Vt a b c d):=by
 unfold Vt;cases c1:(e a b)
 ·exact N (r := M [A D 0,A D 0]) (ps:=[(!(e a b))=true,true=true]) Md rfl 300 rfl [q,q] (by kernel_rfl) ⟨(by rw[c1];rfl),rfl,trivial⟩
 ·cases c2:(e c d)
  ·exact N (r := M [A D 0,A D 0]) (ps:=[(!(e a b))=false,(!(e c d))=true]) Md rfl 300 rfl [Y,q] (by kernel_rfl) ⟨(by rw[c1];rfl),(by rw[c2];rfl),trivial⟩
  ·exact N (r := M [A D ((Ds (J D (a-c)) (J D (b-d))).1),A D ((Ds (J D (a-c)) (J D (b-d))).2)]) (ps:=[(!(e a b))=false,(!(e c d))=false]) Md rfl 300 rfl [Y,Y] (by kernel_rfl) ⟨(by rw[c1];rfl),(by rw[c2];rfl),trivial⟩
theorem e56:Vt a b c d = M [A D (F a b c d).1,A D (F a b c d).2]:=by
 unfold Vt F;cases h1:e a b
 ·rfl
 ·cases h2:e c d
  ·rfl
  ·have f:=Ck h1;have g:=Ck h2;simp only[DN,if_true,Bb (n:=a-c) (by omega) (by omega),Bb (n:=b-d) (by omega) (by omega)]
end
def g56:u->Option (AV × List Prop)
 | [M [A D a,A D b],M [A D c,A D d]]=>some (M [A D (F a b c d).1,A D (F a b c d).2],[])
 | _=>none
def TV3:Bo:=(56,g56)::TV2
theorem Me:AQ Cy TV3:=AQ.cons Md (by
 intro args r ps h a;unfold g56 at h;split at h
 ·cases h;exact e56 _ _ _ _ ▸ xR _ _ _ _
 ·cases h)
theorem Ep{x y p q:Int}(h1 : -p<=x)(h2:x<=p)(a : -q<=y)(b:y<=q) : -(p*q)<=x*y/\x*y<=p*q:=by
 have c:=F3 (show 0<=p-x by omega) (show 0<=q-y by omega);have d:=F3 (show 0<=p+x by omega) (show 0<=q+y by omega);have e:=F3 (show 0<=p-x by omega) (show 0<=q+y by omega);have f:=F3 (show 0<=p+x by omega) (show 0<=q-y by omega);constructor <;> grind
theorem D4{x y:Int}(h1 : -1073741824<=x)(h2:x<=1073741824)(a : -1073741824<=y)(b:y<=1073741824) : -1152921504606846976<=x*y/\x*y<=1152921504606846976:=by
 have:=Ep h1 h2 a b;omega
section
variable(a b c d:Int)
def i:Int:=if e a b&&e c d then a*c+b*d else 0
def Ud:AV :=
 match e a b with
 | true=>(match e c d with
 | true=>(A D (J D (J D (a*c)+J D (b*d))))
 | false=>A D 0)
 | false=>(A D 0)
theorem Ajw  : RQ 136 [M [A D a,A D b],M [A D c,A D d]] (Ud a b c d):=by
 unfold Ud;cases c1:(e a b)
 ·exact N (r := A D 0) (ps:=[(!(e a b))=true,true=true]) Me rfl 300 rfl [q,q] (by kernel_rfl) ⟨(by rw[c1];rfl),rfl,trivial⟩
 ·cases c2:(e c d)
  ·exact N (r := A D 0) (ps:=[(!(e a b))=false,(!(e c d))=true]) Me rfl 300 rfl [Y,q] (by kernel_rfl) ⟨(by rw[c1];rfl),(by rw[c2];rfl),trivial⟩
  ·exact N (r := A D (J D (J D (a*c)+J D (b*d)))) (ps:=[(!(e a b))=false,(!(e c d))=false]) Me rfl 300 rfl [Y,Y] (by kernel_rfl) ⟨(by rw[c1];rfl),(by rw[c2];rfl),trivial⟩
theorem e136:Ud a b c d = A D (i a b c d):=by
 unfold Ud i;cases h1:e a b
 ·rfl
 ·cases h2:e c d
  ·rfl
  ·have f:=Ck h1;have g:=Ck h2;have h:=D4 (x:=a) (y:=c) (by omega) (by omega) (by omega) (by omega);have j:=D4 (x:=b) (y:=d) (by omega) (by omega) (by omega) (by omega);simp only[DN,if_true,Bb (n:=a*c) (by omega) (by omega),Bb (n:=b*d) (by omega) (by omega),Bb (n:=a*c+b*d) (by omega) (by omega)]
end
def Auw:u->Option (AV × List Prop)
 | [M [A D a,A D b],M [A D c,A D d]]=>some (A D (i a b c d),[])
 | _=>none
def TV4:Bo:=(136,Auw)::TV3
theorem Mf:AQ Cy TV4:=AQ.cons Me (by
 intro args r ps h a;unfold Auw at h;split at h
 ·cases h;exact e136 _ _ _ _ ▸ Ajw _ _ _ _
 ·cases h)
section
variable(a b c d:Int)
def j:Int:=if e a b&&e c d then a*d-b*c else 0
def Vu:AV :=
 match e a b with
 | true=>(match e c d with
 | true=>(A D (J D ((J D (a*d))-(J D (b*c)))))
 | false=>A D 0)
 | false=>(A D 0)
theorem xS  : RQ 55 [M [A D a,A D b],M [A D c,A D d]] (Vu a b c d):=by
 unfold Vu;cases c1:(e a b)
 ·exact N (r := A D 0) (ps:=[(!(e a b))=true,true=true]) Mf rfl 300 rfl [q,q] (by kernel_rfl) ⟨(by rw[c1];rfl),rfl,trivial⟩
 ·cases c2:(e c d)
  ·exact N (r := A D 0) (ps:=[(!(e a b))=false,(!(e c d))=true]) Mf rfl 300 rfl [Y,q] (by kernel_rfl) ⟨(by rw[c1];rfl),(by rw[c2];rfl),trivial⟩
  ·exact N (r := A D (J D ((J D (a*d))-(J D (b*c))))) (ps:=[(!(e a b))=false,(!(e c d))=false]) Mf rfl 300 rfl [Y,Y] (by kernel_rfl) ⟨(by rw[c1];rfl),(by rw[c2];rfl),trivial⟩
theorem e55:Vu a b c d = A D (j a b c d):=by
 unfold Vu j;cases h1:e a b
 ·rfl
 ·cases h2:e c d
  ·rfl
  ·have f:=Ck h1;have g:=Ck h2;have h:=D4 (x:=a) (y:=d) (by omega) (by omega) (by omega) (by omega);have i:=D4 (x:=b) (y:=c) (by omega) (by omega) (by omega) (by omega);simp only[DN,if_true,Bb (n:=a*d) (by omega) (by omega),Bb (n:=b*c) (by omega) (by omega),Bb (n:=a*d-b*c) (by omega) (by omega)]
end
def g55:u->Option (AV × List Prop)
 | [M [A D a,A D b],M [A D c,A D d]]=>some (A D (j a b c d),[])
 | _=>none
def TV5:Bo:=(55,g55)::TV4
theorem sU:AQ Cy TV5:=AQ.cons Mf (by
 intro args r ps h a;unfold g55 at h;split at h
 ·cases h;exact e55 _ _ _ _ ▸ xS _ _ _ _
 ·cases h)
def Aux:Bo:=TV5
theorem E7:AQ Cy Aux:=sU
def Vv:ICode:=CG sB 92 244
section
variable(n r b:Int)
def KO:V:=vi n::W 2 (vi r::vi b::W 17 [])
theorem Ajx(c1:E (b>0)=true)(c2:E (J D ((As (Bu .i64) r ||| As (Bu .i64) b).toNat)<=J D (C_ n (J D ((As (Bu .i64) r ||| As (Bu .i64) b).toNat))))=true)(a:¬ (J D ((As (Bu .i64) r ||| As (Bu .i64) b).toNat))=0):w Vv (KO n r b) .norm (KO n (J D ((As (Bu .i64) r ||| As (Bu .i64) b).toNat)) (Bd b (2^(min (L 1) (Bu .i64))))):=BU E7 300 [q,q] QD (Jm c1 a c2 (show ¬ (1:Int)<0 from (by decide))) (by kernel_rfl)
theorem Ajy(c1:E (b>0)=true)(c2:E (J D ((As (Bu .i64) r ||| As (Bu .i64) b).toNat)<=J D (C_ n (J D ((As (Bu .i64) r ||| As (Bu .i64) b).toNat))))=false)(a:¬ (J D ((As (Bu .i64) r ||| As (Bu .i64) b).toNat))=0):w Vv (KO n r b) .norm (KO n r (Bd b (2^(min (L 1) (Bu .i64))))):=BU E7 300 [q,Y] QD (Jm c1 a c2 (show ¬ (1:Int)<0 from (by decide))) (by kernel_rfl)
theorem Ajz(c1:E (b>0)=false):w Vv (KO n r b) xZ0 (KO n r b):=BU E7 300 [Y] QD (Bp c1) (by kernel_rfl)
end
def D5(n:Nat):Nat->Nat->Nat
 | 0,r=>r
 | k+1,r=>D5 n k (if r+2^k<=n / (r+2^k) then r+2^k else r)
def B5(n:Int):Int:=if n<=0 then 0 else D5 n.toNat 32 0
def bk:Nat->Int
 | 0=>0
 | k+1=>((2^k:Nat):Int)
theorem Asp(k q:Nat)(h:2^(k+1)*q+2^k<9223372036854775808) :
  J D ((As (Bu .i64) ((2^(k+1)*q:Nat):Int) ||| As (Bu .i64) ((2^k:Nat):Int)).toNat)=((2^(k+1)*q+2^k:Nat):Int):=by
 show J D ((As 64 ((2^(k+1)*q:Nat):Int) ||| As 64 ((2^k:Nat):Int)).toNat)=_;have a:2^k<2^(k+1):=Nat.pow_lt_pow_right (by omega) (by omega);rw[BitVec.toNat_or,Jy,Jy,KV,KV,Hg (by omega),Hg (by omega),<- Nat.two_pow_add_eq_or_of_lt a];exact Bb (by omega) (by omega)
theorem kD(k:Nat):Bd ((2^k:Nat):Int) (2^(min (L 1) (Bu .i64)))=bk k:=by
 show Bd ((2^k:Nat):Int) 2=bk k;rw[Fl _ (by omega)];cases k with
 | zero=>rfl
 | succ k=>show ((2^(k+1):Nat):Int) / 2=((2^k:Nat):Int);rw[Qp];omega
theorem Aka(n X:Nat)(hn:n<9223372036854775808):J D (C_ (n:Int) (X:Int))=((n / X:Nat):Int):=by
 rw[TF (by omega),<- Int.natCast_ediv];have:=Nat.div_le_self n X;generalize n / X=d at *
 exact Bb (by omega) (by omega)
theorem Acx(n:Nat)(hn:n<9223372036854775808):∀ (k q:Nat),k<=32->2^k*q+2^k<=4294967296->w (.loop Vv) (KO n ((2^k*q:Nat)) (bk k)) xZ0 (KO n (D5 n k (2^k*q):Nat) 0):=by
 intro k;induction k with
 | zero =>
  intro q _ _;refine f (Ajz _ _ _ ?_);rfl
 | succ k d =>
  intro q m o;have j:0<2^k:=Nat.two_pow_pos k;have b:2^(k+1)*q=2^k*(2*q):=by rw[Qp,Nat.mul_assoc]
  have c:2^(k+1)*q+2^k=2^k*(2*q+1):=by rw[b,Nat.mul_add,Kc]
  have p:2^(k+1)=2^k+2^k:=by rw[Qp];omega
  have a:=Asp k q (by omega);have hb:decide (((2^k:Nat):Int)>0)=true:=AN (Int.natCast_pos.2 j);have g:0<2^(k+1)*q+2^k:=by omega
  have l:D5 n (k+1) (2^(k+1)*q)=D5 n k (if 2^(k+1)*q+2^k<=n / (2^(k+1)*q+2^k) then 2^(k+1)*q+2^k else 2^(k+1)*q):=rfl;rw[l];have i:=Aka n (2^(k+1)*q+2^k) hn;by_cases hc:2^(k+1)*q+2^k<=n / (2^(k+1)*q+2^k)
  ·have h1:=Ajx n ((2^(k+1)*q:Nat)) ((2^k:Nat)) hb (by rw[a,i];exact AN (Agi.2 hc)) (by rw[a];exact fun e=>Azk g (xT e));rw[a,kD,c] at h1;refine Ay h1 ?_;rw[Af hc,c];exact d (2*q+1) (by omega) (by rw[<- c];omega)
  ·have h1:=Ajy n ((2^(k+1)*q:Nat)) ((2^k:Nat)) hb (by rw[a,i];exact AG (fun h=>hc (Agi.1 h))) (by rw[a];exact fun e=>Azk g (xT e));rw[kD] at h1;refine Ay h1 ?_;rw[Ak hc,b];exact d (2*q) (by omega) (by rw[<- b];omega)
theorem kE(n:Int)(h:decide (n<=0)=true):RQ 224 [A D n] (A D 0):=N (ps:=[E (n<=0)=true]) E7 rfl 300 rfl [q] (by kernel_rfl) ⟨h,trivial⟩
theorem bZ(n:Int)(h:decide (n<=0)=false)(hn:n<=9223372036854775807):RQ 224 [A D n] (A D (D5 n.toNat 32 0)):=by
 have b:0<n:=by simpa using h
 have a:=Acx n.toNat (by omega) 32 0 (Ar _) (by decide);have hl:w (.loop Vv) (KO n 0 2147483648) xZ0 (KO n (D5 n.toNat 32 0) 0):=by
  have e:(n.toNat:Int)=n:=by omega
  rw[e] at a;exact a
 exact IU sB (vi n::W 1 (vi (D5 n.toNat 32 0:Int)::vi (D5 n.toNat 32 0:Int)::vi 0::W 16 (vi (D5 n.toNat 32 0:Int)::[]))) (T (C0 (t:=(vi n::W 1 (vi 0::W 19 []))) (ex := .norm) (ps:=[]) E7 300 [] [0,2] (by kernel_rfl) trivial)
  (T (C0 (t:=(vi n::W 1 (vi 0::W 3 (vi n::X (I (E (n<=0)))::W 14 [])))) (ex := .norm) (ps:=[E (n<=0)=false]) E7 300 [Y] [0,2,6,7] (by kernel_rfl) ⟨h,trivial⟩)
  (T (C0 (t:=(vi n::W 1 (vi 0::vi 0::W 2 (vi n::X (I (E (n<=0)))::W 14 [])))) (ex := .norm) (ps:=[]) E7 300 [] [0,2,3,6,7] (by kernel_rfl) trivial)
  (T (T (C0 (t:=(vi n::W 2 (vi 0::vi 2147483648::W 17 []))) (ex := .norm) (ps:=[]) E7 300 [] QD (by kernel_rfl) trivial)
  (m hl))
  (C0 (t:=(vi n::W 1 (vi (D5 n.toNat 32 0:Int)::vi (D5 n.toNat 32 0:Int)::vi 0::W 16 (vi (D5 n.toNat 32 0:Int)::[])))) (ex := .ret) (ps:=[]) E7 300 [] [0,2,3,4,21] (by kernel_rfl) trivial)))))
theorem Akb(n:Int)(hn:n<=9223372036854775807):RQ 224 [A D n] (A D (B5 n)):=by
 unfold B5;cases h:decide (n<=0)
 ·rw[Ak (by simpa using h)];exact bZ n h hn
 ·rw[Af (by simpa using h)];exact kE n h
def Auy:u->Option (AV × List Prop)
 | [A D n]=>some (A D (B5 n),[n<=9223372036854775807])
 | _=>none
def TL1:Bo:=(224,Auy)::Aux
theorem sV:AQ Cy TL1:=AQ.cons E7 (by
 intro args r ps h a;unfold Auy at h;split at h
 ·cases h;exact Akb _ a.1
 ·cases h)
def Akc:Bo:=TL1
theorem Ct:AQ Cy Akc:=sV
def k(n x y:Int):Bool:=decide (-n<=x)&&decide (x<=n)&&decide (-n<=y)&&decide (y<=n)
theorem Hw{n x y:Int}(h:k n x y=true) : -n<=x/\x<=n /\ -n<=y/\y<=n:=by
 simp[k] at h;omega
theorem kF{n x y:Int}(h : -n<=x/\x<=n /\ -n<=y/\y<=n):k n x y=true:=by
 simp[k];omega
section
variable(n a b:Int)
def OJ:AV :=
 match decide (a<J D (0-n)) with
 | true=>(I false)
 | false=>(match decide (a>n) with
 | true=>(I false)
 | false=>(match decide (b<J D (0-n)) with
 | true=>(I false)
 | false=>(match decide (b>n) with
 | true=>(I false)
 | false=>I true)))
theorem sW  : RQ 135 [A D n,G 1 [A D a,A D b]] (OJ n a b):=by
 unfold OJ;cases c1:(E (a<J D (0-n)))
 ·cases c2:(E (a>n))
  ·cases c3:(E (b<J D (0-n)))
   ·cases c4:(E (b>n))
    ·exact N (r := I true) (ps:=[true=true,0<=(0:Int)/\(0:Int)<(1:Nat),Ae [A D a,A D b] 0 2 false=some (M [A D a,A D b]),E (a<J D (0-n))=false,E (a>n)=false,E (b<J D (0-n))=false,E (b>n)=false,false=false]) Ct rfl 300 rfl [q,.v (M [A D a,A D b]),Y,Y,Y,Y,Y] (by kernel_rfl) ⟨rfl,(by decide),rfl,c1,c2,c3,c4,rfl,trivial⟩
    ·exact N (r := I false) (ps:=[true=true,0<=(0:Int)/\(0:Int)<(1:Nat),Ae [A D a,A D b] 0 2 false=some (M [A D a,A D b]),E (a<J D (0-n))=false,E (a>n)=false,E (b<J D (0-n))=false,E (b>n)=true]) Ct rfl 300 rfl [q,.v (M [A D a,A D b]),Y,Y,Y,q] (by kernel_rfl) ⟨rfl,(by decide),rfl,c1,c2,c3,c4,trivial⟩
   ·exact N (r := I false) (ps:=[true=true,0<=(0:Int)/\(0:Int)<(1:Nat),Ae [A D a,A D b] 0 2 false=some (M [A D a,A D b]),E (a<J D (0-n))=false,E (a>n)=false,E (b<J D (0-n))=true,true=true]) Ct rfl 300 rfl [q,.v (M [A D a,A D b]),Y,Y,q,q] (by kernel_rfl) ⟨rfl,(by decide),rfl,c1,c2,c3,rfl,trivial⟩
  ·exact N (r := I false) (ps:=[true=true,0<=(0:Int)/\(0:Int)<(1:Nat),Ae [A D a,A D b] 0 2 false=some (M [A D a,A D b]),E (a<J D (0-n))=false,E (a>n)=true,true=true,true=true]) Ct rfl 300 rfl [q,.v (M [A D a,A D b]),Y,q,q,q] (by kernel_rfl) ⟨rfl,(by decide),rfl,c1,c2,rfl,rfl,trivial⟩
 ·exact N (r := I false) (ps:=[true=true,0<=(0:Int)/\(0:Int)<(1:Nat),Ae [A D a,A D b] 0 2 false=some (M [A D a,A D b]),E (a<J D (0-n))=true,true=true,true=true,true=true]) Ct rfl 300 rfl [q,.v (M [A D a,A D b]),q,q,q,q] (by kernel_rfl) ⟨rfl,(by decide),rfl,c1,rfl,rfl,rfl,trivial⟩
theorem Asq(h0:0<=n)(h1:n<=4611686018427387904):OJ n a b = I (k n a b):=by
 unfold OJ k;simp only[LF,Bb (n := -n) (by omega) (by omega)];repeat' split
 all_goals (simp_all <;> omega)
end
section
variable(n a b c d:Int)
def OK:AV :=
 match decide (a<J D (0-n)) with
 | true=>(I false)
 | false=>(match decide (a>n) with
 | true=>(I false)
 | false=>(match decide (b<J D (0-n)) with
 | true=>(I false)
 | false=>(match decide (b>n) with
 | true=>(I false)
 | false=>(match decide (c<J D (0-n)) with
 | true=>(I false)
 | false=>(match decide (c>n) with
 | true=>(I false)
 | false=>(match decide (d<J D (0-n)) with
 | true=>(I false)
 | false=>(match decide (d>n) with
 | true=>(I false)
 | false=>I true)))))))
theorem sX  : RQ 135 [A D n,G 2 [A D a,A D b,A D c,A D d]] (OK n a b c d):=by
 unfold OK;cases c1:(E (a<J D (0-n)))
 ·cases c2:(E (a>n))
  ·cases c3:(E (b<J D (0-n)))
   ·cases c4:(E (b>n))
    ·cases e:(E (c<J D (0-n)))
     ·cases f:(E (c>n))
      ·cases g:(E (d<J D (0-n)))
       ·cases h:(E (d>n))
        ·exact N (r := I true) (ps:=[true=true,0<=(0:Int)/\(0:Int)<(2:Nat),Ae [A D a,A D b,A D c,A D d] 0 2 false=some (M [A D a,A D b]),E (a<J D (0-n))=false,E (a>n)=false,E (b<J D (0-n))=false,E (b>n)=false,true=true,0<=(1:Int)/\(1:Int)<(2:Nat),Ae [A D c,A D d] 0 2 false=some (M [A D c,A D d]),E (c<J D (0-n))=false,E (c>n)=false,E (d<J D (0-n))=false,E (d>n)=false,false=false]) Ct rfl 300 rfl [q,.v (M [A D a,A D b]),Y,Y,Y,Y,q,.v (M [A D c,A D d]),Y,Y,Y,Y,Y] (by kernel_rfl) ⟨rfl,(by decide),rfl,c1,c2,c3,c4,rfl,(by decide),rfl,e,f,g,h,rfl,trivial⟩
        ·exact N (r := I false) (ps:=[true=true,0<=(0:Int)/\(0:Int)<(2:Nat),Ae [A D a,A D b,A D c,A D d] 0 2 false=some (M [A D a,A D b]),E (a<J D (0-n))=false,E (a>n)=false,E (b<J D (0-n))=false,E (b>n)=false,true=true,0<=(1:Int)/\(1:Int)<(2:Nat),Ae [A D c,A D d] 0 2 false=some (M [A D c,A D d]),E (c<J D (0-n))=false,E (c>n)=false,E (d<J D (0-n))=false,E (d>n)=true]) Ct rfl 300 rfl [q,.v (M [A D a,A D b]),Y,Y,Y,Y,q,.v (M [A D c,A D d]),Y,Y,Y,q] (by kernel_rfl) ⟨rfl,(by decide),rfl,c1,c2,c3,c4,rfl,(by decide),rfl,e,f,g,h,trivial⟩
       ·exact N (r := I false) (ps:=[true=true,0<=(0:Int)/\(0:Int)<(2:Nat),Ae [A D a,A D b,A D c,A D d] 0 2 false=some (M [A D a,A D b]),E (a<J D (0-n))=false,E (a>n)=false,E (b<J D (0-n))=false,E (b>n)=false,true=true,0<=(1:Int)/\(1:Int)<(2:Nat),Ae [A D c,A D d] 0 2 false=some (M [A D c,A D d]),E (c<J D (0-n))=false,E (c>n)=false,E (d<J D (0-n))=true,true=true]) Ct rfl 300 rfl [q,.v (M [A D a,A D b]),Y,Y,Y,Y,q,.v (M [A D c,A D d]),Y,Y,q,q] (by kernel_rfl) ⟨rfl,(by decide),rfl,c1,c2,c3,c4,rfl,(by decide),rfl,e,f,g,rfl,trivial⟩
      ·exact N (r := I false) (ps:=[true=true,0<=(0:Int)/\(0:Int)<(2:Nat),Ae [A D a,A D b,A D c,A D d] 0 2 false=some (M [A D a,A D b]),E (a<J D (0-n))=false,E (a>n)=false,E (b<J D (0-n))=false,E (b>n)=false,true=true,0<=(1:Int)/\(1:Int)<(2:Nat),Ae [A D c,A D d] 0 2 false=some (M [A D c,A D d]),E (c<J D (0-n))=false,E (c>n)=true,true=true,true=true]) Ct rfl 300 rfl [q,.v (M [A D a,A D b]),Y,Y,Y,Y,q,.v (M [A D c,A D d]),Y,q,q,q] (by kernel_rfl) ⟨rfl,(by decide),rfl,c1,c2,c3,c4,rfl,(by decide),rfl,e,f,rfl,rfl,trivial⟩
     ·exact N (r := I false) (ps:=[true=true,0<=(0:Int)/\(0:Int)<(2:Nat),Ae [A D a,A D b,A D c,A D d] 0 2 false=some (M [A D a,A D b]),E (a<J D (0-n))=false,E (a>n)=false,E (b<J D (0-n))=false,E (b>n)=false,true=true,0<=(1:Int)/\(1:Int)<(2:Nat),Ae [A D c,A D d] 0 2 false=some (M [A D c,A D d]),E (c<J D (0-n))=true,true=true,true=true,true=true]) Ct rfl 300 rfl [q,.v (M [A D a,A D b]),Y,Y,Y,Y,q,.v (M [A D c,A D d]),q,q,q,q] (by kernel_rfl) ⟨rfl,(by decide),rfl,c1,c2,c3,c4,rfl,(by decide),rfl,e,rfl,rfl,rfl,trivial⟩
    ·exact N (r := I false) (ps:=[true=true,0<=(0:Int)/\(0:Int)<(2:Nat),Ae [A D a,A D b,A D c,A D d] 0 2 false=some (M [A D a,A D b]),E (a<J D (0-n))=false,E (a>n)=false,E (b<J D (0-n))=false,E (b>n)=true]) Ct rfl 300 rfl [q,.v (M [A D a,A D b]),Y,Y,Y,q] (by kernel_rfl) ⟨rfl,(by decide),rfl,c1,c2,c3,c4,trivial⟩
   ·exact N (r := I false) (ps:=[true=true,0<=(0:Int)/\(0:Int)<(2:Nat),Ae [A D a,A D b,A D c,A D d] 0 2 false=some (M [A D a,A D b]),E (a<J D (0-n))=false,E (a>n)=false,E (b<J D (0-n))=true,true=true]) Ct rfl 300 rfl [q,.v (M [A D a,A D b]),Y,Y,q,q] (by kernel_rfl) ⟨rfl,(by decide),rfl,c1,c2,c3,rfl,trivial⟩
  ·exact N (r := I false) (ps:=[true=true,0<=(0:Int)/\(0:Int)<(2:Nat),Ae [A D a,A D b,A D c,A D d] 0 2 false=some (M [A D a,A D b]),E (a<J D (0-n))=false,E (a>n)=true,true=true,true=true]) Ct rfl 300 rfl [q,.v (M [A D a,A D b]),Y,q,q,q] (by kernel_rfl) ⟨rfl,(by decide),rfl,c1,c2,rfl,rfl,trivial⟩
 ·exact N (r := I false) (ps:=[true=true,0<=(0:Int)/\(0:Int)<(2:Nat),Ae [A D a,A D b,A D c,A D d] 0 2 false=some (M [A D a,A D b]),E (a<J D (0-n))=true,true=true,true=true,true=true]) Ct rfl 300 rfl [q,.v (M [A D a,A D b]),q,q,q,q] (by kernel_rfl) ⟨rfl,(by decide),rfl,c1,rfl,rfl,rfl,trivial⟩
theorem Asr(h0:0<=n)(h1:n<=4611686018427387904):OK n a b c d = I (k n a b&&k n c d):=by
 unfold OK k;simp only[LF,Bb (n := -n) (by omega) (by omega)];repeat' split
 all_goals (simp_all <;> omega)
end
def Auz:u->Option (AV × List Prop)
 | [A D n,G 1 [A D a,A D b]]=>some (I (k n a b),[0<=n,n<=4611686018427387904])
 | [A D n,G 2 [A D a,A D b,A D c,A D d]]=>some (I (k n a b&&k n c d),[0<=n,n<=4611686018427387904])
 | _=>none
def TI1:Bo:=(135,Auz)::Akc
theorem Cu:AQ Cy TI1:=AQ.cons Ct (by
 intro args r ps h a;unfold Auz at h;split at h
 ·cases h;exact Asq _ _ _  a.1 a.2.1 ▸ sW _ _ _ 
 ·cases h;exact Asr _ _ _ _ _  a.1 a.2.1 ▸ sX _ _ _ _ _ 
 ·cases h)
section
variable(n a b:Int)
def OL:AV :=
 match decide (a<J D (0-n)) with
 | true=>(I false)
 | false=>(match decide (a>n) with
 | true=>(I false)
 | false=>(match decide (b<J D (0-n)) with
 | true=>(I false)
 | false=>(match decide (b>n) with
 | true=>(I false)
 | false=>I true)))
theorem sY  : RQ 145 [A D n,G 1 [A D a,A D b]] (OL n a b):=by
 unfold OL;cases c1:(E (a<J D (0-n)))
 ·cases c2:(E (a>n))
  ·cases c3:(E (b<J D (0-n)))
   ·cases c4:(E (b>n))
    ·exact N (r := I true) (ps:=[true=true,0<=(0:Int)/\(0:Int)<(1:Nat),Ae [A D a,A D b] 0 2 false=some (M [A D a,A D b]),E (a<J D (0-n))=false,E (a>n)=false,E (b<J D (0-n))=false,E (b>n)=false,false=false]) Cu rfl 300 rfl [q,.v (M [A D a,A D b]),Y,Y,Y,Y,Y] (by kernel_rfl) ⟨rfl,(by decide),rfl,c1,c2,c3,c4,rfl,trivial⟩
    ·exact N (r := I false) (ps:=[true=true,0<=(0:Int)/\(0:Int)<(1:Nat),Ae [A D a,A D b] 0 2 false=some (M [A D a,A D b]),E (a<J D (0-n))=false,E (a>n)=false,E (b<J D (0-n))=false,E (b>n)=true]) Cu rfl 300 rfl [q,.v (M [A D a,A D b]),Y,Y,Y,q] (by kernel_rfl) ⟨rfl,(by decide),rfl,c1,c2,c3,c4,trivial⟩
   ·exact N (r := I false) (ps:=[true=true,0<=(0:Int)/\(0:Int)<(1:Nat),Ae [A D a,A D b] 0 2 false=some (M [A D a,A D b]),E (a<J D (0-n))=false,E (a>n)=false,E (b<J D (0-n))=true,true=true]) Cu rfl 300 rfl [q,.v (M [A D a,A D b]),Y,Y,q,q] (by kernel_rfl) ⟨rfl,(by decide),rfl,c1,c2,c3,rfl,trivial⟩
  ·exact N (r := I false) (ps:=[true=true,0<=(0:Int)/\(0:Int)<(1:Nat),Ae [A D a,A D b] 0 2 false=some (M [A D a,A D b]),E (a<J D (0-n))=false,E (a>n)=true,true=true,true=true]) Cu rfl 300 rfl [q,.v (M [A D a,A D b]),Y,q,q,q] (by kernel_rfl) ⟨rfl,(by decide),rfl,c1,c2,rfl,rfl,trivial⟩
 ·exact N (r := I false) (ps:=[true=true,0<=(0:Int)/\(0:Int)<(1:Nat),Ae [A D a,A D b] 0 2 false=some (M [A D a,A D b]),E (a<J D (0-n))=true,true=true,true=true,true=true]) Cu rfl 300 rfl [q,.v (M [A D a,A D b]),q,q,q,q] (by kernel_rfl) ⟨rfl,(by decide),rfl,c1,rfl,rfl,rfl,trivial⟩
theorem Ass(h0:0<=n)(h1:n<=4611686018427387904):OL n a b = I (k n a b):=by
 unfold OL k;simp only[LF,Bb (n := -n) (by omega) (by omega)];repeat' split
 all_goals (simp_all <;> omega)
end
section
variable(n a b c d e f:Int)
def OM:AV :=
 match decide (a<J D (0-n)) with
 | true=>(I false)
 | false=>(match decide (a>n) with
 | true=>(I false)
 | false=>(match decide (b<J D (0-n)) with
 | true=>(I false)
 | false=>(match decide (b>n) with
 | true=>(I false)
 | false=>(match decide (c<J D (0-n)) with
 | true=>(I false)
 | false=>(match decide (c>n) with
 | true=>(I false)
 | false=>(match decide (d<J D (0-n)) with
 | true=>(I false)
 | false=>(match decide (d>n) with
 | true=>(I false)
 | false=>(match decide (e<J D (0-n)) with
 | true=>(I false)
 | false=>(match decide (e>n) with
 | true=>(I false)
 | false=>(match decide (f<J D (0-n)) with
 | true=>(I false)
 | false=>(match decide (f>n) with
 | true=>(I false)
 | false=>I true)))))))))))
theorem sZ  : RQ 145 [A D n,G 3 [A D a,A D b,A D c,A D d,A D e,A D f]] (OM n a b c d e f):=by
 unfold OM;cases c1:(E (a<J D (0-n)))
 ·cases c2:(E (a>n))
  ·cases c3:(E (b<J D (0-n)))
   ·cases c4:(E (b>n))
    ·cases g:(E (c<J D (0-n)))
     ·cases h:(E (c>n))
      ·cases i:(E (d<J D (0-n)))
       ·cases j:(E (d>n))
        ·cases l:(E (e<J D (0-n)))
         ·cases m:(E (e>n))
          ·cases o:(E (f<J D (0-n)))
           ·cases p:(E (f>n))
            ·exact N (r := I true) (ps:=[true=true,0<=(0:Int)/\(0:Int)<(3:Nat),Ae [A D a,A D b,A D c,A D d,A D e,A D f] 0 2 false=some (M [A D a,A D b]),E (a<J D (0-n))=false,E (a>n)=false,E (b<J D (0-n))=false,E (b>n)=false,true=true,0<=(1:Int)/\(1:Int)<(3:Nat),Ae [A D c,A D d,A D e,A D f] 0 2 false=some (M [A D c,A D d]),E (c<J D (0-n))=false,E (c>n)=false,E (d<J D (0-n))=false,E (d>n)=false,true=true,0<=(2:Int)/\(2:Int)<(3:Nat),Ae [A D e,A D f] 0 2 false=some (M [A D e,A D f]),E (e<J D (0-n))=false,E (e>n)=false,E (f<J D (0-n))=false,E (f>n)=false,false=false]) Cu rfl 300 rfl [q,.v (M [A D a,A D b]),Y,Y,Y,Y,q,.v (M [A D c,A D d]),Y,Y,Y,Y,q,.v (M [A D e,A D f]),Y,Y,Y,Y,Y] (by kernel_rfl) ⟨rfl,(by decide),rfl,c1,c2,c3,c4,rfl,(by decide),rfl,g,h,i,j,rfl,(by decide),rfl,l,m,o,p,rfl,trivial⟩
            ·exact N (r := I false) (ps:=[true=true,0<=(0:Int)/\(0:Int)<(3:Nat),Ae [A D a,A D b,A D c,A D d,A D e,A D f] 0 2 false=some (M [A D a,A D b]),E (a<J D (0-n))=false,E (a>n)=false,E (b<J D (0-n))=false,E (b>n)=false,true=true,0<=(1:Int)/\(1:Int)<(3:Nat),Ae [A D c,A D d,A D e,A D f] 0 2 false=some (M [A D c,A D d]),E (c<J D (0-n))=false,E (c>n)=false,E (d<J D (0-n))=false,E (d>n)=false,true=true,0<=(2:Int)/\(2:Int)<(3:Nat),Ae [A D e,A D f] 0 2 false=some (M [A D e,A D f]),E (e<J D (0-n))=false,E (e>n)=false,E (f<J D (0-n))=false,E (f>n)=true]) Cu rfl 300 rfl [q,.v (M [A D a,A D b]),Y,Y,Y,Y,q,.v (M [A D c,A D d]),Y,Y,Y,Y,q,.v (M [A D e,A D f]),Y,Y,Y,q] (by kernel_rfl) ⟨rfl,(by decide),rfl,c1,c2,c3,c4,rfl,(by decide),rfl,g,h,i,j,rfl,(by decide),rfl,l,m,o,p,trivial⟩
           ·exact N (r := I false) (ps:=[true=true,0<=(0:Int)/\(0:Int)<(3:Nat),Ae [A D a,A D b,A D c,A D d,A D e,A D f] 0 2 false=some (M [A D a,A D b]),E (a<J D (0-n))=false,E (a>n)=false,E (b<J D (0-n))=false,E (b>n)=false,true=true,0<=(1:Int)/\(1:Int)<(3:Nat),Ae [A D c,A D d,A D e,A D f] 0 2 false=some (M [A D c,A D d]),E (c<J D (0-n))=false,E (c>n)=false,E (d<J D (0-n))=false,E (d>n)=false,true=true,0<=(2:Int)/\(2:Int)<(3:Nat),Ae [A D e,A D f] 0 2 false=some (M [A D e,A D f]),E (e<J D (0-n))=false,E (e>n)=false,E (f<J D (0-n))=true,true=true]) Cu rfl 300 rfl [q,.v (M [A D a,A D b]),Y,Y,Y,Y,q,.v (M [A D c,A D d]),Y,Y,Y,Y,q,.v (M [A D e,A D f]),Y,Y,q,q] (by kernel_rfl) ⟨rfl,(by decide),rfl,c1,c2,c3,c4,rfl,(by decide),rfl,g,h,i,j,rfl,(by decide),rfl,l,m,o,rfl,trivial⟩
          ·exact N (r := I false) (ps:=[true=true,0<=(0:Int)/\(0:Int)<(3:Nat),Ae [A D a,A D b,A D c,A D d,A D e,A D f] 0 2 false=some (M [A D a,A D b]),E (a<J D (0-n))=false,E (a>n)=false,E (b<J D (0-n))=false,E (b>n)=false,true=true,0<=(1:Int)/\(1:Int)<(3:Nat),Ae [A D c,A D d,A D e,A D f] 0 2 false=some (M [A D c,A D d]),E (c<J D (0-n))=false,E (c>n)=false,E (d<J D (0-n))=false,E (d>n)=false,true=true,0<=(2:Int)/\(2:Int)<(3:Nat),Ae [A D e,A D f] 0 2 false=some (M [A D e,A D f]),E (e<J D (0-n))=false,E (e>n)=true,true=true,true=true]) Cu rfl 300 rfl [q,.v (M [A D a,A D b]),Y,Y,Y,Y,q,.v (M [A D c,A D d]),Y,Y,Y,Y,q,.v (M [A D e,A D f]),Y,q,q,q] (by kernel_rfl) ⟨rfl,(by decide),rfl,c1,c2,c3,c4,rfl,(by decide),rfl,g,h,i,j,rfl,(by decide),rfl,l,m,rfl,rfl,trivial⟩
         ·exact N (r := I false) (ps:=[true=true,0<=(0:Int)/\(0:Int)<(3:Nat),Ae [A D a,A D b,A D c,A D d,A D e,A D f] 0 2 false=some (M [A D a,A D b]),E (a<J D (0-n))=false,E (a>n)=false,E (b<J D (0-n))=false,E (b>n)=false,true=true,0<=(1:Int)/\(1:Int)<(3:Nat),Ae [A D c,A D d,A D e,A D f] 0 2 false=some (M [A D c,A D d]),E (c<J D (0-n))=false,E (c>n)=false,E (d<J D (0-n))=false,E (d>n)=false,true=true,0<=(2:Int)/\(2:Int)<(3:Nat),Ae [A D e,A D f] 0 2 false=some (M [A D e,A D f]),E (e<J D (0-n))=true,true=true,true=true,true=true]) Cu rfl 300 rfl [q,.v (M [A D a,A D b]),Y,Y,Y,Y,q,.v (M [A D c,A D d]),Y,Y,Y,Y,q,.v (M [A D e,A D f]),q,q,q,q] (by kernel_rfl) ⟨rfl,(by decide),rfl,c1,c2,c3,c4,rfl,(by decide),rfl,g,h,i,j,rfl,(by decide),rfl,l,rfl,rfl,rfl,trivial⟩
        ·exact N (r := I false) (ps:=[true=true,0<=(0:Int)/\(0:Int)<(3:Nat),Ae [A D a,A D b,A D c,A D d,A D e,A D f] 0 2 false=some (M [A D a,A D b]),E (a<J D (0-n))=false,E (a>n)=false,E (b<J D (0-n))=false,E (b>n)=false,true=true,0<=(1:Int)/\(1:Int)<(3:Nat),Ae [A D c,A D d,A D e,A D f] 0 2 false=some (M [A D c,A D d]),E (c<J D (0-n))=false,E (c>n)=false,E (d<J D (0-n))=false,E (d>n)=true]) Cu rfl 300 rfl [q,.v (M [A D a,A D b]),Y,Y,Y,Y,q,.v (M [A D c,A D d]),Y,Y,Y,q] (by kernel_rfl) ⟨rfl,(by decide),rfl,c1,c2,c3,c4,rfl,(by decide),rfl,g,h,i,j,trivial⟩
       ·exact N (r := I false) (ps:=[true=true,0<=(0:Int)/\(0:Int)<(3:Nat),Ae [A D a,A D b,A D c,A D d,A D e,A D f] 0 2 false=some (M [A D a,A D b]),E (a<J D (0-n))=false,E (a>n)=false,E (b<J D (0-n))=false,E (b>n)=false,true=true,0<=(1:Int)/\(1:Int)<(3:Nat),Ae [A D c,A D d,A D e,A D f] 0 2 false=some (M [A D c,A D d]),E (c<J D (0-n))=false,E (c>n)=false,E (d<J D (0-n))=true,true=true]) Cu rfl 300 rfl [q,.v (M [A D a,A D b]),Y,Y,Y,Y,q,.v (M [A D c,A D d]),Y,Y,q,q] (by kernel_rfl) ⟨rfl,(by decide),rfl,c1,c2,c3,c4,rfl,(by decide),rfl,g,h,i,rfl,trivial⟩
      ·exact N (r := I false) (ps:=[true=true,0<=(0:Int)/\(0:Int)<(3:Nat),Ae [A D a,A D b,A D c,A D d,A D e,A D f] 0 2 false=some (M [A D a,A D b]),E (a<J D (0-n))=false,E (a>n)=false,E (b<J D (0-n))=false,E (b>n)=false,true=true,0<=(1:Int)/\(1:Int)<(3:Nat),Ae [A D c,A D d,A D e,A D f] 0 2 false=some (M [A D c,A D d]),E (c<J D (0-n))=false,E (c>n)=true,true=true,true=true]) Cu rfl 300 rfl [q,.v (M [A D a,A D b]),Y,Y,Y,Y,q,.v (M [A D c,A D d]),Y,q,q,q] (by kernel_rfl) ⟨rfl,(by decide),rfl,c1,c2,c3,c4,rfl,(by decide),rfl,g,h,rfl,rfl,trivial⟩
     ·exact N (r := I false) (ps:=[true=true,0<=(0:Int)/\(0:Int)<(3:Nat),Ae [A D a,A D b,A D c,A D d,A D e,A D f] 0 2 false=some (M [A D a,A D b]),E (a<J D (0-n))=false,E (a>n)=false,E (b<J D (0-n))=false,E (b>n)=false,true=true,0<=(1:Int)/\(1:Int)<(3:Nat),Ae [A D c,A D d,A D e,A D f] 0 2 false=some (M [A D c,A D d]),E (c<J D (0-n))=true,true=true,true=true,true=true]) Cu rfl 300 rfl [q,.v (M [A D a,A D b]),Y,Y,Y,Y,q,.v (M [A D c,A D d]),q,q,q,q] (by kernel_rfl) ⟨rfl,(by decide),rfl,c1,c2,c3,c4,rfl,(by decide),rfl,g,rfl,rfl,rfl,trivial⟩
    ·exact N (r := I false) (ps:=[true=true,0<=(0:Int)/\(0:Int)<(3:Nat),Ae [A D a,A D b,A D c,A D d,A D e,A D f] 0 2 false=some (M [A D a,A D b]),E (a<J D (0-n))=false,E (a>n)=false,E (b<J D (0-n))=false,E (b>n)=true]) Cu rfl 300 rfl [q,.v (M [A D a,A D b]),Y,Y,Y,q] (by kernel_rfl) ⟨rfl,(by decide),rfl,c1,c2,c3,c4,trivial⟩
   ·exact N (r := I false) (ps:=[true=true,0<=(0:Int)/\(0:Int)<(3:Nat),Ae [A D a,A D b,A D c,A D d,A D e,A D f] 0 2 false=some (M [A D a,A D b]),E (a<J D (0-n))=false,E (a>n)=false,E (b<J D (0-n))=true,true=true]) Cu rfl 300 rfl [q,.v (M [A D a,A D b]),Y,Y,q,q] (by kernel_rfl) ⟨rfl,(by decide),rfl,c1,c2,c3,rfl,trivial⟩
  ·exact N (r := I false) (ps:=[true=true,0<=(0:Int)/\(0:Int)<(3:Nat),Ae [A D a,A D b,A D c,A D d,A D e,A D f] 0 2 false=some (M [A D a,A D b]),E (a<J D (0-n))=false,E (a>n)=true,true=true,true=true]) Cu rfl 300 rfl [q,.v (M [A D a,A D b]),Y,q,q,q] (by kernel_rfl) ⟨rfl,(by decide),rfl,c1,c2,rfl,rfl,trivial⟩
 ·exact N (r := I false) (ps:=[true=true,0<=(0:Int)/\(0:Int)<(3:Nat),Ae [A D a,A D b,A D c,A D d,A D e,A D f] 0 2 false=some (M [A D a,A D b]),E (a<J D (0-n))=true,true=true,true=true,true=true]) Cu rfl 300 rfl [q,.v (M [A D a,A D b]),q,q,q,q] (by kernel_rfl) ⟨rfl,(by decide),rfl,c1,rfl,rfl,rfl,trivial⟩
theorem Ast(h0:0<=n)(h1:n<=4611686018427387904):OM n a b c d e f = I (k n a b&&k n c d&&k n e f):=by
 unfold OM k;simp only[LF,Bb (n := -n) (by omega) (by omega)];repeat' split
 all_goals (simp_all <;> omega)
end
def Ava:u->Option (AV × List Prop)
 | [A D n,G 1 [A D a,A D b]]=>some (I (k n a b),[0<=n,n<=4611686018427387904])
 | [A D n,G 3 [A D a,A D b,A D c,A D d,A D e,A D f]]=>some (I (k n a b&&k n c d&&k n e f),[0<=n,n<=4611686018427387904])
 | _=>none
def TI2:Bo:=(145,Ava)::TI1
theorem Vw:AQ Cy TI2:=AQ.cons Cu (by
 intro args r ps h a;unfold Ava at h;split at h
 ·cases h;exact Ass _ _ _  a.1 a.2.1 ▸ sY _ _ _ 
 ·cases h;exact Ast _ _ _ _ _ _ _  a.1 a.2.1 ▸ sZ _ _ _ _ _ _ _ 
 ·cases h)
def Vx(x y:Int):Int × Int :=
 (J A3 (J A3 (J A3 (Bd x (2^(min (L 32) (Bu .u64)))*Bd y (2^(min (L 32) (Bu .u64))))+Bd (J A3 (J A3 (Bd x (2^(min (L 32) (Bu .u64)))*J A3 ((As (Bu .u64) y &&& As (Bu .u64) 4294967295).toNat))+Bd (J A3 (J A3 ((As (Bu .u64) x &&& As (Bu .u64) 4294967295).toNat)*J A3 ((As (Bu .u64) y &&& As (Bu .u64) 4294967295).toNat))) (2^(min (L 32) (Bu .u64))))) (2^(min (L 32) (Bu .u64))))+Bd (J A3 (J A3 ((As (Bu .u64) (J A3 (J A3 (Bd x (2^(min (L 32) (Bu .u64)))*J A3 ((As (Bu .u64) y &&& As (Bu .u64) 4294967295).toNat))+Bd (J A3 (J A3 ((As (Bu .u64) x &&& As (Bu .u64) 4294967295).toNat)*J A3 ((As (Bu .u64) y &&& As (Bu .u64) 4294967295).toNat))) (2^(min (L 32) (Bu .u64))))) &&& As (Bu .u64) 4294967295).toNat)+J A3 (J A3 ((As (Bu .u64) x &&& As (Bu .u64) 4294967295).toNat)*Bd y (2^(min (L 32) (Bu .u64)))))) (2^(min (L 32) (Bu .u64)))),J A3 (x*y))
theorem Akd(x y:Int)  : RQ 226 [A A3 x,A A3 y] (Dj [A A3 ((Vx x y).1),A A3 ((Vx x y).2)]):=by
 unfold Vx;exact N (r := Dj [A A3 (J A3 (J A3 (J A3 (Bd x (2^(min (L 32) (Bu .u64)))*Bd y (2^(min (L 32) (Bu .u64))))+Bd (J A3 (J A3 (Bd x (2^(min (L 32) (Bu .u64)))*J A3 ((As (Bu .u64) y &&& As (Bu .u64) 4294967295).toNat))+Bd (J A3 (J A3 ((As (Bu .u64) x &&& As (Bu .u64) 4294967295).toNat)*J A3 ((As (Bu .u64) y &&& As (Bu .u64) 4294967295).toNat))) (2^(min (L 32) (Bu .u64))))) (2^(min (L 32) (Bu .u64))))+Bd (J A3 (J A3 ((As (Bu .u64) (J A3 (J A3 (Bd x (2^(min (L 32) (Bu .u64)))*J A3 ((As (Bu .u64) y &&& As (Bu .u64) 4294967295).toNat))+Bd (J A3 (J A3 ((As (Bu .u64) x &&& As (Bu .u64) 4294967295).toNat)*J A3 ((As (Bu .u64) y &&& As (Bu .u64) 4294967295).toNat))) (2^(min (L 32) (Bu .u64))))) &&& As (Bu .u64) 4294967295).toNat)+J A3 (J A3 ((As (Bu .u64) x &&& As (Bu .u64) 4294967295).toNat)*Bd y (2^(min (L 32) (Bu .u64)))))) (2^(min (L 32) (Bu .u64))))),A A3 (J A3 (x*y))]) (ps:=[¬ (32:Int)<0,¬ (32:Int)<0,¬ (32:Int)<0,¬ (32:Int)<0,¬ (32:Int)<0]) Vw rfl 300 rfl [] (by kernel_rfl) ⟨(by decide),(by decide),(by decide),(by decide),(by decide),trivial⟩
theorem ME{n:Int}(h1:0<=n)(h2:n<18446744073709551616):J A3 n=n:=by
 simp only[J,Bu,IntKind.signed,M7,AC,if_false];omega
theorem R'(n:Int):J A3 n=n % 18446744073709551616:=by
 simp only[J,Bu,IntKind.signed,M7,AC,if_false];omega
theorem cC{x:Int}(h1:0<=x)(h2:x<18446744073709551616):J A3 ((As (Bu .u64) x &&& As (Bu .u64) 4294967295).toNat)=x % 4294967296:=by
 obtain⟨n,rfl⟩:∃ n:Nat,x=n:=⟨x.toNat,by omega⟩;show J A3 ((As 64 (n:Int) &&& As 64 ((4294967295:Nat):Int)).toNat)=_;rw[BitVec.toNat_and,Jy,Jy,KV,KV,Hg (by omega),Hg (by omega)];have:n &&& 4294967295=n % 4294967296:=Nat.and_two_pow_sub_one_eq_mod n 32;rw[this];have:=Nat.mod_lt n (show 0<4294967296 by omega);rw[ME (by omega) (by omega)];omega
theorem Azl{x:Int}:Bd x (2^(min (L 32) (Bu .u64)))=x / 4294967296:=by
 show Bd x 4294967296=_;rw[Fl _ (by omega)]
theorem QJ{a b M:Int}(h1:0<=a)(h2:a<=M)(c:0<=b)(d:b<=M):0<=a*b/\a*b<=M*M :=
 ⟨F3 h1 c,P9 h2 d c (by omega)⟩
theorem Acy{x y:Int}(h:0<=x/\x<18446744073709551616/\0<=y/\y<18446744073709551616):Vx x y=((x*y) / 18446744073709551616,(x*y) % 18446744073709551616):=by
 obtain⟨f,g,i,j⟩:=h;unfold Vx;rw[cC f g,cC i j];simp only[Azl];generalize l:x / 4294967296=a;generalize m:x % 4294967296=b;generalize o:y / 4294967296=c;generalize p:y % 4294967296=d;have q:=QJ (a:=a) (b:=c) (M:=4294967295) (by omega) (by omega) (by omega) (by omega);have r:=QJ (a:=a) (b:=d) (M:=4294967295) (by omega) (by omega) (by omega) (by omega);have s:=QJ (a:=b) (b:=c) (M:=4294967295) (by omega) (by omega) (by omega) (by omega);have t:=QJ (a:=b) (b:=d) (M:=4294967295) (by omega) (by omega) (by omega) (by omega);have e:x*y=(a*c)*18446744073709551616+(a*d+b*c)*4294967296+b*d:=by
  have ex:x=a*4294967296+b:=by omega
  have k:y=c*4294967296+d:=by omega
  rw[ex,k];grind
 rw[ME (n:=b*d) (by omega) (by omega),ME (n:=a*d) (by omega) (by omega),ME (n:=a*c) (by omega) (by omega),ME (n:=b*c) (by omega) (by omega)];rw[ME (n:=a*d+b*d / 4294967296) (by omega) (by omega)];rw[cC (by omega) (by omega)];rw[ME (n:=(a*d+b*d / 4294967296) % 4294967296+b*c) (by omega) (by omega)];rw[ME (n:=a*c+(a*d+b*d / 4294967296) / 4294967296) (by omega) (by omega)];rw[ME (by omega) (by omega),R' (x*y),e];congr 1;omega
theorem tA{x y:Int}(h:0<=x/\x<18446744073709551616/\0<=y/\y<18446744073709551616):RQ 226 [A A3 x,A A3 y] (Dj [A A3 ((x*y) / 18446744073709551616),A A3 ((x*y) % 18446744073709551616)]):=by
 have:=Akd x y;rw[Acy h] at this;exact this
theorem Lr(x y:Int):0<=J A3 x/\J A3 x<18446744073709551616/\0<=J A3 y/\J A3 y<18446744073709551616:=by
 rw[R',R'];omega
def Avb:u->Option (AV × List Prop)
 | [A A3 x,A A3 y]=>some (Dj [A A3 ((x*y) / 18446744073709551616),A A3 ((x*y) % 18446744073709551616)],[0<=x/\x<18446744073709551616/\0<=y/\y<18446744073709551616])
 | _=>none
def TI3:Bo:=(226,Avb)::TI2
theorem Mg:AQ Cy TI3:=AQ.cons Vw (by
 intro args r ps h a;unfold Avb at h;split at h
 ·cases h;exact tA a.1
 ·cases h)
def Mh(c a n:Int):Bool :=
 match decide (((J A3 c*J A3 c) / 18446744073709551616)<((J A3 (J D (a*a))*J A3 n) / 18446744073709551616)) with
 | true=>(true)
 | false=>(match ((J A3 c*J A3 c) / 18446744073709551616)==((J A3 (J D (a*a))*J A3 n) / 18446744073709551616) with
 | true=>((E (((J A3 c*J A3 c) % 18446744073709551616)<((J A3 (J D (a*a))*J A3 n) % 18446744073709551616))))
 | false=>false)
theorem Ake(c a n:Int)  : RQ 137 [A D c,A D a,A D n] (I (Mh c a n)):=by
 unfold Mh;cases c1:(E (((J A3 c*J A3 c) / 18446744073709551616)<((J A3 (J D (a*a))*J A3 n) / 18446744073709551616)))
 ·cases c2:(((J A3 c*J A3 c) / 18446744073709551616)==((J A3 (J D (a*a))*J A3 n) / 18446744073709551616))
  ·exact N (r := I false) (ps:=[0<=J A3 c/\J A3 c<18446744073709551616/\0<=J A3 c/\J A3 c<18446744073709551616,0<=J A3 (J D (a*a))/\J A3 (J D (a*a))<18446744073709551616/\0<=J A3 n/\J A3 n<18446744073709551616,E (((J A3 c*J A3 c) / 18446744073709551616)<((J A3 (J D (a*a))*J A3 n) / 18446744073709551616))=false,(((J A3 c*J A3 c) / 18446744073709551616)==((J A3 (J D (a*a))*J A3 n) / 18446744073709551616))=false,E (((J A3 c*J A3 c) / 18446744073709551616)<((J A3 (J D (a*a))*J A3 n) / 18446744073709551616))=false,(((J A3 c*J A3 c) / 18446744073709551616)==((J A3 (J D (a*a))*J A3 n) / 18446744073709551616))=false]) Mg rfl 300 rfl [Y,Y,Y,Y] (by kernel_rfl) ⟨(Lr _ _),Lr _ _,c1,c2,c1,c2,trivial⟩
  ·exact N (r := I (E (((J A3 c*J A3 c) % 18446744073709551616)<((J A3 (J D (a*a))*J A3 n) % 18446744073709551616)))) (ps:=[0<=J A3 c/\J A3 c<18446744073709551616/\0<=J A3 c/\J A3 c<18446744073709551616,0<=J A3 (J D (a*a))/\J A3 (J D (a*a))<18446744073709551616/\0<=J A3 n/\J A3 n<18446744073709551616,E (((J A3 c*J A3 c) / 18446744073709551616)<((J A3 (J D (a*a))*J A3 n) / 18446744073709551616))=false,(((J A3 c*J A3 c) / 18446744073709551616)==((J A3 (J D (a*a))*J A3 n) / 18446744073709551616))=true,E (((J A3 c*J A3 c) / 18446744073709551616)<((J A3 (J D (a*a))*J A3 n) / 18446744073709551616))=false,(((J A3 c*J A3 c) / 18446744073709551616)==((J A3 (J D (a*a))*J A3 n) / 18446744073709551616))=true]) Mg rfl 300 rfl [Y,q,Y,q] (by kernel_rfl) ⟨(Lr _ _),Lr _ _,c1,c2,c1,c2,trivial⟩
 ·exact N (r := I true) (ps:=[0<=J A3 c/\J A3 c<18446744073709551616/\0<=J A3 c/\J A3 c<18446744073709551616,0<=J A3 (J D (a*a))/\J A3 (J D (a*a))<18446744073709551616/\0<=J A3 n/\J A3 n<18446744073709551616,E (((J A3 c*J A3 c) / 18446744073709551616)<((J A3 (J D (a*a))*J A3 n) / 18446744073709551616))=true]) Mg rfl 300 rfl [q] (by kernel_rfl) ⟨(Lr _ _),Lr _ _,c1,trivial⟩
def Avc:u->Option (AV × List Prop)
 | [A D c,A D a,A D n]=>some (I (Mh c a n),[])
 | _=>none
def TI4:Bo:=(137,Avc)::TI3
theorem Ip:AQ Cy TI4:=AQ.cons Mg (by
 intro args r ps h a;unfold Avc at h;split at h
 ·cases h;exact Ake _ _ _ 
 ·cases h)
section
variable(a b c d e:Int)
def BT:Bool :=
 match k 2097152 a b with
 | true=>(match k 1048576 c d with
 | true=>(match decide (e<1) with
 | true=>(false)
 | false=>(match decide (e>524288) with
 | true=>(false)
 | false=>((E (i ((F a b c d).1) ((F a b c d).2) ((F a b c d).1) ((F a b c d).2)<J D (e*e))))))
 | false=>false)
 | false=>(false)
theorem xU  : RQ 62 [M [A D a,A D b],M [A D c,A D d],A D e] (I (BT a b c d e)):=by
 unfold BT;cases c1:(k 2097152 a b)
 ·exact N (r := I false) (ps:=[0<=(2097152:Int),(2097152:Int)<=4611686018427387904,(!(k 2097152 a b))=true,true=true,true=true,true=true]) Ip rfl 300 rfl [q,q,q,q] (by kernel_rfl) ⟨(by decide),(by decide),(by rw[c1];rfl),rfl,rfl,rfl,trivial⟩
 ·cases c2:(k 1048576 c d)
  ·exact N (r := I false) (ps:=[0<=(2097152:Int),(2097152:Int)<=4611686018427387904,(!(k 2097152 a b))=false,0<=(1048576:Int),(1048576:Int)<=4611686018427387904,(!(k 1048576 c d))=true,true=true,true=true]) Ip rfl 300 rfl [Y,q,q,q] (by kernel_rfl) ⟨(by decide),(by decide),(by rw[c1];rfl),(by decide),(by decide),(by rw[c2];rfl),rfl,rfl,trivial⟩
  ·cases c3:(E (e<1))
   ·cases c4:(E (e>524288))
    ·exact N (r := I (E (i ((F a b c d).1) ((F a b c d).2) ((F a b c d).1) ((F a b c d).2)<J D (e*e)))) (ps:=[0<=(2097152:Int),(2097152:Int)<=4611686018427387904,(!(k 2097152 a b))=false,0<=(1048576:Int),(1048576:Int)<=4611686018427387904,(!(k 1048576 c d))=false,E (e<1)=false,E (e>524288)=false]) Ip rfl 300 rfl [Y,Y,Y,Y] (by kernel_rfl) ⟨(by decide),(by decide),(by rw[c1];rfl),(by decide),(by decide),(by rw[c2];rfl),c3,c4,trivial⟩
    ·exact N (r := I false) (ps:=[0<=(2097152:Int),(2097152:Int)<=4611686018427387904,(!(k 2097152 a b))=false,0<=(1048576:Int),(1048576:Int)<=4611686018427387904,(!(k 1048576 c d))=false,E (e<1)=false,E (e>524288)=true]) Ip rfl 300 rfl [Y,Y,Y,q] (by kernel_rfl) ⟨(by decide),(by decide),(by rw[c1];rfl),(by decide),(by decide),(by rw[c2];rfl),c3,c4,trivial⟩
   ·exact N (r := I false) (ps:=[0<=(2097152:Int),(2097152:Int)<=4611686018427387904,(!(k 2097152 a b))=false,0<=(1048576:Int),(1048576:Int)<=4611686018427387904,(!(k 1048576 c d))=false,E (e<1)=true,true=true]) Ip rfl 300 rfl [Y,Y,q,q] (by kernel_rfl) ⟨(by decide),(by decide),(by rw[c1];rfl),(by decide),(by decide),(by rw[c2];rfl),c3,rfl,trivial⟩
end
def g62:u->Option (AV × List Prop)
 | [M [A D a,A D b],M [A D c,A D d],A D e]=>some (I (BT a b c d e),[])
 | _=>none
def TI5:Bo:=(62,g62)::TI4
theorem Fi:AQ Cy TI5:=AQ.cons Ip (by
 intro args r ps h a;unfold g62 at h;split at h
 ·cases h;exact xU _ _ _ _ _ 
 ·cases h)
section
variable(e f a b c d g:Int)
def JJ:Bool :=
 match k 2097152 e f with
 | true=>(match k 1048576 a b&&k 1048576 c d with
 | true=>(match decide (g<1) with
 | true=>(false)
 | false=>(match decide (g>524288) with
 | true=>(false)
 | false=>(match BT e f a b g with
 | true=>(true)
 | false=>(match BT e f c d g with
 | true=>(true)
 | false=>(match decide (i ((F e f a b).1) ((F e f a b).2) ((F c d a b).1) ((F c d a b).2)<=0) with
 | true=>(false)
 | false=>(match decide (i ((F e f a b).1) ((F e f a b).2) ((F c d a b).1) ((F c d a b).2)>=i ((F c d a b).1) ((F c d a b).2) ((F c d a b).1) ((F c d a b).2)) with
 | true=>(false)
 | false=>((Mh (if (J D (0-(j ((F c d a b).1) ((F c d a b).2) ((F e f a b).1) ((F e f a b).2))))>(j ((F c d a b).1) ((F c d a b).2) ((F e f a b).1) ((F e f a b).2)) then (J D (0-(j ((F c d a b).1) ((F c d a b).2) ((F e f a b).1) ((F e f a b).2)))) else (j ((F c d a b).1) ((F c d a b).2) ((F e f a b).1) ((F e f a b).2))) g (i ((F c d a b).1) ((F c d a b).2) ((F c d a b).1) ((F c d a b).2))))))))))
 | false=>false)
 | false=>(false)
theorem xV  : RQ 57 [M [A D e,A D f],M [A D a,A D b],M [A D c,A D d],A D g] (I (JJ e f a b c d g)):=by
 unfold JJ;cases c1:(k 2097152 e f)
 ·exact N (r := I false) (ps:=[0<=(2097152:Int),(2097152:Int)<=4611686018427387904,(!(k 2097152 e f))=true,true=true,true=true,true=true]) Fi rfl 300 rfl [q,q,q,q] (by kernel_rfl) ⟨(by decide),(by decide),(by rw[c1];rfl),rfl,rfl,rfl,trivial⟩
 ·cases c2:(k 1048576 a b&&k 1048576 c d)
  ·exact N (r := I false) (ps:=[0<=(2097152:Int),(2097152:Int)<=4611686018427387904,(!(k 2097152 e f))=false,0<=(1048576:Int),(1048576:Int)<=4611686018427387904,(!(k 1048576 a b&&k 1048576 c d))=true,true=true,true=true]) Fi rfl 300 rfl [Y,q,q,q] (by kernel_rfl) ⟨(by decide),(by decide),(by rw[c1];rfl),(by decide),(by decide),(by rw[c2];rfl),rfl,rfl,trivial⟩
  ·cases c3:(E (g<1))
   ·cases c4:(E (g>524288))
    ·cases h:(BT e f a b g)
     ·cases l:(BT e f c d g)
      ·cases m:(E (i ((F e f a b).1) ((F e f a b).2) ((F c d a b).1) ((F c d a b).2)<=0))
       ·cases n:(E (i ((F e f a b).1) ((F e f a b).2) ((F c d a b).1) ((F c d a b).2)>=i ((F c d a b).1) ((F c d a b).2) ((F c d a b).1) ((F c d a b).2)))
        ·exact N (r := I (Mh (if (J D (0-(j ((F c d a b).1) ((F c d a b).2) ((F e f a b).1) ((F e f a b).2))))>(j ((F c d a b).1) ((F c d a b).2) ((F e f a b).1) ((F e f a b).2)) then (J D (0-(j ((F c d a b).1) ((F c d a b).2) ((F e f a b).1) ((F e f a b).2)))) else (j ((F c d a b).1) ((F c d a b).2) ((F e f a b).1) ((F e f a b).2))) g (i ((F c d a b).1) ((F c d a b).2) ((F c d a b).1) ((F c d a b).2)))) (ps:=[0<=(2097152:Int),(2097152:Int)<=4611686018427387904,(!(k 2097152 e f))=false,0<=(1048576:Int),(1048576:Int)<=4611686018427387904,(!(k 1048576 a b&&k 1048576 c d))=false,E (g<1)=false,E (g>524288)=false,BT e f a b g=false,BT e f c d g=false,E (i ((F e f a b).1) ((F e f a b).2) ((F c d a b).1) ((F c d a b).2)<=0)=false,E (i ((F e f a b).1) ((F e f a b).2) ((F c d a b).1) ((F c d a b).2)>=i ((F c d a b).1) ((F c d a b).2) ((F c d a b).1) ((F c d a b).2))=false]) Fi rfl 300 rfl [Y,Y,Y,Y,Y,Y,Y,Y] (by kernel_rfl) ⟨(by decide),(by decide),(by rw[c1];rfl),(by decide),(by decide),(by rw[c2];rfl),c3,c4,h,l,m,n,trivial⟩
        ·exact N (r := I false) (ps:=[0<=(2097152:Int),(2097152:Int)<=4611686018427387904,(!(k 2097152 e f))=false,0<=(1048576:Int),(1048576:Int)<=4611686018427387904,(!(k 1048576 a b&&k 1048576 c d))=false,E (g<1)=false,E (g>524288)=false,BT e f a b g=false,BT e f c d g=false,E (i ((F e f a b).1) ((F e f a b).2) ((F c d a b).1) ((F c d a b).2)<=0)=false,E (i ((F e f a b).1) ((F e f a b).2) ((F c d a b).1) ((F c d a b).2)>=i ((F c d a b).1) ((F c d a b).2) ((F c d a b).1) ((F c d a b).2))=true]) Fi rfl 300 rfl [Y,Y,Y,Y,Y,Y,Y,q] (by kernel_rfl) ⟨(by decide),(by decide),(by rw[c1];rfl),(by decide),(by decide),(by rw[c2];rfl),c3,c4,h,l,m,n,trivial⟩
       ·exact N (r := I false) (ps:=[0<=(2097152:Int),(2097152:Int)<=4611686018427387904,(!(k 2097152 e f))=false,0<=(1048576:Int),(1048576:Int)<=4611686018427387904,(!(k 1048576 a b&&k 1048576 c d))=false,E (g<1)=false,E (g>524288)=false,BT e f a b g=false,BT e f c d g=false,E (i ((F e f a b).1) ((F e f a b).2) ((F c d a b).1) ((F c d a b).2)<=0)=true,true=true]) Fi rfl 300 rfl [Y,Y,Y,Y,Y,Y,q,q] (by kernel_rfl) ⟨(by decide),(by decide),(by rw[c1];rfl),(by decide),(by decide),(by rw[c2];rfl),c3,c4,h,l,m,rfl,trivial⟩
      ·exact N (r := I true) (ps:=[0<=(2097152:Int),(2097152:Int)<=4611686018427387904,(!(k 2097152 e f))=false,0<=(1048576:Int),(1048576:Int)<=4611686018427387904,(!(k 1048576 a b&&k 1048576 c d))=false,E (g<1)=false,E (g>524288)=false,BT e f a b g=false,BT e f c d g=true]) Fi rfl 300 rfl [Y,Y,Y,Y,Y,q] (by kernel_rfl) ⟨(by decide),(by decide),(by rw[c1];rfl),(by decide),(by decide),(by rw[c2];rfl),c3,c4,h,l,trivial⟩
     ·exact N (r := I true) (ps:=[0<=(2097152:Int),(2097152:Int)<=4611686018427387904,(!(k 2097152 e f))=false,0<=(1048576:Int),(1048576:Int)<=4611686018427387904,(!(k 1048576 a b&&k 1048576 c d))=false,E (g<1)=false,E (g>524288)=false,BT e f a b g=true,true=true]) Fi rfl 300 rfl [Y,Y,Y,Y,q,q] (by kernel_rfl) ⟨(by decide),(by decide),(by rw[c1];rfl),(by decide),(by decide),(by rw[c2];rfl),c3,c4,h,rfl,trivial⟩
    ·exact N (r := I false) (ps:=[0<=(2097152:Int),(2097152:Int)<=4611686018427387904,(!(k 2097152 e f))=false,0<=(1048576:Int),(1048576:Int)<=4611686018427387904,(!(k 1048576 a b&&k 1048576 c d))=false,E (g<1)=false,E (g>524288)=true]) Fi rfl 300 rfl [Y,Y,Y,q] (by kernel_rfl) ⟨(by decide),(by decide),(by rw[c1];rfl),(by decide),(by decide),(by rw[c2];rfl),c3,c4,trivial⟩
   ·exact N (r := I false) (ps:=[0<=(2097152:Int),(2097152:Int)<=4611686018427387904,(!(k 2097152 e f))=false,0<=(1048576:Int),(1048576:Int)<=4611686018427387904,(!(k 1048576 a b&&k 1048576 c d))=false,E (g<1)=true,true=true]) Fi rfl 300 rfl [Y,Y,q,q] (by kernel_rfl) ⟨(by decide),(by decide),(by rw[c1];rfl),(by decide),(by decide),(by rw[c2];rfl),c3,rfl,trivial⟩
end
def g57:u->Option (AV × List Prop)
 | [M [A D a,A D b],M [A D c,A D d],M [A D e,A D f],A D g]=>some (I (JJ a b c d e f g),[])
 | _=>none
def TI6:Bo:=(57,g57)::TI5
theorem Gp:AQ Cy TI6:=AQ.cons Fi (by
 intro args r ps h a;unfold g57 at h;split at h
 ·cases h;exact xV _ _ _ _ _ _ _ 
 ·cases h)
theorem JK(a b c d:Int):i a b c d<=9223372036854775807:=by
 unfold i;split
 next h=>simp only[U] at h;have e:=Ck h.1;have f:=Ck h.2;have g:=D4 (x:=a) (y:=c) (by omega) (by omega) (by omega) (by omega);have j:=D4 (x:=b) (y:=d) (by omega) (by omega) (by omega) (by omega);omega
 ·omega
def By(a b c d ex e:Int):Int × Bool :=
 match k 1048576 a b&&k 1048576 c d&&k 1048576 ex e with
 | true=>(match (J D (B5 (i ((F c d a b).1) ((F c d a b).2) ((F c d a b).1) ((F c d a b).2))*B5 (i ((F c d a b).1) ((F c d a b).2) ((F c d a b).1) ((F c d a b).2)))) != (i ((F c d a b).1) ((F c d a b).2) ((F c d a b).1) ((F c d a b).2)) with
 | true=>((0,false))
 | false=>(match (i ((F ex e a b).1) ((F ex e a b).2) ((F ex e a b).1) ((F ex e a b).2)) != (i ((F c d a b).1) ((F c d a b).2) ((F c d a b).1) ((F c d a b).2)) with
 | true=>((0,false))
 | false=>(match decide (B5 (i ((F c d a b).1) ((F c d a b).2) ((F c d a b).1) ((F c d a b).2))<1) with
 | true=>((0,false))
 | false=>(match decide (B5 (i ((F c d a b).1) ((F c d a b).2) ((F c d a b).1) ((F c d a b).2))>262144) with
 | true=>((0,false))
 | false=>(match decide (j ((F c d a b).1) ((F c d a b).2) ((F ex e a b).1) ((F ex e a b).2)<=0) with
 | true=>((0,false))
 | false=>((B5 (i ((F c d a b).1) ((F c d a b).2) ((F c d a b).1) ((F c d a b).2)),true)))))))
 | false=>((0,false))
theorem Akf(h:ByteArray)(l a b c d ex e rs m n o:Int)  : RQ 144 [M [.str h,A D l,A D a,A D b,A D c,A D d,A D ex,A D e,A D rs,A D m,A D n,A D o]] (Dj [A D ((By a b c d ex e).1),I ((By a b c d ex e).2)]):=by
 unfold By;cases c1:(k 1048576 a b&&k 1048576 c d&&k 1048576 ex e)
 ·exact N (r := Dj [A D 0,I false]) (ps:=[0<=(1048576:Int),(1048576:Int)<=4611686018427387904,(!(k 1048576 a b&&k 1048576 c d&&k 1048576 ex e))=true]) Gp rfl 300 rfl [q] (by kernel_rfl) ⟨(by decide),(by decide),(by rw[c1];rfl),trivial⟩
 ·cases c2:((J D (B5 (i ((F c d a b).1) ((F c d a b).2) ((F c d a b).1) ((F c d a b).2))*B5 (i ((F c d a b).1) ((F c d a b).2) ((F c d a b).1) ((F c d a b).2)))) != (i ((F c d a b).1) ((F c d a b).2) ((F c d a b).1) ((F c d a b).2)))
  ·cases c3:((i ((F ex e a b).1) ((F ex e a b).2) ((F ex e a b).1) ((F ex e a b).2)) != (i ((F c d a b).1) ((F c d a b).2) ((F c d a b).1) ((F c d a b).2)))
   ·cases c4:(E (B5 (i ((F c d a b).1) ((F c d a b).2) ((F c d a b).1) ((F c d a b).2))<1))
    ·cases f:(E (B5 (i ((F c d a b).1) ((F c d a b).2) ((F c d a b).1) ((F c d a b).2))>262144))
     ·cases g:(E (j ((F c d a b).1) ((F c d a b).2) ((F ex e a b).1) ((F ex e a b).2)<=0))
      ·exact N (r := Dj [A D (B5 (i ((F c d a b).1) ((F c d a b).2) ((F c d a b).1) ((F c d a b).2))),I true]) (ps:=[0<=(1048576:Int),(1048576:Int)<=4611686018427387904,(!(k 1048576 a b&&k 1048576 c d&&k 1048576 ex e))=false,i ((F c d a b).1) ((F c d a b).2) ((F c d a b).1) ((F c d a b).2)<=9223372036854775807,((J D (B5 (i ((F c d a b).1) ((F c d a b).2) ((F c d a b).1) ((F c d a b).2))*B5 (i ((F c d a b).1) ((F c d a b).2) ((F c d a b).1) ((F c d a b).2)))) != (i ((F c d a b).1) ((F c d a b).2) ((F c d a b).1) ((F c d a b).2)))=false,((i ((F ex e a b).1) ((F ex e a b).2) ((F ex e a b).1) ((F ex e a b).2)) != (i ((F c d a b).1) ((F c d a b).2) ((F c d a b).1) ((F c d a b).2)))=false,E (B5 (i ((F c d a b).1) ((F c d a b).2) ((F c d a b).1) ((F c d a b).2))<1)=false,E (B5 (i ((F c d a b).1) ((F c d a b).2) ((F c d a b).1) ((F c d a b).2))>262144)=false,E (j ((F c d a b).1) ((F c d a b).2) ((F ex e a b).1) ((F ex e a b).2)<=0)=false]) Gp rfl 300 rfl [Y,Y,Y,Y,Y,Y] (by kernel_rfl) ⟨(by decide),(by decide),(by rw[c1];rfl),JK _ _ _ _,c2,c3,c4,f,g,trivial⟩
      ·exact N (r := Dj [A D 0,I false]) (ps:=[0<=(1048576:Int),(1048576:Int)<=4611686018427387904,(!(k 1048576 a b&&k 1048576 c d&&k 1048576 ex e))=false,i ((F c d a b).1) ((F c d a b).2) ((F c d a b).1) ((F c d a b).2)<=9223372036854775807,((J D (B5 (i ((F c d a b).1) ((F c d a b).2) ((F c d a b).1) ((F c d a b).2))*B5 (i ((F c d a b).1) ((F c d a b).2) ((F c d a b).1) ((F c d a b).2)))) != (i ((F c d a b).1) ((F c d a b).2) ((F c d a b).1) ((F c d a b).2)))=false,((i ((F ex e a b).1) ((F ex e a b).2) ((F ex e a b).1) ((F ex e a b).2)) != (i ((F c d a b).1) ((F c d a b).2) ((F c d a b).1) ((F c d a b).2)))=false,E (B5 (i ((F c d a b).1) ((F c d a b).2) ((F c d a b).1) ((F c d a b).2))<1)=false,E (B5 (i ((F c d a b).1) ((F c d a b).2) ((F c d a b).1) ((F c d a b).2))>262144)=false,E (j ((F c d a b).1) ((F c d a b).2) ((F ex e a b).1) ((F ex e a b).2)<=0)=true]) Gp rfl 300 rfl [Y,Y,Y,Y,Y,q] (by kernel_rfl) ⟨(by decide),(by decide),(by rw[c1];rfl),JK _ _ _ _,c2,c3,c4,f,g,trivial⟩
     ·exact N (r := Dj [A D 0,I false]) (ps:=[0<=(1048576:Int),(1048576:Int)<=4611686018427387904,(!(k 1048576 a b&&k 1048576 c d&&k 1048576 ex e))=false,i ((F c d a b).1) ((F c d a b).2) ((F c d a b).1) ((F c d a b).2)<=9223372036854775807,((J D (B5 (i ((F c d a b).1) ((F c d a b).2) ((F c d a b).1) ((F c d a b).2))*B5 (i ((F c d a b).1) ((F c d a b).2) ((F c d a b).1) ((F c d a b).2)))) != (i ((F c d a b).1) ((F c d a b).2) ((F c d a b).1) ((F c d a b).2)))=false,((i ((F ex e a b).1) ((F ex e a b).2) ((F ex e a b).1) ((F ex e a b).2)) != (i ((F c d a b).1) ((F c d a b).2) ((F c d a b).1) ((F c d a b).2)))=false,E (B5 (i ((F c d a b).1) ((F c d a b).2) ((F c d a b).1) ((F c d a b).2))<1)=false,E (B5 (i ((F c d a b).1) ((F c d a b).2) ((F c d a b).1) ((F c d a b).2))>262144)=true,true=true]) Gp rfl 300 rfl [Y,Y,Y,Y,q,q] (by kernel_rfl) ⟨(by decide),(by decide),(by rw[c1];rfl),JK _ _ _ _,c2,c3,c4,f,rfl,trivial⟩
    ·exact N (r := Dj [A D 0,I false]) (ps:=[0<=(1048576:Int),(1048576:Int)<=4611686018427387904,(!(k 1048576 a b&&k 1048576 c d&&k 1048576 ex e))=false,i ((F c d a b).1) ((F c d a b).2) ((F c d a b).1) ((F c d a b).2)<=9223372036854775807,((J D (B5 (i ((F c d a b).1) ((F c d a b).2) ((F c d a b).1) ((F c d a b).2))*B5 (i ((F c d a b).1) ((F c d a b).2) ((F c d a b).1) ((F c d a b).2)))) != (i ((F c d a b).1) ((F c d a b).2) ((F c d a b).1) ((F c d a b).2)))=false,((i ((F ex e a b).1) ((F ex e a b).2) ((F ex e a b).1) ((F ex e a b).2)) != (i ((F c d a b).1) ((F c d a b).2) ((F c d a b).1) ((F c d a b).2)))=false,E (B5 (i ((F c d a b).1) ((F c d a b).2) ((F c d a b).1) ((F c d a b).2))<1)=true,true=true,true=true]) Gp rfl 300 rfl [Y,Y,Y,q,q,q] (by kernel_rfl) ⟨(by decide),(by decide),(by rw[c1];rfl),JK _ _ _ _,c2,c3,c4,rfl,rfl,trivial⟩
   ·exact N (r := Dj [A D 0,I false]) (ps:=[0<=(1048576:Int),(1048576:Int)<=4611686018427387904,(!(k 1048576 a b&&k 1048576 c d&&k 1048576 ex e))=false,i ((F c d a b).1) ((F c d a b).2) ((F c d a b).1) ((F c d a b).2)<=9223372036854775807,((J D (B5 (i ((F c d a b).1) ((F c d a b).2) ((F c d a b).1) ((F c d a b).2))*B5 (i ((F c d a b).1) ((F c d a b).2) ((F c d a b).1) ((F c d a b).2)))) != (i ((F c d a b).1) ((F c d a b).2) ((F c d a b).1) ((F c d a b).2)))=false,((i ((F ex e a b).1) ((F ex e a b).2) ((F ex e a b).1) ((F ex e a b).2)) != (i ((F c d a b).1) ((F c d a b).2) ((F c d a b).1) ((F c d a b).2)))=true,true=true,true=true,true=true]) Gp rfl 300 rfl [Y,Y,q,q,q,q] (by kernel_rfl) ⟨(by decide),(by decide),(by rw[c1];rfl),JK _ _ _ _,c2,c3,rfl,rfl,rfl,trivial⟩
  ·exact N (r := Dj [A D 0,I false]) (ps:=[0<=(1048576:Int),(1048576:Int)<=4611686018427387904,(!(k 1048576 a b&&k 1048576 c d&&k 1048576 ex e))=false,i ((F c d a b).1) ((F c d a b).2) ((F c d a b).1) ((F c d a b).2)<=9223372036854775807,((J D (B5 (i ((F c d a b).1) ((F c d a b).2) ((F c d a b).1) ((F c d a b).2))*B5 (i ((F c d a b).1) ((F c d a b).2) ((F c d a b).1) ((F c d a b).2)))) != (i ((F c d a b).1) ((F c d a b).2) ((F c d a b).1) ((F c d a b).2)))=true,true=true,true=true,true=true,true=true]) Gp rfl 300 rfl [Y,q,q,q,q,q] (by kernel_rfl) ⟨(by decide),(by decide),(by rw[c1];rfl),JK _ _ _ _,c2,rfl,rfl,rfl,rfl,trivial⟩
def Avd:u->Option (AV × List Prop)
 | [M [.str _,A D _,A D a,A D b,A D c,A D d,A D ex,A D e,A D _,A D _,A D _,A D _]]=>some (Dj [A D ((By a b c d ex e).1),I ((By a b c d ex e).2)],[])
 | _=>none
def TI7:Bo:=(144,Avd)::TI6
theorem EI:AQ Cy TI7:=AQ.cons Gp (by
 intro args r ps h a;unfold Avd at h;split at h
 ·cases h;exact Akf _ _ _ _ _ _ _ _ _ _ _ _ 
 ·cases h)
def ON(px py a b c d ex e f:Int):Bool :=
 match (By a b c d ex e).2 with
 | true=>(match decide (f<1) with
 | true=>(false)
 | false=>(match decide (f>=((By a b c d ex e).1)) with
 | true=>(false)
 | false=>(match k 2097152 px py with
 | true=>(match BT px py c d f with
 | true=>(true)
 | false=>(match BT px py ex e f with
 | true=>(true)
 | false=>(match decide (j ((F c d a b).1) ((F c d a b).2) ((F px py a b).1) ((F px py a b).2)<=0) with
 | true=>(false)
 | false=>(match decide (j ((F px py a b).1) ((F px py a b).2) ((F ex e a b).1) ((F ex e a b).2)<=0) with
 | true=>(false)
 | false=>(match decide (i ((F px py a b).1) ((F px py a b).2) ((F px py a b).1) ((F px py a b).2)<J D (J D (((By a b c d ex e).1)+f)*J D (((By a b c d ex e).1)+f))) with
 | true=>((E (i ((F px py a b).1) ((F px py a b).2) ((F px py a b).1) ((F px py a b).2)>J D (J D (((By a b c d ex e).1)-f)*J D (((By a b c d ex e).1)-f)))))
 | false=>false)))))
 | false=>false)))
 | false=>false
theorem xW(px py:Int)(o:ByteArray)(p a b c d ex e rs s t u f:Int)  : RQ 61 [M [A D px,A D py],M [.str o,A D p,A D a,A D b,A D c,A D d,A D ex,A D e,A D rs,A D s,A D t,A D u],A D f] (I (ON px py a b c d ex e f)):=by
 unfold ON;cases c1:((By a b c d ex e).2)
 ·exact N (r := I false) (ps:=[(!((By a b c d ex e).2))=true,true=true,true=true,true=true]) EI rfl 300 rfl [q,q,q,q] (by kernel_rfl) ⟨(by rw[c1];rfl),rfl,rfl,rfl,trivial⟩
 ·cases c2:(E (f<1))
  ·cases c3:(E (f>=((By a b c d ex e).1)))
   ·cases c4:(k 2097152 px py)
    ·exact N (r := I false) (ps:=[(!((By a b c d ex e).2))=false,E (f<1)=false,E (f>=((By a b c d ex e).1))=false,0<=(2097152:Int),(2097152:Int)<=4611686018427387904,(!(k 2097152 px py))=true]) EI rfl 300 rfl [Y,Y,Y,q] (by kernel_rfl) ⟨(by rw[c1];rfl),c2,c3,(by decide),(by decide),(by rw[c4];rfl),trivial⟩
    ·cases g:(BT px py c d f)
     ·cases h:(BT px py ex e f)
      ·cases l:(E (j ((F c d a b).1) ((F c d a b).2) ((F px py a b).1) ((F px py a b).2)<=0))
       ·cases m:(E (j ((F px py a b).1) ((F px py a b).2) ((F ex e a b).1) ((F ex e a b).2)<=0))
        ·cases n:(E (i ((F px py a b).1) ((F px py a b).2) ((F px py a b).1) ((F px py a b).2)<J D (J D (((By a b c d ex e).1)+f)*J D (((By a b c d ex e).1)+f))))
         ·exact N (r := I false) (ps:=[(!((By a b c d ex e).2))=false,E (f<1)=false,E (f>=((By a b c d ex e).1))=false,0<=(2097152:Int),(2097152:Int)<=4611686018427387904,(!(k 2097152 px py))=false,BT px py c d f=false,BT px py ex e f=false,E (j ((F c d a b).1) ((F c d a b).2) ((F px py a b).1) ((F px py a b).2)<=0)=false,E (j ((F px py a b).1) ((F px py a b).2) ((F ex e a b).1) ((F ex e a b).2)<=0)=false,E (i ((F px py a b).1) ((F px py a b).2) ((F px py a b).1) ((F px py a b).2)<J D (J D (((By a b c d ex e).1)+f)*J D (((By a b c d ex e).1)+f)))=false]) EI rfl 300 rfl [Y,Y,Y,Y,Y,Y,Y,Y,Y] (by kernel_rfl) ⟨(by rw[c1];rfl),c2,c3,(by decide),(by decide),(by rw[c4];rfl),g,h,l,m,n,trivial⟩
         ·exact N (r := I (E (i ((F px py a b).1) ((F px py a b).2) ((F px py a b).1) ((F px py a b).2)>J D (J D (((By a b c d ex e).1)-f)*J D (((By a b c d ex e).1)-f))))) (ps:=[(!((By a b c d ex e).2))=false,E (f<1)=false,E (f>=((By a b c d ex e).1))=false,0<=(2097152:Int),(2097152:Int)<=4611686018427387904,(!(k 2097152 px py))=false,BT px py c d f=false,BT px py ex e f=false,E (j ((F c d a b).1) ((F c d a b).2) ((F px py a b).1) ((F px py a b).2)<=0)=false,E (j ((F px py a b).1) ((F px py a b).2) ((F ex e a b).1) ((F ex e a b).2)<=0)=false,E (i ((F px py a b).1) ((F px py a b).2) ((F px py a b).1) ((F px py a b).2)<J D (J D (((By a b c d ex e).1)+f)*J D (((By a b c d ex e).1)+f)))=true]) EI rfl 300 rfl [Y,Y,Y,Y,Y,Y,Y,Y,q] (by kernel_rfl) ⟨(by rw[c1];rfl),c2,c3,(by decide),(by decide),(by rw[c4];rfl),g,h,l,m,n,trivial⟩
        ·exact N (r := I false) (ps:=[(!((By a b c d ex e).2))=false,E (f<1)=false,E (f>=((By a b c d ex e).1))=false,0<=(2097152:Int),(2097152:Int)<=4611686018427387904,(!(k 2097152 px py))=false,BT px py c d f=false,BT px py ex e f=false,E (j ((F c d a b).1) ((F c d a b).2) ((F px py a b).1) ((F px py a b).2)<=0)=false,E (j ((F px py a b).1) ((F px py a b).2) ((F ex e a b).1) ((F ex e a b).2)<=0)=true]) EI rfl 300 rfl [Y,Y,Y,Y,Y,Y,Y,q] (by kernel_rfl) ⟨(by rw[c1];rfl),c2,c3,(by decide),(by decide),(by rw[c4];rfl),g,h,l,m,trivial⟩
       ·exact N (r := I false) (ps:=[(!((By a b c d ex e).2))=false,E (f<1)=false,E (f>=((By a b c d ex e).1))=false,0<=(2097152:Int),(2097152:Int)<=4611686018427387904,(!(k 2097152 px py))=false,BT px py c d f=false,BT px py ex e f=false,E (j ((F c d a b).1) ((F c d a b).2) ((F px py a b).1) ((F px py a b).2)<=0)=true,true=true]) EI rfl 300 rfl [Y,Y,Y,Y,Y,Y,q,q] (by kernel_rfl) ⟨(by rw[c1];rfl),c2,c3,(by decide),(by decide),(by rw[c4];rfl),g,h,l,rfl,trivial⟩
      ·exact N (r := I true) (ps:=[(!((By a b c d ex e).2))=false,E (f<1)=false,E (f>=((By a b c d ex e).1))=false,0<=(2097152:Int),(2097152:Int)<=4611686018427387904,(!(k 2097152 px py))=false,BT px py c d f=false,BT px py ex e f=true]) EI rfl 300 rfl [Y,Y,Y,Y,Y,q] (by kernel_rfl) ⟨(by rw[c1];rfl),c2,c3,(by decide),(by decide),(by rw[c4];rfl),g,h,trivial⟩
     ·exact N (r := I true) (ps:=[(!((By a b c d ex e).2))=false,E (f<1)=false,E (f>=((By a b c d ex e).1))=false,0<=(2097152:Int),(2097152:Int)<=4611686018427387904,(!(k 2097152 px py))=false,BT px py c d f=true,true=true]) EI rfl 300 rfl [Y,Y,Y,Y,q,q] (by kernel_rfl) ⟨(by rw[c1];rfl),c2,c3,(by decide),(by decide),(by rw[c4];rfl),g,rfl,trivial⟩
   ·exact N (r := I false) (ps:=[(!((By a b c d ex e).2))=false,E (f<1)=false,E (f>=((By a b c d ex e).1))=true,true=true]) EI rfl 300 rfl [Y,Y,q,q] (by kernel_rfl) ⟨(by rw[c1];rfl),c2,c3,rfl,trivial⟩
  ·exact N (r := I false) (ps:=[(!((By a b c d ex e).2))=false,E (f<1)=true,true=true,true=true]) EI rfl 300 rfl [Y,q,q,q] (by kernel_rfl) ⟨(by rw[c1];rfl),c2,rfl,rfl,trivial⟩
def g61:u->Option (AV × List Prop)
 | [M [A D px,A D py],M [.str _,A D _,A D a,A D b,A D c,A D d,A D ex,A D e,A D _,A D _,A D _,A D _],A D f]=>some (I (ON px py a b c d ex e f),[])
 | _=>none
def TI8:Bo:=(61,g61)::TI7
theorem CZ:AQ Cy TI8:=AQ.cons EI (by
 intro args r ps h a;unfold g61 at h;split at h
 ·cases h;exact xW _ _ _ _ _ _ _ _ _ _ _ _ _ _ _ 
 ·cases h)
def t(lo hi x:Int):Bool:=decide (lo<=x)&&decide (x<=hi)
section
variable(lo hi a:Int)
def OO:AV :=
 match decide (a<lo) with
 | true=>(I false)
 | false=>(match decide (a>hi) with
 | true=>(I false)
 | false=>I true)
theorem tB  : RQ 147 [A D lo,A D hi,G 1 [A D a]] (OO lo hi a):=by
 unfold OO;cases c1:(E (a<lo))
 ·cases c2:(E (a>hi))
  ·exact N (r := I true) (ps:=[true=true,0<=(0:Int)/\(0:Int)<(1:Nat),Ae [A D a] 0 1 true=some (A D a),E (a<lo)=false,E (a>hi)=false,false=false]) CZ rfl 300 rfl [q,.v (A D a),Y,Y,Y] (by kernel_rfl) ⟨rfl,(by decide),rfl,c1,c2,rfl,trivial⟩
  ·exact N (r := I false) (ps:=[true=true,0<=(0:Int)/\(0:Int)<(1:Nat),Ae [A D a] 0 1 true=some (A D a),E (a<lo)=false,E (a>hi)=true]) CZ rfl 300 rfl [q,.v (A D a),Y,q] (by kernel_rfl) ⟨rfl,(by decide),rfl,c1,c2,trivial⟩
 ·exact N (r := I false) (ps:=[true=true,0<=(0:Int)/\(0:Int)<(1:Nat),Ae [A D a] 0 1 true=some (A D a),E (a<lo)=true,true=true]) CZ rfl 300 rfl [q,.v (A D a),q,q] (by kernel_rfl) ⟨rfl,(by decide),rfl,c1,rfl,trivial⟩
theorem Asu:OO lo hi a = I (t lo hi a):=by
 unfold OO t;repeat' split
 all_goals (simp_all <;> omega)
end
section
variable(lo hi a b:Int)
def OP:AV :=
 match decide (a<lo) with
 | true=>(I false)
 | false=>(match decide (a>hi) with
 | true=>(I false)
 | false=>(match decide (b<lo) with
 | true=>(I false)
 | false=>(match decide (b>hi) with
 | true=>(I false)
 | false=>I true)))
theorem tC  : RQ 147 [A D lo,A D hi,G 2 [A D a,A D b]] (OP lo hi a b):=by
 unfold OP;cases c1:(E (a<lo))
 ·cases c2:(E (a>hi))
  ·cases c3:(E (b<lo))
   ·cases c4:(E (b>hi))
    ·exact N (r := I true) (ps:=[true=true,0<=(0:Int)/\(0:Int)<(2:Nat),Ae [A D a,A D b] 0 1 true=some (A D a),E (a<lo)=false,E (a>hi)=false,true=true,0<=(1:Int)/\(1:Int)<(2:Nat),Ae [A D b] 0 1 true=some (A D b),E (b<lo)=false,E (b>hi)=false,false=false]) CZ rfl 300 rfl [q,.v (A D a),Y,Y,q,.v (A D b),Y,Y,Y] (by kernel_rfl) ⟨rfl,(by decide),rfl,c1,c2,rfl,(by decide),rfl,c3,c4,rfl,trivial⟩
    ·exact N (r := I false) (ps:=[true=true,0<=(0:Int)/\(0:Int)<(2:Nat),Ae [A D a,A D b] 0 1 true=some (A D a),E (a<lo)=false,E (a>hi)=false,true=true,0<=(1:Int)/\(1:Int)<(2:Nat),Ae [A D b] 0 1 true=some (A D b),E (b<lo)=false,E (b>hi)=true]) CZ rfl 300 rfl [q,.v (A D a),Y,Y,q,.v (A D b),Y,q] (by kernel_rfl) ⟨rfl,(by decide),rfl,c1,c2,rfl,(by decide),rfl,c3,c4,trivial⟩
   ·exact N (r := I false) (ps:=[true=true,0<=(0:Int)/\(0:Int)<(2:Nat),Ae [A D a,A D b] 0 1 true=some (A D a),E (a<lo)=false,E (a>hi)=false,true=true,0<=(1:Int)/\(1:Int)<(2:Nat),Ae [A D b] 0 1 true=some (A D b),E (b<lo)=true,true=true]) CZ rfl 300 rfl [q,.v (A D a),Y,Y,q,.v (A D b),q,q] (by kernel_rfl) ⟨rfl,(by decide),rfl,c1,c2,rfl,(by decide),rfl,c3,rfl,trivial⟩
  ·exact N (r := I false) (ps:=[true=true,0<=(0:Int)/\(0:Int)<(2:Nat),Ae [A D a,A D b] 0 1 true=some (A D a),E (a<lo)=false,E (a>hi)=true]) CZ rfl 300 rfl [q,.v (A D a),Y,q] (by kernel_rfl) ⟨rfl,(by decide),rfl,c1,c2,trivial⟩
 ·exact N (r := I false) (ps:=[true=true,0<=(0:Int)/\(0:Int)<(2:Nat),Ae [A D a,A D b] 0 1 true=some (A D a),E (a<lo)=true,true=true]) CZ rfl 300 rfl [q,.v (A D a),q,q] (by kernel_rfl) ⟨rfl,(by decide),rfl,c1,rfl,trivial⟩
theorem Asv:OP lo hi a b = I (t lo hi a&&t lo hi b):=by
 unfold OP t;repeat' split
 all_goals (simp_all <;> omega)
end
section
variable(lo hi a b c:Int)
def OQ:AV :=
 match decide (a<lo) with
 | true=>(I false)
 | false=>(match decide (a>hi) with
 | true=>(I false)
 | false=>(match decide (b<lo) with
 | true=>(I false)
 | false=>(match decide (b>hi) with
 | true=>(I false)
 | false=>(match decide (c<lo) with
 | true=>(I false)
 | false=>(match decide (c>hi) with
 | true=>(I false)
 | false=>I true)))))
theorem tD  : RQ 147 [A D lo,A D hi,G 3 [A D a,A D b,A D c]] (OQ lo hi a b c):=by
 unfold OQ;cases c1:(E (a<lo))
 ·cases c2:(E (a>hi))
  ·cases c3:(E (b<lo))
   ·cases c4:(E (b>hi))
    ·cases d:(E (c<lo))
     ·cases e:(E (c>hi))
      ·exact N (r := I true) (ps:=[true=true,0<=(0:Int)/\(0:Int)<(3:Nat),Ae [A D a,A D b,A D c] 0 1 true=some (A D a),E (a<lo)=false,E (a>hi)=false,true=true,0<=(1:Int)/\(1:Int)<(3:Nat),Ae [A D b,A D c] 0 1 true=some (A D b),E (b<lo)=false,E (b>hi)=false,true=true,0<=(2:Int)/\(2:Int)<(3:Nat),Ae [A D c] 0 1 true=some (A D c),E (c<lo)=false,E (c>hi)=false,false=false]) CZ rfl 300 rfl [q,.v (A D a),Y,Y,q,.v (A D b),Y,Y,q,.v (A D c),Y,Y,Y] (by kernel_rfl) ⟨rfl,(by decide),rfl,c1,c2,rfl,(by decide),rfl,c3,c4,rfl,(by decide),rfl,d,e,rfl,trivial⟩
      ·exact N (r := I false) (ps:=[true=true,0<=(0:Int)/\(0:Int)<(3:Nat),Ae [A D a,A D b,A D c] 0 1 true=some (A D a),E (a<lo)=false,E (a>hi)=false,true=true,0<=(1:Int)/\(1:Int)<(3:Nat),Ae [A D b,A D c] 0 1 true=some (A D b),E (b<lo)=false,E (b>hi)=false,true=true,0<=(2:Int)/\(2:Int)<(3:Nat),Ae [A D c] 0 1 true=some (A D c),E (c<lo)=false,E (c>hi)=true]) CZ rfl 300 rfl [q,.v (A D a),Y,Y,q,.v (A D b),Y,Y,q,.v (A D c),Y,q] (by kernel_rfl) ⟨rfl,(by decide),rfl,c1,c2,rfl,(by decide),rfl,c3,c4,rfl,(by decide),rfl,d,e,trivial⟩
     ·exact N (r := I false) (ps:=[true=true,0<=(0:Int)/\(0:Int)<(3:Nat),Ae [A D a,A D b,A D c] 0 1 true=some (A D a),E (a<lo)=false,E (a>hi)=false,true=true,0<=(1:Int)/\(1:Int)<(3:Nat),Ae [A D b,A D c] 0 1 true=some (A D b),E (b<lo)=false,E (b>hi)=false,true=true,0<=(2:Int)/\(2:Int)<(3:Nat),Ae [A D c] 0 1 true=some (A D c),E (c<lo)=true,true=true]) CZ rfl 300 rfl [q,.v (A D a),Y,Y,q,.v (A D b),Y,Y,q,.v (A D c),q,q] (by kernel_rfl) ⟨rfl,(by decide),rfl,c1,c2,rfl,(by decide),rfl,c3,c4,rfl,(by decide),rfl,d,rfl,trivial⟩
    ·exact N (r := I false) (ps:=[true=true,0<=(0:Int)/\(0:Int)<(3:Nat),Ae [A D a,A D b,A D c] 0 1 true=some (A D a),E (a<lo)=false,E (a>hi)=false,true=true,0<=(1:Int)/\(1:Int)<(3:Nat),Ae [A D b,A D c] 0 1 true=some (A D b),E (b<lo)=false,E (b>hi)=true]) CZ rfl 300 rfl [q,.v (A D a),Y,Y,q,.v (A D b),Y,q] (by kernel_rfl) ⟨rfl,(by decide),rfl,c1,c2,rfl,(by decide),rfl,c3,c4,trivial⟩
   ·exact N (r := I false) (ps:=[true=true,0<=(0:Int)/\(0:Int)<(3:Nat),Ae [A D a,A D b,A D c] 0 1 true=some (A D a),E (a<lo)=false,E (a>hi)=false,true=true,0<=(1:Int)/\(1:Int)<(3:Nat),Ae [A D b,A D c] 0 1 true=some (A D b),E (b<lo)=true,true=true]) CZ rfl 300 rfl [q,.v (A D a),Y,Y,q,.v (A D b),q,q] (by kernel_rfl) ⟨rfl,(by decide),rfl,c1,c2,rfl,(by decide),rfl,c3,rfl,trivial⟩
  ·exact N (r := I false) (ps:=[true=true,0<=(0:Int)/\(0:Int)<(3:Nat),Ae [A D a,A D b,A D c] 0 1 true=some (A D a),E (a<lo)=false,E (a>hi)=true]) CZ rfl 300 rfl [q,.v (A D a),Y,q] (by kernel_rfl) ⟨rfl,(by decide),rfl,c1,c2,trivial⟩
 ·exact N (r := I false) (ps:=[true=true,0<=(0:Int)/\(0:Int)<(3:Nat),Ae [A D a,A D b,A D c] 0 1 true=some (A D a),E (a<lo)=true,true=true]) CZ rfl 300 rfl [q,.v (A D a),q,q] (by kernel_rfl) ⟨rfl,(by decide),rfl,c1,rfl,trivial⟩
theorem Asw:OQ lo hi a b c = I (t lo hi a&&t lo hi b&&t lo hi c):=by
 unfold OQ t;repeat' split
 all_goals (simp_all <;> omega)
end
def Ave:u->Option (AV × List Prop)
 | [A D lo,A D hi,G 1 [A D a]]=>some (I (t lo hi a),[])
 | [A D lo,A D hi,G 2 [A D a,A D b]]=>some (I (t lo hi a&&t lo hi b),[])
 | [A D lo,A D hi,G 3 [A D a,A D b,A D c]]=>some (I (t lo hi a&&t lo hi b&&t lo hi c),[])
 | _=>none
def TI9:Bo:=(147,Ave)::TI8
theorem Df:AQ Cy TI9:=AQ.cons CZ (by
 intro args r ps h a;unfold Ave at h;split at h
 ·cases h;exact Asu _ _ _  ▸ tB _ _ _ 
 ·cases h;exact Asv _ _ _ _  ▸ tC _ _ _ _ 
 ·cases h;exact Asw _ _ _ _ _  ▸ tD _ _ _ _ _ 
 ·cases h)
def E3(px py ln lo hi a b mx:Int):Bool:=t (-1048576) 1048576 px&&t (-1048576) 1048576 py&&t 1 262144 ln&&t (-256) 256 lo&&t (-256) 256 hi&&decide (lo<hi)&&t 1 64 a&&t 1 64 b&&t 1 64 mx&&decide (J D (mx*ln)<=2097152)
def cG(px py ln lo hi a b mx c:Int):Bool :=
 match t (-1048576) 1048576 px&&t (-1048576) 1048576 py with
 | true=>(match t 1 262144 ln with
 | true=>(match t (-256) 256 lo&&t (-256) 256 hi with
 | true=>(match decide (lo<hi) with
 | true=>(match t 1 64 a&&t 1 64 b&&t 1 64 mx with
 | true=>(match decide (J D (mx*ln)<=2097152) with
 | true=>((t (-256) 256 c))
 | false=>false)
 | false=>false)
 | false=>false)
 | false=>false)
 | false=>false)
 | false=>false
theorem tE(f:ByteArray)(g px py ln:Int)(h:Bool)(lo hi a b mx rs i co j c:Int)  : RQ 146 [M [.str f,A D g,A D px,A D py,A D ln,I h,A D lo,A D hi,A D a,A D b,A D mx,A D rs,A D i,A D co,A D j],G 1 [A D c]] (I (cG px py ln lo hi a b mx c)):=by
 unfold cG;cases c1:(t (-1048576) 1048576 px&&t (-1048576) 1048576 py)
 ·exact N (r := I false) (ps:=[(t (-1048576) 1048576 px&&t (-1048576) 1048576 py)=false,false=false,false=false,false=false,false=false,false=false]) Df rfl 300 rfl [Y,Y,Y,Y,Y,Y] (by kernel_rfl) ⟨c1,rfl,rfl,rfl,rfl,rfl,trivial⟩
 ·cases c2:(t 1 262144 ln)
  ·exact N (r := I false) (ps:=[(t (-1048576) 1048576 px&&t (-1048576) 1048576 py)=true,t 1 262144 ln=false,false=false,false=false,false=false,false=false]) Df rfl 300 rfl [q,Y,Y,Y,Y,Y] (by kernel_rfl) ⟨c1,c2,rfl,rfl,rfl,rfl,trivial⟩
  ·cases c3:(t (-256) 256 lo&&t (-256) 256 hi)
   ·exact N (r := I false) (ps:=[(t (-1048576) 1048576 px&&t (-1048576) 1048576 py)=true,t 1 262144 ln=true,(t (-256) 256 lo&&t (-256) 256 hi)=false,false=false,false=false,false=false]) Df rfl 300 rfl [q,q,Y,Y,Y,Y] (by kernel_rfl) ⟨c1,c2,c3,rfl,rfl,rfl,trivial⟩
   ·cases c4:(E (lo<hi))
    ·exact N (r := I false) (ps:=[(t (-1048576) 1048576 px&&t (-1048576) 1048576 py)=true,t 1 262144 ln=true,(t (-256) 256 lo&&t (-256) 256 hi)=true,E (lo<hi)=false,false=false,false=false]) Df rfl 300 rfl [q,q,q,Y,Y,Y] (by kernel_rfl) ⟨c1,c2,c3,c4,rfl,rfl,trivial⟩
    ·cases d:(t 1 64 a&&t 1 64 b&&t 1 64 mx)
     ·exact N (r := I false) (ps:=[(t (-1048576) 1048576 px&&t (-1048576) 1048576 py)=true,t 1 262144 ln=true,(t (-256) 256 lo&&t (-256) 256 hi)=true,E (lo<hi)=true,(t 1 64 a&&t 1 64 b&&t 1 64 mx)=false,false=false]) Df rfl 300 rfl [q,q,q,q,Y,Y] (by kernel_rfl) ⟨c1,c2,c3,c4,d,rfl,trivial⟩
     ·cases e:(E (J D (mx*ln)<=2097152))
      ·exact N (r := I false) (ps:=[(t (-1048576) 1048576 px&&t (-1048576) 1048576 py)=true,t 1 262144 ln=true,(t (-256) 256 lo&&t (-256) 256 hi)=true,E (lo<hi)=true,(t 1 64 a&&t 1 64 b&&t 1 64 mx)=true,E (J D (mx*ln)<=2097152)=false]) Df rfl 300 rfl [q,q,q,q,q,Y] (by kernel_rfl) ⟨c1,c2,c3,c4,d,e,trivial⟩
      ·exact N (r := I (t (-256) 256 c)) (ps:=[(t (-1048576) 1048576 px&&t (-1048576) 1048576 py)=true,t 1 262144 ln=true,(t (-256) 256 lo&&t (-256) 256 hi)=true,E (lo<hi)=true,(t 1 64 a&&t 1 64 b&&t 1 64 mx)=true,E (J D (mx*ln)<=2097152)=true]) Df rfl 300 rfl [q,q,q,q,q,q] (by kernel_rfl) ⟨c1,c2,c3,c4,d,e,trivial⟩
theorem Acz(px py ln lo hi a b mx c:Int):cG px py ln lo hi a b mx c=(E3 px py ln lo hi a b mx&&t (-256) 256 c):=by
 unfold cG E3;repeat' split
 all_goals (simp_all <;> omega)
def cH(px py ln lo hi a b mx c d:Int):Bool :=
 match t (-1048576) 1048576 px&&t (-1048576) 1048576 py with
 | true=>(match t 1 262144 ln with
 | true=>(match t (-256) 256 lo&&t (-256) 256 hi with
 | true=>(match decide (lo<hi) with
 | true=>(match t 1 64 a&&t 1 64 b&&t 1 64 mx with
 | true=>(match decide (J D (mx*ln)<=2097152) with
 | true=>((t (-256) 256 c&&t (-256) 256 d))
 | false=>false)
 | false=>false)
 | false=>false)
 | false=>false)
 | false=>false)
 | false=>false
theorem tF(g:ByteArray)(h px py ln:Int)(i:Bool)(lo hi a b mx rs j co k c d:Int)  : RQ 146 [M [.str g,A D h,A D px,A D py,A D ln,I i,A D lo,A D hi,A D a,A D b,A D mx,A D rs,A D j,A D co,A D k],G 2 [A D c,A D d]] (I (cH px py ln lo hi a b mx c d)):=by
 unfold cH;cases c1:(t (-1048576) 1048576 px&&t (-1048576) 1048576 py)
 ·exact N (r := I false) (ps:=[(t (-1048576) 1048576 px&&t (-1048576) 1048576 py)=false,false=false,false=false,false=false,false=false,false=false]) Df rfl 300 rfl [Y,Y,Y,Y,Y,Y] (by kernel_rfl) ⟨c1,rfl,rfl,rfl,rfl,rfl,trivial⟩
 ·cases c2:(t 1 262144 ln)
  ·exact N (r := I false) (ps:=[(t (-1048576) 1048576 px&&t (-1048576) 1048576 py)=true,t 1 262144 ln=false,false=false,false=false,false=false,false=false]) Df rfl 300 rfl [q,Y,Y,Y,Y,Y] (by kernel_rfl) ⟨c1,c2,rfl,rfl,rfl,rfl,trivial⟩
  ·cases c3:(t (-256) 256 lo&&t (-256) 256 hi)
   ·exact N (r := I false) (ps:=[(t (-1048576) 1048576 px&&t (-1048576) 1048576 py)=true,t 1 262144 ln=true,(t (-256) 256 lo&&t (-256) 256 hi)=false,false=false,false=false,false=false]) Df rfl 300 rfl [q,q,Y,Y,Y,Y] (by kernel_rfl) ⟨c1,c2,c3,rfl,rfl,rfl,trivial⟩
   ·cases c4:(E (lo<hi))
    ·exact N (r := I false) (ps:=[(t (-1048576) 1048576 px&&t (-1048576) 1048576 py)=true,t 1 262144 ln=true,(t (-256) 256 lo&&t (-256) 256 hi)=true,E (lo<hi)=false,false=false,false=false]) Df rfl 300 rfl [q,q,q,Y,Y,Y] (by kernel_rfl) ⟨c1,c2,c3,c4,rfl,rfl,trivial⟩
    ·cases e:(t 1 64 a&&t 1 64 b&&t 1 64 mx)
     ·exact N (r := I false) (ps:=[(t (-1048576) 1048576 px&&t (-1048576) 1048576 py)=true,t 1 262144 ln=true,(t (-256) 256 lo&&t (-256) 256 hi)=true,E (lo<hi)=true,(t 1 64 a&&t 1 64 b&&t 1 64 mx)=false,false=false]) Df rfl 300 rfl [q,q,q,q,Y,Y] (by kernel_rfl) ⟨c1,c2,c3,c4,e,rfl,trivial⟩
     ·cases f:(E (J D (mx*ln)<=2097152))
      ·exact N (r := I false) (ps:=[(t (-1048576) 1048576 px&&t (-1048576) 1048576 py)=true,t 1 262144 ln=true,(t (-256) 256 lo&&t (-256) 256 hi)=true,E (lo<hi)=true,(t 1 64 a&&t 1 64 b&&t 1 64 mx)=true,E (J D (mx*ln)<=2097152)=false]) Df rfl 300 rfl [q,q,q,q,q,Y] (by kernel_rfl) ⟨c1,c2,c3,c4,e,f,trivial⟩
      ·exact N (r := I (t (-256) 256 c&&t (-256) 256 d)) (ps:=[(t (-1048576) 1048576 px&&t (-1048576) 1048576 py)=true,t 1 262144 ln=true,(t (-256) 256 lo&&t (-256) 256 hi)=true,E (lo<hi)=true,(t 1 64 a&&t 1 64 b&&t 1 64 mx)=true,E (J D (mx*ln)<=2097152)=true]) Df rfl 300 rfl [q,q,q,q,q,q] (by kernel_rfl) ⟨c1,c2,c3,c4,e,f,trivial⟩
theorem Ada(px py ln lo hi a b mx c d:Int):cH px py ln lo hi a b mx c d=(E3 px py ln lo hi a b mx&&t (-256) 256 c&&t (-256) 256 d):=by
 unfold cH E3;repeat' split
 all_goals (simp_all <;> omega)
def Avf:u->Option (AV × List Prop)
 | [M [.str _,A D _,A D px,A D py,A D ln,I _,A D lo,A D hi,A D a,A D b,A D mx,A D _,A D _,A D _,A D _],G 1 [A D c]]=>some (I (E3 px py ln lo hi a b mx&&t (-256) 256 c),[])
 | [M [.str _,A D _,A D px,A D py,A D ln,I _,A D lo,A D hi,A D a,A D b,A D mx,A D _,A D _,A D _,A D _],G 2 [A D c,A D d]]=>some (I (E3 px py ln lo hi a b mx&&t (-256) 256 c&&t (-256) 256 d),[])
 | _=>none
def Avg:Bo:=(146,Avf)::TI9
theorem ND:AQ Cy Avg:=AQ.cons Df (by
 intro args r ps h a;unfold Avf at h;split at h
 ·cases h;exact Acz _ _ _ _ _ _ _ _ _  ▸ tE _ _ _ _ _ _ _ _ _ _ _ _ _ _ _ _ 
 ·cases h;exact Ada _ _ _ _ _ _ _ _ _ _  ▸ tF _ _ _ _ _ _ _ _ _ _ _ _ _ _ _ _ _ 
 ·cases h)
def x(a:Bool)(k b:Int):Int × Int × Int :=
 match a with
 | true=>((J D (0-(J D ((J D (b*b))-(J D (k*k))))),J D (J D (2*b)*k),J D (J D (b*b)+J D (k*k))))
 | false=>((J D ((J D (b*b))-(J D (k*k))),J D (J D (2*b)*k),J D (J D (b*b)+J D (k*k))))
theorem Akg(c:ByteArray)(d px py ln:Int)(a:Bool)(lo hi e f mx rs g co h k b:Int)  : RQ 148 [M [.str c,A D d,A D px,A D py,A D ln,I a,A D lo,A D hi,A D e,A D f,A D mx,A D rs,A D g,A D co,A D h],A D k,A D b] (Dj [M [A D ((x a k b).1),A D ((x a k b).2.1)],A D ((x a k b).2.2)]):=by
 unfold x;cases a
 ·exact N (r := Dj [M [A D (J D ((J D (b*b))-(J D (k*k)))),A D (J D (J D (2*b)*k))],A D (J D (J D (b*b)+J D (k*k)))]) (ps:=[false=false]) ND rfl 300 rfl [Y] (by kernel_rfl) ⟨rfl,trivial⟩
 ·exact N (r := Dj [M [A D (J D (0-(J D ((J D (b*b))-(J D (k*k)))))),A D (J D (J D (2*b)*k))],A D (J D (J D (b*b)+J D (k*k)))]) (ps:=[true=true]) ND rfl 300 rfl [q] (by kernel_rfl) ⟨rfl,trivial⟩
def Avh:u->Option (AV × List Prop)
 | [M [.str _,A D _,A D _,A D _,A D _,I a,A D _,A D _,A D _,A D _,A D _,A D _,A D _,A D _,A D _],A D k,A D b]=>some (Dj [M [A D ((x a k b).1),A D ((x a k b).2.1)],A D ((x a k b).2.2)],[])
 | _=>none
def Avi:Bo:=(148,Avh)::Avg
theorem Gq:AQ Cy Avi:=AQ.cons ND (by
 intro args r ps h a;unfold Avh at h;split at h
 ·cases h;exact Akg _ _ _ _ _ _ _ _ _ _ _ _ _ _ _ _ _ 
 ·cases h)
def IF(a b px py ln:Int)(c:Bool)(lo hi e f mx k d:Int):Bool :=
 match E3 px py ln lo hi e f mx&&t (-256) 256 k with
 | true=>(match t 1 524288 d with
 | true=>(match t (-2097152) 2097152 a&&t (-2097152) 2097152 b with
 | true=>(match decide (i ((F a b px py).1) ((F a b px py).2) ((x c k 256).1) ((x c k 256).2.1)<=0) with
 | true=>((E (i ((F a b px py).1) ((F a b px py).2) ((F a b px py).1) ((F a b px py).2)<J D (d*d))))
 | false=>(match decide (i ((F a b px py).1) ((F a b px py).2) ((x c k 256).1) ((x c k 256).2.1)>=J D (ln*((x c k 256).2.2))) with
 | true=>((E (J D (((x c k 256).2.2)*J D ((J D (i ((F a b px py).1) ((F a b px py).2) ((F a b px py).1) ((F a b px py).2)+J D (ln*ln)))-(J D (d*d))))<J D (J D (2*ln)*i ((F a b px py).1) ((F a b px py).2) ((x c k 256).1) ((x c k 256).2.1)))))
 | false=>((E ((if (J D (0-(j ((x c k 256).1) ((x c k 256).2.1) ((F a b px py).1) ((F a b px py).2))))>(j ((x c k 256).1) ((x c k 256).2.1) ((F a b px py).1) ((F a b px py).2)) then (J D (0-(j ((x c k 256).1) ((x c k 256).2.1) ((F a b px py).1) ((F a b px py).2)))) else (j ((x c k 256).1) ((x c k 256).2.1) ((F a b px py).1) ((F a b px py).2)))<J D (d*((x c k 256).2.2)))))))
 | false=>false)
 | false=>false)
 | false=>false
theorem xX(a b:Int)(h:ByteArray)(l px py ln:Int)(c:Bool)(lo hi e f mx rs m co n k d:Int)  : RQ 63 [M [A D a,A D b],M [.str h,A D l,A D px,A D py,A D ln,I c,A D lo,A D hi,A D e,A D f,A D mx,A D rs,A D m,A D co,A D n],A D k,A D d] (I (IF a b px py ln c lo hi e f mx k d)):=by
 unfold IF;cases c1:(E3 px py ln lo hi e f mx&&t (-256) 256 k)
 ·exact N (r := I false) (ps:=[(!(E3 px py ln lo hi e f mx&&t (-256) 256 k))=true,true=true,true=true]) Gq rfl 300 rfl [q,q,q] (by kernel_rfl) ⟨(by rw[c1];rfl),rfl,rfl,trivial⟩
 ·cases c2:(t 1 524288 d)
  ·exact N (r := I false) (ps:=[(!(E3 px py ln lo hi e f mx&&t (-256) 256 k))=false,(!(t 1 524288 d))=true,true=true]) Gq rfl 300 rfl [Y,q,q] (by kernel_rfl) ⟨(by rw[c1];rfl),(by rw[c2];rfl),rfl,trivial⟩
  ·cases c3:(t (-2097152) 2097152 a&&t (-2097152) 2097152 b)
   ·exact N (r := I false) (ps:=[(!(E3 px py ln lo hi e f mx&&t (-256) 256 k))=false,(!(t 1 524288 d))=false,(!(t (-2097152) 2097152 a&&t (-2097152) 2097152 b))=true]) Gq rfl 300 rfl [Y,Y,q] (by kernel_rfl) ⟨(by rw[c1];rfl),(by rw[c2];rfl),(by rw[c3];rfl),trivial⟩
   ·cases c4:(E (i ((F a b px py).1) ((F a b px py).2) ((x c k 256).1) ((x c k 256).2.1)<=0))
    ·cases g:(E (i ((F a b px py).1) ((F a b px py).2) ((x c k 256).1) ((x c k 256).2.1)>=J D (ln*((x c k 256).2.2))))
     ·exact N (r := I (E ((if (J D (0-(j ((x c k 256).1) ((x c k 256).2.1) ((F a b px py).1) ((F a b px py).2))))>(j ((x c k 256).1) ((x c k 256).2.1) ((F a b px py).1) ((F a b px py).2)) then (J D (0-(j ((x c k 256).1) ((x c k 256).2.1) ((F a b px py).1) ((F a b px py).2)))) else (j ((x c k 256).1) ((x c k 256).2.1) ((F a b px py).1) ((F a b px py).2)))<J D (d*((x c k 256).2.2))))) (ps:=[(!(E3 px py ln lo hi e f mx&&t (-256) 256 k))=false,(!(t 1 524288 d))=false,(!(t (-2097152) 2097152 a&&t (-2097152) 2097152 b))=false,E (i ((F a b px py).1) ((F a b px py).2) ((x c k 256).1) ((x c k 256).2.1)<=0)=false,E (i ((F a b px py).1) ((F a b px py).2) ((x c k 256).1) ((x c k 256).2.1)>=J D (ln*((x c k 256).2.2)))=false]) Gq rfl 300 rfl [Y,Y,Y,Y,Y] (by kernel_rfl) ⟨(by rw[c1];rfl),(by rw[c2];rfl),(by rw[c3];rfl),c4,g,trivial⟩
     ·exact N (r := I (E (J D (((x c k 256).2.2)*J D ((J D (i ((F a b px py).1) ((F a b px py).2) ((F a b px py).1) ((F a b px py).2)+J D (ln*ln)))-(J D (d*d))))<J D (J D (2*ln)*i ((F a b px py).1) ((F a b px py).2) ((x c k 256).1) ((x c k 256).2.1))))) (ps:=[(!(E3 px py ln lo hi e f mx&&t (-256) 256 k))=false,(!(t 1 524288 d))=false,(!(t (-2097152) 2097152 a&&t (-2097152) 2097152 b))=false,E (i ((F a b px py).1) ((F a b px py).2) ((x c k 256).1) ((x c k 256).2.1)<=0)=false,E (i ((F a b px py).1) ((F a b px py).2) ((x c k 256).1) ((x c k 256).2.1)>=J D (ln*((x c k 256).2.2)))=true]) Gq rfl 300 rfl [Y,Y,Y,Y,q] (by kernel_rfl) ⟨(by rw[c1];rfl),(by rw[c2];rfl),(by rw[c3];rfl),c4,g,trivial⟩
    ·exact N (r := I (E (i ((F a b px py).1) ((F a b px py).2) ((F a b px py).1) ((F a b px py).2)<J D (d*d)))) (ps:=[(!(E3 px py ln lo hi e f mx&&t (-256) 256 k))=false,(!(t 1 524288 d))=false,(!(t (-2097152) 2097152 a&&t (-2097152) 2097152 b))=false,E (i ((F a b px py).1) ((F a b px py).2) ((x c k 256).1) ((x c k 256).2.1)<=0)=true]) Gq rfl 300 rfl [Y,Y,Y,q] (by kernel_rfl) ⟨(by rw[c1];rfl),(by rw[c2];rfl),(by rw[c3];rfl),c4,trivial⟩
def g63:u->Option (AV × List Prop)
 | [M [A D a,A D b],M [.str _,A D _,A D px,A D py,A D ln,I c,A D lo,A D hi,A D d,A D e,A D mx,A D _,A D _,A D _,A D _],A D k,A D f]=>some (I (IF a b px py ln c lo hi d e mx k f),[])
 | _=>none
def Avj:Bo:=(63,g63)::Avi
theorem F5:AQ Cy Avj:=AQ.cons Gq (by
 intro args r ps h a;unfold g63 at h;split at h
 ·cases h;exact xX _ _ _ _ _ _ _ _ _ _ _ _ _ _ _ _ _ _ _ 
 ·cases h)
def Vy(a b c d n:Int):Bool :=
 match e a b with
 | true=>(match e c d with
 | true=>(match decide (n<1) with
 | true=>(false)
 | false=>(match decide ((if (J D (0-(J D (a-c))))>(J D (a-c)) then (J D (0-(J D (a-c)))) else (J D (a-c)))<n) with
 | true=>(match decide ((if (J D (0-(J D (b-d))))>(J D (b-d)) then (J D (0-(J D (b-d)))) else (J D (b-d)))<n) with
 | true=>(match decide (n>2147483648) with
 | true=>(true)
 | false=>((E (J D (J D (J D (a-c)*J D (a-c))+J D (J D (b-d)*J D (b-d)))<J D (n*n)))))
 | false=>false)
 | false=>false))
 | false=>false)
 | false=>false
theorem xY(p1 p2 q1 q2 n:Int)  : RQ 64 [M [A D p1,A D p2],M [A D q1,A D q2],A D n] (I (Vy p1 p2 q1 q2 n)):=by
 unfold Vy;cases c1:(e p1 p2)
 ·exact N (r := I false) (ps:=[(!(e p1 p2))=true,true=true,true=true]) F5 rfl 300 rfl [q,q,q] (by kernel_rfl) ⟨(by rw[c1];rfl),rfl,rfl,trivial⟩
 ·cases c2:(e q1 q2)
  ·exact N (r := I false) (ps:=[(!(e p1 p2))=false,(!(e q1 q2))=true,true=true]) F5 rfl 300 rfl [Y,q,q] (by kernel_rfl) ⟨(by rw[c1];rfl),(by rw[c2];rfl),rfl,trivial⟩
  ·cases c3:(E (n<1))
   ·cases c4:(E ((if (J D (0-(J D (p1-q1))))>(J D (p1-q1)) then (J D (0-(J D (p1-q1)))) else (J D (p1-q1)))<n))
    ·exact N (r := I false) (ps:=[(!(e p1 p2))=false,(!(e q1 q2))=false,E (n<1)=false,E ((if (J D (0-(J D (p1-q1))))>(J D (p1-q1)) then (J D (0-(J D (p1-q1)))) else (J D (p1-q1)))<n)=false,false=false]) F5 rfl 300 rfl [Y,Y,Y,Y,Y] (by kernel_rfl) ⟨(by rw[c1];rfl),(by rw[c2];rfl),c3,c4,rfl,trivial⟩
    ·cases a:(E ((if (J D (0-(J D (p2-q2))))>(J D (p2-q2)) then (J D (0-(J D (p2-q2)))) else (J D (p2-q2)))<n))
     ·exact N (r := I false) (ps:=[(!(e p1 p2))=false,(!(e q1 q2))=false,E (n<1)=false,E ((if (J D (0-(J D (p1-q1))))>(J D (p1-q1)) then (J D (0-(J D (p1-q1)))) else (J D (p1-q1)))<n)=true,E ((if (J D (0-(J D (p2-q2))))>(J D (p2-q2)) then (J D (0-(J D (p2-q2)))) else (J D (p2-q2)))<n)=false]) F5 rfl 300 rfl [Y,Y,Y,q,Y] (by kernel_rfl) ⟨(by rw[c1];rfl),(by rw[c2];rfl),c3,c4,a,trivial⟩
     ·cases b:(E (n>2147483648))
      ·exact N (r := I (E (J D (J D (J D (p1-q1)*J D (p1-q1))+J D (J D (p2-q2)*J D (p2-q2)))<J D (n*n)))) (ps:=[(!(e p1 p2))=false,(!(e q1 q2))=false,E (n<1)=false,E ((if (J D (0-(J D (p1-q1))))>(J D (p1-q1)) then (J D (0-(J D (p1-q1)))) else (J D (p1-q1)))<n)=true,E ((if (J D (0-(J D (p2-q2))))>(J D (p2-q2)) then (J D (0-(J D (p2-q2)))) else (J D (p2-q2)))<n)=true,E (n>2147483648)=false,E ((if (J D (0-(J D (p2-q2))))>(J D (p2-q2)) then (J D (0-(J D (p2-q2)))) else (J D (p2-q2)))<n)=true,E (n>2147483648)=false]) F5 rfl 300 rfl [Y,Y,Y,q,q,Y,q,Y] (by kernel_rfl) ⟨(by rw[c1];rfl),(by rw[c2];rfl),c3,c4,a,b,a,b,trivial⟩
      ·exact N (r := I true) (ps:=[(!(e p1 p2))=false,(!(e q1 q2))=false,E (n<1)=false,E ((if (J D (0-(J D (p1-q1))))>(J D (p1-q1)) then (J D (0-(J D (p1-q1)))) else (J D (p1-q1)))<n)=true,E ((if (J D (0-(J D (p2-q2))))>(J D (p2-q2)) then (J D (0-(J D (p2-q2)))) else (J D (p2-q2)))<n)=true,E (n>2147483648)=true,E ((if (J D (0-(J D (p2-q2))))>(J D (p2-q2)) then (J D (0-(J D (p2-q2)))) else (J D (p2-q2)))<n)=true,E (n>2147483648)=true]) F5 rfl 300 rfl [Y,Y,Y,q,q,q,q,q] (by kernel_rfl) ⟨(by rw[c1];rfl),(by rw[c2];rfl),c3,c4,a,b,a,b,trivial⟩
   ·exact N (r := I false) (ps:=[(!(e p1 p2))=false,(!(e q1 q2))=false,E (n<1)=true]) F5 rfl 300 rfl [Y,Y,q] (by kernel_rfl) ⟨(by rw[c1];rfl),(by rw[c2];rfl),c3,trivial⟩
def g64:u->Option (AV × List Prop)
 | [M [A D a,A D b],M [A D c,A D d],A D n]=>some (I (Vy a b c d n),[])
 | _=>none
def Avk:Bo:=(64,g64)::Avj
theorem IG:AQ Cy Avk:=AQ.cons F5 (by
 intro args r ps h a;unfold g64 at h;split at h
 ·cases h;exact xY _ _ _ _ _ 
 ·cases h)
def Ue(x y:Int):AV :=
 match decide (x>=(-1073741824)) with
 | true=>(match decide (x<=1073741824) with
 | true=>(match decide (y>=(-1073741824)) with
 | true=>(I (E (y<=1073741824)))
 | false=>I false)
 | false=>I false)
 | false=>I false
theorem Akh(x y:Int)  : RQ 138 [M [A D x,A D y]] (Ue x y):=by
 unfold Ue;cases c1:(E (x>=(-1073741824)))
 ·exact N (r := I false) (ps:=[E (x>=(-1073741824))=false,false=false,false=false]) IG rfl 300 rfl [Y,Y,Y] (by kernel_rfl) ⟨c1,rfl,rfl,trivial⟩
 ·cases c2:(E (x<=1073741824))
  ·exact N (r := I false) (ps:=[E (x>=(-1073741824))=true,E (x<=1073741824)=false,false=false]) IG rfl 300 rfl [q,Y,Y] (by kernel_rfl) ⟨c1,c2,rfl,trivial⟩
  ·cases c3:(E (y>=(-1073741824)))
   ·exact N (r := I false) (ps:=[E (x>=(-1073741824))=true,E (x<=1073741824)=true,E (y>=(-1073741824))=false]) IG rfl 300 rfl [q,q,Y] (by kernel_rfl) ⟨c1,c2,c3,trivial⟩
   ·exact N (r := I (E (y<=1073741824))) (ps:=[E (x>=(-1073741824))=true,E (x<=1073741824)=true,E (y>=(-1073741824))=true]) IG rfl 300 rfl [q,q,q] (by kernel_rfl) ⟨c1,c2,c3,trivial⟩
theorem e138(x y:Int):Ue x y = I (e x y):=by
 unfold Ue e;repeat' split
 all_goals (simp_all <;> omega)
def Avl:u->Option (AV × List Prop)
 | [M [A D x,A D y]]=>some (I (e x y),[])
 | _=>none
def Avm:Bo:=(138,Avl)::Avk
theorem NE:AQ Cy Avm:=AQ.cons IG (by
 intro args r ps h a;unfold Avl at h;split at h
 ·cases h;exact e138 _ _ ▸ Akh _ _
 ·cases h)
def Uf(x y:Int):AV :=
 match e x y with
 | true=>(M [A D x,A D y])
 | false=>M [A D 0,A D 0]
theorem Aki(x y:Int)  : RQ 139 [M [A D x,A D y]] (Uf x y):=by
 unfold Uf;cases c1:(e x y)
 ·exact N (r := M [A D 0,A D 0]) (ps:=[e x y=false]) NE rfl 300 rfl [Y] (by kernel_rfl) ⟨c1,trivial⟩
 ·exact N (r := M [A D x,A D y]) (ps:=[e x y=true]) NE rfl 300 rfl [q] (by kernel_rfl) ⟨c1,trivial⟩
theorem e139(x y:Int):Uf x y = M [A D (Ds x y).1,A D (Ds x y).2]:=by
 unfold Uf Ds;cases h:e x y <;> rfl
def Avn:u->Option (AV × List Prop)
 | [M [A D x,A D y]]=>some (M [A D (Ds x y).1,A D (Ds x y).2],[])
 | _=>none
def Avo:Bo:=(139,Avn)::Avm
theorem Kr:AQ Cy Avo:=AQ.cons NE (by
 intro args r ps h a;unfold Avn at h;split at h
 ·cases h;exact e139 _ _ ▸ Aki _ _
 ·cases h)
section
variable(a b c d:Int)
def Vz:AV :=
 match e a b with
 | true=>(match e c d with
 | true=>(M [A D ((Ds (J D (a-c)) (J D (b-d))).1),A D ((Ds (J D (a-c)) (J D (b-d))).2)])
 | false=>M [A D 0,A D 0])
 | false=>(M [A D 0,A D 0])
theorem xZ  : RQ 59 [M [A D a,A D b],M [A D c,A D d]] (Vz a b c d):=by
 unfold Vz;cases c1:(e a b)
 ·exact N (r := M [A D 0,A D 0]) (ps:=[(!(e a b))=true,true=true]) Kr rfl 300 rfl [q,q] (by kernel_rfl) ⟨(by rw[c1];rfl),rfl,trivial⟩
 ·cases c2:(e c d)
  ·exact N (r := M [A D 0,A D 0]) (ps:=[(!(e a b))=false,(!(e c d))=true]) Kr rfl 300 rfl [Y,q] (by kernel_rfl) ⟨(by rw[c1];rfl),(by rw[c2];rfl),trivial⟩
  ·exact N (r := M [A D ((Ds (J D (a-c)) (J D (b-d))).1),A D ((Ds (J D (a-c)) (J D (b-d))).2)]) (ps:=[(!(e a b))=false,(!(e c d))=false]) Kr rfl 300 rfl [Y,Y] (by kernel_rfl) ⟨(by rw[c1];rfl),(by rw[c2];rfl),trivial⟩
theorem e59:Vz a b c d = M [A D (F a b c d).1,A D (F a b c d).2]:=by
 unfold Vz F;cases h1:e a b
 ·rfl
 ·cases h2:e c d
  ·rfl
  ·have f:=Ck h1;have g:=Ck h2;simp only[DN,if_true,Bb (n:=a-c) (by omega) (by omega),Bb (n:=b-d) (by omega) (by omega)]
end
def g59:u->Option (AV × List Prop)
 | [M [A D a,A D b],M [A D c,A D d]]=>some (M [A D (F a b c d).1,A D (F a b c d).2],[])
 | _=>none
def Avp:Bo:=(59,g59)::Avo
theorem Ks:AQ Cy Avp:=AQ.cons Kr (by
 intro args r ps h a;unfold g59 at h;split at h
 ·cases h;exact e59 _ _ _ _ ▸ xZ _ _ _ _
 ·cases h)
section
variable(a b c d:Int)
def Ug:AV :=
 match e a b with
 | true=>(match e c d with
 | true=>(A D (J D (J D (a*c)+J D (b*d))))
 | false=>A D 0)
 | false=>(A D 0)
theorem Akj  : RQ 141 [M [A D a,A D b],M [A D c,A D d]] (Ug a b c d):=by
 unfold Ug;cases c1:(e a b)
 ·exact N (r := A D 0) (ps:=[(!(e a b))=true,true=true]) Ks rfl 300 rfl [q,q] (by kernel_rfl) ⟨(by rw[c1];rfl),rfl,trivial⟩
 ·cases c2:(e c d)
  ·exact N (r := A D 0) (ps:=[(!(e a b))=false,(!(e c d))=true]) Ks rfl 300 rfl [Y,q] (by kernel_rfl) ⟨(by rw[c1];rfl),(by rw[c2];rfl),trivial⟩
  ·exact N (r := A D (J D (J D (a*c)+J D (b*d)))) (ps:=[(!(e a b))=false,(!(e c d))=false]) Ks rfl 300 rfl [Y,Y] (by kernel_rfl) ⟨(by rw[c1];rfl),(by rw[c2];rfl),trivial⟩
theorem e141:Ug a b c d = A D (i a b c d):=by
 unfold Ug i;cases h1:e a b
 ·rfl
 ·cases h2:e c d
  ·rfl
  ·have f:=Ck h1;have g:=Ck h2;have h:=D4 (x:=a) (y:=c) (by omega) (by omega) (by omega) (by omega);have j:=D4 (x:=b) (y:=d) (by omega) (by omega) (by omega) (by omega);simp only[DN,if_true,Bb (n:=a*c) (by omega) (by omega),Bb (n:=b*d) (by omega) (by omega),Bb (n:=a*c+b*d) (by omega) (by omega)]
end
def Avq:u->Option (AV × List Prop)
 | [M [A D a,A D b],M [A D c,A D d]]=>some (A D (i a b c d),[])
 | _=>none
def Avr:Bo:=(141,Avq)::Avp
theorem Kt:AQ Cy Avr:=AQ.cons Ks (by
 intro args r ps h a;unfold Avq at h;split at h
 ·cases h;exact e141 _ _ _ _ ▸ Akj _ _ _ _
 ·cases h)
section
variable(a b c d:Int)
def V0:AV :=
 match e a b with
 | true=>(match e c d with
 | true=>(A D (J D ((J D (a*d))-(J D (b*c)))))
 | false=>A D 0)
 | false=>(A D 0)
theorem yA  : RQ 58 [M [A D a,A D b],M [A D c,A D d]] (V0 a b c d):=by
 unfold V0;cases c1:(e a b)
 ·exact N (r := A D 0) (ps:=[(!(e a b))=true,true=true]) Kt rfl 300 rfl [q,q] (by kernel_rfl) ⟨(by rw[c1];rfl),rfl,trivial⟩
 ·cases c2:(e c d)
  ·exact N (r := A D 0) (ps:=[(!(e a b))=false,(!(e c d))=true]) Kt rfl 300 rfl [Y,q] (by kernel_rfl) ⟨(by rw[c1];rfl),(by rw[c2];rfl),trivial⟩
  ·exact N (r := A D (J D ((J D (a*d))-(J D (b*c))))) (ps:=[(!(e a b))=false,(!(e c d))=false]) Kt rfl 300 rfl [Y,Y] (by kernel_rfl) ⟨(by rw[c1];rfl),(by rw[c2];rfl),trivial⟩
theorem e58:V0 a b c d = A D (j a b c d):=by
 unfold V0 j;cases h1:e a b
 ·rfl
 ·cases h2:e c d
  ·rfl
  ·have f:=Ck h1;have g:=Ck h2;have h:=D4 (x:=a) (y:=d) (by omega) (by omega) (by omega) (by omega);have i:=D4 (x:=b) (y:=c) (by omega) (by omega) (by omega) (by omega);simp only[DN,if_true,Bb (n:=a*d) (by omega) (by omega),Bb (n:=b*c) (by omega) (by omega),Bb (n:=a*d-b*c) (by omega) (by omega)]
end
def g58:u->Option (AV × List Prop)
 | [M [A D a,A D b],M [A D c,A D d]]=>some (A D (j a b c d),[])
 | _=>none
def Avs:Bo:=(58,g58)::Avr
theorem Hx:AQ Cy Avs:=AQ.cons Kt (by
 intro args r ps h a;unfold g58 at h;split at h
 ·cases h;exact e58 _ _ _ _ ▸ yA _ _ _ _
 ·cases h)
def B7(a b n:Int):Int × Int :=
 match e a b with
 | true=>(match a==0&&(b==0&&true) with
 | true=>((0,0))
 | false=>(match decide (n>2147483648) with
 | true=>((0,0))
 | false=>(match decide (n<(-2147483648)) with
 | true=>((0,0))
 | false=>(((Ds (J D (a*n)) (J D (b*n))).1,(Ds (J D (a*n)) (J D (b*n))).2)))))
 | false=>((0,0))
theorem Akk(a b n:Int)  : RQ 150 [M [A D a,A D b],A D n] (M [A D ((B7 a b n).1),A D ((B7 a b n).2)]):=by
 unfold B7;cases c1:(e a b)
 ·exact N (r := M [A D 0,A D 0]) (ps:=[(!(e a b))=true,true=true,true=true,true=true]) Hx rfl 300 rfl [q,q,q,q] (by kernel_rfl) ⟨(by rw[c1];rfl),rfl,rfl,rfl,trivial⟩
 ·cases c2:(a==0&&(b==0&&true))
  ·cases c3:(E (n>2147483648))
   ·cases c4:(E (n<(-2147483648)))
    ·exact N (r := M [A D ((Ds (J D (a*n)) (J D (b*n))).1),A D ((Ds (J D (a*n)) (J D (b*n))).2)]) (ps:=[(!(e a b))=false,(a==0&&(b==0&&true))=false,E (n>2147483648)=false,E (n<(-2147483648))=false]) Hx rfl 300 rfl [Y,Y,Y,Y] (by kernel_rfl) ⟨(by rw[c1];rfl),c2,c3,c4,trivial⟩
    ·exact N (r := M [A D 0,A D 0]) (ps:=[(!(e a b))=false,(a==0&&(b==0&&true))=false,E (n>2147483648)=false,E (n<(-2147483648))=true]) Hx rfl 300 rfl [Y,Y,Y,q] (by kernel_rfl) ⟨(by rw[c1];rfl),c2,c3,c4,trivial⟩
   ·exact N (r := M [A D 0,A D 0]) (ps:=[(!(e a b))=false,(a==0&&(b==0&&true))=false,E (n>2147483648)=true,true=true]) Hx rfl 300 rfl [Y,Y,q,q] (by kernel_rfl) ⟨(by rw[c1];rfl),c2,c3,rfl,trivial⟩
  ·exact N (r := M [A D 0,A D 0]) (ps:=[(!(e a b))=false,(a==0&&(b==0&&true))=true,true=true,true=true]) Hx rfl 300 rfl [Y,q,q,q] (by kernel_rfl) ⟨(by rw[c1];rfl),c2,rfl,rfl,trivial⟩
def Avt:u->Option (AV × List Prop)
 | [M [A D a,A D b],A D n]=>some (M [A D ((B7 a b n).1),A D ((B7 a b n).2)],[])
 | _=>none
def Avu:Bo:=(150,Avt)::Avs
theorem IH:AQ Cy Avu:=AQ.cons Hx (by
 intro args r ps h a;unfold Avt at h;split at h
 ·cases h;exact Akk _ _ _ 
 ·cases h)
def BL(x y m:Int):Bool :=
 match decide (x>=J D (0-m)) with
 | true=>(match decide (x<=m) with
 | true=>(match decide (y>=J D (0-m)) with
 | true=>((E (y<=m)))
 | false=>false)
 | false=>false)
 | false=>false
theorem Akl(x y m:Int)  : RQ 140 [M [A D x,A D y],A D m] (I (BL x y m)):=by
 unfold BL;cases c1:(E (x>=J D (0-m)))
 ·exact N (r := I false) (ps:=[E (x>=J D (0-m))=false,false=false,false=false]) IH rfl 300 rfl [Y,Y,Y] (by kernel_rfl) ⟨c1,rfl,rfl,trivial⟩
 ·cases c2:(E (x<=m))
  ·exact N (r := I false) (ps:=[E (x>=J D (0-m))=true,E (x<=m)=false,false=false]) IH rfl 300 rfl [q,Y,Y] (by kernel_rfl) ⟨c1,c2,rfl,trivial⟩
  ·cases c3:(E (y>=J D (0-m)))
   ·exact N (r := I false) (ps:=[E (x>=J D (0-m))=true,E (x<=m)=true,E (y>=J D (0-m))=false]) IH rfl 300 rfl [q,q,Y] (by kernel_rfl) ⟨c1,c2,c3,trivial⟩
   ·exact N (r := I (E (y<=m))) (ps:=[E (x>=J D (0-m))=true,E (x<=m)=true,E (y>=J D (0-m))=true]) IH rfl 300 rfl [q,q,q] (by kernel_rfl) ⟨c1,c2,c3,trivial⟩
def Avv:u->Option (AV × List Prop)
 | [M [A D x,A D y],A D m]=>some (I (BL x y m),[])
 | _=>none
def Avw:Bo:=(140,Avv)::Avu
theorem Hy:AQ Cy Avw:=AQ.cons IH (by
 intro args r ps h a;unfold Avv at h;split at h
 ·cases h;exact Akl _ _ _ 
 ·cases h)
section
variable(a b c d e:Int)
def BS:Bool :=
 match BL a b 2097152 with
 | true=>(match BL c d 1048576 with
 | true=>(match decide (e<1) with
 | true=>(false)
 | false=>(match decide (e>524288) with
 | true=>(false)
 | false=>((E (i ((F a b c d).1) ((F a b c d).2) ((F a b c d).1) ((F a b c d).2)<J D (e*e))))))
 | false=>false)
 | false=>(false)
theorem yB  : RQ 66 [M [A D a,A D b],M [A D c,A D d],A D e] (I (BS a b c d e)):=by
 unfold BS;cases c1:(BL a b 2097152)
 ·exact N (r := I false) (ps:=[(!(BL a b 2097152))=true,true=true,true=true,true=true]) Hy rfl 300 rfl [q,q,q,q] (by kernel_rfl) ⟨(by rw[c1];rfl),rfl,rfl,rfl,trivial⟩
 ·cases c2:(BL c d 1048576)
  ·exact N (r := I false) (ps:=[(!(BL a b 2097152))=false,(!(BL c d 1048576))=true,true=true,true=true]) Hy rfl 300 rfl [Y,q,q,q] (by kernel_rfl) ⟨(by rw[c1];rfl),(by rw[c2];rfl),rfl,rfl,trivial⟩
  ·cases c3:(E (e<1))
   ·cases c4:(E (e>524288))
    ·exact N (r := I (E (i ((F a b c d).1) ((F a b c d).2) ((F a b c d).1) ((F a b c d).2)<J D (e*e)))) (ps:=[(!(BL a b 2097152))=false,(!(BL c d 1048576))=false,E (e<1)=false,E (e>524288)=false]) Hy rfl 300 rfl [Y,Y,Y,Y] (by kernel_rfl) ⟨(by rw[c1];rfl),(by rw[c2];rfl),c3,c4,trivial⟩
    ·exact N (r := I false) (ps:=[(!(BL a b 2097152))=false,(!(BL c d 1048576))=false,E (e<1)=false,E (e>524288)=true]) Hy rfl 300 rfl [Y,Y,Y,q] (by kernel_rfl) ⟨(by rw[c1];rfl),(by rw[c2];rfl),c3,c4,trivial⟩
   ·exact N (r := I false) (ps:=[(!(BL a b 2097152))=false,(!(BL c d 1048576))=false,E (e<1)=true,true=true]) Hy rfl 300 rfl [Y,Y,q,q] (by kernel_rfl) ⟨(by rw[c1];rfl),(by rw[c2];rfl),c3,rfl,trivial⟩
end
def g66:u->Option (AV × List Prop)
 | [M [A D a,A D b],M [A D c,A D d],A D e]=>some (I (BS a b c d e),[])
 | _=>none
def Avx:Bo:=(66,g66)::Avw
theorem NF:AQ Cy Avx:=AQ.cons Hy (by
 intro args r ps h a;unfold g66 at h;split at h
 ·cases h;exact yB _ _ _ _ _ 
 ·cases h)
def AY(n a b:Int):Bool :=
 match decide (n>=a) with
 | true=>((E (n<=b)))
 | false=>false
theorem D6(n a b:Int)  : RQ 118 [A D n,A D a,A D b] (I (AY n a b)):=by
 unfold AY;cases c1:(E (n>=a))
 ·exact N (r := I false) (ps:=[E (n>=a)=false]) NF rfl 300 rfl [Y] (by kernel_rfl) ⟨c1,trivial⟩
 ·exact N (r := I (E (n<=b))) (ps:=[E (n>=a)=true]) NF rfl 300 rfl [q] (by kernel_rfl) ⟨c1,trivial⟩
def Avy:u->Option (AV × List Prop)
 | [A D n,A D a,A D b]=>some (I (AY n a b),[])
 | _=>none
def Avz:Bo:=(118,Avy)::Avx
theorem NG:AQ Cy Avz:=AQ.cons NF (by
 intro args r ps h a;unfold Avy at h;split at h
 ·cases h;exact D6 _ _ _ 
 ·cases h)
def v(x y m:Int):Bool :=
 match AY x (J D (0-m)) m with
 | true=>((AY y (J D (0-m)) m))
 | false=>false
theorem FS(x y m:Int)  : RQ 119 [M [A D x,A D y],A D m] (I (v x y m)):=by
 unfold v;cases c1:(AY x (J D (0-m)) m)
 ·exact N (r := I false) (ps:=[AY x (J D (0-m)) m=false]) NG rfl 300 rfl [Y] (by kernel_rfl) ⟨c1,trivial⟩
 ·exact N (r := I (AY y (J D (0-m)) m)) (ps:=[AY x (J D (0-m)) m=true]) NG rfl 300 rfl [q] (by kernel_rfl) ⟨c1,trivial⟩
def Awa:u->Option (AV × List Prop)
 | [M [A D x,A D y],A D m]=>some (I (v x y m),[])
 | _=>none
def Awb:Bo:=(119,Awa)::Avz
theorem E8:AQ Cy Awb:=AQ.cons NG (by
 intro args r ps h a;unfold Awa at h;split at h
 ·cases h;exact FS _ _ _ 
 ·cases h)
def V1(px py ln lo hi a b mx:Int):Bool :=
 match v px py 1048576 with
 | true=>(match AY ln 1 262144 with
 | true=>(match AY lo (-256) 256 with
 | true=>(match AY hi (-256) 256 with
 | true=>(match decide (lo<hi) with
 | true=>(match AY a 1 64 with
 | true=>(match AY b 1 64 with
 | true=>(match AY mx 1 64 with
 | true=>((E (J D (mx*ln)<=2097152)))
 | false=>false)
 | false=>false)
 | false=>false)
 | false=>false)
 | false=>false)
 | false=>false)
 | false=>false)
 | false=>false
theorem NH(g:ByteArray)(h px py ln:Int)(i:Bool)(lo hi a b mx rs j co k:Int)  : RQ 154 [M [.str g,A D h,A D px,A D py,A D ln,I i,A D lo,A D hi,A D a,A D b,A D mx,A D rs,A D j,A D co,A D k]] (I (V1 px py ln lo hi a b mx)):=by
 unfold V1;cases c1:(v px py 1048576)
 ·exact N (r := I false) (ps:=[v px py 1048576=false,false=false,false=false,false=false,false=false,false=false,false=false,false=false]) E8 rfl 300 rfl [Y,Y,Y,Y,Y,Y,Y,Y] (by kernel_rfl) ⟨c1,rfl,rfl,rfl,rfl,rfl,rfl,rfl,trivial⟩
 ·cases c2:(AY ln 1 262144)
  ·exact N (r := I false) (ps:=[v px py 1048576=true,AY ln 1 262144=false,false=false,false=false,false=false,false=false,false=false,false=false]) E8 rfl 300 rfl [q,Y,Y,Y,Y,Y,Y,Y] (by kernel_rfl) ⟨c1,c2,rfl,rfl,rfl,rfl,rfl,rfl,trivial⟩
  ·cases c3:(AY lo (-256) 256)
   ·exact N (r := I false) (ps:=[v px py 1048576=true,AY ln 1 262144=true,AY lo (-256) 256=false,false=false,false=false,false=false,false=false,false=false]) E8 rfl 300 rfl [q,q,Y,Y,Y,Y,Y,Y] (by kernel_rfl) ⟨c1,c2,c3,rfl,rfl,rfl,rfl,rfl,trivial⟩
   ·cases c4:(AY hi (-256) 256)
    ·exact N (r := I false) (ps:=[v px py 1048576=true,AY ln 1 262144=true,AY lo (-256) 256=true,AY hi (-256) 256=false,false=false,false=false,false=false,false=false]) E8 rfl 300 rfl [q,q,q,Y,Y,Y,Y,Y] (by kernel_rfl) ⟨c1,c2,c3,c4,rfl,rfl,rfl,rfl,trivial⟩
    ·cases c:(E (lo<hi))
     ·exact N (r := I false) (ps:=[v px py 1048576=true,AY ln 1 262144=true,AY lo (-256) 256=true,AY hi (-256) 256=true,E (lo<hi)=false,false=false,false=false,false=false]) E8 rfl 300 rfl [q,q,q,q,Y,Y,Y,Y] (by kernel_rfl) ⟨c1,c2,c3,c4,c,rfl,rfl,rfl,trivial⟩
     ·cases d:(AY a 1 64)
      ·exact N (r := I false) (ps:=[v px py 1048576=true,AY ln 1 262144=true,AY lo (-256) 256=true,AY hi (-256) 256=true,E (lo<hi)=true,AY a 1 64=false,false=false,false=false]) E8 rfl 300 rfl [q,q,q,q,q,Y,Y,Y] (by kernel_rfl) ⟨c1,c2,c3,c4,c,d,rfl,rfl,trivial⟩
      ·cases e:(AY b 1 64)
       ·exact N (r := I false) (ps:=[v px py 1048576=true,AY ln 1 262144=true,AY lo (-256) 256=true,AY hi (-256) 256=true,E (lo<hi)=true,AY a 1 64=true,AY b 1 64=false,false=false]) E8 rfl 300 rfl [q,q,q,q,q,q,Y,Y] (by kernel_rfl) ⟨c1,c2,c3,c4,c,d,e,rfl,trivial⟩
       ·cases f:(AY mx 1 64)
        ·exact N (r := I false) (ps:=[v px py 1048576=true,AY ln 1 262144=true,AY lo (-256) 256=true,AY hi (-256) 256=true,E (lo<hi)=true,AY a 1 64=true,AY b 1 64=true,AY mx 1 64=false]) E8 rfl 300 rfl [q,q,q,q,q,q,q,Y] (by kernel_rfl) ⟨c1,c2,c3,c4,c,d,e,f,trivial⟩
        ·exact N (r := I (E (J D (mx*ln)<=2097152))) (ps:=[v px py 1048576=true,AY ln 1 262144=true,AY lo (-256) 256=true,AY hi (-256) 256=true,E (lo<hi)=true,AY a 1 64=true,AY b 1 64=true,AY mx 1 64=true]) E8 rfl 300 rfl [q,q,q,q,q,q,q,q] (by kernel_rfl) ⟨c1,c2,c3,c4,c,d,e,f,trivial⟩
def Awc:u->Option (AV × List Prop)
 | [M [.str _,A D _,A D px,A D py,A D ln,I _,A D lo,A D hi,A D a,A D b,A D mx,A D _,A D _,A D _,A D _]]=>some (I (V1 px py ln lo hi a b mx),[])
 | _=>none
def Awd:Bo:=(154,Awc)::Awb
theorem NI:AQ Cy Awd:=AQ.cons E8 (by
 intro args r ps h a;unfold Awc at h;split at h
 ·cases h;exact NH _ _ _ _ _ _ _ _ _ _ _ _ _ _ _ 
 ·cases h)
def NJ(k:Int):Bool :=
 match decide (k>=(-256)) with
 | true=>((E (k<=256)))
 | false=>false
theorem QK(k:Int)  : RQ 155 [A D k] (I (NJ k)):=by
 unfold NJ;cases c1:(E (k>=(-256)))
 ·exact N (r := I false) (ps:=[E (k>=(-256))=false]) NI rfl 300 rfl [Y] (by kernel_rfl) ⟨c1,trivial⟩
 ·exact N (r := I (E (k<=256))) (ps:=[E (k>=(-256))=true]) NI rfl 300 rfl [q] (by kernel_rfl) ⟨c1,trivial⟩
def Awe:u->Option (AV × List Prop)
 | [A D k]=>some (I (NJ k),[])
 | _=>none
def Awf:Bo:=(155,Awe)::Awd
theorem Hz:AQ Cy Awf:=AQ.cons NI (by
 intro args r ps h a;unfold Awe at h;split at h
 ·cases h;exact QK _ 
 ·cases h)
def V2(a b c d n:Int):Bool :=
 match e a b with
 | true=>(match e c d with
 | true=>(match decide ((if (J D (0-(J D (a-c))))>(J D (a-c)) then (J D (0-(J D (a-c)))) else (J D (a-c)))<n) with
 | true=>(match decide ((if (J D (0-(J D (b-d))))>(J D (b-d)) then (J D (0-(J D (b-d)))) else (J D (b-d)))<n) with
 | true=>((E (J D (J D (J D (a-c)*J D (a-c))+J D (J D (b-d)*J D (b-d)))<J D (n*n))))
 | false=>false)
 | false=>false)
 | false=>false)
 | false=>false
theorem cJ(a c b d n:Int)  : RQ 68 [M [A D a,A D c],M [A D b,A D d],A D n] (I (V2 a c b d n)):=by
 unfold V2;cases c1:(e a c)
 ·exact N (r := I false) (ps:=[(!(e a c))=true,true=true]) Hz rfl 300 rfl [q,q] (by kernel_rfl) ⟨(by rw[c1];rfl),rfl,trivial⟩
 ·cases c2:(e b d)
  ·exact N (r := I false) (ps:=[(!(e a c))=false,(!(e b d))=true]) Hz rfl 300 rfl [Y,q] (by kernel_rfl) ⟨(by rw[c1];rfl),(by rw[c2];rfl),trivial⟩
  ·cases c3:(E ((if (J D (0-(J D (a-b))))>(J D (a-b)) then (J D (0-(J D (a-b)))) else (J D (a-b)))<n))
   ·exact N (r := I false) (ps:=[(!(e a c))=false,(!(e b d))=false,E ((if (J D (0-(J D (a-b))))>(J D (a-b)) then (J D (0-(J D (a-b)))) else (J D (a-b)))<n)=false,false=false]) Hz rfl 300 rfl [Y,Y,Y,Y] (by kernel_rfl) ⟨(by rw[c1];rfl),(by rw[c2];rfl),c3,rfl,trivial⟩
   ·cases c4:(E ((if (J D (0-(J D (c-d))))>(J D (c-d)) then (J D (0-(J D (c-d)))) else (J D (c-d)))<n))
    ·exact N (r := I false) (ps:=[(!(e a c))=false,(!(e b d))=false,E ((if (J D (0-(J D (a-b))))>(J D (a-b)) then (J D (0-(J D (a-b)))) else (J D (a-b)))<n)=true,E ((if (J D (0-(J D (c-d))))>(J D (c-d)) then (J D (0-(J D (c-d)))) else (J D (c-d)))<n)=false]) Hz rfl 300 rfl [Y,Y,q,Y] (by kernel_rfl) ⟨(by rw[c1];rfl),(by rw[c2];rfl),c3,c4,trivial⟩
    ·exact N (r := I (E (J D (J D (J D (a-b)*J D (a-b))+J D (J D (c-d)*J D (c-d)))<J D (n*n)))) (ps:=[(!(e a c))=false,(!(e b d))=false,E ((if (J D (0-(J D (a-b))))>(J D (a-b)) then (J D (0-(J D (a-b)))) else (J D (a-b)))<n)=true,E ((if (J D (0-(J D (c-d))))>(J D (c-d)) then (J D (0-(J D (c-d)))) else (J D (c-d)))<n)=true]) Hz rfl 300 rfl [Y,Y,q,q] (by kernel_rfl) ⟨(by rw[c1];rfl),(by rw[c2];rfl),c3,c4,trivial⟩
def g68:u->Option (AV × List Prop)
 | [M [A D a,A D b],M [A D c,A D d],A D n]=>some (I (V2 a b c d n),[])
 | _=>none
def Awg:Bo:=(68,g68)::Awf
theorem kG:AQ Cy Awg:=AQ.cons Hz (by
 intro args r ps h a;unfold g68 at h;split at h
 ·cases h;exact cJ _ _ _ _ _ 
 ·cases h)
def Awh:Bo:=Awg
theorem C2:AQ Cy Awh:=kG
end
end Go.Proofs.YtenfgdobfjofkaaGreat
