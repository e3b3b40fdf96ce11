/- Texts of the proof of ContactStates: part 5 of 18. -/
import Derived.Test.YtenfgdobfjofkaaGreatProg
import Derived.KernelRfl
import Derived.Test.YtenfgdobfjofkaaGreatCst4
namespace Go.Proofs.YtenfgdobfjofkaaGreat
open Go.Ai
set_option maxRecDepth 100000
open Go.Ai.AV renaming bool->I,int->A,sl->E
open Go.IntKind renaming i64->D,u32->Bd
open Go.Proofs.Tryz renaming f3->Afl,prog->g
noncomputable section
def Ca(x:Fx)(n p:Nat):ICode:=cP g x n p
def Yx3:Fx:=fx Afl 3 25 [.tmp 6] [] []
def Yu:Fx:=fx Tryz.f9 1 149 [.cell 2 18 false] [(44,[4,35,40,65,103,113,118,135]),(51,[4,35,40,65,103,113,118,135]),(68,[4,35,40,65,103,113,118,135]),(106,[4,35,40,65,103,113,118,135]),(121,[4,35,40,65,103,113,118,135]),(138,[4,35,40,65,103,113,118,135]),(3,[15,17,19,21,23,27,30,46,49,53,59,70,78,80,82,84,86,89,92,95,98,108,111,123,129,140]),(4,[34,39,45,52,64,69,102,107,112,117,122,134,139]),(7,[63]),(9,[100,101]),(10,[116]),(12,[133]),(1000,[3]),(1002,[14]),(1004,[15,17,19,21,23,27,30,46,49,53,59,70,78,80,82,84,86,89,92,95,98,108,111,123,129,140])] [(32,.bld [A D 0,A D 0,A D 0,A D 0,A D 0,A D 0,A D 0,.nil,.nil,.nil,.nil,.nil,.nil,.nil,.nil,.nil,.nil,.nil] [(0,1,.t 16),(1,1,.t 18),(2,1,.t 20),(3,2,.t 26),(5,1,.t 29),(6,1,.t 31)]),(4,.new [A D 0,A D 0,A D 0,A D 0,A D 0,A D 0,A D 0,.nil,.nil,.nil,.nil,.nil,.nil,.nil,.nil,.nil,.nil,.nil] [34,39,45,52,64,69,102,107,112,117,122,134,139]),(1004032,.st 4 4 18 32),(35,.ldh 34 4 false [44,51,68,106,121,138]),(40,.ldh 39 4 false [44,51,68,106,121,138]),(44,.aph 40 43 1 1048576 4 [44]),(1045044,.sth 45 4 44),(46,.mvf 3 4 [44,51,68,106,121,138] [7]),(51,.clw 39 [.c (A D 3000),50] 51 [4]),(1052051,.sth 52 4 51),(65,.ldh 64 4 false [44,51,68,106,121,138]),(68,.aph 65 67 13 1048576 4 [51,68]),(1069068,.sth 69 4 68),(70,.mvf 3 4 [44,51,68,106,121,138] [7,8]),(103,.ldh 102 4 false [44,51,68,106,121,138]),(106,.aph 103 105 11 1048576 4 [106]),(1107106,.sth 107 4 106),(108,.mvf 3 4 [44,51,68,106,121,138] [7,8,10]),(113,.ldh 112 4 false [44,51,68,106,121,138]),(118,.ldh 117 4 false [44,51,68,106,121,138]),(121,.aph 118 120 12 1048576 4 [121]),(1122121,.sth 122 4 121),(123,.mvf 3 4 [44,51,68,106,121,138] [7,8,9,10]),(135,.ldh 134 4 false [44,51,68,106,121,138]),(138,.aph 135 137 15 1048576 4 [138]),(1139138,.sth 139 4 138),(140,.mvf 3 4 [44,51,68,106,121,138] [7,8,9,10,11]),(141,.ldz 4 18 [44,51,68,106,121,138] [7,8,9,10,11]),(1004142,.st 4 4 18 142),(143,.ldz 4 18 [44,51,68,106,121,138] [7,8,9,10,11,12,13,14,15,16,17]),(148,.ldz 4 18 [44,51,68,106,121,138] [7,8,9,10,11,12,13,14,15,16,17])]
def O7:Fx:=fx Tryz.f10 2 175 [.cell 4 6 false] [(1,[15,2,23,101,109,117,139,149,23,101,109,117,139,149]),(23,[2,117,149,27,30,83,122,33,7,40,42,43,44,47,49,50,51,54,56,57,60,63,64,67,69,70,73,74,76,77,78,79,84,85]),(101,[2]),(109,[2]),(117,[2,149,122,132,135]),(139,[2,149,142,147]),(149,[2,161,165,168,170,173]),(88,[117,149,122,2]),(2,[22,26,29,82,89,97,100,105,108,112,115,116,121,131,138,141,148,160,164,167]),(175,[43,44,50,51,57,64,70,77,79]),(1004,[40,47,54,60,67,73,74,84])] [(4,.new [A D 0,.nil,.nil,.nil,.nil,A Bd 0] []),(13,.ld 2 2 6 false),(14,.ld 2 2 6 false),(15,.cpf 25 [14] [1]),(1002015,.sta 2 15 6 [1]),(23,.ldf 22 2 23 1 6 175 [1] [4,5,6]),(24,.lno 23 23),(27,.ldh 26 2 false [23]),(30,.ldh 29 2 false [23]),(7,.mvp 33 23),(83,.ldh 82 2 false [23]),(88,.aph 83 87 7 1048576 2 [23]),(1089088,.sth 89 2 88),(1097096,.sts 97 2 96),(101,.ldf 100 2 101 1 19 175 [1] [4,5,6]),(104,.apd false 101 103 1 1048576),(1105104,.sts 105 2 104),(109,.ldf 108 2 109 1 19 175 [1] [4,5,6]),(1112111,.sts 112 2 111),(1115000,.sts 115 2 (.c (.nil))),(117,.ldf 116 2 117 1 11 175 [1,23,88] [4,5,6]),(118,.lno 117 117),(122,.ldh 121 2 false [23,88,117]),(123,.lno 122 117),(132,.ldh 131 2 false [117]),(139,.ldf 138 2 139 1 19 175 [1] [4,5,6,8]),(142,.ldh 141 2 false [139]),(145,.mn [140,144]),(147,.ixo 139 139 145 1),(149,.ldf 148 2 149 1 13 175 [1,23,88,117,139] [4,5,6]),(150,.lno 149 149),(161,.ldh 160 2 false [149]),(165,.ldh 164 2 false [149]),(168,.ldh 167 2 false [149]),(174,.ldz 2 6 [23,88,101,117,139,109,149] [1])]
def Axs:Fx:=fx Tryz.f11 2 152 [.cell 4 6 false] [(15,[28,6,40,58,100,108,133,143,146]),(19,[28,6,40,58,100,108,133,143,56]),(23,[28,6,40,58,100,108,133,143,75]),(27,[28,6,40,58,100,108,133,143,105]),(2,[13,16,20,24,33,43,49,61,68,77,83,91]),(5,[29,42,60,102,113,115,118,120,124,128,147]),(6,[31,39,57,99,107,142,150]),(152,[47,53,65,72,87,95]),(10,[127,134,136]),(1000,[5]),(1002,[12]),(1004,[29,42,60,102,113,115,118,120,124,128,147])] [(15,.mkw [A D 0,A D 0,A D 0,A D 0,A D 0,A D 0,A D 0] 14 [28,6,40,58,100,108,133,143,146]),(19,.mkw [A D 0] 18 [28,6,40,58,100,108,133,143,56]),(23,.mkw [A D 0] 22 [28,6,40,58,100,108,133,143,75]),(27,.mkw [I false] 26 [28,6,40,58,100,108,133,143,105]),(28,.blh [A D 0,E 0 [],E 0 [],E 0 [],E 0 [],A Bd 0] [(1,15),(2,19),(3,23),(4,27)]),(1006028,.sta 6 28 6 [15,19,23,27]),(1031030,.sts 31 6 30),(40,.ldh 39 6 false [15,19,23,27]),(56,.ixo 40 19 41 1),(58,.ldh 57 6 false [15,19,23,27]),(75,.ixo 58 23 59 1),(100,.ldh 99 6 false [15,19,23,27]),(105,.ixo 100 27 101 1),(108,.ldh 107 6 false [15,19,23,27]),(133,.lda 6 6 [15,19,23,27]),(139,.bwh 17 [132,133,135,137,138] [15,19,23,27]),(143,.ldh 142 6 false [15,19,23,27]),(1150149,.sts 150 6 149),(151,.ldz 6 6 [15,19,23,27] [1,2,3,4])]
def Yv:Fx:=fx Tryz.f12 2 112 [.tmp 4] [(5,[77,86]),(3,[15,22,31,40,49,61,90]),(2,[18,25,34,43]),(7,[73,78,83,87]),(9,[98,104,106]),(1000,[5])] [(77,.cpo 5),(86,.cpo 5)]
def O8:Fx:=fx Tryz.f13 2 213 [.tmp 4] [(3,[15,22,31,40,48,65,77,98,124,133,147,155,164,170,182,188,198,204]),(2,[18,25,34,43,52,58,90,105,114]),(7,[70,72,82,85]),(213,[109,118,151,159,168,174,192,202,208])] []
def Tu:Fx:=fx Tryz.f16 5 161 [.tmp 10] [(5,[21,50,55,69,74,89,97,124,155]),(12,[29,34,46,48]),(14,[62]),(16,[81,87,91]),(18,[105]),(6,[111,119,129]),(20,[141,146,153])] []
def Tv:Fx:=fx Tryz.f17 5 197 [.tmp 10] [(5,[19,25,60,65,71,81,86,91,97,107,113,115,125,138,148,158,192]),(12,[30,35,56,58]),(6,[41,46,131,153,163,169]),(197,[75,101,111,119,142]),(17,[178,183,190])] []
def ACh:Fx:=fx Tryz.f25 1 20 [.cell 2 6 false] [(5,[1,19,2]),(8,[1,19,2]),(11,[1,19,2]),(14,[1,19,2]),(1,[3,6,9,12,15,16,17,18])] [(5,.apn 4 7 1048576 [1,19,2]),(8,.apn 7 1 1048576 [1,19,2]),(11,.apn 10 1 1048576 [1,19,2]),(14,.apn 13 1 1048576 [1,19,2]),(1015005,.sth 15 1 5),(1016008,.sth 16 1 8),(1017011,.sth 17 1 11),(1018014,.sth 18 1 14),(19,.lda 1 6 [5,8,11,14]),(1002019,.sta 2 19 6 [5,8,11,14])]
def Yx33:Fx:=fx Tryz.f33 1 19 [.cell 2 2 false] [] []
def ACi:Fx:=fx Tryz.f36 1 6 [.tmp 2] [(1000,[2])] []
def ACj:Fx:=fx Tryz.f37 3 15 [.giv,.tmp 6] [(0,[8]),(1004,[8])] []
def Alq:Fx:=fx Tryz.f38 2 41 [.giv,.tmp 4] [(0,[6,7,8,10,11,12,16,17,18,20,21,22,28,29,30,33,34]),(1004,[6,10,16,20,28])] []
def Yx39:Fx:=fx Tryz.f39 2 64 [.tmp 4] [(9,[41,46,48,50,52,55,56,57,58,59,60,61,62]),(1000,[4,9,63]),(1002,[39])] []
def Tw:Fx:=fx Tryz.f40 1 57 [.giv,.cell 2 13 false] [(0,[6,8,11,19,33,35,37,40,46,52]),(4,[18,24,29]),(3,[22,27]),(5,[43,48,49,55]),(1004,[6,8,11,19,33,35,37,40,46,52])] [(17,.eqv false 2 15 16)]
def ACk:Fx:=fx Tryz.f41 2 9 [.tmp 4] [] []
def ACl:Fx:=fx Tryz.f42 1 10 [.giv,.cell 2 2 false] [(0,[3,6]),(1004,[3,6])] []
def ACm:Fx:=fx Tryz.f43 2 74 [.giv,.cell 4 12 false] [(0,[13,15,20,23,67,69,71]),(9,[37,44,52,59]),(10,[40,47]),(11,[55,62]),(1004,[13,15,20,23,67,69,71])] []
def ACn:Fx:=fx Tryz.f44 1 33 [.giv,.cell 2 15 false] [(0,[4,6,8,10,15,18,20,22,24,26,28,30]),(1004,[4,6,8,10,15,18,20,22,24,26,28,30])] []
def Yw:Fx:=fx Tryz.f45 2 138 [.giv,.cell 4 18 false] [(41,[3,17,47,52,77,94,110,123]),(68,[3,17,47,52,77,94,110,123]),(88,[3,17,47,52,77,94,110,123]),(104,[3,17,47,52,77,94,110,123]),(117,[3,17,47,52,77,94,110,123]),(135,[3,17,47,52,77,94,110,123]),(0,[8,14,23,28,32,34,37,43,48,50,55,57,59,62,64,70,80,82,84,90,95,97,99,106,111,113,119,124,126,128,131]),(3,[16,42,46,51,69,76,89,93,105,109,118,122,136]),(6,[21,26]),(1004,[8,14,23,28,32,34,37,43,48,50,55,57,59,62,64,70,80,82,84,90,95,97,99,106,111,113,119,124,126,128,131])] [(8,.mvf 0 3 [41,68,88,104,117,135] []),(17,.ldh 16 3 false [41,68,88,104,117,135]),(41,.aph 17 40 9 1048576 3 [41]),(1042041,.sth 42 3 41),(43,.mvf 0 3 [41,68,88,104,117,135] [12]),(47,.ldh 46 3 false [41,68,88,104,117,135]),(52,.ldh 51 3 false [41,68,88,104,117,135]),(68,.aph 47 67 10 1048576 3 [68]),(1069068,.sth 69 3 68),(70,.mvf 0 3 [41,68,88,104,117,135] [12,13]),(77,.ldh 76 3 false [41,68,88,104,117,135]),(88,.aph 77 87 6 1048576 3 [88]),(1089088,.sth 89 3 88),(90,.mvf 0 3 [41,68,88,104,117,135] [12,13,14]),(94,.ldh 93 3 false [41,68,88,104,117,135]),(104,.aph 94 103 8 1048576 3 [104]),(1105104,.sth 105 3 104),(106,.mvf 0 3 [41,68,88,104,117,135] [12,13,14,15]),(110,.ldh 109 3 false [41,68,88,104,117,135]),(117,.aph 110 116 5 1048576 3 [117]),(1118117,.sth 118 3 117),(119,.mvf 0 3 [41,68,88,104,117,135] [12,13,14,15,16]),(123,.ldh 122 3 false [41,68,88,104,117,135]),(135,.aph 123 134 7 1048576 3 [135]),(1136135,.sth 136 3 135),(137,.ldz 3 18 [41,68,88,104,117,135] [7,8,9,10,11,12,13,14,15,16,17])]
def O9:Fx:=fx Tryz.f46 1 166 [.tmp 2] [(1,[8,13,19,25,31,37,43,49,55,61,67,73,76,80,84,89,94,99,104,112]),(166,[132,144,149,155,161])] []
def Axt:Fx:=fx Tryz.f47 2 14 [.tmp 4] [] []
def Kr:Fx:=fx Tryz.f48 1 623 [.tmp 2] [(124,[125,126,613,622]),(126,[3,134,224,244,343,370,422,474,508,555,583,610,611,612,619,620,621]),(1,[27,32,38,44,50,55,60,66,72,78,83,88,91,95,100,105,110,115,120,127,184,231,237,287,363,415,462,467,501,548,576]),(5,[135,137,142,148,150,156,158,163,165,171,173,177,179]),(7,[191,196,198,200,206,208,213,219,225]),(10,[245,247,252,258,264,266,271,273,279,281]),(12,[294,299,305,311,313,319,321,326,328,330,336,338,344,348,350,355,357]),(15,[371,373,378,380,386,392,397,398,400,401,405,406,408,409]),(17,[423,425,430,436,442,448,454,456,460]),(19,[475,477,482,488,494]),(21,[509,511,513,518,524,530,535,537,541]),(23,[556,558,563,569]),(25,[584,586,591,597,603]),(623,[612,621]),(1004,[134,224,244,343,370,422,474,508,555,583,610,619])] [(125,.blm 124 .i64),(126,.bom 125 [124]),(3,.mvp 126 126),(181,.eqv true 2 178 180),(182,.lok 125 134 126 124 [136,176,181]),(235,.lok 125 224 126 124 [226,227,234]),(285,.lok 125 244 126 124 [246,284,.c (I true)]),(361,.lok 125 343 126 124 [345,360,.c (I true)]),(413,.lok 125 370 126 124 [372,396,412]),(465,.lok 125 422 126 124 [424,459,464]),(499,.lok 125 474 126 124 [476,498,.c (I true)]),(544,.eqv true 2 542 543),(546,.lok 125 508 126 124 [510,534,545]),(574,.lok 125 555 126 124 [557,573,.c (I true)]),(608,.lok 125 583 126 124 [585,607,.c (I true)]),(613,.ldh 612 126 false [124]),(622,.ldh 621 126 false [124])]
def lM:Fx:=fx Tryz.f50 2 69 [.tmp 4] [(2,[9,45]),(6,[17,19,30,33]),(3,[21,35,53]),(8,[59,64])] []
def Aeo:Fx:=fx Tryz.f51 2 83 [.tmp 4] [(3,[6,12,18,19,21,22,29,30,32,33,39,43,52,58,65,71,75]),(2,[48,63]),(5,[69,77,79])] [(11,.eqv false 7 9 10),(61,.eqv true 2 59 60)]
def Axu:Fx:=fx Tryz.f52 3 15 [.tmp 6] [] []
def OA:Fx:=fx Tryz.f53 2 75 [.tmp 4] [(3,[6,15,19,24,29,35,44,50,57,63,67]),(2,[37,55]),(5,[61,69,71])] [(12,.eqv false 7 10 11),(47,.eqv true 2 45 46)]
def ACo:Fx:=fx Tryz.f54 2 17 [.tmp 4] [(2,[6,11])] []
def Yx55:Fx:=fx Tryz.f55 2 24 [.tmp 4] [(2,[13,18]),(3,[15,20])] []
def Yx56:Fx:=fx Tryz.f56 2 26 [.cell 4 2 false] [(2,[14,19]),(3,[16,21])] []
def Yx57:Fx:=fx Tryz.f57 4 72 [.tmp 8] [] []
def Yx58:Fx:=fx Tryz.f58 2 24 [.tmp 4] [(2,[13,18]),(3,[15,20])] []
def Yx59:Fx:=fx Tryz.f59 2 26 [.cell 4 2 false] [(2,[14,19]),(3,[16,21])] []
def Yx60:Fx:=fx Tryz.f60 4 84 [.tmp 8] [] []
def Yx61:Fx:=fx Tryz.f61 3 90 [.tmp 6] [(4,[34,40,46,49,51,59,61])] []
def Yx62:Fx:=fx Tryz.f62 3 36 [.tmp 6] [] []
def Yx63:Fx:=fx Tryz.f63 4 96 [.tmp 8] [(4,[26,28]),(5,[41,62,71,73,82])] []
def Yx64:Fx:=fx Tryz.f64 3 62 [.tmp 6] [(3,[21,26]),(4,[23,28])] []
def Yx65:Fx:=fx Tryz.f65 3 92 [.tmp 6] [(3,[28,33,38,43]),(4,[48,54,60])] []
def Yx66:Fx:=fx Tryz.f66 3 34 [.tmp 6] [] []
def Tx:Fx:=fx Tryz.f67 4 76 [.tmp 8] [(4,[14,18,23,28])] []
def Yx68:Fx:=fx Tryz.f68 3 54 [.tmp 6] [(3,[17,22]),(4,[19,24])] []
def Yx76:Fx:=fx Tryz.f76 1 10 [.tmp 2,.tmp 3] [] []
def wW:Fx:=fx Tryz.f79 5 151 [.tmp 10] [(6,[67,77,103,118,120,126]),(1000,[10]),(1002,[150])] []
def Yx99:Fx:=fx Tryz.f99 1 16 [.tmp 2] [(1,[3,7,12])] []
def Axv:Fx:=fx Tryz.f106 1 9 [.cell 2 2 false] [(1,[3,6])] []
def AFv:Fx:=fx Tryz.f108 2 16 [.cell 4 2 false] [(15,[4]),(5,[10]),(1000,[5,14]),(1002,[7]),(1003,[15])] [(15,.bdo 13 14 [4])]
def Axw:Fx:=fx Tryz.f117 0 14 [.tmp 0] [(1000,[0]),(1002,[13])] []
def AFw:Fx:=fx Tryz.f118 3 15 [.tmp 6] [] []
def AFx:Fx:=fx Tryz.f119 2 19 [.tmp 4] [(2,[5,12])] []
def Pm:Fx:=fx Tryz.f120 1 266 [.tmp 2] [(1,[17,23,89,95,146,155,161,217,223]),(5,[28,32,37,42,47,52,57,62,67,72,77,80,82]),(8,[100,104,109,114,119,124,129,134,139]),(11,[166,170,175,180,185,190,195,200,205,210]),(14,[228,236,241,246,251,256]),(1000,[2,3,76,138,209,255,262]),(1002,[87,153,215,261,265])] [(84,.eqv true 2 81 83)]
def Sn:Fx:=fx Tryz.f121 1 36 [.tmp 2] [] []
def Mw:Fx:=fx Tryz.f122 1 130 [.tmp 2] [(1,[16,27,32,55,66,71,94,105,110,125]),(5,[37,43,47]),(6,[39,45,49]),(9,[76,82,86]),(10,[78,84,88]),(13,[115,121]),(14,[117,123])] []
def Pn:Fx:=fx Tryz.f123 3 24 [.tmp 6] [] []
def Yx:Fx:=fx Tryz.f124 2 24 [.tmp 4] [(6,[16,18])] []
def Axx:Fx:=fx Tryz.f126 1 5 [.tmp 2] [] []
def Axy:Fx:=fx Tryz.f127 1 5 [.tmp 2] [] []
def Axz:Fx:=fx Tryz.f128 2 9 [.tmp 4] [] []
def Aya:Fx:=fx Tryz.f129 2 13 [.tmp 4] [] []
def Ayb:Fx:=fx Tryz.f130 2 54 [.tmp 4] [(2,[8,10,13,15])] []
def Jv:Fx:=fx Tryz.f131 1 121 [.tmp 2] [(1,[15,23,51,59,87,95,114]),(4,[32,38,42]),(6,[34,40,44]),(8,[68,74,78]),(10,[70,76,80]),(12,[104,110]),(14,[106,112])] []
def Afw:Fx:=fx Tryz.f132 2 19 [.tmp 4] [(2,[5,12])] []
def AFy:Fx:=fx Tryz.f133 1 21 [.tmp 2] [(1,[3,7,12,17])] []
def AFz:Fx:=fx Tryz.f134 1 8 [.cell 2 2 false] [] []
def AGa:Fx:=fx Tryz.f135 2 38 [.tmp 4] [(6,[13,19,25,32])] []
def AGb:Fx:=fx Tryz.f136 2 24 [.tmp 4] [(2,[13,18]),(3,[15,20])] []
def AGc:Fx:=fx Tryz.f137 3 42 [.tmp 6] [] []
def AGd:Fx:=fx Tryz.f138 1 21 [.tmp 2] [(1,[3,7,12,17])] []
def AGe:Fx:=fx Tryz.f139 1 7 [.cell 2 2 false] [] []
def AGf:Fx:=fx Tryz.f140 2 29 [.tmp 4] [(2,[5,11,17,24])] []
def AGg:Fx:=fx Tryz.f141 2 24 [.tmp 4] [(2,[13,18]),(3,[15,20])] []
def AGh:Fx:=fx Tryz.f142 2 32 [.tmp 4] [(2,[20]),(3,[23])] []
def Ayc:Fx:=fx Tryz.f143 2 18 [.cell 4 2 false] [(2,[5,10]),(3,[7,13])] []
def AGi:Fx:=fx Tryz.f144 1 59 [.tmp 2,.tmp 3] [(1,[8,10,12,17,19,22,24])] []
def AGj:Fx:=fx Tryz.f145 2 38 [.tmp 4] [(6,[13,19,25,32])] []
def AGk:Fx:=fx Tryz.f146 2 56 [.tmp 4] [(2,[5,6,8,9,14,20,22,28,30,35,37,39,45,47])] []
def AGl:Fx:=fx Tryz.f147 3 24 [.tmp 6] [] []
def AGm:Fx:=fx Tryz.f148 3 35 [.cell 6 2 false,.tmp 7] [(3,[21]),(8,[23,26])] []
def AGn:Fx:=fx Tryz.f149 2 42 [.tmp 4] [(2,[20,24,26,34,36])] []
def AGo:Fx:=fx Tryz.f150 2 32 [.cell 4 2 false] [(2,[22,26])] [(11,.eqv false 2 9 10)]
def Ayd:Fx:=fx Tryz.f151 1 11 [.cell 2 6 false] [] []
def oP:Fx:=fx Tryz.f152 1 35 [.tmp 2] [(1000,[2,4,26,34]),(1002,[33])] []
def oQ:Fx:=fx Tryz.f153 1 12 [.tmp 2] [(1,[4,10])] []
def AGp:Fx:=fx Tryz.f154 1 51 [.tmp 2] [(1,[3,7,12,17,22,24,29,34,39,44,46])] []
def AGq:Fx:=fx Tryz.f155 1 9 [.tmp 2] [] []
def Aye:Fx:=fx Tryz.f169 2 25 [.tmp 4,.tmp 5] [(3,[14,20]),(1000,[4,5]),(1002,[18,24])] []
def Afx:Fx:=fx Tryz.f170 2 31 [.tmp 4] [(1000,[4,5,19]),(1001,[29]),(1002,[28,30])] []
def Ayf:Fx:=fx Tryz.f171 2 10 [.tmp 4] [(1000,[4]),(1002,[9])] []
def Ayg:Fx:=fx Tryz.f172 2 9 [.tmp 4] [(1000,[4]),(1002,[8])] []
def UG:Fx:=fx Tryz.f173 2 58 [.tmp 4] [(5,[35,39,43,55]),(1000,[4,5]),(1001,[56]),(1002,[57])] []
def Afy:Fx:=fx Tryz.f175 1 21 [.tmp 2] [(1000,[2,3,11]),(1001,[19]),(1002,[18,20])] []
def AGr:Fx:=fx Tryz.f176 1 61 [.tmp 2] [(1,[7,12,18,23,25,28,30])] []
def Ayh:Fx:=fx Tryz.f177 2 12 [.tmp 4] [(1000,[4]),(1002,[11])] []
def Afz:Fx:=fx Tryz.f178 1 21 [.tmp 2] [(1000,[2,3,11]),(1001,[19]),(1002,[18,20])] []
def AGs:Fx:=fx Tryz.f192 2 29 [.tmp 4] [(2,[5,11,17,24])] []
def Ayi:Fx:=fx Tryz.f209 1 8 [.cell 2 2 false] [(1,[3,5])] []
def Aga:Fx:=fx Tryz.f211 1 22 [.tmp 2] [(1000,[2]),(1002,[21])] [(21,.apd true (.c (.nil)) 20 1 35184372088832)]
def Mx:Fx:=fx Tryz.f220 1 291 [.tmp 2] [(1,[20,26,78,84,128,135,141,171,177,224,230,255,261]),(5,[31,35,40,45,50,55,58,59,61,62,66,67,69,70]),(8,[89,93,98,103,108,113,118,123,126]),(11,[147,149,153,158,163]),(13,[182,186,191,196,201,206,209,211,215]),(16,[236,238,242,247]),(18,[267,269,273,278,283]),(1000,[2,3,54,122,146,205,235,266,290]),(1002,[76,133,169,222,253,289])] [(218,.eqv true 2 216 217)]
def AGt:Fx:=fx Tryz.f221 1 9 [.tmp 2] [] []
def AGu:Fx:=fx Tryz.f222 1 9 [.tmp 2] [] []
def Agb:Fx:=fx Tryz.f224 1 22 [.tmp 2] [] []
def AGv:Fx:=fx Tryz.f225 3 34 [.tmp 6] [(3,[8,13]),(4,[10,15]),(7,[19,21,24,26])] []
def AGw:Fx:=fx Tryz.f226 2 51 [.tmp 4,.tmp 5] [] []
def oR:Fx:=fx Tryz.f227 2 41 [.tmp 4] [] []
def oS:Fx:=fx Tryz.f228 2 66 [.tmp 4] [(5,[28,32,48,54,57,64]),(1000,[4,5,65])] []
def AGx:Fx:=fx Tryz.f229 1 21 [.tmp 2] [(1,[3,7,12,17])] []
def Ayj:Fx:=fx Tryz.f245 1 29 [.tmp 2,.tmp 3] [(1,[7,8,10,11,13,14,18,19,21,22,24,25]),(1000,[2,3]),(1002,[17,28])] []
def oT:Fx:=fx Tryz.f246 2 42 [.cell 4 2 false] [(2,[7,14,19,30]),(3,[10,16,36])] []
def Agc:Fx:=fx Tryz.f247 2 14 [.cell 4 2 false] [] []
def Agd:Fx:=fx Tryz.f248 1 23 [.tmp 2] [] []
def Age:Fx:=fx Tryz.f289 2 54 [.tmp 4] [(1000,[4,5,46,53]),(1002,[50])] []
def Agf:Fx:=fx Tryz.f290 2 42 [.tmp 4] [(1000,[4,5,34,41]),(1002,[38])] []
end
end Go.Proofs.YtenfgdobfjofkaaGreat
namespace Go.Ai
open Go.RowKit
open Bool renaming and_eq_true->U
open List renaming all_eq_true->AKf,getD_eq_getElem?_getD->Z,getElem?_map->Fy,length->C,map_congr_left->AJc,mem_map->Cb,range->AZ
open Nat renaming le_refl->Ay,le_succ->Aqk,zero_add->AH
open Option renaming getD_some->F6,map_eq_some_iff->S,map_some->Am
open Option.some renaming injEq->Ac
open Prod.mk renaming injEq->Cc
def Fv(s s':H):Prop:=C s=C s'/\∀ t,Ag s t = .dead\/Ag s t=Ag s' t
theorem Fv.refl(s:H):Fv s s:=⟨rfl,fun _ => .inr rfl⟩
theorem Fv.trans{a b c:H}(h:Fv a b)(k:Fv b c):Fv a c:=by
 refine⟨h.1.trans k.1,fun t => ?_⟩;rcases h.2 t with h1 | h1
 ·exact .inl h1
 ·rcases k.2 t with d | d
  ·exact .inl (h1.trans d)
  ·exact .inr (h1.trans d)
theorem Fv.get{s s':H}(h:Fv s s'){t:Nat}{r:Reg}(hr:Ag s t=r)(hd:r ≠ .dead):Ag s' t=r:=by
 rcases h.2 t with h1 | h1
 ·exact absurd (hr.symm.trans h1) hd
 ·rw[<- h1,hr]
theorem Fv.av{s s':H}(h:Fv s s'){o:Opd}{x:AV}(a:o.av s=some x):o.av s'=some x:=by
 cases o with
 | c y=>exact a
 | t n =>
  simp only[Opd.av,Opd.reg] at a |-;split at a
  next y b=>cases a;rw[h.get b (by nofun)]
  ·cases a
theorem Fv.avs{s s':H}(h:Fv s s'):∀ {l:List Opd} {xs:List AV},avs s l=some xs->avs s' l=some xs
 | [],xs,a=>a
 | o::l,xs,a=>by
  simp only[Go.Ai.avs] at a |-;cases h1:o.av s with
  | none=>rw[h1] at a;cases a
  | some x =>
   rw[h1] at a;rw[h.av h1];cases h2:Go.Ai.avs s l with
   | none=>rw[h2] at a;cases a
   | some b =>
    rw[h2] at a;rw[h.avs h2];exact a
theorem Fv.fill{s s':H}(h:Fv s s'):∀ {ps:List (Nat × Nat × Opd)} {cs b:List AV},GW s cs ps=some b->GW s' cs ps=some b
 | [],_,_,a=>a
 | (off,n,o)::ps,cs,b,a=>by
  simp only[GW] at a |-;cases h1:o.av s with
  | none=>rw[h1] at a;cases a
  | some x =>
   rw[h1] at a;rw[h.av h1];dsimp only at a |-;cases h2:H2 x n with
   | none=>rw[h2] at a;cases a
   | some d =>
    rw[h2] at a;dsimp only at a |-;cases c:Cg cs off d with
    | none=>rw[c] at a;cases a
    | some e =>
     rw[c] at a;dsimp only at a |-;exact h.fill a
theorem Fv.reg{s s':H}(h:Fv s s'){o:Opd}{r:Reg}(a:o.reg s=r)(hd:r ≠ .dead):o.reg s'=r:=by
 cases o with
 | c y=>exact a
 | t n=>exact h.get a hd
theorem Fv.bnd{s s':H}(h:Fv s s'){o:Option Opd}{d n:Nat}(a:H_ s d o=some n):H_ s' d o=some n:=by
 cases o with
 | none=>exact a
 | some o =>
  simp only[H_] at a |-;split at a
  next k i hi=>rw[h.av hi];exact a
  ·cases a
theorem Fv.firm{s s':H}(h:Fv s s'){l:List Nat}(hl:(l.all fun t=>DV (Ag s t))=true):(l.all fun t=>DV (Ag s' t))=true:=by
 rw[AKf] at hl |-;intro t a;have h1:=hl t a;rw[h.get (r:=Ag s t) rfl (by intro e;rw[e] at h1;cases h1)];exact h1
theorem Fv.frz{s s':H}(h:Fv s s'):∀ {ls:List (Nat × Nat)} {cs:List AV} {r:List AV × List (Nat × Reg)},Jp s ls cs=some r->Jp s' ls cs=some r
 | [],_,_,a=>a
 | (o,u)::ls,cs,r,a=>by
  simp only[Jp] at a |-;split at a
  ·rename_i hr;rw[h.get hr (by nofun)];dsimp only;split at a
   next hf=>rw[h.frz hf];exact a
   ·cases a
  ·cases a
theorem Fv.us{s s':H}(h:Fv s s'):∀ {us:List Nat} {l:List (Nat × AV)},XU s us=some l->XU s' us=some l
 | [],_,a=>a
 | u::us,l,a=>by
  simp only[XU] at a |-;split at a
  next hr=>rw[h.get hr (by nofun)];simp only[S] at a |-;obtain⟨v,b,e⟩:=a;exact⟨v,h.us b,e⟩
  ·cases a
theorem Fv.lnt{s s':H}(h:Fv s s'):∀ {ls:List (Nat × Nat)} {cs r:List AV},L9 s ls cs=some r->L9 s' ls cs=some r
 | [],_,_,a=>a
 | (o,u)::ls,cs,r,a=>by
  simp only[L9] at a |-;split at a
  next hr=>rw[h.get hr (by nofun)];simp only[S] at a |-;obtain⟨v,b,e⟩:=a;exact⟨v,h.lnt b,e⟩
  ·cases a
theorem Fv.link{s s':H}(h:Fv s s'):∀ {qs:List (Nat × Nat)} {cs r:List AV},J_ s qs cs=some r->J_ s' qs cs=some r
 | [],_,_,a=>a
 | (o,u)::qs,cs,r,a=>by
  simp only[J_] at a |-;split at a
  next hc=>rw[h.get (r:=Ag s u) rfl (by intro e;rw[e] at hc;cases hc.1),Ae hc];simp only[S] at a |-;obtain⟨v,b,e⟩:=a;exact⟨v,h.link b,e⟩
  ·cases a
theorem Fv.avH{s s':H}(h:Fv s s'){us:List Nat}{o:Opd}{x:AV}(a:avH s us o=some x):avH s' us o=some x:=by
 unfold Go.Ai.avH at a |-;split at a
 next hr=>rw[h.reg hr (by nofun)];exact a
 ·rename_i hr;rw[h.reg hr (by nofun)];dsimp only;split at a
  ·rename_i hc;rw[Ae hc];split at a
   next hl=>rw[h.lnt hl];exact a
   ·cases a
  ·cases a
 ·cases a
theorem Fv.avsH{s s':H}(h:Fv s s'){us:List Nat}:∀ {l:List Opd} {xs:List AV},avsH s us l=some xs->avsH s' us l=some xs
 | [],xs,a=>a
 | o::l,xs,a=>by
  simp only[Go.Ai.avsH] at a |-;cases h1:Go.Ai.avH s us o with
  | none=>rw[h1] at a;cases a
  | some x =>
   rw[h1] at a;rw[h.avH h1];cases h2:Go.Ai.avsH s us l with
   | none=>rw[h2] at a;cases a
   | some b =>
    rw[h2] at a;rw[h.avsH h2];exact a
section
variable{s s':H}
theorem Fv.ldh(h:Fv s s'){d off:Nat}{fz:Bool}{us:List Nat}{cs:List AV}{ls:List (Nat × Nat)}{p:Reg × List (Nat × Reg)}(a:IK s d off fz us cs ls=some p):IK s' d off fz us cs ls=some p:=by
 unfold IK at a |-;split at a
 ·rename_i h1;rw[Ae h1];split at a
  ·rename_i h2;rw[Ae h2];split at a
   ·rename_i hf;have:(if fz=true then Jp s' (OS ls off) cs else some (cs,[]))=(if fz=true then Jp s (OS ls off) cs else some (cs,[])):=by
     cases fz with
     | false=>rfl
     | true=>simp only[if_true] at hf |-;rw[hf,h.frz hf]
    rw[this,hf];exact a
   ·cases a
  ·cases a
 ·cases a
theorem Fv.ldz(h:Fv s s'){x n:Nat}{us zs:List Nat}{cs:List AV}{ls:List (Nat × Nat)}{p:Reg × List (Nat × Reg)}(a:OU s x n us zs cs ls=some p):OU s' x n us zs cs ls=some p:=by
 unfold OU at a |-;split at a
 ·rename_i h1;rw[Ae h1];split at a
  next hf=>rw[h.frz hf];exact a
  ·cases a
 ·cases a
theorem Fv.mvf(h:Fv s s'){x y:Nat}{us zs:List Nat}{cs:List AV}{ls:List (Nat × Nat)}{p:Reg × List (Nat × Reg)}(a:OT s x y us zs cs ls=some p):OT s' x y us zs cs ls=some p:=by
 unfold OT at a |-;split at a
 ·rename_i h1;rw[Ae h1];split at a
  next hf=>rw[h.frz hf];exact a
  ·cases a
 ·cases a
theorem Fv.aph0(h:Fv s s'){x m:Nat}{b:List AV}{k B:Nat}{p:Reg × List (Nat × Reg)}(a:aph0 (Ag s x) m b k B=some p):aph0 (Ag s' x) m b k B=some p:=by
 unfold Go.Ai.aph0 at a;split at a
 next hr=>rw[h.get hr (by nofun)];exact a
 ·cases a
end
theorem Aqi{F:Bh}{s s':H}(h:Fv s s'){k:K}{p:Reg × List (Nat × Reg)}(g:A8 F s k=some p):A8 F s' k=some p:=by
 cases k <;> simp only[A8] at g |-
 case mov x =>
  simp only[S] at g |-;obtain⟨v,q,e⟩:=g;exact⟨v,h.av q,e⟩
 case pick c a b =>
  split at g
  next hc=>rw[h.av hc];simp only[S] at g |-;obtain⟨v,q,e⟩:=g;exact⟨v,h.av q,e⟩
  next hc=>rw[h.av hc];simp only[S] at g |-;obtain⟨v,q,e⟩:=g;exact⟨v,h.av q,e⟩
  ·cases g
 case bin op x y =>
  split at g
  next o w=>rw[h.av o,h.av w];exact g
  ·cases g
 case eqb neg x y =>
  split at g
  next o w=>rw[h.av o,h.av w];exact g
  ·cases g
 case eqv neg n x y =>
  split at g
  next o w=>rw[h.av o,h.av w];exact g
  ·cases g
 case un op x =>
  split at g
  next o=>rw[h.av o];exact g
  ·cases g
 case cv k x =>
  split at g
  next o=>rw[h.av o];exact g
  ·cases g
 case new z ks=>exact g
 case box x ks =>
  split at g
  next o=>rw[h.av o];exact g
  ·rename_i y W o;rw[h.av o];split at g
   next hd=>cases g;cases y <;> first | (cases hd;done) | simp only[EK,if_true]
   ·cases g
  ·cases g
 case bld z ps =>
  simp only[S] at g |-;obtain⟨v,q,e⟩:=g;exact⟨v,h.fill q,e⟩
 case bls n z ps =>
  simp only[S] at g |-;obtain⟨v,q,e⟩:=g;exact⟨v,h.fill q,e⟩
 case adr x d off =>
  cases hr:Ag s x <;> rw[hr] at g <;> first | (cases g;done) | (rw[h.get hr (by nofun)];exact g)
 case ld x d n one =>
  cases hr:Ag s x with
  | box cs=>rw[hr] at g;rw[h.get hr (by nofun)];exact g
  | mem cs=>rw[hr] at g;rw[h.get hr (by nofun)];exact g
  | ptr C off =>
   rw[hr] at g;rw[h.get hr (by nofun)];dsimp only at g |-;split at g
   next hd=>rw[Ae hd];cases j:Ag s d <;> rw[j] at g <;> first | (cases g;done) | (rw[h.get j (by nofun)];exact g)
   ·cases g
  | val x=>rw[hr] at g;cases g
  | own _ _ _=>rw[hr] at g;cases g
  | agn _ _ _ _=>rw[hr] at g;cases g
  | bxl _=>rw[hr] at g;cases g
  | dup d=>rw[hr] at g;cases g
  | sub _ _ _ _=>rw[hr] at g;cases g
  | bxh _ _=>rw[hr] at g;cases g
  | agh _ _=>rw[hr] at g;cases g
  | mp _=>rw[hr] at g;cases g
  | agf _ _=>rw[hr] at g;cases g
  | bxf _ _=>rw[hr] at g;cases g
  | bxg _=>rw[hr] at g;cases g
  | dead=>rw[hr] at g;cases g
 case st x d n v =>
  split at g
  ·cases g
  ·rename_i a P;rw[h.av P];dsimp only at g |-;split at g
   ·cases g
   ·rename_i N X;cases hr:Ag s x with
    | box cs=>rw[hr] at g;rw[h.get hr (by nofun)];exact g
    | ptr C off =>
     rw[hr] at g;rw[h.get hr (by nofun)];dsimp only at g |-;split at g
     next hd=>rw[Ae hd];cases j:Ag s d <;> rw[j] at g <;> first | (cases g;done) | (rw[h.get j (by nofun)];exact g)
     ·cases g
    | mem cs=>rw[hr] at g;cases g
    | val x=>rw[hr] at g;cases g
    | own _ _ _=>rw[hr] at g;cases g
    | agn _ _ _ _=>rw[hr] at g;cases g
    | bxl _=>rw[hr] at g;cases g
    | dup d=>rw[hr] at g;cases g
    | sub _ _ _ _=>rw[hr] at g;cases g
    | bxh _ _=>rw[hr] at g;cases g
    | agh _ _=>rw[hr] at g;cases g
    | mp _=>rw[hr] at g;cases g
    | agf _ _=>rw[hr] at g;cases g
    | bxf _ _=>rw[hr] at g;cases g
    | bxg _=>rw[hr] at g;cases g
    | dead=>rw[hr] at g;cases g
 case ixa x i k =>
  split at g
  ·rename_i Q R hi;rw[h.av hi];dsimp only at g |-;split at g
   next n cs hr=>rw[h.get hr (by nofun)];exact g
   ·cases g
  ·cases g
 case six x i =>
  split at g
  next o hi=>rw[h.av o,h.av hi];exact g
  ·cases g
 case ext x i =>
  split at g
  next o=>rw[h.av o];exact g
  ·cases g
 case len x =>
  split at g
  next o=>rw[h.av o];exact g
  next o=>rw[h.av o];exact g
  ·cases g
 case mx xs =>
  split at g
  next o=>rw[h.avs o];exact g
  ·cases g
 case mn xs =>
  split at g
  next o=>rw[h.avs o];exact g
  ·cases g
 case call f xs =>
  split at g
  next o=>rw[h.avs o];exact g
  ·cases g
 case clo f xs =>
  split at g
  next o=>rw[h.avs o];exact g
  ·cases g
 case cpy x =>
  cases hr:Ag s x <;> rw[hr] at g <;> first | (cases g;done) | (rw[h.get hr (by nofun)];exact g)
 case tra x =>
  cases hr:Ag s x <;> rw[hr] at g <;> first | (cases g;done) | (rw[h.get hr (by nofun)];exact g)
 case frz x =>
  cases hr:Ag s x <;> rw[hr] at g <;> first | (cases g;done) | (rw[h.get hr (by nofun)];exact g)
 case mks z n =>
  split at g
  next o=>rw[h.av o];exact g
  ·cases g
 case blo k n z ps =>
  simp only[S] at g |-;obtain⟨v,q,e⟩:=g;exact⟨v,h.fill q,e⟩
 case apd ow x y k B =>
  split at g
  next w=>rw[h.av w];dsimp only;cases hr:x.reg s <;> rw[hr] at g <;> first | (cases g;done) | (rw[h.reg hr (by nofun)];exact g)
  ·rename_i m N w;rw[h.av w];dsimp only;split at g
   next hl=>rw[Ae hl];cases hr:x.reg s <;> rw[hr] at g <;> first | (cases g;done) | (rw[h.reg hr (by nofun)];exact g)
   ·cases g
  ·cases g
 case sli x lo hi mx k =>
  split at g
  ·rename_i o;rw[h.av o];dsimp only;split at g
   next E G I=>rw[h.bnd E,h.bnd G,h.bnd I];exact g
   ·cases g
  ·rename_i n cs o;rw[h.av o];dsimp only;split at g
   next m Y l E G I=>rw[h.bnd E,h.bnd G,h.bnd I];exact g
   ·cases g
  ·cases g
 case ixo x d i k =>
  split at g
  ·rename_i Q R hi;rw[h.av hi];dsimp only at g |-;split at g
   next n cs hr=>rw[h.get hr (by nofun)];exact g
   ·rename_i C hr;rw[h.get hr (by nofun)];dsimp only;split at g
    ·rename_i hd;rw[Ae hd];split at g
     next O n cs j=>rw[h.get j (by nofun)];exact g
     ·cases g
    ·cases g
   next O n cs hr=>rw[h.get hr (by nofun)];exact g
   ·cases g
  ·cases g
 case lno x d =>
  split at g
  next hr=>rw[h.get hr (by nofun)];exact g
  next n cs hr=>rw[h.get hr (by nofun)];exact g
  ·rename_i C hr;rw[h.get hr (by nofun)];dsimp only;split at g
   ·rename_i hd;rw[Ae hd];split at g
    next O n cs j=>rw[h.get j (by nofun)];exact g
    ·cases g
   ·cases g
  next hr=>rw[h.get hr (by nofun)];exact g
  ·cases g
 case nlo k=>exact g
 case bdo y x ls =>
  split at g
  ·rename_i b hb;rw[h.av hb];dsimp only at g |-;split at g
   ·rename_i k n cs hr;rw[h.get hr (by nofun)];dsimp only;split at g
    next hl=>rw[Ae (h.firm hl)];exact g
    ·cases g
   ·cases g
  ·cases g
 case stl x v =>
  split at g
  ·rename_i cs hr;rw[h.get hr (by nofun)];dsimp only;split at g
   next b k n Z j=>rw[h.get j (by nofun)];exact g
   ·cases g
  ·cases g
 case cpo x=>exact g
 case npt=>exact g
 case mvp x d =>
  split at g
  ·rename_i J;rw[Ae J];split at g
   next q=>rw[h.get (r:=Ag s x) rfl (by intro e;rw[e] at q;cases q),Ae q];exact g
   ·cases g
  next J=>rw[Al J];cases hr:Ag s x <;> rw[hr] at g <;> first | (cases g;done) | (rw[h.get hr (by nofun)];exact g)
 case mvf x y us zs =>
  split at g
  ·rename_i q;rw[h.get (r:=Ag s x) rfl (by intro e;rw[e] at q;cases q),Ae q];split at g
   next hr=>rw[h.get hr (by nofun)];exact g
   next hr=>rw[h.get hr (by nofun)];exact h.mvf g
   ·cases g
  ·cases g
 case ldh x d fz us =>
  split at g
  ·rename_i C off hr;rw[h.get hr (by nofun)];dsimp only;split at g
   ·rename_i hd;rw[Ae hd];split at g
    next j=>rw[h.get j (by nofun)];exact g
    next j=>rw[h.get j (by nofun)];exact h.ldh g
    next j=>rw[h.get j (by nofun)];exact g
    ·cases g
   ·cases g
  ·cases g
 case sth x d v =>
  split at g
  ·rename_i C off hr;rw[h.get hr (by nofun)];dsimp only;split at g
   ·rename_i hd;rw[Ae hd];split at g
    ·rename_i T;rw[h.get T (by nofun)];dsimp only;split at g
     next j=>rw[h.get j (by nofun)];exact g
     next j=>rw[h.get j (by nofun)];exact g
     ·cases g
    ·cases g
   ·cases g
  ·cases g
 case sts x d v =>
  split at g
  ·rename_i C off c hr hc;rw[h.get hr (by nofun),h.av hc];dsimp only;split at g
   ·rename_i hd;rw[Ae hd];split at g
    next j=>rw[h.get j (by nofun)];exact g
    next j=>rw[h.get j (by nofun)];exact g
    ·cases g
   ·cases g
  ·cases g
 case aph x y k B d us =>
  split at g
  ·rename_i m N w;rw[h.av w];dsimp only;split at g
   ·rename_i hl;rw[Ae hl];split at g
    next j=>rw[h.get j (by nofun)];exact h.aph0 g
    next j=>rw[h.get j (by nofun)];exact h.aph0 g
    ·rename_i cs off u j;rw[h.get j (by nofun)];dsimp only;split at g
     ·rename_i u' hr;rw[h.get hr (by nofun)];dsimp only;split at g
      ·rename_i hc;rw[Ae hc];unfold wA at g;split at g
       next U=>rw[h.get U (by nofun)];exact g
       ·cases g
      ·cases g
     ·cases g
    ·cases g
   ·cases g
  ·cases g
 case lda x n us =>
  split at g
  next hr=>rw[h.get hr (by nofun)];exact g
  next hr=>rw[h.get hr (by nofun)];exact g
  ·cases g
 case ldz x n us zs =>
  split at g
  next hr=>rw[h.get hr (by nofun)];exact g
  next hr=>rw[h.get hr (by nofun)];exact h.ldz g
  next hr=>rw[h.get hr (by nofun)];exact g
  ·cases g
 case blh z qs =>
  simp only[S] at g |-;obtain⟨v,q,e⟩:=g;exact⟨v,h.link q,e⟩
 case sta x v n us =>
  split at g
  next hr j=>rw[h.get hr (by nofun),h.get j (by nofun)];exact g
  next hr j=>rw[h.get hr (by nofun),h.get j (by nofun)];exact g
  ·cases g
 case mkw z n l =>
  split at g
  ·rename_i hn;rw[h.av hn];dsimp only;split at g
   next hl=>rw[Ae (h.firm hl)];exact g
   ·cases g
  ·cases g
 case clw f xs d l =>
  split at g
  ·rename_i A;rw[h.avs A];dsimp only;split at g
   ·rename_i hl;rw[Ae (AKf.2 fun t L => ?_)]
    ·exact g
    ·have h1:=AKf.1 hl t L;rw[h.get (r:=Ag s t) rfl (by intro e;rw[e] at h1;cases h1)];exact h1
   ·cases g
  ·cases g
 case bwh f xs us =>
  split at g
  next A=>rw[h.avsH A];exact g
  ·cases g
 case cab f x d xs =>
  split at g
  ·rename_i C hr;rw[h.get hr (by nofun)];split at g
   ·rename_i hd;subst hd;simp only[if_true];split at g
    next j A=>rw[h.get j (by nofun),h.avs A];exact g
    next j A=>rw[h.get j (by nofun),h.avs A];exact g
    ·cases g
   ·cases g
  ·cases g
 case sbn op x y =>
  split at g
  next o w=>rw[h.av o,h.av w];exact g
  ·cases g
 case sln x =>
  split at g
  next o=>rw[h.av o];exact g
  ·cases g
 case apn y k B l =>
  split at g
  ·rename_i w;rw[h.av w];dsimp only;split at g
   next hc=>exact (Ae ⟨h.firm hc.1,hc.2⟩).trans g
   ·cases g
  ·cases g
 case mkm=>exact g
 case mlk sk x d k =>
  split at g
  ·rename_i hr q;rw[h.get hr (by nofun),h.av q];dsimp only;split at g
   ·rename_i hd;rw[Ae hd];split at g
    next j=>rw[h.get j (by nofun)];exact g
    ·cases g
   ·cases g
  ·cases g
 case mup sk x d k =>
  split at g
  ·rename_i hr q;rw[h.get hr (by nofun),h.av q];dsimp only;split at g
   ·rename_i hd;rw[Ae hd];split at g
    next j=>rw[h.get j (by nofun)];exact g
    ·cases g
   ·cases g
  ·cases g
 case blm u k =>
  split at g
  next hr=>rw[h.get hr (by nofun)];exact g
  ·cases g
 case bom x us =>
  split at g
  next hr=>rw[h.get hr (by nofun)];exact g
  ·cases g
 case lok f x d u xs =>
  split at g
  ·rename_i hr q;rw[h.get hr (by nofun),h.avs q];dsimp only;split at g
   ·rename_i hd;rw[Ae hd];split at g
    next j M=>rw[h.get j (by nofun),h.get M (by nofun)];exact g
    ·cases g
   ·cases g
  ·cases g
 case cpf f xs us =>
  split at g
  next A V=>rw[h.avs A,h.us V];exact g
  ·cases g
 case ldf x d y c hi n us kp =>
  split at g
  case h_2=>cases g
  rename_i C off hr;rw[h.get hr (by nofun)];split at g
  case isFalse=>cases g
  rename_i hd;subst hd;simp only[if_true];split at g
  ·rename_i cs ul j;rw[h.get j (by nofun)];split at g
   case h_2=>cases g
   rename_i M q;rw[h.get M (by nofun)];dsimp only;rw[q];dsimp only;split at g
   ·rename_i hc;rw[Ae hc];split at g
    case h_2=>cases g
    split at g
    case isFalse=>cases g
    rename_i D;refine (Ae ⟨D.1.trans h.1,D.2.1,D.2.2.1,D.2.2.2.1,AKf.2 fun t L => ?_,D.2.2.2.2.2⟩).trans g;have h1:=AKf.1 D.2.2.2.2.1 t L;rw[h.get (r:=Ag s t) rfl (by intro e;rw[e] at h1;cases h1)];exact h1
   next hc=>rw[Al hc,g]
  next j=>rw[h.get j (by nofun)];exact h.ldh g
  ·cases g
 case bad=>cases g
section
variable{s s':H}
theorem Fv.set(h:Fv s s')(d:Nat)(r:Reg):Fv (s.set d r) (s'.set d r):=by
 refine⟨by simp[h.1],fun t => ?_⟩;rw[Cf,Cf,h.1];split
 ·exact .inr rfl
 ·exact h.2 t
theorem Fv.puts(h:Fv s s'):∀ (l:List (Nat × Reg)),Fv (A5 s l) (A5 s' l):=by
 intro l;induction l generalizing s s' with
 | nil=>exact h
 | cons p l c=>obtain⟨t,r⟩:=p;exact c (h.set t r)
theorem Fv.put(h:Fv s s')(d:Option Nat)(r:Reg):Fv (BD s d r) (BD s' d r):=by
 cases d with
 | none=>exact h
 | some d=>exact h.set d r
theorem Wq(h:Fv s s'){g:Option (Nat × Bool)}{b:Bool}(a:EF s g=some b):EF s' g=some b:=by
 cases g with
 | none=>exact a
 | some p =>
  obtain⟨t,x⟩:=p;simp only[EF] at a |-;split at a
  next hr=>rw[h.get hr (by nofun)];exact a
  next hr=>rw[h.get hr (by nofun)];exact a
  ·cases a
end
theorem Agg{F:Bh}{o:IOp}{s s' t:H}(h:Fv s s')(a:Ee F o s=some t):∃ t',Ee F o s'=some t'/\Fv t t':=by
 have h:Fv (kill s o.ks) (kill s' o.ks):=h.puts _;simp only[Ee,Hh] at a |-;generalize kill s o.ks=s at *
 generalize kill s' o.ks=s' at *
 split at a
 ·cases a
 next b=>cases a;rw[Wq h b];exact⟨_,rfl,h.put _ _⟩
 ·rename_i b;rw[Wq h b];split at a
  ·cases a
  next r l c=>cases a;rw[Aqi h c];exact⟨_,rfl,(h.puts l).put _ _⟩
theorem Wr{F:Bh}:∀ {l:List IOp} {s s' t:H},Fv s s'->CY F l s=some t->∃ t',CY F l s'=some t'/\Fv t t'
 | [],s,s',t,h,a=>by
  simp only[CY,Ac] at a;subst a;exact⟨s',rfl,h⟩
 | o::l,s,s',t,h,a=>by
  simp only[CY] at a |-;cases h1:Ee F o s with
  | none=>rw[h1] at a;cases a
  | some c =>
   rw[h1] at a;obtain⟨d,h2,b⟩:=Agg h h1;rw[h2];exact Wr b a
theorem Aqj{F:Bh}:∀ (n:Nat) {c:ICode} {s s' t:H} {ex:Ex},Fv s s'->BJ F n c s=some (ex,t)->∃ t',BJ F n c s'=some (ex,t')/\Fv t t':=by
 intro n;induction n with
 | zero=>intro c s s' t ex _ f;simp[BJ] at f
 | succ n k =>
  intro c s s' t ex h f;cases c with
  | skip=>simp only[BJ,Ac,Cc] at f |-;obtain⟨rfl,rfl⟩:=f;exact⟨s',⟨rfl,rfl⟩,h⟩
  | exit id=>simp only[BJ,Ac,Cc] at f |-;obtain⟨rfl,rfl⟩:=f;exact⟨s',⟨rfl,rfl⟩,h⟩
  | ret=>simp only[BJ,Ac,Cc] at f |-;obtain⟨rfl,rfl⟩:=f;exact⟨s',⟨rfl,rfl⟩,h⟩
  | region d ops =>
   simp only[BJ,S] at f |-;obtain⟨o,h1,e⟩:=f;cases e;obtain⟨t',h2,g⟩:=Wr h h1;exact⟨t',⟨t',h2,rfl⟩,g⟩
  | seq a b =>
   simp only[BJ] at f |-;cases h1:BJ F n a s with
   | none=>rw[h1] at f;cases f
   | some p =>
    obtain⟨l,o⟩:=p;rw[h1] at f;obtain⟨j,h2,g⟩:=k h h1;rw[h2];cases l with
    | norm=>exact k g f
    | exit i=>cases f;exact⟨j,rfl,g⟩
    | ret=>cases f;exact⟨j,rfl,g⟩
  | cond c a b =>
   simp only[BJ] at f |-;have q:∀ v,KO s c=some v->KO s' c=some v:=by
    intro v m;unfold KO at m |-;split at m
    next b' hb=>rw[h.av hb];exact m
    ·cases m
   split at f
   next hc=>rw[q _ hc];exact k h f
   next hc=>rw[q _ hc];exact k h f
   ·cases f
  | block id c =>
   simp only[BJ] at f |-;cases h1:BJ F n c s with
   | none=>rw[h1] at f;cases f
   | some p =>
    obtain⟨l,o⟩:=p;rw[h1] at f;obtain⟨j,h2,g⟩:=k h h1;rw[h2];cases l with
    | norm=>cases f;exact⟨j,rfl,g⟩
    | ret=>cases f;exact⟨j,rfl,g⟩
    | exit i =>
     dsimp only at f |-;split at f
     next hi=>cases f;exact⟨j,by rw[Ae hi],g⟩
     next hi=>cases f;exact⟨j,by rw[Al hi],g⟩
  | scope c=>simp only[BJ] at f |-;exact k h f
  | loop c =>
   simp only[BJ] at f |-;cases h1:BJ F n c s with
   | none=>rw[h1] at f;cases f
   | some p =>
    obtain⟨l,o⟩:=p;rw[h1] at f;obtain⟨j,h2,g⟩:=k h h1;rw[h2];cases l with
    | norm=>exact k g f
    | exit i=>cases f;exact⟨j,rfl,g⟩
    | ret=>cases f;exact⟨j,rfl,g⟩
def BR(prog:Nat->Option IFunc)(c:ICode)(s:H)(ex:Ex)(t:H):Prop:=∃ t',Dv prog c s ex t'/\Fv t t'
section
variable {prog:Nat->Option IFunc}
theorem Dv.w{c:ICode}{s t:H}{ex:Ex}(h:Dv prog c s ex t):BR prog c s ex t:=⟨t,h,Fv.refl t⟩
theorem Dv.mono{c:ICode}{s s' t:H}{ex:Ex}(h:Dv prog c s ex t)(hs:Fv s s'):BR prog c s' ex t:=by
 obtain⟨n,h⟩:=h;obtain⟨t',h1,h2⟩:=Aqj n hs h;exact⟨t',⟨n,h1⟩,h2⟩
theorem BR.weak{c:ICode}{s s' t t':H}{ex:Ex}(h:BR prog c s ex t)(hs:Fv s s')(a:Fv t' t):BR prog c s' ex t':=by
 obtain⟨f,h1,h2⟩:=h;obtain⟨b,d,e⟩:=h1.mono hs;exact⟨b,d,(a.trans h2).trans e⟩
theorem N{a b:ICode}{s c t:H}{ex:Ex}(h1:BR prog a s .norm c)(h2:BR prog b c ex t):BR prog (.seq a b) s ex t:=by
 obtain⟨u,d,e⟩:=h1;obtain⟨v,f,g⟩:=h2.weak e (Fv.refl t);exact⟨v,Dv.seq d f,g⟩
theorem m{a b:ICode}{s t:H}{ex:Ex}(h1:BR prog a s ex t)(c:ex≠.norm:=by nofun):BR prog (.seq a b) s ex t:=by
 obtain⟨u,d,e⟩:=h1;exact⟨u,EX d c,e⟩
theorem Dv.inv{prog:Nat->Option IFunc}{a b:ICode}{s t:H}{ex:Ex}(h:Dv prog (.seq a b) s ex t):(Dv prog a s ex t/\ex ≠ .norm)\/∃ v,Dv prog a s .norm v/\Dv prog b v ex t:=by
 obtain⟨n,h⟩:=h;cases n with
 | zero=>simp[BJ] at h
 | succ n =>
  simp only[BJ] at h;have d:∀ {c:ICode} {s:H} {q:Ex × H},BJ (Jm prog (n+1)) n c s=some q->BJ (Jm prog (n+1)) (n+1) c s=some q:=fun f=>FH (DW prog (Ay _)) (Aqk n) f;split at h
  next v g=>exact .inr ⟨v,⟨n+1,d g⟩,⟨n+1,d h⟩⟩
  next i=>refine .inl ⟨⟨n+1,d h⟩,?_⟩;intro e;subst e;exact i _ h
theorem BU{a b r:ICode}{s t:H}{ex:Ex}(h:BR prog (.seq (.seq a b) r) s ex t):BR prog (.seq a (.seq b r)) s ex t:=by
 obtain⟨u,f,g⟩:=h;refine⟨u,?_,g⟩;rcases f.inv with ⟨h1,d⟩ | ⟨v,h1,h2⟩
 ·rcases h1.inv with ⟨c,_⟩ | ⟨x,c,e⟩
  ·exact EX c d
  ·exact Dv.seq c (EX e d)
 ·rcases h1.inv with ⟨_,d⟩ | ⟨x,c,e⟩
  ·exact absurd rfl d
  ·exact Dv.seq c (Dv.seq e h2)
theorem BS{p i l r:ICode}{s t:H}{ex:Ex}(h:BR prog (.seq (.seq p i) (.seq l r)) s ex t):BR prog (.seq p (.seq (.seq i l) r)) s ex t:=by
 obtain⟨u,e,f⟩:=h;refine⟨u,?_,f⟩;rcases e.inv with ⟨h1,a⟩ | ⟨v,h1,h2⟩
 ·rcases h1.inv with ⟨b,_⟩ | ⟨x,b,c⟩
  ·exact EX b a
  ·exact Dv.seq b (EX (EX c a) a)
 ·rcases h1.inv with ⟨_,a⟩ | ⟨x,b,c⟩
  ·exact absurd rfl a
  ·rcases h2.inv with ⟨d,a⟩ | ⟨y,d,g⟩
   ·exact Dv.seq b (EX (Dv.seq c d) a)
   ·exact Dv.seq b (Dv.seq (Dv.seq c d) g)
theorem BR.scope{c:ICode}{s t:H}{ex:Ex}(h:BR prog c s ex t):BR prog (.scope c) s ex t:=by
 obtain⟨u,a,b⟩:=h;exact⟨u,Dv.scope a,b⟩
section
variable{id:Nat}{c:ICode}{s t:H}
theorem A0(h:BR prog c s (.exit id) t):BR prog (.block id c) s .norm t:=by
 obtain⟨u,a,b⟩:=h;exact⟨u,Dv.block a,b⟩
theorem AG(h:BR prog c s .ret t):BR prog (.block id c) s .ret t:=by
 obtain⟨u,a,b⟩:=h;exact⟨u,MU a,b⟩
theorem x(h:BR prog c s .norm t):BR prog (.block id c) s .norm t:=by
 obtain⟨u,a,b⟩:=h;exact⟨u,LF a,b⟩
end
theorem AB{c:ICode}{s a t:H}{ex:Ex}(h1:BR prog c s .norm a)(h2:BR prog (.loop c) a ex t):BR prog (.loop c) s ex t:=by
 obtain⟨u,b,d⟩:=h1;obtain⟨v,e,f⟩:=h2.weak d (Fv.refl t);exact⟨v,Dv.loop b e,f⟩
theorem f{c:ICode}{s t:H}{ex:Ex}(h1:BR prog c s ex t)(a:ex≠.norm:=by nofun):BR prog (.loop c) s ex t:=by
 obtain⟨u,b,d⟩:=h1;exact⟨u,O6 b a,d⟩
theorem Agh{s s':H}(h:Fv s s'){r:IRes}{x:AV}(hr:DA s r=some x):DA s' r=some x:=by
 cases r with
 | tmp t =>
  simp only[DA] at hr |-;split at hr
  next y a=>rw[h.get a (by nofun)];exact hr
  next k n cs a=>rw[h.get a (by nofun)];exact hr
  ·cases hr
 | cell t n one =>
  simp only[DA] at hr |-;split at hr
  next y a=>rw[h.get a (by nofun)];exact hr
  ·cases hr
 | giv=>cases hr
theorem Pp{s s':H}(h:Fv s s'):∀ {l:List IRes} {xs:List AV},CF s l=some xs->CF s' l=some xs
 | [],xs,a=>a
 | r::l,xs,a=>by
  simp only[CF] at a |-;cases h1:DA s r with
  | none=>rw[h1] at a;cases a
  | some x =>
   rw[h1] at a;rw[Agh h h1];cases h2:CF s l with
   | none=>rw[h2] at a;cases a
   | some b =>
    rw[h2] at a;rw[Pp h h2];exact a
section
variable{s s':H}
theorem Fv.frh(h:Fv s s'){ls:List (Nat × Nat)}{cs:List AV}{x:AV}(a:XW s ls cs=some x):XW s' ls cs=some x:=by
 unfold XW at a |-;split at a
 case isFalse=>cases a
 rename_i hc;have e:(AZ (C cs)).map (RG s' ls cs)=(AZ (C cs)).map (RG s ls cs):=by
  refine AJc fun i hi => ?_;simp only[U] at hc;have g:=AKf.1 hc.1 (RG s ls cs i) (Cb.2 ⟨i,hi,rfl⟩);unfold RG at g |-;cases w:Ed ls i with
  | none=>rfl
  | some u =>
   rw[w] at g;dsimp only at g |-;split at g
   next hr=>rw[h.get hr (by nofun)]
   ·cases g
 rw[e,Ae hc];exact a
theorem oU(h:Fv s s'){l:List IRes}{x:AV}(a:Ii s l=some x):Ii s' l=some x:=by
 unfold Ii at a |-;split at a
 ·rename_i t;split at a
  next cs hr=>rw[h.get hr (by nofun)];exact a
  next k n cs hr=>rw[h.get hr (by nofun)];exact a
  next b k n cs hr=>rw[h.get hr (by nofun)];exact a
  ·cases a
 ·rename_i t u;split at a
  ·rename_i k n cs hr;rw[h.get hr (by nofun)];dsimp only;split at a
   next b f=>rw[h.get f (by nofun)];exact a
   ·cases a
  ·cases a
 ·rename_i t n one;split at a
  ·rename_i d hr;rw[h.get hr (by nofun)];dsimp only;split at a
   next b k m cs z=>rw[h.get z (by nofun)];exact a
   ·cases a
  ·rename_i cs ls hr;rw[h.get hr (by nofun)];dsimp only;split at a
   next hn=>rw[Ae hn];exact h.frh a
   ·cases a
  ·cases a
 ·cases a
theorem Tz(h:Fv s s'){l:List IRes}{xs:List AV}(hf:Ii s l=none)(a:CF s l=some xs):Ii s' l=none:=by
 cases l with
 | nil=>rfl
 | cons r l =>
  cases r with
  | giv=>rfl
  | cell t n one =>
   cases l with
   | cons _ _=>rfl
   | nil =>
    simp only[Ii] at hf |-;cases hr:Ag s t with
    | box cs=>rw[h.get hr (by nofun)]
    | val x=>simp only[CF,DA,hr] at a;cases a
    | own k n cs=>simp only[CF,DA,hr] at a;cases a
    | agn b k n cs=>simp only[CF,DA,hr] at a;cases a
    | bxl _=>simp only[CF,DA,hr] at a;cases a
    | ptr _ _=>simp only[CF,DA,hr] at a;cases a
    | mem _=>simp only[CF,DA,hr] at a;cases a
    | dup _=>simp only[CF,DA,hr] at a;cases a
    | sub _ _ _ _=>simp only[CF,DA,hr] at a;cases a
    | bxh _ _=>simp only[CF,DA,hr] at a;cases a
    | agh _ _=>simp only[CF,DA,hr] at a;cases a
    | mp _=>simp only[CF,DA,hr] at a;cases a
    | agf _ _=>simp only[CF,DA,hr] at a;cases a
    | bxf _ _=>simp only[CF,DA,hr] at a;cases a
    | bxg _=>simp only[CF,DA,hr] at a;cases a
    | dead=>simp only[CF,DA,hr] at a;cases a
  | tmp t =>
   cases l with
   | cons r2 A =>
    cases r2 with
    | cell _ _ _=>rfl
    | giv=>rfl
    | tmp u =>
     cases A with
     | cons _ _=>rfl
     | nil =>
      have f:∃ r,DA s (.tmp u)=some r:=by
       cases h1:DA s (.tmp t) with
       | none=>simp only[CF,h1] at a;cases a
       | some v =>
        cases h2:DA s (.tmp u) with
        | none=>simp only[CF,h1,h2] at a;cases a
        | some B=>exact⟨B,rfl⟩
      have q:∃ r,DA s (.tmp t)=some r:=by
       cases h1:DA s (.tmp t) with
       | none=>simp only[CF,h1] at a;cases a
       | some v=>exact⟨v,rfl⟩
      obtain⟨_,f⟩:=f;obtain⟨_,q⟩:=q;simp only[Ii] at hf |-;have D:Ag s' t=Ag s t:=by
       have j:Ag s t ≠ .dead:=by
        intro e;simp only[DA,e] at q;cases q
       exact h.get rfl j
      have E:Ag s' u=Ag s u:=by
       have j:Ag s u ≠ .dead:=by
        intro e;simp only[DA,e] at f;cases f
       exact h.get rfl j
      rw[D,E];exact hf
   | nil =>
    simp only[Ii] at hf |-;cases hr:Ag s t with
    | val x=>rw[h.get hr (by nofun)]
    | own k n cs=>rw[hr] at hf;cases hf
    | agn b k n cs=>rw[hr] at hf;cases hf
    | bxl _=>simp only[CF,DA,hr] at a;cases a
    | box cs=>rw[hr] at hf;cases hf
    | ptr _ _=>simp only[CF,DA,hr] at a;cases a
    | mem _=>simp only[CF,DA,hr] at a;cases a
    | dup _=>simp only[CF,DA,hr] at a;cases a
    | sub _ _ _ _=>simp only[CF,DA,hr] at a;cases a
    | bxh _ _=>simp only[CF,DA,hr] at a;cases a
    | agh _ _=>simp only[CF,DA,hr] at a;cases a
    | mp _=>simp only[CF,DA,hr] at a;cases a
    | agf _ _=>simp only[CF,DA,hr] at a;cases a
    | bxf _ _=>simp only[CF,DA,hr] at a;cases a
    | bxg _=>simp only[CF,DA,hr] at a;cases a
    | dead=>simp only[CF,DA,hr] at a;cases a
theorem iW(c:Fv s s'){l:List IRes}{r:AV}(hr:Ib s l=some r):Ib s' l=some r:=by
 unfold Ib at hr |-;cases o:Ii s l with
 | some y=>rw[o] at hr;rw[oU c o];exact hr
 | none =>
  rw[o] at hr;dsimp only at hr;split at hr
  next y p=>cases hr;rw[Tz c o p,Pp c p]
  ·rename_i F j p;cases hr;rw[Tz c o p,Pp c p];cases F with
   | nil=>rfl
   | cons y l =>
    cases l with
    | nil=>exact (j y rfl).elim
    | cons _ _=>rfl
  ·cases hr
theorem Agi(c:Fv s s'){r:IRes}{x:AV}(a:kQ s r=some x):kQ s' r=some x:=by
 unfold kQ at a |-;split at a
 ·split at a
  next hr=>rw[c.get hr (by nofun)];exact a
  ·cases a
 ·split at a
  next hr=>rw[c.get hr (by nofun)];exact a
  ·cases a
 ·cases a
theorem iX(c:Fv s s'){l:List IRes}{r:AV}(hr:FU s l=some r):FU s' l=some r:=by
 unfold FU at hr |-;split at hr
 ·split at hr
  next h0 h1=>rw[c.get h0 (by nofun),Agi c h1];exact hr
  ·cases hr
 ·cases hb:Ib s l with
  | none=>rw[hb] at hr;cases hr
  | some y=>rw[hb] at hr;rw[iW c hb];exact hr
end
theorem B6{f:Nat}{fn:IFunc}{args:List AV}{s:H}{ex:Ex}{r:AV}(hf:prog f=some fn)(hl:C args=fn.params)(h:BR prog fn.body (CL fn args) ex s)
  (a:∀ i,ex ≠ .exit i) (hr:FU s fn.res=some r):FW prog f args r:=by
 obtain⟨u,b,c⟩:=h;refine Ms hf hl b a ?_;exact iX c hr
def Pq(ks:List Nat)(s:H):H:=s.zipIdx.map fun p=>if ks.contains p.2 then p.1 else .dead
theorem MV(ks:List Nat)(s:H):Fv (Pq ks s) s:=by
 refine⟨by simp[Pq],fun t => ?_⟩;simp only[Ag,Pq,Z,Fy,List.getElem?_zipIdx];cases h:s[t]? with
 | none=>simp
 | some r =>
  simp only[Am,AH,F6];split
  ·exact .inr rfl
  ·exact .inl rfl
def Alr(prog:Nat->Option IFunc)(T:Bx)(n:Nat)(c:ICode)(s:H)(a:List Sc)(ks:List Nat):Option (Ex × H × List Prop) :=
 match HJ prog T n c s a [] with
 | some ((ex,t),[],ps)=>some (ex,Pq ks t,ps)
 | _=>none
theorem Da{T:Bx}(b:Be prog T)(n:Nat){c:ICode}{s t:H}{ex:Ex}(a:List Sc)(ks:List Nat){ps:List Prop}
  (h:Alr prog T n c s a ks=some (ex,t,ps)) (d:DQ ps):BR prog c s ex t:=by
 unfold Alr at h;split at h
 next ex' t' e h1=>cases h;exact⟨_,Mt b n a h1 d,MV ks _⟩
 ·cases h
theorem Cs{T:Bx}(b:Be prog T)(n:Nat){c:ICode}{s t:H}{ex:Ex}(a:List Sc)(ks:List Nat){ps:List Prop}
  (d:DQ ps) (h:Alr prog T n c s a ks=some (ex,t,ps):=by kernel_rfl):BR prog c s ex t:=Da b n a ks h d
end
theorem ac{p:Prop}{ps:List Prop}(h:p)(hs:DQ ps):DQ (p::ps):=⟨h,hs⟩
theorem a0:DQ []:=trivial
theorem Cj:true=true:=rfl
theorem Dx:false=false:=rfl
theorem AKj{b:Bool}(h:b=false):(!b)=true:=by rw [h];rfl
theorem AKg{b:Bool}(h:b=true):(!b)=false:=by rw [h];rfl
theorem j{prog:Nat->Option IFunc}{T:Bx}(hT:Be prog T){f:Nat}{fn:IFunc}(hf:prog f=some fn)(n:Nat){args:List AV}(hl:C args=fn.params)(sc:List Sc){r:AV}{ps:List Prop}
  (hp:DQ ps) (h:Axo prog T n fn args sc=some (r,ps):=by kernel_rfl):FW prog f args r:=k hT hf n hl sc h hp
theorem Ck:1<=1048576:=by decide
theorem EJ:true=true:=rfl
theorem iY:false=false:=rfl
theorem sw5:0<=(0:Int):=by decide
theorem NO:¬ (32:Int)<0:=by decide
theorem NP:0<=(2097152:Int):=by decide
theorem Cd:(2097152:Int)<=4611686018427387904:=by decide
theorem NQ:0<=(1048576:Int):=by decide
theorem OB:(1048576:Int)<=4611686018427387904:=by decide
theorem Bc{p1:Prop}(h1:p1):DQ [p1]:=⟨h1,trivial⟩
theorem Gd{p1 p2:Prop}(h1:p1)(h2:p2):DQ [p1,p2]:=⟨h1,h2,trivial⟩
theorem Fa{p1 p2 p3:Prop}(h1:p1)(h2:p2)(h3:p3):DQ [p1,p2,p3]:=⟨h1,h2,h3,trivial⟩
theorem Fk{p1 p2 p3 p4:Prop}(h1:p1)(h2:p2)(h3:p3)(h4:p4):DQ [p1,p2,p3,p4]:=⟨h1,h2,h3,h4,trivial⟩
theorem Fh{p1 p2 p3 p4 p5:Prop}(h1:p1)(h2:p2)(h3:p3)(h4:p4)(h5:p5):DQ [p1,p2,p3,p4,p5]:=⟨h1,h2,h3,h4,h5,trivial⟩
theorem EP{p1 p2 p3 p4 p5 p6:Prop}(h1:p1)(h2:p2)(h3:p3)(h4:p4)(h5:p5)(h6:p6):DQ [p1,p2,p3,p4,p5,p6]:=⟨h1,h2,h3,h4,h5,h6,trivial⟩
theorem Gs{p1 p2 p3 p4 p5 p6 p7:Prop}(h1:p1)(h2:p2)(h3:p3)(h4:p4)(h5:p5)(h6:p6)(h7:p7):DQ [p1,p2,p3,p4,p5,p6,p7]:=⟨h1,h2,h3,h4,h5,h6,h7,trivial⟩
theorem EQ{p1 p2 p3 p4 p5 p6 p7 p8:Prop}(h1:p1)(h2:p2)(h3:p3)(h4:p4)(h5:p5)(h6:p6)(h7:p7)(h8:p8):DQ [p1,p2,p3,p4,p5,p6,p7,p8]:=⟨h1,h2,h3,h4,h5,h6,h7,h8,trivial⟩
theorem K0{p1 p2 p3 p4 p5 p6 p7 p8 p9:Prop}(h1:p1)(h2:p2)(h3:p3)(h4:p4)(h5:p5)(h6:p6)(h7:p7)(h8:p8)(h9:p9):DQ [p1,p2,p3,p4,p5,p6,p7,p8,p9]:=⟨h1,h2,h3,h4,h5,h6,h7,h8,h9,trivial⟩
theorem Fm{p1 p2 p3 p4 p5 p6 p7 p8 p9 p10:Prop}(h1:p1)(h2:p2)(h3:p3)(h4:p4)(h5:p5)(h6:p6)(h7:p7)(h8:p8)(h9:p9)(h10:p10):DQ [p1,p2,p3,p4,p5,p6,p7,p8,p9,p10]:=⟨h1,h2,h3,h4,h5,h6,h7,h8,h9,h10,trivial⟩
theorem G3{p1 p2 p3 p4 p5 p6 p7 p8 p9 p10 p11:Prop}(h1:p1)(h2:p2)(h3:p3)(h4:p4)(h5:p5)(h6:p6)(h7:p7)(h8:p8)(h9:p9)(h10:p10)(h11:p11):DQ [p1,p2,p3,p4,p5,p6,p7,p8,p9,p10,p11]:=⟨h1,h2,h3,h4,h5,h6,h7,h8,h9,h10,h11,trivial⟩
theorem Em{p1 p2 p3 p4 p5 p6 p7 p8 p9 p10 p11 p12:Prop}(h1:p1)(h2:p2)(h3:p3)(h4:p4)(h5:p5)(h6:p6)(h7:p7)(h8:p8)(h9:p9)(h10:p10)(h11:p11)(h12:p12):DQ [p1,p2,p3,p4,p5,p6,p7,p8,p9,p10,p11,p12]:=⟨h1,h2,h3,h4,h5,h6,h7,h8,h9,h10,h11,h12,trivial⟩
theorem Ec{p1 p2 p3 p4 p5 p6 p7 p8:Prop}{l:List Prop}(h1:p1)(h2:p2)(h3:p3)(h4:p4)(h5:p5)(h6:p6)(h7:p7)(h8:p8)(h:DQ l):DQ (p1::p2::p3::p4::p5::p6::p7::p8::l):=⟨h1,h2,h3,h4,h5,h6,h7,h8,h⟩
theorem ALa{prog:Nat->Option IFunc}{T:Bx}(hT:Be prog T){f:Nat}{fn:IFunc}(hf:prog f=some fn)(sc:List Sc){args:List AV}{r:AV}{ps:List Prop}(hp:DQ ps)(hl:C args=fn.params:=by rfl)(h:Axo prog T 400 fn args sc=some (r,ps):=by kernel_rfl):FW prog f args r:=k hT hf 400 hl sc h hp
theorem B{prog:Nat->Option IFunc}{T:Bx}(hT:Be prog T){c:ICode}{s t:H}{ex:Ex}(sc:List Sc)(ks:List Nat){ps:List Prop}(hp:DQ ps)(h:Alr prog T 400 c s sc ks=some (ex,t,ps):=by kernel_rfl):BR prog c s ex t:=Cs hT 400 sc ks hp h
def bT:Sc:=.b true
def Y:Sc:=.b false
def Yy:List Nat:=[0,1,4,5,6]
def nJ:List Nat:=[0,1,4,5]
def RP:List Nat:=[0,1,5,6,7]
def wX:List Nat:=[0,1,6,9,10,11]
def lN:List Nat:=[0,2,3,4]
def RR:List Nat:=[0,2,3]
def wY:List Nat:=[0,3,4,5]
def T0:List Nat:=[0,3,4]
def Als:List Nat:=[1,16,17,18]
def Wt:List Nat:=[1,2,11,12]
def OC:List Nat:=[1,2,3,4]
def Yz:List Nat:=[1,2,4,5,6,23]
def Y0:List Nat:=[1,2,5,6,7]
def OD:List Nat:=[1,2,5,6]
def Wu:List Nat:=[1,2,7,8]
def Pr:List Nat:=[1,3,10]
def Ayl:List Nat:=[1,3,124,126,128,129,130]
def Aym:List Nat:=[1,3,124,126,185,186,187]
def Ayn:List Nat:=[1,3,124,126,238,239,240]
def Ayo:List Nat:=[1,3,124,126,288,289,290]
def Ayp:List Nat:=[1,3,124,126,364,365,366]
def Ayq:List Nat:=[1,3,124,126,416,417,418]
def Ayr:List Nat:=[1,3,124,126,468,469,470]
def Ays:List Nat:=[1,3,124,126,502,503,504]
def Ayt:List Nat:=[1,3,124,126,549,550,551]
def Ayu:List Nat:=[1,3,124,126,577,578,579]
def Wv:List Nat:=[1,3,12]
def lO:List Nat:=[1,3,17]
def Ps:List Nat:=[1,3,4]
def MW:List Nat:=[1,3,7]
def Alt:List Nat:=[1,52,53,54]
def Alu:List Nat:=[1,88,89,90]
def oV:List Nat:=[2,3,4,6,68]
def Y1:List Nat:=[2,3,4,8,106]
def Y2:List Nat:=[2,3,46,47,48]
def oW:List Nat:=[2,3,5,62,63,64]
def Y3:List Nat:=[2,3,5,6]
def UH:List Nat:=[2,3,5,8]
def So:List Nat:=[2,3,5,9,10]
def UI:List Nat:=[2,3,5,9]
def oX:List Nat:=[2,3,91,92,93]
def AKo:List Nat:=[2,4,5,6,7,15,19,23,27]
def Sq:List Nat:=[2,4,5,6,8,10,11]
def Sr:List Nat:=[2,4,5,6,8,10,130,131,132]
def Y4:List Nat:=[2,4,5,6,8,10,13]
def Y5:List Nat:=[2,4,5,6,8,10,14]
def Y6:List Nat:=[2,4,5,6,8,10,15]
def Ss:List Nat:=[2,4,5,6,8,10,16]
def Su:List Nat:=[2,4,5,6,8,10,22,23,24]
def Y7:List Nat:=[2,4,5,6,8,10,56,57,58]
def Y8:List Nat:=[2,4,5,6,8,10,75,76,77]
def Y9:List Nat:=[2,4,5,6,8,10,98,99,100]
def oY:List Nat:=[2,4,5,6,8,15,19,23,27]
def UJ:List Nat:=[2,4,5,6,9,15,19,23,27]
def Pt:List Nat:=[8,9,10,11,12]
def AKn:List Nat:=[8,9,10]
theorem AJo{prog:Nat->Option IFunc}{f:Nat}{args:List AV}{r:AV}(fn:IFunc)(s:H)(h:BR prog fn.body (CL fn args) .ret s)(hf:prog f=some fn:=by exact rfl)(hl:C args=fn.params:=by exact rfl)(hr:FU s fn.res=some r:=by exact rfl):FW prog f args r:=B6 hf hl h (by nofun) hr
theorem nfb{b:Bool}(h:b=true):(!b)=false:=by rw[h];rfl
theorem ntb{b:Bool}(h:b=false):(!b)=true:=by rw[h];rfl
abbrev u:=List AV
end Go.Ai
namespace Go.Ai
open List renaming append_assoc->Ci,drop->R,drop_append->Avl,drop_eq_nil_of_le->Mq,getElem?_append_left->AO,getElem?_drop->D4,getElem_cons_succ->GC,length->C,length_append->Ah,length_cons->B1,nil_append->Dg,replicate->BP,replicate_succ->OO,set_cons_succ->vY,take_of_length_le->E_
open Nat renaming add_mul->EC,add_zero->Bv,mul_le_mul_right->Kq,succ_mul->OL
open Option.some renaming injEq->Ac
variable {α:Type} {c:α->u} {k:Nat}
def F(c:α->u)(es:List α):u:=es.flatMap c
theorem JO(e:α)(es:List α):F c (e::es)=c e++F c es:=rfl
theorem KT(hc:∀ e,C (c e)=k):∀ es:List α,C (F c es)=C es*k
 | []=>by simp[F]
 | e::es=>by rw[JO,Ah,hc,KT hc es,B1,EC];omega
theorem T1(hc:∀ e,C (c e)=k):∀ {es:List α} {i:Nat} (h:i<C es),R (i*k) (F c es)=c es[i]++F c (es.drop (i+1))
 | e::es,0,_=>by simp[JO]
 | e::es,i+1,h=>by
  have hi:i<C es:=by simpa using h
  have a:(i+1)*k=C (c e)+i*k:=by rw[hc,EC];omega
  rw[JO,a,Avl];simp only[Nat.add_sub_cancel_left,List.drop_succ_cons,GC];rw[Mq (by omega),Dg,T1 hc hi]
theorem Eo(hc:∀ e,C (c e)=k){es:List α}{i:Nat}(h:i<C es){j:Nat}(a:j<k):Ad (R j (R (i*k) (F c es))) 0 1 true=(c es[i])[j]? := by
 rw[T1 hc h];simp only[Ad,if_true,D4,Bv];rw[AO (by rw[hc];exact a)]
theorem Xr(hc:∀ e,C (c e)=k):∀ {es:List α} {i:Nat} (_:i<C es) (e:α),Cg (F c es) (i*k) (c e)=some (F c (es.set i e))
 | a::es,0,_,e=>by
  unfold Cg;rw[Ae (by simp[JO,hc])];simp[JO,hc]
 | a::es,i+1,h,e=>by
  have hi:i<C es:=by simpa using h
  have b:=Xr hc hi e;unfold Cg at b |-;have hl:=KT hc es;have d:(i+1)*k=k+i*k:=by rw[EC];omega
  have hb:i*k+k<=C es*k:=by
   have:=Kq k (Nat.succ_le_of_lt hi);rw[OL] at this;exact this
  rw[Ae (by rw[hc,hl];exact hb)] at b;rw[Ae (by rw[JO,Ah,hc,hc,hl,d];omega)];simp only[Ac] at b |-;rw[vY,JO,JO,<- b,d,List.take_append,Avl,hc,hc,E_ (by rw[hc];omega),Mq (by rw[hc];omega)];have f:k+i*k-k=i*k:=by omega
  have g:k+i*k+k-k=i*k+k:=by omega
  rw[f,g];simp[Ci]
theorem Fo(es:List α)(e:α):F c es++c e=F c (es++[e]):=by simp [F]
theorem AKl(e:α):∀ n,Gp (c e) n=F c (BP n e)
 | 0=>rfl
 | n+1=>by rw[OO,JO,<- AKl e n];rfl
end Go.Ai
namespace Go.Ai
open Bool renaming and_eq_true->U,and_self->E8,false_eq_true->AC,not_eq_true'->Bl,or_eq_true->CD
open Decidable renaming decide->G
open Go.Ai.AV renaming int->A
open Int renaming le_of_dvd->ACq,le_refl->kK,mul_add->IJ,mul_assoc->Jl,mul_comm->Hc,natAbs->A6,natCast_pow->A8k,pow_succ->FL,pow_zero->vT,toNat->J,zero_add->AFo
open List renaming all_eq_true->AKf,cons_append->HZ,drop->R,drop_eq_getElem_cons->ET,drop_eq_nil_of_le->Mq,drop_zero->AL,eq_nil_of_length_eq_zero->Bb,eq_of_mem_replicate->A8p,ext_getElem->Avm,flatMap_cons->OI,getD->L,getD_cons_succ->Bo,getD_cons_zero->Bj,getD_eq_getElem?_getD->Z,getElem?_cons_succ->Eb,getElem?_cons_zero->C2,getElem?_drop->D4,getElem?_eq_getElem->Af,getElem?_eq_none->AX,getElem?_map->Fy,getElem?_set_ne->DX,getElem?_take_of_lt->B8,length->C,length_append->Ah,length_cons->B1,length_drop->C5,length_eq_zero_iff->XO,length_map->Bz,length_nil->Fr,length_set->AU,length_singleton->B4,map_cons->Bg,mem_cons->Aw,mem_cons_of_mem->AJ,mem_cons_self->AKh,mem_filter->Gj,mem_map->Cb,mem_of_getElem?->nN,mem_of_mem_take->BC,mem_or_eq_of_mem_set->WP,mem_range->S_,mem_singleton->AP,range->AZ,replicate->BP,replicate_succ->OO,set_cons_succ->vY,set_cons_zero->AJd,set_eq_take_append_cons_drop->Alc,take_append_drop->OZ,take_succ_cons->K3
open List.Sublist renaming refl->RF
open Nat renaming add_assoc->DC,add_comm->KG,add_mul->EC,add_zero->Bv,beq->AKi,beq_refl->E7,eq_of_beq_eq_true->Ao,le_refl->Ay,le_succ->Aqk,le_trans->AA,lt_of_lt_of_le->Bf,lt_or_ge->CH,mul_one->L3,one_mul->AJh,pow_succ->Ta,sub_self->Wo,zero_add->AH,zero_le->B_
open Ne renaming symm->CW
open Option renaming isNone_iff_eq_none->JL,map_eq_some_iff->S,map_some->Am
open Option.some renaming injEq->Ac
open UInt8 renaming ofNat->Apo
def lm(xs:LI):u:=xs.map (A .u32)
def E5(xs:LI):Prop:=∀ x∈xs,0<=x/\x<4294967296
def AQ:LI->Int
 | []=>0
 | x::xs=>x+4294967296*AQ xs
theorem Ww(xs:LI):C (lm xs)=C xs:=by simp [lm]
section
variable{xs:LI}{i:Nat}
theorem wZ(h:i<C xs):(lm xs)[i]? = some (.int .u32 (L xs i 0)):=by
 simp[lm,Fy,Af h,Z]
theorem KK(h:i<C xs):Ad (R (i*1) (lm xs)) 0 1 true=some (.int .u32 (L xs i 0)):=by
 simp only[Ad,if_true,L3,D4,Bv];exact wZ h
theorem Ayv(h:i<C xs):Ad (lm xs) (i*1) 1 true=some (.int .u32 (L xs i 0)):=by
 simp only[Ad,if_true,L3];exact wZ h
theorem xA{v:Int}(h:i<C xs):Cg (lm xs) (i*1) [.int .u32 v]=some (lm (xs.set i v)):=by
 unfold Cg;rw[Ae (by simp[Ww];omega)];congr 1;simp only[lm,List.map_set,L3,B4];rw[Alc,Ae (by simpa using h)];simp
end
theorem Aql(n:Nat):Gp [.int .u32 0] n=lm (BP n 0):=by
 induction n with
 | zero=>rfl
 | succ n a=>simp only[Gp,a,lm,OO,Bg];rfl
theorem GT{xs:LI}(h:E5 xs)(i:Nat):0<=L xs i 0/\L xs i 0<4294967296:=by
 rw[Z];cases a:xs[i]? with
 | none=>simp
 | some x=>exact h x (nN a)
theorem FY{xs:LI}(h:E5 xs):0<=AQ xs:=by
 induction xs with
 | nil=>exact kK _
 | cons x xs a =>
  have h1:=h x AKh;have h2:=a fun y b=>h y (AJ _ b);simp only[AQ];omega
theorem NR(xs a:LI):AQ (xs++a)=AQ xs+4294967296^C xs*AQ a:=by
 induction xs with
 | nil=>simp[AQ]
 | cons x xs b =>
  simp only[HZ,AQ,b,B1,FL];rw[IJ,<- Int.add_assoc];congr 1;rw[<- Jl,Hc 4294967296 (4294967296^C xs)]
theorem xB(n:Nat):AQ (BP n 0)=0:=by
 induction n with
 | zero=>rfl
 | succ n a=>simp[OO,AQ,a]
theorem KU{xs:LI}(h:E5 xs):AQ xs<4294967296^C xs:=by
 induction xs with
 | nil=>simp[AQ]
 | cons x xs a =>
  have h1:=h x AKh;have h2:=a fun y b=>h y (AJ _ b);simp only[AQ,B1,FL];omega
theorem lP(xs:LI)(i:Nat)(v:Int)(h:i<C xs):AQ (xs.set i v)=AQ xs+4294967296^i*(v-L xs i 0):=by
 induction xs generalizing i with
 | nil=>simp at h
 | cons x xs a =>
  cases i with
  | zero=>simp only[AJd,AQ,vT,Bj];omega
  | succ i =>
   simp only[vY,AQ,Bo];rw[a i (by simpa using h),FL,IJ,<- Jl,Hc 4294967296 (4294967296^i)];omega
theorem YA{xs:LI}(h:E5 xs){i:Nat}{v:Int}(a:0<=v/\v<4294967296):E5 (xs.set i v):=by
 intro x b;rcases WP b with h1 | h1
 ·exact h x h1
 ·rw[h1];exact a
def Cw(xs:LI):Nat->Nat
 | 0=>0
 | n+1=>if L xs n 0=0 then Cw xs n else n+1
section
variable(xs:LI)
def l:LI:=xs.take (Cw xs (C xs))
theorem Pu(n:Nat):Cw xs n<=n:=by
 induction n with
 | zero=>exact Ay _
 | succ n a=>simp only[Cw];split <;> omega
theorem Aqm(n:Nat):Cw xs n=0\/L xs (Cw xs n-1) 0 ≠ 0:=by
 induction n with
 | zero=>exact .inl rfl
 | succ n a =>
  simp only[Cw];split
  ·exact a
  ·exact .inr (by simpa)
theorem YB(n:Nat):∀ i,Cw xs n<=i->i<n->L xs i 0=0:=by
 induction n with
 | zero=>intro i _ h;omega
 | succ n a =>
  intro i h1 h2;simp only[Cw] at h1;split at h1
  ·rename_i h0;by_cases hi:i=n
   ·subst hi;exact h0
   ·exact a i h1 (by omega)
  ·omega
def Iv:Prop:=E5 xs/\(xs=[]\/L xs (C xs-1) 0 ≠ 0)
end
theorem K1{xs:LI}(h:E5 xs):Iv (l xs):=by
 have hl:=Pu xs (C xs);have b:C (l xs)=Cw xs (C xs):=by simp[l];omega
 refine⟨fun x c=>h x (BC c),?_⟩;by_cases a:Cw xs (C xs)=0
 ·left;simp[l,a]
 ·right;have h0:=(Aqm xs (C xs)).resolve_left a;rw[b,Z,l,B8 (by omega),<- Z];exact h0
theorem WU{xs:LI}(h:∀ i,i<C xs->L xs i 0=0):AQ xs=0:=by
 induction xs with
 | nil=>rfl
 | cons x xs a =>
  have h0:=h 0 (by simp);simp only[Bj] at h0;subst h0;simp only[AQ];rw[a fun i hi=>by simpa using h (i+1) (by simpa using hi)];rfl
theorem Hk(xs:LI):AQ (l xs)=AQ xs:=by
 have e:AQ xs=AQ (xs.take (Cw xs (C xs))++xs.drop (Cw xs (C xs))):=by rw[OZ]
 rw[e,NR];have:AQ (xs.drop (Cw xs (C xs)))=0:=by
  apply WU;intro i hi;have a:Cw xs (C xs)+i<C xs:=by simp at hi;omega
  have:=YB xs (C xs) (Cw xs (C xs)+i) (by omega) a;rw[Z,D4,<- Z];exact this
 rw[this,Int.mul_zero,Int.add_zero];rfl
theorem LG{x:Int}{xs:LI}(h:Iv (x::xs)):Iv xs:=by
 refine⟨fun y a=>h.1 y (AJ _ a),?_⟩;cases xs with
 | nil=>exact .inl rfl
 | cons y b =>
  right;rcases h.2 with h0 | h0
  ·cases h0
  ·simpa using h0
theorem NS:∀ {xs:LI},Iv xs->xs ≠ []->0<AQ xs
 | [],_,h=>absurd rfl h
 | [x],h,_=>by
  have h1:=h.1 x AKh;rcases h.2 with h0 | h0
  ·cases h0
  ·simp only[B4,Wo,Bj] at h0;simp only[AQ];omega
 | x::y::a,h,_=>by
  have h1:=h.1 x AKh;have h2:=NS (LG h) (by simp);simp only[AQ] at h2 |-;omega
theorem lQ:∀ {xs a:LI},Iv xs->Iv a->AQ xs=AQ a->xs=a
 | [],[],_,_,_=>rfl
 | [],y::a,_,h2,h=>by
  have:=NS h2 (by simp);rw[<- h] at this;simp[AQ] at this
 | x::xs,[],h1,_,h=>by
  have:=NS h1 (by simp);rw[h] at this;simp[AQ] at this
 | x::xs,y::a,h1,h2,h=>by
  have d:=h1.1 x AKh;have e:=h2.1 y AKh;simp only[AQ] at h;have b:x=y:=by omega
  have c:AQ xs=AQ a:=by omega
  rw[b,lQ (LG h1) (LG h2) c]
def NT:Nat->Nat->LI
 | 0,_=>[]
 | f+1,n=>if n=0 then [] else ((n % 4294967296:Nat):Int)::NT f (n / 4294967296)
def q(n:Nat):LI:=NT (n+1) n
theorem Sv:∀ (f n:Nat),n<f->Iv (NT f n)/\AQ (NT f n)=n/\(NT f n=[]↔n=0):=by
 intro f;induction f with
 | zero=>intro n h;omega
 | succ f b =>
  intro n h;simp only[NT];by_cases h0:n=0
  ·subst h0;simp[AQ,Iv,E5]
  ·rw[Al h0];obtain⟨c1,c2,c3⟩:=b (n / 4294967296) (by omega);have c:=Nat.mod_lt n (show 0<4294967296 by omega);refine⟨⟨?_,?_⟩,?_,by simp[h0]⟩
   ·intro x a;rcases Aw.1 a with rfl | a
    ·omega
    ·exact c1.1 x a
   ·right;cases hl:NT f (n / 4294967296) with
    | nil =>
     have:=c3.1 hl;simp;omega
    | cons y d =>
     rcases c1.2 with h1 | h1
     ·rw[hl] at h1;cases h1
     ·rw[hl] at h1;simpa using h1
   ·simp only[AQ,c2];omega
theorem ES(n:Nat):Iv (q n):=(Sv _ n (by omega)).1
theorem Hl(n:Nat):AQ (q n)=n:=(Sv _ n (by omega)).2.1
theorem Sw(n:Nat):q n=[]↔n=0:=(Sv _ n (by omega)).2.2
theorem UK{xs:LI}(h:E5 xs):l xs=q (AQ xs).toNat:=by
 apply lQ (K1 h) (ES _);rw[Hk,Hl];have:=FY h;omega
def BL(n:Int):AV := .agg [.bool (G (n<0)),y lm (q (A6 n))]
def IT(n:Int):AV := .frs (.st (G (n<0))) 1 (C (q (A6 n))) (lm (q (A6 n)))
theorem YC(n:Nat):(0:Int)<4294967296^n:=Int.pow_pos (by decide)
theorem UL:∀ {xs:LI},Iv xs->xs ≠ []->(4294967296:Int)^(C xs-1)<=AQ xs
 | [],_,h=>absurd rfl h
 | [x],h,_=>by
  have:=NS h (by simp);simp only[B4,Wo,vT];omega
 | x::y::a,h,_=>by
  have h1:=h.1 x AKh;have h2:=UL (LG h) (by simp);simp only[B1,Nat.add_sub_cancel] at h2 |-;rw[FL];show _<=x+4294967296*AQ (y::a);omega
theorem         Wx {a b : Nat} (h : a <= b) : (4294967296 : Int) ^ a <= 4294967296 ^ b := by
  induction b with
  | zero => have : a = 0 := by omega
            subst this; exact          kK _
  | succ b ih =>
    by_cases hh : a = b + 1
    · subst hh; exact          kK _
    · have := ih (by omega)
      have hp :=        YC b
      rw [          FL]; omega
theorem Sx{xs:LI}(h:Iv xs){k:Nat}(a:AQ xs<4294967296^k):C xs<=k:=by
 by_cases hn:xs=[]
 ·subst hn;simp
 ·have h1:=UL h hn;rcases CH k (C xs) with h2 | h2
  ·have:=Wx (show k<=C xs-1 by omega);omega
  ·exact h2
theorem Agj{n k:Nat}(h:(n:Int)<4294967296^k):C (q n)<=k:=Sx (ES n) (by rw [Hl];exact h)
def CP(k:Nat)(n:Int):Prop:=A6 n<4294967296^k
theorem CP.len{k:Nat}{n:Int}(h:CP k n):C (q (A6 n))<=k:=by
 apply Agj;have h1:(A6 n:Int)<((4294967296^k:Nat):Int):=Int.ofNat_lt.mpr h;rwa [A8k] at h1
theorem CP.mono{j k:Nat}{n:Int}(h:CP j n)(a:j<=k):CP k n:=Bf h (Nat.pow_le_pow_right (by decide) a)
theorem CP.mul{j k:Nat}{a b:Int}(c:CP j a)(hb:CP k b):CP (j+k) (a*b):=by
 unfold CP at *
 rw[Int.natAbs_mul,Nat.pow_add];exact Nat.mul_lt_mul'' c hb
theorem CP.add{j:Nat}{a b:Int}(c:CP j a)(hb:CP j b):CP (j+1) (a+b):=by
 unfold CP at *
 rw[Ta];have:=Int.natAbs_add_le a b;omega
theorem CP.neg{j:Nat}{a:Int}(b:CP j a):CP j (-a):=by
 unfold CP at *
 rwa [Int.natAbs_neg]
theorem E2{n:Int}(h : -9223372036854775808<=n/\n<=9223372036854775807):CP 2 n:=by
 unfold CP;have:(4294967296:Nat)^2=18446744073709551616:=by decide
 omega
def rv(neg:Bool)(xs:LI):Int:=if neg then -AQ xs else AQ xs
theorem A8z{neg:Bool}{xs:LI}(hu:E5 xs):A6 (rv neg xs)=(AQ xs).toNat:=by
 have:=FY hu;unfold rv;cases neg <;> simp <;> omega
theorem Alv(n:Int):rv (G (n<0)) (q (A6 n))=n:=by
 unfold rv;rw[Hl];by_cases h:n<0 <;> simp[h] <;> omega
theorem WV(n:Nat):C (q n)=0↔n=0:=by rw [XO,Sw]
theorem MX(xs:LI):C (l xs)<=C xs:=by simp [l];omega
theorem Ayw{neg:Bool}{xs:LI}(hu:E5 xs):CP (C xs) (rv neg xs):=by
 unfold CP;rw[A8z hu];have h1:=FY hu;have h2:=KU hu;have a:((4294967296^C xs:Nat):Int)=(4294967296:Int)^C xs:=by rw[A8k];rfl
 omega
theorem xC(n:Nat):E5 (q n):=(ES n).1
def vl(xs : List Int) : Reg := .val (.sl (C xs) (lm xs))
def vi(n : Int) : Reg := .val (.int .i64 n)
theorem MY:∀ (xs:LI) (i:Nat),AQ (xs.drop i)=L xs i 0+4294967296*AQ (xs.drop (i+1))
 | [],i=>by simp[AQ]
 | x::xs,0=>by simp[AQ]
 | x::xs,i+1=>by
  have:=MY xs i;simpa using this
theorem Gt{xs:LI}{i:Nat}(h:C xs<=i):L xs i 0=0:=by
 simp[Z,AX h]
theorem QE{xs:LI}{i:Nat}(h:C xs<=i):AQ (xs.drop i)=0:=by
 rw[Mq h];rfl
abbrev Rn:=Bool × LI
def t(r:Rn):Int:=rv r.1 r.2
def cn(n:Int):Rn:=(G (n<0),q (A6 n))
def v(rs:List Rn):u:=rs.flatMap fun r=>[.bool r.1,.sl (C r.2) (lm r.2)]
def vals(rs:List Rn):LI:=rs.map t
def pk(ps:LI):u:=v (ps.map cn)
def z0:Rn:=(false,[])
def EB(K:Nat)(r:Rn):Prop:=E5 r.2/\C r.2<=K
def Dh(r:Rn):AV := .agg [.bool r.1,.sl (C r.2) (lm r.2)]
theorem MZ(n:Int):t (cn n)=n:=Alv n
theorem xD:t z0=0:=rfl
theorem xE(ps:LI):vals (ps.map cn)=ps:=by
 unfold vals;rw[List.map_map];have:(t ∘ cn)=id:=funext MZ;rw[this,List.map_id]
theorem KV{k:Nat}{n:Int}(h:CP k n):EB k (cn n):=⟨xC _,h.len⟩
theorem xF(k:Nat):EB k z0:=⟨fun x a=>(by cases a),B_ _⟩
theorem EB.mono{j k:Nat}{r:Rn}(h:EB j r)(a:j<=k):EB k r:=⟨h.1,AA h.2 a⟩
theorem EB.fits{k:Nat}{r:Rn}(h:EB k r):CP k (t r):=(Ayw h.1).mono h.2
theorem YD(rs:List Rn):C (v rs)=C rs*2:=by
 induction rs with
 | nil=>rfl
 | cons r rs a=>simp only[v,OI,Ah,B1,Fr] at a |-;omega
theorem Pv(r:Rn)(rs:List Rn):v (r::rs) = .bool r.1 :: .sl (C r.2) (lm r.2)::v rs:=rfl
theorem YE(rs ss:List Rn):v (rs++ss)=v rs++v ss:=by simp [v]
theorem YF:∀ (i:Nat) (rs:List Rn),(v rs).drop (i*2)=v (rs.drop i)
 | 0,rs=>by simp
 | i+1,[]=>by simp[v]
 | i+1,r::rs=>by
  rw[Pv,EC,AJh];show (v rs).drop (i*2)=_;rw[YF i rs];rfl
theorem xG:∀ (i:Nat) (rs:List Rn),(v rs).take (i*2)=v (rs.take i)
 | 0,rs=>by simp[v]
 | i+1,[]=>by simp[v]
 | i+1,r::rs=>by
  rw[Pv,EC,AJh];show _::_::(v rs).take (i*2)=_;rw[xG i rs];rfl
section
variable{rs:List Rn}{i:Nat}
theorem xH(h:i<C rs):Ad (R (i*2) (v rs)) 0 2 false=some (Dh (L rs i z0)):=by
 rw[YF,ET h,Pv];simp[Ad,Dh,Z,Af h]
theorem A9a(h:i<C rs):Ad (v rs) (i*2) 2 false=some (Dh (L rs i z0)):=by
 have h1:=xH h;have hl:=YD rs;simp only[Ad,AC,if_false,AH,AL,C5] at h1 |-;rw[Ae (by omega)] at h1;rw[Ae (by omega)];exact h1
theorem A9b{r:Rn}(h:i<C rs):Cg (v rs) (i*2) [.bool r.1,.sl (C r.2) (lm r.2)]=some (v (rs.set i r)):=by
 have hl:=YD rs;simp only[Cg,B1,Fr];rw[Ae (by omega)];congr 1;have hs:rs.set i r=rs.take i++r::rs.drop (i+1):=by rw[Alc,Ae h]
 rw[hs,YE,Pv,xG];have:(v rs).drop (i*2+(0+1+1))=v (rs.drop (i+1)):=by rw[<- YF];congr 1;omega
 simp only[AH] at this;rw[this];simp
end
theorem Ayx(n:Nat):Gp [.bool false,.sl 0 []] n=v (BP n z0):=by
 induction n with
 | zero=>rfl
 | succ n a=>rw[OO,Pv,<- a];rfl
section
variable(rs:List Rn)
theorem GD:C (vals rs)=C rs:=by simp [vals]
theorem GE(i:Nat):L (vals rs) i 0=t (L rs i z0):=by
 simp only[vals,Z,Fy];cases rs[i]? <;> rfl
theorem Aqn(i:Nat)(r:Rn):vals (rs.set i r)=(vals rs).set i (t r):=by simp [vals,List.map_set]
end
theorem xI(n:Nat):vals (BP n z0)=BP n 0:=by simp [vals,xD]
theorem D7{K:Nat}{rs:List Rn}(h:∀ r∈rs,EB K r)(i:Nat):EB K (L rs i z0):=by
 rw[Z];cases e:rs[i]? with
 | none=>exact xF K
 | some r=>exact h r (nN e)
theorem Aqo{K:Nat}{rs:List Rn}(h:∀ r∈rs,EB K r){i:Nat}{r:Rn}(hr:EB K r):∀ x∈rs.set i r,EB K x:=by
 intro x a;rcases WP a with g | g
 ·exact h x g
 ·rw[g];exact hr
theorem Wy(K n:Nat):∀ r∈BP n z0,EB K r:=fun r hr=>by rw [A8p hr];exact xF K
theorem lR{k:Nat}{ps:LI}(h:∀ x∈ps,CP k x):∀ r∈ps.map cn,EB k r:=fun r hr=>by
 obtain⟨x,a,rfl⟩:=Cb.1 hr;exact KV (h x a)
theorem Agk{k:Nat}{rs:List Rn}(h:∀ r∈rs,EB k r):∀ x∈vals rs,CP k x:=fun x a=>by
 obtain⟨r,hr,rfl⟩:=Cb.1 a;exact (h r hr).fits
theorem lS{xs a:LI}(h:∀ i,L xs i 0=L a i 0):∀ n,Cw xs n=Cw a n:=by
 intro n;induction n with
 | zero=>rfl
 | succ n b=>simp only[Cw,h n,b]
theorem YG(xs:LI):∀ d,Cw xs (C xs+d)=Cw xs (C xs):=by
 intro d;induction d with
 | zero=>rfl
 | succ d a =>
  rw[<- DC];simp only[Cw];rw[Gt (by omega),Ae rfl,a]
theorem Iw(xs:LI)(i:Nat):L (l xs) i 0=L xs i 0:=by
 unfold l;rcases CH i (Cw xs (C xs)) with h | h
 ·simp only[Z,List.getElem?_take,Ae h]
 ·have e:L (xs.take (Cw xs (C xs))) i 0=0:=Gt (by simp;omega);rw[e];rcases CH i (C xs) with h2 | h2
  ·exact (YB xs (C xs) i h h2).symm
  ·exact (Gt h2).symm
theorem Aqp{xs a:LI}(hl:C xs=C a)(h:∀ i,L xs i 0=L a i 0):xs=a:=by
 apply Avm hl;intro i h1 h2;have:=h i;simpa [Z,Af h1,Af h2] using this
theorem KL{xs a:LI}(h:∀ i,L xs i 0=L a i 0):l xs=l a:=by
 have b:C (l xs)=C (l a):=by
  have h1:∀ zs:LI,C (l zs)=Cw zs (C zs):=fun zs=>by have:=Pu zs (C zs);simp[l];omega
  rw[h1,h1];rcases Nat.le_total (C xs) (C a) with g | g
  ·have:=YG xs (C a-C xs);rw[show C xs+(C a-C xs)=C a by omega] at this;rw[<- this,lS h]
  ·have:=YG a (C xs-C a);rw[show C a+(C xs-C a)=C xs by omega] at this;rw[<- this,lS h]
 refine Aqp b fun i => ?_;rw[Iw,Iw,h i]
theorem oZ(xs:LI):C (l xs)=Cw xs (C xs):=by have:=Pu xs (C xs);simp [l];omega
theorem Aqq{xs:LI}{x:Int}(h:x∈l xs):x∈xs:=BC h
theorem NU(xs:LI):l (l xs)=l xs:=KL (Iw xs)
def B0:LI->Int->Int
 | [],_=>0
 | p::ps,x=>p+x*B0 ps x
theorem Wz{xs:LI}(h:∀ i,L xs i 0=0)(x:Int):B0 xs x=0:=by
 induction xs with
 | nil=>rfl
 | cons p ps a =>
  have h0:=h 0;simp at h0;have:=a (fun i=>by simpa using h (i+1));simp[B0,h0,this]
theorem YH:∀ {xs a:LI},(∀ i,L xs i 0=L a i 0)->∀ x,B0 xs x=B0 a x
 | [],a,h,x=>(Wz (fun i=>(h i).symm) x).symm
 | p::ps,[],h,x=>Wz (fun i=>h i) x
 | p::ps,q::qs,h,x=>by
  have h0:=h 0;simp at h0;simp only[B0,h0];rw[YH (fun i=>by simpa using h (i+1)) x]
theorem Pw(xs:LI)(x:Int):B0 (l xs) x=B0 xs x:=YH (Iw xs) x
theorem Px(g:Nat->Rn)(n i:Nat):L (vals ((AZ n).map g)) i 0=if i<n then t (g i) else 0:=by
 rw[GE,Z];by_cases h:i<n
 ·simp[h]
 ·simp[h,xD]
theorem Aqr(xs:LI):(AZ (C xs)).map (fun i=>cn (L xs i 0))=xs.map cn:=by
 apply Avm (by simp);intro i h1 h2;have a:i<C xs:=by simpa using h2
 simp[Z,Af a]
theorem Sy{K:Nat}{g:Nat->Rn}{n:Nat}(h:∀ i,i<n->EB K (g i)):∀ r∈(AZ n).map g,EB K r:=fun r hr=>by
 obtain⟨i,hi,rfl⟩:=Cb.1 hr;exact h i (S_.1 hi)
def IU(ps qs:LI):LI:=l ((AZ (max (C ps) (C qs))).map fun i=>L ps i 0+L qs i 0)
def I7(ps:LI):LI:=ps.map fun x => -x
theorem NV(ps qs:LI)(i:Nat):L (IU ps qs) i 0=L ps i 0+L qs i 0:=by
 unfold IU;rw[Iw,Z];by_cases h:i<max (C ps) (C qs)
 ·simp[h]
 ·have h1:C ps<=i:=by omega
  have h2:C qs<=i:=by omega
  rw[Gt h1,Gt h2];simp[h]
theorem YI(ps:LI)(i:Nat):L (I7 ps) i 0 = -(L ps i 0):=by
 unfold I7;simp only[Z,Fy];cases ps[i]? <;> simp
theorem Sz(ps qs:LI):l (IU ps qs)=IU ps qs:=NU _
theorem Py(xs:LI)(x:Int):B0 xs x=L xs 0 0+x*B0 (xs.drop 1) x:=by
 cases xs <;> simp[B0]
theorem WW:∀ (n:Nat) (us bs cs:LI),C us<=n->C bs<=n->C cs<=n->(∀ i,L cs i 0=L us i 0+L bs i 0)->∀ x,B0 cs x=B0 us x+B0 bs x:=by
 intro n;induction n with
 | zero =>
  intro us bs cs h1 h2 a _ x;rw[Bb (by omega:C us=0),Bb (by omega:C bs=0),Bb (by omega:C cs=0)];rfl
 | succ n b =>
  intro us bs cs h1 h2 a h x;rw[Py us,Py bs,Py cs,h 0,b (us.drop 1) (bs.drop 1) (cs.drop 1) (by simp;omega) (by simp;omega) (by simp;omega) (fun i=>by
   have:=h (i+1);simpa [Z,KG] using this) x]
  rw[IJ];omega
theorem LH(ps qs:LI)(x:Int):B0 (IU ps qs) x=B0 ps x+B0 qs x :=
 WW (max (max (C ps) (C qs)) (C (IU ps qs))) ps qs _ (by omega) (by omega) (by omega) (NV ps qs) x
theorem Pz(ps:LI)(x:Int):B0 (I7 ps) x = -B0 ps x:=by
 induction ps with
 | nil=>rfl
 | cons p ps ih =>
  have:I7 (p::ps) = -p::I7 ps:=rfl;rw[this];simp only[B0,ih];rw[Int.mul_neg];omega
def vp(rs : List Rn) : Reg := .val (.sl (C rs) (v rs))
def bR(r : Rn) : Reg := .box [.bool r.1, .sl (C r.2) (lm r.2)]
def bN(n : Int) : Reg := .box [.bool (decide (n < 0)), y lm (q (A6 n))]
abbrev Cx:=List Rn
section
variable {prog:Nat->Option IFunc}
section
variable{c:Opd}{a b:ICode}{s t:H}{ex:Ex}
theorem iZ(h:c.av s=some (.bool true))(h1:Dv prog a s ex t):Dv prog (.cond c a b) s ex t:=by
 obtain⟨n,h1⟩:=h1;refine⟨n+1,?_⟩;have d:=FH (DW prog (show n<=n+1 by omega)) (Ay n) h1;simp only[BJ,KO,h,d]
theorem jA(h:c.av s=some (.bool false))(h1:Dv prog b s ex t):Dv prog (.cond c a b) s ex t:=by
 obtain⟨n,h1⟩:=h1;refine⟨n+1,?_⟩;have d:=FH (DW prog (show n<=n+1 by omega)) (Ay n) h1;simp only[BJ,KO,h,d]
theorem jB{x:Bool}(h:c.av s=some (.bool x))(e:x=true)(h1:BR prog a s ex t):BR prog (.cond c a b) s ex t:=by
 subst e;obtain⟨u,f,g⟩:=h1;exact⟨u,iZ h f,g⟩
theorem jC{x:Bool}(h:c.av s=some (.bool x))(e:x=false)(h1:BR prog b s ex t):BR prog (.cond c a b) s ex t:=by
 subst e;obtain⟨u,f,g⟩:=h1;exact⟨u,jA h f,g⟩
end
theorem Aqs{id:Nat}{c:ICode}{s t:H}{i:Nat}(h:BR prog c s (.exit i) t)(hi:i ≠ id):BR prog (.block id c) s (.exit i) t:=by
 obtain⟨u,a,b⟩:=h;exact⟨u,MT a hi,b⟩
theorem S0{c:ICode}{ex:Ex}{fin:H}(st:Nat->H)(n:Nat)(a:ex ≠ .norm)(step:∀ i,i<n->BR prog c (st i) .norm (st (i+1)))(out:BR prog c (st n) ex fin):∀ i,i<=n->BR prog (.loop c) (st i) ex fin:=by
 have b:∀ r i,i+r=n->BR prog (.loop c) (st i) ex fin:=by
  intro r;induction r with
  | zero =>
   intro i hi;have:i=n:=by omega
   subst this;exact f out a
  | succ r d =>
   intro i hi;exact AB (step i (by omega)) (d (i+1) (by omega))
 intro i hi;exact b (n-i) i (by omega)
theorem BR.to{c:ICode}{ex:Ex}{s t s' t':H}(h:BR prog c s ex t)(hs:s=s')(a:t=t'):BR prog c s' ex t':=hs ▸ a ▸ h
end
theorem Jw{X:Int}{n:Nat}(h:0<=X/\X<n):J X<n:=by omega
theorem Ix{xs:LI}{X:Int}(h:0<=X/\X<C xs):Ad (R (J X*1) (lm xs)) 0 1 true=some (.int .u32 (L xs (J X) 0)):=KK (Jw h)
theorem I8{rs:Cx}{X:Int}(h:0<=X/\X<C rs):Ad (R (J X*2) (v rs)) 0 2 false=some (Dh (L rs (J X) z0)):=xH (Jw h)
theorem Ayy{rs:Cx}{n:Nat}(hl:C rs=n){X:Int}(h:0<=X/\X<n):Ad (v rs) (J X*2) 2 false=some (Dh (L rs (J X) z0)):=A9a (hl ▸ Jw h)
theorem Ayz{rs:Cx}{n:Nat}(hl:C rs=n){X:Int}(h:0<=X/\X<n){r:Rn}:Cg (v rs) (J X*2) [.bool r.1,.sl (C r.2) (lm r.2)]=some (v (rs.set (J X) r)):=A9b (hl ▸ Jw h)
def li(xs:LI):u:=xs.map (A .i64)
theorem A9c{xs:LI}{i:Nat}(h:i<C xs):(li xs)[i]? = some (.int .i64 (L xs i 0)):=by
 simp[li,Fy,Af h,Z]
theorem b{xs:LI}{X:Int}(h:0<=X/\X<C xs):Ad (R (J X*1) (li xs)) 0 1 true=some (.int .i64 (L xs (J X) 0)):=by
 simp only[Ad,if_true,L3,D4,Bv];exact A9c (Jw h)
def pp(ps:List Cx):u:=ps.map fun rs => y v rs
theorem A9d{ps:List Cx}{i:Nat}(h:i<C ps):(pp ps)[i]? = some (y v (L ps i [])):=by
 simp[pp,Fy,Af h,Z]
theorem UM{ps:List Cx}{X:Int}(h:0<=X/\X<C ps):Ad (R (J X*1) (pp ps)) 0 1 true=some (y v (L ps (J X) [])):=by
 simp only[Ad,if_true,L3,D4,Bv];exact A9d (Jw h)
abbrev S1:=List (List Cx)
def T2(l:List (List Cx)):u:=l.map fun ps => y pp ps
theorem Aza{l:List (List Cx)}{i:Nat}(h:i<C l):(T2 l)[i]? = some (y pp (L l i [])):=by
 simp[T2,Fy,Af h,Z]
theorem Iy{l:List (List Cx)}{X:Int}(h:0<=X/\X<C l):Ad (R (J X*1) (T2 l)) 0 1 true=some (y pp (L l (J X) [])):=by
 simp only[Ad,if_true,L3,D4,Bv];exact Aza (Jw h)
section
variable {prog:Nat->Option IFunc}
theorem w{c:ICode}{ex:Ex}{s t u:H}(ks:List Nat)(h:BR prog c s ex t)(e:Pq ks t=u):BR prog c s ex u:=e ▸ BR.weak h (Fv.refl _) (MV ks t)
theorem Ge{c:Opd}{a b:ICode}{s u t:H}{ex:Ex}(ks:List Nat)(h:c.av s=some (.bool true))(hu:Pq ks s=u)(h1:BR prog a u ex t):BR prog (.cond c a b) s ex t :=
 jB h rfl (h1.weak (hu ▸ MV ks s) (Fv.refl _))
theorem GU{c:Opd}{a:ICode}{s u:H}(ks:List Nat)(h:c.av s=some (.bool false))(hu:Pq ks s=u):BR prog (.cond c a .skip) s .norm u :=
 jC h rfl ⟨s,⟨1,rfl⟩,hu ▸ MV ks s⟩
end
def c(l:LI)(p:Int):u:=[.sl (C l) (li l),.int .i64 p]
def Sm(x:Int):Prop := -100000<=x/\x<=100000
structure El where
 s:ByteArray
 i:List Int
 b:Bool
def El.n(e:El)(k:Nat):Int:=L e.i k 0
def El.ok(e:El):Prop:=∀ x∈e.i,Sm x
theorem El.ok.n{e:El}(h:e.ok)(k:Nat):Sm (e.n k):=by
 unfold El.n;rw[Z];cases a:e.i[k]? with
 | none=>exact⟨by decide,by decide⟩
 | some x=>exact h x (nN a)
def Wk(e:El):Prop:=e.ok/\e.n 1=0/\(1<=e.n 0/\e.n 0<=4)/\(0<=e.n 6/\e.n 6<=15)/\(0<=e.n 7/\e.n 7<=15)/\(0<=e.n 8/\e.n 8<=16384)/\(0<=e.n 9/\e.n 9<=16384)/\(-1<=e.n 10/\e.n 10<=31)/\(-1<=e.n 11/\e.n 11<=63)/\(e.n 2 ≠ e.n 4\/e.n 3 ≠ e.n 5)
def Azb(a b c d:Int):Prop:=a*a+b*b=25/\c*c+d*d=25/\0<a*d-b*c/\(-5<=a/\a<=5 /\ -5<=b/\b<=5)/\(-5<=c/\c<=5 /\ -5<=d/\d<=5)
def Ak(r:Int)(e:El):Prop:=e.ok/\e.n 0=0/\(0<=e.n 7/\e.n 7<=15)/\(0<=e.n 8/\e.n 8<=15)/\e.n 9=0/\(-1<=e.n 10/\e.n 10<=63) /\
 ∃ q a b c d,2*r<5*q/\(0<=q/\q<=500)/\Azb a b c d/\(e.n 3=e.n 1+q*a/\e.n 4=e.n 2+q*b/\e.n 5=e.n 1+q*c/\e.n 6=e.n 2+q*d)
def Pk(e:El):Prop:=e.ok/\e.n 0=0/\(0<=e.n 3/\e.n 3<=1000)/\(0<=e.n 4/\e.n 4<=15)/\(0<=e.n 5/\e.n 5<=15)/\(0<=e.n 6/\e.n 6<=16384)/\(0<=e.n 7/\e.n 7<=16384)/\(-1<=e.n 8/\e.n 8<=31)/\(-1<=e.n 9/\e.n 9<=63)
def pA(e:El):Prop:=e.ok/\e.n 4<e.n 5/\e.n 0=0/\(1<=e.n 3/\e.n 3<=1000)/\(-256<=e.n 4/\e.n 5<=256)/\(1<=e.n 6/\e.n 6<=64)/\(1<=e.n 7/\e.n 7<=64)/\(1<=e.n 8/\e.n 8<=64)/\(0<=e.n 9/\e.n 9<=15)/\(0<=e.n 10/\e.n 10<=15)/\(-1<=e.n 11/\e.n 11<=31)/\(-1<=e.n 12/\e.n 12<=63)
def Zk(e:El):Prop:=e.ok/\e.n 0=0/\e.n 1<e.n 3/\e.n 2<e.n 4/\(-256<=e.n 5/\e.n 5<=256)/\(-256<=e.n 6/\e.n 6<=256)/\(-1<=e.n 7/\e.n 7<=31)
def Sk(r:Int)(e:El):Prop:=e.ok/\e.n 0=0/\(1<=e.n 3/\e.n 3<r)/\0<=e.n 4/\(-16384<=e.n 5/\e.n 5<=16384)/\(-16384<=e.n 6/\e.n 6<=16384)/\(-1<=e.n 7/\e.n 7<=31)/\(-1<=e.n 8/\e.n 8<=63)
def Lk(e:El):Prop:=e.ok/\e.n 0=0/\1<=e.n 3/\(-1<=e.n 4/\e.n 4<=63)
def Rk(e:El):Prop:=e.ok/\e.n 0=0/\e.n 1=1/\1<=e.n 4/\(-16384<=e.n 5/\e.n 5<=16384)/\e.n 6=1
def Dk(e:El):Prop:=e.ok/\e.n 0=0/\1<=e.n 3
def Kk(e:El):Prop:=e.ok/\e.n 0=0/\(-16384<=e.n 3/\e.n 3<=16384)/\(-16384<=e.n 4/\e.n 4<=16384)/\(0<=e.n 5/\e.n 5<=31)
def S2(c:UInt8)(i:Int):ByteArray:=⟨#[c]⟩++⟨#[48+Apo i.toNat]⟩
def IG(c:UInt8):Nat->List ByteArray
 | 0=>[]
 | n+1=>S2 c ((n+1:Nat):Int)::IG c n
def FO(P:El->Prop)(ns:List ByteArray)(l:List El):Prop:=(∀ e∈l,P e)/\(l.map El.s).Sublist ns
section
variable{P:El->Prop}
theorem FO.nil{ns:List ByteArray}:FO P ns []:=⟨fun e a=>(by cases a),List.nil_sublist _⟩
theorem FO.one{e:El}(h:P e):FO P [e.s] [e]:=⟨fun x b=>by rw [AP.1 b];exact h,RF _⟩
theorem FO.len{ns:List ByteArray}{l:List El}(h:FO P ns l):C l<=C ns:=by
 have:=h.2.length_le;rwa [Bz] at this
end
theorem M'{c:UInt8}{m:Nat}:∀ {n:Nat},n<=m->(IG c n).Sublist (IG c m):=by
 intro n h;induction h with
 | refl=>exact RF _
 | step _ a=>exact a.trans (List.sublist_cons_self _ _)
def cI(x:Int):u:=[.int .i64 x]
def cO(b:Bool):u:=[.bool b]
section
variable(e:El)
def cB:u:=[.int .i64 (e.n 0),.int .i64 (e.n 1),.int .i64 (e.n 2),.int .i64 (e.n 3),.int .i64 (e.n 4),.int .i64 (e.n 5),.int .i64 (e.n 6)]
def cD:u:=[.str e.s,.int .i64 (e.n 0),.int .i64 (e.n 1),.int .i64 (e.n 2),.int .i64 (e.n 3)]
def cL:u:=[.str e.s,.int .i64 (e.n 0),.int .i64 (e.n 1),.int .i64 (e.n 2),.int .i64 (e.n 3),.int .i64 (e.n 4)]
def cK:u:=[.str e.s,.int .i64 (e.n 0),.int .i64 (e.n 1),.int .i64 (e.n 2),.int .i64 (e.n 3),.int .i64 (e.n 4),.int .i64 (e.n 5)]
def cR:u:=[.str e.s,.int .i64 (e.n 0),.int .i64 (e.n 1),.int .i64 (e.n 2),.int .i64 (e.n 3),.int .i64 (e.n 4),.int .i64 (e.n 5),.int .i64 (e.n 6)]
def cZ:u:=[.str e.s,.int .i64 (e.n 0),.int .i64 (e.n 1),.int .i64 (e.n 2),.int .i64 (e.n 3),.int .i64 (e.n 4),.int .i64 (e.n 5),.int .i64 (e.n 6),.int .i64 (e.n 7)]
def AN:u:=[.str e.s,.int .i64 (e.n 0),.int .i64 (e.n 1),.int .i64 (e.n 2),.int .i64 (e.n 3),.int .i64 (e.n 4),.int .i64 (e.n 5),.int .i64 (e.n 6),.int .i64 (e.n 7),.int .i64 (e.n 8)]
def cPo:u:=[.str e.s,.int .i64 (e.n 0),.int .i64 (e.n 1),.int .i64 (e.n 2),.int .i64 (e.n 3),.int .i64 (e.n 4),.int .i64 (e.n 5),.int .i64 (e.n 6),.int .i64 (e.n 7),.int .i64 (e.n 8),.int .i64 (e.n 9)]
def AD:u:=[.str e.s,.int .i64 (e.n 0),.int .i64 (e.n 1),.int .i64 (e.n 2),.int .i64 (e.n 3),.int .i64 (e.n 4),.int .i64 (e.n 5),.int .i64 (e.n 6),.int .i64 (e.n 7),.int .i64 (e.n 8),.int .i64 (e.n 9),.int .i64 (e.n 10)]
def cW:u:=[.str e.s,.int .i64 (e.n 0),.int .i64 (e.n 1),.int .i64 (e.n 2),.int .i64 (e.n 3),.int .i64 (e.n 4),.int .i64 (e.n 5),.int .i64 (e.n 6),.int .i64 (e.n 7),.int .i64 (e.n 8),.int .i64 (e.n 9),.int .i64 (e.n 10),.int .i64 (e.n 11)]
def cF:u:=[.str e.s,.int .i64 (e.n 0),.int .i64 (e.n 1),.int .i64 (e.n 2),.int .i64 (e.n 3),.bool e.b,.int .i64 (e.n 4),.int .i64 (e.n 5),.int .i64 (e.n 6),.int .i64 (e.n 7),.int .i64 (e.n 8),.int .i64 (e.n 9),.int .i64 (e.n 10),.int .i64 (e.n 11),.int .i64 (e.n 12)]
end
structure Tbl where
 r0:Int
 r1:Int
 r2:Int
 r3:Int
 r4:Int
 r5:Int
 r6:Int
 tr:List Int:=[]
 ws:List El:=[]
 ar:List El:=[]
 po:List El:=[]
 fl:List El:=[]
 zo:List El:=[]
 sa:List El:=[]
 la:List El:=[]
 ra:List El:=[]
 dr:List El:=[]
 ln:List El:=[]
def YJ{α:Type}(c:α->u)(es:List α):AV := .sl (C es) (F c es)
def Tbl.cs(t:Tbl):u:=[.int .i64 t.r0,.int .i64 t.r1,.int .i64 t.r2,.int .i64 t.r3,.int .i64 t.r4,.int .i64 t.r5,.int .i64 t.r6,YJ cI t.tr,YJ cW t.ws,YJ AD t.ar,YJ cPo t.po,YJ cF t.fl,YJ cZ t.zo,YJ AN t.sa,YJ cL t.la,YJ cR t.ra,YJ cD t.dr,YJ cK t.ln]
def Tbl.av(t:Tbl):AV := .agg t.cs
def Tbl.upto(t:Tbl)(k:Nat):u:=t.cs.take k++BP (18-k) .nil
theorem B7{α:Type}{c:α->u}{k:Nat}(hc:∀ e,C (c e)=k){es:List α}{i:Nat}(h:i<C es):Ad (R (i*k) (F c es)) 0 k false=some (.agg (c es[i])):=by
 rw[T1 hc h];simp only[Ad,AC,if_false,AH,AL];rw[Ae (by rw[Ah,hc];omega),List.take_left' (hc _)]
def At{α:Type}(c:α->u)(k:Nat)(es:List α)(i:Int)(e:α):Prop:=Ad (R (J i*k) (F c es)) 0 k false=some (.agg (c e))
def A1{α:Type}(c:α->u)(es:List α)(i:Int)(v:AV):Prop:=Ad (R (J i*1) (F c es)) 0 1 true=some v
def A2{α:Type}(j:Nat)(c:α->u)(k:Nat)(es:List α)(i:Int)(v:AV):Prop:=Ad (R j (R (J i*k) (F c es))) 0 1 true=some v
inductive CK where
 | i (k:IntKind)
 | b
 | s
 | l
 deriving DecidableEq
inductive Ty where
 | c (k:CK)
 | g (ks:List CK)
 deriving DecidableEq
def CK.ok:CK->AV->Bool
 | .i k,.int a _=>decide (k=a)
 | .b,.bool _=>true
 | .s,.str _=>true
 | .l,.sl _ _=>true
 | _,_=>false
def DF:List CK->u->Bool
 | [],[]=>true
 | k::ks,c::cs=>k.ok c&&DF ks cs
 | _,_=>false
def Ty.ok:Ty->AV->Bool
 | .c k,x=>k.ok x
 | .g ks,.agg cs=>DF ks cs
 | _,_=>false
inductive En where
 | v (t:Ty)
 | box (ks:List CK)
 | ptr (d off:Nat)
 deriving DecidableEq
def En.ok:En->Reg->Bool
 | .v t,.val x=>t.ok x
 | .box ks,.box cs=>DF ks cs
 | .ptr d o,.ptr a o'=>AKi d a&&AKi o o'
 | _,_=>false
structure Ent where
 t:Nat
 e:En
 g:Option (Nat × Bool)
abbrev OM:=List Ent
def jD(t:Nat):OM->Option Ent
 | []=>none
 | x::l=>if x.t=t then some x else jD t l
theorem KW{t:Nat}:∀ {l:OM} {x:Ent},jD t l=some x->x∈l/\x.t=t
 | [],_,h=>by cases h
 | y::l,x,h=>by
  simp only[jD] at h;split at h
  next e=>cases h;exact⟨AKh ..,e⟩
  ·obtain⟨h1,h2⟩:=KW h;exact⟨AJ _ h1,h2⟩
def xJ:Reg->Bool
 | .val .undef=>true
 | _=>false
def YK(b:Bool):Reg->Bool
 | .val (.bool c)=>c==b
 | _=>false
def Ent.ok(x:Ent)(s:H):Prop :=
 match x.g with
 | none=>x.e.ok (Ag s x.t)=true
 | some (j,b)=>(x.e.ok (Ag s x.t)=true\/xJ (Ag s x.t)=true)/\(YK b (Ag s j)=true->x.e.ok (Ag s x.t)=true)
def M2(l:OM)(s:H):Prop:=∀ x∈l,x.ok s
def T3:OM->H->Bool
 | [],_=>true
 | x::l,s=>(x.g.isNone&&x.e.ok (Ag s x.t))&&T3 l s
theorem lT:∀ {l:OM} {s:H},T3 l s=true->M2 l s
 | [],_,_=>fun x a=>by cases a
 | y::l,s,h=>by
  simp only[T3,U] at h;intro x a;rcases Aw.1 a with rfl | a
  ·have:=h.1;unfold Ent.ok;cases b:x.g with
   | none=>exact this.2
   | some q=>rw[b] at this;cases this.1
  ·exact lT h.2 x a
def xK(g a:Option (Nat × Bool)):Bool :=
 match a with
 | none=>true
 | some (j,b)=>match g with
  | some (i,c)=>AKi i j&&(b==c)
  | none=>false
def Iz(l:OM)(g:Option (Nat × Bool)):Opd->Option Ty
 | .c (.int k _)=>some (.c (.i k))
 | .c (.bool _)=>some (.c .b)
 | .c _=>none
 | .t t=>match jD t l with
  | some x=>match x.e with
   | .v a=>if xK g x.g then some a else none
   | _=>none
  | none=>none
def Xs(l:OM)(g:Option (Nat × Bool)):List Opd->Option (List Ty)
 | []=>some []
 | o::os=>match Iz l g o,Xs l g os with
  | some t,some a=>some (t::a)
  | _,_=>none
def P0:List Ty->u->Bool
 | [],[]=>true
 | t::a,x::xs=>t.ok x&&P0 a xs
 | _,_=>false
abbrev pB:=List (Nat × List Ty × Ty)
def pC(f:Nat)(a:List Ty):pB->Option Ty
 | []=>none
 | (b,ts',t)::l=>if f=b/\a=ts' then some t else pC f a l
def AGy:BinOp->Bool
 | .add | .sub | .mul=>true
 | _=>false
def AGz:BinOp->Bool
 | .eql | .neq | .lss | .leq | .gtr | .geq=>true
 | _=>false
def plain:Ty->Bool
 | .c _=>true
 | _=>false
def Azc(sg:pB)(l:OM)(g:Option (Nat × Bool)):K->Option En
 | .mov x=>(Iz l g x).map .v
 | .pick c a b=>match c with
  | .t j=>match Iz l g (.t j),Iz l (some (j,true)) a,Iz l (some (j,false)) b with
   | some (.c .b),some h,some p=>if h=p then (match g with
    | none=>some (.v h)
    | some _=>match Iz l g a,Iz l g b with
     | some _,some _=>some (.v h)
     | _,_=>none) else none
   | _,_,_=>none
  | _=>none
 | .bin op x y=>match Iz l g x,Iz l g y with
  | some (.c (.i k)),some (.c (.i q))=>if k=q then (if AGy op then some (.v (.c (.i k))) else if AGz op then some (.v (.c .b)) else none) else none
  | _,_=>none
 | .eqb _ x y=>match Iz l g x,Iz l g y with
  | some (.c .b),some (.c .b)=>some (.v (.c .b))
  | _,_=>none
 | .un .not x=>match Iz l g x with
  | some (.c .b)=>some (.v (.c .b))
  | _=>none
 | .adr x d off=>match jD x l with
  | some e=>if xK g e.g then (match e.e with
   | .box _=>if x=d then some (.ptr d off) else none
   | .ptr m o=>if m=d then some (.ptr d (o+off)) else none
   | _=>none) else none
  | none=>none
 | .ld x d n one=>match jD x l with
  | some e=>if xK g e.g then (match e.e with
   | .ptr m off=>if m=d then (match jD d l with
    | some b=>match b.g,b.e with
     | none,.box ks=>if one then (ks[off]?).map fun k => .v (.c k) else if off+n<=C ks then some (.v (.g ((ks.drop off).take n))) else none
     | _,_=>none
    | none=>none) else none
   | .box ks=>if x=d then (if one then (ks[0]?).map fun k => .v (.c k) else if 0+n<=C ks then some (.v (.g ((ks.drop 0).take n))) else none) else none
   | _=>none) else none
  | none=>none
 | .len x=>match Iz l g x with
  | some (.c .l)=>some (.v (.c (.i .i64)))
  | _=>none
 | .call f xs=>match Xs l g xs with
  | some r=>match pC f r sg with
   | some t=>if plain t then some (.v t) else none
   | none=>none
  | none=>none
 | _=>none
def gOk(l:OM):Option (Nat × Bool)->Bool
 | none=>true
 | some (j,_)=>match jD j l with
  | some x=>decide (x.e = .v (.c .b))
  | none=>false
def YL(d:Nat)(x:Ent):Bool :=
 !(AKi x.t d)&&(match x.g with | some (j,_) => !(AKi j d) | none=>true)
def Agl(sg:pB)(l:OM)(o:IOp):Option OM :=
 match o.dst with
 | some d=>if o.ks.isEmpty&&gOk l o.g&&(match o.g with | some (j,_) => !(AKi j d) | none=>true) then (Azc sg l o.g o.k).map fun e=>⟨d,e,o.g⟩::l.filter (YL d) else none
 | none=>none
def chk(sg:pB):OM->List IOp->Option OM
 | l,[]=>some l
 | l,o::os=>match Agl sg l o with
  | some a=>chk sg a os
  | none=>none
def UN(prog:Nat->Option IFunc)(sg:pB):Prop:=∀ f a t,(f,a,t)∈sg->∀ args,P0 a args=true->∃ r,FW prog f args r/\t.ok r=true
theorem YM{f:Nat}{a:List Ty}:∀ {sg:pB} {t:Ty},pC f a sg=some t->(f,a,t)∈sg
 | [],_,h=>by cases h
 | (b,ts',t')::l,t,h=>by
  simp only[pC] at h;split at h
  next e=>cases h;rw[e.1,e.2];exact AKh ..
  ·exact AJ _ (YM h)
theorem T4:∀ {ks:List CK} {cs:u},DF ks cs=true->C ks=C cs
 | [],[],_=>rfl
 | [],_::_,h=>by cases h
 | _::_,[],h=>by cases h
 | k::ks,c::cs,h=>by
  simp only[DF,U] at h;simp[T4 h.2]
theorem T5:∀ {ks:List CK} {cs:u} {i:Nat} {k:CK},DF ks cs=true->ks[i]? = some k->∃ c,cs[i]? = some c/\k.ok c=true
 | [],[],_,_,_,h=>by simp at h
 | [],_::_,_,_,h,_=>by cases h
 | _::_,[],_,_,h,_=>by cases h
 | k::ks,c::cs,i,a,h,hi=>by
  simp only[DF,U] at h;cases i with
  | zero=>simp only[C2,Ac] at hi;subst hi;exact⟨c,rfl,h.1⟩
  | succ i=>simp only[Eb] at hi |-;exact T5 h.2 hi
theorem RS:∀ (n:Nat) {ks:List CK} {cs:u},DF ks cs=true->DF (ks.drop n) (cs.drop n)=true
 | 0,_,_,h=>h
 | _+1,[],[],h=>h
 | _+1,[],_::_,h=>by cases h
 | _+1,_::_,[],h=>by cases h
 | n+1,k::ks,c::cs,h=>by
  simp only[DF,U] at h;exact RS n h.2
theorem RT:∀ (n:Nat) {ks:List CK} {cs:u},DF ks cs=true->DF (ks.take n) (cs.take n)=true
 | 0,_,_,_=>rfl
 | _+1,[],[],h=>h
 | _+1,[],_::_,h=>by cases h
 | _+1,_::_,[],h=>by cases h
 | n+1,k::ks,c::cs,h=>by
  simp only[DF,U] at h;simp only[K3,DF,U];exact⟨h.1,RT n h.2⟩
theorem xL{ks:List CK}{cs:u}(h:DF ks cs=true){off n:Nat}{one:Bool}{e:En}
  (a:(if one then (ks[off]?).map fun k=>En.v (.c k) else if off+n<=C ks then some (.v (.g ((ks.drop off).take n))) else none)=some e):∃ v,Ad cs off n one=some v/\e.ok (.val v)=true:=by
 unfold Ad;cases one with
 | true =>
  simp only[if_true,S] at a |-;obtain⟨k,b,rfl⟩:=a;obtain⟨c,h1,h2⟩:=T5 h b;exact⟨c,h1,h2⟩
 | false =>
  simp only[AC,if_false] at a |-;split at a
  next hn=>cases a;rw[Ae (by rw[<- T4 h];exact hn)];exact⟨_,rfl,RT n (RS off h)⟩
  ·cases a
theorem lU{x:AV}(h:Ty.ok (.c .b) x=true):∃ b,x = .bool b:=by
 cases x <;> first | exact⟨_,rfl⟩ | cases h
theorem ACp{k:IntKind}{x:AV}(h:Ty.ok (.c (.i k)) x=true):∃ n,x = .int k n:=by
 cases x <;> first | (cases h;done) | skip
 simp only[Ty.ok,CK.ok,DI] at h;exact⟨_,by rw[h]⟩
theorem ty_l{x:AV}(h:Ty.ok (.c .l) x=true):∃ n cs,x = .sl n cs:=by
 cases x <;> first | exact⟨_,_,rfl⟩ | cases h
theorem enV{t:Ty}{r:Reg}(h:En.ok (.v t) r=true):∃ x,r = .val x/\t.ok x=true:=by
 cases r <;> first | exact⟨_,rfl,h⟩ | cases h
theorem Agm{ks:List CK}{r:Reg}(h:En.ok (.box ks) r=true):∃ cs,r = .box cs/\DF ks cs=true:=by
 cases r <;> first | exact⟨_,rfl,h⟩ | cases h
theorem Azd{d o:Nat}{r:Reg}(h:En.ok (.ptr d o) r=true):r = .ptr d o:=by
 cases r <;> first | (cases h;done) | skip
 simp only[En.ok,U] at h;rw[Ao h.1,Ao h.2]
theorem IV{s:H}{d:Nat}{r:Reg}(h:d<C s):Ag (s.set d r) d=r:=by rw [Cf,Ae ⟨rfl,h⟩]
section
variable {prog:Nat->Option IFunc} {sg:pB} {l:OM} {s:H}
def GH(s:H):Option (Nat × Bool)->Prop
 | none=>True
 | some (j,b)=>YK b (Ag s j)=true
theorem pD(hs:M2 l s){g:Option (Nat × Bool)}(d:GH s g){x:Ent}(f:x∈l)(hu:xK g x.g=true):x.e.ok (Ag s x.t)=true:=by
 have h:=hs x f;unfold Ent.ok at h;cases a:x.g with
 | none=>rw[a] at h;exact h
 | some q =>
  obtain⟨j,b⟩:=q;rw[a] at h hu;cases g with
  | none=>cases hu
  | some q =>
   obtain⟨i,c⟩:=q;simp only[xK,U,AM] at hu;have k:=Ao hu.1;refine h.2 ?_;rw[<- k,hu.2];exact d
theorem Gu(hs:M2 l s){g:Option (Nat × Bool)}(a:GH s g){o:Opd}{t:Ty}(h:Iz l g o=some t):∃ x,o.av s=some x/\t.ok x=true:=by
 unfold Iz at h;split at h
 ·cases h;exact⟨_,rfl,by simp[Ty.ok,CK.ok]⟩
 ·cases h;exact⟨_,rfl,rfl⟩
 ·cases h
 ·rename_i t';split at h
  ·rename_i x b;split at h
   ·rename_i f c;split at h
    next hu=>cases h;obtain⟨h1,h2⟩:=KW b;have:=pD hs a h1 hu;rw[c,h2] at this;obtain⟨v,d,e⟩:=enV this;exact⟨v,by simp only[Opd.av,Opd.reg,d],e⟩
    ·cases h
   ·cases h
  ·cases h
theorem YN(hs:M2 l s){g:Option (Nat × Bool)}(b:GH s g):∀ {os:List Opd} {a:List Ty},Xs l g os=some a->∃ xs,avs s os=some xs/\P0 a xs=true
 | [],_,h=>by cases h;exact⟨[],rfl,rfl⟩
 | o::os,a,h=>by
  simp only[Xs] at h;split at h
  next t ts' h1 h2=>cases h;obtain⟨x,c,d⟩:=Gu hs b h1;obtain⟨xs,e,f⟩:=YN hs b h2;exact⟨x::xs,by simp only[avs,c,e],by simp only[P0,d,f,E8]⟩
  ·cases h
theorem xM{t:Ty}(a:plain t=true){r:AV}(h:t.ok r=true):O5 r=r:=by
 cases t with
 | g ks=>cases a
 | c k=>cases k <;> cases r <;> first | rfl | cases h
theorem xN(L:UN prog sg)(hs:M2 l s){g:Option (Nat × Bool)}(z:GH s g){k:K}{e:En}(h:Azc sg l g k=some e):∃ n r,A8 (Jm prog n) s k=some (r,[])/\e.ok r=true:=by
 cases k <;> simp only[Azc] at h <;> try (cases h;done)
 case mov x =>
  simp only[S] at h;obtain⟨t,h1,rfl⟩:=h;obtain⟨v,i,p⟩:=Gu hs z h1;exact⟨0,.val v,by simp only[A8,i,Am],p⟩
 case pick c a b =>
  split at h
  case h_2=>cases h
  rename_i j;split at h
  case h_2=>cases h
  rename_i M tb h1 h2 N;split at h
  case isFalse=>cases h
  rename_i O;subst O;obtain⟨v,i,p⟩:=Gu hs z h1;obtain⟨cv,rfl⟩:=lU p;have J:Ag s j = .val (.bool cv):=by
   simp only[Opd.av,Opd.reg] at i;split at i
   next x P=>cases i;exact P
   ·cases i
  have Q:e = .v M:=by
   split at h
   ·cases h;rfl
   ·split at h <;> cases h;rfl
  subst Q;cases cv with
  | true =>
   obtain⟨x,u,A⟩:=Gu hs (g:=some (j,true)) (by simp only[GH,J];rfl) h2;exact⟨0,.val x,by simp only[A8,i,u,Am],A⟩
  | false =>
   obtain⟨x,u,A⟩:=Gu hs (g:=some (j,false)) (by simp only[GH,J];rfl) N;exact⟨0,.val x,by simp only[A8,i,u,Am],A⟩
 case bin op x y =>
  split at h
  case h_2=>cases h
  rename_i k k' h1 h2;split at h
  case isFalse=>cases h
  rename_i D;subst D;obtain⟨v,i,p⟩:=Gu hs z h1;obtain⟨w,u,A⟩:=Gu hs z h2;obtain⟨m,rfl⟩:=ACp p;obtain⟨n,rfl⟩:=ACp A;split at h
  next E=>cases h;cases op <;> first | (cases E;done) | exact⟨0,_,by simp only[A8,i,u,KN,H',AC,if_false,if_true,XR,Am];rfl,by simp[En.ok,Ty.ok,CK.ok]⟩
  ·split at h
   next E=>cases h;cases op <;> first | (cases E;done) | exact⟨0,_,by simp only[A8,i,u,KN,H',AC,if_false,if_true,XR,Alf,Am];rfl,rfl⟩
   ·cases h
 case eqb neg x y =>
  split at h
  case h_2=>cases h
  rename_i h1 h2;cases h;obtain⟨v,i,p⟩:=Gu hs z h1;obtain⟨w,u,A⟩:=Gu hs z h2;obtain⟨m,rfl⟩:=lU p;obtain⟨n,rfl⟩:=lU A;exact⟨0,_,by simp only[A8,i,u];rfl,rfl⟩
 case un op x =>
  cases op <;> simp only at h <;> try (cases h;done)
  split at h
  case h_2=>cases h
  rename_i h1;cases h;obtain⟨v,i,p⟩:=Gu hs z h1;obtain⟨m,rfl⟩:=lU p;exact⟨0,_,by simp only[A8,i,unA,Am];rfl,rfl⟩
 case adr x d off =>
  split at h
  case h_2=>cases h
  rename_i q F;split at h
  case isFalse=>cases h
  rename_i hu;obtain⟨G,H⟩:=KW F;have ho:=pD hs z G hu;rw[H] at ho;split at h
  next ks B=>rw[B] at ho;split at h <;> cases h;rename_i I;obtain⟨cs,i,_⟩:=Agm ho;exact⟨0,.ptr d off,by simp only[A8,i,Ae I],by simp[En.ok]⟩
  next R o B=>rw[B] at ho;split at h <;> cases h;rename_i I;have i:=Azd ho;exact⟨0,.ptr d (o+off),by simp only[A8,i,Ae I],by simp[En.ok]⟩
  ·cases h
 case ld x d n one =>
  split at h
  case h_2=>cases h
  rename_i q F;split at h
  case isFalse=>cases h
  rename_i hu;obtain⟨G,H⟩:=KW F;have ho:=pD hs z G hu;rw[H] at ho;split at h
  ·rename_i R off B;rw[B] at ho;split at h
   case isFalse=>cases h
   rename_i hd;split at h
   case h_2=>cases h
   rename_i T hb;split at h
   case h_2=>cases h
   rename_i ks U V;obtain⟨W,X⟩:=KW hb;have C:=hs T W;unfold Ent.ok at C;rw[U] at C;simp only at C;rw[V,X] at C;obtain⟨cs,i,p⟩:=Agm C;obtain⟨v,u,A⟩:=xL p h;exact⟨0,.val v,by simp only[A8,Azd ho,Ae hd,i,u,Am],A⟩
  ·rename_i ks B;rw[B] at ho;split at h
   case isFalse=>cases h
   rename_i hd;obtain⟨cs,i,p⟩:=Agm ho;obtain⟨v,u,A⟩:=xL p h;exact⟨0,.val v,by simp only[A8,i,Ae hd,u,Am],A⟩
  ·cases h
 case len x =>
  split at h
  case h_2=>cases h
  rename_i h1;cases h;obtain⟨v,i,p⟩:=Gu hs z h1;obtain⟨m,cs,rfl⟩:=ty_l p;exact⟨0,_,by simp only[A8,i];rfl,by simp[En.ok,Ty.ok,CK.ok]⟩
 case call f xs =>
  split at h
  case h_2=>cases h
  rename_i Y h1;split at h
  case h_2=>cases h
  rename_i t h2;split at h
  case isFalse=>cases h
  rename_i Z;cases h;obtain⟨vs,i,p⟩:=YN hs z h1;obtain⟨r,⟨n,hr⟩,D⟩:=L f Y t (YM h2) vs p;exact⟨n,.val r,by simp only[A8,i,hr,Am,xM Z D],D⟩
theorem Ent.put{x:Ent}{d:Nat}{r:Reg}(h:x.ok s)(a:YL d x=true):x.ok (s.set d r):=by
 simp only[YL,U,Bl] at a;have i:x.t ≠ d:=fun e=>by rw[e,E7] at a;exact absurd a.1 (by decide)
 have c:Ag (s.set d r) x.t=Ag s x.t:=EL (CW i);unfold Ent.ok at h |-;cases f:x.g with
 | none=>rw[f] at h;simp only at h |-;rw[c];exact h
 | some q =>
  obtain⟨j,b⟩:=q;rw[f] at h a;have k:j ≠ d:=fun e=>by
   have:=a.2;simp only[e,E7] at this;cases this
  simp only at h |-;rw[c,EL (CW k)];exact h
theorem Aqt(G:UN prog sg)(hs:M2 l s){o:IOp}{H:OM}(h:Agl sg l o=some H)(hd:∀ d,o.dst=some d->d<C s):∃ n d r,o.dst=some d/\Ee (Jm prog n) o s=some (s.set d r)/\M2 H (s.set d r):=by
 unfold Agl at h;split at h
 case h_2=>cases h
 rename_i d i;rw[Option.ite_none_right_eq_some] at h;obtain⟨hc,h⟩:=h;simp only[U] at hc;obtain⟨⟨K,p⟩,I⟩:=hc;simp only[S] at h;obtain⟨e,w,rfl⟩:=h;have A:=hd d i;have B:kill s o.ks=s:=by
  have:o.ks=[]:=by simpa using K
  rw[this];rfl
 have D:∀ r:Reg,∀ x∈l.filter (YL d),x.ok (s.set d r):=fun r x a=>by
  rw[Gj] at a;exact Ent.put (hs x a.1) a.2
 cases t:o.g with
 | none =>
  rw[t] at w;obtain⟨n,r,E,z⟩:=xN G hs (g:=none) trivial w;refine⟨n,d,r,i,?_,?_⟩
  ·simp only[Ee,B,Hh,t,EF,E,i,BD,A5]
  ·intro x a;rcases Aw.1 a with rfl | a
   ·simp only[Ent.ok];rw[IV A];exact z
   ·exact D r x a
 | some q =>
  obtain⟨j,b⟩:=q;rw[t] at w p I;simp only[gOk] at p;split at p
  case h_2=>cases p
  rename_i y L;simp only[DI] at p;obtain⟨M,N⟩:=KW L;have O:j ≠ d:=fun e=>by
   have:=I;simp only[e,E7] at this;cases this
  have k:(∃ c,Ag s j = .val (.bool c))\/Ag s j = .val .undef:=by
   have u:=hs y M;unfold Ent.ok at u;rw[p,N] at u;have hb:∀ {r:Reg},En.ok (.v (.c .b)) r=true->∃ c,r = .val (.bool c):=fun h=>by
    obtain⟨x,rfl,h2⟩:=enV h;obtain⟨c,rfl⟩:=lU h2;exact⟨c,rfl⟩
   split at u
   ·exact .inl (hb u)
   ·rcases u.1 with h1 | h1
    ·exact .inl (hb h1)
    ·right;unfold xJ at h1;split at h1
     next hr=>exact hr
     ·cases h1
  have undef:EF s (some (j,b))=some false->∃ n F r,o.dst=some F/\Ee (Jm prog n) o s=some (s.set F r)/\M2 (⟨d,e,some (j,b)⟩::l.filter (YL d)) (s.set F r):=by
   intro f;refine⟨0,d,.val .undef,i,?_,?_⟩
   ·simp only[Ee,B,Hh,t,f,i,BD]
   ·intro x a;rcases Aw.1 a with rfl | a
    ·simp only[Ent.ok];rw[IV A,EL (CW O)];refine⟨.inr rfl,fun m => ?_⟩;exfalso;simp only[EF] at f;split at f
     next c hc=>rw[hc] at m;simp only[YK] at m;rw[m] at f;cases f
     next hc=>rw[hc] at m;cases m
     ·cases f
    ·exact D _ x a
  rcases k with ⟨c,k⟩ | k
  ·by_cases J:c=b
   ·subst J;have m:YK c (Ag s j)=true:=by rw[k];simp[YK]
    obtain⟨n,r,E,z⟩:=xN G hs (g:=some (j,c)) m w;refine⟨n,d,r,i,?_,?_⟩
    ·have f:EF s (some (j,c))=some true:=by simp only[EF,k];simp
     simp only[Ee,B,Hh,t,f,E,i,BD,A5]
    ·intro x a;rcases Aw.1 a with rfl | a
     ·simp only[Ent.ok];rw[IV A];exact⟨.inl z,fun _=>z⟩
     ·exact D r x a
   ·exact undef (by simp only[EF,k];simp[J])
  ·exact undef (by simp only[EF,k])
def P1:List IOp->List Nat
 | []=>[]
 | o::l=>match o.dst with
  | some d=>d::P1 l
  | none=>P1 l
theorem Alw(c:UN prog sg):∀ {ops:List IOp} {l a:OM} {s:H},M2 l s->chk sg l ops=some a->(∀ d∈P1 ops,d<C s)->∃ n s',CY (Jm prog n) ops s=some s'/\M2 a s'/\C s'=C s/\∀ t,t ∉ P1 ops->Ag s' t=Ag s t
 | [],l,a,s,hs,h,_=>by cases h;exact⟨0,s,rfl,hs,rfl,fun _ _=>rfl⟩
 | o::ops,l,a,s,hs,h,hd=>by
  simp only[chk] at h;split at h
  case h_2=>cases h
  rename_i x h1;obtain⟨n,d,r,f,g,i⟩:=Aqt c hs h1 (fun d j=>hd d (by simp only[P1,j];exact AKh ..));have e:P1 (o::ops)=d::P1 ops:=by simp only[P1,f]
  obtain⟨m,s',k,p,q,u⟩:=Alw c i h (fun v w=>by rw[AU];exact hd v (by rw[e];exact AJ _ w));refine⟨max n m,s',?_,p,by rw[q,AU],fun t b => ?_⟩
  ·simp only[CY,Yp (DW prog (Nat.le_max_left n m)) g];exact KJ (DW prog (Nat.le_max_right n m)) k
  ·rw[e,Aw,not_or] at b;rw[u t b.2,EL (CW b.1)]
def Agn:Reg->Bool
 | .dead=>true
 | _=>false
theorem AHa(m:UN prog sg){dr:Bool}{ops:List IOp}{l i:OM}{s:H}(x:Nat)(hs:T3 l s=true)(hc:chk sg l ops=some i)(a:(match jD x i with | some e=>decide (e.e = .v (.c .b))&&e.g.isNone | none=>false)=true)
  (hd:(P1 ops).all (fun d=>decide (d<C s)&&(AKi d x || Agn (Ag s d)))=true) (j:decide (x<C s)=true):∃ b,BR prog (.region dr ops) s .norm (s.set x (.val (.bool b))):=by
 simp only[AKf,U,DI] at hd j;obtain⟨n,s',o,p,q,r⟩:=Alw m (lT hs) hc (fun d h=>(hd d h).1);split at a
 case h_2=>cases a
 rename_i e u;simp only[U,DI,JL] at a;obtain⟨w,y⟩:=KW u;have ho:=p e w;unfold Ent.ok at ho;rw[a.2] at ho;simp only at ho;rw[a.1,y] at ho;obtain⟨v,z,A⟩:=enV ho;obtain⟨b,rfl⟩:=lU A;refine⟨b,s',⟨n+1,?_⟩,?_,fun t => ?_⟩
 ·have:CY (Jm prog (n+1)) ops s=some s':=KJ (DW prog (Aqk n)) o;simp only[BJ,this,Am]
 ·rw[AU,q]
 ·by_cases f:t=x
  ·subst f;right;rw[IV j,z]
  ·rw[EL (CW f)];by_cases k:t∈P1 ops
   ·left;have:=(hd t k).2;simp only[CD] at this;rcases this with h | h
    ·exact absurd (Ao h) f
    ·unfold Agn at h;split at h
     next hr=>exact hr
     ·cases h
   ·right;rw[r t k]
end
section
variable {prog:Nat->Option IFunc}
theorem BR.keep{c:ICode}{ex:Ex}{s t t':H}(ks:List Nat)(h:BR prog c s ex t)(e:Pq ks t=t'):BR prog c s ex t':=e ▸ BR.weak h (Fv.refl _) (MV ks t)
end
theorem Ago(xs:LI)(i:Nat)(v x:Int)(h:i<C xs):B0 (xs.set i v) x=B0 xs x+x^i*(v-L xs i 0):=by
 induction xs generalizing i with
 | nil=>simp at h
 | cons p ps a =>
  cases i with
  | zero=>simp only[AJd,B0,vT,Bj];omega
  | succ i =>
   simp only[vY,B0,Bo];rw[a i (by simpa using h),FL];generalize x^i=q;generalize B0 ps x=y;generalize L ps i 0=z;grind
theorem pE(n:Nat)(x:Int):B0 (BP n 0) x=0:=by
 induction n with
 | zero=>rfl
 | succ n a=>simp[OO,B0,a]
theorem Aze:∀ (d:LI) (b:Int),(∀ x,b<=x->B0 d x=0)->∀ i,L d i 0=0
 | [],_,_,i=>by simp
 | c::d,b,h,i=>by
  have hc:c=0:=by
   have h1:=h (max b (A6 c+1)) (by omega);simp only[B0] at h1;have h2:(max b ((A6 c:Int)+1))∣c:=⟨-(B0 d (max b ((A6 c:Int)+1))),by rw[Int.mul_neg];omega⟩;rcases Int.lt_trichotomy c 0 with g | g | g
   ·have:=ACq (a:=max b ((A6 c:Int)+1)) (b := -c) (by omega) ((Int.dvd_neg).2 h2);omega
   ·exact g
   ·have:=ACq (a:=max b ((A6 c:Int)+1)) (b:=c) (by omega) h2;omega
  cases i with
  | zero=>simpa using hc
  | succ i =>
   have:=Aze d (max b 1) (fun x e=>by
    have h1:=h x (by omega);simp only[B0,hc,AFo] at h1;rcases Int.mul_eq_zero.1 h1 with g | g
    ·omega
    ·exact g) i
   simpa using this
theorem xO{p q:LI}(h:∀ x,B0 p x=B0 q x)(i:Nat):L p i 0=L q i 0:=by
 have:=Aze (IU p (I7 q)) 0 (fun x _=>by rw[LH,Pz,h x];omega) i;rw[NV,YI] at this;omega
theorem S3{p q:LI}(h:∀ x,B0 p x=B0 q x):l p=l q:=KL (xO h)
def W1(p q:LI):LI:=IU p (I7 q)
theorem xP(p q:LI)(x:Int):B0 (W1 p q) x=B0 p x-B0 q x:=by rw [W1,LH,Pz];omega
def YO(a:Int)(q:LI):LI:=q.map fun x=>a*x
theorem pF(a:Int)(q:LI)(x:Int):B0 (YO a q) x=a*B0 q x:=by
 induction q with
 | nil=>simp[YO,B0]
 | cons c q b =>
  have:YO a (c::q)=a*c::YO a q:=rfl;rw[this];simp only[B0,b];generalize B0 q x=y;grind
def LJ:LI->LI->LI
 | [],_=>[]
 | a::p,q=>IU (YO a q) (0::LJ p q)
theorem P2(p q:LI)(x:Int):B0 (LJ p q) x=B0 p x*B0 q x:=by
 induction p with
 | nil=>simp[LJ,B0]
 | cons a p b =>
  simp only[LJ,LH,pF,B0,b];generalize B0 q x=y;generalize B0 p x=z;grind
theorem S4(p q:LI):l (LJ p q)=LJ p q:=by
 cases p with
 | nil=>rfl
 | cons a p=>exact Sz _ _
theorem YP{k:Nat}{p:LI}(a:∀ x∈p,CP k x):∀ x∈I7 p,CP k x:=by
 intro x b;obtain⟨y,c,rfl⟩:=Cb.1 b;exact (a y c).neg
theorem YQ{k:Nat}{p:LI}(a:∀ x∈p,CP k x):∀ x∈l p,CP k x:=fun x b=>a x (Aqq b)
theorem Aqu(p:LI):C (I7 p)=C p:=by simp [I7]
theorem M_(xs:LI)(j:Nat)(x:Int):B0 (xs.take (j+1)) x=B0 (xs.take j) x+x^j*L xs j 0:=by
 induction xs generalizing j with
 | nil=>simp[B0]
 | cons p ps a =>
  cases j with
  | zero=>simp[B0]
  | succ j =>
   simp only[K3,B0,Bo,a j,FL];generalize x^j=q;generalize B0 (ps.take j) x=y;generalize L ps j 0=z;grind
def RB(rs ss os:Cx)(i:Nat):Nat->Cx
 | 0=>os
 | j+1=>(RB rs ss os i j).set (i+j) (cn (t (L (RB rs ss os i j) (i+j) z0)+t (L rs i z0)*t (L ss j z0)))
def LK(rs ss os:Cx)(m:Nat):Nat->Cx
 | 0=>os
 | i+1=>RB rs ss (LK rs ss os m i) i m
section
variable(rs ss os:Cx)
theorem P3(i j:Nat):C (RB rs ss os i j)=C os:=by
 induction j with
 | zero=>rfl
 | succ j a=>simp only[RB,AU,a]
theorem NW(m i:Nat):C (LK rs ss os m i)=C os:=by
 induction i with
 | zero=>rfl
 | succ i a=>rw[LK,P3,a]
theorem xQ(i j t:Nat)(h:i+j<=t):L (RB rs ss os i j) t z0=L os t z0:=by
 induction j with
 | zero=>rfl
 | succ j a =>
  rw[RB,Z,DX (by omega),<- Z];exact a (by omega)
end
theorem Aqv{K B:Nat}{rs ss os:Cx}(hr:∀ r∈rs,EB K r)(hs:∀ r∈ss,EB K r)(ho:∀ r∈os,EB B r)(b:2*K<=B)(i j:Nat):∀ r∈RB rs ss os i j,EB (B+1) r:=by
 induction j with
 | zero=>exact fun r h=>(ho r h).mono (by omega)
 | succ j a =>
  rw[RB];refine Aqo a ?_;rw[xQ _ _ _ _ _ _ (Ay _)];exact KV ((D7 ho _).fits.add (((D7 hr i).fits.mul (D7 hs j).fits).mono (by omega)))
theorem YR{K:Nat}{rs ss os:Cx}(hr:∀ r∈rs,EB K r)(hs:∀ r∈ss,EB K r)(ho:∀ r∈os,EB (2*K) r)(m i:Nat):∀ r∈LK rs ss os m i,EB (2*K+i) r:=by
 induction i with
 | zero=>exact ho
 | succ i a=>exact Aqv hr hs a (by omega) i m
theorem Aqw(rs ss os:Cx)(i:Nat)(x:Int):∀ j,i+j<=C os->B0 (vals (RB rs ss os i j)) x=B0 (vals os) x+x^i*(t (L rs i z0)*B0 ((vals ss).take j) x):=by
 intro j;induction j with
 | zero=>intro _;simp[RB,B0]
 | succ j a =>
  intro h;have h1:=a (by omega);rw[RB,Aqn,Ago _ _ _ _ (by rw[GD,P3];omega),h1,MZ,GE,M_,GE,Int.pow_add];generalize x^i=p;generalize x^j=q;generalize B0 ((vals ss).take j) x=y;grind
theorem Agp(rs ss:Cx)(m n:Nat)(x:Int):∀ i,i+m<=n+1->B0 (vals (LK rs ss (BP n z0) m i)) x=B0 ((vals rs).take i) x*B0 ((vals ss).take m) x:=by
 intro i;induction i with
 | zero=>intro _;simp[LK,xI,pE,B0]
 | succ i a =>
  intro h;rw[LK,Aqw _ _ _ _ _ _ (by rw[NW];simp;omega),a (by omega),M_,GE];generalize x^i=p;grind
theorem UO{p q:LI}(h:Cw q (C q)=0):LJ p q=[]:=by
 have h1:l q=[]:=by rw[l,h];rfl
 rw[<- S4];have:l (LJ p q)=l []:=S3 fun x=>by
  rw[P2,<- Pw q,h1];simp[B0]
 rw[this];rfl
end Go.Ai
namespace Go.Proofs.YtenfgdobfjofkaaGreat
open Go.Ai
set_option maxRecDepth 100000
open BitVec renaming ofInt->AT,ofInt_natCast->KE,toNat_ofNat->MI
open Bool renaming and_self->E8,false_and->Ea,false_eq_true->AC
open _root_.ByteArray renaming empty->Bw,size->C4
open Decidable renaming decide->G
open Go.Ai.AV renaming agg->M,bool->I,fresh->P,int->A,sl->E
open Go.Ai.Reg renaming box->T,own->Av,val->Ab
open Go.IntKind renaming bits->Co,i64->D,u32->Bd,u64->Ba,wrap->O
open Go.Proofs.Tryz renaming prog->g
open Int renaming fdiv->BA,fdiv_eq_ediv_of_nonneg->Gh,le_refl->kK,lt_tmod_of_pos->iQ,mul_le_mul_of_nonneg_left->C',mul_nonneg->FS,ofNat_le->Avj,tdiv->Dt,tdiv_eq_ediv_of_nonneg->Ko,tmod->Ch,tmod_lt_of_pos->O4,toNat->J
open Int.ofNat renaming inj->Amb
open List renaming append_assoc->Ci,append_nil->Df,drop->R,eq_of_mem_replicate->A8p,getD->L,getD_cons_succ->Bo,getD_cons_zero->Bj,getElem_mem->AF,length->C,length_append->Ah,length_replicate->Abx,length_set->AU,map_append->DU,map_cons->Bg,map_nil->C1,mem_append->AK,mem_cons->Aw,mem_or_eq_of_mem_set->WP,mem_singleton->AP,not_mem_nil->A3,replicate->BP,sublist_append_left->lZ
open List.Sublist renaming refl->RF
open Nat renaming beq->AKi,eq_of_beq_eq_true->Ao,le_refl->Ay,le_trans->AA,mod_eq_of_lt->Io,mul_one->L3,ne_of_gt->AHb,pow_succ->Ta
noncomputable section
noncomputable section
theorem A9e:g.follows .mixedOrders=true:=by kernel_rfl
def Azf:List (Nat × Fx):=[(3,Yx3),(9,Yu),(10,O7),(11,Axs),(12,Yv),(13,O8),(16,Tu),(17,Tv),(25,ACh),(33,Yx33),(36,ACi)]
def Azg:List (Nat × Fx):=[(37,ACj),(38,Alq),(39,Yx39),(40,Tw),(41,ACk),(42,ACl),(43,ACm),(44,ACn),(45,Yw),(46,O9),(47,Axt)]
def Azh:List (Nat × Fx):=[(48,Kr),(49,Pn),(50,lM),(51,Aeo),(52,Axu),(53,OA),(54,ACo),(55,Yx55),(56,Yx56),(57,Yx57),(58,Yx58)]
def Azi:List (Nat × Fx):=[(59,Yx59),(60,Yx60),(61,Yx61),(62,Yx62),(63,Yx63),(64,Yx64),(65,Yx65),(66,Yx66),(67,Tx),(68,Yx68),(76,Yx76),(79,wW)]
def Azj:List (Nat × Fx):=[(99,Yx99),(106,Axv),(108,AFv),(117,Axw),(118,AFw),(119,AFx),(120,Pm),(121,Sn),(122,Mw),(123,Pn),(124,Yx)]
def Azk:List (Nat × Fx):=[(126,Axx),(127,Axy),(128,Axz),(129,Aya),(130,Ayb),(131,Jv),(132,Afw),(133,AFy),(134,AFz),(135,AGa),(136,AGb)]
def Azl:List (Nat × Fx):=[(137,AGc),(138,AGd),(139,AGe),(140,AGf),(141,AGg),(142,AGh),(143,Ayc),(144,AGi),(145,AGj),(146,AGk),(147,AGl),(148,AGm)]
def Azm:List (Nat × Fx):=[(149,AGn),(150,AGo),(151,Ayd),(152,oP),(153,oQ),(154,AGp),(155,AGq),(169,Aye),(170,Afx),(171,Ayf),(172,Ayg)]
def Azn:List (Nat × Fx):=[(173,UG),(175,Afy),(176,AGr),(177,Ayh),(178,Afz),(192,AGs),(209,Ayi),(211,Aga),(220,Mx),(221,AGt),(222,AGu)]
def Alx:List (Nat × Fx):=[(224,Agb),(225,AGv),(226,AGw),(227,oR),(228,oS),(229,AGx),(245,Ayj),(246,oT),(247,Agc),(248,Agd),(289,Age),(290,Agf)]
def ACr:List (Nat × Fx):=Azf++Azg++Azh++Azi++Azj++Azk++Azl++Azm++Azn++Alx
def Yaw:IFunc:=⟨0,1,[.tmp 0],.region false [o1 0 (.mov (.c (I true)))]⟩
def YS:IFunc:=⟨1,5,[.tmp 1],.seq (.region false [o1 2 (.bin .eql (.t 0) (.c (A D 1)))]) (.cond (.t 2) (.region false [o1 1 (.mov (.c (.str ⟨#[49]⟩)))]) (.seq (.region false [o1 3 (.bin .eql (.t 0) (.c (A D 2)))]) (.cond (.t 3) (.region false [o1 1 (.mov (.c (.str ⟨#[50]⟩)))]) (.seq (.region false [o1 4 (.bin .eql (.t 0) (.c (A D 3)))]) (.cond (.t 4) (.region false [o1 1 (.mov (.c (.str ⟨#[51]⟩)))]) (.region false [o1 1 .bad]))))))⟩
def CQ(f:Nat):Option IFunc:=cond (AKi f 8) (some Yaw) (cond (AKi f 116) (some YS) ((lk ACr f).map (iF g)))
theorem T6{α:Type}{p:α->Bool}{l m:List α}(h:l.all p=true)(g:m.all p=true):(l++m).all p=true:=by rw [List.all_append,h,g];rfl
theorem Aqx:Azf.all (UF g)=true:=by kernel_rfl
theorem Aqy:Azg.all (UF g)=true:=by kernel_rfl
theorem Aqz:Azh.all (UF g)=true:=by kernel_rfl
theorem Ara:Azi.all (UF g)=true:=by kernel_rfl
theorem Arb:Azj.all (UF g)=true:=by kernel_rfl
theorem Arc:Azk.all (UF g)=true:=by kernel_rfl
theorem Ard:Azl.all (UF g)=true:=by kernel_rfl
theorem Are:Azm.all (UF g)=true:=by kernel_rfl
theorem Arf:Azn.all (UF g)=true:=by kernel_rfl
theorem Agq:Alx.all (UF g)=true:=by kernel_rfl
theorem Azo:ACr.all (UF g)=true:=T6 (T6 (T6 (T6 (T6 (T6 (T6 (T6 (T6 (Aqx) Aqy) Aqz) Ara) Arb) Arc) Ard) Are) Arf) Agq
theorem A9f(f:Nat)(ifn:IFunc)(h:CQ f=some ifn):(∃ fn roots,g.funcs[f]? = some fn/\lJ g roots fn ifn=true)\/(f=8/\ifn=Yaw)\/(f=116/\ifn=YS):=by
 unfold CQ at h;cases hb:AKi f 8 <;> rw[hb] at h
 ·cases hd:AKi f 116 <;> rw[hd] at h
  ·exact .inl (Axr Azo f ifn h)
  ·cases h;exact .inr (.inr ⟨Ao hd,rfl⟩)
 ·cases h;exact .inr (.inl ⟨Ao hb,rfl⟩)
abbrev RQ:=FW CQ
abbrev Aa:=BR CQ
theorem K4(x:Fx){f:Nat}{args:u}{r:AV}(s:H)(h:BR CQ (iF g x).body (CL (iF g x) args) .ret s)(hf:CQ f=some (iF g x):=by exact rfl)(hl:C args=x.params:=by exact rfl)(hr:FU s x.res=some r:=by exact rfl):FW CQ f args r:=B6 hf hl h (by nofun) hr
end
theorem CT:Be CQ []:=Be.nil _
section
variable(l:LI)
theorem A9g  : RQ 36 [E (C l) (li l)] (.gb (c l 0)):=ALa (fn:=iF g ACi) CT rfl [] a0
theorem Arg(p n:Int)(c1:G (p>=(C l:Int))=true):RQ 38 [.gb (c l p),A D n] (.io (c l p) (A D 0)):=ALa (fn:=iF g Alq) CT rfl [bT] (Bc c1)
theorem Arh(p n:Int)(c1:G (p>=(C l:Int))=false)(c2:G (Ch (L l (J p) 0) n<0)=true)(F:0<=p/\p<C l)(N:¬ n=0):RQ 38 [.gb (c l p),A D n] (.io (c l (O D (p+1))) (A D (O D (Ch (L l (J p) 0) n+n)))):=ALa (fn:=iF g Alq) CT rfl [Y,.v (A D (L l (J p) 0)),bT] (Fh c1 F (b F) N c2)
theorem Ari(p n:Int)(c1:G (p>=(C l:Int))=false)(c2:G (Ch (L l (J p) 0) n<0)=false)(F:0<=p/\p<C l)(N:¬ n=0):RQ 38 [.gb (c l p),A D n] (.io (c l (O D (p+1))) (A D (Ch (L l (J p) 0) n))):=ALa (fn:=iF g Alq) CT rfl [Y,.v (A D (L l (J p) 0)),Y] (Fh c1 F (b F) N c2)
theorem A9h(a b B e W:Int)(F:RQ 38 [.gb (c l B),A D (O D (O D (b-a)+1))] (.io (c l e) (A D W))):RQ 37 [.gb (c l B),A D a,A D b] (.io (c l e) (A D (O D (a+W)))):=ALa (fn:=iF g ACj) CT rfl [.r (.io (c l e) (A D W))] (Bc F)
theorem A9i(B e W h i:Int)(F:RQ 37 [.gb (c l B),A D (-50),A D 50] (.io (c l e) (A D W)))(N:RQ 37 [.gb (c l e),A D (-50),A D 50] (.io (c l h) (A D i))):RQ 42 [.gb (c l B)] (.io (c l h) (M [A D (O D (50*W)),A D (O D (50*i))])):=ALa (fn:=iF g ACl) CT rfl [.r (.io (c l e) (A D W)),.r (.io (c l h) (A D i))] (Gd F N)
theorem Arj(B e j k h i m f o d q s t u w x y z H K X Z:Int)(c1:(O D (10*i)==0&&(O D (10*f)==0&&true))=true)(c2:(d != 1)=true)(c3:(d==4)=true)(F:RQ 42 [.gb (c l B)] (.io (c l e) (M [A D j,A D k])))(N:RQ 37 [.gb (c l e),A D (-90),A D 90] (.io (c l h) (A D i)))(P:RQ 37 [.gb (c l h),A D (-90),A D 90] (.io (c l m) (A D f)))(Q:RQ 37 [.gb (c l m),A D 1,A D 4] (.io (c l o) (A D d)))(R:RQ 38 [.gb (c l o),A D 16] (.io (c l q) (A D s)))(S:RQ 38 [.gb (c l q),A D 4] (.io (c l t) (A D u)))(T:RQ 38 [.gb (c l t),A D 6] (.io (c l w) (A D x)))(U:RQ 37 [.gb (c l w),A D (-1),A D 9] (.io (c l y) (A D z)))(V:RQ 38 [.gb (c l y),A D 4] (.io (c l H) (A D K)))(a1:RQ 38 [.gb (c l H),A D 8] (.io (c l X) (A D Z))):RQ 40 [.gb (c l B)] (.io (c l X) (M [.str Bw,A D d,A D 0,A D j,A D k,A D (O D (j+400)),A D (O D (k+O D (10*f))),A D s,A D u,A D (O D (50*Z)),A D (O D (20*x)),A D K,A D z])):=ALa (fn:=iF g Tw) CT rfl [.r (.io (c l e) (M [A D j,A D k])),.r (.io (c l h) (A D i)),.r (.io (c l m) (A D f)),bT,.r (.io (c l o) (A D d)),.r (.io (c l q) (A D s)),.r (.io (c l t) (A D u)),.r (.io (c l w) (A D x)),.r (.io (c l y) (A D z)),bT,.r (.io (c l H) (A D K)),bT,.r (.io (c l X) (A D Z))] (Ec F N P c1 Q R S T (Fh U c2 V c3 a1))
theorem Ark(B e j k h i m f o d q s t u w x y z H K:Int)(c1:(O D (10*i)==0&&(O D (10*f)==0&&true))=true)(c2:(d != 1)=true)(c3:(d==4)=false)(F:RQ 42 [.gb (c l B)] (.io (c l e) (M [A D j,A D k])))(N:RQ 37 [.gb (c l e),A D (-90),A D 90] (.io (c l h) (A D i)))(P:RQ 37 [.gb (c l h),A D (-90),A D 90] (.io (c l m) (A D f)))(Q:RQ 37 [.gb (c l m),A D 1,A D 4] (.io (c l o) (A D d)))(R:RQ 38 [.gb (c l o),A D 16] (.io (c l q) (A D s)))(S:RQ 38 [.gb (c l q),A D 4] (.io (c l t) (A D u)))(T:RQ 38 [.gb (c l t),A D 6] (.io (c l w) (A D x)))(U:RQ 37 [.gb (c l w),A D (-1),A D 9] (.io (c l y) (A D z)))(V:RQ 38 [.gb (c l y),A D 4] (.io (c l H) (A D K))):RQ 40 [.gb (c l B)] (.io (c l H) (M [.str Bw,A D d,A D 0,A D j,A D k,A D (O D (j+400)),A D (O D (k+O D (10*f))),A D s,A D u,A D 0,A D (O D (20*x)),A D K,A D z])):=ALa (fn:=iF g Tw) CT rfl [.r (.io (c l e) (M [A D j,A D k])),.r (.io (c l h) (A D i)),.r (.io (c l m) (A D f)),bT,.r (.io (c l o) (A D d)),.r (.io (c l q) (A D s)),.r (.io (c l t) (A D u)),.r (.io (c l w) (A D x)),.r (.io (c l y) (A D z)),bT,.r (.io (c l H) (A D K)),Y] (Em F N P c1 Q R S T U c2 V c3)
theorem Arl(B e j k h i m f o d q s t u w x y z H K:Int)(c1:(O D (10*i)==0&&(O D (10*f)==0&&true))=true)(c2:(d != 1)=false)(c3:(d==4)=true)(F:RQ 42 [.gb (c l B)] (.io (c l e) (M [A D j,A D k])))(N:RQ 37 [.gb (c l e),A D (-90),A D 90] (.io (c l h) (A D i)))(P:RQ 37 [.gb (c l h),A D (-90),A D 90] (.io (c l m) (A D f)))(Q:RQ 37 [.gb (c l m),A D 1,A D 4] (.io (c l o) (A D d)))(R:RQ 38 [.gb (c l o),A D 16] (.io (c l q) (A D s)))(S:RQ 38 [.gb (c l q),A D 4] (.io (c l t) (A D u)))(T:RQ 38 [.gb (c l t),A D 6] (.io (c l w) (A D x)))(U:RQ 37 [.gb (c l w),A D (-1),A D 9] (.io (c l y) (A D z)))(V:RQ 38 [.gb (c l y),A D 8] (.io (c l H) (A D K))):RQ 40 [.gb (c l B)] (.io (c l H) (M [.str Bw,A D d,A D 0,A D j,A D k,A D (O D (j+400)),A D (O D (k+O D (10*f))),A D s,A D u,A D (O D (50*K)),A D (O D (20*x)),A D (-1),A D z])):=ALa (fn:=iF g Tw) CT rfl [.r (.io (c l e) (M [A D j,A D k])),.r (.io (c l h) (A D i)),.r (.io (c l m) (A D f)),bT,.r (.io (c l o) (A D d)),.r (.io (c l q) (A D s)),.r (.io (c l t) (A D u)),.r (.io (c l w) (A D x)),.r (.io (c l y) (A D z)),Y,bT,.r (.io (c l H) (A D K))] (Em F N P c1 Q R S T U c2 c3 V)
theorem Arm(B e j k h i m f o d q s t u w x y z:Int)(c1:(O D (10*i)==0&&(O D (10*f)==0&&true))=true)(c2:(d != 1)=false)(c3:(d==4)=false)(F:RQ 42 [.gb (c l B)] (.io (c l e) (M [A D j,A D k])))(N:RQ 37 [.gb (c l e),A D (-90),A D 90] (.io (c l h) (A D i)))(P:RQ 37 [.gb (c l h),A D (-90),A D 90] (.io (c l m) (A D f)))(Q:RQ 37 [.gb (c l m),A D 1,A D 4] (.io (c l o) (A D d)))(R:RQ 38 [.gb (c l o),A D 16] (.io (c l q) (A D s)))(S:RQ 38 [.gb (c l q),A D 4] (.io (c l t) (A D u)))(T:RQ 38 [.gb (c l t),A D 6] (.io (c l w) (A D x)))(U:RQ 37 [.gb (c l w),A D (-1),A D 9] (.io (c l y) (A D z))):RQ 40 [.gb (c l B)] (.io (c l y) (M [.str Bw,A D d,A D 0,A D j,A D k,A D (O D (j+400)),A D (O D (k+O D (10*f))),A D s,A D u,A D 0,A D (O D (20*x)),A D (-1),A D z])):=ALa (fn:=iF g Tw) CT rfl [.r (.io (c l e) (M [A D j,A D k])),.r (.io (c l h) (A D i)),.r (.io (c l m) (A D f)),bT,.r (.io (c l o) (A D d)),.r (.io (c l q) (A D s)),.r (.io (c l t) (A D u)),.r (.io (c l w) (A D x)),.r (.io (c l y) (A D z)),Y,Y] (G3 F N P c1 Q R S T U c2 c3)
theorem Arn(B e j k h i m f o d q s t u w x y z H K X Z:Int)(c1:(O D (10*i)==0&&(O D (10*f)==0&&true))=false)(c2:(d != 1)=true)(c3:(d==4)=true)(F:RQ 42 [.gb (c l B)] (.io (c l e) (M [A D j,A D k])))(N:RQ 37 [.gb (c l e),A D (-90),A D 90] (.io (c l h) (A D i)))(P:RQ 37 [.gb (c l h),A D (-90),A D 90] (.io (c l m) (A D f)))(Q:RQ 37 [.gb (c l m),A D 1,A D 4] (.io (c l o) (A D d)))(R:RQ 38 [.gb (c l o),A D 16] (.io (c l q) (A D s)))(S:RQ 38 [.gb (c l q),A D 4] (.io (c l t) (A D u)))(T:RQ 38 [.gb (c l t),A D 6] (.io (c l w) (A D x)))(U:RQ 37 [.gb (c l w),A D (-1),A D 9] (.io (c l y) (A D z)))(V:RQ 38 [.gb (c l y),A D 4] (.io (c l H) (A D K)))(a1:RQ 38 [.gb (c l H),A D 8] (.io (c l X) (A D Z))):RQ 40 [.gb (c l B)] (.io (c l X) (M [.str Bw,A D d,A D 0,A D j,A D k,A D (O D (j+O D (10*i))),A D (O D (k+O D (10*f))),A D s,A D u,A D (O D (50*Z)),A D (O D (20*x)),A D K,A D z])):=ALa (fn:=iF g Tw) CT rfl [.r (.io (c l e) (M [A D j,A D k])),.r (.io (c l h) (A D i)),.r (.io (c l m) (A D f)),Y,.r (.io (c l o) (A D d)),.r (.io (c l q) (A D s)),.r (.io (c l t) (A D u)),.r (.io (c l w) (A D x)),.r (.io (c l y) (A D z)),bT,.r (.io (c l H) (A D K)),bT,.r (.io (c l X) (A D Z))] (Ec F N P c1 Q R S T (Fh U c2 V c3 a1))
theorem Aro(B e j k h i m f o d q s t u w x y z H K:Int)(c1:(O D (10*i)==0&&(O D (10*f)==0&&true))=false)(c2:(d != 1)=true)(c3:(d==4)=false)(F:RQ 42 [.gb (c l B)] (.io (c l e) (M [A D j,A D k])))(N:RQ 37 [.gb (c l e),A D (-90),A D 90] (.io (c l h) (A D i)))(P:RQ 37 [.gb (c l h),A D (-90),A D 90] (.io (c l m) (A D f)))(Q:RQ 37 [.gb (c l m),A D 1,A D 4] (.io (c l o) (A D d)))(R:RQ 38 [.gb (c l o),A D 16] (.io (c l q) (A D s)))(S:RQ 38 [.gb (c l q),A D 4] (.io (c l t) (A D u)))(T:RQ 38 [.gb (c l t),A D 6] (.io (c l w) (A D x)))(U:RQ 37 [.gb (c l w),A D (-1),A D 9] (.io (c l y) (A D z)))(V:RQ 38 [.gb (c l y),A D 4] (.io (c l H) (A D K))):RQ 40 [.gb (c l B)] (.io (c l H) (M [.str Bw,A D d,A D 0,A D j,A D k,A D (O D (j+O D (10*i))),A D (O D (k+O D (10*f))),A D s,A D u,A D 0,A D (O D (20*x)),A D K,A D z])):=ALa (fn:=iF g Tw) CT rfl [.r (.io (c l e) (M [A D j,A D k])),.r (.io (c l h) (A D i)),.r (.io (c l m) (A D f)),Y,.r (.io (c l o) (A D d)),.r (.io (c l q) (A D s)),.r (.io (c l t) (A D u)),.r (.io (c l w) (A D x)),.r (.io (c l y) (A D z)),bT,.r (.io (c l H) (A D K)),Y] (Em F N P c1 Q R S T U c2 V c3)
theorem Arp(B e j k h i m f o d q s t u w x y z H K:Int)(c1:(O D (10*i)==0&&(O D (10*f)==0&&true))=false)(c2:(d != 1)=false)(c3:(d==4)=true)(F:RQ 42 [.gb (c l B)] (.io (c l e) (M [A D j,A D k])))(N:RQ 37 [.gb (c l e),A D (-90),A D 90] (.io (c l h) (A D i)))(P:RQ 37 [.gb (c l h),A D (-90),A D 90] (.io (c l m) (A D f)))(Q:RQ 37 [.gb (c l m),A D 1,A D 4] (.io (c l o) (A D d)))(R:RQ 38 [.gb (c l o),A D 16] (.io (c l q) (A D s)))(S:RQ 38 [.gb (c l q),A D 4] (.io (c l t) (A D u)))(T:RQ 38 [.gb (c l t),A D 6] (.io (c l w) (A D x)))(U:RQ 37 [.gb (c l w),A D (-1),A D 9] (.io (c l y) (A D z)))(V:RQ 38 [.gb (c l y),A D 8] (.io (c l H) (A D K))):RQ 40 [.gb (c l B)] (.io (c l H) (M [.str Bw,A D d,A D 0,A D j,A D k,A D (O D (j+O D (10*i))),A D (O D (k+O D (10*f))),A D s,A D u,A D (O D (50*K)),A D (O D (20*x)),A D (-1),A D z])):=ALa (fn:=iF g Tw) CT rfl [.r (.io (c l e) (M [A D j,A D k])),.r (.io (c l h) (A D i)),.r (.io (c l m) (A D f)),Y,.r (.io (c l o) (A D d)),.r (.io (c l q) (A D s)),.r (.io (c l t) (A D u)),.r (.io (c l w) (A D x)),.r (.io (c l y) (A D z)),Y,bT,.r (.io (c l H) (A D K))] (Em F N P c1 Q R S T U c2 c3 V)
theorem Arq(B e j k h i m f o d q s t u w x y z:Int)(c1:(O D (10*i)==0&&(O D (10*f)==0&&true))=false)(c2:(d != 1)=false)(c3:(d==4)=false)(F:RQ 42 [.gb (c l B)] (.io (c l e) (M [A D j,A D k])))(N:RQ 37 [.gb (c l e),A D (-90),A D 90] (.io (c l h) (A D i)))(P:RQ 37 [.gb (c l h),A D (-90),A D 90] (.io (c l m) (A D f)))(Q:RQ 37 [.gb (c l m),A D 1,A D 4] (.io (c l o) (A D d)))(R:RQ 38 [.gb (c l o),A D 16] (.io (c l q) (A D s)))(S:RQ 38 [.gb (c l q),A D 4] (.io (c l t) (A D u)))(T:RQ 38 [.gb (c l t),A D 6] (.io (c l w) (A D x)))(U:RQ 37 [.gb (c l w),A D (-1),A D 9] (.io (c l y) (A D z))):RQ 40 [.gb (c l B)] (.io (c l y) (M [.str Bw,A D d,A D 0,A D j,A D k,A D (O D (j+O D (10*i))),A D (O D (k+O D (10*f))),A D s,A D u,A D 0,A D (O D (20*x)),A D (-1),A D z])):=ALa (fn:=iF g Tw) CT rfl [.r (.io (c l e) (M [A D j,A D k])),.r (.io (c l h) (A D i)),.r (.io (c l m) (A D f)),Y,.r (.io (c l o) (A D d)),.r (.io (c l q) (A D s)),.r (.io (c l t) (A D u)),.r (.io (c l w) (A D x)),.r (.io (c l y) (A D z)),Y,Y] (G3 F N P c1 Q R S T U c2 c3)
theorem A9j(B e W h x2 y2 m f o d q s t u w x y z H K X Z a2 a3 a4 a5:Int)(F:RQ 37 [.gb (c l B),A D (-120),A D 60] (.io (c l e) (A D W)))(N:RQ 42 [.gb (c l e)] (.io (c l h) (M [A D x2,A D y2])))(P:RQ 37 [.gb (c l h),A D 300,A D 1000] (.io (c l m) (A D f)))(Q:RQ 38 [.gb (c l m),A D 2] (.io (c l o) (A D d)))(R:RQ 37 [.gb (c l o),A D 20,A D 120] (.io (c l q) (A D s)))(S:RQ 37 [.gb (c l q),A D 1,A D 12] (.io (c l t) (A D u)))(T:RQ 37 [.gb (c l t),A D 1,A D 6] (.io (c l w) (A D x)))(U:RQ 37 [.gb (c l w),A D 4,A D 40] (.io (c l y) (A D z)))(V:RQ 38 [.gb (c l y),A D 16] (.io (c l H) (A D K)))(a1:RQ 38 [.gb (c l H),A D 3] (.io (c l X) (A D Z)))(a6:RQ 38 [.gb (c l X),A D 4] (.io (c l a2) (A D a3)))(a7:RQ 37 [.gb (c l a2),A D (-1),A D 9] (.io (c l a4) (A D a5))):RQ 44 [.gb (c l B)] (.io (c l a4) (M [.str Bw,A D 0,A D x2,A D y2,A D f,I (d==1),A D W,A D (O D (W+s)),A D u,A D x,A D z,A D K,A D Z,A D a3,A D a5])):=ALa (fn:=iF g ACn) CT rfl [.r (.io (c l e) (A D W)),.r (.io (c l h) (M [A D x2,A D y2])),.r (.io (c l m) (A D f)),.r (.io (c l o) (A D d)),.r (.io (c l q) (A D s)),.r (.io (c l t) (A D u)),.r (.io (c l w) (A D x)),.r (.io (c l y) (A D z)),.r (.io (c l H) (A D K)),.r (.io (c l X) (A D Z)),.r (.io (c l a2) (A D a3)),.r (.io (c l a4) (A D a5))] (Em F N P Q R S T U V a1 a6 a7)
end
def UP:u:=[A D 5,A D 0,A D 4,A D 3,A D 3,A D 4,A D 0,A D 5,A D (-3),A D 4,A D (-4),A D 3,A D (-5),A D 0,A D (-4),A D (-3),A D (-3),A D (-4),A D 0,A D (-5),A D 3,A D (-4),A D 4,A D (-3)]
theorem Azp:RQ 117 [] (P 2 12 UP):=ALa (fn:=iF g Axw) CT rfl [] a0
theorem A9k(l:LI)(a z i b j e k d m f h n o p q s t u w x y:Int)(B:0<=b/\b<((12:Nat):Int))(C:0<=Ch (O D (b+e)) 12/\Ch (O D (b+e)) 12<((12:Nat):Int))(E:RQ 38 [.gb (c l z),A D 12] (.io (c l i) (A D b)))(F:RQ 37 [.gb (c l i),A D 1,A D 4] (.io (c l j) (A D e)))(G:RQ 38 [.gb (c l j),A D 200] (.io (c l k) (A D d)))(H:RQ 42 [.gb (c l k)] (.io (c l m) (M [A D f,A D h])))(I:Ad (R (J b*2) UP) 0 2 false=some (M [A D u,A D w]))(K:Ad (R (J (Ch (O D (b+e)) 12)*2) UP) 0 2 false=some (M [A D x,A D y]))(L:RQ 38 [.gb (c l m),A D 16] (.io (c l n) (A D o)))(N:RQ 38 [.gb (c l n),A D 4] (.io (c l p) (A D q)))(Q:RQ 37 [.gb (c l p),A D (-1),A D 9] (.io (c l s) (A D t))):RQ 43 [.gb (c l z),A D a] (.io (c l s) (M [.str Bw,A D 0,A D f,A D h,A D (O D (f+O D (O D (O D (O D (Dt a 5)+1)+d)*u))),A D (O D (h+O D (O D (O D (O D (Dt a 5)+1)+d)*w))),A D (O D (f+O D (O D (O D (O D (Dt a 5)+1)+d)*x))),A D (O D (h+O D (O D (O D (O D (Dt a 5)+1)+d)*y))),A D o,A D q,A D 0,A D t])):=ALa (fn:=iF g ACm) CT rfl [.r (P 2 12 UP),.r (.io (c l i) (A D b)),.r (.io (c l j) (A D e)),.r (.io (c l k) (A D d)),.r (.io (c l m) (M [A D f,A D h])),.v (M [A D u,A D w]),.v (M [A D x,A D y]),.r (.io (c l n) (A D o)),.r (.io (c l p) (A D q)),.r (.io (c l s) (A D t))] (Ec (show RQ 117 [] (P 2 12 UP) from Azp) E F (show ¬ (5:Int)=0 from (by decide)) G H B I (EP (show ¬ (12:Int)=0 from (by decide)) C K L N Q))
theorem pG(s t:ByteArray)(a:Int)(b:C4 s+C4 t<=9223372036854775807)(c:RQ 116 [A D a] (.str t)):RQ 41 [.str s,A D a] (.str (s++t)):=ALa (fn:=iF g ACk) CT rfl [.r (.str t)] (Gd c b)
theorem Bp:Be CQ []:=Be.nil _
def yB(a b:Int):List El:=[⟨⟨#[115,111,117,116,104]⟩,[1,0,O D (0-a),O D (0-a),a,O D (0-a),b,0,0,0,-1,-1],false⟩,
 ⟨⟨#[101,97,115,116]⟩,[1,0,a,O D (0-a),a,a,b,0,0,0,-1,-1],false⟩,
 ⟨⟨#[110,111,114,116,104]⟩,[1,0,a,a,O D (0-a),a,b,0,0,0,-1,-1],false⟩,
 ⟨⟨#[119,101,115,116]⟩,[1,0,O D (0-a),a,O D (0-a),O D (0-a),b,0,0,0,-1,-1],false⟩]
def Zg(a b:Int):u:=F cW (yB a b)
theorem Amj(a b:Int):RQ 39 [A D a,A D b] (P 13 4 (Zg a b)):=⟨400,by kernel_rfl⟩
def A0u(t:Tbl)(l:LI)(a:Int):H:=V 2 (T [A D 0,A D 0,A D 0,A D 0,A D 0,A D 0,A D 0,E 0 [],E 0 [],E 0 [],E 0 [],E 0 [],E 0 [],E 0 [],E 0 [],E 0 [],E 0 [],E 0 []]::T [E (C l) (li l),A D a]::T [A D t.r0,A D t.r1,A D t.r2,A D t.r3,A D t.r4,A D t.r5,A D t.r6,.nil,.nil,.nil,.nil,.nil,.nil,.nil,.nil,.nil,.nil,.nil]::V 144 [])
def AEl(l:LI):H:=Ab (E (C l) (li l))::V 1 (T [A D 0,A D 0,A D 0,A D 0,A D 0,A D 0,A D 0,E 0 [],E 0 [],E 0 [],E 0 [],E 0 [],E 0 [],E 0 [],E 0 [],E 0 [],E 0 [],E 0 []]::V 146 [])
def AEm(l:LI)(a:Int):H:=V 2 (T [A D 0,A D 0,A D 0,A D 0,A D 0,A D 0,A D 0,E 0 [],E 0 [],E 0 [],E 0 [],E 0 [],E 0 [],E 0 [],E 0 [],E 0 [],E 0 [],E 0 []]::T [E (C l) (li l),A D a]::V 145 [])
def A0v:ICode := .region false (i (Ca Yu 98 2))
theorem Arx(l:LI)   : Aa A0v (CL (iF g Yu) [E (C l) (li l)]) .norm (AEl l):=B Bp [] [0,2] a0
def A0w:ICode := .region false (i (Ca Yu 97 6))
theorem Ary(l:LI)   : Aa A0w (AEl l) .norm (AEm l 0):=B Bp [.r (.gb (c l 0))] [2,3] (Bc (show RQ 36 [E (C l) (li l)] (.gb (c l 0)) from A9g l))
def A0x:ICode := .region false (i (Ca Yu 96 14))
theorem Arz(l:LI)(q a b d e f g h i j k m n o p:Int)(t:Tbl)(s:RQ 37 [.gb (c l q),A D 64,A D 200] (.io (c l a) (A D b)))(u:RQ 37 [.gb (c l a),A D 1,A D 3] (.io (c l d) (A D e)))(v:RQ 38 [.gb (c l d),A D 16] (.io (c l f) (A D g)))(w:RQ 37 [.gb (c l f),A D (-3),A D 3] (.io (c l h) (A D i)))(x:RQ 38 [.gb (c l h),A D 30] (.io (c l j) (A D k)))(y:RQ 38 [.gb (c l j),A D 3] (.io (c l m) (A D n)))(z:RQ 37 [.gb (c l m),A D 2,A D 8] (.io (c l o) (A D p))):Aa A0x (AEm l q) .norm (A0u ({ t with r0:=b,r1:=e,r2:=g,r3:=i,r4:=O D (0-k),r5:=O D (5*n),r6:=p }) l o):=B Bp [.r (.io (c l a) (A D b)),.r (.io (c l d) (A D e)),.r (.io (c l f) (A D g)),.r (.io (c l h) (A D i)),.r (.io (c l j) (A D k)),.r (.io (c l m) (A D n)),.r (.io (c l o) (A D p))] [2,3,4] (Gs s u v w x y z)
section
variable(t:Tbl)(l:LI)(a:Int)
def A0y(i:Int):H:=V 2 (T [A D 0,A D 0,A D 0,A D 0,A D 0,A D 0,A D 0,E 0 [],E 0 [],E 0 [],E 0 [],E 0 [],E 0 [],E 0 [],E 0 [],E 0 [],E 0 [],E 0 []]::T [E (C l) (li l),A D a]::T [A D t.r0,A D t.r1,A D t.r2,A D t.r3,A D t.r4,A D t.r5,A D t.r6,.nil,.nil,.nil,.nil,.nil,.nil,.nil,.nil,.nil,.nil,.nil]::vi i::V 143 [])
def Oa(os:LI)(i:Int):H:=V 2 (T [A D 0,A D 0,A D 0,A D 0,A D 0,A D 0,A D 0,E 0 [],E 0 [],E 0 [],E 0 [],E 0 [],E 0 [],E 0 [],E 0 [],E 0 [],E 0 [],E 0 []]::T [E (C l) (li l),A D a]::.bxh [A D t.r0,A D t.r1,A D t.r2,A D t.r3,A D t.r4,A D t.r5,A D t.r6,.undef,.nil,.nil,.nil,.nil,.nil,.nil,.nil,.nil,.nil,.nil] [(7,44)]::vi i::V 38 (Av 1 (C os) (F cI os)::V 104 []))
def pP(b:Nat)(co:u)(i:Int):H:=V 2 (T [A D 0,A D 0,A D 0,A D 0,A D 0,A D 0,A D 0,E 0 [],E 0 [],E 0 [],E 0 [],E 0 [],E 0 [],E 0 [],E 0 [],E 0 [],E 0 [],E 0 []]::T [E (C l) (li l),A D a]::.bxh [A D t.r0,A D t.r1,A D t.r2,A D t.r3,A D t.r4,A D t.r5,A D t.r6,.undef,.nil,.nil,.nil,.nil,.nil,.nil,.nil,.nil,.nil,.nil] [(7,44)]::vi i::V 38 (Av 1 b co::V 104 []))
end
def PD:ICode:=Ca Yu 92 244
section
variable(t:Tbl)(l:LI)(a:Int)
theorem yC(i:Int)(c1:G (i<t.r1)=true):Aa PD (A0y t l a i) .norm (pP t l a 1 ([A D (O D (10+i))]:u) (O D (i+1))):=B Bp [bT] [2,3,4,5,44] (Fa c1 (show C ([A D (O D (10+i))]:u)=1*1 from rfl) Ck)
theorem pQ(os:LI)(i:Int)(c1:G (i<t.r1)=true)(b:C os+1<=1048576):Aa PD (Oa t l a os i) .norm (pP t l a (C os+1) (F cI os++([A D (O D (10+i))]:u)) (O D (i+1))):=B Bp [bT] [2,3,4,5,44] (Fa c1 (show C ([A D (O D (10+i))]:u)=1*1 from rfl) b)
theorem pR(os:LI)(i:Int)(c1:G (i<t.r1)=false):Aa PD (Oa t l a os i) xZ0 (Oa t l a os i):=B Bp [Y] [2,3,4,5,44] (Bc c1)
def A0z(os:LI):H:=V 2 (T [A D 0,A D 0,A D 0,A D 0,A D 0,A D 0,A D 0,E 0 [],E 0 [],E 0 [],E 0 [],E 0 [],E 0 [],E 0 [],E 0 [],E 0 [],E 0 [],E 0 []]::T [E (C l) (li l),A D a]::.bxh [A D t.r0,A D t.r1,A D t.r2,A D t.r3,A D t.r4,A D t.r5,A D t.r6,.undef,.nil,.nil,.nil,.nil,.nil,.nil,.nil,.nil,.nil,.nil] [(7,44)]::V 39 (Av 1 (C os) (F cI os)::V 104 []))
def Ys9c(c:Bool):H:=V 2 (T [A D 0,A D 0,A D 0,A D 0,A D 0,A D 0,A D 0,E 0 [],E 0 [],E 0 [],E 0 [],E 0 [],E 0 [],E 0 [],E 0 [],E 0 [],E 0 [],E 0 []]::T [E (C l) (li l),A D a]::T [A D t.r0,A D t.r1,A D t.r2,A D t.r3,A D t.r4,A D t.r5,A D t.r6,E (C t.tr) (F cI t.tr),.nil,.nil,.nil,.nil,.nil,.nil,.nil,.nil,.nil,.nil]::V 43 (Ab (I c)::V 100 []))
def Zh:H:=V 2 (T [A D 0,A D 0,A D 0,A D 0,A D 0,A D 0,A D 0,E 0 [],E 0 [],E 0 [],E 0 [],E 0 [],E 0 [],E 0 [],E 0 [],E 0 [],E 0 [],E 0 []]::T [E (C l) (li l),A D a]::T [A D t.r0,A D t.r1,A D t.r2,A D t.r3,A D t.r4,A D t.r5,A D t.r6,E (C t.tr) (F cI t.tr),.nil,.nil,.nil,.nil,.nil,.nil,.nil,.nil,.nil,.nil]::V 144 [])
def W2(os:List El):H:=V 2 (T [A D 0,A D 0,A D 0,A D 0,A D 0,A D 0,A D 0,E 0 [],E 0 [],E 0 [],E 0 [],E 0 [],E 0 [],E 0 [],E 0 [],E 0 [],E 0 [],E 0 []]::T [E (C l) (li l),A D a]::.bxh [A D t.r0,A D t.r1,A D t.r2,A D t.r3,A D t.r4,A D t.r5,A D t.r6,E (C t.tr) (F cI t.tr),.undef,.nil,.nil,.nil,.nil,.nil,.nil,.nil,.nil,.nil] [(8,51)]::V 46 (Av 13 (C os) (F cW os)::V 97 []))
def AHd(d:Nat)(co:u):H:=V 2 (T [A D 0,A D 0,A D 0,A D 0,A D 0,A D 0,A D 0,E 0 [],E 0 [],E 0 [],E 0 [],E 0 [],E 0 [],E 0 [],E 0 [],E 0 [],E 0 [],E 0 []]::T [E (C l) (li l),A D a]::.bxh [A D t.r0,A D t.r1,A D t.r2,A D t.r3,A D t.r4,A D t.r5,A D t.r6,E (C t.tr) (F cI t.tr),.undef,.nil,.nil,.nil,.nil,.nil,.nil,.nil,.nil,.nil] [(8,51)]::V 46 (Av 13 d co::V 97 []))
end
def Amk:ICode := .region false (i (Ca Yu 93 124))
theorem Ahg(t:Tbl)(l:LI)(d:Int)(os:LI)(a b:Int)(e:RQ 38 [.gb (c l d),A D 4] (.io (c l a) (A D b))):Aa Amk (A0z t l d os) .norm (Ys9c ({ t with tr:=os }) l a (G (b>0))):=B Bp [.r (.io (c l a) (A D b))] [2,3,4,48] (Bc e)
def Aml:ICode := .region false (i (Ca Yu 92 250))
section
variable(t:Tbl)(l:LI)(a:Int)
theorem Ahh(d b:Int)(e:RQ 38 [.gb (c l a),A D 16] (.io (c l d) (A D b))):Aa Aml (Zh t l a) .norm (AHd t l d 4 (Zg 3000 b)):=B Bp [.r (.io (c l d) (A D b)),.r (P 13 4 (Zg 3000 b))] [2,3,4,51] (Gd e (show RQ 39 [A D 3000,A D b] (P 13 4 (Zg 3000 b)) from Amj _ _))
def Zi(i:Int):H:=V 2 (T [A D 0,A D 0,A D 0,A D 0,A D 0,A D 0,A D 0,E 0 [],E 0 [],E 0 [],E 0 [],E 0 [],E 0 [],E 0 [],E 0 [],E 0 [],E 0 [],E 0 []]::T [E (C l) (li l),A D a]::T [A D t.r0,A D t.r1,A D t.r2,A D t.r3,A D t.r4,A D t.r5,A D t.r6,E (C t.tr) (F cI t.tr),.nil,.nil,.nil,.nil,.nil,.nil,.nil,.nil,.nil,.nil]::V 1 (vi i::V 142 []))
def yD(os:List El)(i:Int):H:=V 2 (T [A D 0,A D 0,A D 0,A D 0,A D 0,A D 0,A D 0,E 0 [],E 0 [],E 0 [],E 0 [],E 0 [],E 0 [],E 0 [],E 0 [],E 0 [],E 0 [],E 0 []]::T [E (C l) (li l),A D a]::.bxh [A D t.r0,A D t.r1,A D t.r2,A D t.r3,A D t.r4,A D t.r5,A D t.r6,E (C t.tr) (F cI t.tr),.undef,.nil,.nil,.nil,.nil,.nil,.nil,.nil,.nil,.nil] [(8,51)]::V 1 (vi i::V 44 (Av 13 (C os) (F cW os)::V 97 [])))
def Lf(os:List El)(i:Int):H:=V 2 (T [A D 0,A D 0,A D 0,A D 0,A D 0,A D 0,A D 0,E 0 [],E 0 [],E 0 [],E 0 [],E 0 [],E 0 [],E 0 [],E 0 [],E 0 [],E 0 [],E 0 []]::T [E (C l) (li l),A D a]::.bxh [A D t.r0,A D t.r1,A D t.r2,A D t.r3,A D t.r4,A D t.r5,A D t.r6,E (C t.tr) (F cI t.tr),.undef,.nil,.nil,.nil,.nil,.nil,.nil,.nil,.nil,.nil] [(8,68)]::V 1 (vi i::V 61 (Av 13 (C os) (F cW os)::V 80 [])))
def Zj(f:Nat)(co:u)(i:Int):H:=V 2 (T [A D 0,A D 0,A D 0,A D 0,A D 0,A D 0,A D 0,E 0 [],E 0 [],E 0 [],E 0 [],E 0 [],E 0 [],E 0 [],E 0 [],E 0 [],E 0 [],E 0 []]::T [E (C l) (li l),A D a]::.bxh [A D t.r0,A D t.r1,A D t.r2,A D t.r3,A D t.r4,A D t.r5,A D t.r6,E (C t.tr) (F cI t.tr),.undef,.nil,.nil,.nil,.nil,.nil,.nil,.nil,.nil,.nil] [(8,68)]::V 1 (vi i::V 61 (Av 13 f co::V 80 [])))
def Amm(os:List El):H:=V 2 (T [A D 0,A D 0,A D 0,A D 0,A D 0,A D 0,A D 0,E 0 [],E 0 [],E 0 [],E 0 [],E 0 [],E 0 [],E 0 [],E 0 [],E 0 [],E 0 [],E 0 []]::T [E (C l) (li l),A D a]::.bxh [A D t.r0,A D t.r1,A D t.r2,A D t.r3,A D t.r4,A D t.r5,A D t.r6,E (C t.tr) (F cI t.tr),.undef,.nil,.nil,.nil,.nil,.nil,.nil,.nil,.nil,.nil] [(8,68)]::V 63 (Av 13 (C os) (F cW os)::V 80 []))
end
def QO:ICode := .region false (i (Ca Yu 92 252))
theorem Zl(t:Tbl)(l:LI)(d a b:Int)(e:RQ 38 [.gb (c l d),A D 4] (.io (c l a) (A D b))):Aa QO (Zh t l d) .norm (Zi t l a b):=B Bp [.r (.io (c l a) (A D b))] [2,3,4,6] (Bc e)
theorem Ahi(t:Tbl)(l:LI)(d:Int)(os:List El)(a b:Int)(e:RQ 38 [.gb (c l d),A D 4] (.io (c l a) (A D b))):Aa QO (W2 t l d os) .norm (yD t l a os b):=B Bp [.r (.io (c l a) (A D b))] [2,3,4,6,51] (Bc e)
def I1:ICode:=Ca Yu 90 1012
section
variable(t:Tbl)(l:LI)(a:Int)
theorem yE(i q b d e f g h j k m n o p:Int)(es nm:ByteArray)(c1:G (i>0)=true)(s:RQ 40 [.gb (c l a)] (.io (c l q) (M [.str es,A D b,A D d,A D e,A D f,A D g,A D h,A D j,A D k,A D m,A D n,A D o,A D p])))(v:RQ 41 [.str ⟨#[119]⟩,A D i] (.str nm)):Aa I1 (Zi t l a i) .norm (Zj t l q 1 ([.str nm,A D b,A D d,A D e,A D f,A D g,A D h,A D j,A D k,A D m,A D n,A D o,A D p]:u) (O D (i-1))):=B Bp [bT,.r (.io (c l q) (M [.str es,A D b,A D d,A D e,A D f,A D g,A D h,A D j,A D k,A D m,A D n,A D o,A D p])),.r (.str nm)] oV (Fh c1 s v (show C ([.str nm,A D b,A D d,A D e,A D f,A D g,A D h,A D j,A D k,A D m,A D n,A D o,A D p]:u)=1*13 from rfl) Ck)
theorem yF(i:Int)(c1:G (i>0)=false):Aa I1 (Zi t l a i) xZ2 (Zi t l a i):=B Bp [Y] [2,3,4,6] (Bc c1)
theorem yG(os:List El)(i q b d e f g h j k m n o p:Int)(es nm:ByteArray)(c1:G (i>0)=true)(s:C os+1<=1048576)(v:RQ 40 [.gb (c l a)] (.io (c l q) (M [.str es,A D b,A D d,A D e,A D f,A D g,A D h,A D j,A D k,A D m,A D n,A D o,A D p])))(w:RQ 41 [.str ⟨#[119]⟩,A D i] (.str nm)):Aa I1 (yD t l a os i) .norm (Zj t l q (C os+1) (F cW os++([.str nm,A D b,A D d,A D e,A D f,A D g,A D h,A D j,A D k,A D m,A D n,A D o,A D p]:u)) (O D (i-1))):=B Bp [bT,.r (.io (c l q) (M [.str es,A D b,A D d,A D e,A D f,A D g,A D h,A D j,A D k,A D m,A D n,A D o,A D p])),.r (.str nm)] oV (Fh c1 v w (show C ([.str nm,A D b,A D d,A D e,A D f,A D g,A D h,A D j,A D k,A D m,A D n,A D o,A D p]:u)=1*13 from rfl) s)
theorem yH(os:List El)(i:Int)(c1:G (i>0)=false):Aa I1 (yD t l a os i) xZ2 (yD t l a os i):=B Bp [Y] [2,3,4,6,51] (Bc c1)
theorem pS(os:List El)(i q b d e f g h j k m n o p:Int)(es nm:ByteArray)(c1:G (i>0)=true)(s:C os+1<=1048576)(v:RQ 40 [.gb (c l a)] (.io (c l q) (M [.str es,A D b,A D d,A D e,A D f,A D g,A D h,A D j,A D k,A D m,A D n,A D o,A D p])))(w:RQ 41 [.str ⟨#[119]⟩,A D i] (.str nm)):Aa I1 (Lf t l a os i) .norm (Zj t l q (C os+1) (F cW os++([.str nm,A D b,A D d,A D e,A D f,A D g,A D h,A D j,A D k,A D m,A D n,A D o,A D p]:u)) (O D (i-1))):=B Bp [bT,.r (.io (c l q) (M [.str es,A D b,A D d,A D e,A D f,A D g,A D h,A D j,A D k,A D m,A D n,A D o,A D p])),.r (.str nm)] oV (Fh c1 v w (show C ([.str nm,A D b,A D d,A D e,A D f,A D g,A D h,A D j,A D k,A D m,A D n,A D o,A D p]:u)=1*13 from rfl) s)
theorem pT(os:List El)(i:Int)(c1:G (i>0)=false):Aa I1 (Lf t l a os i) xZ2 (Lf t l a os i):=B Bp [Y] oV (Bc c1)
def PE(i:Int):H:=V 2 (T [A D 0,A D 0,A D 0,A D 0,A D 0,A D 0,A D 0,E 0 [],E 0 [],E 0 [],E 0 [],E 0 [],E 0 [],E 0 [],E 0 [],E 0 [],E 0 [],E 0 []]::T [E (C l) (li l),A D a]::T [A D t.r0,A D t.r1,A D t.r2,A D t.r3,A D t.r4,A D t.r5,A D t.r6,E (C t.tr) (F cI t.tr),E (C t.ws) (F cW t.ws),.nil,.nil,.nil,.nil,.nil,.nil,.nil,.nil,.nil]::V 3 (vi i::V 140 []))
def Lg(os:List El)(i:Int):H:=V 2 (T [A D 0,A D 0,A D 0,A D 0,A D 0,A D 0,A D 0,E 0 [],E 0 [],E 0 [],E 0 [],E 0 [],E 0 [],E 0 [],E 0 [],E 0 [],E 0 [],E 0 []]::T [E (C l) (li l),A D a]::.bxh [A D t.r0,A D t.r1,A D t.r2,A D t.r3,A D t.r4,A D t.r5,A D t.r6,E (C t.tr) (F cI t.tr),E (C t.ws) (F cW t.ws),.nil,.undef,.nil,.nil,.nil,.nil,.nil,.nil,.nil] [(10,106)]::V 3 (vi i::V 97 (Av 11 (C os) (F cPo os)::V 42 [])))
def US(x:Nat)(co:u)(i:Int):H:=V 2 (T [A D 0,A D 0,A D 0,A D 0,A D 0,A D 0,A D 0,E 0 [],E 0 [],E 0 [],E 0 [],E 0 [],E 0 [],E 0 [],E 0 [],E 0 [],E 0 [],E 0 []]::T [E (C l) (li l),A D a]::.bxh [A D t.r0,A D t.r1,A D t.r2,A D t.r3,A D t.r4,A D t.r5,A D t.r6,E (C t.tr) (F cI t.tr),E (C t.ws) (F cW t.ws),.nil,.undef,.nil,.nil,.nil,.nil,.nil,.nil,.nil] [(10,106)]::V 3 (vi i::V 97 (Av 11 x co::V 42 [])))
def A1a:H:=V 2 (T [A D 0,A D 0,A D 0,A D 0,A D 0,A D 0,A D 0,E 0 [],E 0 [],E 0 [],E 0 [],E 0 [],E 0 [],E 0 [],E 0 [],E 0 [],E 0 [],E 0 []]::T [E (C l) (li l),A D a]::T [A D t.r0,A D t.r1,A D t.r2,A D t.r3,A D t.r4,A D t.r5,A D t.r6,E (C t.tr) (F cI t.tr),E (C t.ws) (F cW t.ws),.nil,.nil,.nil,.nil,.nil,.nil,.nil,.nil,.nil]::V 144 [])
def A1b(os:List El):H:=V 2 (T [A D 0,A D 0,A D 0,A D 0,A D 0,A D 0,A D 0,E 0 [],E 0 [],E 0 [],E 0 [],E 0 [],E 0 [],E 0 [],E 0 [],E 0 [],E 0 [],E 0 []]::T [E (C l) (li l),A D a]::.bxh [A D t.r0,A D t.r1,A D t.r2,A D t.r3,A D t.r4,A D t.r5,A D t.r6,E (C t.tr) (F cI t.tr),E (C t.ws) (F cW t.ws),.nil,.undef,.nil,.nil,.nil,.nil,.nil,.nil,.nil] [(10,106)]::V 101 (Av 11 (C os) (F cPo os)::V 42 []))
end
def QP:ICode := .region false (i (Ca Yu 91 508))
section
variable(t:Tbl)(l:LI)(d:Int)
theorem Ahj(a b:Int)(e:RQ 38 [.gb (c l d),A D 3] (.io (c l a) (A D b))):Aa QP (Zh t l d) .norm (PE ({ t with ws:=[] }) l a b):=B Bp [.r (.io (c l a) (A D b))] [2,3,4,8] (Bc e)
theorem Ahk(os:List El)(a b:Int)(e:RQ 38 [.gb (c l d),A D 3] (.io (c l a) (A D b))):Aa QP (W2 t l d os) .norm (PE ({ t with ws:=os }) l a b):=B Bp [.r (.io (c l a) (A D b))] [2,3,4,8] (Bc e)
theorem Ahl(os:List El)(a b:Int)(e:RQ 38 [.gb (c l d),A D 3] (.io (c l a) (A D b))):Aa QP (Amm t l d os) .norm (PE ({ t with ws:=os }) l a b):=B Bp [.r (.io (c l a) (A D b))] [2,3,4,8] (Bc e)
end
def Kd:ICode:=Ca Yu 89 2036
section
variable(t:Tbl)(l:LI)(j:Int)
theorem yI(i k a b m d n e o f p g q h s v y w z x:Int)(nm:ByteArray)(c1:G (i>0)=true)(c2:(v==1)=true)(J:RQ 41 [.str ⟨#[112]⟩,A D i] (.str nm))(K:RQ 42 [.gb (c l j)] (.io (c l k) (M [A D a,A D b])))(L:RQ 38 [.gb (c l k),A D 300] (.io (c l m) (A D d)))(N:RQ 38 [.gb (c l m),A D 16] (.io (c l n) (A D e)))(P:RQ 38 [.gb (c l n),A D 4] (.io (c l o) (A D f)))(Q:RQ 38 [.gb (c l o),A D 4] (.io (c l p) (A D g)))(R:RQ 37 [.gb (c l p),A D (-1),A D 9] (.io (c l q) (A D h)))(S:RQ 38 [.gb (c l q),A D 2] (.io (c l s) (A D v)))(U:RQ 38 [.gb (c l s),A D 10] (.io (c l y) (A D w)))(W:RQ 38 [.gb (c l y),A D 4] (.io (c l z) (A D x))):Aa Kd (PE t l j i) .norm (US t l z 1 ([.str nm,A D 0,A D a,A D b,A D d,A D e,A D f,A D (O D (40*w)),A D (O D (20*g)),A D x,A D h]:u) (O D (i-1))):=B Bp [bT,.r (.str nm),.r (.io (c l k) (M [A D a,A D b])),.r (.io (c l m) (A D d)),.r (.io (c l n) (A D e)),.r (.io (c l o) (A D f)),.r (.io (c l p) (A D g)),.r (.io (c l q) (A D h)),.r (.io (c l s) (A D v)),bT,.r (.io (c l y) (A D w)),.r (.io (c l z) (A D x))] Y1 (Ec c1 J K L N P Q R (EP S c2 U W (show C ([.str nm,A D 0,A D a,A D b,A D d,A D e,A D f,A D (O D (40*w)),A D (O D (20*g)),A D x,A D h]:u)=1*11 from rfl) Ck))
theorem yJ(i k a b m d n e o f p g q h s v:Int)(nm:ByteArray)(c1:G (i>0)=true)(c2:(v==1)=false)(J:RQ 41 [.str ⟨#[112]⟩,A D i] (.str nm))(K:RQ 42 [.gb (c l j)] (.io (c l k) (M [A D a,A D b])))(L:RQ 38 [.gb (c l k),A D 300] (.io (c l m) (A D d)))(N:RQ 38 [.gb (c l m),A D 16] (.io (c l n) (A D e)))(P:RQ 38 [.gb (c l n),A D 4] (.io (c l o) (A D f)))(Q:RQ 38 [.gb (c l o),A D 4] (.io (c l p) (A D g)))(R:RQ 37 [.gb (c l p),A D (-1),A D 9] (.io (c l q) (A D h)))(S:RQ 38 [.gb (c l q),A D 2] (.io (c l s) (A D v))):Aa Kd (PE t l j i) .norm (US t l s 1 ([.str nm,A D 0,A D a,A D b,A D d,A D e,A D f,A D 0,A D (O D (20*g)),A D (-1),A D h]:u) (O D (i-1))):=B Bp [bT,.r (.str nm),.r (.io (c l k) (M [A D a,A D b])),.r (.io (c l m) (A D d)),.r (.io (c l n) (A D e)),.r (.io (c l o) (A D f)),.r (.io (c l p) (A D g)),.r (.io (c l q) (A D h)),.r (.io (c l s) (A D v)),Y] Y1 (Em c1 J K L N P Q R S c2 (show C ([.str nm,A D 0,A D a,A D b,A D d,A D e,A D f,A D 0,A D (O D (20*g)),A D (-1),A D h]:u)=1*11 from rfl) Ck)
theorem yK(i:Int)(c1:G (i>0)=false):Aa Kd (PE t l j i) xZ4 (PE t l j i):=B Bp [Y] [2,3,4,8] (Bc c1)
theorem pU(os:List El)(i k a b m d n e o f p g q h s v y w z x:Int)(nm:ByteArray)(c1:G (i>0)=true)(c2:(v==1)=true)(J:C os+1<=1048576)(K:RQ 41 [.str ⟨#[112]⟩,A D i] (.str nm))(L:RQ 42 [.gb (c l j)] (.io (c l k) (M [A D a,A D b])))(N:RQ 38 [.gb (c l k),A D 300] (.io (c l m) (A D d)))(P:RQ 38 [.gb (c l m),A D 16] (.io (c l n) (A D e)))(Q:RQ 38 [.gb (c l n),A D 4] (.io (c l o) (A D f)))(R:RQ 38 [.gb (c l o),A D 4] (.io (c l p) (A D g)))(S:RQ 37 [.gb (c l p),A D (-1),A D 9] (.io (c l q) (A D h)))(U:RQ 38 [.gb (c l q),A D 2] (.io (c l s) (A D v)))(W:RQ 38 [.gb (c l s),A D 10] (.io (c l y) (A D w)))(X:RQ 38 [.gb (c l y),A D 4] (.io (c l z) (A D x))):Aa Kd (Lg t l j os i) .norm (US t l z (C os+1) (F cPo os++([.str nm,A D 0,A D a,A D b,A D d,A D e,A D f,A D (O D (40*w)),A D (O D (20*g)),A D x,A D h]:u)) (O D (i-1))):=B Bp [bT,.r (.str nm),.r (.io (c l k) (M [A D a,A D b])),.r (.io (c l m) (A D d)),.r (.io (c l n) (A D e)),.r (.io (c l o) (A D f)),.r (.io (c l p) (A D g)),.r (.io (c l q) (A D h)),.r (.io (c l s) (A D v)),bT,.r (.io (c l y) (A D w)),.r (.io (c l z) (A D x))] Y1 (Ec c1 K L N P Q R S (EP U c2 W X (show C ([.str nm,A D 0,A D a,A D b,A D d,A D e,A D f,A D (O D (40*w)),A D (O D (20*g)),A D x,A D h]:u)=1*11 from rfl) J))
theorem pV(os:List El)(i k a b m d n e o f p g q h s v:Int)(nm:ByteArray)(c1:G (i>0)=true)(c2:(v==1)=false)(J:C os+1<=1048576)(K:RQ 41 [.str ⟨#[112]⟩,A D i] (.str nm))(L:RQ 42 [.gb (c l j)] (.io (c l k) (M [A D a,A D b])))(N:RQ 38 [.gb (c l k),A D 300] (.io (c l m) (A D d)))(P:RQ 38 [.gb (c l m),A D 16] (.io (c l n) (A D e)))(Q:RQ 38 [.gb (c l n),A D 4] (.io (c l o) (A D f)))(R:RQ 38 [.gb (c l o),A D 4] (.io (c l p) (A D g)))(S:RQ 37 [.gb (c l p),A D (-1),A D 9] (.io (c l q) (A D h)))(U:RQ 38 [.gb (c l q),A D 2] (.io (c l s) (A D v))):Aa Kd (Lg t l j os i) .norm (US t l s (C os+1) (F cPo os++([.str nm,A D 0,A D a,A D b,A D d,A D e,A D f,A D 0,A D (O D (20*g)),A D (-1),A D h]:u)) (O D (i-1))):=B Bp [bT,.r (.str nm),.r (.io (c l k) (M [A D a,A D b])),.r (.io (c l m) (A D d)),.r (.io (c l n) (A D e)),.r (.io (c l o) (A D f)),.r (.io (c l p) (A D g)),.r (.io (c l q) (A D h)),.r (.io (c l s) (A D v)),Y] Y1 (Em c1 K L N P Q R S U c2 (show C ([.str nm,A D 0,A D a,A D b,A D d,A D e,A D f,A D 0,A D (O D (20*g)),A D (-1),A D h]:u)=1*11 from rfl) J)
theorem pW(os:List El)(i:Int)(c1:G (i>0)=false):Aa Kd (Lg t l j os i) xZ4 (Lg t l j os i):=B Bp [Y] Y1 (Bc c1)
def A1c(Z:Bool):H:=V 2 (T [A D 0,A D 0,A D 0,A D 0,A D 0,A D 0,A D 0,E 0 [],E 0 [],E 0 [],E 0 [],E 0 [],E 0 [],E 0 [],E 0 [],E 0 [],E 0 [],E 0 []]::T [E (C l) (li l),A D j]::T [A D t.r0,A D t.r1,A D t.r2,A D t.r3,A D t.r4,A D t.r5,A D t.r6,E (C t.tr) (F cI t.tr),E (C t.ws) (F cW t.ws),.nil,E (C t.po) (F cPo t.po),.nil,.nil,.nil,.nil,.nil,.nil,.nil]::V 105 (Ab (I Z)::V 38 []))
def A1d:H:=V 2 (T [A D 0,A D 0,A D 0,A D 0,A D 0,A D 0,A D 0,E 0 [],E 0 [],E 0 [],E 0 [],E 0 [],E 0 [],E 0 [],E 0 [],E 0 [],E 0 [],E 0 []]::T [E (C l) (li l),A D j]::T [A D t.r0,A D t.r1,A D t.r2,A D t.r3,A D t.r4,A D t.r5,A D t.r6,E (C t.tr) (F cI t.tr),E (C t.ws) (F cW t.ws),.nil,E (C t.po) (F cPo t.po),.nil,.nil,.nil,.nil,.nil,.nil,.nil]::V 144 [])
def AHe(no:Nat)(co:u):H:=V 2 (T [A D 0,A D 0,A D 0,A D 0,A D 0,A D 0,A D 0,E 0 [],E 0 [],E 0 [],E 0 [],E 0 [],E 0 [],E 0 [],E 0 [],E 0 [],E 0 [],E 0 []]::T [E (C l) (li l),A D j]::.bxh [A D t.r0,A D t.r1,A D t.r2,A D t.r3,A D t.r4,A D t.r5,A D t.r6,E (C t.tr) (F cI t.tr),E (C t.ws) (F cW t.ws),.undef,E (C t.po) (F cPo t.po),.nil,.nil,.nil,.nil,.nil,.nil,.nil] [(9,121)]::V 116 (Av 12 no co::V 27 []))
def AEn(os:List El):H:=V 2 (T [A D 0,A D 0,A D 0,A D 0,A D 0,A D 0,A D 0,E 0 [],E 0 [],E 0 [],E 0 [],E 0 [],E 0 [],E 0 [],E 0 [],E 0 [],E 0 [],E 0 []]::T [E (C l) (li l),A D j]::.bxh [A D t.r0,A D t.r1,A D t.r2,A D t.r3,A D t.r4,A D t.r5,A D t.r6,E (C t.tr) (F cI t.tr),E (C t.ws) (F cW t.ws),.undef,E (C t.po) (F cPo t.po),.nil,.nil,.nil,.nil,.nil,.nil,.nil] [(9,121)]::V 116 (Av 12 (C os) (F AD os)::V 27 []))
end
def TB:ICode := .region false (i (Ca Yu 90 1020))
theorem yL(t:Tbl)(l:LI)(d a b:Int)(e:RQ 38 [.gb (c l d),A D 3] (.io (c l a) (A D b))):Aa TB (A1a t l d) .norm (A1c ({ t with po:=[] }) l a (b==0)):=B Bp [.r (.io (c l a) (A D b))] [2,3,4,110] (Bc e)
theorem yM(t:Tbl)(l:LI)(d:Int)(os:List El)(a b:Int)(e:RQ 38 [.gb (c l d),A D 3] (.io (c l a) (A D b))):Aa TB (A1b t l d os) .norm (A1c ({ t with po:=os }) l a (b==0)):=B Bp [.r (.io (c l a) (A D b))] [2,3,4,110] (Bc e)
def yN:ICode:=Ca Yu 89 2042
section
variable(t:Tbl)(l:LI)(a:Int)
theorem yO(p b d e f g h j k m n o:Int)(es:ByteArray)(q:RQ 43 [.gb (c l a),A D (O D (2*t.r0))] (.io (c l p) (M [.str es,A D b,A D d,A D e,A D f,A D g,A D h,A D j,A D k,A D m,A D n,A D o]))):Aa yN (A1d t l a) .norm (AHe t l p 1 ([.str ⟨#[97,49]⟩,A D b,A D d,A D e,A D f,A D g,A D h,A D j,A D k,A D m,A D n,A D o]:u)):=B Bp [.r (.io (c l p) (M [.str es,A D b,A D d,A D e,A D f,A D g,A D h,A D j,A D k,A D m,A D n,A D o]))] [2,3,4,121] (Fa q (show C ([.str ⟨#[97,49]⟩,A D b,A D d,A D e,A D f,A D g,A D h,A D j,A D k,A D m,A D n,A D o]:u)=1*12 from rfl) Ck)
def TC(i:Int):H:=V 2 (T [A D 0,A D 0,A D 0,A D 0,A D 0,A D 0,A D 0,E 0 [],E 0 [],E 0 [],E 0 [],E 0 [],E 0 [],E 0 [],E 0 [],E 0 [],E 0 [],E 0 []]::T [E (C l) (li l),A D a]::T [A D t.r0,A D t.r1,A D t.r2,A D t.r3,A D t.r4,A D t.r5,A D t.r6,E (C t.tr) (F cI t.tr),E (C t.ws) (F cW t.ws),E (C t.ar) (F AD t.ar),E (C t.po) (F cPo t.po),.nil,.nil,.nil,.nil,.nil,.nil,.nil]::V 6 (vi i::V 137 []))
def M7(os:List El)(i:Int):H:=V 2 (T [A D 0,A D 0,A D 0,A D 0,A D 0,A D 0,A D 0,E 0 [],E 0 [],E 0 [],E 0 [],E 0 [],E 0 [],E 0 [],E 0 [],E 0 [],E 0 [],E 0 []]::T [E (C l) (li l),A D a]::.bxh [A D t.r0,A D t.r1,A D t.r2,A D t.r3,A D t.r4,A D t.r5,A D t.r6,E (C t.tr) (F cI t.tr),E (C t.ws) (F cW t.ws),E (C t.ar) (F AD t.ar),E (C t.po) (F cPo t.po),.undef,.nil,.nil,.nil,.nil,.nil,.nil] [(11,138)]::V 6 (vi i::V 126 (Av 15 (C os) (F cF os)::V 10 [])))
def pX(s:Nat)(co:u)(i:Int):H:=V 2 (T [A D 0,A D 0,A D 0,A D 0,A D 0,A D 0,A D 0,E 0 [],E 0 [],E 0 [],E 0 [],E 0 [],E 0 [],E 0 [],E 0 [],E 0 [],E 0 [],E 0 []]::T [E (C l) (li l),A D a]::.bxh [A D t.r0,A D t.r1,A D t.r2,A D t.r3,A D t.r4,A D t.r5,A D t.r6,E (C t.tr) (F cI t.tr),E (C t.ws) (F cW t.ws),E (C t.ar) (F AD t.ar),E (C t.po) (F cPo t.po),.undef,.nil,.nil,.nil,.nil,.nil,.nil] [(11,138)]::V 6 (vi i::V 126 (Av 15 s co::V 10 [])))
def A1e:H:=V 2 (T [A D 0,A D 0,A D 0,A D 0,A D 0,A D 0,A D 0,E 0 [],E 0 [],E 0 [],E 0 [],E 0 [],E 0 [],E 0 [],E 0 [],E 0 [],E 0 [],E 0 []]::T [E (C l) (li l),A D a]::T [A D t.r0,A D t.r1,A D t.r2,A D t.r3,A D t.r4,A D t.r5,A D t.r6,E (C t.tr) (F cI t.tr),E (C t.ws) (F cW t.ws),E (C t.ar) (F AD t.ar),E (C t.po) (F cPo t.po),.nil,.nil,.nil,.nil,.nil,.nil,.nil]::V 144 [])
def A1f(os:List El):H:=V 2 (T [A D 0,A D 0,A D 0,A D 0,A D 0,A D 0,A D 0,E 0 [],E 0 [],E 0 [],E 0 [],E 0 [],E 0 [],E 0 [],E 0 [],E 0 [],E 0 [],E 0 []]::T [E (C l) (li l),A D a]::.bxh [A D t.r0,A D t.r1,A D t.r2,A D t.r3,A D t.r4,A D t.r5,A D t.r6,E (C t.tr) (F cI t.tr),E (C t.ws) (F cW t.ws),E (C t.ar) (F AD t.ar),E (C t.po) (F cPo t.po),.undef,.nil,.nil,.nil,.nil,.nil,.nil] [(11,138)]::V 133 (Av 15 (C os) (F cF os)::V 10 []))
end
def PF:ICode := .region false (i (Ca Yu 89 2044))
theorem yP(t:Tbl)(l:LI)(d a b:Int)(e:RQ 38 [.gb (c l d),A D 3] (.io (c l a) (A D b))):Aa PF (A1d t l d) .norm (TC ({ t with ar:=[] }) l a b):=B Bp [.r (.io (c l a) (A D b))] [2,3,4,11] (Bc e)
theorem yQ(t:Tbl)(l:LI)(d:Int)(os:List El)(a b:Int)(e:RQ 38 [.gb (c l d),A D 3] (.io (c l a) (A D b))):Aa PF (AEn t l d os) .norm (TC ({ t with ar:=os }) l a b):=B Bp [.r (.io (c l a) (A D b))] [2,3,4,11] (Bc e)
def M8:ICode:=Ca Yu 87 8180
section
variable(t:Tbl)(l:LI)(a:Int)
theorem yR(i v b d e f g h j k m n o p q:Int)(es nm:ByteArray)(s:Bool)(c1:G (i>0)=true)(w:RQ 44 [.gb (c l a)] (.io (c l v) (M [.str es,A D b,A D d,A D e,A D f,I s,A D g,A D h,A D j,A D k,A D m,A D n,A D o,A D p,A D q])))(x:RQ 41 [.str ⟨#[102]⟩,A D i] (.str nm)):Aa M8 (TC t l a i) .norm (pX t l v 1 ([.str nm,A D b,A D d,A D e,A D f,I s,A D g,A D h,A D j,A D k,A D m,A D n,A D o,A D p,A D q]:u) (O D (i-1))):=B Bp [bT,.r (.io (c l v) (M [.str es,A D b,A D d,A D e,A D f,I s,A D g,A D h,A D j,A D k,A D m,A D n,A D o,A D p,A D q])),.r (.str nm)] [2,3,4,11,138] (Fh c1 w x (show C ([.str nm,A D b,A D d,A D e,A D f,I s,A D g,A D h,A D j,A D k,A D m,A D n,A D o,A D p,A D q]:u)=1*15 from rfl) Ck)
theorem yS(i:Int)(c1:G (i>0)=false):Aa M8 (TC t l a i) xZ6 (TC t l a i):=B Bp [Y] [2,3,4,11] (Bc c1)
theorem pY(os:List El)(i v b d e f g h j k m n o p q:Int)(es nm:ByteArray)(s:Bool)(c1:G (i>0)=true)(w:C os+1<=1048576)(x:RQ 44 [.gb (c l a)] (.io (c l v) (M [.str es,A D b,A D d,A D e,A D f,I s,A D g,A D h,A D j,A D k,A D m,A D n,A D o,A D p,A D q])))(y:RQ 41 [.str ⟨#[102]⟩,A D i] (.str nm)):Aa M8 (M7 t l a os i) .norm (pX t l v (C os+1) (F cF os++([.str nm,A D b,A D d,A D e,A D f,I s,A D g,A D h,A D j,A D k,A D m,A D n,A D o,A D p,A D q]:u)) (O D (i-1))):=B Bp [bT,.r (.io (c l v) (M [.str es,A D b,A D d,A D e,A D f,I s,A D g,A D h,A D j,A D k,A D m,A D n,A D o,A D p,A D q])),.r (.str nm)] [2,3,4,11,138] (Fh c1 x y (show C ([.str nm,A D b,A D d,A D e,A D f,I s,A D g,A D h,A D j,A D k,A D m,A D n,A D o,A D p,A D q]:u)=1*15 from rfl) w)
theorem pZ(os:List El)(i:Int)(c1:G (i>0)=false):Aa M8 (M7 t l a os i) xZ6 (M7 t l a os i):=B Bp [Y] [2,3,4,11,138] (Bc c1)
def lW:H:=V 2 (T [A D 0,A D 0,A D 0,A D 0,A D 0,A D 0,A D 0,E 0 [],E 0 [],E 0 [],E 0 [],E 0 [],E 0 [],E 0 [],E 0 [],E 0 [],E 0 [],E 0 []]::T [E (C l) (li l),A D a]::T t.cs::V 144 [])
def Ys9u(z:Bool):H:=V 2 (T [A D 0,A D 0,A D 0,A D 0,A D 0,A D 0,A D 0,E 0 [],E 0 [],E 0 [],E 0 [],E 0 [],E 0 [],E 0 [],E 0 [],E 0 [],E 0 [],E 0 []]::T [E (C l) (li l),A D a]::T t.cs::V 140 (Ab (I z)::V 3 []))
end
def PG:ICode := .region false (i (Ca Yu 89 2046))
theorem yT(t:Tbl)(l:LI)(b a:Int)(u:Tbl)(d:RQ 45 [.gb (c l b),M [A D t.r0,A D t.r1,A D t.r2,A D t.r3,A D t.r4,A D t.r5,A D t.r6,E (C t.tr) (F cI t.tr),E (C t.ws) (F cW t.ws),E (C t.ar) (F AD t.ar),E (C t.po) (F cPo t.po),E 0 [],.nil,.nil,.nil,.nil,.nil,.nil]] (.io (c l a) (M [A D t.r0,A D t.r1,A D t.r2,A D t.r3,A D t.r4,A D t.r5,A D t.r6,E (C t.tr) (F cI t.tr),E (C t.ws) (F cW t.ws),E (C t.ar) (F AD t.ar),E (C t.po) (F cPo t.po),E 0 [],E (C u.zo) (F cZ u.zo),E (C u.sa) (F AN u.sa),E (C u.la) (F cL u.la),E (C u.ra) (F cR u.ra),E (C u.dr) (F cD u.dr),E (C u.ln) (F cK u.ln)]))):Aa PG (A1e t l b) .norm (lW ({ t with fl:=[],zo:=u.zo,sa:=u.sa,la:=u.la,ra:=u.ra,dr:=u.dr,ln:=u.ln }) l a):=B Bp [.r (.io (c l a) (M [A D t.r0,A D t.r1,A D t.r2,A D t.r3,A D t.r4,A D t.r5,A D t.r6,E (C t.tr) (F cI t.tr),E (C t.ws) (F cW t.ws),E (C t.ar) (F AD t.ar),E (C t.po) (F cPo t.po),E 0 [],E (C u.zo) (F cZ u.zo),E (C u.sa) (F AN u.sa),E (C u.la) (F cL u.la),E (C u.ra) (F cR u.ra),E (C u.dr) (F cD u.dr),E (C u.ln) (F cK u.ln)]))] [2,3,4] (Bc d)
theorem yU(t:Tbl)(l:LI)(b:Int)(os:List El)(a:Int)(u:Tbl)(d:RQ 45 [.gb (c l b),M [A D t.r0,A D t.r1,A D t.r2,A D t.r3,A D t.r4,A D t.r5,A D t.r6,E (C t.tr) (F cI t.tr),E (C t.ws) (F cW t.ws),E (C t.ar) (F AD t.ar),E (C t.po) (F cPo t.po),E (C os) (F cF os),.nil,.nil,.nil,.nil,.nil,.nil]] (.io (c l a) (M [A D t.r0,A D t.r1,A D t.r2,A D t.r3,A D t.r4,A D t.r5,A D t.r6,E (C t.tr) (F cI t.tr),E (C t.ws) (F cW t.ws),E (C t.ar) (F AD t.ar),E (C t.po) (F cPo t.po),E (C os) (F cF os),E (C u.zo) (F cZ u.zo),E (C u.sa) (F AN u.sa),E (C u.la) (F cL u.la),E (C u.ra) (F cR u.ra),E (C u.dr) (F cD u.dr),E (C u.ln) (F cK u.ln)]))):Aa PG (A1f t l b os) .norm (lW ({ t with fl:=os,zo:=u.zo,sa:=u.sa,la:=u.la,ra:=u.ra,dr:=u.dr,ln:=u.ln }) l a):=B Bp [.r (.io (c l a) (M [A D t.r0,A D t.r1,A D t.r2,A D t.r3,A D t.r4,A D t.r5,A D t.r6,E (C t.tr) (F cI t.tr),E (C t.ws) (F cW t.ws),E (C t.ar) (F AD t.ar),E (C t.po) (F cPo t.po),E (C os) (F cF os),E (C u.zo) (F cZ u.zo),E (C u.sa) (F AN u.sa),E (C u.la) (F cL u.la),E (C u.ra) (F cR u.ra),E (C u.dr) (F cD u.dr),E (C u.ln) (F cK u.ln)]))] [2,3,4] (Bc d)
def Zm:ICode := .region false (i (Ca Yu 87 8188))
theorem yV(t:Tbl)(l:LI)(b a:Int)(c:RQ 46 [M t.cs] (A D a)):Aa Zm (lW t l b) .norm (Ys9u t l b (a != 0)):=B Bp [.r (A D a)] [2,3,4,145] (Bc c)
def Zn:ICode:=Ca Yu 86 16378
theorem yW(t:Tbl)(l:LI)(a:Int)   : Aa Zn (lW t l a) .ret ((V 2 (T [A D 100,A D 1,A D 0,A D 0,A D 0,A D 0,A D 0,E 0 [],E 4 (Zg 3000 8),E 0 [],E 0 [],E 0 [],E 0 [],E 0 [],E 0 [],E 0 [],E 0 [],E 0 []]::V 146 []))):=B Bp [.r (P 13 4 (Zg 3000 8))] [2] (Bc (show RQ 39 [A D 3000,A D 8] (P 13 4 (Zg 3000 8)) from Amj _ _))
def W3(t:Tbl):H:=V 2 (T t.cs::V 146 [])
def Zp:ICode:=Ca Yu 88 4095
theorem yX(t:Tbl)(l:LI)(a:Int)   : Aa Zp (lW t l a) .ret (W3 t):=B Bp [] [2] a0
def Ahm:ICode := .region false [o1 5 (.mov (.c (.int .i64 0)))]
theorem Asa(t:Tbl)(l:LI)(a:Int)   : Aa Ahm (A0u t l a) .norm (A0y t l a 0):=B Bp [] [2,3,4,5] a0
def A1g:ICode := .seq (.seq PF (.block 6 (.loop M8))) (.seq PG (.seq (.seq Zm (.cond (.t 145) Zn .skip)) Zp))
def A1h:ICode := .seq (.seq TB (.cond (.t 110) yN .skip)) A1g
def A1i:ICode := .seq (.seq QP (.block 4 (.loop Kd))) A1h
def A1j:ICode := .seq (.seq QO (.block 2 (.loop I1))) A1i
def A1k:ICode := .seq (.seq Amk (.cond (.t 48) Aml .skip)) A1j
theorem A9y:(iF g Yu).body=(.seq A0v (.seq A0w (.seq A0x (.seq (.seq Ahm (.block 0 (.loop PD))) A1k)))):=by kernel_rfl
theorem BX:Be CQ []:=Be.nil _
section
variable(t:Tbl)(l:LI)(a:Int)
def Nd:H:=.bxg [E (C l) (li l),A D a]::V 2 (T [A D t.r0,A D t.r1,A D t.r2,A D t.r3,A D t.r4,A D t.r5,A D t.r6,E (C t.tr) (F cI t.tr),E (C t.ws) (F cW t.ws),E (C t.ar) (F AD t.ar),E (C t.po) (F cPo t.po),E (C t.fl) (F cF t.fl),.nil,.nil,.nil,.nil,.nil,.nil]::T [A D 0,A D 0,A D 0,A D 0,A D 0,A D 0,A D 0,E 0 [],E 0 [],E 0 [],E 0 [],E 0 [],E 0 [],E 0 [],E 0 [],E 0 [],E 0 [],E 0 []]::V 133 [])
def Zq:H:=.bxg [E (C l) (li l),A D a]::V 2 (T [A D t.r0,A D t.r1,A D t.r2,A D t.r3,A D t.r4,A D t.r5,A D t.r6,E (C t.tr) (F cI t.tr),E (C t.ws) (F cW t.ws),E (C t.ar) (F AD t.ar),E (C t.po) (F cPo t.po),E (C t.fl) (F cF t.fl),E (C t.zo) (F cZ t.zo),.nil,.nil,.nil,.nil,.nil]::T [A D 0,A D 0,A D 0,A D 0,A D 0,A D 0,A D 0,E 0 [],E 0 [],E 0 [],E 0 [],E 0 [],E 0 [],E 0 [],E 0 [],E 0 [],E 0 [],E 0 []]::V 133 [])
def Zr:H:=.bxg [E (C l) (li l),A D a]::V 2 (T [A D t.r0,A D t.r1,A D t.r2,A D t.r3,A D t.r4,A D t.r5,A D t.r6,E (C t.tr) (F cI t.tr),E (C t.ws) (F cW t.ws),E (C t.ar) (F AD t.ar),E (C t.po) (F cPo t.po),E (C t.fl) (F cF t.fl),E (C t.zo) (F cZ t.zo),E (C t.sa) (F AN t.sa),.nil,.nil,.nil,.nil]::T [A D 0,A D 0,A D 0,A D 0,A D 0,A D 0,A D 0,E 0 [],E 0 [],E 0 [],E 0 [],E 0 [],E 0 [],E 0 [],E 0 [],E 0 [],E 0 [],E 0 []]::V 133 [])
def Zs:H:=.bxg [E (C l) (li l),A D a]::V 2 (T [A D t.r0,A D t.r1,A D t.r2,A D t.r3,A D t.r4,A D t.r5,A D t.r6,E (C t.tr) (F cI t.tr),E (C t.ws) (F cW t.ws),E (C t.ar) (F AD t.ar),E (C t.po) (F cPo t.po),E (C t.fl) (F cF t.fl),E (C t.zo) (F cZ t.zo),E (C t.sa) (F AN t.sa),E (C t.la) (F cL t.la),.nil,.nil,.nil]::T [A D 0,A D 0,A D 0,A D 0,A D 0,A D 0,A D 0,E 0 [],E 0 [],E 0 [],E 0 [],E 0 [],E 0 [],E 0 [],E 0 [],E 0 [],E 0 [],E 0 []]::V 133 [])
def Zt:H:=.bxg [E (C l) (li l),A D a]::V 2 (T [A D t.r0,A D t.r1,A D t.r2,A D t.r3,A D t.r4,A D t.r5,A D t.r6,E (C t.tr) (F cI t.tr),E (C t.ws) (F cW t.ws),E (C t.ar) (F AD t.ar),E (C t.po) (F cPo t.po),E (C t.fl) (F cF t.fl),E (C t.zo) (F cZ t.zo),E (C t.sa) (F AN t.sa),E (C t.la) (F cL t.la),E (C t.ra) (F cR t.ra),.nil,.nil]::T [A D 0,A D 0,A D 0,A D 0,A D 0,A D 0,A D 0,E 0 [],E 0 [],E 0 [],E 0 [],E 0 [],E 0 [],E 0 [],E 0 [],E 0 [],E 0 [],E 0 []]::V 133 [])
def yY:H:=.bxg [E (C l) (li l),A D a]::V 2 (T [A D t.r0,A D t.r1,A D t.r2,A D t.r3,A D t.r4,A D t.r5,A D t.r6,E (C t.tr) (F cI t.tr),E (C t.ws) (F cW t.ws),E (C t.ar) (F AD t.ar),E (C t.po) (F cPo t.po),E (C t.fl) (F cF t.fl),E (C t.zo) (F cZ t.zo),E (C t.sa) (F AN t.sa),E (C t.la) (F cL t.la),E (C t.ra) (F cR t.ra),E (C t.dr) (F cD t.dr),.nil]::T [A D 0,A D 0,A D 0,A D 0,A D 0,A D 0,A D 0,E 0 [],E 0 [],E 0 [],E 0 [],E 0 [],E 0 [],E 0 [],E 0 [],E 0 [],E 0 [],E 0 []]::V 133 [])
def Zu(os:List El):H:=.bxg [E (C l) (li l),A D a]::V 2 (.bxh [A D t.r0,A D t.r1,A D t.r2,A D t.r3,A D t.r4,A D t.r5,A D t.r6,E (C t.tr) (F cI t.tr),E (C t.ws) (F cW t.ws),E (C t.ar) (F AD t.ar),E (C t.po) (F cPo t.po),E (C t.fl) (F cF t.fl),.undef,.nil,.nil,.nil,.nil,.nil] [(12,41)]::T [A D 0,A D 0,A D 0,A D 0,A D 0,A D 0,A D 0,E 0 [],E 0 [],E 0 [],E 0 [],E 0 [],E 0 [],E 0 [],E 0 [],E 0 [],E 0 [],E 0 []]::V 36 (Av 9 (C os) (F cZ os)::V 96 []))
def yZ(os:List El):H:=.bxg [E (C l) (li l),A D a]::V 2 (.bxh [A D t.r0,A D t.r1,A D t.r2,A D t.r3,A D t.r4,A D t.r5,A D t.r6,E (C t.tr) (F cI t.tr),E (C t.ws) (F cW t.ws),E (C t.ar) (F AD t.ar),E (C t.po) (F cPo t.po),E (C t.fl) (F cF t.fl),E (C t.zo) (F cZ t.zo),.undef,.nil,.nil,.nil,.nil] [(13,68)]::T [A D 0,A D 0,A D 0,A D 0,A D 0,A D 0,A D 0,E 0 [],E 0 [],E 0 [],E 0 [],E 0 [],E 0 [],E 0 [],E 0 [],E 0 [],E 0 [],E 0 []]::V 63 (Av 10 (C os) (F AN os)::V 69 []))
def Zv(os:List El):H:=.bxg [E (C l) (li l),A D a]::V 2 (.bxh [A D t.r0,A D t.r1,A D t.r2,A D t.r3,A D t.r4,A D t.r5,A D t.r6,E (C t.tr) (F cI t.tr),E (C t.ws) (F cW t.ws),E (C t.ar) (F AD t.ar),E (C t.po) (F cPo t.po),E (C t.fl) (F cF t.fl),E (C t.zo) (F cZ t.zo),E (C t.sa) (F AN t.sa),.undef,.nil,.nil,.nil] [(14,88)]::T [A D 0,A D 0,A D 0,A D 0,A D 0,A D 0,A D 0,E 0 [],E 0 [],E 0 [],E 0 [],E 0 [],E 0 [],E 0 [],E 0 [],E 0 [],E 0 [],E 0 []]::V 83 (Av 6 (C os) (F cL os)::V 49 []))
def zA(os:List El):H:=.bxg [E (C l) (li l),A D a]::V 2 (.bxh [A D t.r0,A D t.r1,A D t.r2,A D t.r3,A D t.r4,A D t.r5,A D t.r6,E (C t.tr) (F cI t.tr),E (C t.ws) (F cW t.ws),E (C t.ar) (F AD t.ar),E (C t.po) (F cPo t.po),E (C t.fl) (F cF t.fl),E (C t.zo) (F cZ t.zo),E (C t.sa) (F AN t.sa),E (C t.la) (F cL t.la),.undef,.nil,.nil] [(15,104)]::T [A D 0,A D 0,A D 0,A D 0,A D 0,A D 0,A D 0,E 0 [],E 0 [],E 0 [],E 0 [],E 0 [],E 0 [],E 0 [],E 0 [],E 0 [],E 0 [],E 0 []]::V 99 (Av 8 (C os) (F cR os)::V 33 []))
def zB(os:List El):H:=.bxg [E (C l) (li l),A D a]::V 2 (.bxh [A D t.r0,A D t.r1,A D t.r2,A D t.r3,A D t.r4,A D t.r5,A D t.r6,E (C t.tr) (F cI t.tr),E (C t.ws) (F cW t.ws),E (C t.ar) (F AD t.ar),E (C t.po) (F cPo t.po),E (C t.fl) (F cF t.fl),E (C t.zo) (F cZ t.zo),E (C t.sa) (F AN t.sa),E (C t.la) (F cL t.la),E (C t.ra) (F cR t.ra),.undef,.nil] [(16,117)]::T [A D 0,A D 0,A D 0,A D 0,A D 0,A D 0,A D 0,E 0 [],E 0 [],E 0 [],E 0 [],E 0 [],E 0 [],E 0 [],E 0 [],E 0 [],E 0 [],E 0 []]::V 112 (Av 5 (C os) (F cD os)::V 20 []))
def A1l(os:List El):H:=.bxg [E (C l) (li l),A D a]::V 2 (.bxh [A D t.r0,A D t.r1,A D t.r2,A D t.r3,A D t.r4,A D t.r5,A D t.r6,E (C t.tr) (F cI t.tr),E (C t.ws) (F cW t.ws),E (C t.ar) (F AD t.ar),E (C t.po) (F cPo t.po),E (C t.fl) (F cF t.fl),E (C t.zo) (F cZ t.zo),E (C t.sa) (F AN t.sa),E (C t.la) (F cL t.la),E (C t.ra) (F cR t.ra),E (C t.dr) (F cD t.dr),.undef] [(17,135)]::T [A D 0,A D 0,A D 0,A D 0,A D 0,A D 0,A D 0,E 0 [],E 0 [],E 0 [],E 0 [],E 0 [],E 0 [],E 0 [],E 0 [],E 0 [],E 0 [],E 0 []]::V 130 (Av 7 (C os) (F cK os)::V 2 []))
def A1m(b:Nat)(co:u):H:=.bxg [E (C l) (li l),A D a]::V 2 (.bxh [A D t.r0,A D t.r1,A D t.r2,A D t.r3,A D t.r4,A D t.r5,A D t.r6,E (C t.tr) (F cI t.tr),E (C t.ws) (F cW t.ws),E (C t.ar) (F AD t.ar),E (C t.po) (F cPo t.po),E (C t.fl) (F cF t.fl),E (C t.zo) (F cZ t.zo),.undef,.nil,.nil,.nil,.nil] [(13,68)]::T [A D 0,A D 0,A D 0,A D 0,A D 0,A D 0,A D 0,E 0 [],E 0 [],E 0 [],E 0 [],E 0 [],E 0 [],E 0 [],E 0 [],E 0 [],E 0 [],E 0 []]::V 63 (Av 10 b co::V 69 []))
def A1n(b:Nat)(co:u):H:=.bxg [E (C l) (li l),A D a]::V 2 (.bxh [A D t.r0,A D t.r1,A D t.r2,A D t.r3,A D t.r4,A D t.r5,A D t.r6,E (C t.tr) (F cI t.tr),E (C t.ws) (F cW t.ws),E (C t.ar) (F AD t.ar),E (C t.po) (F cPo t.po),E (C t.fl) (F cF t.fl),E (C t.zo) (F cZ t.zo),E (C t.sa) (F AN t.sa),E (C t.la) (F cL t.la),.undef,.nil,.nil] [(15,104)]::T [A D 0,A D 0,A D 0,A D 0,A D 0,A D 0,A D 0,E 0 [],E 0 [],E 0 [],E 0 [],E 0 [],E 0 [],E 0 [],E 0 [],E 0 [],E 0 [],E 0 []]::V 99 (Av 8 b co::V 33 []))
def A1o(b:Nat)(co:u):H:=.bxg [E (C l) (li l),A D a]::V 2 (.bxh [A D t.r0,A D t.r1,A D t.r2,A D t.r3,A D t.r4,A D t.r5,A D t.r6,E (C t.tr) (F cI t.tr),E (C t.ws) (F cW t.ws),E (C t.ar) (F AD t.ar),E (C t.po) (F cPo t.po),E (C t.fl) (F cF t.fl),E (C t.zo) (F cZ t.zo),E (C t.sa) (F AN t.sa),E (C t.la) (F cL t.la),E (C t.ra) (F cR t.ra),.undef,.nil] [(16,117)]::T [A D 0,A D 0,A D 0,A D 0,A D 0,A D 0,A D 0,E 0 [],E 0 [],E 0 [],E 0 [],E 0 [],E 0 [],E 0 [],E 0 [],E 0 [],E 0 [],E 0 []]::V 112 (Av 5 b co::V 20 []))
def A1p(b:Nat)(co:u):H:=.bxg [E (C l) (li l),A D a]::V 2 (.bxh [A D t.r0,A D t.r1,A D t.r2,A D t.r3,A D t.r4,A D t.r5,A D t.r6,E (C t.tr) (F cI t.tr),E (C t.ws) (F cW t.ws),E (C t.ar) (F AD t.ar),E (C t.po) (F cPo t.po),E (C t.fl) (F cF t.fl),E (C t.zo) (F cZ t.zo),E (C t.sa) (F AN t.sa),E (C t.la) (F cL t.la),E (C t.ra) (F cR t.ra),E (C t.dr) (F cD t.dr),.undef] [(17,135)]::T [A D 0,A D 0,A D 0,A D 0,A D 0,A D 0,A D 0,E 0 [],E 0 [],E 0 [],E 0 [],E 0 [],E 0 [],E 0 [],E 0 [],E 0 [],E 0 [],E 0 []]::V 130 (Av 7 b co::V 2 []))
def S7(i:Int):H:=.bxg [E (C l) (li l),A D a]::V 2 (T [A D t.r0,A D t.r1,A D t.r2,A D t.r3,A D t.r4,A D t.r5,A D t.r6,E (C t.tr) (F cI t.tr),E (C t.ws) (F cW t.ws),E (C t.ar) (F AD t.ar),E (C t.po) (F cPo t.po),E (C t.fl) (F cF t.fl),.nil,.nil,.nil,.nil,.nil,.nil]::T [A D 0,A D 0,A D 0,A D 0,A D 0,A D 0,A D 0,E 0 [],E 0 [],E 0 [],E 0 [],E 0 [],E 0 [],E 0 [],E 0 [],E 0 [],E 0 [],E 0 []]::vi i::V 132 [])
def J9(os:List El)(i:Int):H:=.bxg [E (C l) (li l),A D a]::V 2 (.bxh [A D t.r0,A D t.r1,A D t.r2,A D t.r3,A D t.r4,A D t.r5,A D t.r6,E (C t.tr) (F cI t.tr),E (C t.ws) (F cW t.ws),E (C t.ar) (F AD t.ar),E (C t.po) (F cPo t.po),E (C t.fl) (F cF t.fl),.undef,.nil,.nil,.nil,.nil,.nil] [(12,41)]::T [A D 0,A D 0,A D 0,A D 0,A D 0,A D 0,A D 0,E 0 [],E 0 [],E 0 [],E 0 [],E 0 [],E 0 [],E 0 [],E 0 [],E 0 [],E 0 [],E 0 []]::vi i::V 35 (Av 9 (C os) (F cZ os)::V 96 []))
def Xy(b:Nat)(co:u)(i:Int):H:=.bxg [E (C l) (li l),A D a]::V 2 (.bxh [A D t.r0,A D t.r1,A D t.r2,A D t.r3,A D t.r4,A D t.r5,A D t.r6,E (C t.tr) (F cI t.tr),E (C t.ws) (F cW t.ws),E (C t.ar) (F AD t.ar),E (C t.po) (F cPo t.po),E (C t.fl) (F cF t.fl),.undef,.nil,.nil,.nil,.nil,.nil] [(12,41)]::T [A D 0,A D 0,A D 0,A D 0,A D 0,A D 0,A D 0,E 0 [],E 0 [],E 0 [],E 0 [],E 0 [],E 0 [],E 0 [],E 0 [],E 0 [],E 0 [],E 0 []]::vi i::V 35 (Av 9 b co::V 96 []))
def Ob(i:Int):H:=.bxg [E (C l) (li l),A D a]::V 2 (T [A D t.r0,A D t.r1,A D t.r2,A D t.r3,A D t.r4,A D t.r5,A D t.r6,E (C t.tr) (F cI t.tr),E (C t.ws) (F cW t.ws),E (C t.ar) (F AD t.ar),E (C t.po) (F cPo t.po),E (C t.fl) (F cF t.fl),E (C t.zo) (F cZ t.zo),E (C t.sa) (F AN t.sa),.nil,.nil,.nil,.nil]::T [A D 0,A D 0,A D 0,A D 0,A D 0,A D 0,A D 0,E 0 [],E 0 [],E 0 [],E 0 [],E 0 [],E 0 [],E 0 [],E 0 [],E 0 [],E 0 [],E 0 []]::V 2 (vi i::V 130 []))
def JA(os:List El)(i:Int):H:=.bxg [E (C l) (li l),A D a]::V 2 (.bxh [A D t.r0,A D t.r1,A D t.r2,A D t.r3,A D t.r4,A D t.r5,A D t.r6,E (C t.tr) (F cI t.tr),E (C t.ws) (F cW t.ws),E (C t.ar) (F AD t.ar),E (C t.po) (F cPo t.po),E (C t.fl) (F cF t.fl),E (C t.zo) (F cZ t.zo),E (C t.sa) (F AN t.sa),.undef,.nil,.nil,.nil] [(14,88)]::T [A D 0,A D 0,A D 0,A D 0,A D 0,A D 0,A D 0,E 0 [],E 0 [],E 0 [],E 0 [],E 0 [],E 0 [],E 0 [],E 0 [],E 0 [],E 0 [],E 0 []]::V 2 (vi i::V 80 (Av 6 (C os) (F cL os)::V 49 [])))
def Xz(b:Nat)(co:u)(i:Int):H:=.bxg [E (C l) (li l),A D a]::V 2 (.bxh [A D t.r0,A D t.r1,A D t.r2,A D t.r3,A D t.r4,A D t.r5,A D t.r6,E (C t.tr) (F cI t.tr),E (C t.ws) (F cW t.ws),E (C t.ar) (F AD t.ar),E (C t.po) (F cPo t.po),E (C t.fl) (F cF t.fl),E (C t.zo) (F cZ t.zo),E (C t.sa) (F AN t.sa),.undef,.nil,.nil,.nil] [(14,88)]::T [A D 0,A D 0,A D 0,A D 0,A D 0,A D 0,A D 0,E 0 [],E 0 [],E 0 [],E 0 [],E 0 [],E 0 [],E 0 [],E 0 [],E 0 [],E 0 [],E 0 []]::V 2 (vi i::V 80 (Av 6 b co::V 49 [])))
def Zw(c:Bool):H:=.bxg [E (C l) (li l),A D a]::V 2 (T [A D t.r0,A D t.r1,A D t.r2,A D t.r3,A D t.r4,A D t.r5,A D t.r6,E (C t.tr) (F cI t.tr),E (C t.ws) (F cW t.ws),E (C t.ar) (F AD t.ar),E (C t.po) (F cPo t.po),E (C t.fl) (F cF t.fl),E (C t.zo) (F cZ t.zo),.nil,.nil,.nil,.nil,.nil]::T [A D 0,A D 0,A D 0,A D 0,A D 0,A D 0,A D 0,E 0 [],E 0 [],E 0 [],E 0 [],E 0 [],E 0 [],E 0 [],E 0 [],E 0 [],E 0 [],E 0 []]::V 40 (Ab (I c)::V 92 []))
def Zx(c:Bool):H:=.bxg [E (C l) (li l),A D a]::V 2 (T [A D t.r0,A D t.r1,A D t.r2,A D t.r3,A D t.r4,A D t.r5,A D t.r6,E (C t.tr) (F cI t.tr),E (C t.ws) (F cW t.ws),E (C t.ar) (F AD t.ar),E (C t.po) (F cPo t.po),E (C t.fl) (F cF t.fl),E (C t.zo) (F cZ t.zo),E (C t.sa) (F AN t.sa),E (C t.la) (F cL t.la),.nil,.nil,.nil]::T [A D 0,A D 0,A D 0,A D 0,A D 0,A D 0,A D 0,E 0 [],E 0 [],E 0 [],E 0 [],E 0 [],E 0 [],E 0 [],E 0 [],E 0 [],E 0 [],E 0 []]::V 87 (Ab (I c)::V 45 []))
def Zy(c:Bool):H:=.bxg [E (C l) (li l),A D a]::V 2 (T [A D t.r0,A D t.r1,A D t.r2,A D t.r3,A D t.r4,A D t.r5,A D t.r6,E (C t.tr) (F cI t.tr),E (C t.ws) (F cW t.ws),E (C t.ar) (F AD t.ar),E (C t.po) (F cPo t.po),E (C t.fl) (F cF t.fl),E (C t.zo) (F cZ t.zo),E (C t.sa) (F AN t.sa),E (C t.la) (F cL t.la),E (C t.ra) (F cR t.ra),.nil,.nil]::T [A D 0,A D 0,A D 0,A D 0,A D 0,A D 0,A D 0,E 0 [],E 0 [],E 0 [],E 0 [],E 0 [],E 0 [],E 0 [],E 0 [],E 0 [],E 0 [],E 0 []]::V 103 (Ab (I c)::V 29 []))
def Zz(c:Bool):H:=.bxg [E (C l) (li l),A D a]::V 2 (T [A D t.r0,A D t.r1,A D t.r2,A D t.r3,A D t.r4,A D t.r5,A D t.r6,E (C t.tr) (F cI t.tr),E (C t.ws) (F cW t.ws),E (C t.ar) (F AD t.ar),E (C t.po) (F cPo t.po),E (C t.fl) (F cF t.fl),E (C t.zo) (F cZ t.zo),E (C t.sa) (F AN t.sa),E (C t.la) (F cL t.la),E (C t.ra) (F cR t.ra),E (C t.dr) (F cD t.dr),.nil]::T [A D 0,A D 0,A D 0,A D 0,A D 0,A D 0,A D 0,E 0 [],E 0 [],E 0 [],E 0 [],E 0 [],E 0 [],E 0 [],E 0 [],E 0 [],E 0 [],E 0 []]::V 116 (Ab (I c)::V 16 []))
end
def Amn:ICode := .region false (i (Ca Yw 98 2))
theorem zC(t:Tbl)(l:LI)(a:Int)   : Aa Amn (CL (iF g Yw) [.gb (c l a),M [A D t.r0,A D t.r1,A D t.r2,A D t.r3,A D t.r4,A D t.r5,A D t.r6,E (C t.tr) (F cI t.tr),E (C t.ws) (F cW t.ws),E (C t.ar) (F AD t.ar),E (C t.po) (F cPo t.po),E (C t.fl) (F cF t.fl),.nil,.nil,.nil,.nil,.nil,.nil]]) .norm (Nd t l a):=B BX [] T0 a0
def qA:ICode := .region false (i (Ca Yw 96 12))
theorem RV(t:Tbl)(l:LI)(d a b:Int)(e:RQ 38 [.gb (c l d),A D 3] (.io (c l a) (A D b))):Aa qA (Nd t l d) .norm (S7 t l a b):=B BX [.r (.io (c l a) (A D b))] wY (Bc e)
def JB:ICode:=Ca Yw 94 52
section
variable(t:Tbl)(l:LI)(j:Int)
theorem jE(i k a b m d n e o f p g q h:Int)(nm:ByteArray)(c1:G (i>0)=true)(s:RQ 42 [.gb (c l j)] (.io (c l k) (M [A D a,A D b])))(v:RQ 41 [.str ⟨#[122]⟩,A D i] (.str nm))(w:RQ 37 [.gb (c l k),A D 200,A D 3000] (.io (c l m) (A D d)))(x:RQ 37 [.gb (c l m),A D 200,A D 3000] (.io (c l n) (A D e)))(y:RQ 37 [.gb (c l n),A D (-30),A D 30] (.io (c l o) (A D f)))(z:RQ 37 [.gb (c l o),A D (-30),A D 30] (.io (c l p) (A D g)))(E:RQ 37 [.gb (c l p),A D (-1),A D 3] (.io (c l q) (A D h))):Aa JB (S7 t l j i) .norm (Xy t l q 1 ([.str nm,A D 0,A D a,A D b,A D (O D (a+d)),A D (O D (b+e)),A D f,A D g,A D h]:u) (O D (i-1))):=B BX [bT,.r (.io (c l k) (M [A D a,A D b])),.r (.str nm),.r (.io (c l m) (A D d)),.r (.io (c l n) (A D e)),.r (.io (c l o) (A D f)),.r (.io (c l p) (A D g)),.r (.io (c l q) (A D h))] [0,3,4,5,41] (Fm c1 s v w x y z E (show C ([.str nm,A D 0,A D a,A D b,A D (O D (a+d)),A D (O D (b+e)),A D f,A D g,A D h]:u)=1*9 from rfl) Ck)
theorem jF(i:Int)(c1:G (i>0)=false):Aa JB (S7 t l j i) xZ0 (S7 t l j i):=B BX [Y] wY (Bc c1)
theorem Z0(os:List El)(i k a b m d n e o f p g q h:Int)(nm:ByteArray)(c1:G (i>0)=true)(s:C os+1<=1048576)(v:RQ 42 [.gb (c l j)] (.io (c l k) (M [A D a,A D b])))(w:RQ 41 [.str ⟨#[122]⟩,A D i] (.str nm))(x:RQ 37 [.gb (c l k),A D 200,A D 3000] (.io (c l m) (A D d)))(y:RQ 37 [.gb (c l m),A D 200,A D 3000] (.io (c l n) (A D e)))(z:RQ 37 [.gb (c l n),A D (-30),A D 30] (.io (c l o) (A D f)))(E:RQ 37 [.gb (c l o),A D (-30),A D 30] (.io (c l p) (A D g)))(H:RQ 37 [.gb (c l p),A D (-1),A D 3] (.io (c l q) (A D h))):Aa JB (J9 t l j os i) .norm (Xy t l q (C os+1) (F cZ os++([.str nm,A D 0,A D a,A D b,A D (O D (a+d)),A D (O D (b+e)),A D f,A D g,A D h]:u)) (O D (i-1))):=B BX [bT,.r (.io (c l k) (M [A D a,A D b])),.r (.str nm),.r (.io (c l m) (A D d)),.r (.io (c l n) (A D e)),.r (.io (c l o) (A D f)),.r (.io (c l p) (A D g)),.r (.io (c l q) (A D h))] [0,3,4,5,41] (Fm c1 v w x y z E H (show C ([.str nm,A D 0,A D a,A D b,A D (O D (a+d)),A D (O D (b+e)),A D f,A D g,A D h]:u)=1*9 from rfl) s)
theorem Z1(os:List El)(i:Int)(c1:G (i>0)=false):Aa JB (J9 t l j os i) xZ0 (J9 t l j os i):=B BX [Y] [0,3,4,5,41] (Bc c1)
end
def TD:ICode := .region false (i (Ca Yw 95 28))
theorem Z2(t:Tbl)(l:LI)(d a b:Int)(e:RQ 38 [.gb (c l d),A D 3] (.io (c l a) (A D b))):Aa TD (Nd t l d) .norm (Zw ({ t with zo:=[] }) l a (b==0)):=B BX [.r (.io (c l a) (A D b))] [0,3,4,45] (Bc e)
theorem Z3(t:Tbl)(l:LI)(d:Int)(os:List El)(a b:Int)(e:RQ 38 [.gb (c l d),A D 3] (.io (c l a) (A D b))):Aa TD (Zu t l d os) .norm (Zw ({ t with zo:=os }) l a (b==0)):=B BX [.r (.io (c l a) (A D b))] [0,3,4,45] (Bc e)
def A1q:ICode := .region true (i (Ca Yw 94 58))
theorem qB(t:Tbl)(l:LI)(s j a b k d m e n f o g p h q i:Int)(v:RQ 42 [.gb (c l s)] (.io (c l j) (M [A D a,A D b])))(w:RQ 37 [.gb (c l j),A D 20,A D (O D (t.r0-1))] (.io (c l k) (A D d)))(x:RQ 37 [.gb (c l k),A D 0,A D 2000] (.io (c l m) (A D e)))(y:RQ 37 [.gb (c l m),A D (-400),A D 400] (.io (c l n) (A D f)))(z:RQ 37 [.gb (c l n),A D (-400),A D 400] (.io (c l o) (A D g)))(E:RQ 38 [.gb (c l o),A D 4] (.io (c l p) (A D h)))(F:RQ 37 [.gb (c l p),A D (-1),A D 9] (.io (c l q) (A D i))):Aa A1q (Zq t l s) .norm (A1m t l q 1 ([.str ⟨#[115,49]⟩,A D 0,A D a,A D b,A D d,A D e,A D f,A D g,A D h,A D i]:u)):=B BX [.r (.io (c l j) (M [A D a,A D b])),.r (.io (c l k) (A D d)),.r (.io (c l m) (A D e)),.r (.io (c l n) (A D f)),.r (.io (c l o) (A D g)),.r (.io (c l p) (A D h)),.r (.io (c l q) (A D i))] [0,3,4,68] (K0 v w x y z E F (show C ([.str ⟨#[115,49]⟩,A D 0,A D a,A D b,A D d,A D e,A D f,A D g,A D h,A D i]:u)=1*10 from rfl) Ck)
def PH:ICode := .region false (i (Ca Yw 94 60))
theorem Z4(t:Tbl)(l:LI)(d a b:Int)(e:RQ 38 [.gb (c l d),A D 3] (.io (c l a) (A D b))):Aa PH (Zq t l d) .norm (Ob ({ t with sa:=[] }) l a b):=B BX [.r (.io (c l a) (A D b))] [0,3,4,7] (Bc e)
theorem Z5(t:Tbl)(l:LI)(d:Int)(os:List El)(a b:Int)(e:RQ 38 [.gb (c l d),A D 3] (.io (c l a) (A D b))):Aa PH (yZ t l d os) .norm (Ob ({ t with sa:=os }) l a b):=B BX [.r (.io (c l a) (A D b))] [0,3,4,7] (Bc e)
def JC:ICode:=Ca Yw 92 244
section
variable(t:Tbl)(l:LI)(f:Int)
theorem jG(i g a b h d j e:Int)(nm:ByteArray)(c1:G (i>0)=true)(k:RQ 41 [.str ⟨#[108]⟩,A D i] (.str nm))(m:RQ 42 [.gb (c l f)] (.io (c l g) (M [A D a,A D b])))(n:RQ 37 [.gb (c l g),A D 20,A D 400] (.io (c l h) (A D d)))(o:RQ 38 [.gb (c l h),A D 10] (.io (c l j) (A D e))):Aa JC (Ob t l f i) .norm (Xz t l j 1 ([.str nm,A D 0,A D a,A D b,A D d,A D e]:u) (O D (i-1))):=B BX [bT,.r (.str nm),.r (.io (c l g) (M [A D a,A D b])),.r (.io (c l h) (A D d)),.r (.io (c l j) (A D e))] [0,3,4,7,88] (Gs c1 k m n o (show C ([.str nm,A D 0,A D a,A D b,A D d,A D e]:u)=1*6 from rfl) Ck)
theorem jH(i:Int)(c1:G (i>0)=false):Aa JC (Ob t l f i) xZ2 (Ob t l f i):=B BX [Y] [0,3,4,7] (Bc c1)
theorem Z6(os:List El)(i g a b h d j e:Int)(nm:ByteArray)(c1:G (i>0)=true)(k:C os+1<=1048576)(m:RQ 41 [.str ⟨#[108]⟩,A D i] (.str nm))(n:RQ 42 [.gb (c l f)] (.io (c l g) (M [A D a,A D b])))(o:RQ 37 [.gb (c l g),A D 20,A D 400] (.io (c l h) (A D d)))(p:RQ 38 [.gb (c l h),A D 10] (.io (c l j) (A D e))):Aa JC (JA t l f os i) .norm (Xz t l j (C os+1) (F cL os++([.str nm,A D 0,A D a,A D b,A D d,A D e]:u)) (O D (i-1))):=B BX [bT,.r (.str nm),.r (.io (c l g) (M [A D a,A D b])),.r (.io (c l h) (A D d)),.r (.io (c l j) (A D e))] [0,3,4,7,88] (Gs c1 m n o p (show C ([.str nm,A D 0,A D a,A D b,A D d,A D e]:u)=1*6 from rfl) k)
theorem Z7(os:List El)(i:Int)(c1:G (i>0)=false):Aa JC (JA t l f os i) xZ2 (JA t l f os i):=B BX [Y] [0,3,4,7,88] (Bc c1)
end
def TE:ICode := .region false (i (Ca Yw 93 124))
theorem Z8(t:Tbl)(l:LI)(d a b:Int)(e:RQ 38 [.gb (c l d),A D 4] (.io (c l a) (A D b))):Aa TE (Zr t l d) .norm (Zx ({ t with la:=[] }) l a (b==0)):=B BX [.r (.io (c l a) (A D b))] [0,3,4,92] (Bc e)
theorem Z9(t:Tbl)(l:LI)(d:Int)(os:List El)(a b:Int)(e:RQ 38 [.gb (c l d),A D 4] (.io (c l a) (A D b))):Aa TE (Zv t l d os) .norm (Zx ({ t with la:=os }) l a (b==0)):=B BX [.r (.io (c l a) (A D b))] [0,3,4,92] (Bc e)
def Amo:ICode := .region true (i (Ca Yw 92 250))
theorem jI(t:Tbl)(l:LI)(i f a b g d h e:Int)(j:RQ 42 [.gb (c l i)] (.io (c l f) (M [A D a,A D b])))(k:RQ 37 [.gb (c l f),A D 50,A D 500] (.io (c l g) (A D d)))(m:RQ 37 [.gb (c l g),A D (-5),A D 5] (.io (c l h) (A D e))):Aa Amo (Zs t l i) .norm (A1n t l h 1 ([.str ⟨#[114,49]⟩,A D 0,A D 1,A D a,A D b,A D d,A D e,A D 1]:u)):=B BX [.r (.io (c l f) (M [A D a,A D b])),.r (.io (c l g) (A D d)),.r (.io (c l h) (A D e))] [0,3,4,104] (Fh j k m (show C ([.str ⟨#[114,49]⟩,A D 0,A D 1,A D a,A D b,A D d,A D e,A D 1]:u)=1*8 from rfl) Ck)
def QQ:ICode := .region false (i (Ca Yw 92 252))
theorem WX(t:Tbl)(l:LI)(d a b:Int)(e:RQ 38 [.gb (c l d),A D 4] (.io (c l a) (A D b))):Aa QQ (Zs t l d) .norm (Zy ({ t with ra:=[] }) l a (b==0)):=B BX [.r (.io (c l a) (A D b))] [0,3,4,108] (Bc e)
theorem WY(t:Tbl)(l:LI)(d:Int)(os:List El)(a b:Int)(e:RQ 38 [.gb (c l d),A D 4] (.io (c l a) (A D b))):Aa QQ (zA t l d os) .norm (Zy ({ t with ra:=os }) l a (b==0)):=B BX [.r (.io (c l a) (A D b))] [0,3,4,108] (Bc e)
def Amp:ICode := .region true (i (Ca Yw 91 506))
theorem jJ(t:Tbl)(l:LI)(g e a b f d:Int)(h:RQ 42 [.gb (c l g)] (.io (c l e) (M [A D a,A D b])))(i:RQ 37 [.gb (c l e),A D 50,A D 400] (.io (c l f) (A D d))):Aa Amp (Zt t l g) .norm (A1o t l f 1 ([.str ⟨#[100,49]⟩,A D 0,A D a,A D b,A D d]:u)):=B BX [.r (.io (c l e) (M [A D a,A D b])),.r (.io (c l f) (A D d))] [0,3,4,117] (Fk h i (show C ([.str ⟨#[100,49]⟩,A D 0,A D a,A D b,A D d]:u)=1*5 from rfl) Ck)
def QR:ICode := .region false (i (Ca Yw 91 508))
theorem WZ(t:Tbl)(l:LI)(d a b:Int)(e:RQ 38 [.gb (c l d),A D 2] (.io (c l a) (A D b))):Aa QR (Zt t l d) .norm (Zz ({ t with dr:=[] }) l a (b==0)):=B BX [.r (.io (c l a) (A D b))] [0,3,4,121] (Bc e)
theorem W_(t:Tbl)(l:LI)(d:Int)(os:List El)(a b:Int)(e:RQ 38 [.gb (c l d),A D 2] (.io (c l a) (A D b))):Aa QR (zB t l d os) .norm (Zz ({ t with dr:=os }) l a (b==0)):=B BX [.r (.io (c l a) (A D b))] [0,3,4,121] (Bc e)
def Amq:ICode := .region true (i (Ca Yw 90 1018))
theorem jK(t:Tbl)(l:LI)(k g a b h d i e j f:Int)(m:RQ 42 [.gb (c l k)] (.io (c l g) (M [A D a,A D b])))(n:RQ 37 [.gb (c l g),A D (-300),A D 300] (.io (c l h) (A D d)))(o:RQ 37 [.gb (c l h),A D 0,A D 500] (.io (c l i) (A D e)))(p:RQ 38 [.gb (c l i),A D 4] (.io (c l j) (A D f))):Aa Amq (yY t l k) .norm (A1p t l j 1 ([.str ⟨#[107,49]⟩,A D 0,A D a,A D b,A D d,A D e,A D f]:u)):=B BX [.r (.io (c l g) (M [A D a,A D b])),.r (.io (c l h) (A D d)),.r (.io (c l i) (A D e)),.r (.io (c l j) (A D f))] [0,3,4,135] (EP m n o p (show C ([.str ⟨#[107,49]⟩,A D 0,A D a,A D b,A D d,A D e,A D f]:u)=1*7 from rfl) Ck)
def PI(t:Tbl)(l:LI)(a:Int):H:=.bxg [E (C l) (li l),A D a]::V 3 (T t.cs::V 133 [])
def UT:ICode:=Ca Yw 92 255
theorem Xa(t:Tbl)(l:LI)(a:Int)   : Aa UT (yY t l a) .ret (PI ({ t with ln:=[] }) l a):=B BX [] [0,4] a0
theorem Xb(t:Tbl)(l:LI)(a:Int)(os:List El)   : Aa UT (A1l t l a os) .ret (PI ({ t with ln:=os }) l a):=B BX [] [0,4] a0
def Amr:ICode := .seq (.seq QR (.cond (.t 121) Amq .skip)) UT
def Ams:ICode := .seq (.seq QQ (.cond (.t 108) Amp .skip)) Amr
def Amt:ICode := .seq (.seq TE (.cond (.t 92) Amo .skip)) Ams
def Amu:ICode := .seq (.seq PH (.block 2 (.loop JC))) Amt
def Amv:ICode := .seq (.seq TD (.cond (.t 45) A1q .skip)) Amu
def A9z:ICode := .seq (.seq qA (.block 0 (.loop JB))) Amv
theorem A1r:(iF g Yw).body=(.seq Amn A9z):=by kernel_rfl
theorem FW.to{prog:Nat->Option IFunc}{f:Nat}{args:u}{r r':AV}(h:FW prog f args r)(e:r=r'):FW prog f args r':=e ▸ h
theorem A'{n:Int}(h1 : -9223372036854775808<=n)(h2:n<=9223372036854775807):O D n=n:=by
 simp only[O,Co,IntKind.signed];simp;omega
theorem wqz{n:Int}(a:-9223372036854775808<=n:=by omega)(b:n<=9223372036854775807:=by omega):O D n=n:=A' a b
theorem wrz{n m:Int}(a:-9223372036854775808<=n:=by omega)(b:n<=9223372036854775807:=by omega)(e:n=m:=by omega):O D n=m:=(A' a b).trans e
theorem Fi(n:Int):O Ba n=n % 18446744073709551616:=by
 simp only[O,Co,IntKind.signed,Ea,AC,if_false];omega
theorem RU(n:Int):O Bd n=n % 4294967296:=by
 simp only[O,Co,IntKind.signed,Ea,AC,if_false];omega
def Sp(l:LI)(p:Int):Prop:=C l<4611686018427387904/\0<=p/\p<=(C l:Int)
section
variable{l:LI}
theorem BE{p n:Int}(N:Sp l p)(hn:0<n)(hm:n<=1000000):∃ q v,Sp l q/\(0<=v/\v<n)/\RQ 38 [.gb (c l p),A D n] (.io (c l q) (A D v)):=by
 obtain⟨hl,h0,h1⟩:=N;cases c1:decide (p>=(C l:Int))
 ·have a5:p<(C l:Int):=by have:=of_decide_eq_false c1;omega
  have hw:O D (p+1)=p+1:=A' (by omega) (by omega);have b1:Ch (L l (J p) 0) n<n:=O4 _ hn;have b2 : -n<Ch (L l (J p) 0) n:=by
   have:=iQ (L l (J p) 0) hn;omega
  cases c2:decide (Ch (L l (J p) 0) n<0)
  ·have hc:=of_decide_eq_false c2;have h:=Ari l p n c1 c2 ⟨h0,a5⟩ (by omega);rw[hw] at h;exact⟨p+1,_,⟨hl,by omega,by omega⟩,⟨by omega,b1⟩,h⟩
  ·have hc:=of_decide_eq_true c2;have h:=Arh l p n c1 c2 ⟨h0,a5⟩ (by omega);rw[hw,A' (n:=Ch (L l (J p) 0) n+n) (by omega) (by omega)] at h;exact⟨p+1,_,⟨hl,by omega,by omega⟩,⟨by omega,by omega⟩,h⟩
 ·exact⟨p,0,⟨hl,h0,h1⟩,⟨by omega,hn⟩,Arg l p n c1⟩
theorem BO{p a b:Int}(N:Sp l p)(ha : -400000<=a)(d1:a<=b)(hb:b<=400000):∃ q v,Sp l q/\(a<=v/\v<=b)/\RQ 37 [.gb (c l p),A D a,A D b] (.io (c l q) (A D v)):=by
 obtain⟨q,v,hq,hv,h⟩:=BE (n:=b-a+1) N (by omega) (by omega);have e1:O D (b-a)=b-a:=A' (by omega) (by omega);have e2:O D (b-a+1)=b-a+1:=A' (by omega) (by omega);have h:=A9h l a b p q v (by rw[e1,e2];exact h);rw[A' (n:=a+v) (by omega) (by omega)] at h;exact⟨q,_,hq,⟨by omega,by omega⟩,h⟩
theorem GV{p:Int}(N:Sp l p):∃ q x y,Sp l q/\(-2500<=x/\x<=2500 /\ -2500<=y/\y<=2500)/\RQ 42 [.gb (c l p)] (.io (c l q) (M [A D x,A D y])):=by
 obtain⟨o,S,h1,b1,r1⟩:=BO (a := -50) (b:=50) N (by omega) (by omega) (by omega);obtain⟨j,d,h2,b2,r2⟩:=BO (a := -50) (b:=50) h1 (by omega) (by omega) (by omega);have h:=A9i l p o S j d r1 r2;rw[A' (n:=50*S) (by omega) (by omega),A' (n:=50*d) (by omega) (by omega)] at h;exact⟨j,_,_,h2,⟨by omega,by omega,by omega,by omega⟩,h⟩
theorem Azr{i:Int}(N:Sp l i):∃ q e,Sp l q/\pA e/\RQ 44 [.gb (c l i)] (.io (c l q) (M (cF e))):=by
 obtain⟨o,S,h1,b1,r1⟩:=BO (a := -120) (b:=60) N (by omega) (by omega) (by omega);obtain⟨j,x2,y2,h2,b2,r2⟩:=GV h1;obtain⟨w,f,V,b3,r3⟩:=BO (a:=300) (b:=1000) h2 (by omega) (by omega) (by omega);obtain⟨z,k,h4,b4,r4⟩:=BE (n:=2) V (by omega) (by omega);obtain⟨B,r,h5,b5,r5⟩:=BO (a:=20) (b:=120) h4 (by omega) (by omega) (by omega);obtain⟨E,t,h6,b6,r6⟩:=BO (a:=1) (b:=12) h5 (by omega) (by omega) (by omega);obtain⟨F,m,h7,b7,G⟩:=BO (a:=1) (b:=6) h6 (by omega) (by omega) (by omega);obtain⟨H,u,W,b8,I⟩:=BO (a:=4) (b:=40) h7 (by omega) (by omega) (by omega);obtain⟨X,T,Z,b9,Y⟩:=BE (n:=16) W (by omega) (by omega);obtain⟨a1,U,a2,c5,a3⟩:=BE (n:=3) Z (by omega) (by omega);obtain⟨c6,a6,c7,d2,c8⟩:=BE (n:=4) a2 (by omega) (by omega);obtain⟨a7,a8,c9,d3,d0⟩:=BO (a := -1) (b:=9) c7 (by omega) (by omega) (by omega);have h:=A9j l i o S j x2 y2 w f z k B r E t F m H u X T a1 U c6 a6 a7 a8 r1 r2 r3 r4 r5 r6 G I Y a3 c8 d0;rw[A' (n:=S+r) (by omega) (by omega)] at h;refine⟨a7,⟨Bw,[0,x2,y2,f,S,S+r,t,m,u,T,U,a6,a8],k==1⟩,c9,⟨fun x g=>by simp only[Aw,A3,or_false] at g;unfold Sm;omega,by simp only[El.n,Bj,Bo,true_and];omega⟩,h⟩
theorem xR{i:Int}(N:Sp l i):∃ q e,Sp l q/\Wk e/\RQ 40 [.gb (c l i)] (.io (c l q) (M (cW e))):=by
 obtain⟨o,s,K,h1,b1,r1⟩:=GV N;obtain⟨j,d,h2,b2,r2⟩:=BO (a := -90) (b:=90) h1 (by omega) (by omega) (by omega);obtain⟨w,f,V,b3,r3⟩:=BO (a := -90) (b:=90) h2 (by omega) (by omega) (by omega);obtain⟨z,k,h4,b4,r4⟩:=BO (a:=1) (b:=4) V (by omega) (by omega) (by omega);obtain⟨B,r,h5,b5,r5⟩:=BE (n:=16) h4 (by omega) (by omega);obtain⟨E,t,h6,b6,r6⟩:=BE (n:=4) h5 (by omega) (by omega);obtain⟨F,m,h7,b7,G⟩:=BE (n:=6) h6 (by omega) (by omega);obtain⟨H,u,W,b8,I⟩:=BO (a := -1) (b:=9) h7 (by omega) (by omega) (by omega);obtain⟨X,T,Z,b9,Y⟩:=BE (n:=4) W (by omega) (by omega);obtain⟨a9,a4,b0,d4,c0⟩:=BE (n:=8) W (by omega) (by omega);obtain⟨a1,U,a2,c5,a3⟩:=BE (n:=8) Z (by omega) (by omega);have g2:O D (10*d)=10*d:=A' (by omega) (by omega);have P:O D (10*f)=10*f:=A' (by omega) (by omega);have gx:O D (s+10*d)=s+10*d:=A' (by omega) (by omega);have g4:O D (s+400)=s+400:=A' (by omega) (by omega);have Q:O D (K+10*f)=K+10*f:=A' (by omega) (by omega);have R:O D (20*m)=20*m:=A' (by omega) (by omega);have c4:O D (50*U)=50*U:=A' (by omega) (by omega);have g9:O D (50*a4)=50*a4:=A' (by omega) (by omega);have hd:(O D (10*d)==0&&(O D (10*f)==0&&true))=false->10*d ≠ 0\/10*f ≠ 0:=by
  rw[g2,P];intro h;by_cases h2:10*d=0
  ·by_cases V:10*f=0
   ·rw[h2,V] at h;cases h
   ·exact .inr V
  ·exact .inl h2
 cases c1:(O D (10*d)==0&&(O D (10*f)==0&&true)) <;> cases c2:(k != 1) <;> cases c3:(k==4)
 ·have hd:=hd c1;have h:=Arq l i o s K j d w f z k B r E t F m H u c1 c2 c3 r1 r2 r3 r4 r5 r6 G I;rw[g2,P,gx,Q,R] at h;refine⟨_,⟨_,[_,_,_,_,_,_,_,_,_,_,_,_],false⟩,W,?_,h⟩;exact⟨fun x g=>by simp only[Aw,A3,or_false] at g;unfold Sm;omega,by simp only[El.n,Bj,Bo,true_and];omega⟩
 ·have hd:=hd c1;have h:=Arp l i o s K j d w f z k B r E t F m H u a9 a4 c1 c2 c3 r1 r2 r3 r4 r5 r6 G I c0;rw[g2,P,gx,Q,R,g9] at h;refine⟨_,⟨_,[_,_,_,_,_,_,_,_,_,_,_,_],false⟩,b0,?_,h⟩;exact⟨fun x g=>by simp only[Aw,A3,or_false] at g;unfold Sm;omega,by simp only[El.n,Bj,Bo,true_and];omega⟩
 ·have hd:=hd c1;have h:=Aro l i o s K j d w f z k B r E t F m H u X T c1 c2 c3 r1 r2 r3 r4 r5 r6 G I Y;rw[g2,P,gx,Q,R] at h;refine⟨_,⟨_,[_,_,_,_,_,_,_,_,_,_,_,_],false⟩,Z,?_,h⟩;exact⟨fun x g=>by simp only[Aw,A3,or_false] at g;unfold Sm;omega,by simp only[El.n,Bj,Bo,true_and];omega⟩
 ·have hd:=hd c1;have h:=Arn l i o s K j d w f z k B r E t F m H u X T a1 U c1 c2 c3 r1 r2 r3 r4 r5 r6 G I Y a3;rw[g2,P,gx,Q,R,c4] at h;refine⟨_,⟨_,[_,_,_,_,_,_,_,_,_,_,_,_],false⟩,a2,?_,h⟩;exact⟨fun x g=>by simp only[Aw,A3,or_false] at g;unfold Sm;omega,by simp only[El.n,Bj,Bo,true_and];omega⟩
 ·have h:=Arm l i o s K j d w f z k B r E t F m H u c1 c2 c3 r1 r2 r3 r4 r5 r6 G I;rw[P,g4,Q,R] at h;refine⟨_,⟨_,[_,_,_,_,_,_,_,_,_,_,_,_],false⟩,W,?_,h⟩;exact⟨fun x g=>by simp only[Aw,A3,or_false] at g;unfold Sm;omega,by simp only[El.n,Bj,Bo,true_and];omega⟩
 ·have h:=Arl l i o s K j d w f z k B r E t F m H u a9 a4 c1 c2 c3 r1 r2 r3 r4 r5 r6 G I c0;rw[P,g4,Q,R,g9] at h;refine⟨_,⟨_,[_,_,_,_,_,_,_,_,_,_,_,_],false⟩,b0,?_,h⟩;exact⟨fun x g=>by simp only[Aw,A3,or_false] at g;unfold Sm;omega,by simp only[El.n,Bj,Bo,true_and];omega⟩
 ·have h:=Ark l i o s K j d w f z k B r E t F m H u X T c1 c2 c3 r1 r2 r3 r4 r5 r6 G I Y;rw[P,g4,Q,R] at h;refine⟨_,⟨_,[_,_,_,_,_,_,_,_,_,_,_,_],false⟩,Z,?_,h⟩;exact⟨fun x g=>by simp only[Aw,A3,or_false] at g;unfold Sm;omega,by simp only[El.n,Bj,Bo,true_and];omega⟩
 ·have h:=Arj l i o s K j d w f z k B r E t F m H u X T a1 U c1 c2 c3 r1 r2 r3 r4 r5 r6 G I Y a3;rw[P,g4,Q,R,c4] at h;refine⟨_,⟨_,[_,_,_,_,_,_,_,_,_,_,_,_],false⟩,a2,?_,h⟩;exact⟨fun x g=>by simp only[Aw,A3,or_false] at g;unfold Sm;omega,by simp only[El.n,Bj,Bo,true_and];omega⟩
end
def aX(i:Nat):Int × Int:=L [(5,0),(4,3),(3,4),(0,5),(-3,4),(-4,3),(-5,0),(-4,-3),(-3,-4),(0,-5),(3,-4),(4,-3)] i (0,0)
theorem Aly{i:Nat}(h:i<12):Ad (R (i*2) UP) 0 2 false=some (M [A D (aX i).1,A D (aX i).2]):=by
 match i,h with
 | 0,_ | 1,_ | 2,_ | 3,_ | 4,_ | 5,_ | 6,_ | 7,_ | 8,_ | 9,_ | 10,_ | 11,_=>rfl
theorem Azs:∀ i,i<12->∀ n,n<4->Azb (aX i).1 (aX i).2 (aX ((i+(n+1)) % 12)).1 (aX ((i+(n+1)) % 12)).2:=by
 unfold Azb;decide
theorem LL{r x:Int}(hr:0<=r/\r<=500)(a : -5<=x/\x<=5) : -2500<=r*x/\r*x<=2500:=by
 have h1:r*x<=r*5:=C' a.2 hr.1;have h2:r*(-5)<=r*x:=C' a.1 hr.1;omega
theorem A9m{l:LI}{s a:Int}(G:Sp l s)(t:0<=a/\a<=1000):∃ q e,Sp l q/\(∀ r,2*r<=a->Ak r e)/\RQ 43 [.gb (c l s),A D a] (.io (c l q) (M (AD e))):=by
 obtain⟨H,d,h1,z,r1⟩:=BE (n:=12) G (by omega) (by omega);obtain⟨I,f,h2,b2,r2⟩:=BO (a:=1) (b:=4) h1 (by omega) (by omega) (by omega);obtain⟨K,g,L,b3,r3⟩:=BE (n:=200) h2 (by omega) (by omega);obtain⟨N,u,v,P,b4,r4⟩:=GV L;obtain⟨Q,B,R,S,r5⟩:=BE (n:=16) P (by omega) (by omega);obtain⟨T,C,U,V,r6⟩:=BE (n:=4) R (by omega) (by omega);obtain⟨W,E,X,Y,Z⟩:=BO (a := -1) (b:=9) U (by omega) (by omega) (by omega);have F:O D (d+f)=d+f:=A' (by omega) (by omega);have t1:0<=Ch (d+f) 12:=Int.tmod_nonneg _ (by omega);have t2:Ch (d+f) 12<12:=O4 _ (by omega);have t3:Ch (d+f) 12=(d+f) % 12:=Int.tmod_eq_emod_of_nonneg (by omega);have j:=Azs d.toNat (by omega) (f-1).toNat (by omega);rw[show (d.toNat+((f-1).toNat+1)) % 12=J (Ch (d+f) 12) by omega] at j;have w:=Aly (i:=J d) (by omega);have y:=Aly (i:=J (Ch (d+f) 12)) (by omega);generalize aX (J d)=d1 at w j;generalize aX (J (Ch (d+f) 12))=d2 at y j;obtain⟨k,m⟩:=d1;obtain⟨o,p⟩:=d2;dsimp only at w y j;have a1:=j;obtain⟨_,_,_,g3,g4⟩:=a1;have h:=A9k l a s H d I f K g N u v Q B T C W E k m o p ⟨z.1,z.2⟩ (by rw[F];exact⟨t1,t2⟩) r1 r2 r3 r4 w (by rw[F];exact y) r5 r6 Z;have q1:0<=Dt a 5:=Int.tdiv_nonneg t.1 (by omega);have q2:Dt a 5<=200:=by rw[Ko t.1];omega
 rw[A' (n:=Dt a 5) (by omega) (by omega),A' (n:=Dt a 5+1) (by omega) (by omega),A' (n:=Dt a 5+1+g) (by omega) (by omega)] at h;have hr:0<=Dt a 5+1+g/\Dt a 5+1+g<=500/\a<5*(Dt a 5+1+g):=by rw[Ko t.1] at q1 q2 |-;omega
 generalize Dt a 5+1+g=r at h hr;have m1:=LL ⟨hr.1,hr.2.1⟩ (x:=k) (by omega);have m2:=LL ⟨hr.1,hr.2.1⟩ (x:=m) (by omega);have m3:=LL ⟨hr.1,hr.2.1⟩ (x:=o) (by omega);have m4:=LL ⟨hr.1,hr.2.1⟩ (x:=p) (by omega);rw[A' (n:=r*k) (by omega) (by omega),A' (n:=r*m) (by omega) (by omega),A' (n:=r*o) (by omega) (by omega),A' (n:=r*p) (by omega) (by omega),A' (n:=u+r*k) (by omega) (by omega),A' (n:=v+r*m) (by omega) (by omega),A' (n:=u+r*o) (by omega) (by omega),A' (n:=v+r*p) (by omega) (by omega)] at h;refine⟨_,⟨_,[_,_,_,_,_,_,_,_,_,_,_],false⟩,X,?_,h⟩;exact fun r' a2=>⟨fun x hx=>by simp only[Aw,A3,or_false] at hx;unfold Sm;omega,rfl,⟨S.1,(by omega:B<=15)⟩,⟨V.1,(by omega:C<=15)⟩,rfl,⟨Y.1,(by omega:E<=63)⟩,r,k,m,o,p,by omega,⟨hr.1,hr.2.1⟩,j,rfl,rfl,rfl,rfl⟩
theorem Na{c:UInt8}{i:Int}(h:1<=i/\i<=3):RQ 41 [.str ⟨#[c]⟩,A D i] (.str (S2 c i)):=by
 have e:i=1\/i=2\/i=3:=by omega
 rcases e with rfl | rfl | rfl
 ·exact pG ⟨#[c]⟩ ⟨#[49]⟩ 1 (by show 2<=9223372036854775807;decide) ⟨8,by kernel_rfl⟩
 ·exact pG ⟨#[c]⟩ ⟨#[50]⟩ 2 (by show 2<=9223372036854775807;decide) ⟨8,by kernel_rfl⟩
 ·exact pG ⟨#[c]⟩ ⟨#[51]⟩ 3 (by show 2<=9223372036854775807;decide) ⟨8,by kernel_rfl⟩
section
variable {l:LI} {t:Tbl}
theorem Asb{q j:Int}(os:List El)(e:El):Xy t l q (C os+1) (F cZ os++cZ e) j=J9 t l q (os++[e]) j:=by
 rw[Fo];show _=Xy t l q (C (os++[e])) (F cZ (os++[e])) j;rw[Ah];rfl
theorem A1s{p i:Int}(H:Sp l p)(hi:1<=i/\i<=3):∃ q e,Sp l q/\Zk e/\e.s=S2 122 i/\Aa JB (S7 t l p i) .norm (J9 t l q [e] (i-1)) /\
  ∀ os:List El,C os<=9->Aa JB (J9 t l p os i) .norm (J9 t l q (os++[e]) (i-1)):=by
 obtain⟨v,d,f,h1,N,r1⟩:=GV H;have w:=Na (c:=122) hi;obtain⟨y,g,h2,P,r2⟩:=BO (a:=200) (b:=3000) h1 (by omega) (by omega) (by omega);obtain⟨z,j,I,Q,r3⟩:=BO (a:=200) (b:=3000) h2 (by omega) (by omega) (by omega);obtain⟨A,k,J,R,r4⟩:=BO (a := -30) (b:=30) I (by omega) (by omega) (by omega);obtain⟨B,m,K,S,r5⟩:=BO (a := -30) (b:=30) J (by omega) (by omega) (by omega);obtain⟨r,u,L,T,r6⟩:=BO (a := -1) (b:=3) K (by omega) (by omega) (by omega);have E:O D (d+g)=d+g:=A' (by omega) (by omega);have F:O D (f+j)=f+j:=A' (by omega) (by omega);have G:O D (i-1)=i-1:=A' (by omega) (by omega);have hc:decide (i>0)=true:=o (by omega);refine⟨r,⟨S2 122 i,[0,d,f,d+g,f+j,k,m,u],false⟩,L,⟨fun x M=>by simp only[Aw,A3,or_false] at M;unfold Sm;omega,by simp only[El.n,Bj,Bo,true_and];omega⟩,rfl,?_,fun os U => ?_⟩
 ·have h:=jE t l p i v d f y g z j A k B m r u _ hc r1 w r2 r3 r4 r5 r6;rw[G,E,F] at h;exact h
 ·have h:=Z0 t l p os i v d f y g z j A k B m r u _ hc (by omega) r1 w r2 r3 r4 r5 r6;rw[G,E,F] at h;rw[<- Asb];exact h
theorem Amw:∀ (n:Nat) {p:Int} {os:List El},n<=3->C os+n<=9->(∀ e∈os,Zk e)->Sp l p->∃ q a,Sp l q/\C a=C os+n/\((∀ e∈a,Zk e)/\a.map El.s=os.map El.s++IG 122 n)/\Aa (.loop JB) (J9 t l p os n) xZ0 (J9 t l q a 0)
 | 0,p,os,_,_,hP,b=>⟨p,os,b,rfl,⟨hP,(Df _).symm⟩,f (Z1 t l p os 0 rfl)⟩
 | n+1,p,os,hn,hl,hP,b=>by
  obtain⟨q,e,d,g,hs,_,h2⟩:=A1s (i:=((n+1:Nat):Int)) b (by omega);obtain⟨j,a,k,m,⟨o,r⟩,u⟩:=Amw n (p:=q) (os:=os++[e]) (by omega) (by rw[Ah];simp;omega) (fun x v=>by rcases AK.1 v with h | h;exact hP x h;rw[AP.1 h];exact g) d;have c:=h2 os (by omega);rw[show ((n+1:Nat):Int)-1=(n:Int) by omega] at c;exact⟨j,a,k,by rw[m,Ah];simp;omega,⟨o,by rw[r,DU,Ci];simp only[Bg,C1,hs];rfl⟩,AB c u⟩
theorem A1t{p:Int}(n:Nat)(hn:n<=2)(a:Sp l p):∃ q os,Sp l q/\FO Zk (IG 122 2) os/\∃ st,Aa (.loop JB) (S7 t l p n) xZ0 st/\((os=[]/\st=S7 t l q 0)\/st=J9 t l q os 0):=by
 cases n with
 | zero=>exact⟨p,[],a,.nil,_,f (jF t l p 0 rfl),.inl ⟨rfl,rfl⟩⟩
 | succ n =>
  obtain⟨q,e,b,c,hs,h1,_⟩:=A1s (i:=((n+1:Nat):Int)) a (by omega);obtain⟨d,g,h,r,⟨j,k⟩,m⟩:=Amw n (p:=q) (os:=[e]) (by omega) (by simp;omega) (fun x o=>by rw[AP.1 o];exact c) b;rw[show ((n+1:Nat):Int)-1=(n:Int) by omega] at h1;exact⟨d,g,h,⟨j,by rw[k];simp only[Bg,C1,hs];exact M' (n:=n+1) (by omega)⟩,_,AB h1 m,.inr rfl⟩
theorem Asc{q j:Int}(os:List El)(e:El):Xz t l q (C os+1) (F cL os++cL e) j=JA t l q (os++[e]) j:=by
 rw[Fo];show _=Xz t l q (C (os++[e])) (F cL (os++[e])) j;rw[Ah];rfl
theorem A1u{p i:Int}(w:Sp l p)(hi:1<=i/\i<=3):∃ q e,Sp l q/\Lk e/\e.s=S2 108 i/\Aa JC (Ob t l p i) .norm (JA t l q [e] (i-1)) /\
  ∀ os:List El,C os<=9->Aa JC (JA t l p os i) .norm (JA t l q (os++[e]) (i-1)):=by
 have m:=Na (c:=108) hi;obtain⟨r,d,f,h1,A,r1⟩:=GV w;obtain⟨u,g,h2,B,r2⟩:=BO (a:=20) (b:=400) h1 (by omega) (by omega) (by omega);obtain⟨j,k,y,E,r3⟩:=BE (n:=10) h2 (by omega) (by omega);have v:O D (i-1)=i-1:=A' (by omega) (by omega);have hc:decide (i>0)=true:=o (by omega);refine⟨j,⟨S2 108 i,[0,d,f,g,k],false⟩,y,⟨fun x z=>by simp only[Aw,A3,or_false] at z;unfold Sm;omega,by simp only[El.n,Bj,Bo,true_and];omega⟩,rfl,?_,fun os F => ?_⟩
 ·have h:=jG t l p i r d f u g j k _ hc m r1 r2 r3;rw[v] at h;exact h
 ·have h:=Z6 t l p os i r d f u g j k _ hc (by omega) m r1 r2 r3;rw[v] at h;rw[<- Asc];exact h
theorem Amx:∀ (n:Nat) {p:Int} {os:List El},n<=3->C os+n<=9->(∀ e∈os,Lk e)->Sp l p->∃ q a,Sp l q/\C a=C os+n/\((∀ e∈a,Lk e)/\a.map El.s=os.map El.s++IG 108 n)/\Aa (.loop JC) (JA t l p os n) xZ2 (JA t l q a 0)
 | 0,p,os,_,_,hP,b=>⟨p,os,b,rfl,⟨hP,(Df _).symm⟩,f (Z7 t l p os 0 rfl)⟩
 | n+1,p,os,hn,hl,hP,b=>by
  obtain⟨q,e,d,g,hs,_,h2⟩:=A1u (i:=((n+1:Nat):Int)) b (by omega);obtain⟨j,a,k,m,⟨o,r⟩,u⟩:=Amx n (p:=q) (os:=os++[e]) (by omega) (by rw[Ah];simp;omega) (fun x v=>by rcases AK.1 v with h | h;exact hP x h;rw[AP.1 h];exact g) d;have c:=h2 os (by omega);rw[show ((n+1:Nat):Int)-1=(n:Int) by omega] at c;exact⟨j,a,k,by rw[m,Ah];simp;omega,⟨o,by rw[r,DU,Ci];simp only[Bg,C1,hs];rfl⟩,AB c u⟩
section
variable{p:Int}
theorem A1v(n:Nat)(hn:n<=2)(u:Sp l p):∃ q os,Sp l q/\FO Lk (IG 108 2) os/\∃ st,Aa (.loop JC) (Ob t l p n) xZ2 st/\((os=[]/\st=Ob t l q 0)\/st=JA t l q os 0):=by
 cases n with
 | zero=>exact⟨p,[],u,.nil,_,f (jH t l p 0 rfl),.inl ⟨rfl,rfl⟩⟩
 | succ n =>
  obtain⟨q,e,k,U,hs,h1,_⟩:=A1u (i:=((n+1:Nat):Int)) u (by omega);obtain⟨V,W,X,E,⟨F,Y⟩,J⟩:=Amx n (p:=q) (os:=[e]) (by omega) (by simp;omega) (fun x z=>by rw[AP.1 z];exact U) k;rw[show ((n+1:Nat):Int)-1=(n:Int) by omega] at h1;exact⟨V,W,X,⟨F,by rw[Y];simp only[Bg,C1,hs];exact M' (n:=n+1) (by omega)⟩,_,AB h1 J,.inr rfl⟩
theorem AEo{os:List El}{st:H}(u:Sp l p)(h:(os=[]/\st=Zt t l p)\/st=zB t l p os):∃ q c,Sp l q/\FO Kk [⟨#[107,49]⟩] c/\Aa Amr st .ret (PI { t with dr:=os,ln:=c } l q):=by
 obtain⟨g,d,h0,_,r0⟩:=BE (n:=2) u (by omega) (by omega);have e:Aa QR st .norm (Zz { t with dr:=os } l g (d==0)):=by
  rcases h with ⟨rfl,rfl⟩ | rfl
  ·exact WZ t l p g d r0
  ·exact W_ t l p os g d r0
 cases hb:(d==0) <;> rw[hb] at e
 ·exact⟨g,[],h0,.nil,N (N e (GU [0,3,4] rfl (by kernel_rfl))) (Xa { t with dr:=os } l g)⟩
 ·obtain⟨y,m,o,h1,K,r1⟩:=GV h0;obtain⟨B,r,h2,L,r2⟩:=BO (a := -300) (b:=300) h1 (by omega) (by omega) (by omega);obtain⟨G,v,E,S,r3⟩:=BO (a:=0) (b:=500) h2 (by omega) (by omega) (by omega);obtain⟨I,C,F,Z,r4⟩:=BE (n:=4) E (by omega) (by omega);exact⟨I,[⟨⟨#[107,49]⟩,[0,m,o,r,v,C],false⟩],F,.one ⟨fun x z=>by simp only[Aw,A3,or_false] at z;unfold Sm;omega,by simp only[El.n,Bj,Bo,true_and];omega⟩,N (N e (Ge [0,3,4] rfl (by kernel_rfl) (jK { t with dr:=os } l g y m o B r G v I C r1 r2 r3 r4))) (Xb { t with dr:=os } l I [⟨⟨#[107,49]⟩,[0,m,o,r,v,C],false⟩])⟩
theorem AEp{os:List El}{st:H}(u:Sp l p)(h:(os=[]/\st=Zs t l p)\/st=zA t l p os):∃ q j c,Sp l q/\(FO Dk [⟨#[100,49]⟩] j/\FO Kk [⟨#[107,49]⟩] c)/\Aa Ams st .ret (PI { t with ra:=os,dr:=j,ln:=c } l q):=by
 obtain⟨g,d,h0,_,r0⟩:=BE (n:=4) u (by omega) (by omega);have e:Aa QQ st .norm (Zy { t with ra:=os } l g (d==0)):=by
  rcases h with ⟨rfl,rfl⟩ | rfl
  ·exact WX t l p g d r0
  ·exact WY t l p os g d r0
 cases hb:(d==0) <;> rw[hb] at e
 ·obtain⟨q,c,k,hl,hr⟩:=AEo (t:={ t with ra:=os }) (os:=[]) h0 (.inl ⟨rfl,rfl⟩);exact⟨q,[],c,k,⟨.nil,hl⟩,N (N e (GU [0,3,4] rfl (by kernel_rfl))) hr⟩
 ·obtain⟨y,m,o,h1,K,r1⟩:=GV h0;obtain⟨B,r,h2,L,r2⟩:=BO (a:=50) (b:=400) h1 (by omega) (by omega) (by omega);obtain⟨q,c,k,hl,hr⟩:=AEo (t:={ t with ra:=os }) (os:=[⟨⟨#[100,49]⟩,[0,m,o,r],false⟩]) h2 (.inr rfl);exact⟨q,[⟨⟨#[100,49]⟩,[0,m,o,r],false⟩],c,k,⟨.one ⟨fun x z=>by simp only[Aw,A3,or_false] at z;unfold Sm;omega,by simp only[El.n,Bj,Bo,true_and];omega⟩,hl⟩,N (N e (Ge [0,3,4] rfl (by kernel_rfl) (jJ { t with ra:=os } l g y m o B r r1 r2))) hr⟩
theorem pl_4{os:List El}{st:H}(u:Sp l p)(h:(os=[]/\st=Zr t l p)\/st=Zv t l p os):∃ q s j c,Sp l q/\(FO Rk [⟨#[114,49]⟩] s/\FO Dk [⟨#[100,49]⟩] j/\FO Kk [⟨#[107,49]⟩] c)/\Aa Amt st .ret (PI { t with la:=os,ra:=s,dr:=j,ln:=c } l q):=by
 obtain⟨g,d,h0,_,r0⟩:=BE (n:=4) u (by omega) (by omega);have e:Aa TE st .norm (Zx { t with la:=os } l g (d==0)):=by
  rcases h with ⟨rfl,rfl⟩ | rfl
  ·exact Z8 t l p g d r0
  ·exact Z9 t l p os g d r0
 cases hb:(d==0) <;> rw[hb] at e
 ·obtain⟨q,j,c,k,hl,hr⟩:=AEp (t:={ t with la:=os }) (os:=[]) h0 (.inl ⟨rfl,rfl⟩);exact⟨q,[],j,c,k,⟨.nil,hl⟩,N (N e (GU [0,3,4] rfl (by kernel_rfl))) hr⟩
 ·obtain⟨y,m,o,h1,K,r1⟩:=GV h0;obtain⟨B,r,h2,L,r2⟩:=BO (a:=50) (b:=500) h1 (by omega) (by omega) (by omega);obtain⟨G,v,E,S,r3⟩:=BO (a := -5) (b:=5) h2 (by omega) (by omega) (by omega);obtain⟨q,j,c,k,hl,hr⟩:=AEp (t:={ t with la:=os }) (os:=[⟨⟨#[114,49]⟩,[0,1,m,o,r,v,1],false⟩]) E (.inr rfl);exact⟨q,[⟨⟨#[114,49]⟩,[0,1,m,o,r,v,1],false⟩],j,c,k,⟨.one ⟨fun x z=>by simp only[Aw,A3,or_false] at z;unfold Sm;omega,by simp only[El.n,Bj,Bo,true_and,and_true];omega⟩,hl⟩,N (N e (Ge [0,3,4] rfl (by kernel_rfl) (jI { t with la:=os } l g y m o B r G v r1 r2 r3))) hr⟩
theorem AEq{os:List El}{st:H}(u:Sp l p)(h:(os=[]/\st=Zq t l p)\/st=yZ t l p os):∃ q A s j c,Sp l q/\(FO Lk (IG 108 2) A/\FO Rk [⟨#[114,49]⟩] s/\FO Dk [⟨#[100,49]⟩] j/\FO Kk [⟨#[107,49]⟩] c)/\Aa Amu st .ret (PI { t with sa:=os,la:=A,ra:=s,dr:=j,ln:=c } l q):=by
 obtain⟨g,d,h0,b0,r0⟩:=BE (n:=3) u (by omega) (by omega);have e:Aa PH st .norm (Ob { t with sa:=os } l g d):=by
  rcases h with ⟨rfl,rfl⟩ | rfl
  ·exact Z4 t l p g d r0
  ·exact Z5 t l p os g d r0
 obtain⟨y,ls,h1,e1,a1,M,e3⟩:=A1v (t:={ t with sa:=os }) d.toNat (by omega) h0;rw[show (d.toNat:Int)=d by omega] at M;have e4:∃ IW,Aa (.seq PH (.block 2 (.loop JC))) st .norm IW/\((ls=[]/\IW=Zr { t with sa:=os } l y)\/IW=Zv { t with sa:=os } l y ls):=by
  rcases e3 with ⟨rfl,rfl⟩ | rfl
  ·exact⟨_,N e (w [0,3,4] (A0 M) (by kernel_rfl)),.inl ⟨rfl,rfl⟩⟩
  ·exact⟨_,N e (w [0,3,4,88] (A0 M) (by kernel_rfl)),.inr rfl⟩
 obtain⟨IW,e5,e6⟩:=e4;obtain⟨q,s,j,c,k,hl,hr⟩:=pl_4 h1 e6;exact⟨q,ls,s,j,c,k,⟨e1,hl⟩,N e5 hr⟩
theorem pl_2{os:List El}{st:H}(u:Sp l p)(hr:64<=t.r0/\t.r0<=200)(h:(os=[]/\st=Nd t l p)\/st=Zu t l p os):∃ q T A s j c,Sp l q/\(FO (Sk t.r0) [⟨#[115,49]⟩] T/\FO Lk (IG 108 2) A/\FO Rk [⟨#[114,49]⟩] s/\FO Dk [⟨#[100,49]⟩] j/\FO Kk [⟨#[107,49]⟩] c)/\Aa Amv st .ret (PI { t with zo:=os,sa:=T,la:=A,ra:=s,dr:=j,ln:=c } l q):=by
 obtain⟨g,d,h0,_,r0⟩:=BE (n:=3) u (by omega) (by omega);have e:Aa TD st .norm (Zw { t with zo:=os } l g (d==0)):=by
  rcases h with ⟨rfl,rfl⟩ | rfl
  ·exact Z2 t l p g d r0
  ·exact Z3 t l p os g d r0
 cases hb:(d==0) <;> rw[hb] at e
 ·obtain⟨q,A,s,j,c,k,hl,hr⟩:=AEq (t:={ t with zo:=os }) (os:=[]) h0 (.inl ⟨rfl,rfl⟩);exact⟨q,[],A,s,j,c,k,⟨.nil,hl⟩,N (N e (GU [0,3,4] rfl (by kernel_rfl))) hr⟩
 ·obtain⟨y,m,o,h1,K,r1⟩:=GV h0;have hw:O D (t.r0-1)=t.r0-1:=A' (by omega) (by omega);obtain⟨B,r,h2,L,r2⟩:=BO (a:=20) (b:=(t.r0-1)) h1 (by omega) (by omega) (by omega);rw[<- hw] at r2;obtain⟨G,v,E,S,r3⟩:=BO (a:=0) (b:=2000) h2 (by omega) (by omega) (by omega);obtain⟨I,C,F,Z,r4⟩:=BO (a := -400) (b:=400) E (by omega) (by omega) (by omega);obtain⟨p5,P,J,b5,r5⟩:=BO (a := -400) (b:=400) F (by omega) (by omega) (by omega);obtain⟨p6,Q,h6,b6,r6⟩:=BE (n:=4) J (by omega) (by omega);obtain⟨p7,R,h7,b7,r7⟩:=BO (a := -1) (b:=9) h6 (by omega) (by omega) (by omega);obtain⟨q,A,s,j,c,k,hl,hr⟩:=AEq (t:={ t with zo:=os }) (os:=[⟨⟨#[115,49]⟩,[0,m,o,r,v,C,P,Q,R],false⟩]) h7 (.inr rfl);exact⟨q,[⟨⟨#[115,49]⟩,[0,m,o,r,v,C,P,Q,R],false⟩],A,s,j,c,k,⟨.one ⟨fun x z=>by simp only[Aw,A3,or_false] at z;unfold Sm;omega,by simp only[El.n,Bj,Bo,true_and];omega⟩,hl⟩,N (N e (Ge [0,3,4] rfl (by kernel_rfl) (qB { t with zo:=os } l g y m o B r G v I C p5 P p6 Q p7 R r1 r2 r3 r4 r5 r6 r7))) hr⟩
end
theorem Ahn{p:Int}(m:Sp l p)(hr:64<=t.r0/\t.r0<=200):∃ (q:Int) (u:Tbl),Sp l q/\(FO Zk (IG 122 2) u.zo/\FO (Sk t.r0) [⟨#[115,49]⟩] u.sa/\FO Lk (IG 108 2) u.la/\FO Rk [⟨#[114,49]⟩] u.ra/\FO Dk [⟨#[100,49]⟩] u.dr/\FO Kk [⟨#[107,49]⟩] u.ln) /\
  RQ 45 [.gb (c l p),M (t.upto 12)] (.io (c l q) (Tbl.av { t with zo:=u.zo,sa:=u.sa,la:=u.la,ra:=u.ra,dr:=u.dr,ln:=u.ln })):=by
 obtain⟨d,a,h0,B,r0⟩:=BE (n:=3) m (by omega) (by omega);obtain⟨e,zs,h1,o,C,b,r⟩:=A1t (t:=t) a.toNat (by omega) h0;rw[show (a.toNat:Int)=a by omega] at b;have v:∃ IW,Aa (.seq qA (.block 0 (.loop JB))) (Nd t l p) .norm IW/\((zs=[]/\IW=Nd t l e)\/IW=Zu t l e zs):=by
  rcases r with ⟨rfl,rfl⟩ | rfl
  ·exact⟨_,N (RV t l p d a r0) (w [0,3,4] (A0 b) (by kernel_rfl)),.inl ⟨rfl,rfl⟩⟩
  ·exact⟨_,N (RV t l p d a r0) (w [0,3,4,41] (A0 b) (by kernel_rfl)),.inr rfl⟩
 obtain⟨IW,x,y⟩:=v;obtain⟨q,f,h,i,j,k,z,hl,A⟩:=pl_2 h1 hr y;refine⟨q,{ t with zo:=zs,sa:=f,la:=h,ra:=i,dr:=j,ln:=k },z,⟨o,hl⟩,B6 (fn:=iF g Yw) (s:=PI { t with zo:=zs,sa:=f,la:=h,ra:=i,dr:=j,ln:=k } l q) (ex := .ret) rfl rfl ?_ (by nofun) rfl⟩;rw[A1r];exact N (zC t l p) (N x A)
end
def frN:List ByteArray:=[⟨#[115,111,117,116,104]⟩,⟨#[101,97,115,116]⟩,⟨#[110,111,114,116,104]⟩,⟨#[119,101,115,116]⟩]
structure TOk (t:Tbl):Prop where
 r0:64<=t.r0/\t.r0<=200
 r1:1<=t.r1/\t.r1<=3
 rs:(0<=t.r2/\t.r2<=15)/\(-256<=t.r3/\t.r3<=256)/\(-256<=t.r4/\t.r4<=256)/\(0<=t.r5/\t.r5<=1000)/\(0<=t.r6/\t.r6<=14)
 Tr:(t.tr.length:Int)<=t.r1/\∀ x∈t.tr,-1<=x/\x<=63
 Ws:FO Wk (frN++IG 119 3) t.ws
 Ar:FO (Ak t.r0) [⟨#[97,49]⟩] t.ar
 Po:FO Pk (IG 112 2) t.po
 Fl:FO pA (IG 102 2) t.fl
 Zo:FO Zk (IG 122 2) t.zo
 Sa:FO (Sk t.r0) [⟨#[115,49]⟩] t.sa
 La:FO Lk (IG 108 2) t.la
 Ra:FO Rk [⟨#[114,49]⟩] t.ra
 Dr:FO Dk [⟨#[100,49]⟩] t.dr
 Ln:FO Kk [⟨#[107,49]⟩] t.ln
section
variable{t:Tbl}
theorem TOk.l7(h:TOk t):C t.tr<=10:=by have:=h.Tr.1;have:=h.r1;omega
theorem TOk.l8(h:TOk t):C t.ws<=10:=AA h.Ws.len (by decide)
theorem TOk.l9(h:TOk t):C t.ar<=10:=AA h.Ar.len (by decide)
theorem TOk.l10(h:TOk t):C t.po<=10:=AA h.Po.len (by decide)
theorem TOk.l11(h:TOk t):C t.fl<=10:=AA h.Fl.len (by decide)
theorem TOk.l12(h:TOk t):C t.zo<=10:=AA h.Zo.len (by decide)
theorem TOk.l13(h:TOk t):C t.sa<=10:=AA h.Sa.len (by decide)
theorem TOk.l14(h:TOk t):C t.la<=10:=AA h.La.len (by decide)
theorem TOk.l15(h:TOk t):C t.ra<=10:=AA h.Ra.len (by decide)
theorem TOk.l16(h:TOk t):C t.dr<=10:=AA h.Dr.len (by decide)
theorem TOk.l17(h:TOk t):C t.ln<=10:=AA h.Ln.len (by decide)
end
theorem Amy{b:Int}(hb:0<=b/\b<=15):FO Wk frN (yB 3000 b):=by
 have c:O D (0-3000) = -3000:=A' (by omega) (by omega);refine⟨fun e a => ?_,RF _⟩;unfold yB at a;rw[c] at a;simp only[Aw,A3,or_false] at a;rcases a with rfl | rfl | rfl | rfl <;> exact⟨fun x d=>by simp only[Aw,A3,or_false] at d;unfold Sm;omega,by simp only[El.n,Bj,Bo,true_and];omega⟩
section
variable {l:LI} {t:Tbl}
theorem Asd{q j:Int}(os:LI)(e:Int):pP t l q (C os+1) (F cI os++cI e) j=Oa t l q (os++[e]) j:=by
 rw[Fo];show _=pP t l q (C (os++[e])) (F cI (os++[e])) j;rw[Ah];rfl
theorem Amz:∀ (d:Nat) {p i:Int} {os:LI},i+(d:Int)=t.r1->0<=i->t.r1<=3->(C os:Int)=i->(∀ x∈os,-1<=x/\x<=63)->∃ a:LI,((C a:Int)<=t.r1/\∀ x∈a,-1<=x/\x<=63)/\Aa (.loop PD) (Oa t l p os i) xZ0 (Oa t l p a t.r1)
 | 0,p,i,os,h,h0,c,hl,b=>by
  have e:i=t.r1:=by omega
  rw[<- e];exact⟨os,⟨by omega,b⟩,f (pR t l p os i (As (by omega)))⟩
 | d+1,p,i,os,h,h0,c,hl,b=>by
  have h1:=pQ t l p os i (o (by omega)) (by omega);rw[A' (n:=i+1) (by omega) (by omega)] at h1;have h2:Aa PD (Oa t l p os i) .norm (Oa t l p (os++[O D (10+i)]) (i+1)):=by
   rw[<- Asd];exact h1
  obtain⟨a,g,j⟩:=Amz d (p:=p) (i:=i+1) (os:=os++[O D (10+i)]) (by omega) (by omega) c (by rw[Ah];simp;omega) (fun x h=>by rcases AK.1 h with h | h;exact b x h;rw[AP.1 h,A' (n:=10+i) (by omega) (by omega)];omega);exact⟨a,g,AB h2 j⟩
theorem A1w{p:Int}(h1:1<=t.r1)(b:t.r1<=3):∃ os:LI,((C os:Int)<=t.r1/\∀ x∈os,-1<=x/\x<=63)/\Aa (.seq Ahm (.block 0 (.loop PD))) (A0u t l p) .norm (A0z t l p os):=by
 have h2:=yC t l p 0 (o (by omega));have a:Aa PD (A0y t l p 0) .norm (Oa t l p [O D (10+0)] (O D (0+1))):=h2;rw[A' (n:=0+1) (by omega) (by omega)] at a;obtain⟨os,c,d⟩:=Amz (l:=l) (t:=t) (t.r1-1).toNat (p:=p) (i:=0+1) (os:=[O D (10+0)]) (by omega) (by omega) b (by simp) (fun x h=>by rw[AP.1 h,A' (n:=10+0) (by omega) (by omega)];omega);exact⟨os,c,N (Asa t l p) (w [2,3,4,44] (A0 (AB a d)) (by kernel_rfl))⟩
theorem lX{q j:Int}(os:List El)(e:El):Zj t l q (C os+1) (F cW os++cW e) j=Lf t l q (os++[e]) j:=by
 rw[Fo];show _=Zj t l q (C (os++[e])) (F cW (os++[e])) j;rw[Ah];rfl
theorem A1x{p i:Int}(g:Sp l p)(hi:1<=i/\i<=3):∃ q e,Sp l q/\Wk e/\e.s=S2 119 i/\Aa I1 (Zi t l p i) .norm (Lf t l q [e] (i-1)) /\
  ∀ os:List El,C os<=20->Aa I1 (Lf t l p os i) .norm (Lf t l q (os++[e]) (i-1)):=by
 have a:O D (i-1)=i-1:=A' (by omega) (by omega);have hc:decide (i>0)=true:=o (by omega);obtain⟨q,e,j,b,r⟩:=xR g;have d:=Na (c:=119) hi;refine⟨q,⟨S2 119 i,[e.n 0,e.n 1,e.n 2,e.n 3,e.n 4,e.n 5,e.n 6,e.n 7,e.n 8,e.n 9,e.n 10,e.n 11],false⟩,j,⟨(fun x f=>by simp only[Aw,A3,or_false] at f;rcases f with rfl | rfl | rfl | rfl | rfl | rfl | rfl | rfl | rfl | rfl | rfl | rfl <;> exact El.ok.n b.1 _),b.2⟩,rfl,?_,fun os k => ?_⟩
 ·have h:=yE t l p i q (e.n 0) (e.n 1) (e.n 2) (e.n 3) (e.n 4) (e.n 5) (e.n 6) (e.n 7) (e.n 8) (e.n 9) (e.n 10) (e.n 11) e.s _ hc r d;rw[a] at h;exact h
 ·have h:=pS t l p os i q (e.n 0) (e.n 1) (e.n 2) (e.n 3) (e.n 4) (e.n 5) (e.n 6) (e.n 7) (e.n 8) (e.n 9) (e.n 10) (e.n 11) e.s _ hc (by omega) r d;rw[a] at h;rw[<- lX];exact h
theorem AHf{p i:Int}{os:List El}(d:Sp l p)(hi:1<=i/\i<=3)(k:C os<=20):∃ q e,Sp l q/\Wk e/\e.s=S2 119 i/\Aa I1 (yD t l p os i) .norm (Lf t l q (os++[e]) (i-1)):=by
 have f:O D (i-1)=i-1:=A' (by omega) (by omega);have hc:decide (i>0)=true:=o (by omega);obtain⟨q,e,g,a,r⟩:=xR d;have j:=Na (c:=119) hi;refine⟨q,⟨S2 119 i,[e.n 0,e.n 1,e.n 2,e.n 3,e.n 4,e.n 5,e.n 6,e.n 7,e.n 8,e.n 9,e.n 10,e.n 11],false⟩,g,⟨(fun x b=>by simp only[Aw,A3,or_false] at b;rcases b with rfl | rfl | rfl | rfl | rfl | rfl | rfl | rfl | rfl | rfl | rfl | rfl <;> exact El.ok.n a.1 _),a.2⟩,rfl,?_⟩;have h:=yG t l p os i q (e.n 0) (e.n 1) (e.n 2) (e.n 3) (e.n 4) (e.n 5) (e.n 6) (e.n 7) (e.n 8) (e.n 9) (e.n 10) (e.n 11) e.s _ hc (by omega) r j;rw[f] at h;rw[<- lX];exact h
theorem qC:∀ (n:Nat) {p:Int} {os:List El},n<=3->C os+n<=10->(∀ e∈os,Wk e)->Sp l p->∃ q a,Sp l q/\C a=C os+n/\((∀ e∈a,Wk e)/\a.map El.s=os.map El.s++IG 119 n)/\Aa (.loop I1) (Lf t l p os n) xZ2 (Lf t l q a 0)
 | 0,p,os,_,_,hP,b=>⟨p,os,b,rfl,⟨hP,(Df _).symm⟩,f (pT t l p os 0 rfl)⟩
 | n+1,p,os,hn,hl,hP,b=>by
  obtain⟨q,e,d,g,hs,_,h2⟩:=A1x (t:=t) (i:=((n+1:Nat):Int)) b (by omega);obtain⟨j,a,k,m,⟨o,r⟩,u⟩:=qC n (p:=q) (os:=os++[e]) (by omega) (by rw[Ah];simp;omega) (fun x v=>by rcases AK.1 v with h | h;exact hP x h;rw[AP.1 h];exact g) d;have c:=h2 os (by omega);rw[show ((n+1:Nat):Int)-1=(n:Int) by omega] at c;exact⟨j,a,k,by rw[m,Ah];simp;omega,⟨o,by rw[r,DU,Ci];simp only[Bg,C1,hs];rfl⟩,AB c u⟩
theorem A1y{p:Int}(n:Nat)(hn:n<=3)(a:Sp l p):∃ q os,Sp l q/\FO Wk (IG 119 3) os/\∃ st,Aa (.loop I1) (Zi t l p n) xZ2 st/\((os=[]/\st=Zi t l q 0)\/st=Lf t l q os 0):=by
 cases n with
 | zero=>exact⟨p,[],a,.nil,_,f (yF t l p 0 rfl),.inl ⟨rfl,rfl⟩⟩
 | succ n =>
  obtain⟨q,e,b,c,hs,h1,_⟩:=A1x (t:=t) (i:=((n+1:Nat):Int)) a (by omega);obtain⟨d,g,h,r,⟨j,k⟩,m⟩:=qC (t:=t) n (p:=q) (os:=[e]) (by omega) (by simp;omega) (fun x o=>by rw[AP.1 o];exact c) b;rw[show ((n+1:Nat):Int)-1=(n:Int) by omega] at h1;exact⟨d,g,h,⟨j,by rw[k];simp only[Bg,C1,hs];exact M' (n:=n+1) (by omega)⟩,_,AB h1 m,.inr rfl⟩
theorem lY{q j:Int}(os:List El)(e:El):US t l q (C os+1) (F cPo os++cPo e) j=Lg t l q (os++[e]) j:=by
 rw[Fo];show _=US t l q (C (os++[e])) (F cPo (os++[e])) j;rw[Ah];rfl
theorem A1z{p i:Int}(T:Sp l p)(hi:1<=i/\i<=3):∃ q e,Sp l q/\Pk e/\e.s=S2 112 i/\Aa Kd (PE t l p i) .norm (Lg t l q [e] (i-1)) /\
  ∀ os:List El,C os<=20->Aa Kd (Lg t l p os i) .norm (Lg t l q (os++[e]) (i-1)):=by
 have y:O D (i-1)=i-1:=A' (by omega) (by omega);have hc:decide (i>0)=true:=o (by omega);have z:=Na (c:=112) hi;obtain⟨A,f,g,h1,b1,r1⟩:=GV T;obtain⟨B,j,h2,b2,r2⟩:=BE (n:=300) h1 (by omega) (by omega);obtain⟨E,k,U,b3,r3⟩:=BE (n:=16) h2 (by omega) (by omega);obtain⟨F,m,V,b4,r4⟩:=BE (n:=4) U (by omega) (by omega);obtain⟨G,d,W,b5,r5⟩:=BE (n:=4) V (by omega) (by omega);obtain⟨H,r,X,b6,r6⟩:=BO (a := -1) (b:=9) W (by omega) (by omega) (by omega);obtain⟨u,v,N,b7,I⟩:=BE (n:=2) X (by omega) (by omega);have J:O D (20*d)=20*d:=A' (by omega) (by omega);cases hb:(v==1)
 ·refine⟨u,⟨S2 112 i,[0,f,g,j,k,m,0,20*d,-1,r],false⟩,N,⟨fun x K=>by simp only[Aw,A3,or_false] at K;unfold Sm;omega,by simp only[El.n,Bj,Bo,true_and];omega⟩,rfl,?_,fun os Y => ?_⟩
  ·have h:=yJ t l p i A f g B j E k F m G d H r u v _ hc hb z r1 r2 r3 r4 r5 r6 I;rw[y,J] at h;exact h
  ·have h:=pV t l p os i A f g B j E k F m G d H r u v _ hc hb (by omega) z r1 r2 r3 r4 r5 r6 I;rw[y,J] at h;rw[<- lY];exact h
 ·obtain⟨P,w,Z,b8,Q⟩:=BE (n:=10) N (by omega) (by omega);obtain⟨L,M,h9,b9,R⟩:=BE (n:=4) Z (by omega) (by omega);have S:O D (40*w)=40*w:=A' (by omega) (by omega);refine⟨L,⟨S2 112 i,[0,f,g,j,k,m,40*w,20*d,M,r],false⟩,h9,⟨fun x K=>by simp only[Aw,A3,or_false] at K;unfold Sm;omega,by simp only[El.n,Bj,Bo,true_and];omega⟩,rfl,?_,fun os Y => ?_⟩
  ·have h:=yI t l p i A f g B j E k F m G d H r u v P w L M _ hc hb z r1 r2 r3 r4 r5 r6 I Q R;rw[y,J,S] at h;exact h
  ·have h:=pU t l p os i A f g B j E k F m G d H r u v P w L M _ hc hb (by omega) z r1 r2 r3 r4 r5 r6 I Q R;rw[y,J,S] at h;rw[<- lY];exact h
theorem Ana:∀ (n:Nat) {p:Int} {os:List El},n<=3->C os+n<=10->(∀ e∈os,Pk e)->Sp l p->∃ q a,Sp l q/\C a=C os+n/\((∀ e∈a,Pk e)/\a.map El.s=os.map El.s++IG 112 n)/\Aa (.loop Kd) (Lg t l p os n) xZ4 (Lg t l q a 0)
 | 0,p,os,_,_,hP,b=>⟨p,os,b,rfl,⟨hP,(Df _).symm⟩,f (pW t l p os 0 rfl)⟩
 | n+1,p,os,hn,hl,hP,b=>by
  obtain⟨q,e,d,g,hs,_,h2⟩:=A1z (t:=t) (i:=((n+1:Nat):Int)) b (by omega);obtain⟨j,a,k,m,⟨o,r⟩,u⟩:=Ana n (p:=q) (os:=os++[e]) (by omega) (by rw[Ah];simp;omega) (fun x v=>by rcases AK.1 v with h | h;exact hP x h;rw[AP.1 h];exact g) d;have c:=h2 os (by omega);rw[show ((n+1:Nat):Int)-1=(n:Int) by omega] at c;exact⟨j,a,k,by rw[m,Ah];simp;omega,⟨o,by rw[r,DU,Ci];simp only[Bg,C1,hs];rfl⟩,AB c u⟩
theorem A2a{p:Int}(n:Nat)(hn:n<=2)(a:Sp l p):∃ q os,Sp l q/\FO Pk (IG 112 2) os/\∃ st,Aa (.loop Kd) (PE t l p n) xZ4 st/\((os=[]/\st=PE t l q 0)\/st=Lg t l q os 0):=by
 cases n with
 | zero=>exact⟨p,[],a,.nil,_,f (yK t l p 0 rfl),.inl ⟨rfl,rfl⟩⟩
 | succ n =>
  obtain⟨q,e,b,c,hs,h1,_⟩:=A1z (t:=t) (i:=((n+1:Nat):Int)) a (by omega);obtain⟨d,g,h,r,⟨j,k⟩,m⟩:=Ana (t:=t) n (p:=q) (os:=[e]) (by omega) (by simp;omega) (fun x o=>by rw[AP.1 o];exact c) b;rw[show ((n+1:Nat):Int)-1=(n:Int) by omega] at h1;exact⟨d,g,h,⟨j,by rw[k];simp only[Bg,C1,hs];exact M' (n:=n+1) (by omega)⟩,_,AB h1 m,.inr rfl⟩
theorem Ase{q j:Int}(os:List El)(e:El):pX t l q (C os+1) (F cF os++cF e) j=M7 t l q (os++[e]) j:=by
 rw[Fo];show _=pX t l q (C (os++[e])) (F cF (os++[e])) j;rw[Ah];rfl
theorem A2b{p i:Int}(j:Sp l p)(hi:1<=i/\i<=3):∃ q e,Sp l q/\pA e/\e.s=S2 102 i/\Aa M8 (TC t l p i) .norm (M7 t l q [e] (i-1)) /\
  ∀ os:List El,C os<=20->Aa M8 (M7 t l p os i) .norm (M7 t l q (os++[e]) (i-1)):=by
 have a:O D (i-1)=i-1:=A' (by omega) (by omega);have hc:decide (i>0)=true:=o (by omega);obtain⟨q,e,k,d,r⟩:=Azr j;have f:=Na (c:=102) hi;refine⟨q,⟨S2 102 i,[e.n 0,e.n 1,e.n 2,e.n 3,e.n 4,e.n 5,e.n 6,e.n 7,e.n 8,e.n 9,e.n 10,e.n 11,e.n 12],e.b⟩,k,⟨(fun x g=>by simp only[Aw,A3,or_false] at g;rcases g with rfl | rfl | rfl | rfl | rfl | rfl | rfl | rfl | rfl | rfl | rfl | rfl | rfl <;> exact El.ok.n d.1 _),d.2⟩,rfl,?_,fun os m => ?_⟩
 ·have h:=yR t l p i q (e.n 0) (e.n 1) (e.n 2) (e.n 3) (e.n 4) (e.n 5) (e.n 6) (e.n 7) (e.n 8) (e.n 9) (e.n 10) (e.n 11) (e.n 12) e.s _ e.b hc r f;rw[a] at h;exact h
 ·have h:=pY t l p os i q (e.n 0) (e.n 1) (e.n 2) (e.n 3) (e.n 4) (e.n 5) (e.n 6) (e.n 7) (e.n 8) (e.n 9) (e.n 10) (e.n 11) (e.n 12) e.s _ e.b hc (by omega) r f;rw[a] at h;rw[<- Ase];exact h
theorem Anb:∀ (n:Nat) {p:Int} {os:List El},n<=3->C os+n<=10->(∀ e∈os,pA e)->Sp l p->∃ q a,Sp l q/\C a=C os+n/\((∀ e∈a,pA e)/\a.map El.s=os.map El.s++IG 102 n)/\Aa (.loop M8) (M7 t l p os n) xZ6 (M7 t l q a 0)
 | 0,p,os,_,_,hP,b=>⟨p,os,b,rfl,⟨hP,(Df _).symm⟩,f (pZ t l p os 0 rfl)⟩
 | n+1,p,os,hn,hl,hP,b=>by
  obtain⟨q,e,d,g,hs,_,h2⟩:=A2b (t:=t) (i:=((n+1:Nat):Int)) b (by omega);obtain⟨j,a,k,m,⟨o,r⟩,u⟩:=Anb n (p:=q) (os:=os++[e]) (by omega) (by rw[Ah];simp;omega) (fun x v=>by rcases AK.1 v with h | h;exact hP x h;rw[AP.1 h];exact g) d;have c:=h2 os (by omega);rw[show ((n+1:Nat):Int)-1=(n:Int) by omega] at c;exact⟨j,a,k,by rw[m,Ah];simp;omega,⟨o,by rw[r,DU,Ci];simp only[Bg,C1,hs];rfl⟩,AB c u⟩
theorem A2c{p:Int}(n:Nat)(hn:n<=2)(a:Sp l p):∃ q os,Sp l q/\FO pA (IG 102 2) os/\∃ st,Aa (.loop M8) (TC t l p n) xZ6 st/\((os=[]/\st=TC t l q 0)\/st=M7 t l q os 0):=by
 cases n with
 | zero=>exact⟨p,[],a,.nil,_,f (yS t l p 0 rfl),.inl ⟨rfl,rfl⟩⟩
 | succ n =>
  obtain⟨q,e,b,c,hs,h1,_⟩:=A2b (t:=t) (i:=((n+1:Nat):Int)) a (by omega);obtain⟨d,g,h,r,⟨j,k⟩,m⟩:=Anb (t:=t) n (p:=q) (os:=[e]) (by omega) (by simp;omega) (fun x o=>by rw[AP.1 o];exact c) b;rw[show ((n+1:Nat):Int)-1=(n:Int) by omega] at h1;exact⟨d,g,h,⟨j,by rw[k];simp only[Bg,C1,hs];exact M' (n:=n+1) (by omega)⟩,_,AB h1 m,.inr rfl⟩
def PJ:Prop:=∀ t:Tbl,TOk t->∃ v:Int,RQ 46 [t.av] (A D v)
def TF:Tbl:={ r0:=100,r1:=1,r2:=0,r3:=0,r4:=0,r5:=0,r6:=0,ws:=yB 3000 8 }
theorem AAa{p:Int}{os:List El}{st:H}(d:PJ)(f:RQ 46 [TF.av] (A D 0))(a:TOk t)(g:Sp l p)(i:FO pA (IG 102 2) os)(h:(os=[]/\st=A1e t l p)\/st=A1f t l p os) :
  ∃ u,(TOk u/\RQ 46 [u.av] (A D 0))/\Aa (.seq PG (.seq (.seq Zm (.cond (.t 145) Zn .skip)) Zp)) st .ret (W3 u):=by
 obtain⟨q,u,z,⟨j,k,n,o,r,s⟩,hr⟩:=Ahn (t:={ t with fl:=os }) g a.r0;have e:Aa PG st .norm (lW { t with fl:=os,zo:=u.zo,sa:=u.sa,la:=u.la,ra:=u.ra,dr:=u.dr,ln:=u.ln } l q):=by
  rcases h with ⟨rfl,rfl⟩ | rfl
  ·exact yT t l p q u hr
  ·exact yU t l p os q u hr
 have ok:TOk { t with fl:=os,zo:=u.zo,sa:=u.sa,la:=u.la,ra:=u.ra,dr:=u.dr,ln:=u.ln } :=
  ⟨a.r0,a.r1,a.rs,a.Tr,a.Ws,a.Ar,a.Po,i,j,k,n,o,r,s⟩
 obtain⟨v,c⟩:=d _ ok;have b:=yV _ l q v c;cases hb:(v != 0) <;> rw[hb] at b
 ·have w:v=0:=by
   by_cases h0:v=0
   ·exact h0
   ·exact absurd hb (by simp[h0])
  subst w;exact⟨_,⟨ok,c⟩,N e (N (N b (GU [2,3,4] rfl (by kernel_rfl))) (yX _ l q))⟩
 ·refine⟨TF,⟨?_,f⟩,N e (m (N b (Ge [2,3,4] rfl (by kernel_rfl) (yW { t with fl:=os,zo:=u.zo,sa:=u.sa,la:=u.la,ra:=u.ra,dr:=u.dr,ln:=u.ln } l q))))⟩;exact⟨by decide,by decide,by decide,⟨by decide,fun x y=>(by cases y)⟩,⟨(Amy (by decide)).1,lZ _ _⟩,.nil,.nil,.nil,.nil,.nil,.nil,.nil,.nil,.nil⟩
theorem AEr{p:Int}{os:List El}{st:H}(g:PJ)(i:RQ 46 [TF.av] (A D 0))(a:TOk t)(j:Sp l p)(k:FO (Ak t.r0) [⟨#[97,49]⟩] os)(h:(os=[]/\st=A1d t l p)\/st=AEn t l p os) :
  ∃ u,(TOk u/\RQ 46 [u.av] (A D 0))/\Aa A1g st .ret (W3 u):=by
 obtain⟨c,b,h0,v,r0⟩:=BE (n:=3) j (by omega) (by omega);have e:Aa PF st .norm (TC { t with ar:=os } l c b):=by
  rcases h with ⟨rfl,rfl⟩ | rfl
  ·exact yP t l p c b r0
  ·exact yQ t l p os c b r0
 have ok:TOk { t with ar:=os }:=⟨a.r0,a.r1,a.rs,a.Tr,a.Ws,k,a.Po,a.Fl,a.Zo,a.Sa,a.La,a.Ra,a.Dr,a.Ln⟩;obtain⟨f,fs,h1,m,x,d,o⟩:=A2c (t:={ t with ar:=os }) b.toNat (by omega) h0;rw[show (b.toNat:Int)=b by omega] at d;have q:∃ IW,Aa (.seq PF (.block 6 (.loop M8))) st .norm IW/\((fs=[]/\IW=A1e { t with ar:=os } l f)\/IW=A1f { t with ar:=os } l f fs):=by
  rcases o with ⟨rfl,rfl⟩ | rfl
  ·exact⟨_,N e (w [2,3,4] (A0 d) (by kernel_rfl)),.inl ⟨rfl,rfl⟩⟩
  ·exact⟨_,N e (w [2,3,4,138] (A0 d) (by kernel_rfl)),.inr rfl⟩
 obtain⟨IW,r,s⟩:=q;obtain⟨u,hu,hr⟩:=AAa g i ok h1 m s;exact⟨u,hu,N r hr⟩
theorem tb_4{p:Int}{os:List El}{st:H}(g:PJ)(i:RQ 46 [TF.av] (A D 0))(c:TOk t)(m:Sp l p)(o:FO Pk (IG 112 2) os)(h:(os=[]/\st=A1a t l p)\/st=A1b t l p os) :
  ∃ u,(TOk u/\RQ 46 [u.av] (A D 0))/\Aa A1h st .ret (W3 u):=by
 obtain⟨d,f,h0,v,r0⟩:=BE (n:=3) m (by omega) (by omega);have e:Aa TB st .norm (A1c { t with po:=os } l d (f==0)):=by
  rcases h with ⟨rfl,rfl⟩ | rfl
  ·exact yL t l p d f r0
  ·exact yM t l p os d f r0
 have ok:TOk { t with po:=os }:=⟨c.r0,c.r1,c.rs,c.Tr,c.Ws,c.Ar,o,c.Fl,c.Zo,c.Sa,c.La,c.Ra,c.Dr,c.Ln⟩;cases hb:(f==0) <;> rw[hb] at e
 ·obtain⟨u,hu,hr⟩:=AEr (os:=[]) g i ok h0 .nil (.inl ⟨rfl,rfl⟩);exact⟨u,hu,N (N e (GU [2,3,4] rfl (by kernel_rfl))) hr⟩
 ·have w:=c.r0;obtain⟨q,b,h1,j,r1⟩:=A9m (a:=2*t.r0) h0 (by omega);have r:O D (2*t.r0)=2*t.r0:=A' (by omega) (by omega);rw[<- r] at r1;obtain⟨u,hu,hr⟩:=AEr (os:=[⟨⟨#[97,49]⟩,[b.n 0,b.n 1,b.n 2,b.n 3,b.n 4,b.n 5,b.n 6,b.n 7,b.n 8,b.n 9,b.n 10],false⟩]) g i ok h1 (.one ⟨(fun x k=>by simp only[Aw,A3,or_false] at k;rcases k with rfl | rfl | rfl | rfl | rfl | rfl | rfl | rfl | rfl | rfl | rfl <;> exact El.ok.n (j t.r0 (by omega)).1 _),(j t.r0 (by omega)).2⟩) (.inr rfl);exact⟨u,hu,N (N e (Ge [2,3,4] rfl (by kernel_rfl) (yO { t with po:=os } l d q (b.n 0) (b.n 1) (b.n 2) (b.n 3) (b.n 4) (b.n 5) (b.n 6) (b.n 7) (b.n 8) (b.n 9) (b.n 10) b.s r1))) hr⟩
theorem A2d{p:Int}{os:List El}{st:H}(g:PJ)(i:RQ 46 [TF.av] (A D 0))(a:TOk t)(j:Sp l p)(k:FO Wk (frN++IG 119 3) os)(h:(os=[]/\st=Zh t l p)\/st=W2 t l p os\/st=Amm t l p os) :
  ∃ u,(TOk u/\RQ 46 [u.av] (A D 0))/\Aa A1i st .ret (W3 u):=by
 obtain⟨c,b,h0,v,r0⟩:=BE (n:=3) j (by omega) (by omega);have e:Aa QP st .norm (PE { t with ws:=os } l c b):=by
  rcases h with ⟨rfl,rfl⟩ | rfl | rfl
  ·exact Ahj t l p c b r0
  ·exact Ahk t l p os c b r0
  ·exact Ahl t l p os c b r0
 have ok:TOk { t with ws:=os }:=⟨a.r0,a.r1,a.rs,a.Tr,k,a.Ar,a.Po,a.Fl,a.Zo,a.Sa,a.La,a.Ra,a.Dr,a.Ln⟩;obtain⟨f,ps,h1,m,x,d,o⟩:=A2a (t:={ t with ws:=os }) b.toNat (by omega) h0;rw[show (b.toNat:Int)=b by omega] at d;have q:∃ IW,Aa (.seq QP (.block 4 (.loop Kd))) st .norm IW/\((ps=[]/\IW=A1a { t with ws:=os } l f)\/IW=A1b { t with ws:=os } l f ps):=by
  rcases o with ⟨rfl,rfl⟩ | rfl
  ·exact⟨_,N e (w [2,3,4] (A0 d) (by kernel_rfl)),.inl ⟨rfl,rfl⟩⟩
  ·exact⟨_,N e (w [2,3,4,106] (A0 d) (by kernel_rfl)),.inr rfl⟩
 obtain⟨IW,r,s⟩:=q;obtain⟨u,hu,hr⟩:=tb_4 g i ok h1 m s;exact⟨u,hu,N r hr⟩
theorem AEs{p:Int}{os:List El}{st:H}(j:PJ)(k:RQ 46 [TF.av] (A D 0))(m:TOk t)(v:Sp l p)(b:FO Wk frN os)(h:(os=[]/\st=Zh t l p)\/st=W2 t l p os) :
  ∃ u,(TOk u/\RQ 46 [u.av] (A D 0))/\Aa A1j st .ret (W3 u):=by
 obtain⟨c,a,h0,T,r0⟩:=BE (n:=4) v (by omega) (by omega);rcases h with ⟨rfl,rfl⟩ | rfl
 ·obtain⟨o,ws,h1,r,U,d,y⟩:=A1y (t:=t) a.toNat (by omega) h0;rw[show (a.toNat:Int)=a by omega] at d;have z:∃ IW,Aa (.seq QO (.block 2 (.loop I1))) (Zh t l p) .norm IW/\((ws=[]/\IW=Zh t l o)\/IW=W2 t l o ws\/IW=Amm t l o ws):=by
   rcases y with ⟨rfl,rfl⟩ | rfl
   ·exact⟨_,N (Zl t l p c a r0) (w [2,3,4] (A0 d) (by kernel_rfl)),.inl ⟨rfl,rfl⟩⟩
   ·exact⟨_,N (Zl t l p c a r0) (w [2,3,4,68] (A0 d) (by kernel_rfl)),.inr (.inr rfl)⟩
  obtain⟨IW,g,B⟩:=z;obtain⟨u,hu,hr⟩:=A2d j k m h1 ⟨r.1,r.2.trans (List.sublist_append_right _ _)⟩ B;exact⟨u,hu,N g hr⟩
 ·have e:=Ahi t l p os c a r0;by_cases E:a=0
  ·subst E;have d:=f (yH t l c os 0 rfl);have g:Aa (.seq QO (.block 2 (.loop I1))) (W2 t l p os) .norm (W2 t l c os):=N e (w [2,3,4,51] (A0 d) (by kernel_rfl));obtain⟨u,hu,hr⟩:=A2d j k m h0 ⟨b.1,b.2.trans (lZ _ _)⟩ (.inr (.inl rfl));exact⟨u,hu,N g hr⟩
  ·have hl:=b.len;have hl:C os<=4:=hl;obtain⟨q,F,G,I,J,K⟩:=AHf (t:=t) (i:=a) (os:=os) h0 (by omega) (by omega);obtain⟨L,M,O,V,⟨P,Q⟩,s⟩:=qC (l:=l) (t:=t) (a-1).toNat (p:=q) (os:=os++[F]) (by omega) (by rw[Ah];simp;omega) (fun x R=>by rcases AK.1 R with h | h;exact b.1 x h;rw[AP.1 h];exact I) G;rw[show ((a-1).toNat:Int)=a-1 by omega] at s;have g:Aa (.seq QO (.block 2 (.loop I1))) (W2 t l p os) .norm (Amm t l L M):=N e (w [2,3,4,68] (A0 (AB K s)) (by kernel_rfl));obtain⟨u,hu,hr⟩:=A2d j k m O ⟨P,by
    have S:a=(((a-1).toNat+1:Nat):Int):=by omega
    rw[Q,DU,Ci];simp only[Bg,C1,J];rw[S];simp only[show ((((a-1).toNat+1:Nat):Int)-1).toNat=(a-1).toNat by omega];exact b.2.append (M' (n:=(a-1).toNat+1) (by omega))⟩ (.inr (.inr rfl))
   exact⟨u,hu,N g hr⟩
theorem tb_1{p:Int}{os:LI}(b:PJ)(c:RQ 46 [TF.av] (A D 0))(a:TOk t)(h:Sp l p)(hl:(C os:Int)<=t.r1/\∀ x∈os,-1<=x/\x<=63):∃ u,(TOk u/\RQ 46 [u.av] (A D 0))/\Aa A1k (A0z t l p os) .ret (W3 u):=by
 obtain⟨d,f,h0,j,r0⟩:=BE (n:=4) h (by omega) (by omega);have e:=Ahg t l p os d f r0;have ok:TOk { t with tr:=os }:=⟨a.r0,a.r1,a.rs,hl,a.Ws,a.Ar,a.Po,a.Fl,a.Zo,a.Sa,a.La,a.Ra,a.Dr,a.Ln⟩;cases hb:decide (f>0) <;> rw[hb] at e
 ·obtain⟨u,hu,hr⟩:=AEs (os:=[]) b c ok h0 .nil (.inl ⟨rfl,rfl⟩);exact⟨u,hu,N (N e (GU [2,3,4] rfl (by kernel_rfl))) hr⟩
 ·obtain⟨i,g,h1,k,r1⟩:=BE (n:=16) h0 (by omega) (by omega);obtain⟨u,hu,hr⟩:=AEs (os:=yB 3000 g) b c ok h1 (Amy (by omega)) (.inr rfl);exact⟨u,hu,N (N e (Ge [2,3,4] rfl (by kernel_rfl) (Ahh { t with tr:=os } l d i g r1))) hr⟩
theorem Asf(q:PJ)(r:RQ 46 [TF.av] (A D 0))(v:C l<4611686018427387904):∃ u,(TOk u/\RQ 46 [u.av] (A D 0))/\RQ 9 [E (C l) (li l)] u.av:=by
 have w:Sp l 0:=⟨v,by omega,by omega⟩;obtain⟨y,h,h1,z,r1⟩:=BO (a:=64) (b:=200) w (by omega) (by omega) (by omega);obtain⟨B,c,h2,m,r2⟩:=BO (a:=1) (b:=3) h1 (by omega) (by omega) (by omega);obtain⟨F,i,G,S,r3⟩:=BE (n:=16) h2 (by omega) (by omega);obtain⟨H,j,I,T,r4⟩:=BO (a := -3) (b:=3) G (by omega) (by omega) (by omega);obtain⟨J,d,K,U,r5⟩:=BE (n:=30) I (by omega) (by omega);obtain⟨L,f,M,V,r6⟩:=BE (n:=3) K (by omega) (by omega);obtain⟨o,k,O,W,P⟩:=BO (a:=2) (b:=8) M (by omega) (by omega) (by omega);have e:=Arz l 0 y h B c F i H j J d L f o k { r0:=h,r1:=c,r2:=i,r3:=j,r4:=0-d,r5:=5*f,r6:=k } r1 r2 r3 r4 r5 r6 P;rw[A' (n:=0-d) (by omega) (by omega),A' (n:=5*f) (by omega) (by omega)] at e;have ok:TOk { r0:=h,r1:=c,r2:=i,r3:=j,r4:=0-d,r5:=5*f,r6:=k } :=
  ⟨z,m,by dsimp only;omega,⟨by show ((0:Nat):Int)<=c;omega,fun x Q=>(by cases Q)⟩,.nil,.nil,.nil,.nil,.nil,.nil,.nil,.nil,.nil,.nil⟩
 obtain⟨os,ho,R⟩:=A1w (l:=l) (t:={ r0:=h,r1:=c,r2:=i,r3:=j,r4:=0-d,r5:=5*f,r6:=k }) (p:=o) m.1 m.2;obtain⟨u,hu,hr⟩:=tb_1 q r ok O ho;refine⟨u,hu,B6 (fn:=iF g Yu) (s:=W3 u) (ex := .ret) rfl rfl ?_ (by nofun) rfl⟩;rw[A9y];exact N (Arx l) (N (Ary l) (N e (N R hr)))
end
theorem p:Be CQ []:=Be.nil _
def cV(p:Int × Int):u:=[A D p.1,A D p.2]
def GN(lo hi:Int)(xs:LI)(i:Int)(z:Bool):H:=vi lo::vi hi::V 4 (Ab (I z)::V 2 (Ab (E (C xs) (F cI xs))::vi (C xs:Int)::vi i::V 12 []))
def Anq(z:Bool):H:=V 6 (Ab (I z)::V 17 [])
def Anr(lo hi:Int)(xs:LI):H:=vi lo::vi hi::Ab (E (C xs) (F cI xs))::V 3 (Ab (I false)::V 17 [])
def Ans:ICode := .region false [o1 6 (.mov (.c (.bool false)))]
theorem Ud(lo hi:Int)(xs:LI)   : Aa Ans (CL (iF g Pn) [A D lo,A D hi,E (C xs) (F cI xs)]) .norm (Anr lo hi xs):=B p [] [0,1,2,6] a0
def Ant:ICode := .region false (i (Ca Pn 96 12))
theorem Ue(lo hi:Int)(xs:LI)   : Aa Ant (Anr lo hi xs) .norm (GN lo hi xs 0 false):=B p [] wX a0
def Oj:ICode:=Ca Pn 94 52
section
variable(lo hi:Int)(xs:LI)(i:Int)(z:Bool)
theorem eB(x:Int)(c1:G (i<C xs)=true)(c2:G (x<lo)=true)(a:0<=i/\i<C xs)(b:A1 cI xs i (A D x)):Aa Oj (GN lo hi xs i z) .ret (GN lo hi xs i false):=B p [bT,.v (A D x),bT,bT] wX (Fh c1 a b c2 EJ)
theorem eC(x:Int)(c1:G (i<C xs)=true)(c2:G (x<lo)=false)(c3:G (x>hi)=true)(a:0<=i/\i<C xs)(b:A1 cI xs i (A D x)):Aa Oj (GN lo hi xs i z) .ret (GN lo hi xs i false):=B p [bT,.v (A D x),Y,bT] wX (Fh c1 a b c2 c3)
theorem eD(x:Int)(c1:G (i<C xs)=true)(c2:G (x<lo)=false)(c3:G (x>hi)=false)(a:0<=i/\i<C xs)(b:A1 cI xs i (A D x)):Aa Oj (GN lo hi xs i z) .norm (GN lo hi xs (O D (i+1)) z):=B p [bT,.v (A D x),Y,Y] wX (Fh c1 a b c2 c3)
theorem eE(c1:G (i<C xs)=false):Aa Oj (GN lo hi xs i z) xZ0 (GN lo hi xs i z):=B p [Y] wX (Bc c1)
end
def Anu:ICode := .seq (.region false [o1 6 (.mov (.c (.bool true)))]) (.ret)
theorem rL(lo hi:Int)(xs:LI)(i:Int)(z:Bool)   : Aa Anu (GN lo hi xs i z) .ret (Anq true):=B p [] [6] a0
theorem mO:(iF g Pn).body = .seq Ans (.seq (.seq Ant (.block 0 (.loop Oj))) Anu):=by kernel_rfl
section
variable(m:Int)(ps:List (Int × Int))
def L_(i:Int):H:=vi m::V 6 (Ab (E (C ps) (F cV ps))::vi (C ps:Int)::vi i::V 14 [])
def Anv:H:=vi m::Ab (E (C ps) (F cV ps))::V 22 []
end
def Anw(z:Bool):H:=V 4 (Ab (I z)::V 19 [])
def Anx:ICode := .region false [o1 4 (.mov (.c (.bool false)))]
theorem rM(m:Int)(ps:List (Int × Int))   : Aa Anx (CL (iF g Yx) [A D m,E (C ps) (F cV ps)]) .norm (Anv m ps):=B p [] [0,1] a0
def Any:ICode := .region false (i (Ca Yx 96 12))
theorem rN(m:Int)(ps:List (Int × Int))   : Aa Any (Anv m ps) .norm (L_ m ps 0):=B p [] [0,7,8,9] a0
def X9:ICode:=Ca Yx 94 52
section
variable(m:Int)(ps:List (Int × Int))(i:Int)
theorem eF(x:Int × Int)(c1:G (i<C ps)=true)(a:0<=i/\i<C ps)(b:Ad (R (J i*2) (F cV ps)) 0 2 false=some (M [A D x.1,A D x.2]))(c:RQ 123 [A D (O D (0-m)),A D m,E 2 [A D x.1,A D x.2]] (I true)):Aa X9 (L_ m ps i) .norm (L_ m ps (O D (i+1))):=B p [bT,.v (M [A D x.1,A D x.2]),.r (I true),Y] [0,7,8,9] (Fh c1 a b c iY)
theorem eG(c1:G (i<C ps)=false):Aa X9 (L_ m ps i) xZ0 (L_ m ps i):=B p [Y] [0,7,8,9] (Bc c1)
end
def Anz:ICode := .seq (.region false [o1 4 (.mov (.c (.bool true)))]) (.ret)
theorem rO(m:Int)(ps:List (Int × Int))(i:Int)   : Aa Anz (L_ m ps i) .ret (Anw true):=B p [] [4] a0
theorem Atu:(iF g Yx).body = .seq Anx (.seq (.seq Any (.block 0 (.loop X9))) Anz):=by kernel_rfl
theorem Acg(n:Nat)(cs:u)(a:RQ 123 [A D 0,A D 3,E n cs] (I true)):RQ 126 [E n cs] (I true):=ALa (fn:=iF g Axx) p rfl [.r (I true)] (Bc a)
theorem A5j(n:Nat)(cs:u)(a:RQ 124 [A D 1048576,E n cs] (I true)):RQ 127 [E n cs] (I true):=ALa (fn:=iF g Axy) p rfl [.r (I true)] (Bc a)
theorem A5k(x y:Int)(a:RQ 123 [A D 0,A D 15,E 2 [A D x,A D y]] (I true)):RQ 128 [A D x,A D y] (I true):=ALa (fn:=iF g Axz) p rfl [.r (I true)] (Bc a)
theorem A5l(x y:Int)(a:RQ 123 [A D (-1),A D 31,E 1 [A D x]] (I true))(b:RQ 123 [A D (-1),A D 63,E 1 [A D y]] (I true)):RQ 129 [A D x,A D y] (I true):=ALa (fn:=iF g Aya) p rfl [.r (I true),bT,.r (I true)] (Fa a EJ b)
theorem A5m(nm:ByteArray)(m f h j k ex l n o s t r a b c e d q x:Int)(c1:(d==d)=true)(c2:(O D (q*q)==d)=true)(c3:G (q>O D (2*r))=true)(c4:G (q<=262144)=true)(u:RQ 56 [M [A D j,A D k],M [A D f,A D h]] (M [A D a,A D b]))(v:RQ 56 [M [A D ex,A D l],M [A D f,A D h]] (M [A D c,A D e]))(i:RQ 136 [M [A D a,A D b],M [A D a,A D b]] (A D d))(w:RQ 224 [A D d] (A D q))(y:RQ 136 [M [A D c,A D e],M [A D c,A D e]] (A D d))(z:RQ 55 [M [A D a,A D b],M [A D c,A D e]] (A D x)):RQ 130 [M [.str nm,A D m,A D f,A D h,A D j,A D k,A D ex,A D l,A D n,A D o,A D s,A D t],A D r] (I (G (x>0))):=ALa (fn:=iF g Ayb) p rfl [.r (M [A D a,A D b]),.r (M [A D c,A D e]),.r (A D d),.r (A D q),.r (A D d),.r (A D d),bT,.r (A D d),bT,bT,bT,.r (A D x)] (Em u v i w i y c1 i c2 c3 c4 z)
def Jg(t:Tbl):H:=V 1 (T t.cs::V 119 [])
def Aoa  : H:=V 2 (Ab (I false)::V 118 [])
def Aob:ICode := .region false (i (Ca Jv 98 2))
theorem rP(t:Tbl)   : Aa Aob (CL (iF g Jv) [M t.cs]) .norm (Jg t):=B p [] [1] a0
def Nt(t:Tbl)(i:Int):H:=V 1 (T t.cs::V 14 (Ab (E (C t.sa) (F AN t.sa))::vi (C t.sa:Int)::vi i::V 102 []))
def eH:ICode := .region false (i (Ca Jv 96 12))
theorem jX(t:Tbl)   : Aa eH (Jg t) .norm (Nt t 0):=B p [] Als a0
def A5n(t:Tbl):H:=V 1 (T t.cs::V 14 (Ab (E (C t.sa) (F AN t.sa))::vi (C t.sa:Int)::vi 0::V 102 []))
def Ach(t:Tbl)(i:Int):H:=V 1 (T t.cs::V 14 (Ab (E (C t.sa) (F AN t.sa))::vi (C t.sa:Int)::vi i::V 8 (vi 0::vi 0::V 92 [])))
def A5o:ICode:=Ca Jv 86 13516
theorem eI(t:Tbl)(i:Int)   : Aa A5o (Ach t i) xZ2 (Ach t i):=B p [Y] [1,16,17,18,27,28] (Bc iY)
def Uf:ICode:=Ca Jv 94 52
theorem eJ(t:Tbl)(e:El)(c1:G (0<(C t.sa:Int))=true)(a:0<=(0:Int)/\(0:Int)<(C t.sa:Int))(b:At AN 10 t.sa 0 e)(c:0<=0/\0<=C t.sa/\C t.sa<=C t.sa/\(false=true->true=true)):Aa Uf (A5n t) .norm (Nt t 1):=BU (N (B (t:=V 1 (T t.cs::V 14 (Ab (E (C t.sa) (F AN t.sa))::vi (C t.sa:Int)::vi 0::V 102 []))) p [bT] Als (Bc c1)) (N (x (BU (N (B p [.v (M (AN e))] [1,16,17,18,27,28] (Fk a b sw5 c)) (A0 (f (eI t 0)))))) (B p [] Als a0)))
def A5p:ICode:=Ca Jv 94 52
theorem Qj(t:Tbl)(i:Int)(c1:G (i<C t.sa)=false):Aa A5p (Nt t i) xZ0 (Nt t i):=BU (m (B p [Y] Als (Bc c1)))
def Nu(t:Tbl)(i:Int):H:=V 1 (T t.cs::V 50 (Ab (E (C t.ra) (F cR t.ra))::vi (C t.ra:Int)::vi i::V 66 []))
def eK:ICode := .region false (i (Ca Jv 95 28))
theorem jY(t:Tbl)   : Aa eK (Jg t) .norm (Nu t 0):=B p [] Alt a0
def A5q(t:Tbl):H:=V 1 (T t.cs::V 50 (Ab (E (C t.ra) (F cR t.ra))::vi (C t.ra:Int)::vi 0::V 66 []))
def Aci(t:Tbl)(i:Int):H:=V 1 (T t.cs::V 50 (Ab (E (C t.ra) (F cR t.ra))::vi (C t.ra:Int)::vi i::V 8 (vi 0::vi 0::V 56 [])))
def A5r:ICode:=Ca Jv 85 29900
theorem eL(t:Tbl)(i:Int)   : Aa A5r (Aci t i) xZ6 (Aci t i):=B p [Y] [1,52,53,54,63,64] (Bc iY)
def Ug:ICode:=Ca Jv 93 116
theorem eM(t:Tbl)(e:El)(c1:G (0<(C t.ra:Int))=true)(a:0<=(0:Int)/\(0:Int)<(C t.ra:Int))(b:At cR 8 t.ra 0 e)(c:0<=0/\0<=C t.ra/\C t.ra<=C t.ra/\(false=true->true=true)):Aa Ug (A5q t) .norm (Nu t 1):=BU (N (B (t:=V 1 (T t.cs::V 50 (Ab (E (C t.ra) (F cR t.ra))::vi (C t.ra:Int)::vi 0::V 66 []))) p [bT] Alt (Bc c1)) (N (x (BU (N (B p [.v (M (cR e))] [1,52,53,54,63,64] (Fk a b sw5 c)) (A0 (f (eL t 0)))))) (B p [] Alt a0)))
def A5s:ICode:=Ca Jv 93 116
theorem Qk(t:Tbl)(i:Int)(c1:G (i<C t.ra)=false):Aa A5s (Nu t i) xZ4 (Nu t i):=BU (m (B p [Y] Alt (Bc c1)))
def Nv(t:Tbl)(i:Int):H:=V 1 (T t.cs::V 86 (Ab (E (C t.ln) (F cK t.ln))::vi (C t.ln:Int)::vi i::V 30 []))
def eO:ICode := .region false (i (Ca Jv 94 60))
theorem jZ(t:Tbl)   : Aa eO (Jg t) .norm (Nv t 0):=B p [] Alu a0
def A5t(t:Tbl):H:=V 1 (T t.cs::V 86 (Ab (E (C t.ln) (F cK t.ln))::vi (C t.ln:Int)::vi 0::V 30 []))
def Acj(t:Tbl)(i:Int):H:=V 1 (T t.cs::V 86 (Ab (E (C t.ln) (F cK t.ln))::vi (C t.ln:Int)::vi i::V 8 (vi 0::vi 0::V 20 [])))
def A5u:ICode:=Ca Jv 84 62668
theorem eP(t:Tbl)(i:Int)   : Aa A5u (Acj t i) (.exit 10) (Acj t i):=B p [Y] [1,88,89,90,99,100] (Bc iY)
def Uh:ICode:=Ca Jv 92 244
theorem eQ(t:Tbl)(e:El)(c1:G (0<(C t.ln:Int))=true)(a:0<=(0:Int)/\(0:Int)<(C t.ln:Int))(b:At cK 7 t.ln 0 e)(c:0<=0/\0<=C t.ln/\C t.ln<=C t.ln/\(false=true->true=true)):Aa Uh (A5t t) .norm (Nv t 1):=BU (N (B (t:=V 1 (T t.cs::V 86 (Ab (E (C t.ln) (F cK t.ln))::vi (C t.ln:Int)::vi 0::V 30 []))) p [bT] Alu (Bc c1)) (N (x (BU (N (B p [.v (M (cK e))] [1,88,89,90,99,100] (Fk a b sw5 c)) (A0 (f (eP t 0)))))) (B p [] Alu a0)))
def A5v:ICode:=Ca Jv 92 244
theorem Ql(t:Tbl)(i:Int)(c1:G (i<C t.ln)=false):Aa A5v (Nv t i) xZ8 (Nv t i):=BU (m (B p [Y] Alu (Bc c1)))
def Aoc:ICode := .seq (.region false [o1 2 (.mov (.c (.bool false)))]) (.ret)
theorem rQ(t:Tbl)   : Aa Aoc (Jg t) .ret (Aoa ):=B p [] [2] a0
theorem Atv:(iF g Jv).body = .seq Aob (.seq (.seq eH (.block 0 (.loop Uf))) (.seq (.seq eK (.block 4 (.loop Ug))) (.seq (.seq eO (.block 8 (.loop Uh))) Aoc))):=by kernel_rfl
def rR(t:Tbl):H:=V 1 (T t.cs::V 621 [])
def DN(t:Tbl)(ks:u):H:=V 1 (T t.cs::V 1 (.ptr 126 0::V 120 (.mp ks::V 1 (.bxh [.undef,A D 0] [(0,124)]::V 496 []))))
def A5w  : H:=V 2 (vi 0::V 620 [])
def Aod:ICode := .region false (i (Ca Kr 98 2))
theorem Ack(t:Tbl)   : Aa Aod (CL (iF g Kr) [M t.cs]) .norm (rR t):=B p [] [1] a0
def Aoe:ICode:=Ca Kr 97 6
theorem Acl(t:Tbl)(c1:G ((C t.ws:Int)>64)=false)(c2:G ((C t.ar:Int)>32)=false)(c3:G ((C t.po:Int)>32)=false)(c4:G ((C t.fl:Int)>4)=false)(a:G ((C t.zo:Int)>16)=false)(b:G ((C t.sa:Int)>8)=false)(c:G ((C t.la:Int)>24)=false)(d:G ((C t.ra:Int)>8)=false)(e:G ((C t.dr:Int)>4)=false)(f:G ((C t.ln:Int)>4)=false)(g:G ((C t.tr:Int)>t.r1)=false)(h:RQ 123 [A D 0,A D 6,E 1 [A D t.r1]] (I true))(i:RQ 123 [A D 64,A D 32768,E 1 [A D t.r0]] (I true))(j:RQ 123 [A D 0,A D 15,E 1 [A D t.r2]] (I true))(k:RQ 124 [A D 256,E 1 [A D t.r3,A D t.r4]] (I true))(l:RQ 123 [A D 0,A D 1000,E 1 [A D t.r5]] (I true))(m:RQ 123 [A D 0,A D 14,E 1 [A D t.r6]] (I true))(n:RQ 123 [A D (-1),A D 63,E (C t.tr) (F cI t.tr)] (I true)):Aa Aoe (rR t) .norm (rR t):=B p [Y,Y,Y,Y,Y,Y,Y,Y,Y,Y,.r (I true),Y,Y,.r (I true),Y,.r (I true),Y,.r (I true),Y,.r (I true),Y,.r (I true),Y,.r (I true),Y] [1] (ac c1 (ac c2 (ac c3 (ac c4 (ac a (Ec b c d e f h iY g (Em i iY j iY k iY l iY m iY n iY)))))))
def AHl(t:Tbl):H:=V 1 (T t.cs::V 1 (.ptr 126 0::V 120 (.mp ([])::V 1 (.bxh [.undef,A D 0] [(0,124)]::V 496 []))))
def Aof:ICode := .region false (i (Ca Kr 96 14))
theorem Acm(t:Tbl)   : Aa Aof (rR t) .norm (AHl t):=B p [] [1,3,124,126] a0
def Ma(t:Tbl)(ks:u)(i:Int):H:=V 1 (T t.cs::V 1 (.ptr 126 0::V 120 (.mp ks::V 1 (.bxh [.undef,A D 0] [(0,124)]::V 1 (Ab (E (C t.ws) (F cW t.ws))::vi (C t.ws:Int)::vi i::V 492 [])))))
def rS:ICode := .region false (i (Ca Kr 94 60))
theorem Acn(t:Tbl)(ks:u)   : Aa rS (DN t ks) .norm (Ma t ks 0):=B p [] Ayl a0
def Q':ICode:=Ca Kr 92 244
section
variable(t:Tbl)(ks:u)(i:Int)
theorem eR(e:El)(c1:G (i<C t.ws)=true)(a:0<=i/\i<C t.ws)(b:At cW 13 t.ws i e)(c:RQ 126 [E 1 [A D (e.n 1)]] (I true))(d:RQ 123 [A D 1,A D 4,E 1 [A D (e.n 0)]] (I true))(f:RQ 127 [E 2 [A D (e.n 2),A D (e.n 3),A D (e.n 4),A D (e.n 5)]] (I true))(g:RQ 128 [A D (e.n 6),A D (e.n 7)] (I true))(h:RQ 123 [A D 0,A D 16384,E 2 [A D (e.n 8),A D (e.n 9)]] (I true))(j:RQ 129 [A D (e.n 10),A D (e.n 11)] (I true))(k:true=true/\(!(e.n 2==(e.n 4)&&(e.n 3==(e.n 5)&&true)))=true)(l:Kp 125 e.s=true)(m:FT ks (.str e.s)=some false):Aa Q' (Ma t ks i) .norm (Ma t (ks++[.str e.s]) (O D (i+1))):=B p [bT,.v (M (cW e)),.r (I true),bT,.r (I true),bT,.r (I true),bT,.r (I true),bT,.r (I true),bT,.r (I true)] Ayl (Ec c1 a b c EJ d EJ f (K0 EJ g EJ h EJ j k l m))
theorem eT(c1:G (i<C t.ws)=false):Aa Q' (Ma t ks i) xZ1 (Ma t ks i):=B p [Y] Ayl (Bc c1)
def Mb:H:=V 1 (T t.cs::V 1 (.ptr 126 0::V 120 (.mp ks::V 1 (.bxh [.undef,A D 0] [(0,124)]::V 58 (Ab (E (C t.ar) (F AD t.ar))::vi (C t.ar:Int)::vi i::V 435 [])))))
end
def rT:ICode := .region false (i (Ca Kr 93 124))
theorem Aco(t:Tbl)(ks:u)   : Aa rT (DN t ks) .norm (Mb t ks 0):=B p [] Aym a0
def Q_:ICode:=Ca Kr 91 500
section
variable(t:Tbl)(ks:u)(i:Int)
theorem eU(e:El)(c1:G (i<C t.ar)=true)(a:0<=i/\i<C t.ar)(b:At AD 12 t.ar i e)(c:RQ 126 [E 1 [A D (e.n 0)]] (I true))(d:RQ 127 [E 3 [A D (e.n 1),A D (e.n 2),A D (e.n 3),A D (e.n 4),A D (e.n 5),A D (e.n 6)]] (I true))(f:RQ 128 [A D (e.n 7),A D (e.n 8)] (I true))(g:RQ 123 [A D 0,A D 16384,E 1 [A D (e.n 9)]] (I true))(h:RQ 123 [A D (-1),A D 63,E 1 [A D (e.n 10)]] (I true))(j:RQ 130 [M (AD e),A D t.r0] (I true))(k:Kp 125 e.s=true)(l:FT ks (.str e.s)=some false):Aa Q_ (Mb t ks i) .norm (Mb t (ks++[.str e.s]) (O D (i+1))):=B p [bT,.v (M (AD e)),.r (I true),bT,.r (I true),bT,.r (I true),bT,.r (I true),bT,.r (I true),bT,.r (I true)] Aym (Ec c1 a b c EJ d EJ f (K0 EJ g EJ h EJ j (show true=true/\true=true from ⟨rfl,rfl⟩) k l))
theorem eV(c1:G (i<C t.ar)=false):Aa Q_ (Mb t ks i) xZ3 (Mb t ks i):=B p [Y] Aym (Bc c1)
def Mc:H:=V 1 (T t.cs::V 1 (.ptr 126 0::V 120 (.mp ks::V 1 (.bxh [.undef,A D 0] [(0,124)]::V 111 (Ab (E (C t.po) (F cPo t.po))::vi (C t.po:Int)::vi i::V 382 [])))))
end
def rU:ICode := .region false (i (Ca Kr 92 252))
theorem Acp(t:Tbl)(ks:u)   : Aa rU (DN t ks) .norm (Mc t ks 0):=B p [] Ayn a0
def Rb:ICode:=Ca Kr 90 1012
section
variable(t:Tbl)(ks:u)(i:Int)
theorem eX(e:El)(c1:G (i<C t.po)=true)(a:0<=i/\i<C t.po)(b:At cPo 11 t.po i e)(c:RQ 126 [E 1 [A D (e.n 0)]] (I true))(d:RQ 127 [E 1 [A D (e.n 1),A D (e.n 2)]] (I true))(f:RQ 123 [A D 0,A D 262144,E 1 [A D (e.n 3)]] (I true))(g:RQ 128 [A D (e.n 4),A D (e.n 5)] (I true))(h:RQ 123 [A D 0,A D 16384,E 2 [A D (e.n 6),A D (e.n 7)]] (I true))(j:RQ 129 [A D (e.n 8),A D (e.n 9)] (I true))(k:Kp 125 e.s=true)(l:FT ks (.str e.s)=some false):Aa Rb (Mc t ks i) .norm (Mc t (ks++[.str e.s]) (O D (i+1))):=B p [bT,.v (M (cPo e)),.r (I true),bT,.r (I true),bT,.r (I true),bT,.r (I true),bT,.r (I true),bT,.r (I true)] Ayn (Ec c1 a b c EJ d EJ f (K0 EJ g EJ h EJ j (show true=true/\true=true from ⟨rfl,rfl⟩) k l))
theorem eY(c1:G (i<C t.po)=false):Aa Rb (Mc t ks i) xZ5 (Mc t ks i):=B p [Y] Ayn (Bc c1)
def Md:H:=V 1 (T t.cs::V 1 (.ptr 126 0::V 120 (.mp ks::V 1 (.bxh [.undef,A D 0] [(0,124)]::V 161 (Ab (E (C t.fl) (F cF t.fl))::vi (C t.fl:Int)::vi i::V 332 [])))))
end
def rV:ICode := .region false (i (Ca Kr 91 508))
theorem Acq(t:Tbl)(ks:u)   : Aa rV (DN t ks) .norm (Md t ks 0):=B p [] Ayo a0
def Rc:ICode:=Ca Kr 89 2036
section
variable(t:Tbl)(ks:u)(i:Int)
theorem eZ(e:El)(c1:G (i<C t.fl)=true)(c2:G (e.n 4<e.n 5)=true)(c3:G (O D (e.n 8*e.n 3)<=2097152)=true)(a:0<=i/\i<C t.fl)(b:At cF 15 t.fl i e)(c:RQ 126 [E 1 [A D (e.n 0)]] (I true))(d:RQ 127 [E 1 [A D (e.n 1),A D (e.n 2)]] (I true))(f:RQ 123 [A D 1,A D 262144,E 1 [A D (e.n 3)]] (I true))(g:RQ 123 [A D (-256),A D 256,E 2 [A D (e.n 4),A D (e.n 5)]] (I true))(h:RQ 123 [A D 1,A D 64,E 3 [A D (e.n 6),A D (e.n 7),A D (e.n 8)]] (I true))(j:RQ 128 [A D (e.n 9),A D (e.n 10)] (I true))(k:RQ 129 [A D (e.n 11),A D (e.n 12)] (I true))(l:Kp 125 e.s=true)(m:FT ks (.str e.s)=some false):Aa Rc (Md t ks i) .norm (Md t (ks++[.str e.s]) (O D (i+1))):=B p [bT,.v (M (cF e)),.r (I true),bT,.r (I true),bT,.r (I true),bT,.r (I true),bT,bT,.r (I true),bT,bT,.r (I true),bT,.r (I true)] Ayo (ac c1 (Ec a b c EJ d EJ f EJ (Em g EJ c2 h EJ c3 j EJ k (show true=true/\true=true from ⟨rfl,rfl⟩) l m)))
theorem fA(c1:G (i<C t.fl)=false):Aa Rc (Md t ks i) xZ7 (Md t ks i):=B p [Y] Ayo (Bc c1)
def Me:H:=V 1 (T t.cs::V 1 (.ptr 126 0::V 120 (.mp ks::V 1 (.bxh [.undef,A D 0] [(0,124)]::V 237 (Ab (E (C t.zo) (F cZ t.zo))::vi (C t.zo:Int)::vi i::V 256 [])))))
end
def rW:ICode := .region false (i (Ca Kr 90 1020))
theorem Acr(t:Tbl)(ks:u)   : Aa rW (DN t ks) .norm (Me t ks 0):=B p [] Ayp a0
def Re:ICode:=Ca Kr 88 4084
section
variable(t:Tbl)(ks:u)(i:Int)
theorem fB(e:El)(c1:G (i<C t.zo)=true)(c2:G (e.n 1<e.n 3)=true)(a:0<=i/\i<C t.zo)(b:At cZ 9 t.zo i e)(c:RQ 126 [E 1 [A D (e.n 0)]] (I true))(d:RQ 127 [E 2 [A D (e.n 1),A D (e.n 2),A D (e.n 3),A D (e.n 4)]] (I true))(f:RQ 124 [A D 256,E 1 [A D (e.n 5),A D (e.n 6)]] (I true))(g:RQ 123 [A D (-1),A D 31,E 1 [A D (e.n 7)]] (I true))(h:true=true/\G (e.n 2<e.n 4)=true)(j:Kp 125 e.s=true)(k:FT ks (.str e.s)=some false):Aa Re (Me t ks i) .norm (Me t (ks++[.str e.s]) (O D (i+1))):=B p [bT,.v (M (cZ e)),.r (I true),bT,.r (I true),bT,.r (I true),bT,.r (I true),bT] Ayp (Ec c1 a b c EJ d EJ f (EP EJ g c2 h j k))
theorem fC(c1:G (i<C t.zo)=false):Aa Re (Me t ks i) xZ9 (Me t ks i):=B p [Y] Ayp (Bc c1)
def Mf:H:=V 1 (T t.cs::V 1 (.ptr 126 0::V 120 (.mp ks::V 1 (.bxh [.undef,A D 0] [(0,124)]::V 289 (Ab (E (C t.sa) (F AN t.sa))::vi (C t.sa:Int)::vi i::V 204 [])))))
end
def rX:ICode := .region false (i (Ca Kr 89 2044))
theorem Acs(t:Tbl)(ks:u)   : Aa rX (DN t ks) .norm (Mf t ks 0):=B p [] Ayq a0
def Rf:ICode:=Ca Kr 87 8180
section
variable(t:Tbl)(ks:u)(i:Int)
theorem fD(e:El)(c1:G (i<C t.sa)=true)(a:0<=i/\i<C t.sa)(b:At AN 10 t.sa i e)(c:RQ 126 [E 1 [A D (e.n 0)]] (I true))(d:RQ 127 [E 1 [A D (e.n 1),A D (e.n 2)]] (I true))(f:RQ 123 [A D 1,A D 262144,E 1 [A D (e.n 3)]] (I true))(g:RQ 123 [A D 0,A D 1048576,E 1 [A D (e.n 4)]] (I true))(h:RQ 124 [A D 16384,E 1 [A D (e.n 5),A D (e.n 6)]] (I true))(j:RQ 129 [A D (e.n 7),A D (e.n 8)] (I true))(k:true=true/\G (e.n 3<t.r0)=true)(l:Kp 125 e.s=true)(m:FT ks (.str e.s)=some false):Aa Rf (Mf t ks i) .norm (Mf t (ks++[.str e.s]) (O D (i+1))):=B p [bT,.v (M (AN e)),.r (I true),bT,.r (I true),bT,.r (I true),bT,.r (I true),bT,.r (I true),bT,.r (I true)] Ayq (Ec c1 a b c EJ d EJ f (K0 EJ g EJ h EJ j k l m))
theorem fE(c1:G (i<C t.sa)=false):Aa Rf (Mf t ks i) (.exit 11) (Mf t ks i):=B p [Y] Ayq (Bc c1)
def Mg:H:=V 1 (T t.cs::V 1 (.ptr 126 0::V 120 (.mp ks::V 1 (.bxh [.undef,A D 0] [(0,124)]::V 341 (Ab (E (C t.la) (F cL t.la))::vi (C t.la:Int)::vi i::V 152 [])))))
end
def rY:ICode := .region false (i (Ca Kr 88 4092))
theorem Acu(t:Tbl)(ks:u)   : Aa rY (DN t ks) .norm (Mg t ks 0):=B p [] Ayr a0
def Rg:ICode:=Ca Kr 86 16372
section
variable(t:Tbl)(ks:u)(i:Int)
theorem fF(e:El)(c1:G (i<C t.la)=true)(a:0<=i/\i<C t.la)(b:At cL 6 t.la i e)(c:RQ 126 [E 1 [A D (e.n 0)]] (I true))(d:RQ 127 [E 1 [A D (e.n 1),A D (e.n 2)]] (I true))(f:RQ 123 [A D 1,A D 262144,E 1 [A D (e.n 3)]] (I true))(g:RQ 123 [A D (-1),A D 63,E 1 [A D (e.n 4)]] (I true))(h:Kp 125 e.s=true)(j:FT ks (.str e.s)=some false):Aa Rg (Mg t ks i) .norm (Mg t (ks++[.str e.s]) (O D (i+1))):=B p [bT,.v (M (cL e)),.r (I true),bT,.r (I true),bT,.r (I true),bT,.r (I true)] Ayr (Ec c1 a b c EJ d EJ f (Fh EJ g (show true=true/\true=true from ⟨rfl,rfl⟩) h j))
theorem fG(c1:G (i<C t.la)=false):Aa Rg (Mg t ks i) (.exit 13) (Mg t ks i):=B p [Y] Ayr (Bc c1)
def Mh:H:=V 1 (T t.cs::V 1 (.ptr 126 0::V 120 (.mp ks::V 1 (.bxh [.undef,A D 0] [(0,124)]::V 375 (Ab (E (C t.ra) (F cR t.ra))::vi (C t.ra:Int)::vi i::V 118 [])))))
end
def rZ:ICode := .region false (i (Ca Kr 87 8188))
theorem Acv(t:Tbl)(ks:u)   : Aa rZ (DN t ks) .norm (Mh t ks 0):=B p [] Ays a0
def Rh:ICode:=Ca Kr 85 32756
section
variable(t:Tbl)(ks:u)(i:Int)
theorem fH(e:El)(c1:G (i<C t.ra)=true)(c2:((e.n 0) != (e.n 1))=true)(a:0<=i/\i<C t.ra)(b:At cR 8 t.ra i e)(c:RQ 126 [E 2 [A D (e.n 0),A D (e.n 1)]] (I true))(d:RQ 127 [E 1 [A D (e.n 2),A D (e.n 3)]] (I true))(f:RQ 123 [A D 1,A D 262144,E 1 [A D (e.n 4)]] (I true))(g:RQ 124 [A D 16384,E 1 [A D (e.n 5),A D (e.n 6)]] (I true))(h:true=true/\(!(e.n 5==0&&(e.n 6==0&&true)))=true)(j:Kp 125 e.s=true)(k:FT ks (.str e.s)=some false):Aa Rh (Mh t ks i) .norm (Mh t (ks++[.str e.s]) (O D (i+1))):=B p [bT,.v (M (cR e)),.r (I true),bT,.r (I true),bT,.r (I true),bT,.r (I true),bT] Ays (Ec c1 a b c EJ d EJ f (EP EJ g c2 h j k))
theorem fI(c1:G (i<C t.ra)=false):Aa Rh (Mh t ks i) (.exit 15) (Mh t ks i):=B p [Y] Ays (Bc c1)
def Mi:H:=V 1 (T t.cs::V 1 (.ptr 126 0::V 120 (.mp ks::V 1 (.bxh [.undef,A D 0] [(0,124)]::V 422 (Ab (E (C t.dr) (F cD t.dr))::vi (C t.dr:Int)::vi i::V 71 [])))))
end
def sA:ICode := .region false (i (Ca Kr 86 16380))
theorem Acw(t:Tbl)(ks:u)   : Aa sA (DN t ks) .norm (Mi t ks 0):=B p [] Ayt a0
def Ri:ICode:=Ca Kr 84 65524
section
variable(t:Tbl)(ks:u)(i:Int)
theorem fJ(e:El)(c1:G (i<C t.dr)=true)(a:0<=i/\i<C t.dr)(b:At cD 5 t.dr i e)(c:RQ 126 [E 1 [A D (e.n 0)]] (I true))(d:RQ 127 [E 1 [A D (e.n 1),A D (e.n 2)]] (I true))(f:RQ 123 [A D 1,A D 262144,E 1 [A D (e.n 3)]] (I true))(g:Kp 125 e.s=true)(h:FT ks (.str e.s)=some false):Aa Ri (Mi t ks i) .norm (Mi t (ks++[.str e.s]) (O D (i+1))):=B p [bT,.v (M (cD e)),.r (I true),bT,.r (I true),bT,.r (I true)] Ayt (G3 c1 a b c EJ d EJ f (show true=true/\true=true from ⟨rfl,rfl⟩) g h)
theorem fK(c1:G (i<C t.dr)=false):Aa Ri (Mi t ks i) (.exit 17) (Mi t ks i):=B p [Y] Ayt (Bc c1)
def Mj:H:=V 1 (T t.cs::V 1 (.ptr 126 0::V 120 (.mp ks::V 1 (.bxh [.undef,A D 0] [(0,124)]::V 450 (Ab (E (C t.ln) (F cK t.ln))::vi (C t.ln:Int)::vi i::V 43 [])))))
end
def sB:ICode := .region false (i (Ca Kr 85 32764))
theorem Acx(t:Tbl)(ks:u)   : Aa sB (DN t ks) .norm (Mj t ks 0):=B p [] Ayu a0
def Rj:ICode:=Ca Kr 83 131060
theorem fL(t:Tbl)(ks:u)(i:Int)(e:El)(c1:G (i<C t.ln)=true)(a:0<=i/\i<C t.ln)(b:At cK 7 t.ln i e)(c:RQ 126 [E 1 [A D (e.n 0)]] (I true))(d:RQ 127 [E 1 [A D (e.n 1),A D (e.n 2)]] (I true))(f:RQ 124 [A D 16384,E 1 [A D (e.n 3),A D (e.n 4)]] (I true))(g:RQ 123 [A D 0,A D 31,E 1 [A D (e.n 5)]] (I true))(h:Kp 125 e.s=true)(j:FT ks (.str e.s)=some false):Aa Rj (Mj t ks i) .norm (Mj t (ks++[.str e.s]) (O D (i+1))):=B p [bT,.v (M (cK e)),.r (I true),bT,.r (I true),bT,.r (I true),bT,.r (I true)] Ayu (Ec c1 a b c EJ d EJ f (Fh EJ g (show true=true/\true=true from ⟨rfl,rfl⟩) h j))
theorem fM(t:Tbl)(ks:u)(i:Int)(c1:G (i<C t.ln)=false):Aa Rj (Mj t ks i) (.exit 19) (Mj t ks i):=B p [Y] Ayu (Bc c1)
def A5x:ICode := .seq (Ca Kr 85 32766) (.seq (.region false (i (Ca Kr 84 65534))) (.ret))
theorem Aix(t:Tbl)(ks:u)(a:RQ 131 [M t.cs] (I false)):Aa A5x (DN t ks) .ret (A5w ):=B p [bT,.r (I false),Y] [2] (Fa EJ a iY)
theorem A5y:(iF g Kr).body = .seq Aod (.seq Aoe (.seq Aof (.seq (.seq rS (.block 1 (.loop Q'))) (.seq (.seq rT (.block 3 (.loop Q_))) (.seq (.seq rU (.block 5 (.loop Rb))) (.seq (.seq rV (.block 7 (.loop Rc))) (.seq (.seq rW (.block 9 (.loop Re))) (.seq (.seq rX (.block 11 (.loop Rf))) (.seq (.seq rY (.block 13 (.loop Rg))) (.seq (.seq rZ (.block 15 (.loop Rh))) (.seq (.seq sA (.block 17 (.loop Ri))) (.seq (.seq sB (.block 19 (.loop Rj))) A5x)))))))))))):=by kernel_rfl
theorem Jx:Be CQ []:=Be.nil _
def Agr:ICode:=Ca Axs 91 500
section
variable(r0 r1 r2 r3 r4 r5 r6:Int)(c:Nat)(d:u)(e:Nat)(f:u)(g:Nat)(h:u)(j:Nat)(m:u)(a:Nat)(b:u)(n:Nat)(o:u)(p:Nat)(q:u)(s:Nat)(t:u)(w:Nat)(x:u)(y:Nat)(z:u)(F:Nat)(I:u)(l:LI)(K k:Int)(nb:Nat)(cb:u)(nk:Nat)(ck:u)(ns:Nat)(cs:u)(na:Nat)(ca:u)(i:Int)
def UQ:H:=V 2 (T [A D r0,A D r1,A D r2,A D r3,A D r4,A D r5,A D r6,E c d,E e f,E g h,E j m,E a b,E n o,E p q,E s t,E w x,E y z,E F I]::V 1 (T [A D 0,E 0 [],E 0 [],E 0 [],E 0 [],A Bd 0]::T [E (C l) (li l),A D K]::.bxh [A D k,.undef,.undef,.undef,.undef,A Bd 0] [(1,15),(2,19),(3,23),(4,27)]::vi i::V 7 (Av 7 nb cb::V 3 (Av 1 nk ck::V 3 (Av 1 ns cs::V 3 (Av 1 na ca::V 124 []))))))
theorem Azt(N P Q S U W L:Int)(X Z:u)(c1:G (i<a)=true)(M:0<=i/\i<a)(n2:0<=i/\i<nk)(n3:0<=i/\i<ns)(n4:Ad (R 6 (R (J i*15) b)) 0 1 true=some (A D U))(n5:Ad (R 7 (R (J i*15) b)) 0 1 true=some (A D W))(n6:RQ 37 [.gb [E (C l) (li l),A D K],A D U,A D W] (.io [E (C l) (li l),A D N] (A D P)))(n7:Cg ck (J i*1) [A D P]=some X)(n8:Ad (R 10 (R (J i*15) b)) 0 1 true=some (A D L))(n9:RQ 37 [.gb [E (C l) (li l),A D N],A D (O D (0-L)),A D L] (.io [E (C l) (li l),A D Q] (A D S)))(a1:Cg cs (J i*1) [A D S]=some Z):Aa Agr (UQ r0 r1 r2 r3 r4 r5 r6 c d e f g h j m a b n o p q s t w x y z F I l K k nb cb nk ck ns cs na ca i) .norm (UQ r0 r1 r2 r3 r4 r5 r6 c d e f g h j m a b n o p q s t w x y z F I l Q k nb cb nk X ns Z na ca (O D (i+1))):=B Jx [bT,.v (A D U),.v (A D W),.r (.io [E (C l) (li l),A D N] (A D P)),.l X,.v (A D L),.v (A D L),.r (.io [E (C l) (li l),A D Q] (A D S)),.l Z] AKo (Ec c1 M n4 M n5 n6 n2 n7 (Gs M n8 M n8 n9 n3 a1))
theorem Azu(c1:G (i<a)=false):Aa Agr (UQ r0 r1 r2 r3 r4 r5 r6 c d e f g h j m a b n o p q s t w x y z F I l K k nb cb nk ck ns cs na ca i) xZ0 (UQ r0 r1 r2 r3 r4 r5 r6 c d e f g h j m a b n o p q s t w x y z F I l K k nb cb nk ck ns cs na ca i):=B Jx [Y] AKo (Bc c1)
end
def YT:ICode:=Ca Axs 90 1012
section
variable(r0 r1 r2 r3 r4 r5 r6:Int)(d:Nat)(e:u)(a:Nat)(c:u)(f:Nat)(g:u)(h:Nat)(j:u)(m:Nat)(n:u)(o:Nat)(p:u)(q:Nat)(s:u)(t:Nat)(w:u)(x:Nat)(y:u)(z:Nat)(F:u)(K:Nat)(L:u)(l:LI)(M k:Int)(nb:Nat)(cb:u)(nk:Nat)(ck:u)(ns:Nat)(cs:u)(na:Nat)(ca:u)(i:Int)
def M4:H:=V 2 (T [A D r0,A D r1,A D r2,A D r3,A D r4,A D r5,A D r6,E d e,E a c,E f g,E h j,E m n,E o p,E q s,E t w,E x y,E z F,E K L]::V 1 (T [A D 0,E 0 [],E 0 [],E 0 [],E 0 [],A Bd 0]::T [E (C l) (li l),A D M]::.bxh [A D k,.undef,.undef,.undef,.undef,A Bd 0] [(1,15),(2,19),(3,23),(4,27)]::V 1 (vi i::V 6 (Av 7 nb cb::V 3 (Av 1 nk ck::V 3 (Av 1 ns cs::V 3 (Av 1 na ca::V 124 [])))))))
theorem Azv(N P b:Int)(Q:u)(c1:G (i<a)=true)(c2:(b==2)=true)(S:0<=i/\i<a)(U:0<=i/\i<na)(W:Ad (R 1 (R (J i*13) c)) 0 1 true=some (A D b))(X:RQ 38 [.gb [E (C l) (li l),A D M],A D 2] (.io [E (C l) (li l),A D N] (A D P)))(Z:Cg ca (J i*1) [I (P==1)]=some Q):Aa YT (M4 r0 r1 r2 r3 r4 r5 r6 d e a c f g h j m n o p q s t w x y z F K L l M k nb cb nk ck ns cs na ca i) .norm (M4 r0 r1 r2 r3 r4 r5 r6 d e a c f g h j m n o p q s t w x y z F K L l N k nb cb nk ck ns cs na Q (O D (i+1))):=B Jx [bT,.v (A D b),bT,bT,.r (.io [E (C l) (li l),A D N] (A D P)),.l Q] oY (EQ c1 S W c2 EJ X U Z)
theorem Azw(N P b:Int)(Q:u)(c1:G (i<a)=true)(c2:(b==2)=false)(c3:(b==3)=true)(S:0<=i/\i<a)(U:0<=i/\i<na)(W:Ad (R 1 (R (J i*13) c)) 0 1 true=some (A D b))(X:RQ 38 [.gb [E (C l) (li l),A D M],A D 2] (.io [E (C l) (li l),A D N] (A D P)))(Z:Cg ca (J i*1) [I (P==1)]=some Q):Aa YT (M4 r0 r1 r2 r3 r4 r5 r6 d e a c f g h j m n o p q s t w x y z F K L l M k nb cb nk ck ns cs na ca i) .norm (M4 r0 r1 r2 r3 r4 r5 r6 d e a c f g h j m n o p q s t w x y z F K L l N k nb cb nk ck ns cs na Q (O D (i+1))):=B Jx [bT,.v (A D b),Y,.v (A D b),bT,.r (.io [E (C l) (li l),A D N] (A D P)),.l Q] oY (Fm c1 S W c2 S W c3 X U Z)
theorem Azx(b:Int)(c1:G (i<a)=true)(c2:(b==2)=false)(c3:(b==3)=false)(S:0<=i/\i<a)(U:Ad (R 1 (R (J i*13) c)) 0 1 true=some (A D b)):Aa YT (M4 r0 r1 r2 r3 r4 r5 r6 d e a c f g h j m n o p q s t w x y z F K L l M k nb cb nk ck ns cs na ca i) .norm (M4 r0 r1 r2 r3 r4 r5 r6 d e a c f g h j m n o p q s t w x y z F K L l M k nb cb nk ck ns cs na ca (O D (i+1))):=B Jx [bT,.v (A D b),Y,.v (A D b),Y] oY (Gs c1 S U c2 S U c3)
theorem Azy(c1:G (i<a)=false):Aa YT (M4 r0 r1 r2 r3 r4 r5 r6 d e a c f g h j m n o p q s t w x y z F K L l M k nb cb nk ck ns cs na ca i) xZ2 (M4 r0 r1 r2 r3 r4 r5 r6 d e a c f g h j m n o p q s t w x y z F K L l M k nb cb nk ck ns cs na ca i):=B Jx [Y] oY (Bc c1)
end
def AKm:ICode:=Ca Axs 89 2036
section
variable(r0 r1 r2 r3 r4 r5 r6:Int)(n:Nat)(o:u)(p:Nat)(q:u)(s:Nat)(t:u)(v:Nat)(w:u)(x:Nat)(y:u)(z:Nat)(F:u)(K:Nat)(L:u)(N:Nat)(P:u)(Q:Nat)(R:u)(S:Nat)(U:u)(W:Nat)(X:u)(l:LI)(p0 k:Int)(nb:Nat)(cb:u)(nk:Nat)(ck:u)(ns:Nat)(cs:u)(na:Nat)(ca:u)(i:Int)
def AKk:H:=V 2 (T [A D r0,A D r1,A D r2,A D r3,A D r4,A D r5,A D r6,E n o,E p q,E s t,E v w,E x y,E z F,E K L,E N P,E Q R,E S U,E W X]::V 1 (T [A D 0,E 0 [],E 0 [],E 0 [],E 0 [],A Bd 0]::T [E (C l) (li l),A D p0]::.bxh [A D k,.undef,.undef,.undef,.undef,A Bd 0] [(1,15),(2,19),(3,23),(4,27)]::V 2 (vi i::V 5 (Av 7 nb cb::V 3 (Av 1 nk ck::V 3 (Av 1 ns cs::V 3 (Av 1 na ca::V 124 [])))))))
theorem AKr(a b c d e Z f v4 g h j m:Int)(ov:Bool)(c1:G (i<nb)=true)(c2:(h==7)=true)(c3:G (m<4)=true)(c4:ov=true)(n1:RQ 37 [.gb [E (C l) (li l),A D p0],A D (-2800),A D 2800] (.io [E (C l) (li l),A D a] (A D b)))(n2:RQ 37 [.gb [E (C l) (li l),A D a],A D (-2800),A D 2800] (.io [E (C l) (li l),A D c] (A D d)))(n3:RQ 37 [.gb [E (C l) (li l),A D c],A D (-500),A D 500] (.io [E (C l) (li l),A D e] (A D Z)))(n4:RQ 37 [.gb [E (C l) (li l),A D e],A D (-500),A D 500] (.io [E (C l) (li l),A D f] (A D v4)))(n5:RQ 38 [.gb [E (C l) (li l),A D f],A D 8] (.io [E (C l) (li l),A D g] (A D h)))(n6:RQ 38 [.gb [E (C l) (li l),A D g],A D 5] (.io [E (C l) (li l),A D j] (A D m)))(n7:RQ 17 [M [A D r0,A D r1,A D r2,A D r3,A D r4,A D r5,A D r6,E n o,E p q,E s t,E v w,E x y,E z F,E K L,E N P,E Q R,E S U,E W X],M [A D k,E nb cb,E nk ck,E ns cs,E na ca,A Bd 0],A D 1,M [A D b,A D d],A D i] (I ov)):Aa AKm (AKk r0 r1 r2 r3 r4 r5 r6 n o p q s t v w x y z F K L N P Q R S U W X l p0 k nb cb nk ck ns cs na ca i) .norm (AKk r0 r1 r2 r3 r4 r5 r6 n o p q s t v w x y z F K L N P Q R S U W X l j k nb cb nk ck ns cs na ca (O D (i+1))):=B Jx [bT,.r (.io [E (C l) (li l),A D a] (A D b)),.r (.io [E (C l) (li l),A D c] (A D d)),.r (.io [E (C l) (li l),A D e] (A D Z)),.r (.io [E (C l) (li l),A D f] (A D v4)),.r (.io [E (C l) (li l),A D g] (A D h)),bT,.r (.io [E (C l) (li l),A D j] (A D m)),bT,.r (I ov),Y] UJ (G3 c1 n1 n2 n3 n4 n5 c2 n6 c3 n7 (AKg c4))
theorem AKs(a b c d e Z f v4 g h j m:Int)(a1:u)(ov:Bool)(c1:G (i<nb)=true)(c2:(h==7)=true)(c3:G (m<4)=true)(c4:ov=false)(n1:0<=i/\i<nb)(n2:RQ 37 [.gb [E (C l) (li l),A D p0],A D (-2800),A D 2800] (.io [E (C l) (li l),A D a] (A D b)))(n3:RQ 37 [.gb [E (C l) (li l),A D a],A D (-2800),A D 2800] (.io [E (C l) (li l),A D c] (A D d)))(n4:RQ 37 [.gb [E (C l) (li l),A D c],A D (-500),A D 500] (.io [E (C l) (li l),A D e] (A D Z)))(n5:RQ 37 [.gb [E (C l) (li l),A D e],A D (-500),A D 500] (.io [E (C l) (li l),A D f] (A D v4)))(n6:RQ 38 [.gb [E (C l) (li l),A D f],A D 8] (.io [E (C l) (li l),A D g] (A D h)))(n7:RQ 38 [.gb [E (C l) (li l),A D g],A D 5] (.io [E (C l) (li l),A D j] (A D m)))(n8:RQ 17 [M [A D r0,A D r1,A D r2,A D r3,A D r4,A D r5,A D r6,E n o,E p q,E s t,E v w,E x y,E z F,E K L,E N P,E Q R,E S U,E W X],M [A D k,E nb cb,E nk ck,E ns cs,E na ca,A Bd 0],A D 1,M [A D b,A D d],A D i] (I ov))(n9:Cg cb (J i*7) [A D 1,A D 0,A D 1,A D b,A D d,A D Z,A D v4]=some a1):Aa AKm (AKk r0 r1 r2 r3 r4 r5 r6 n o p q s t v w x y z F K L N P Q R S U W X l p0 k nb cb nk ck ns cs na ca i) .norm (AKk r0 r1 r2 r3 r4 r5 r6 n o p q s t v w x y z F K L N P Q R S U W X l j k nb a1 nk ck ns cs na ca (O D (i+1))):=B Jx [bT,.r (.io [E (C l) (li l),A D a] (A D b)),.r (.io [E (C l) (li l),A D c] (A D d)),.r (.io [E (C l) (li l),A D e] (A D Z)),.r (.io [E (C l) (li l),A D f] (A D v4)),.r (.io [E (C l) (li l),A D g] (A D h)),bT,.r (.io [E (C l) (li l),A D j] (A D m)),bT,.r (I ov),bT,.l a1] UJ (Ec c1 n2 n3 n4 n5 n6 c2 n7 (Fh c3 n8 (AKj c4) n1 n9))
theorem AKt(a b c d e Z f v4 g h j m:Int)(c1:G (i<nb)=true)(c2:(h==7)=true)(c3:G (m<4)=false)(n1:RQ 37 [.gb [E (C l) (li l),A D p0],A D (-2800),A D 2800] (.io [E (C l) (li l),A D a] (A D b)))(n2:RQ 37 [.gb [E (C l) (li l),A D a],A D (-2800),A D 2800] (.io [E (C l) (li l),A D c] (A D d)))(n3:RQ 37 [.gb [E (C l) (li l),A D c],A D (-500),A D 500] (.io [E (C l) (li l),A D e] (A D Z)))(n4:RQ 37 [.gb [E (C l) (li l),A D e],A D (-500),A D 500] (.io [E (C l) (li l),A D f] (A D v4)))(n5:RQ 38 [.gb [E (C l) (li l),A D f],A D 8] (.io [E (C l) (li l),A D g] (A D h)))(n6:RQ 38 [.gb [E (C l) (li l),A D g],A D 5] (.io [E (C l) (li l),A D j] (A D m))):Aa AKm (AKk r0 r1 r2 r3 r4 r5 r6 n o p q s t v w x y z F K L N P Q R S U W X l p0 k nb cb nk ck ns cs na ca i) .norm (AKk r0 r1 r2 r3 r4 r5 r6 n o p q s t v w x y z F K L N P Q R S U W X l j k nb cb nk ck ns cs na ca (O D (i+1))):=B Jx [bT,.r (.io [E (C l) (li l),A D a] (A D b)),.r (.io [E (C l) (li l),A D c] (A D d)),.r (.io [E (C l) (li l),A D e] (A D Z)),.r (.io [E (C l) (li l),A D f] (A D v4)),.r (.io [E (C l) (li l),A D g] (A D h)),bT,.r (.io [E (C l) (li l),A D j] (A D m)),Y,Y] UJ (Fm c1 n1 n2 n3 n4 n5 c2 n6 c3 iY)
theorem AKu(a b c d e Z f v4 g h j m:Int)(ov:Bool)(c1:G (i<nb)=true)(c2:(h==7)=false)(c3:G (m<4)=true)(c4:ov=true)(n1:RQ 37 [.gb [E (C l) (li l),A D p0],A D (-2800),A D 2800] (.io [E (C l) (li l),A D a] (A D b)))(n2:RQ 37 [.gb [E (C l) (li l),A D a],A D (-2800),A D 2800] (.io [E (C l) (li l),A D c] (A D d)))(n3:RQ 37 [.gb [E (C l) (li l),A D c],A D (-500),A D 500] (.io [E (C l) (li l),A D e] (A D Z)))(n4:RQ 37 [.gb [E (C l) (li l),A D e],A D (-500),A D 500] (.io [E (C l) (li l),A D f] (A D v4)))(n5:RQ 38 [.gb [E (C l) (li l),A D f],A D 8] (.io [E (C l) (li l),A D g] (A D h)))(n6:RQ 38 [.gb [E (C l) (li l),A D g],A D 5] (.io [E (C l) (li l),A D j] (A D m)))(n7:RQ 17 [M [A D r0,A D r1,A D r2,A D r3,A D r4,A D r5,A D r6,E n o,E p q,E s t,E v w,E x y,E z F,E K L,E N P,E Q R,E S U,E W X],M [A D k,E nb cb,E nk ck,E ns cs,E na ca,A Bd 0],A D 0,M [A D b,A D d],A D i] (I ov)):Aa AKm (AKk r0 r1 r2 r3 r4 r5 r6 n o p q s t v w x y z F K L N P Q R S U W X l p0 k nb cb nk ck ns cs na ca i) .norm (AKk r0 r1 r2 r3 r4 r5 r6 n o p q s t v w x y z F K L N P Q R S U W X l j k nb cb nk ck ns cs na ca (O D (i+1))):=B Jx [bT,.r (.io [E (C l) (li l),A D a] (A D b)),.r (.io [E (C l) (li l),A D c] (A D d)),.r (.io [E (C l) (li l),A D e] (A D Z)),.r (.io [E (C l) (li l),A D f] (A D v4)),.r (.io [E (C l) (li l),A D g] (A D h)),Y,.r (.io [E (C l) (li l),A D j] (A D m)),bT,.r (I ov),Y] UJ (G3 c1 n1 n2 n3 n4 n5 c2 n6 c3 n7 (AKg c4))
theorem AKv(a b c d e Z f v4 g h j m:Int)(a1:u)(ov:Bool)(c1:G (i<nb)=true)(c2:(h==7)=false)(c3:G (m<4)=true)(c4:ov=false)(n1:0<=i/\i<nb)(n2:RQ 37 [.gb [E (C l) (li l),A D p0],A D (-2800),A D 2800] (.io [E (C l) (li l),A D a] (A D b)))(n3:RQ 37 [.gb [E (C l) (li l),A D a],A D (-2800),A D 2800] (.io [E (C l) (li l),A D c] (A D d)))(n4:RQ 37 [.gb [E (C l) (li l),A D c],A D (-500),A D 500] (.io [E (C l) (li l),A D e] (A D Z)))(n5:RQ 37 [.gb [E (C l) (li l),A D e],A D (-500),A D 500] (.io [E (C l) (li l),A D f] (A D v4)))(n6:RQ 38 [.gb [E (C l) (li l),A D f],A D 8] (.io [E (C l) (li l),A D g] (A D h)))(n7:RQ 38 [.gb [E (C l) (li l),A D g],A D 5] (.io [E (C l) (li l),A D j] (A D m)))(n8:RQ 17 [M [A D r0,A D r1,A D r2,A D r3,A D r4,A D r5,A D r6,E n o,E p q,E s t,E v w,E x y,E z F,E K L,E N P,E Q R,E S U,E W X],M [A D k,E nb cb,E nk ck,E ns cs,E na ca,A Bd 0],A D 0,M [A D b,A D d],A D i] (I ov))(n9:Cg cb (J i*7) [A D 1,A D 0,A D 0,A D b,A D d,A D Z,A D v4]=some a1):Aa AKm (AKk r0 r1 r2 r3 r4 r5 r6 n o p q s t v w x y z F K L N P Q R S U W X l p0 k nb cb nk ck ns cs na ca i) .norm (AKk r0 r1 r2 r3 r4 r5 r6 n o p q s t v w x y z F K L N P Q R S U W X l j k nb a1 nk ck ns cs na ca (O D (i+1))):=B Jx [bT,.r (.io [E (C l) (li l),A D a] (A D b)),.r (.io [E (C l) (li l),A D c] (A D d)),.r (.io [E (C l) (li l),A D e] (A D Z)),.r (.io [E (C l) (li l),A D f] (A D v4)),.r (.io [E (C l) (li l),A D g] (A D h)),Y,.r (.io [E (C l) (li l),A D j] (A D m)),bT,.r (I ov),bT,.l a1] UJ (Ec c1 n2 n3 n4 n5 n6 c2 n7 (Fh c3 n8 (AKj c4) n1 n9))
theorem AKw(a b c d e Z f v4 g h j m:Int)(c1:G (i<nb)=true)(c2:(h==7)=false)(c3:G (m<4)=false)(n1:RQ 37 [.gb [E (C l) (li l),A D p0],A D (-2800),A D 2800] (.io [E (C l) (li l),A D a] (A D b)))(n2:RQ 37 [.gb [E (C l) (li l),A D a],A D (-2800),A D 2800] (.io [E (C l) (li l),A D c] (A D d)))(n3:RQ 37 [.gb [E (C l) (li l),A D c],A D (-500),A D 500] (.io [E (C l) (li l),A D e] (A D Z)))(n4:RQ 37 [.gb [E (C l) (li l),A D e],A D (-500),A D 500] (.io [E (C l) (li l),A D f] (A D v4)))(n5:RQ 38 [.gb [E (C l) (li l),A D f],A D 8] (.io [E (C l) (li l),A D g] (A D h)))(n6:RQ 38 [.gb [E (C l) (li l),A D g],A D 5] (.io [E (C l) (li l),A D j] (A D m))):Aa AKm (AKk r0 r1 r2 r3 r4 r5 r6 n o p q s t v w x y z F K L N P Q R S U W X l p0 k nb cb nk ck ns cs na ca i) .norm (AKk r0 r1 r2 r3 r4 r5 r6 n o p q s t v w x y z F K L N P Q R S U W X l j k nb cb nk ck ns cs na ca (O D (i+1))):=B Jx [bT,.r (.io [E (C l) (li l),A D a] (A D b)),.r (.io [E (C l) (li l),A D c] (A D d)),.r (.io [E (C l) (li l),A D e] (A D Z)),.r (.io [E (C l) (li l),A D f] (A D v4)),.r (.io [E (C l) (li l),A D g] (A D h)),Y,.r (.io [E (C l) (li l),A D j] (A D m)),Y,Y] UJ (Fm c1 n1 n2 n3 n4 n5 c2 n6 c3 iY)
theorem AKx(c1:G (i<nb)=false):Aa AKm (AKk r0 r1 r2 r3 r4 r5 r6 n o p q s t v w x y z F K L N P Q R S U W X l p0 k nb cb nk ck ns cs na ca i) xZ4 (AKk r0 r1 r2 r3 r4 r5 r6 n o p q s t v w x y z F K L N P Q R S U W X l p0 k nb cb nk ck ns cs na ca i):=B Jx [Y] UJ (Bc c1)
end
theorem AKz(r0 r1 r2 r3 r4 r5 r6:Int)(d:Nat)(e:u)(b:Nat)(f:u)(g:Nat)(h:u)(i:Nat)(j:u)(a:Nat)(k:u)(m:Nat)(n:u)(o:Nat)(p:u)(q:Nat)(s:u)(t:Nat)(v:u)(w:Nat)(x:u)(y:Nat)(z:u)(l:LI)(X Y Z L c Q R S U K:Int)(P F G H:u)(n1:0<=r1/\r1<=1048576)(W:0<=(a:Int)/\(a:Int)<=1048576)(n3:0<=(b:Int)/\(b:Int)<=1048576)(n4:RQ 38 [.gb [E (C l) (li l),A D 0],A D 20] (.io [E (C l) (li l),A D L] (A D c)))(a1:Aa (.loop Agr) (UQ r0 r1 r2 r3 r4 r5 r6 d e b f g h i j a k m n o p q s t v w x y z l L c (J r1) (Gp [A D 0,A D 0,A D 0,A D 0,A D 0,A D 0,A D 0] (J r1)) (J a) (Gp [A D 0] (J a)) (J a) (Gp [A D 0] (J a)) (J b) (Gp [I false] (J b)) 0) xZ0 (UQ r0 r1 r2 r3 r4 r5 r6 d e b f g h i j a k m n o p q s t v w x y z l Q c (J r1) (Gp [A D 0,A D 0,A D 0,A D 0,A D 0,A D 0,A D 0] (J r1)) (J a) F (J a) G (J b) (Gp [I false] (J b)) X))(a2:Aa (.loop YT) (M4 r0 r1 r2 r3 r4 r5 r6 d e b f g h i j a k m n o p q s t v w x y z l Q c (J r1) (Gp [A D 0,A D 0,A D 0,A D 0,A D 0,A D 0,A D 0] (J r1)) (J a) F (J a) G (J b) (Gp [I false] (J b)) 0) xZ2 (M4 r0 r1 r2 r3 r4 r5 r6 d e b f g h i j a k m n o p q s t v w x y z l R c (J r1) (Gp [A D 0,A D 0,A D 0,A D 0,A D 0,A D 0,A D 0] (J r1)) (J a) F (J a) G (J b) H Y))(a3:Aa (.loop AKm) (AKk r0 r1 r2 r3 r4 r5 r6 d e b f g h i j a k m n o p q s t v w x y z l R c (J r1) (Gp [A D 0,A D 0,A D 0,A D 0,A D 0,A D 0,A D 0] (J r1)) (J a) F (J a) G (J b) H 0) xZ4 (AKk r0 r1 r2 r3 r4 r5 r6 d e b f g h i j a k m n o p q s t v w x y z l S c (J r1) P (J a) F (J a) G (J b) H Z))(n8:RQ 38 [.gb [E (C l) (li l),A D S],A D 16] (.io [E (C l) (li l),A D U] (A D K))):RQ 11 [M [A D r0,A D r1,A D r2,A D r3,A D r4,A D r5,A D r6,E d e,E b f,E g h,E i j,E a k,E m n,E o p,E q s,E t v,E w x,E y z],E (C l) (li l)] (M [A D c,E (J r1) P,E (J a) F,E (J a) G,E (J b) H,A Bd (O Bd K)]):=K4 Axs (V 4 (T [A D c,E (J r1) P,E (J a) F,E (J a) G,E (J b) H,A Bd (O Bd K)]::V 147 [])) (BU (BU (BU (BS (N (B Jx [.r (.gb [E (C l) (li l),A D 0]),.r (.io [E (C l) (li l),A D L] (A D c))] AKo (EP (show RQ 36 [E (C l) (li l)] (.gb [E (C l) (li l),A D 0]) from A9g l) n1 W W n3 n4)) (N (A0 a1) (N (N (B Jx [] oY a0) (A0 a2)) (N (N (B Jx [] UJ a0) (A0 a3)) (B Jx [.r (.io [E (C l) (li l),A D U] (A D K))] [4] (Bc n8))))))))))
theorem xS{α:Type}{P:α->Prop}{l:List α}(h:∀ x∈l,P x){i:Nat}{a:α}(b:P a):∀ x∈l.set i a,P x:=by
 intro x c;rcases WP c with h1 | h1
 ·exact h x h1
 ·exact h1 ▸ b
section
variable {l:LI} {r0 r1 r2 r3 r4 r5 r6 k:Int} {m7 m8 m9 m10 m12 m13 m14 m15 m16 m17 nb na:Nat} {d7 d8 d9 d10 d12 d13 d14 d15 d16 d17 cb ca:u}
theorem S5{fs:List El}(hf:∀ e∈fs,pA e)(hn:C fs<=1000000):∀ (d:Nat) {i:Nat} {p:Int} {ks ss:LI},i+d=C fs->Sp l p->C ks=C fs->C ss=C fs->(∀ x∈ks,Sm x)->(∀ x∈ss,Sm x) ->
  ∃ q g h,Sp l q/\C g=C fs/\C h=C fs/\(∀ x∈g,Sm x)/\(∀ x∈h,Sm x) /\
   Aa (.loop Agr) (UQ r0 r1 r2 r3 r4 r5 r6 m7 d7 m8 d8 m9 d9 m10 d10 (C fs) (F cF fs) m12 d12 m13 d13 m14 d14 m15 d15 m16 d16 m17 d17 l p k nb cb (C fs) (F cI ks) (C fs) (F cI ss) na ca i) xZ0
    (UQ r0 r1 r2 r3 r4 r5 r6 m7 d7 m8 d8 m9 d9 m10 d10 (C fs) (F cF fs) m12 d12 m13 d13 m14 d14 m15 d15 m16 d16 m17 d17 l q k nb cb (C fs) (F cI g) (C fs) (F cI h) na ca (C fs)):=by
 intro d;induction d with
 | zero =>
  intro i p ks ss hi t h1 h2 u v;have e:i=C fs:=by omega
  subst e;exact⟨p,ks,ss,t,h1,h2,u,v,f (Azu _ _ _ _ _ _ _ _ _ _ _ _ _ _ _ _ _ _ _ _ _ _ _ _ _ _ _ _ _ _ _ _ _ _ _ _ _ _ _ _ _ (As (by omega)))⟩
 | succ d B =>
  intro i p ks ss hi t h1 h2 u v;have y:i<C fs:=by omega
  obtain⟨w,ho,_,_,_,_,_,hs,_⟩:=hf fs[i] (AF y);have E:=w.n 4;have G:=w.n 5;have H:=w.n 8;unfold Sm at E G H;obtain⟨I,m,J,c1,K⟩:=BO (a:=fs[i].n 4) (b:=fs[i].n 5) t (by omega) (by omega) (by omega);obtain⟨z,r,L,c2,M⟩:=BO (a := -(fs[i].n 8)) (b:=fs[i].n 8) J (by omega) (by omega) (by omega);have N:O D (0-fs[i].n 8) = -(fs[i].n 8):=by rw[wqz];omega
  have P:O D (i+1)=((i+1:Nat):Int):=by rw[wqz];rfl
  have s:0<=(i:Int)/\(i:Int)<(C fs:Int):=by omega
  have cell:∀ j,j<15->Ad (R j (R (i*15) (F cF fs))) 0 1 true=(cF fs[i])[j]? := fun j Q=>Eo (c:=cF) (k:=15) (fun _=>rfl) y Q;have A:=Azt r0 r1 r2 r3 r4 r5 r6 m7 d7 m8 d8 m9 d9 m10 d10 (C fs) (F cF fs) m12 d12 m13 d13 m14 d14 m15 d15 m16 d16 m17 d17 l p k nb cb (C fs) (F cI ks) (C fs) (F cI ss) na ca i
   I m z r (fs[i].n 4) (fs[i].n 5) (fs[i].n 8) (F cI (ks.set i m)) (F cI (ss.set i r)) (o s.2) s s s (cell 6 (by omega)) (cell 7 (by omega)) K
   (Xr (c:=cI) (k:=1) (fun _=>rfl) (by omega) m) (cell 10 (by omega)) (by rw[N];exact M) (Xr (c:=cI) (k:=1) (fun _=>rfl) (by omega) r)
  rw[P] at A;obtain⟨q,g,h,S,T,U,V,W,X⟩:=B (i:=i+1) (p:=z) (ks:=ks.set i m) (ss:=ss.set i r) (by omega) L (by rw[AU,h1]) (by rw[AU,h2])
   (xS u (by unfold Sm;omega)) (xS v (by unfold Sm;omega))
  exact⟨q,g,h,S,T,U,V,W,AB A X⟩
theorem IW{ws:List El}{m11 nk ns:Nat}{d11 ck cs:u}(hn:C ws<=1000000):∀ (d:Nat) {i:Nat} {p:Int} {az:List Bool},i+d=C ws->Sp l p->C az=C ws ->
  ∃ q a,Sp l q/\C a=C ws /\
   Aa (.loop YT) (M4 r0 r1 r2 r3 r4 r5 r6 m7 d7 (C ws) (F cW ws) m9 d9 m10 d10 m11 d11 m12 d12 m13 d13 m14 d14 m15 d15 m16 d16 m17 d17 l p k nb cb nk ck ns cs (C ws) (F cO az) i) xZ2
    (M4 r0 r1 r2 r3 r4 r5 r6 m7 d7 (C ws) (F cW ws) m9 d9 m10 d10 m11 d11 m12 d12 m13 d13 m14 d14 m15 d15 m16 d16 m17 d17 l q k nb cb nk ck ns cs (C ws) (F cO a) (C ws)):=by
 intro d;induction d with
 | zero =>
  intro i p az hi s h1;have e:i=C ws:=by omega
  subst e;exact⟨p,az,s,h1,f (Azy _ _ _ _ _ _ _ _ _ _ _ _ _ _ _ _ _ _ _ _ _ _ _ _ _ _ _ _ _ _ _ _ _ _ _ _ _ _ _ _ _ (As (by omega)))⟩
 | succ d v =>
  intro i p az hi s h1;have B:i<C ws:=by omega
  obtain⟨t,h,y,c1,z⟩:=BE (n:=2) s (by omega) (by omega);have w:O D (i+1)=((i+1:Nat):Int):=by rw[wqz];rfl
  have b:0<=(i:Int)/\(i:Int)<(C ws:Int):=by omega
  have cell:Ad (R 1 (R (i*13) (F cW ws))) 0 1 true=(cW ws[i])[1]? := Eo (c:=cW) (k:=13) (fun _=>rfl) B (by omega);have lay:=Xr (c:=cO) (k:=1) (es:=az) (i:=i) (fun _=>rfl) (by omega) (h==1);cases x:(ws[i].n 0==2)
  ·cases A:(ws[i].n 0==3)
   ·obtain⟨q,a,j,m,r⟩:=v (i:=i+1) (p:=p) (az:=az) (by omega) s h1;have g:=Azx r0 r1 r2 r3 r4 r5 r6 m7 d7 (C ws) (F cW ws) m9 d9 m10 d10 m11 d11 m12 d12 m13 d13 m14 d14 m15 d15 m16 d16 m17 d17 l p k nb cb nk ck ns cs (C ws) (F cO az) i
     (ws[i].n 0) (o b.2) x A b cell
    rw[w] at g;exact⟨q,a,j,m,AB g r⟩
   ·obtain⟨q,a,j,m,r⟩:=v (i:=i+1) (p:=t) (az:=az.set i (h==1)) (by omega) y (by rw[AU,h1]);have g:=Azw r0 r1 r2 r3 r4 r5 r6 m7 d7 (C ws) (F cW ws) m9 d9 m10 d10 m11 d11 m12 d12 m13 d13 m14 d14 m15 d15 m16 d16 m17 d17 l p k nb cb nk ck ns cs (C ws) (F cO az) i
     t h (ws[i].n 0) _ (o b.2) x A b b cell z lay
    rw[w] at g;exact⟨q,a,j,m,AB g r⟩
  ·obtain⟨q,a,j,m,r⟩:=v (i:=i+1) (p:=t) (az:=az.set i (h==1)) (by omega) y (by rw[AU,h1]);have g:=Azv r0 r1 r2 r3 r4 r5 r6 m7 d7 (C ws) (F cW ws) m9 d9 m10 d10 m11 d11 m12 d12 m13 d13 m14 d14 m15 d15 m16 d16 m17 d17 l p k nb cb nk ck ns cs (C ws) (F cO az) i
    t h (ws[i].n 0) _ (o b.2) x b b cell z lay
   rw[w] at g;exact⟨q,a,j,m,AB g r⟩
theorem st3{m8 m11 nk ns:Nat}{d8 d11 ck cs:u}(hn:nb<=1000000)
  (a3:∀ (bs:List El) (x y r:Int) (i:Nat),C bs=nb->(∀ e∈bs,e.ok)->Sm x->Sm y->(r=0\/r=1)->i<nb->∃ W,RQ 17 [M [A D r0,A D r1,A D r2,A D r3,A D r4,A D r5,A D r6,E m7 d7,E m8 d8,E m9 d9,E m10 d10,E m11 d11,E m12 d12,E m13 d13,E m14 d14,E m15 d15,E m16 d16,E m17 d17],M [A D k,E nb (F cB bs),E nk ck,E ns cs,E na ca,A Bd 0],A D r,M [A D x,A D y],A D i] (I W)) :
  ∀ (d:Nat) {i:Nat} {p:Int} {bs:List El},i+d=nb->Sp l p->C bs=nb->(∀ e∈bs,e.ok) ->
  ∃ q a1,Sp l q/\C a1=nb/\(∀ e∈a1,e.ok) /\
   Aa (.loop AKm) (AKk r0 r1 r2 r3 r4 r5 r6 m7 d7 m8 d8 m9 d9 m10 d10 m11 d11 m12 d12 m13 d13 m14 d14 m15 d15 m16 d16 m17 d17 l p k nb (F cB bs) nk ck ns cs na ca i) xZ4 (AKk r0 r1 r2 r3 r4 r5 r6 m7 d7 m8 d8 m9 d9 m10 d10 m11 d11 m12 d12 m13 d13 m14 d14 m15 d15 m16 d16 m17 d17 l q k nb (F cB a1) nk ck ns cs na ca nb):=by
 intro d;induction d with
 | zero =>
  intro i p bs hi hp h1 h2;have e:i=nb:=by omega
  subst e;exact⟨p,bs,hp,h1,h2,f (AKx _ _ _ _ _ _ _ _ _ _ _ _ _ _ _ _ _ _ _ _ _ _ _ _ _ _ _ _ _ _ _ _ _ _ _ _ _ _ _ _ _ (As (by omega)))⟩
 | succ d ih =>
  intro i p bs hi hp h1 h2;have a4:i<nb:=by omega
  obtain⟨B,h,g1,b1,G⟩:=BO (a := -2800) (b:=2800) hp (by omega) (by omega) (by omega);obtain⟨H,j,g2,b2,J⟩:=BO (a := -2800) (b:=2800) g1 (by omega) (by omega) (by omega);obtain⟨K,m,g3,b3,L⟩:=BO (a := -500) (b:=500) g2 (by omega) (by omega) (by omega);obtain⟨N,s,g4,b4,P⟩:=BO (a := -500) (b:=500) g3 (by omega) (by omega) (by omega);obtain⟨Q,w,g5,b5,R⟩:=BE (n:=8) g4 (by omega) (by omega);obtain⟨v,z,g6,b6,S⟩:=BE (n:=5) g5 (by omega) (by omega);have T:O D (i+1)=((i+1:Nat):Int):=by rw[wqz];rfl
  have t:0<=(i:Int)/\(i:Int)<(nb:Int):=by omega
  have lay:∀ r:Int,Cg (F cB bs) (i*7) [A D 1,A D 0,A D r,A D h,A D j,A D m,A D s]=some (F cB (bs.set i ⟨Bw,[1,0,r,h,j,m,s],false⟩)):=fun r =>
   Xr (c:=cB) (k:=7) (es:=bs) (i:=i) (fun _=>rfl) (by omega) ⟨Bw,[1,0,r,h,j,m,s],false⟩
  have a5:∀ r:Int,(r=0\/r=1)->El.ok ⟨Bw,[1,0,r,h,j,m,s],false⟩:=by
   intro r hr x t;simp only[Aw,A3,or_false] at t;unfold Sm;omega
  obtain⟨q,X,Y,Z,k3,k4⟩:=ih (i:=i+1) (p:=v) (bs:=bs) (by omega) g6 h1 h2;have put:∀ r:Int,(r=0\/r=1)->_:=fun r hr=>ih (i:=i+1) (p:=v) (bs:=bs.set i ⟨Bw,[1,0,r,h,j,m,s],false⟩) (by omega) g6 (by rw[AU,h1]) (xS h2 (a5 r hr));cases U:(w==7) <;> cases V:decide (z<4)
  ·have g:=AKw r0 r1 r2 r3 r4 r5 r6 m7 d7 m8 d8 m9 d9 m10 d10 m11 d11 m12 d12 m13 d13 m14 d14 m15 d15 m16 d16 m17 d17 l p k nb (F cB bs) nk ck ns cs na ca i B h H j K m N s Q w v z (o t.2) U V G J L P R S;rw[T] at g;exact⟨q,X,Y,Z,k3,AB g k4⟩
  ·obtain⟨W,ho⟩:=a3 bs h j 0 i h1 h2 (by unfold Sm;omega) (by unfold Sm;omega) (by omega) a4;cases W
   ·obtain⟨q',a2,j1,j2,j3,j4⟩:=put 0 (by omega);have g:=AKv r0 r1 r2 r3 r4 r5 r6 m7 d7 m8 d8 m9 d9 m10 d10 m11 d11 m12 d12 m13 d13 m14 d14 m15 d15 m16 d16 m17 d17 l p k nb (F cB bs) nk ck ns cs na ca i B h H j K m N s Q w v z _ false (o t.2) U V rfl t G J L P R S ho (lay 0);rw[T] at g;exact⟨q',a2,j1,j2,j3,AB g j4⟩
   ·have g:=AKu r0 r1 r2 r3 r4 r5 r6 m7 d7 m8 d8 m9 d9 m10 d10 m11 d11 m12 d12 m13 d13 m14 d14 m15 d15 m16 d16 m17 d17 l p k nb (F cB bs) nk ck ns cs na ca i B h H j K m N s Q w v z true (o t.2) U V rfl G J L P R S ho;rw[T] at g;exact⟨q,X,Y,Z,k3,AB g k4⟩
  ·have g:=AKt r0 r1 r2 r3 r4 r5 r6 m7 d7 m8 d8 m9 d9 m10 d10 m11 d11 m12 d12 m13 d13 m14 d14 m15 d15 m16 d16 m17 d17 l p k nb (F cB bs) nk ck ns cs na ca i B h H j K m N s Q w v z (o t.2) U V G J L P R S;rw[T] at g;exact⟨q,X,Y,Z,k3,AB g k4⟩
  ·obtain⟨W,ho⟩:=a3 bs h j 1 i h1 h2 (by unfold Sm;omega) (by unfold Sm;omega) (by omega) a4;cases W
   ·obtain⟨q',a2,j1,j2,j3,j4⟩:=put 1 (by omega);have g:=AKs r0 r1 r2 r3 r4 r5 r6 m7 d7 m8 d8 m9 d9 m10 d10 m11 d11 m12 d12 m13 d13 m14 d14 m15 d15 m16 d16 m17 d17 l p k nb (F cB bs) nk ck ns cs na ca i B h H j K m N s Q w v z _ false (o t.2) U V rfl t G J L P R S ho (lay 1);rw[T] at g;exact⟨q',a2,j1,j2,j3,AB g j4⟩
   ·have g:=AKr r0 r1 r2 r3 r4 r5 r6 m7 d7 m8 d8 m9 d9 m10 d10 m11 d11 m12 d12 m13 d13 m14 d14 m15 d15 m16 d16 m17 d17 l p k nb (F cB bs) nk ck ns cs na ca i B h H j K m N s Q w v z true (o t.2) U V rfl G J L P R S ho;rw[T] at g;exact⟨q,X,Y,Z,k3,AB g k4⟩
end
structure St where
 k:Int
 bs:List El
 ks:List Int
 ss:List Int
 az:List Bool
 co:Int
def St.av(s:St)(nb a b:Nat):AV := M [A D s.k,E nb (F cB s.bs),E a (F cI s.ks),E a (F cI s.ss),E b (F cO s.az),A Bd s.co]
def St.cs(s:St):u:=[A D s.k,E (C s.bs) (F cB s.bs),E (C s.ks) (F cI s.ks),E (C s.ss) (F cI s.ss),E (C s.az) (F cO s.az),A Bd s.co]
def St.ok(s:St)(nb a b:Nat):Prop:=(0<=s.k/\s.k<20)/\C s.bs=nb/\C s.ks=a/\C s.ss=a/\C s.az=b/\(∀ e∈s.bs,e.ok)/\(∀ x∈s.ks,Sm x)/\(∀ x∈s.ss,Sm x)/\(0<=s.co/\s.co<4294967296)
def St.sh(s:St)(nb a b:Nat):Prop:=C s.bs=nb/\C s.ks=a/\C s.ss=a/\C s.az=b
theorem St.ok.sh{s:St}{nb a b:Nat}(h:s.ok nb a b):s.sh nb a b:=⟨h.2.1,h.2.2.1,h.2.2.2.1,h.2.2.2.2.1⟩
theorem AKq{l:LI}(hl:C l<4611686018427387904){r0 r1 r2 r3 r4 r5 r6:Int}{fs ws:List El}{m7 m9 m10 m12 m13 m14 m15 m16 m17:Nat}{d7 d9 d10 d12 d13 d14 d15 d16 d17:u}
  (hr:0<=r1/\r1<=1000000) (hf:∀ e∈fs,pA e) (H:C fs<=1000000) (J:C ws<=1000000)
  (K:∀ (s:St) (x y r:Int) (i:Nat),s.ok r1.toNat (C fs) (C ws)->s.co=0->Sm x->Sm y->(r=0\/r=1)->i<r1.toNat->∃ L,RQ 17 [M [A D r0,A D r1,A D r2,A D r3,A D r4,A D r5,A D r6,E m7 d7,E (C ws) (F cW ws),E m9 d9,E m10 d10,E (C fs) (F cF fs),E m12 d12,E m13 d13,E m14 d14,E m15 d15,E m16 d16,E m17 d17],s.av r1.toNat (C fs) (C ws),A D r,M [A D x,A D y],A D i] (I L)) :
  ∃ s:St,s.ok r1.toNat (C fs) (C ws)/\RQ 11 [M [A D r0,A D r1,A D r2,A D r3,A D r4,A D r5,A D r6,E m7 d7,E (C ws) (F cW ws),E m9 d9,E m10 d10,E (C fs) (F cF fs),E m12 d12,E m13 d13,E m14 d14,E m15 d15,E m16 d16,E m17 d17],E (C l) (li l)] (s.av r1.toNat (C fs) (C ws)):=by
 obtain⟨d,a,N,f,P⟩:=BE (l:=l) (p:=0) (n:=20) ⟨hl,by omega,by omega⟩ (by omega) (by omega);have z0:Sm 0:=⟨by decide,by decide⟩;have rep:∀ n,∀ x∈BP n (0:Int),Sm x:=fun n x c=>by rw[A8p c];exact z0
 have Q:El.ok ⟨Bw,[0,0,0,0,0,0,0],false⟩:=by
  intro x c;simp only[Aw,A3,or_false] at c;unfold Sm;omega
 obtain⟨g,ks,ss,R,j,m,o,q,t⟩:=S5 (r0:=r0) (r1:=r1) (r2:=r2) (r3:=r3) (r4:=r4) (r5:=r5) (r6:=r6) (k:=a) (m7:=m7) (m8:=C ws) (m9:=m9) (m10:=m10) (m12:=m12) (m13:=m13) (m14:=m14) (m15:=m15) (m16:=m16) (m17:=m17) (nb:=r1.toNat) (na:=C ws)
  (d7:=d7) (d8:=F cW ws) (d9:=d9) (d10:=d10) (d12:=d12) (d13:=d13) (d14:=d14) (d15:=d15) (d16:=d16) (d17:=d17) (cb:=F cB (BP r1.toNat ⟨Bw,[0,0,0,0,0,0,0],false⟩)) (ca:=F cO (BP (C ws) false))
  hf H (C fs) (i:=0) (p:=d) (ks:=BP (C fs) 0) (ss:=BP (C fs) 0) (by omega) N Abx Abx (rep _) (rep _)
 obtain⟨v,az,S,z,B⟩:=IW (r0:=r0) (r1:=r1) (r2:=r2) (r3:=r3) (r4:=r4) (r5:=r5) (r6:=r6) (k:=a) (m7:=m7) (m9:=m9) (m10:=m10) (m11:=C fs) (m12:=m12) (m13:=m13) (m14:=m14) (m15:=m15) (m16:=m16) (m17:=m17) (nb:=r1.toNat) (nk:=C fs) (ns:=C fs)
  (d7:=d7) (d9:=d9) (d10:=d10) (d11:=F cF fs) (d12:=d12) (d13:=d13) (d14:=d14) (d15:=d15) (d16:=d16) (d17:=d17) (cb:=F cB (BP r1.toNat ⟨Bw,[0,0,0,0,0,0,0],false⟩)) (ck:=F cI ks) (cs:=F cI ss)
  J (C ws) (i:=0) (p:=g) (az:=BP (C ws) false) (by omega) R Abx
 obtain⟨T,bs,U,V,W,G⟩:=st3 (r0:=r0) (r1:=r1) (r2:=r2) (r3:=r3) (r4:=r4) (r5:=r5) (r6:=r6) (k:=a) (m7:=m7) (m8:=C ws) (m9:=m9) (m10:=m10) (m11:=C fs) (m12:=m12) (m13:=m13) (m14:=m14) (m15:=m15) (m16:=m16) (m17:=m17) (nb:=r1.toNat) (nk:=C fs) (ns:=C fs) (na:=C ws)
  (d7:=d7) (d8:=F cW ws) (d9:=d9) (d10:=d10) (d11:=F cF fs) (d12:=d12) (d13:=d13) (d14:=d14) (d15:=d15) (d16:=d16) (d17:=d17) (ck:=F cI ks) (cs:=F cI ss) (ca:=F cO az)
  (by omega) (fun bs x y r i h1 h2 c X Y hi=>K ⟨a,bs,ks,ss,az,0⟩ x y r i ⟨f,h1,j,m,z,h2,o,q,⟨kK 0,(by decide:(0:Int)<4294967296)⟩⟩ rfl c X Y hi)
  r1.toNat (i:=0) (p:=v) (bs:=BP r1.toNat ⟨Bw,[0,0,0,0,0,0,0],false⟩) (by omega) S Abx (fun e Z=>by rw[A8p Z];exact Q)
 obtain⟨p5,b,g5,b5,q5⟩:=BE (n:=16) U (by omega) (by omega);have w:O Bd b=b:=by rw[RU];omega
 rw[<- AKl,<- AKl,<- AKl] at t;rw[<- AKl,<- AKl] at B;rw[<- AKl] at G;have h:=AKz r0 r1 r2 r3 r4 r5 r6 m7 d7 (C ws) (F cW ws) m9 d9 m10 d10 (C fs) (F cF fs) m12 d12 m13 d13 m14 d14 m15 d15 m16 d16 m17 d17 l _ _ _ d a g v T p5 b _ _ _ _ ⟨hr.1,by omega⟩ (by omega) (by omega) P t B G q5;rw[w] at h;exact⟨⟨a,bs,ks,ss,az,b⟩,⟨f,V,j,m,z,W,o,q,⟨(by omega:0<=b),(by omega:b<4294967296)⟩⟩,h⟩
def TV0:Bx:=[]
theorem KX:Be CQ TV0:=Be.nil _
def e(x y:Int):Bool:=decide (-1073741824<=x)&&decide (x<=1073741824)&&decide (-1073741824<=y)&&decide (y<=1073741824)
theorem CI{x y:Int}(h:e x y=true) : -1073741824<=x/\x<=1073741824 /\ -1073741824<=y/\y<=1073741824:=by
 simp[e] at h;omega
theorem Cz{x y:Int}(h : -1073741824<=x/\x<=1073741824 /\ -1073741824<=y/\y<=1073741824):e x y=true:=by
 simp[e];omega
def Xt(x y:Int):AV :=
 match decide (x>=(-1073741824)) with
 | true=>(match decide (x<=1073741824) with
 | true=>(match decide (y>=(-1073741824)) with
 | true=>(I (G (y<=1073741824)))
 | false=>I false)
 | false=>I false)
 | false=>I false
theorem Azz(x y:Int)  : RQ 133 [M [A D x,A D y]] (Xt x y):=by
 unfold Xt;cases c1:(G (x>=(-1073741824)))
 ·exact ALa KX rfl [Y,Y,Y] (Fa c1 Dx Dx)
 ·cases c2:(G (x<=1073741824))
  ·exact ALa KX rfl [bT,Y,Y] (Fa c1 c2 Dx)
  ·cases c3:(G (y>=(-1073741824)))
   ·exact ALa KX rfl [bT,bT,Y] (Fa c1 c2 c3)
   ·exact ALa KX rfl [bT,bT,bT] (Fa c1 c2 c3)
theorem e133(x y:Int):Xt x y = I (e x y):=by
 unfold Xt e;repeat' split
 all_goals (simp_all <;> omega)
def ACs:u->Option (AV × List Prop)
 | [M [A D x,A D y]]=>some (I (e x y),[])
 | _=>none
def TV1:Bx:=(133,ACs)::TV0
theorem S6:Be CQ TV1:=Be.cons KX (by
 intro args r ps h a;unfold ACs at h;split at h
 ·cases h;exact e133 _ _ ▸ Azz _ _
 ·cases h)
section
variable(x y:Int)
def E9:Int × Int:=if e x y then (x,y) else (0,0)
def Xu:AV :=
 match e x y with
 | true=>(M [A D x,A D y])
 | false=>(M [A D 0,A D 0])
theorem A0a  : RQ 134 [M [A D x,A D y]] (Xu x y):=by
 unfold Xu;cases c1:(e x y)
 ·exact ALa S6 rfl [bT] (Bc (AKj c1))
 ·exact ALa S6 rfl [Y] (Bc (AKg c1))
theorem e134:Xu x y = M [A D (E9 x y).1,A D (E9 x y).2]:=by
 unfold Xu E9;cases h:e x y <;> rfl
end
def ACt:u->Option (AV × List Prop)
 | [M [A D x,A D y]]=>some (M [A D (E9 x y).1,A D (E9 x y).2],[])
 | _=>none
def TV2:Bx:=(134,ACt)::TV1
theorem NX:Be CQ TV2:=Be.cons S6 (by
 intro args r ps h a;unfold ACt at h;split at h
 ·cases h;exact e134 _ _ ▸ A0a _ _
 ·cases h)
section
variable(a b c d:Int)
def X:Int × Int:=if e a b&&e c d then E9 (a-c) (b-d) else (0,0)
def YU:AV :=
 match e a b with
 | true=>(match e c d with
 | true=>(M [A D ((E9 (O D (a-c)) (O D (b-d))).1),A D ((E9 (O D (a-c)) (O D (b-d))).2)])
 | false=>M [A D 0,A D 0])
 | false=>(M [A D 0,A D 0])
theorem Alz  : RQ 56 [M [A D a,A D b],M [A D c,A D d]] (YU a b c d):=by
 unfold YU;cases c1:(e a b)
 ·exact ALa NX rfl [bT,bT] (Gd (AKj c1) Cj)
 ·cases c2:(e c d)
  ·exact ALa NX rfl [Y,bT] (Gd (AKg c1) (AKj c2))
  ·exact ALa NX rfl [Y,Y] (Gd (AKg c1) (AKg c2))
theorem e56:YU a b c d = M [A D (X a b c d).1,A D (X a b c d).2]:=by
 unfold YU X;cases h1:e a b
 ·rfl
 ·cases h2:e c d
  ·rfl
  ·have f:=CI h1;have g:=CI h2;simp only[E8,if_true,A' (n:=a-c) (by omega) (by omega),A' (n:=b-d) (by omega) (by omega)]
end
def g56:u->Option (AV × List Prop)
 | [M [A D a,A D b],M [A D c,A D d]]=>some (M [A D (X a b c d).1,A D (X a b c d).2],[])
 | _=>none
def TV3:Bx:=(56,g56)::TV2
theorem NY:Be CQ TV3:=Be.cons NX (by
 intro args r ps h a;unfold g56 at h;split at h
 ·cases h;exact e56 _ _ _ _ ▸ Alz _ _ _ _
 ·cases h)
theorem Fc{x y p q:Int}(h1 : -p<=x)(h2:x<=p)(a : -q<=y)(b:y<=q) : -(p*q)<=x*y/\x*y<=p*q:=by
 have c:=FS (show 0<=p-x by omega) (show 0<=q-y by omega);have d:=FS (show 0<=p+x by omega) (show 0<=q+y by omega);have e:=FS (show 0<=p-x by omega) (show 0<=q+y by omega);have f:=FS (show 0<=p+x by omega) (show 0<=q-y by omega);constructor <;> grind
theorem Ep{x y:Int}(h1 : -1073741824<=x)(h2:x<=1073741824)(a : -1073741824<=y)(b:y<=1073741824) : -1152921504606846976<=x*y/\x*y<=1152921504606846976:=by
 have:=Fc h1 h2 a b;omega
section
variable(a b c d:Int)
def Bs:Int:=if e a b&&e c d then a*c+b*d else 0
def T7:AV :=
 match e a b with
 | true=>(match e c d with
 | true=>(A D (O D (O D (a*c)+O D (b*d))))
 | false=>A D 0)
 | false=>(A D 0)
theorem xT  : RQ 136 [M [A D a,A D b],M [A D c,A D d]] (T7 a b c d):=by
 unfold T7;cases c1:(e a b)
 ·exact ALa NY rfl [bT,bT] (Gd (AKj c1) Cj)
 ·cases c2:(e c d)
  ·exact ALa NY rfl [Y,bT] (Gd (AKg c1) (AKj c2))
  ·exact ALa NY rfl [Y,Y] (Gd (AKg c1) (AKg c2))
theorem e136:T7 a b c d = A D (Bs a b c d):=by
 unfold T7 Bs;cases h1:e a b
 ·rfl
 ·cases h2:e c d
  ·rfl
  ·have f:=CI h1;have g:=CI h2;have h:=Ep (x:=a) (y:=c) (by omega) (by omega) (by omega) (by omega);have i:=Ep (x:=b) (y:=d) (by omega) (by omega) (by omega) (by omega);simp only[E8,if_true,A' (n:=a*c) (by omega) (by omega),A' (n:=b*d) (by omega) (by omega),A' (n:=a*c+b*d) (by omega) (by omega)]
end
def ACu:u->Option (AV × List Prop)
 | [M [A D a,A D b],M [A D c,A D d]]=>some (A D (Bs a b c d),[])
 | _=>none
def TV4:Bx:=(136,ACu)::TV3
theorem NZ:Be CQ TV4:=Be.cons NY (by
 intro args r ps h a;unfold ACu at h;split at h
 ·cases h;exact e136 _ _ _ _ ▸ xT _ _ _ _
 ·cases h)
section
variable(a b c d:Int)
def Bq:Int:=if e a b&&e c d then a*d-b*c else 0
def YV:AV :=
 match e a b with
 | true=>(match e c d with
 | true=>(A D (O D ((O D (a*d))-(O D (b*c)))))
 | false=>A D 0)
 | false=>(A D 0)
theorem Ama  : RQ 55 [M [A D a,A D b],M [A D c,A D d]] (YV a b c d):=by
 unfold YV;cases c1:(e a b)
 ·exact ALa NZ rfl [bT,bT] (Gd (AKj c1) Cj)
 ·cases c2:(e c d)
  ·exact ALa NZ rfl [Y,bT] (Gd (AKg c1) (AKj c2))
  ·exact ALa NZ rfl [Y,Y] (Gd (AKg c1) (AKg c2))
theorem e55:YV a b c d = A D (Bq a b c d):=by
 unfold YV Bq;cases h1:e a b
 ·rfl
 ·cases h2:e c d
  ·rfl
  ·have f:=CI h1;have g:=CI h2;have h:=Ep (x:=a) (y:=d) (by omega) (by omega) (by omega) (by omega);have i:=Ep (x:=b) (y:=c) (by omega) (by omega) (by omega) (by omega);simp only[E8,if_true,A' (n:=a*d) (by omega) (by omega),A' (n:=b*c) (by omega) (by omega),A' (n:=a*d-b*c) (by omega) (by omega)]
end
def g55:u->Option (AV × List Prop)
 | [M [A D a,A D b],M [A D c,A D d]]=>some (A D (Bq a b c d),[])
 | _=>none
def TV5:Bx:=(55,g55)::TV4
theorem Ags:Be CQ TV5:=Be.cons NZ (by
 intro args r ps h a;unfold g55 at h;split at h
 ·cases h;exact e55 _ _ _ _ ▸ Ama _ _ _ _
 ·cases h)
def ACv:Bx:=TV5
theorem F3:Be CQ ACv:=Ags
def YW:ICode:=Ca Agb 92 244
section
variable(n r b:Int)
def M5:H:=vi n::V 2 (vi r::vi b::V 17 [])
theorem A0b(c1:G (b>0)=true)(c2:G (O D ((AT (Co .i64) r ||| AT (Co .i64) b).toNat)<=O D (Dt n (O D ((AT (Co .i64) r ||| AT (Co .i64) b).toNat))))=true)(a:¬ (O D ((AT (Co .i64) r ||| AT (Co .i64) b).toNat))=0):Aa YW (M5 n r b) .norm (M5 n (O D ((AT (Co .i64) r ||| AT (Co .i64) b).toNat)) (BA b (2^(min (J 1) (Co .i64))))):=Cs F3 300 [bT,bT] T0 (Fk c1 a c2 (show ¬ (1:Int)<0 from (by decide))) (by kernel_rfl)
theorem A0c(c1:G (b>0)=true)(c2:G (O D ((AT (Co .i64) r ||| AT (Co .i64) b).toNat)<=O D (Dt n (O D ((AT (Co .i64) r ||| AT (Co .i64) b).toNat))))=false)(a:¬ (O D ((AT (Co .i64) r ||| AT (Co .i64) b).toNat))=0):Aa YW (M5 n r b) .norm (M5 n r (BA b (2^(min (J 1) (Co .i64))))):=Cs F3 300 [bT,Y] T0 (Fk c1 a c2 (show ¬ (1:Int)<0 from (by decide))) (by kernel_rfl)
theorem A0d(c1:G (b>0)=false):Aa YW (M5 n r b) xZ0 (M5 n r b):=Cs F3 300 [Y] T0 (Bc c1) (by kernel_rfl)
end
def Er(n:Nat):Nat->Nat->Nat
 | 0,r=>r
 | k+1,r=>Er n k (if r+2^k<=n / (r+2^k) then r+2^k else r)
def EY(n:Int):Int:=if n<=0 then 0 else Er n.toNat 32 0
def bk:Nat->Int
 | 0=>0
 | k+1=>((2^k:Nat):Int)
theorem A9n(k q:Nat)(h:2^(k+1)*q+2^k<9223372036854775808) :
  O D ((AT (Co .i64) ((2^(k+1)*q:Nat):Int) ||| AT (Co .i64) ((2^k:Nat):Int)).toNat)=((2^(k+1)*q+2^k:Nat):Int):=by
 show O D ((AT 64 ((2^(k+1)*q:Nat):Int) ||| AT 64 ((2^k:Nat):Int)).toNat)=_;have a:2^k<2^(k+1):=Nat.pow_lt_pow_right (by omega) (by omega);rw[BitVec.toNat_or,KE,KE,MI,MI,Io (by omega),Io (by omega),<- Nat.two_pow_add_eq_or_of_lt a];exact A' (by omega) (by omega)
theorem xU(k:Nat):BA ((2^k:Nat):Int) (2^(min (J 1) (Co .i64)))=bk k:=by
 show BA ((2^k:Nat):Int) 2=bk k;rw[Gh _ (by omega)];cases k with
 | zero=>rfl
 | succ k=>show ((2^(k+1):Nat):Int) / 2=((2^k:Nat):Int);rw[Ta];omega
theorem A0e(n X:Nat)(hn:n<9223372036854775808):O D (Dt (n:Int) (X:Int))=((n / X:Nat):Int):=by
 rw[Ko (by omega),<- Int.natCast_ediv];have:=Nat.div_le_self n X;generalize n / X=d at *
 exact A' (by omega) (by omega)
theorem Arr(n:Nat)(hn:n<9223372036854775808):∀ (k q:Nat),k<=32->2^k*q+2^k<=4294967296->Aa (.loop YW) (M5 n ((2^k*q:Nat)) (bk k)) xZ0 (M5 n (Er n k (2^k*q):Nat) 0):=by
 intro k;induction k with
 | zero =>
  intro q _ _;refine f (A0d _ _ _ ?_);rfl
 | succ k d =>
  intro q m p;have j:0<2^k:=Nat.two_pow_pos k;have b:2^(k+1)*q=2^k*(2*q):=by rw[Ta,Nat.mul_assoc]
  have c:2^(k+1)*q+2^k=2^k*(2*q+1):=by rw[b,Nat.mul_add,L3]
  have r:2^(k+1)=2^k+2^k:=by rw[Ta];omega
  have a:=A9n k q (by omega);have hb:decide (((2^k:Nat):Int)>0)=true:=o (Int.natCast_pos.2 j);have g:0<2^(k+1)*q+2^k:=by omega
  have l:Er n (k+1) (2^(k+1)*q)=Er n k (if 2^(k+1)*q+2^k<=n / (2^(k+1)*q+2^k) then 2^(k+1)*q+2^k else 2^(k+1)*q):=rfl;rw[l];have i:=A0e n (2^(k+1)*q+2^k) hn;by_cases hc:2^(k+1)*q+2^k<=n / (2^(k+1)*q+2^k)
  ·have h1:=A0b n ((2^(k+1)*q:Nat)) ((2^k:Nat)) hb (by rw[a,i];exact o (Avj.2 hc)) (by rw[a];exact fun e=>AHb g (Amb e));rw[a,xU,c] at h1;refine AB h1 ?_;rw[Ae hc,c];exact d (2*q+1) (by omega) (by rw[<- c];omega)
  ·have h1:=A0c n ((2^(k+1)*q:Nat)) ((2^k:Nat)) hb (by rw[a,i];exact As (fun h=>hc (Avj.1 h))) (by rw[a];exact fun e=>AHb g (Amb e));rw[xU] at h1;refine AB h1 ?_;rw[Al hc,b];exact d (2*q) (by omega) (by rw[<- b];omega)
theorem xV(n:Int)(h:decide (n<=0)=true):RQ 224 [A D n] (A D 0):=k (ps:=[G (n<=0)=true]) F3 rfl 300 rfl [bT] (by kernel_rfl) ⟨h,trivial⟩
theorem pH(n:Int)(h:decide (n<=0)=false)(hn:n<=9223372036854775807):RQ 224 [A D n] (A D (Er n.toNat 32 0)):=by
 have b:0<n:=by simpa using h
 have a:=Arr n.toNat (by omega) 32 0 (Ay _) (by decide);have hl:Aa (.loop YW) (M5 n 0 2147483648) xZ0 (M5 n (Er n.toNat 32 0) 0):=by
  have e:(n.toNat:Int)=n:=by omega
  rw[e] at a;exact a
 exact K4 Agb (vi n::V 1 (vi (Er n.toNat 32 0:Int)::vi (Er n.toNat 32 0:Int)::vi 0::V 16 (vi (Er n.toNat 32 0:Int)::[]))) (N (Da (t:=(vi n::V 1 (vi 0::V 19 []))) (ex := .norm) (ps:=[]) F3 300 [] [0,2] (by kernel_rfl) trivial)
  (N (Da (t:=(vi n::V 1 (vi 0::V 3 (vi n::Ab (I (G (n<=0)))::V 14 [])))) (ex := .norm) (ps:=[G (n<=0)=false]) F3 300 [Y] [0,2,6,7] (by kernel_rfl) ⟨h,trivial⟩)
  (N (Da (t:=(vi n::V 1 (vi 0::vi 0::V 2 (vi n::Ab (I (G (n<=0)))::V 14 [])))) (ex := .norm) (ps:=[]) F3 300 [] [0,2,3,6,7] (by kernel_rfl) trivial)
  (N (N (Da (t:=(vi n::V 2 (vi 0::vi 2147483648::V 17 []))) (ex := .norm) (ps:=[]) F3 300 [] T0 (by kernel_rfl) trivial)
  (A0 hl))
  (Da (t:=(vi n::V 1 (vi (Er n.toNat 32 0:Int)::vi (Er n.toNat 32 0:Int)::vi 0::V 16 (vi (Er n.toNat 32 0:Int)::[])))) (ex := .ret) (ps:=[]) F3 300 [] [0,2,3,4,21] (by kernel_rfl) trivial)))))
theorem xW(n:Int)(hn:n<=9223372036854775807):RQ 224 [A D n] (A D (EY n)):=by
 unfold EY;cases h:decide (n<=0)
 ·rw[Al (by simpa using h)];exact pH n h hn
 ·rw[Ae (by simpa using h)];exact xV n h
def ACw:u->Option (AV × List Prop)
 | [A D n]=>some (A D (EY n),[n<=9223372036854775807])
 | _=>none
def TL1:Bx:=(224,ACw)::ACv
theorem Agt:Be CQ TL1:=Be.cons F3 (by
 intro args r ps h a;unfold ACw at h;split at h
 ·cases h;exact xW _ a.1
 ·cases h)
def A0f:Bx:=TL1
theorem CU:Be CQ A0f:=Agt
end
end Go.Proofs.YtenfgdobfjofkaaGreat
