/- Texts of the proof of EntryWithin: part 5 of 13. -/
import Derived.Test.YtajompaehjkgkaaGreatProg
import Derived.KernelRfl
import Derived.Test.YtajompaehjkgkaaGreatEwn4
namespace Go.Proofs.YtajompaehjkgkaaGreat
open Go.Ai
set_option maxRecDepth 100000
open Go.Ai.AV renaming sl->P
open Go.Proofs.Tryz renaming f9->Zi,prog->AC
noncomputable section
def a(x:Fx)(n p:Nat):ICode:=cP AC x n p
def Yx9:Fx:=i Zi 1 31 [.tmp 2] [] []
def Yx18:Fx:=i Tryz.f18 1 55 [.tmp 2] [(1,[4,9,15,21,26,28,33,36,42,46,50])] []
def sB:Fx:=i Tryz.f19 2 87 [.tmp 4] [(2,[9,18,23,25,30,49,77]),(3,[11,16,35,37,42,51,58,65,79])] []
def Yx20:Fx:=i Tryz.f20 1 11 [.cell 2 7 false] [(1,[3,6,8])] []
def AGk:Fx:=i Tryz.f21 1 7 [.tmp 2] [] []
def Yx25:Fx:=i Tryz.f25 2 22 [.cell 4 2 false,.tmp 5] [] []
def Z4:Fx:=i Tryz.f27 2 60 [.tmp 4] [(2,[10,14,18,20,32,40,42,43,45,46]),(3,[34,36])] []
def AGl:Fx:=i Tryz.f33 2 16 [.tmp 4] [(2,[5,12]),(3,[7,10])] []
def Yx36:Fx:=i Tryz.f36 0 118 [.tmp 0] [] []
def Z5:Fx:=i Tryz.f37 1 78 [.tmp 2] [(78,[73])] []
def Ayu:Fx:=i Tryz.f38 1 20 [.cell 2 7 false,.tmp 3,.tmp 4] [] []
def Yx40:Fx:=i Tryz.f40 1 16 [.tmp 2,.tmp 3] [] []
def AGm:Fx:=i Tryz.f42 1 15 [.tmp 2,.tmp 3] [] []
def Aja:Fx:=i Tryz.f43 1 40 [.tmp 2,.tmp 3] [] []
def Ajb:Fx:=i Tryz.f46 1 35 [.tmp 2] [(1000,[2,4,26,34]),(1002,[33])] []
def Yx47:Fx:=i Tryz.f47 1 21 [.tmp 2] [(1000,[2,3,11]),(1001,[19]),(1002,[18,20])] []
def Yx48:Fx:=i Tryz.f48 3 12 [.tmp 6] [(1000,[6]),(1002,[11])] []
def Yx49:Fx:=i Tryz.f49 1 19 [.cell 2 2 false] [] []
def Ajc:Fx:=i Tryz.f51 1 29 [.tmp 2] [(1,[6])] []
def Yx52:Fx:=i Tryz.f52 1 12 [.tmp 2] [] []
def Ayv:Fx:=i Tryz.f53 1 20 [.tmp 2] [] []
def AGn:Fx:=i Tryz.f55 2 26 [.tmp 4] [(2,[6,11,14]),(3,[8,18,21])] []
def Ayw:Fx:=i Tryz.f56 4 29 [.tmp 8,.tmp 9] [(1000,[8])] []
def AGo:Fx:=i Tryz.f57 1 13 [.cell 2 7 false] [(1,[3,6,9])] []
def Ajd:Fx:=i Tryz.f60 3 29 [.tmp 6] [(1000,[6])] [(28,.cao 109 7 (.c (P 0 [])) [19,20,21,24,27])]
def Yx62:Fx:=i Tryz.f62 2 13 [.tmp 4] [(3,[6,8])] []
def AGp:Fx:=i Tryz.f63 3 17 [.tmp 6] [] []
def Yx64:Fx:=i Tryz.f64 1 17 [.tmp 2] [(1,[3,7,12])] []
def Ayx:Fx:=i Tryz.f65 2 32 [.tmp 4] [(3,[20,16])] []
def Ayy:Fx:=i Tryz.f66 1 28 [.tmp 2] [(4,[13,18,25]),(1000,[2,4,27])] []
def gP:Fx:=i Tryz.f67 1 29 [.tmp 2] [(1000,[2,4,19,28]),(1002,[12,22])] []
def Ayz:Fx:=i Tryz.f68 2 37 [.tmp 4] [] []
def Aza:Fx:=i Tryz.f69 2 25 [.tmp 4] [(2,[8,10,15,19,21])] []
def Aje:Fx:=i Tryz.f70 2 22 [.tmp 4] [(1000,[4]),(1002,[21])] []
def Azb:Fx:=i Tryz.f71 2 19 [.tmp 4] [(2,[5,14]),(3,[7,12])] []
def Ajf:Fx:=i Tryz.f72 1 32 [.cell 2 7 false] [(1,[4,6,11,13,20,22,26,29])] []
def Z6:Fx:=i Tryz.f73 1 19 [.tmp 2] [(1000,[2]),(1002,[18])] []
def gQ:Fx:=i Tryz.f74 2 36 [.tmp 4] [(2,[5,13,20,28]),(3,[7,11,22,26])] []
def Yx75:Fx:=i Tryz.f75 1 11 [.cell 2 7 false] [(1,[3,6,8])] []
def XI:Fx:=i Tryz.f76 2 45 [.tmp 4] [(2,[10,15,20,25,27,34])] []
def Yx77:Fx:=i Tryz.f77 2 36 [.cell 4 2 false] [(2,[8,12])] []
def Ajg:Fx:=i Tryz.f79 1 12 [.tmp 2] [(1,[4,10])] []
def Azc:Fx:=i Tryz.f80 3 37 [.cell 6 2 false] [] []
def Yx81:Fx:=i Tryz.f81 1 19 [.cell 2 7 false] [(1,[3,5,8,12])] []
def Ajh:Fx:=i Tryz.f82 1 21 [.cell 2 7 false] [(1,[7,9,17,19])] []
def sC:Fx:=i Tryz.f83 2 32 [.tmp 4] [(2,[20]),(3,[23])] []
def Azd:Fx:=i Tryz.f84 2 51 [.cell 4 2 false] [(50,[4]),(2,[17,44]),(1000,[5,36,46]),(1002,[40]),(1003,[50])] [(50,.cln 98 [45,49] [4])]
def Aji:Fx:=i Tryz.f86 1 34 [.tmp 2] [(1000,[2,4,28]),(1001,[32]),(1002,[31,33])] []
def Yx87:Fx:=i Tryz.f87 2 9 [.cell 4 3 false] [] []
def sD:Fx:=i Tryz.f88 1 44 [.tmp 2] [] []
def Aze:Fx:=i Tryz.f89 1 45 [.cell 2 7 false,.tmp 3] [(8,[36,37])] []
def Ajj:Fx:=i Tryz.f90 1 46 [.cell 2 7 false,.tmp 3] [(1000,[4,5,15,23]),(1001,[32,33]),(1002,[22,30])] []
def Yx91:Fx:=i Tryz.f91 1 33 [.tmp 2] [] []
def sE:Fx:=i Tryz.f92 1 54 [.tmp 2] [] []
def Ajk:Fx:=i Tryz.f93 2 26 [.tmp 4] [(3,[19,21])] []
def AGq:Fx:=i Tryz.f94 1 6 [.cell 2 3 false] [] []
def Ajl:Fx:=i Tryz.f95 2 42 [.cell 4 2 false] [(2,[7,14,19,30]),(3,[10,16,36])] []
def AGr:Fx:=i Tryz.f96 2 18 [.cell 4 2 false] [(2,[5,10]),(3,[7,13])] []
def AGs:Fx:=i Tryz.f97 1 8 [.cell 2 2 false] [(1,[3,5])] []
def Yx98:Fx:=i Tryz.f98 2 16 [.cell 4 2 false] [(15,[4]),(5,[10]),(1000,[5,14]),(1002,[7]),(1003,[15])] [(15,.bdo 13 14 [4])]
def Azf:Fx:=i Tryz.f99 1 22 [.tmp 2] [(1000,[2]),(1002,[21])] [(21,.apd true (.c (.nil)) 20 1 35184372088832)]
def AHx:Fx:=i Tryz.f100 2 16 [.tmp 4,.tmp 5] [(1000,[4])] []
def AHy:Fx:=i Tryz.f101 1 16 [.tmp 2] [] []
def Aab:Fx:=i Tryz.f102 1 25 [.tmp 2] [] []
def Z7:Fx:=i Tryz.f103 2 39 [.tmp 4] [] []
def mB:Fx:=i Tryz.f104 2 67 [.cell 4 2 false] [(9,[44,48,53,54,62]),(1000,[9]),(1001,[65])] []
def mC:Fx:=i Tryz.f105 6 69 [.tmp 12,.tmp 13] [(14,[36]),(1000,[12,43,16,65]),(1002,[32,50,67])] [(51,.exo 43)]
def Azg:Fx:=i Tryz.f106 1 9 [.cell 2 3 false] [(1,[3,6])] []
def mD:Fx:=i Tryz.f108 1 33 [.tmp 2] [(4,[23,24,27]),(1000,[2,4,19,32]),(1002,[12,22])] []
def mE:Fx:=i Tryz.f109 6 51 [.tmp 12] [(1000,[12,18,23,38]),(1002,[31])] [(44,.cao 109 7 38 [39,40,41,42,43]),(50,.cao 109 7 44 [45,46,47,48,49])]
def Aac:Fx:=i Tryz.f110 2 42 [.tmp 4] [(3,[19,21])] []
def AHz:Fx:=i Tryz.f111 2 24 [.cell 4 2 false] [] []
def mF:Fx:=i Tryz.f112 2 94 [.cell 4 2 false] [(9,[60,64,70,78,80,87]),(1000,[9]),(1001,[92])] []
def AIa:Fx:=i Tryz.f113 1 14 [.cell 2 2 false] [] [(12,.apd false (.c (.nil)) 11 1 35184372088832)]
def NA:Fx:=i Tryz.f114 1 23 [.tmp 2] [(1000,[2]),(1002,[22])] []
def mG:Fx:=i Tryz.f115 1 32 [.tmp 2] [(3,[8,13,19,21,23,29]),(1000,[2,3,31]),(1002,[7])] [(9,.brw 157 8 3)]
def Aad:Fx:=i Tryz.f116 1 23 [.tmp 2] [(1000,[2,3,11]),(1001,[21]),(1002,[20,22])] []
def Aae:Fx:=i Tryz.f117 1 23 [.tmp 2] [(3,[13,20]),(1000,[2,3,22])] []
def mH:Fx:=i Tryz.f118 2 99 [.tmp 4] [(5,[25,30,31,34,57,62,67,69,71,75,79,81,83,94]),(1000,[4,5,98]),(1001,[96]),(1002,[16,97])] []
def mI:Fx:=i Tryz.f119 2 80 [.tmp 4] [(7,[51]),(1000,[4,10,72]),(1001,[76]),(1002,[75])] []
def mJ:Fx:=i Tryz.f120 1 19 [.tmp 2] [(1000,[2]),(1002,[17])] []
def Azh:Fx:=i Tryz.f121 2 32 [.cell 4 3 false] [(2,[7,12,15]),(3,[9,19,22])] []
def Aaf:Fx:=i Tryz.f122 1 23 [.tmp 2] [(1000,[2,3,11]),(1001,[21]),(1002,[20,22])] []
def Z8:Fx:=i Tryz.f123 2 103 [.tmp 4] [(8,[49,54,56,58,62,63,66]),(1000,[4,8,12,93]),(1001,[97,99]),(1002,[96,102])] []
def Z9:Fx:=i Tryz.f124 2 61 [.tmp 4] [(2,[12,24,26,46]),(3,[20,28,33,35,40,48])] []
def Azi:Fx:=i Tryz.f125 1 9 [.tmp 2] [(1,[3,5])] []
def AIb:Fx:=i Tryz.f126 2 23 [.cell 4 2 false] [(2,[6,9,12,16,18])] []
def AIc:Fx:=i Tryz.f127 2 25 [.cell 4 2 false] [] []
def NB:Fx:=i Tryz.f128 2 104 [.cell 4 2 false] [(2,[13,91,95]),(1000,[6,66]),(1001,[93]),(1002,[72])] []
def Azj:Fx:=i Tryz.f129 2 9 [.cell 4 2 false] [] []
def mK:Fx:=i Tryz.f130 2 39 [.cell 4 3 false] [(2,[8,17])] []
def AId:Fx:=i Tryz.f131 1 15 [.cell 2 2 false] [] [(13,.apd false (.c (.nil)) 12 1 35184372088832)]
def AIe:Fx:=i Tryz.f132 1 19 [.cell 2 2 false] [] []
def Azk:Fx:=i Tryz.f133 2 29 [.cell 4 3 false] [(2,[6,11,14]),(3,[8,18,21])] []
def mL:Fx:=i Tryz.f134 2 41 [.tmp 4] [] []
def mM:Fx:=i Tryz.f135 2 20 [.tmp 4] [(1000,[4]),(1002,[19])] []
def Azl:Fx:=i Tryz.f136 3 17 [.tmp 6] [] []
def Aag:Fx:=i Tryz.f137 1 19 [.cell 2 2 false] [] []
def Azm:Fx:=i Tryz.f138 2 29 [.cell 4 2 false,.cell 5 2 false] [(2,[9,18,25]),(3,[12,20])] []
def RD:Fx:=i Tryz.f139 1 87 [.cell 2 7 false,.tmp 3] [(87,[67]),(12,[69]),(4,[73,77]),(1000,[4,34]),(1001,[48]),(1002,[37])] []
def ZA:Fx:=i Tryz.f140 1 65 [.tmp 2] [(1000,[2,7,60,64]),(1002,[63])] []
def P_:Fx:=i Tryz.f141 4 152 [.cell 8 7 false,.tmp 9] [(1000,[17,18,120,124]),(1001,[130,143]),(1002,[123,127])] []
def mN:Fx:=i Tryz.f142 1 51 [.cell 2 7 false,.tmp 3] [] []
def mO:Fx:=i Tryz.f143 1 31 [.tmp 2,.tmp 3] [(1,[5,11,21,27]),(1000,[3])] []
def Aah:Fx:=i Tryz.f144 2 54 [.tmp 4] [(1000,[4,5,46,53]),(1002,[50])] []
def Aai:Fx:=i Tryz.f145 2 42 [.tmp 4] [(1000,[4,5,34,41]),(1002,[38])] []
def mP:Fx:=i Tryz.f146 2 66 [.tmp 4] [(5,[28,32,48,54,57,64]),(1000,[4,5,65])] []
def AIf:Fx:=i Tryz.f147 1 29 [.tmp 2] [] []
def AIg:Fx:=i Tryz.f148 1 8 [.tmp 2,.tmp 3] [(1000,[2])] []
def AIh:Fx:=i Tryz.f149 2 52 [.tmp 4] [(7,[19,27,33,37,39,41,48]),(1000,[4,7]),(1001,[50]),(1002,[51])] []
def W7:List UInt8:=0::1::2::2::3::3::3::3::4::4::4::4::4::4::4::4::5::5::5::5::5::5::5::5::5::5::5::5::5::5::5::5::6::6::6::6::6::6::6::6::[]
def W8:List UInt8:=6::6::6::6::6::6::6::6::6::6::6::6::6::6::6::6::6::6::6::6::6::6::6::6::7::7::7::7::7::7::7::7::7::7::7::7::7::7::7::7::[]
def W9:List UInt8:=7::7::7::7::7::7::7::7::7::7::7::7::7::7::7::7::7::7::7::7::7::7::7::7::7::7::7::7::7::7::7::7::7::7::7::7::7::7::7::7::[]
def WA:List UInt8:=7::7::7::7::7::7::7::7::8::8::8::8::8::8::8::8::8::8::8::8::8::8::8::8::8::8::8::8::8::8::8::8::8::8::8::8::8::8::8::8::[]
def WB:List UInt8:=8::8::8::8::8::8::8::8::8::8::8::8::8::8::8::8::8::8::8::8::8::8::8::8::8::8::8::8::8::8::8::8::8::8::8::8::8::8::8::8::[]
def WC:List UInt8:=8::8::8::8::8::8::8::8::8::8::8::8::8::8::8::8::8::8::8::8::8::8::8::8::8::8::8::8::8::8::8::8::8::8::8::8::8::8::8::8::[]
def WD:List UInt8:=8::8::8::8::8::8::8::8::8::8::8::8::8::8::8::8::[]
def GF:ByteArray:=⟨(W7++W8++W9++WA++WB++WC++WD).toArray⟩
def AIi:Fx:=i Tryz.f150 1 19 [.tmp 2] [] []
def mQ:Fx:=i Tryz.f151 2 41 [.tmp 4] [] []
def mR:Fx:=i Tryz.f152 2 29 [.cell 4 2 false] [] []
def Aaj:Fx:=i Tryz.f153 1 21 [.tmp 2] [(1000,[2,3,11]),(1001,[19]),(1002,[18,20])] []
def AIj:Fx:=i Tryz.f154 4 31 [.cell 8 2 false] [] []
def mS:Fx:=i Tryz.f155 1 20 [.tmp 2] [(1000,[2]),(1002,[18])] []
def WE:Fx:=i Tryz.f156 2 103 [.tmp 4] [(5,[21,35,41,43,48,50,52,56,82,86,90,99]),(7,[28,58,63,65,67,71,73,76]),(1000,[4,5,7]),(1001,[101]),(1002,[14,102])] []
def Aak:Fx:=i Tryz.f157 1 24 [.cell 2 2 false] [] []
def Azn:Fx:=i Tryz.f158 2 36 [.cell 4 2 false,.cell 5 2 false] [] []
def mT:Fx:=i Tryz.f159 2 42 [.cell 4 2 false] [(6,[13,22]),(5,[17])] []
def Azo:Fx:=i Tryz.f160 1 13 [.cell 2 2 false] [] [(11,.apd false (.c (.nil)) 10 1 35184372088832)]
def Azp:Fx:=i Tryz.f161 1 9 [.cell 2 2 false] [(1,[3,6])] []
def Aal:Fx:=i Tryz.f162 1 33 [.cell 2 3 false] [(1,[5,8]),(3,[13,18])] []
def ZB:Fx:=i Tryz.f163 2 103 [.cell 4 2 false] [(1000,[11,69]),(1001,[95,101]),(1002,[75])] []
def Aam:Fx:=i Tryz.f164 2 27 [.cell 4 2 false] [(2,[9]),(3,[12])] []
def OW:Fx:=i Tryz.f165 2 307 [.tmp 4,.tmp 5] [(6,[51,60]),(11,[109,114,123,127,131,136,172,177,210,214,222,228,233,237,244,250,262,266,276,282,285,289,294]),(13,[295,299]),(1000,[4,5,6,11,98,13]),(1001,[67,300,302]),(1002,[68,72,97,301])] [(94,.cln 84 [92,93] []),(95,.fdo 94),(106,.slo 98 105 1)]
def ZC:Fx:=i Tryz.f166 1 52 [.tmp 2,.tmp 3] [] []
def mU:Fx:=i Tryz.f167 1 18 [.tmp 2] [] []
def RE:Fx:=i Tryz.f168 1 133 [.tmp 2] [(3,[67,62,37,46,49,60,65,72,79,83,85,86,88,91,92,97,99,102,104,107,110,113,114,115,117,118,123,125,127,130]),(1000,[2,3,132]),(1002,[64])] [(62,.sub 60 3 none (some 61) 7),(67,.sub 65 3 (some 66) none 7),(68,.apb false 64 67 3 7),(69,.app true 62 3 68 7),(97,.cpo 3),(99,.cpo 3),(102,.cpo 3),(107,.cpo 3)]
def Azq:Fx:=i Tryz.f169 0 3 [.cell 0 3 false] [] []
def Aan:Fx:=i Tryz.f170 2 21 [.tmp 4] [] []
def Aao:Fx:=i Tryz.f171 2 12 [.tmp 4] [] []
def Aap:Fx:=i Tryz.f172 1 45 [.tmp 2,.tmp 3,.tmp 4] [] []
def Azr:Fx:=i Tryz.f173 1 19 [.cell 2 7 false] [(3,[7,11])] []
def mV:Fx:=i Tryz.f174 1 74 [.tmp 2,.tmp 3] [(6,[26,35]),(5,[28,29,40,44,59,61,63,65,68,71]),(7,[36,50]),(1000,[2,3,5,6,7,72,73]),(1002,[14])] [(14,.apd true (.c (.nil)) 13 2 1048576)]
def ZD:Fx:=i Tryz.f175 1 75 [.tmp 2] [(1000,[2]),(1002,[63,69])] [(63,.apd true (.c (.nil)) 62 7 1048576)]
def Aaq:Fx:=i Tryz.f176 4 30 [.cell 8 3 false] [(4,[14]),(6,[17])] []
def AIk:Fx:=i Tryz.f177 1 12 [.tmp 2] [] []
def mW:Fx:=i Tryz.f178 2 58 [.tmp 4] [(5,[43,49,51,56]),(1000,[4,5,57])] []
def Aar:Fx:=i Tryz.f179 2 44 [.tmp 4] [(5,[35,41]),(1000,[4,5,43])] []
def Qa:Fx:=i Tryz.f180 2 282 [.tmp 4,.tmp 5] [(9,[92,96,100,105,123,128,157,161,170,178,179,183,190,196,207,211,222,230,231,235,240,255,257,269,272]),(4,[241,245]),(5,[253,262,265,267,279]),(1000,[4,5,9,280,281]),(1002,[34,48,58])] [(34,.apd true (.c (.nil)) 33 1 35184372088832)]
def Azs:Fx:=i Tryz.f181 1 10 [.cell 2 2 false] [] []
def Aas:Fx:=i Tryz.f182 2 12 [.tmp 4] [] []
def Aat:Fx:=i Tryz.f183 1 24 [.tmp 2] [(1,[6])] []
def AIl:Fx:=i Tryz.f184 1 21 [.tmp 2] [(1000,[2])] []
def Azt:Fx:=i Tryz.f185 2 15 [.tmp 4] [] []
def Aau:Fx:=i Tryz.f186 1 14 [.tmp 2] [] []
def Aav:Fx:=i Tryz.f187 2 43 [.tmp 4,.tmp 5] [(6,[28,39]),(1000,[4,6,40])] []
def Azu:Fx:=i Tryz.f188 1 6 [.tmp 2] [] []
def Aaw:Fx:=i Tryz.f189 2 42 [.tmp 4] [(5,[25,27,32,33,39]),(1000,[4,5,41])] []
end
end Go.Proofs.YtajompaehjkgkaaGreat
namespace Go.Ai
open Go.RowKit
open List renaming all_eq_true->CG,getD_eq_getElem?_getD->Ad,getElem?_map->CC,length->F
open Nat renaming le_refl->A2,le_succ->ABg,zero_add->Cv
open Option renaming getD_some->H3,map_eq_some_iff->A0,map_some->AY
open Option.some renaming injEq->AS
open Prod.mk renaming injEq->E6
def IT(s a:Az):Prop:=F s=F a/\∀ t,AR s t = .dead\/AR s t=AR a t
theorem IT.refl(s:Az):IT s s:=⟨rfl,fun _ => .inr rfl⟩
theorem IT.trans{a b c:Az}(h:IT a b)(k:IT b c):IT a c:=by
 refine⟨h.1.trans k.1,fun t => ?_⟩;rcases h.2 t with h1 | h1
 ·exact .inl h1
 ·rcases k.2 t with d | d
  ·exact .inl (h1.trans d)
  ·exact .inr (h1.trans d)
theorem IT.get{s a:Az}(h:IT s a){t:Nat}{r:Reg}(hr:AR s t=r)(hd:r ≠ .dead):AR a t=r:=by
 rcases h.2 t with h1 | h1
 ·exact absurd (hr.symm.trans h1) hd
 ·rw[<- h1,hr]
theorem IT.av{s a:Az}(h:IT s a){o:Opd}{x:AV}(hx:o.av s=some x):o.av a=some x:=by
 cases o with
 | c y=>exact hx
 | t n =>
  simp only[Opd.av,Opd.reg] at hx |-;split at hx
  next y hy=>cases hx;rw[h.get hy (by nofun)]
  ·cases hx
theorem IT.avs{s a:Az}(h:IT s a):∀ {l:List Opd} {xs:List AV},avs s l=some xs->avs a l=some xs
 | [],xs,hx=>hx
 | o::l,xs,hx=>by
  simp only[Go.Ai.avs] at hx |-;cases h1:o.av s with
  | none=>rw[h1] at hx;cases hx
  | some x =>
   rw[h1] at hx;rw[h.av h1];cases h2:Go.Ai.avs s l with
   | none=>rw[h2] at hx;cases hx
   | some b =>
    rw[h2] at hx;rw[h.avs h2];exact hx
theorem IT.fill{s b:Az}(h:IT s b):∀ {ps:List (Nat × Nat × Opd)} {cs a:List AV},HD s cs ps=some a->HD b cs ps=some a
 | [],_,_,hx=>hx
 | (off,n,o)::ps,cs,a,hx=>by
  simp only[HD] at hx |-;cases h1:o.av s with
  | none=>rw[h1] at hx;cases hx
  | some x =>
   rw[h1] at hx;rw[h.av h1];dsimp only at hx |-;cases h2:HY x n with
   | none=>rw[h2] at hx;cases hx
   | some d =>
    rw[h2] at hx;dsimp only at hx |-;cases c:Di cs off d with
    | none=>rw[c] at hx;cases hx
    | some e =>
     rw[c] at hx;dsimp only at hx |-;exact h.fill hx
theorem IT.reg{s a:Az}(h:IT s a){o:Opd}{r:Reg}(hx:o.reg s=r)(hd:r ≠ .dead):o.reg a=r:=by
 cases o with
 | c y=>exact hx
 | t n=>exact h.get hx hd
theorem IT.bnd{s a:Az}(h:IT s a){o:Option Opd}{d n:Nat}(hx:Im s d o=some n):Im a d o=some n:=by
 cases o with
 | none=>exact hx
 | some o =>
  simp only[Im] at hx |-;split at hx
  next k i hi=>rw[h.av hi];exact hx
  ·cases hx
theorem IT.firm{s a:Az}(h:IT s a){l:List Nat}(b:(l.all fun t=>HX (AR s t))=true):(l.all fun t=>HX (AR a t))=true:=by
 rw[CG] at b |-;intro t c;have h1:=b t c;rw[h.get (r:=AR s t) rfl (by intro e;rw[e] at h1;cases h1)];exact h1
theorem Amg{j:C4}{s F:Az}(h:IT s F){k:K}{p:Reg × List (Nat × Reg)}(o:Cj j s k=some p):Cj j F k=some p:=by
 cases k <;> simp only[Cj] at o |-
 case mov x =>
  simp only[A0] at o |-;obtain⟨v,hv,e⟩:=o;exact⟨v,h.av hv,e⟩
 case pick c a b =>
  split at o
  next hc=>rw[h.av hc];simp only[A0] at o |-;obtain⟨v,hv,e⟩:=o;exact⟨v,h.av hv,e⟩
  next hc=>rw[h.av hc];simp only[A0] at o |-;obtain⟨v,hv,e⟩:=o;exact⟨v,h.av hv,e⟩
  ·cases o
 case bin op x y =>
  split at o
  next hx hy=>rw[h.av hx,h.av hy];exact o
  ·cases o
 case eqb neg x y =>
  split at o
  next hx hy=>rw[h.av hx,h.av hy];exact o
  ·cases o
 case un op x =>
  split at o
  next hx=>rw[h.av hx];exact o
  ·cases o
 case cv k x =>
  split at o
  next hx=>rw[h.av hx];exact o
  ·cases o
 case new z ks=>exact o
 case box x ks =>
  split at o
  next hx=>rw[h.av hx];exact o
  ·rename_i y P hx;rw[h.av hx];split at o
   next hd=>cases o;cases y <;> first | (cases hd;done) | simp only[Oo,if_true]
   ·cases o
  ·cases o
 case bld z ps =>
  simp only[A0] at o |-;obtain⟨v,hv,e⟩:=o;exact⟨v,h.fill hv,e⟩
 case bls n z ps =>
  simp only[A0] at o |-;obtain⟨v,hv,e⟩:=o;exact⟨v,h.fill hv,e⟩
 case adr x d off =>
  cases hr:AR s x <;> rw[hr] at o <;> first | (cases o;done) | (rw[h.get hr (by nofun)];exact o)
 case ld x d n one =>
  cases hr:AR s x with
  | box cs=>rw[hr] at o;rw[h.get hr (by nofun)];exact o
  | mem cs=>rw[hr] at o;rw[h.get hr (by nofun)];exact o
  | ptr r off =>
   rw[hr] at o;rw[h.get hr (by nofun)];dsimp only at o |-;split at o
   next hd=>rw[Ar hd];cases q:AR s d <;> rw[q] at o <;> first | (cases o;done) | (rw[h.get q (by nofun)];exact o)
   ·cases o
  | val x=>rw[hr] at o;cases o
  | own _ _ _=>rw[hr] at o;cases o
  | agn _ _ _ _=>rw[hr] at o;cases o
  | bxl _=>rw[hr] at o;cases o
  | dup d=>rw[hr] at o;cases o
  | sub _ _ _ _=>rw[hr] at o;cases o
  | dead=>rw[hr] at o;cases o
 case st x d n v =>
  split at o
  ·cases o
  ·rename_i a J;rw[h.av J];dsimp only at o |-;split at o
   ·cases o
   ·rename_i G Q;cases hr:AR s x with
    | box cs=>rw[hr] at o;rw[h.get hr (by nofun)];exact o
    | ptr r off =>
     rw[hr] at o;rw[h.get hr (by nofun)];dsimp only at o |-;split at o
     next hd=>rw[Ar hd];cases q:AR s d <;> rw[q] at o <;> first | (cases o;done) | (rw[h.get q (by nofun)];exact o)
     ·cases o
    | mem cs=>rw[hr] at o;cases o
    | val x=>rw[hr] at o;cases o
    | own _ _ _=>rw[hr] at o;cases o
    | agn _ _ _ _=>rw[hr] at o;cases o
    | bxl _=>rw[hr] at o;cases o
    | dup d=>rw[hr] at o;cases o
    | sub _ _ _ _=>rw[hr] at o;cases o
    | dead=>rw[hr] at o;cases o
 case fld x off n one =>
  split at o
  next hx=>rw[h.av hx];exact o
  ·cases o
 case ixa x i k =>
  split at o
  ·rename_i H I hi;rw[h.av hi];dsimp only at o |-;split at o
   next n cs hr=>rw[h.get hr (by nofun)];exact o
   ·cases o
  ·cases o
 case six x i =>
  split at o
  next hx hi=>rw[h.av hx,h.av hi];exact o
  ·cases o
 case ext x i =>
  split at o
  next hx=>rw[h.av hx];exact o
  ·cases o
 case len x =>
  split at o
  next hx=>rw[h.av hx];exact o
  next hx=>rw[h.av hx];exact o
  ·cases o
 case mx xs =>
  split at o
  next hx=>rw[h.avs hx];exact o
  ·cases o
 case mn xs =>
  split at o
  next hx=>rw[h.avs hx];exact o
  ·cases o
 case call f xs =>
  split at o
  next hx=>rw[h.avs hx];exact o
  ·cases o
 case clo f xs =>
  split at o
  next hx=>rw[h.avs hx];exact o
  ·cases o
 case brw f x d =>
  cases hr:AR s x <;> rw[hr] at o <;> first | (cases o;done) | skip
  rename_i r;rw[h.get hr (by nofun)];simp only at o |-;by_cases hd:r=d
  ·rw[Ar hd] at o |-;cases q:AR s d <;> rw[q] at o <;> first | (cases o;done) | skip
   rw[h.get q (by nofun)];exact o
  ·rw[Aw hd] at o;cases o
 case cpy x =>
  cases hr:AR s x <;> rw[hr] at o <;> first | (cases o;done) | (rw[h.get hr (by nofun)];exact o)
 case tra x =>
  cases hr:AR s x <;> rw[hr] at o <;> first | (cases o;done) | (rw[h.get hr (by nofun)];exact o)
 case frz x =>
  cases hr:AR s x <;> rw[hr] at o <;> first | (cases o;done) | (rw[h.get hr (by nofun)];exact o)
 case mks z n =>
  split at o
  next hx=>rw[h.av hx];exact o
  ·cases o
 case blo k n z ps =>
  simp only[A0] at o |-;obtain⟨v,hv,e⟩:=o;exact⟨v,h.fill hv,e⟩
 case apd ow x y k g =>
  split at o
  next hy=>rw[h.av hy];dsimp only;cases hr:x.reg s <;> rw[hr] at o <;> first | (cases o;done) | (rw[h.reg hr (by nofun)];exact o)
  ·rename_i m G hy;rw[h.av hy];dsimp only;split at o
   next u=>rw[Ar u];cases hr:x.reg s <;> rw[hr] at o <;> first | (cases o;done) | (rw[h.reg hr (by nofun)];exact o)
   ·cases o
  ·cases o
 case sli x lo hi mx k =>
  split at o
  ·rename_i hx;rw[h.av hx];dsimp only;split at o
   next w A C=>rw[h.bnd w,h.bnd A,h.bnd C];exact o
   ·cases o
  ·rename_i n cs hx;rw[h.av hx];dsimp only;split at o
   next m D l w A C=>rw[h.bnd w,h.bnd A,h.bnd C];exact o
   ·cases o
  ·cases o
 case ixo x d i k =>
  split at o
  ·rename_i H I hi;rw[h.av hi];dsimp only at o |-;split at o
   next n cs hr=>rw[h.get hr (by nofun)];exact o
   ·rename_i r hr;rw[h.get hr (by nofun)];dsimp only;split at o
    ·rename_i hd;rw[Ar hd];split at o
     next B n cs q=>rw[h.get q (by nofun)];exact o
     ·cases o
    ·cases o
   ·cases o
  ·cases o
 case lno x d =>
  split at o
  next hr=>rw[h.get hr (by nofun)];exact o
  next n cs hr=>rw[h.get hr (by nofun)];exact o
  ·rename_i r hr;rw[h.get hr (by nofun)];dsimp only;split at o
   ·rename_i hd;rw[Ar hd];split at o
    next B n cs q=>rw[h.get q (by nofun)];exact o
    ·cases o
   ·cases o
  ·cases o
 case nlo k=>exact o
 case bdo y x ls =>
  split at o
  ·rename_i b hb;rw[h.av hb];dsimp only at o |-;split at o
   ·rename_i k n cs hr;rw[h.get hr (by nofun)];dsimp only;split at o
    next u=>rw[Ar (h.firm u)];exact o
    ·cases o
   ·cases o
  ·cases o
 case cln f xs ls =>
  split at o
  ·rename_i vs E;rw[h.avs E];dsimp only;split at o
   next u=>rw[Ar (h.firm u)];exact o
   ·cases o
  ·cases o
 case stl x v =>
  split at o
  ·rename_i cs hr;rw[h.get hr (by nofun)];dsimp only;split at o
   next b k n R q=>rw[h.get q (by nofun)];exact o
   ·cases o
  ·cases o
 case fdo x =>
  split at o
  next b k n cs hr=>rw[h.get hr (by nofun)];exact o
  ·cases o
 case cpo x=>exact o
 case exo x =>
  split at o
  next b k n cs hr=>rw[h.get hr (by nofun)];exact o
  ·cases o
 case sub x d lo hi k =>
  split at o
  ·rename_i r hr;rw[h.get hr (by nofun)];dsimp only;split at o
   ·rename_i hd;rw[Ar hd];split at o
    ·rename_i B n cs q;rw[h.get q (by nofun)];dsimp only;split at o
     next D l w A=>rw[h.bnd w,h.bnd A];exact o
     ·cases o
    ·cases o
   ·cases o
  ·cases o
 case app ow x d y k =>
  split at o
  ·rename_i r B l D hr;rw[h.get hr (by nofun)];dsimp only;split at o
   ·rename_i hd;rw[Ar hd];split at o
    ·rename_i L n cs q;rw[h.get q (by nofun)];dsimp only;split at o
     ·rename_i M;rw[Ar M];split at o
      next m G hy=>rw[h.av hy];exact o
      ·cases o
     ·cases o
    ·cases o
   ·cases o
  ·cases o
 case apb ow x y d k =>
  split at o
  ·rename_i S n cs hr;rw[h.get hr (by nofun)];dsimp only;split at o
   ·rename_i r B l D N;rw[h.get N (by nofun)];dsimp only;split at o
    ·rename_i hd;rw[Ar hd];split at o
     next L T U q=>rw[h.get q (by nofun)];exact o
     ·cases o
    ·cases o
   ·cases o
  ·cases o
 case slo x hi k =>
  split at o
  ·rename_i H I O;rw[h.av O];dsimp only at o |-;split at o
   next B n cs hr=>rw[h.get hr (by nofun)];exact o
   ·cases o
  ·cases o
 case cao f k x xs =>
  split at o
  ·rename_i vs E;rw[h.avs E];dsimp only;cases x with
   | c y=>cases y <;> first | exact o | (rename_i n cs;cases n <;> cases cs <;> exact o)
   | t m =>
    dsimp only at o |-;cases hr:AR s m <;> rw[hr] at o <;> first | (cases o;done) | (rw[h.get hr (by nofun)];exact o)
  ·cases o
 case bad=>cases o
section
variable{s a:Az}
theorem IT.set(h:IT s a)(d:Nat)(r:Reg):IT (s.set d r) (a.set d r):=by
 refine⟨by simp[h.1],fun t => ?_⟩;rw[Ef,Ef,h.1];split
 ·exact .inr rfl
 ·exact h.2 t
theorem IT.puts(h:IT s a):∀ (l:List (Nat × Reg)),IT (CE s l) (CE a l):=by
 intro l;induction l generalizing s a with
 | nil=>exact h
 | cons p l e=>obtain⟨t,r⟩:=p;exact e (h.set t r)
theorem IT.put(h:IT s a)(d:Option Nat)(r:Reg):IT (EI s d r) (EI a d r):=by
 cases d with
 | none=>exact h
 | some d=>exact h.set d r
theorem XJ(h:IT s a){g:Option (Nat × Bool)}{b:Bool}(c:IR s g=some b):IR a g=some b:=by
 cases g with
 | none=>exact c
 | some p =>
  obtain⟨t,x⟩:=p;simp only[IR] at c |-;split at c
  next hr=>rw[h.get hr (by nofun)];exact c
  next hr=>rw[h.get hr (by nofun)];exact c
  ·cases c
end
theorem Aax{a:C4}{o:IOp}{s c t:Az}(h:IT s c)(b:HE a o s=some t):∃ t',HE a o c=some t'/\IT t t':=by
 have h:IT (kill s o.ks) (kill c o.ks):=h.puts _;simp only[HE,KB] at b |-;generalize kill s o.ks=s at *
 generalize kill c o.ks=c at *
 split at b
 ·cases b
 next d=>cases b;rw[XJ h d];exact⟨_,rfl,h.put _ _⟩
 ·rename_i d;rw[XJ h d];split at b
  ·cases b
  next r l e=>cases b;rw[Amg h e];exact⟨_,rfl,(h.puts l).put _ _⟩
theorem XK{a:C4}:∀ {l:List IOp} {s c t:Az},IT s c->Fw a l s=some t->∃ t',Fw a l c=some t'/\IT t t'
 | [],s,c,t,h,b=>by
  simp only[Fw,AS] at b;subst b;exact⟨c,rfl,h⟩
 | o::l,s,c,t,h,b=>by
  simp only[Fw] at b |-;cases h1:HE a o s with
  | none=>rw[h1] at b;cases b
  | some e =>
   rw[h1] at b;obtain⟨f,h2,d⟩:=Aax h h1;rw[h2];exact XK d b
theorem Amh{f:C4}:∀ (n:Nat) {c:ICode} {s m t:Az} {ex:Ex},IT s m->g f n c s=some (ex,t)->∃ t',g f n c m=some (ex,t')/\IT t t':=by
 intro n;induction n with
 | zero=>intro c s m t ex _ j;simp[g] at j
 | succ n o =>
  intro c s m t ex h j;cases c with
  | skip=>simp only[g,AS,E6] at j |-;obtain⟨rfl,rfl⟩:=j;exact⟨m,⟨rfl,rfl⟩,h⟩
  | exit id=>simp only[g,AS,E6] at j |-;obtain⟨rfl,rfl⟩:=j;exact⟨m,⟨rfl,rfl⟩,h⟩
  | ret=>simp only[g,AS,E6] at j |-;obtain⟨rfl,rfl⟩:=j;exact⟨m,⟨rfl,rfl⟩,h⟩
  | region d ops =>
   simp only[g,A0] at j |-;obtain⟨r,h1,e⟩:=j;cases e;obtain⟨t',h2,k⟩:=XK h h1;exact⟨t',⟨t',h2,rfl⟩,k⟩
  | seq a b =>
   simp only[g] at j |-;cases h1:g f n a s with
   | none=>rw[h1] at j;cases j
   | some p =>
    obtain⟨q,r⟩:=p;rw[h1] at j;obtain⟨l,h2,k⟩:=o h h1;rw[h2];cases q with
    | norm=>exact o k j
    | exit i=>cases j;exact⟨l,rfl,k⟩
    | ret=>cases j;exact⟨l,rfl,k⟩
  | cond c a b =>
   simp only[g] at j |-;have u:∀ v,My s c=some v->My m c=some v:=by
    intro v hv;unfold My at hv |-;split at hv
    next w hb=>rw[h.av hb];exact hv
    ·cases hv
   split at j
   next hc=>rw[u _ hc];exact o h j
   next hc=>rw[u _ hc];exact o h j
   ·cases j
  | block id c =>
   simp only[g] at j |-;cases h1:g f n c s with
   | none=>rw[h1] at j;cases j
   | some p =>
    obtain⟨q,r⟩:=p;rw[h1] at j;obtain⟨l,h2,k⟩:=o h h1;rw[h2];cases q with
    | norm=>cases j;exact⟨l,rfl,k⟩
    | ret=>cases j;exact⟨l,rfl,k⟩
    | exit i =>
     dsimp only at j |-;split at j
     next hi=>cases j;exact⟨l,by rw[Ar hi],k⟩
     next hi=>cases j;exact⟨l,by rw[Aw hi],k⟩
  | scope c=>simp only[g] at j |-;exact o h j
  | loop c =>
   simp only[g] at j |-;cases h1:g f n c s with
   | none=>rw[h1] at j;cases j
   | some p =>
    obtain⟨q,r⟩:=p;rw[h1] at j;obtain⟨l,h2,k⟩:=o h h1;rw[h2];cases q with
    | norm=>exact o k j
    | exit i=>cases j;exact⟨l,rfl,k⟩
    | ret=>cases j;exact⟨l,rfl,k⟩
def Dj(prog:Nat->Option IFunc)(c:ICode)(s:Az)(ex:Ex)(t:Az):Prop:=∃ t',EL prog c s ex t'/\IT t t'
section
variable {prog:Nat->Option IFunc}
theorem EL.w{c:ICode}{s t:Az}{ex:Ex}(h:EL prog c s ex t):Dj prog c s ex t:=⟨t,h,IT.refl t⟩
theorem EL.mono{c:ICode}{s a t:Az}{ex:Ex}(h:EL prog c s ex t)(hs:IT s a):Dj prog c a ex t:=by
 obtain⟨n,h⟩:=h;obtain⟨t',h1,h2⟩:=Amh n hs h;exact⟨t',⟨n,h1⟩,h2⟩
theorem Dj.weak{c:ICode}{s a t t':Az}{ex:Ex}(h:Dj prog c s ex t)(hs:IT s a)(b:IT t' t):Dj prog c a ex t':=by
 obtain⟨g,h1,h2⟩:=h;obtain⟨d,e,f⟩:=h1.mono hs;exact⟨d,e,(b.trans h2).trans f⟩
theorem Ag{a b:ICode}{s c t:Az}{ex:Ex}(h1:Dj prog a s .norm c)(h2:Dj prog b c ex t):Dj prog (.seq a b) s ex t:=by
 obtain⟨u,d,e⟩:=h1;obtain⟨v,f,g⟩:=h2.weak e (IT.refl t);exact⟨v,EL.seq d f,g⟩
theorem AG{a b:ICode}{s t:Az}{ex:Ex}(h1:Dj prog a s ex t)(c:ex≠.norm:=by nofun):Dj prog (.seq a b) s ex t:=by
 obtain⟨u,d,e⟩:=h1;exact⟨u,FW d c,e⟩
theorem EL.inv{prog:Nat->Option IFunc}{a b:ICode}{s t:Az}{ex:Ex}(h:EL prog (.seq a b) s ex t):(EL prog a s ex t/\ex ≠ .norm)\/∃ v,EL prog a s .norm v/\EL prog b v ex t:=by
 obtain⟨n,h⟩:=h;cases n with
 | zero=>simp[g] at h
 | succ n =>
  simp only[g] at h;have up:∀ {c:ICode} {s:Az} {q:Ex × Az},g (Ru prog (n+1)) n c s=some q->g (Ru prog (n+1)) (n+1) c s=some q:=fun d=>Hj (FR prog (A2 _)) (ABg n) d;split at h
  next v hv=>exact .inr ⟨v,⟨n+1,up hv⟩,⟨n+1,up h⟩⟩
  next f=>refine .inl ⟨⟨n+1,up h⟩,?_⟩;intro e;subst e;exact f _ h
theorem As{a b r:ICode}{s t:Az}{ex:Ex}(h:Dj prog (.seq (.seq a b) r) s ex t):Dj prog (.seq a (.seq b r)) s ex t:=by
 obtain⟨u,f,g⟩:=h;refine⟨u,?_,g⟩;rcases f.inv with ⟨h1,d⟩ | ⟨v,h1,h2⟩
 ·rcases h1.inv with ⟨c,_⟩ | ⟨x,c,e⟩
  ·exact FW c d
  ·exact EL.seq c (FW e d)
 ·rcases h1.inv with ⟨_,d⟩ | ⟨x,c,e⟩
  ·exact absurd rfl d
  ·exact EL.seq c (EL.seq e h2)
theorem AA{p i l r:ICode}{s t:Az}{ex:Ex}(h:Dj prog (.seq (.seq p i) (.seq l r)) s ex t):Dj prog (.seq p (.seq (.seq i l) r)) s ex t:=by
 obtain⟨u,e,f⟩:=h;refine⟨u,?_,f⟩;rcases e.inv with ⟨h1,a⟩ | ⟨v,h1,h2⟩
 ·rcases h1.inv with ⟨b,_⟩ | ⟨x,b,c⟩
  ·exact FW b a
  ·exact EL.seq b (FW (FW c a) a)
 ·rcases h1.inv with ⟨_,a⟩ | ⟨x,b,c⟩
  ·exact absurd rfl a
  ·rcases h2.inv with ⟨d,a⟩ | ⟨y,d,g⟩
   ·exact EL.seq b (FW (EL.seq c d) a)
   ·exact EL.seq b (EL.seq (EL.seq c d) g)
theorem Dj.scope{c:ICode}{s t:Az}{ex:Ex}(h:Dj prog c s ex t):Dj prog (.scope c) s ex t:=by
 obtain⟨u,a,b⟩:=h;exact⟨u,EL.scope a,b⟩
section
variable{id:Nat}{c:ICode}{s t:Az}
theorem A7(h:Dj prog c s (.exit id) t):Dj prog (.block id c) s .norm t:=by
 obtain⟨u,a,b⟩:=h;exact⟨u,EL.block a,b⟩
theorem BT(h:Dj prog c s .ret t):Dj prog (.block id c) s .ret t:=by
 obtain⟨u,a,b⟩:=h;exact⟨u,Pu a,b⟩
theorem Bo(h:Dj prog c s .norm t):Dj prog (.block id c) s .norm t:=by
 obtain⟨u,a,b⟩:=h;exact⟨u,Ow a,b⟩
end
theorem Bk{c:ICode}{s a t:Az}{ex:Ex}(h1:Dj prog c s .norm a)(h2:Dj prog (.loop c) a ex t):Dj prog (.loop c) s ex t:=by
 obtain⟨u,b,d⟩:=h1;obtain⟨v,e,f⟩:=h2.weak d (IT.refl t);exact⟨v,EL.loop b e,f⟩
theorem Aq{c:ICode}{s t:Az}{ex:Ex}(h1:Dj prog c s ex t)(a:ex≠.norm:=by nofun):Dj prog (.loop c) s ex t:=by
 obtain⟨u,b,d⟩:=h1;exact⟨u,QZ b a,d⟩
theorem Aay{s a:Az}(h:IT s a){r:IRes}{x:AV}(hr:Gt s r=some x):Gt a r=some x:=by
 cases r with
 | tmp t =>
  simp only[Gt] at hr |-;split at hr
  next y hy=>rw[h.get hy (by nofun)];exact hr
  next k n cs hy=>rw[h.get hy (by nofun)];exact hr
  ·cases hr
 | cell t n one =>
  simp only[Gt] at hr |-;split at hr
  next y hy=>rw[h.get hy (by nofun)];exact hr
  ·cases hr
theorem RF{s a:Az}(h:IT s a):∀ {l:List IRes} {xs:List AV},E' s l=some xs->E' a l=some xs
 | [],xs,hx=>hx
 | r::l,xs,hx=>by
  simp only[E'] at hx |-;cases h1:Gt s r with
  | none=>rw[h1] at hx;cases hx
  | some x =>
   rw[h1] at hx;rw[Aay h h1];cases h2:E' s l with
   | none=>rw[h2] at hx;cases hx
   | some b =>
    rw[h2] at hx;rw[RF h h2];exact hx
theorem mX{s a:Az}(h:IT s a){l:List IRes}{x:AV}(hx:JT s l=some x):JT a l=some x:=by
 unfold JT at hx |-;split at hx
 ·rename_i t;split at hx
  next k n cs hr=>rw[h.get hr (by nofun)];exact hx
  next b k n cs hr=>rw[h.get hr (by nofun)];exact hx
  ·cases hx
 ·rename_i t u;split at hx
  ·rename_i k n cs hr;rw[h.get hr (by nofun)];dsimp only;split at hx
   next b c=>rw[h.get c (by nofun)];exact hx
   ·cases hx
  ·cases hx
 ·rename_i t n one;split at hx
  ·rename_i d hr;rw[h.get hr (by nofun)];dsimp only;split at hx
   next b k m cs e=>rw[h.get e (by nofun)];exact hx
   ·cases hx
  ·cases hx
 ·cases hx
theorem Vh{s c:Az}(h:IT s c){l:List IRes}{xs:List AV}(a:JT s l=none)(hx:E' s l=some xs):JT c l=none:=by
 cases l with
 | nil=>rfl
 | cons r l =>
  cases r with
  | cell t n one =>
   cases l with
   | cons _ _=>rfl
   | nil =>
    simp only[JT] at a |-;cases hr:AR s t with
    | box cs=>rw[h.get hr (by nofun)]
    | val x=>simp only[E',Gt,hr] at hx;cases hx
    | own k n cs=>simp only[E',Gt,hr] at hx;cases hx
    | agn b k n cs=>simp only[E',Gt,hr] at hx;cases hx
    | bxl _=>simp only[E',Gt,hr] at hx;cases hx
    | ptr _ _=>simp only[E',Gt,hr] at hx;cases hx
    | mem _=>simp only[E',Gt,hr] at hx;cases hx
    | dup _=>simp only[E',Gt,hr] at hx;cases hx
    | sub _ _ _ _=>simp only[E',Gt,hr] at hx;cases hx
    | dead=>simp only[E',Gt,hr] at hx;cases hx
  | tmp t =>
   cases l with
   | cons j m =>
    cases j with
    | cell _ _ _=>rfl
    | tmp u =>
     cases m with
     | cons _ _=>rfl
     | nil =>
      have d:∃ r,Gt s (.tmp u)=some r:=by
       cases h1:Gt s (.tmp t) with
       | none=>simp only[E',h1] at hx;cases hx
       | some i =>
        cases h2:Gt s (.tmp u) with
        | none=>simp only[E',h1,h2] at hx;cases hx
        | some o=>exact⟨o,rfl⟩
      have f:∃ r,Gt s (.tmp t)=some r:=by
       cases h1:Gt s (.tmp t) with
       | none=>simp only[E',h1] at hx;cases hx
       | some i=>exact⟨i,rfl⟩
      obtain⟨_,d⟩:=d;obtain⟨_,f⟩:=f;simp only[JT] at a |-;have gt:AR c t=AR s t:=by
       have g:AR s t ≠ .dead:=by
        intro e;simp only[Gt,e] at f;cases f
       exact h.get rfl g
      have p:AR c u=AR s u:=by
       have g:AR s u ≠ .dead:=by
        intro e;simp only[Gt,e] at d;cases d
       exact h.get rfl g
      rw[gt,p];exact a
   | nil =>
    simp only[JT] at a |-;cases hr:AR s t with
    | val x=>rw[h.get hr (by nofun)]
    | own k n cs=>rw[hr] at a;cases a
    | agn b k n cs=>rw[hr] at a;cases a
    | bxl _=>simp only[E',Gt,hr] at hx;cases hx
    | box _=>simp only[E',Gt,hr] at hx;cases hx
    | ptr _ _=>simp only[E',Gt,hr] at hx;cases hx
    | mem _=>simp only[E',Gt,hr] at hx;cases hx
    | dup _=>simp only[E',Gt,hr] at hx;cases hx
    | sub _ _ _ _=>simp only[E',Gt,hr] at hx;cases hx
    | dead=>simp only[E',Gt,hr] at hx;cases hx
theorem KG{f:Nat}{fn:IFunc}{args:List AV}{s:Az}{ex:Ex}{r:AV}(c:prog f=some fn)(d:F args=fn.params)(h:Dj prog fn.body (I5 fn args) ex s)
  (e:∀ i,ex ≠ .exit i) (hr:In s fn.res=some r):Io prog f args r:=by
 obtain⟨u,g,a⟩:=h;refine JL c d g e ?_;unfold In at hr |-;cases b:JT s fn.res with
 | some y=>rw[b] at hr;rw[mX a b];exact hr
 | none =>
  rw[b] at hr;dsimp only at hr;split at hr
  next y hy=>cases hr;rw[Vh a b hy,RF a hy]
  ·rename_i j k hy;cases hr;rw[Vh a b hy,RF a hy];cases j with
   | nil=>rfl
   | cons y l =>
    cases l with
    | nil=>exact (k y rfl).elim
    | cons _ _=>rfl
  ·cases hr
def ZE(ks:List Nat)(s:Az):Az:=s.zipIdx.map fun p=>if ks.contains p.2 then p.1 else .dead
theorem gR(ks:List Nat)(s:Az):IT (ZE ks s) s:=by
 refine⟨by simp[ZE],fun t => ?_⟩;simp only[AR,ZE,Ad,CC,List.getElem?_zipIdx];cases h:s[t]? with
 | none=>simp
 | some r =>
  simp only[AY,Cv,H3];split
  ·exact .inr rfl
  ·exact .inl rfl
def Ajm(prog:Nat->Option IFunc)(a:Dd)(n:Nat)(c:ICode)(s:Az)(sc:List Sc)(ks:List Nat):Option (Ex × Az × List Prop) :=
 match Jz prog a n c s sc [] with
 | some ((ex,t),[],ps)=>some (ex,ZE ks t,ps)
 | _=>none
theorem Fa{a:Dd}(b:CT prog a)(n:Nat){c:ICode}{s t:Az}{ex:Ex}(sc:List Sc)(ks:List Nat){ps:List Prop}
  (h:Ajm prog a n c s sc ks=some (ex,t,ps)) (hp:Fl ps):Dj prog c s ex t:=by
 unfold Ajm at h;split at h
 next ex' t' d h1=>cases h;exact⟨_,OV b n sc h1 hp,gR ks _⟩
 ·cases h
theorem e{a:Dd}(b:CT prog a)(n:Nat){c:ICode}{s t:Az}{ex:Ex}(sc:List Sc)(ks:List Nat){ps:List Prop}
  (hp:Fl ps) (h:Ajm prog a n c s sc ks=some (ex,t,ps):=by kernel_rfl):Dj prog c s ex t:=Fa b n sc ks h hp
end
theorem ac{p:Prop}{ps:List Prop}(h:p)(hs:Fl ps):Fl (p::ps):=⟨h,hs⟩
theorem a0:Fl []:=trivial
theorem Bc{prog:Nat->Option IFunc}{T:Dd}(hT:CT prog T){f:Nat}{fn:IFunc}(hf:prog f=some fn)(n:Nat){args:List AV}(hl:F args=fn.params)(sc:List Sc){r:AV}{ps:List Prop}
  (hp:Fl ps) (h:Ayq prog T n fn args sc=some (r,ps):=by kernel_rfl):Io prog f args r:=Cl hT hf n hl sc h hp
theorem F9:false=false:=rfl
theorem K9:¬ (32:Int)<0:=by decide
theorem I6:true=true:=rfl
theorem eQ:¬ (63:Int)<0:=by decide
theorem H7:¬ (32:Int)=0:=by decide
theorem BO{p1:Prop}(h1:p1):Fl [p1]:=⟨h1,trivial⟩
theorem DH{p1 p2:Prop}(h1:p1)(h2:p2):Fl [p1,p2]:=⟨h1,h2,trivial⟩
theorem Gy{p1 p2 p3:Prop}(h1:p1)(h2:p2)(h3:p3):Fl [p1,p2,p3]:=⟨h1,h2,h3,trivial⟩
theorem FJ{p1 p2 p3 p4:Prop}(h1:p1)(h2:p2)(h3:p3)(h4:p4):Fl [p1,p2,p3,p4]:=⟨h1,h2,h3,h4,trivial⟩
theorem Ff{p1 p2 p3 p4 p5:Prop}(h1:p1)(h2:p2)(h3:p3)(h4:p4)(h5:p5):Fl [p1,p2,p3,p4,p5]:=⟨h1,h2,h3,h4,h5,trivial⟩
theorem Gm{p1 p2 p3 p4 p5 p6:Prop}(h1:p1)(h2:p2)(h3:p3)(h4:p4)(h5:p5)(h6:p6):Fl [p1,p2,p3,p4,p5,p6]:=⟨h1,h2,h3,h4,h5,h6,trivial⟩
theorem GZ{p1 p2 p3 p4 p5 p6 p7:Prop}(h1:p1)(h2:p2)(h3:p3)(h4:p4)(h5:p5)(h6:p6)(h7:p7):Fl [p1,p2,p3,p4,p5,p6,p7]:=⟨h1,h2,h3,h4,h5,h6,h7,trivial⟩
theorem Ip{p1 p2 p3 p4 p5 p6 p7 p8:Prop}(h1:p1)(h2:p2)(h3:p3)(h4:p4)(h5:p5)(h6:p6)(h7:p7)(h8:p8):Fl [p1,p2,p3,p4,p5,p6,p7,p8]:=⟨h1,h2,h3,h4,h5,h6,h7,h8,trivial⟩
theorem M3{p1 p2 p3 p4 p5 p6 p7 p8 p9:Prop}(h1:p1)(h2:p2)(h3:p3)(h4:p4)(h5:p5)(h6:p6)(h7:p7)(h8:p8)(h9:p9):Fl [p1,p2,p3,p4,p5,p6,p7,p8,p9]:=⟨h1,h2,h3,h4,h5,h6,h7,h8,h9,trivial⟩
theorem Kw{p1 p2 p3 p4 p5 p6 p7 p8 p9 p10:Prop}(h1:p1)(h2:p2)(h3:p3)(h4:p4)(h5:p5)(h6:p6)(h7:p7)(h8:p8)(h9:p9)(h10:p10):Fl [p1,p2,p3,p4,p5,p6,p7,p8,p9,p10]:=⟨h1,h2,h3,h4,h5,h6,h7,h8,h9,h10,trivial⟩
theorem IU{p1 p2 p3 p4 p5 p6 p7 p8 p9 p10 p11:Prop}(h1:p1)(h2:p2)(h3:p3)(h4:p4)(h5:p5)(h6:p6)(h7:p7)(h8:p8)(h9:p9)(h10:p10)(h11:p11):Fl [p1,p2,p3,p4,p5,p6,p7,p8,p9,p10,p11]:=⟨h1,h2,h3,h4,h5,h6,h7,h8,h9,h10,h11,trivial⟩
theorem Vi{p1 p2 p3 p4 p5 p6 p7 p8 p9 p10 p11 p12:Prop}(h1:p1)(h2:p2)(h3:p3)(h4:p4)(h5:p5)(h6:p6)(h7:p7)(h8:p8)(h9:p9)(h10:p10)(h11:p11)(h12:p12):Fl [p1,p2,p3,p4,p5,p6,p7,p8,p9,p10,p11,p12]:=⟨h1,h2,h3,h4,h5,h6,h7,h8,h9,h10,h11,h12,trivial⟩
theorem OX{p1 p2 p3 p4 p5 p6 p7 p8:Prop}{l:List Prop}(h1:p1)(h2:p2)(h3:p3)(h4:p4)(h5:p5)(h6:p6)(h7:p7)(h8:p8)(h:Fl l):Fl (p1::p2::p3::p4::p5::p6::p7::p8::l):=⟨h1,h2,h3,h4,h5,h6,h7,h8,h⟩
theorem Ab{prog:Nat->Option IFunc}{T:Dd}(hT:CT prog T){c:ICode}{s t:Az}{ex:Ex}(sc:List Sc)(ks:List Nat){ps:List Prop}(hp:Fl ps)(h:Ajm prog T 400 c s sc ks=some (ex,t,ps):=by kernel_rfl):Dj prog c s ex t:=e hT 400 sc ks hp h
def bT:Sc:=.b true
def bF:Sc:=.b false
def kl4:List Nat:=[0,1,2,3,8,17,18,19]
def Pv:List Nat:=[0,1,2,3,8,9,10,11,12,13]
def Ajn:List Nat:=[0,1,4,5,6,13,14]
def sF:List Nat:=[0,1,4,5,6,21,22]
def gS:List Nat:=[0,1,4,5,6,7,8]
def KH:List Nat:=[0,1,4,5]
def AGt:List Nat:=[0,1,4,6,21,22,51,52,53,54,55,56]
def Ajo:List Nat:=[0,1,4,6,7,8,9,10]
def TL:List Nat:=[0,1,4]
def TM:List Nat:=[0,1,5,6,7]
def Azv:List Nat:=[0,2,3,4,5,6,7,8,9]
def Vj:List Nat:=[0,2,3,4,5,6,7,8]
def gT:List Nat:=[0,2,3,4,5,6,7]
def HS:List Nat:=[0,2,3,4,5,6]
def JN:List Nat:=[0,2,3,4,5]
def Fy:List Nat:=[0,2,3,4]
def IC:List Nat:=[0,2,3]
def XL:List Nat:=[0,3,4,5]
def Vk:List Nat:=[0,3,5,6,7]
def Vl:List Nat:=[0,5,6,7,8,9]
def AGu:List Nat:=[1,2,3,4,21,22,23,24,25,26,27,28,29,30]
def sG:List Nat:=[1,2,3,4]
def Q':List Nat:=[1,2,4,5,6,7,8]
def RG:List Nat:=[1,2,4,5,6,7,9,10]
def Vm:List Nat:=[1,3,4,6,8]
def Azw:List Nat:=[1,5,6,7,8,9,44,45]
def Azx:List Nat:=[1,5,6,7,8,9,59,60]
def Azy:List Nat:=[1,5,6,7,8,9,78,79]
def Ajp:List Nat:=[1,5,6,7,8]
def sH:List Nat:=[1,5,6,9,11,13,63,64]
def Ajq:List Nat:=[2,12,13,14,21,22,23]
def Ajr:List Nat:=[2,12,13,14]
def ZF:List Nat:=[2,3,4,10,11,12,14,50,51,52,73,74,75]
def RH:List Nat:=[2,3,4,10,50,51,52]
def XM:List Nat:=[2,3,4,5,10,11,12]
def Vn:List Nat:=[2,3,4,5,17,18,19]
def Pw:List Nat:=[2,3,4,5,6]
def Azz:List Nat:=[2,3,4,5,7,8,9,10]
def sK:List Nat:=[2,3,4,5,7,8]
def JO:List Nat:=[2,3,4,5]
def TN:List Nat:=[2,3,4]
def RI:List Nat:=[2,3]
def A0a:List Nat:=[2,6,7,8,12,13,14,21,22,23]
def sM:List Nat:=[2,6,7,8]
def gW:List Nat:=[3,13,73,74]
def Q_:List Nat:=[3,14,15,16,27,28,29]
def gX:List Nat:=[3,14,15,16]
def gY:List Nat:=[3,5,6,10,11,12]
def ZG:List Nat:=[3,9,10,11,14,15,16,27,28,29]
def RJ:List Nat:=[4,5,6,7,8,9,10,11]
def mY:List Nat:=[4,5,6,7,8,9,10,12,13]
def mZ:List Nat:=[4,5,6,7,8,9,10]
def ZH:List Nat:=[4,5,6,7,8,9,11,12]
def nA:List Nat:=[4,5,6,7,8]
def WF:List Nat:=[4,5,6,7]
def Lm:List Nat:=[4,5,6]
def Aaz:List Nat:=[4,5,7,8,9,10,11,12,41,42,43,48,49,50]
def Aba:List Nat:=[4,5,7,8,9,33,34,35]
def Abb:List Nat:=[4,5,7,8,9,41,42,43]
def nB:List Nat:=[4,5,8,9,11,28]
def Ul:List Nat:=[4,5,9,10,11,12,13,14,16,17]
def nC:List Nat:=[4,5,9,10,11,12,13,14,16,18,19,20]
def Abc:List Nat:=[4,5,9,10,11,12,13,14,16,23,24]
def A0b:List Nat:=[4,5,9,10,11,12,13,14,16,253]
def RK:List Nat:=[4,5,9,10,11,12,13,14]
def Um:List Nat:=[4,8,9,10,11,13,14,15,17,18]
def nD:List Nat:=[4,8,9,10,11,13,14,15,17,19,20,21]
def A0c:List Nat:=[4,8,9,10,11,13,14,15,17,199]
def Abd:List Nat:=[4,8,9,10,11,13,14,15,17,25,26]
def RL:List Nat:=[4,8,9,10,11,13,14,15]
theorem AJv{prog:Nat->Option IFunc}{f:Nat}{args:List AV}{r:AV}(fn:IFunc)(s:Az)(h:Dj prog fn.body (I5 fn args) .ret s)(hf:prog f=some fn:=by exact rfl)(hl:F args=fn.params:=by exact rfl)(hr:In s fn.res=some r:=by exact rfl):Io prog f args r:=KG hf hl h (by nofun) hr
theorem KA{b:Bool}(h:b=true):(!b)=false:=by rw[h];rfl
theorem Vo{b:Bool}(h:b=false):(!b)=true:=by rw[h];rfl
abbrev AK:=List AV
end Go.Ai
