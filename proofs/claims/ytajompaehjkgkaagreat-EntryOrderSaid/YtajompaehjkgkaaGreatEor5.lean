/- Texts of the proof of EntryOrder: part 5 of 14. -/
import Derived.Test.YtajompaehjkgkaaGreatProg
import Derived.KernelRfl
import Derived.Test.YtajompaehjkgkaaGreatEor4
namespace Go.Proofs.YtajompaehjkgkaaGreat
open Go.Ai
set_option maxRecDepth 100000
open Go.Proofs.Tryz renaming f10->US,prog->Mv
noncomputable section
def c(x:Fx)(n p:Nat):ICode:=cP Mv x n p
def A8i:Fx:=t US 2 132 [.tmp 4] [(1000,[6,9,58,72]),(1001,[73,83,94]),(1002,[71,75])] []
def Yx18:Fx:=t Tryz.f18 1 55 [.tmp 2] [(1,[4,9,15,21,26,28,33,36,42,46,50])] []
def A8k:Fx:=t Tryz.f19 2 87 [.tmp 4] [(2,[9,18,23,25,30,49,77]),(3,[11,16,35,37,42,51,58,65,79])] []
def A8m:Fx:=t Tryz.f20 1 11 [.cell 2 7 false] [(1,[3,6,8])] []
def Yx25:Fx:=t Tryz.f25 2 22 [.cell 4 2 false,.tmp 5] [] []
def A8q:Fx:=t Tryz.f27 2 60 [.tmp 4] [(2,[10,14,18,20,32,40,42,43,45,46]),(3,[34,36])] []
def A8r:Fx:=t Tryz.f33 2 16 [.tmp 4] [(2,[5,12]),(3,[7,10])] []
def Yx36:Fx:=t Tryz.f36 0 118 [.tmp 0] [] []
def A8v:Fx:=t Tryz.f37 1 78 [.tmp 2] [(78,[73])] []
def A8w:Fx:=t Tryz.f38 1 20 [.cell 2 7 false,.tmp 3,.tmp 4] [] []
def Yx40:Fx:=t Tryz.f40 1 16 [.tmp 2,.tmp 3] [] []
def A8y:Fx:=t Tryz.f42 1 15 [.tmp 2,.tmp 3] [] []
def A9a:Fx:=t Tryz.f44 2 14 [.tmp 4] [] []
def A9b:Fx:=t Tryz.f45 2 58 [.tmp 4] [(5,[35,39,43,55]),(1000,[4,5]),(1001,[56]),(1002,[57])] []
def A9c:Fx:=t Tryz.f46 1 35 [.tmp 2] [(1000,[2,4,26,34]),(1002,[33])] []
def A9e:Fx:=t Tryz.f47 1 21 [.tmp 2] [(1000,[2,3,11]),(1001,[19]),(1002,[18,20])] []
def Yx48:Fx:=t Tryz.f48 3 12 [.tmp 6] [(1000,[6]),(1002,[11])] []
def Yx49:Fx:=t Tryz.f49 1 19 [.cell 2 2 false] [] []
def A9j:Fx:=t Tryz.f51 1 29 [.tmp 2] [(1,[6])] []
def Yx52:Fx:=t Tryz.f52 1 12 [.tmp 2] [] []
def A9l:Fx:=t Tryz.f53 1 20 [.tmp 2] [] []
def A9n:Fx:=t Tryz.f55 2 26 [.tmp 4] [(2,[6,11,14]),(3,[8,18,21])] []
def A9p:Fx:=t Tryz.f56 4 29 [.tmp 8,.tmp 9] [(1000,[8])] []
def A9q:Fx:=t Tryz.f57 1 13 [.cell 2 7 false] [(1,[3,6,9])] []
def Yx62:Fx:=t Tryz.f62 2 13 [.tmp 4] [(3,[6,8])] []
def A9v:Fx:=t Tryz.f63 3 17 [.tmp 6] [] []
def Yx64:Fx:=t Tryz.f64 1 17 [.tmp 2] [(1,[3,7,12])] []
def A9z:Fx:=t Tryz.f65 2 32 [.tmp 4] [(3,[20,16])] []
def AAb:Fx:=t Tryz.f66 1 28 [.tmp 2] [(4,[13,18,25]),(1000,[2,4,27])] []
def AAd:Fx:=t Tryz.f67 1 29 [.tmp 2] [(1000,[2,4,19,28]),(1002,[12,22])] []
def AAe:Fx:=t Tryz.f68 2 37 [.tmp 4] [] []
def AAg:Fx:=t Tryz.f69 2 25 [.tmp 4] [(2,[8,10,15,19,21])] []
def AAh:Fx:=t Tryz.f70 2 22 [.tmp 4] [(1000,[4]),(1002,[21])] []
def AAi:Fx:=t Tryz.f71 2 19 [.tmp 4] [(2,[5,14]),(3,[7,12])] []
def AAk:Fx:=t Tryz.f72 1 32 [.cell 2 7 false] [(1,[4,6,11,13,20,22,26,29])] []
def AAl:Fx:=t Tryz.f73 1 19 [.tmp 2] [(1000,[2]),(1002,[18])] []
def AAm:Fx:=t Tryz.f74 2 36 [.tmp 4] [(2,[5,13,20,28]),(3,[7,11,22,26])] []
def Yx75:Fx:=t Tryz.f75 1 11 [.cell 2 7 false] [(1,[3,6,8])] []
def AAp:Fx:=t Tryz.f76 2 45 [.tmp 4] [(2,[10,15,20,25,27,34])] []
def Yx77:Fx:=t Tryz.f77 2 36 [.cell 4 2 false] [(2,[8,12])] []
def AAr:Fx:=t Tryz.f79 1 12 [.tmp 2] [(1,[4,10])] []
def AAs:Fx:=t Tryz.f80 3 37 [.cell 6 2 false] [] []
def Yx81:Fx:=t Tryz.f81 1 19 [.cell 2 7 false] [(1,[3,5,8,12])] []
def AAv:Fx:=t Tryz.f82 1 21 [.cell 2 7 false] [(1,[7,9,17,19])] []
def AAw:Fx:=t Tryz.f83 2 32 [.tmp 4] [(2,[20]),(3,[23])] []
def AAx:Fx:=t Tryz.f84 2 51 [.cell 4 2 false] [(50,[4]),(2,[17,44]),(1000,[5,36,46]),(1002,[40]),(1003,[50])] [(50,.cln 98 [45,49] [4])]
def AAz:Fx:=t Tryz.f86 1 34 [.tmp 2] [(1000,[2,4,28]),(1001,[32]),(1002,[31,33])] []
def Yx87:Fx:=t Tryz.f87 2 9 [.cell 4 3 false] [] []
def ABc:Fx:=t Tryz.f88 1 44 [.tmp 2] [] []
def ABe:Fx:=t Tryz.f89 1 45 [.cell 2 7 false,.tmp 3] [(8,[36,37])] []
def Yx91:Fx:=t Tryz.f91 1 33 [.tmp 2] [] []
def ABh:Fx:=t Tryz.f95 2 42 [.cell 4 2 false] [(2,[7,14,19,30]),(3,[10,16,36])] []
def ABi:Fx:=t Tryz.f96 2 18 [.cell 4 2 false] [(2,[5,10]),(3,[7,13])] []
def ABl:Fx:=t Tryz.f97 1 8 [.cell 2 2 false] [(1,[3,5])] []
def Yx98:Fx:=t Tryz.f98 2 16 [.cell 4 2 false] [(15,[4]),(5,[10]),(1000,[5,14]),(1002,[7]),(1003,[15])] [(15,.bdo 13 14 [4])]
def ABq:Fx:=t Tryz.f99 1 22 [.tmp 2] [(1000,[2]),(1002,[21])] [(21,.apd true (.c (.nil)) 20 1 35184372088832)]
def Apg:Fx:=t Tryz.f100 2 16 [.tmp 4,.tmp 5] [(1000,[4])] []
def Aph:Fx:=t Tryz.f101 1 16 [.tmp 2] [] []
def Api:Fx:=t Tryz.f102 1 25 [.tmp 2] [] []
def Apj:Fx:=t Tryz.f103 2 39 [.tmp 4] [] []
def Apk:Fx:=t Tryz.f104 2 67 [.cell 4 2 false] [(9,[44,48,53,54,62]),(1000,[9]),(1001,[65])] []
def Apl:Fx:=t Tryz.f105 6 69 [.tmp 12,.tmp 13] [(14,[36]),(1000,[12,43,16,65]),(1002,[32,50,67])] [(51,.exo 43)]
def Apm:Fx:=t Tryz.f106 1 9 [.cell 2 3 false] [(1,[3,6])] []
def App:Fx:=t Tryz.f108 1 33 [.tmp 2] [(4,[23,24,27]),(1000,[2,4,19,32]),(1002,[12,22])] []
def Apq:Fx:=t Tryz.f110 2 42 [.tmp 4] [(3,[19,21])] []
def Apt:Fx:=t Tryz.f111 2 24 [.cell 4 2 false] [] []
def Apu:Fx:=t Tryz.f112 2 94 [.cell 4 2 false] [(9,[60,64,70,78,80,87]),(1000,[9]),(1001,[92])] []
def Apw:Fx:=t Tryz.f113 1 14 [.cell 2 2 false] [] [(12,.apd false (.c (.nil)) 11 1 35184372088832)]
def Apx:Fx:=t Tryz.f114 1 23 [.tmp 2] [(1000,[2]),(1002,[22])] []
def Apy:Fx:=t Tryz.f115 1 32 [.tmp 2] [(3,[8,13,19,21,23,29]),(1000,[2,3,31]),(1002,[7])] [(9,.brw 157 8 3)]
def Apz:Fx:=t Tryz.f116 1 23 [.tmp 2] [(1000,[2,3,11]),(1001,[21]),(1002,[20,22])] []
def Aqb:Fx:=t Tryz.f117 1 23 [.tmp 2] [(3,[13,20]),(1000,[2,3,22])] []
def Aqd:Fx:=t Tryz.f118 2 99 [.tmp 4] [(5,[25,30,31,34,57,62,67,69,71,75,79,81,83,94]),(1000,[4,5,98]),(1001,[96]),(1002,[16,97])] []
def Aqf:Fx:=t Tryz.f119 2 80 [.tmp 4] [(7,[51]),(1000,[4,10,72]),(1001,[76]),(1002,[75])] []
def Aqh:Fx:=t Tryz.f120 1 19 [.tmp 2] [(1000,[2]),(1002,[17])] []
def Aqi:Fx:=t Tryz.f121 2 32 [.cell 4 3 false] [(2,[7,12,15]),(3,[9,19,22])] []
def Aqk:Fx:=t Tryz.f122 1 23 [.tmp 2] [(1000,[2,3,11]),(1001,[21]),(1002,[20,22])] []
def Aqm:Fx:=t Tryz.f123 2 103 [.tmp 4] [(8,[49,54,56,58,62,63,66]),(1000,[4,8,12,93]),(1001,[97,99]),(1002,[96,102])] []
def Aqo:Fx:=t Tryz.f124 2 61 [.tmp 4] [(2,[12,24,26,46]),(3,[20,28,33,35,40,48])] []
def Aqp:Fx:=t Tryz.f125 1 9 [.tmp 2] [(1,[3,5])] []
def Aqs:Fx:=t Tryz.f126 2 23 [.cell 4 2 false] [(2,[6,9,12,16,18])] []
def Aqt:Fx:=t Tryz.f127 2 25 [.cell 4 2 false] [] []
def Aqu:Fx:=t Tryz.f128 2 104 [.cell 4 2 false] [(2,[13,91,95]),(1000,[6,66]),(1001,[93]),(1002,[72])] []
def Aqv:Fx:=t Tryz.f129 2 9 [.cell 4 2 false] [] []
def Aqy:Fx:=t Tryz.f130 2 39 [.cell 4 3 false] [(2,[8,17])] []
def Aqz:Fx:=t Tryz.f131 1 15 [.cell 2 2 false] [] [(13,.apd false (.c (.nil)) 12 1 35184372088832)]
def Ara:Fx:=t Tryz.f132 1 19 [.cell 2 2 false] [] []
def Arb:Fx:=t Tryz.f133 2 29 [.cell 4 3 false] [(2,[6,11,14]),(3,[8,18,21])] []
def Ard:Fx:=t Tryz.f134 2 41 [.tmp 4] [] []
def Are:Fx:=t Tryz.f135 2 20 [.tmp 4] [(1000,[4]),(1002,[19])] []
def Arf:Fx:=t Tryz.f136 3 17 [.tmp 6] [] []
def Arh:Fx:=t Tryz.f137 1 19 [.cell 2 2 false] [] []
def Arj:Fx:=t Tryz.f138 2 29 [.cell 4 2 false,.cell 5 2 false] [(2,[9,18,25]),(3,[12,20])] []
def Arl:Fx:=t Tryz.f139 1 87 [.cell 2 7 false,.tmp 3] [(87,[67]),(12,[69]),(4,[73,77]),(1000,[4,34]),(1001,[48]),(1002,[37])] []
def Arm:Fx:=t Tryz.f143 1 31 [.tmp 2,.tmp 3] [(1,[5,11,21,27]),(1000,[3])] []
def Arn:Fx:=t Tryz.f144 2 54 [.tmp 4] [(1000,[4,5,46,53]),(1002,[50])] []
def Arp:Fx:=t Tryz.f145 2 42 [.tmp 4] [(1000,[4,5,34,41]),(1002,[38])] []
def Arr:Fx:=t Tryz.f146 2 66 [.tmp 4] [(5,[28,32,48,54,57,64]),(1000,[4,5,65])] []
def Art:Fx:=t Tryz.f147 1 29 [.tmp 2] [] []
def Aru:Fx:=t Tryz.f148 1 8 [.tmp 2,.tmp 3] [(1000,[2])] []
def Arv:Fx:=t Tryz.f149 2 52 [.tmp 4] [(7,[19,27,33,37,39,41,48]),(1000,[4,7]),(1001,[50]),(1002,[51])] []
def Sx:List UInt8:=0::1::2::2::3::3::3::3::4::4::4::4::4::4::4::4::5::5::5::5::5::5::5::5::5::5::5::5::5::5::5::5::6::6::6::6::6::6::6::6::[]
def Sy:List UInt8:=6::6::6::6::6::6::6::6::6::6::6::6::6::6::6::6::6::6::6::6::6::6::6::6::7::7::7::7::7::7::7::7::7::7::7::7::7::7::7::7::[]
def Sz:List UInt8:=7::7::7::7::7::7::7::7::7::7::7::7::7::7::7::7::7::7::7::7::7::7::7::7::7::7::7::7::7::7::7::7::7::7::7::7::7::7::7::7::[]
def S0:List UInt8:=7::7::7::7::7::7::7::7::8::8::8::8::8::8::8::8::8::8::8::8::8::8::8::8::8::8::8::8::8::8::8::8::8::8::8::8::8::8::8::8::[]
def SV:List UInt8:=8::8::8::8::8::8::8::8::8::8::8::8::8::8::8::8::8::8::8::8::8::8::8::8::8::8::8::8::8::8::8::8::8::8::8::8::8::8::8::8::[]
def SW:List UInt8:=8::8::8::8::8::8::8::8::8::8::8::8::8::8::8::8::8::8::8::8::8::8::8::8::8::8::8::8::8::8::8::8::8::8::8::8::8::8::8::8::[]
def SZ:List UInt8:=8::8::8::8::8::8::8::8::8::8::8::8::8::8::8::8::[]
def JU:ByteArray:=⟨(Sx++Sy++Sz++S0++SV++SW++SZ).toArray⟩
def Arw:Fx:=t Tryz.f150 1 19 [.tmp 2] [] []
def Arx:Fx:=t Tryz.f151 2 41 [.tmp 4] [] []
def Ary:Fx:=t Tryz.f152 2 29 [.cell 4 2 false] [] []
def Arz:Fx:=t Tryz.f153 1 21 [.tmp 2] [(1000,[2,3,11]),(1001,[19]),(1002,[18,20])] []
def Asb:Fx:=t Tryz.f154 4 31 [.cell 8 2 false] [] []
def Asc:Fx:=t Tryz.f155 1 20 [.tmp 2] [(1000,[2]),(1002,[18])] []
def Asd:Fx:=t Tryz.f156 2 103 [.tmp 4] [(5,[21,35,41,43,48,50,52,56,82,86,90,99]),(7,[28,58,63,65,67,71,73,76]),(1000,[4,5,7]),(1001,[101]),(1002,[14,102])] []
def Asf:Fx:=t Tryz.f157 1 24 [.cell 2 2 false] [] []
def Ash:Fx:=t Tryz.f158 2 36 [.cell 4 2 false,.cell 5 2 false] [] []
def Asj:Fx:=t Tryz.f159 2 42 [.cell 4 2 false] [(6,[13,22]),(5,[17])] []
def Asl:Fx:=t Tryz.f160 1 13 [.cell 2 2 false] [] [(11,.apd false (.c (.nil)) 10 1 35184372088832)]
def Asn:Fx:=t Tryz.f161 1 9 [.cell 2 2 false] [(1,[3,6])] []
def Asq:Fx:=t Tryz.f162 1 33 [.cell 2 3 false] [(1,[5,8]),(3,[13,18])] []
def Ass:Fx:=t Tryz.f163 2 103 [.cell 4 2 false] [(1000,[11,69]),(1001,[95,101]),(1002,[75])] []
def Ast:Fx:=t Tryz.f164 2 27 [.cell 4 2 false] [(2,[9]),(3,[12])] []
def Asv:Fx:=t Tryz.f165 2 307 [.tmp 4,.tmp 5] [(6,[51,60]),(11,[109,114,123,127,131,136,172,177,210,214,222,228,233,237,244,250,262,266,276,282,285,289,294]),(13,[295,299]),(1000,[4,5,6,11,98,13]),(1001,[67,300,302]),(1002,[68,72,97,301])] [(94,.cln 84 [92,93] []),(95,.fdo 94),(106,.slo 98 105 1)]
def Asw:Fx:=t Tryz.f166 1 52 [.tmp 2,.tmp 3] [] []
def Asx:Fx:=t Tryz.f167 1 18 [.tmp 2] [] []
def Asy:Fx:=t Tryz.f168 1 133 [.tmp 2] [(3,[67,62,37,46,49,60,65,72,79,83,85,86,88,91,92,97,99,102,104,107,110,113,114,115,117,118,123,125,127,130]),(1000,[2,3,132]),(1002,[64])] [(62,.sub 60 3 none (some 61) 7),(67,.sub 65 3 (some 66) none 7),(68,.apb false 64 67 3 7),(69,.app true 62 3 68 7),(97,.cpo 3),(99,.cpo 3),(102,.cpo 3),(107,.cpo 3)]
def Ata:Fx:=t Tryz.f169 0 3 [.cell 0 3 false] [] []
def Atd:Fx:=t Tryz.f177 1 12 [.tmp 2] [] []
def Ate:Fx:=t Tryz.f178 2 58 [.tmp 4] [(5,[43,49,51,56]),(1000,[4,5,57])] []
def Atf:Fx:=t Tryz.f179 2 44 [.tmp 4] [(5,[35,41]),(1000,[4,5,43])] []
def Ath:Fx:=t Tryz.f180 2 282 [.tmp 4,.tmp 5] [(9,[92,96,100,105,123,128,157,161,170,178,179,183,190,196,207,211,222,230,231,235,240,255,257,269,272]),(4,[241,245]),(5,[253,262,265,267,279]),(1000,[4,5,9,280,281]),(1002,[34,48,58])] [(34,.apd true (.c (.nil)) 33 1 35184372088832)]
def Ati:Fx:=t Tryz.f181 1 10 [.cell 2 2 false] [] []
def Atl:Fx:=t Tryz.f182 2 12 [.tmp 4] [] []
def Atn:Fx:=t Tryz.f183 1 24 [.tmp 2] [(1,[6])] []
def Atp:Fx:=t Tryz.f184 1 21 [.tmp 2] [(1000,[2])] []
def Atq:Fx:=t Tryz.f185 2 15 [.tmp 4] [] []
def Att:Fx:=t Tryz.f186 1 14 [.tmp 2] [] []
def Atv:Fx:=t Tryz.f187 2 43 [.tmp 4,.tmp 5] [(6,[28,39]),(1000,[4,6,40])] []
def Atx:Fx:=t Tryz.f188 1 6 [.tmp 2] [] []
def Aua:Fx:=t Tryz.f189 2 42 [.tmp 4] [(5,[25,27,32,33,39]),(1000,[4,5,41])] []
end
end Go.Proofs.YtajompaehjkgkaaGreat
namespace Go.Ai
open Go.RowKit
open List renaming all_eq_true->Cf,getD_eq_getElem?_getD->Z,getElem?_map->Cs
open Nat renaming le_refl->Ao,le_succ->A3j,zero_add->Cb
open Option renaming getD_some->H7,map_eq_some_iff->Am,map_some->AF
open Option.some renaming injEq->A9
open Prod.mk renaming injEq->DJ
def HO(s s':Aj):Prop:=s.length=s'.length/\∀ t,A8 s t = .dead\/A8 s t=A8 s' t
theorem HO.refl(s:Aj):HO s s:=⟨rfl,fun _ => .inr rfl⟩
theorem HO.trans{a b c:Aj}(h:HO a b)(k:HO b c):HO a c:=by
 refine⟨h.1.trans k.1,fun t => ?_⟩;rcases h.2 t with h1 | h1
 ·exact .inl h1
 ·rcases k.2 t with k1 | k1
  ·exact .inl (h1.trans k1)
  ·exact .inr (h1.trans k1)
theorem HO.get{s s':Aj}(h:HO s s'){t:Nat}{r:Reg}(hr:A8 s t=r)(hd:r ≠ .dead):A8 s' t=r:=by
 rcases h.2 t with h1 | h1
 ·exact absurd (hr.symm.trans h1) hd
 ·rw[<- h1,hr]
theorem HO.av{s s':Aj}(h:HO s s'){o:Opd}{x:AV}(hx:o.av s=some x):o.av s'=some x:=by
 cases o with
 | c y=>exact hx
 | t n =>
  simp only[Opd.av,Opd.reg] at hx |-;split at hx
  ·rename_i y hy;cases hx;rw[h.get hy (by nofun)]
  ·cases hx
theorem HO.avs{s s':Aj}(h:HO s s'):∀ {l:List Opd} {xs:List AV},avs s l=some xs->avs s' l=some xs
 | [],xs,hx=>hx
 | o::l,xs,hx=>by
  simp only[Go.Ai.avs] at hx |-;cases h1:o.av s with
  | none=>rw[h1] at hx;cases hx
  | some x =>
   rw[h1] at hx;rw[h.av h1];cases h2:Go.Ai.avs s l with
   | none=>rw[h2] at hx;cases hx
   | some ys =>
    rw[h2] at hx;rw[h.avs h2];exact hx
theorem HO.fill{s s':Aj}(h:HO s s'):∀ {ps:List (Nat × Nat × Opd)} {cs cs':List AV},G8 s cs ps=some cs'->G8 s' cs ps=some cs'
 | [],_,_,hx=>hx
 | (off,n,o)::ps,cs,cs',hx=>by
  simp only[G8] at hx |-;cases h1:o.av s with
  | none=>rw[h1] at hx;cases hx
  | some x =>
   rw[h1] at hx;rw[h.av h1];dsimp only at hx |-;cases h2:GU x n with
   | none=>rw[h2] at hx;cases hx
   | some ys =>
    rw[h2] at hx;dsimp only at hx |-;cases h3:C5 cs off ys with
    | none=>rw[h3] at hx;cases hx
    | some cs1 =>
     rw[h3] at hx;dsimp only at hx |-;exact h.fill hx
theorem HO.reg{s s':Aj}(h:HO s s'){o:Opd}{r:Reg}(hx:o.reg s=r)(hd:r ≠ .dead):o.reg s'=r:=by
 cases o with
 | c y=>exact hx
 | t n=>exact h.get hx hd
theorem HO.bnd{s s':Aj}(h:HO s s'){o:Option Opd}{d n:Nat}(hx:Hm s d o=some n):Hm s' d o=some n:=by
 cases o with
 | none=>exact hx
 | some o =>
  simp only[Hm] at hx |-;split at hx
  ·rename_i k i hi;rw[h.av hi];exact hx
  ·cases hx
theorem HO.firm{s s':Aj}(h:HO s s'){l:List Nat}(hl:(l.all fun t=>GT (A8 s t))=true):(l.all fun t=>GT (A8 s' t))=true:=by
 rw[Cf] at hl |-;intro t ht;have h1:=hl t ht;rw[h.get (r:=A8 s t) rfl (by intro e;rw[e] at h1;cases h1)];exact h1
theorem Aea{F:BL}{s s':Aj}(h:HO s s'){k:K}{p:Reg × List (Nat × Reg)}(hk:B7 F s k=some p):B7 F s' k=some p:=by
 cases k <;> simp only[B7] at hk |-
 case mov x =>
  simp only[Am] at hk |-;obtain⟨v,hv,e⟩:=hk;exact⟨v,h.av hv,e⟩
 case pick c a b =>
  split at hk
  ·rename_i hc;rw[h.av hc];simp only[Am] at hk |-;obtain⟨v,hv,e⟩:=hk;exact⟨v,h.av hv,e⟩
  ·rename_i hc;rw[h.av hc];simp only[Am] at hk |-;obtain⟨v,hv,e⟩:=hk;exact⟨v,h.av hv,e⟩
  ·cases hk
 case bin op x y =>
  split at hk
  ·rename_i hx hy;rw[h.av hx,h.av hy];exact hk
  ·cases hk
 case eqb neg x y =>
  split at hk
  ·rename_i hx hy;rw[h.av hx,h.av hy];exact hk
  ·cases hk
 case un op x =>
  split at hk
  ·rename_i hx;rw[h.av hx];exact hk
  ·cases hk
 case cv k x =>
  split at hk
  ·rename_i hx;rw[h.av hx];exact hk
  ·cases hk
 case new z ks=>exact hk
 case box x ks =>
  split at hk
  ·rename_i hx;rw[h.av hx];exact hk
  ·rename_i y hne hx;rw[h.av hx];split at hk
   ·rename_i hd;cases hk;cases y <;> first | (cases hd;done) | simp only[MP,if_true]
   ·cases hk
  ·cases hk
 case bld z ps =>
  simp only[Am] at hk |-;obtain⟨v,hv,e⟩:=hk;exact⟨v,h.fill hv,e⟩
 case bls n z ps =>
  simp only[Am] at hk |-;obtain⟨v,hv,e⟩:=hk;exact⟨v,h.fill hv,e⟩
 case adr x d off =>
  cases hr:A8 s x <;> rw[hr] at hk <;> first | (cases hk;done) | (rw[h.get hr (by nofun)];exact hk)
 case ld x d n one =>
  cases hr:A8 s x with
  | box cs=>rw[hr] at hk;rw[h.get hr (by nofun)];exact hk
  | mem cs=>rw[hr] at hk;rw[h.get hr (by nofun)];exact hk
  | ptr d' off =>
   rw[hr] at hk;rw[h.get hr (by nofun)];dsimp only at hk |-;split at hk
   ·rename_i hd;rw[if_pos hd];cases hr2:A8 s d <;> rw[hr2] at hk <;> first | (cases hk;done) | (rw[h.get hr2 (by nofun)];exact hk)
   ·cases hk
  | val x=>rw[hr] at hk;cases hk
  | own _ _ _=>rw[hr] at hk;cases hk
  | agn _ _ _ _=>rw[hr] at hk;cases hk
  | bxl _=>rw[hr] at hk;cases hk
  | dup d=>rw[hr] at hk;cases hk
  | sub _ _ _ _=>rw[hr] at hk;cases hk
  | dead=>rw[hr] at hk;cases hk
 case st x d n v =>
  split at hk
  ·cases hk
  ·rename_i a ha;rw[h.av ha];dsimp only at hk |-;split at hk
   ·cases hk
   ·rename_i ys hys;cases hr:A8 s x with
    | box cs=>rw[hr] at hk;rw[h.get hr (by nofun)];exact hk
    | ptr d' off =>
     rw[hr] at hk;rw[h.get hr (by nofun)];dsimp only at hk |-;split at hk
     ·rename_i hd;rw[if_pos hd];cases hr2:A8 s d <;> rw[hr2] at hk <;> first | (cases hk;done) | (rw[h.get hr2 (by nofun)];exact hk)
     ·cases hk
    | mem cs=>rw[hr] at hk;cases hk
    | val x=>rw[hr] at hk;cases hk
    | own _ _ _=>rw[hr] at hk;cases hk
    | agn _ _ _ _=>rw[hr] at hk;cases hk
    | bxl _=>rw[hr] at hk;cases hk
    | dup d=>rw[hr] at hk;cases hk
    | sub _ _ _ _=>rw[hr] at hk;cases hk
    | dead=>rw[hr] at hk;cases hk
 case fld x off n one =>
  split at hk
  ·rename_i hx;rw[h.av hx];exact hk
  ·cases hk
 case ixa x i k =>
  split at hk
  ·rename_i k1 iv hi;rw[h.av hi];dsimp only at hk |-;split at hk
   ·rename_i n cs hr;rw[h.get hr (by nofun)];exact hk
   ·cases hk
  ·cases hk
 case six x i =>
  split at hk
  ·rename_i hx hi;rw[h.av hx,h.av hi];exact hk
  ·cases hk
 case ext x i =>
  split at hk
  ·rename_i hx;rw[h.av hx];exact hk
  ·cases hk
 case len x =>
  split at hk
  ·rename_i hx;rw[h.av hx];exact hk
  ·rename_i hx;rw[h.av hx];exact hk
  ·cases hk
 case mx xs =>
  split at hk
  ·rename_i hx;rw[h.avs hx];exact hk
  ·cases hk
 case mn xs =>
  split at hk
  ·rename_i hx;rw[h.avs hx];exact hk
  ·cases hk
 case call f xs =>
  split at hk
  ·rename_i hx;rw[h.avs hx];exact hk
  ·cases hk
 case clo f xs =>
  split at hk
  ·rename_i hx;rw[h.avs hx];exact hk
  ·cases hk
 case brw f x d =>
  cases hr:A8 s x <;> rw[hr] at hk <;> first | (cases hk;done) | skip
  rename_i d';rw[h.get hr (by nofun)];simp only at hk |-;by_cases hd:d'=d
  ·rw[if_pos hd] at hk |-;cases hr2:A8 s d <;> rw[hr2] at hk <;> first | (cases hk;done) | skip
   rw[h.get hr2 (by nofun)];exact hk
  ·rw[if_neg hd] at hk;cases hk
 case cpy x =>
  cases hr:A8 s x <;> rw[hr] at hk <;> first | (cases hk;done) | (rw[h.get hr (by nofun)];exact hk)
 case tra x =>
  cases hr:A8 s x <;> rw[hr] at hk <;> first | (cases hk;done) | (rw[h.get hr (by nofun)];exact hk)
 case frz x =>
  cases hr:A8 s x <;> rw[hr] at hk <;> first | (cases hk;done) | (rw[h.get hr (by nofun)];exact hk)
 case mks z n =>
  split at hk
  ·rename_i hx;rw[h.av hx];exact hk
  ·cases hk
 case blo k n z ps =>
  simp only[Am] at hk |-;obtain⟨v,hv,e⟩:=hk;exact⟨v,h.fill hv,e⟩
 case apd ow x y k B =>
  split at hk
  ·rename_i hy;rw[h.av hy];dsimp only;cases hr:x.reg s <;> rw[hr] at hk <;> first | (cases hk;done) | (rw[h.reg hr (by nofun)];exact hk)
  ·rename_i m ys hy;rw[h.av hy];dsimp only;split at hk
   ·rename_i hl;rw[if_pos hl];cases hr:x.reg s <;> rw[hr] at hk <;> first | (cases hk;done) | (rw[h.reg hr (by nofun)];exact hk)
   ·cases hk
  ·cases hk
 case sli x lo hi mx k =>
  split at hk
  ·rename_i hx;rw[h.av hx];dsimp only;split at hk
   ·rename_i b1 b2 b3;rw[h.bnd b1,h.bnd b2,h.bnd b3];exact hk
   ·cases hk
  ·rename_i n cs hx;rw[h.av hx];dsimp only;split at hk
   ·rename_i m hh l b1 b2 b3;rw[h.bnd b1,h.bnd b2,h.bnd b3];exact hk
   ·cases hk
  ·cases hk
 case ixo x d i k =>
  split at hk
  ·rename_i k1 iv hi;rw[h.av hi];dsimp only at hk |-;split at hk
   ·rename_i n cs hr;rw[h.get hr (by nofun)];exact hk
   ·rename_i d' hr;rw[h.get hr (by nofun)];dsimp only;split at hk
    ·rename_i hd;rw[if_pos hd];split at hk
     ·rename_i k' n cs hr2;rw[h.get hr2 (by nofun)];exact hk
     ·cases hk
    ·cases hk
   ·cases hk
  ·cases hk
 case lno x d =>
  split at hk
  ·rename_i hr;rw[h.get hr (by nofun)];exact hk
  ·rename_i n cs hr;rw[h.get hr (by nofun)];exact hk
  ·rename_i d' hr;rw[h.get hr (by nofun)];dsimp only;split at hk
   ·rename_i hd;rw[if_pos hd];split at hk
    ·rename_i k' n cs hr2;rw[h.get hr2 (by nofun)];exact hk
    ·cases hk
   ·cases hk
  ·cases hk
 case nlo k=>exact hk
 case bdo y x ls =>
  split at hk
  ·rename_i b hb;rw[h.av hb];dsimp only at hk |-;split at hk
   ·rename_i k n cs hr;rw[h.get hr (by nofun)];dsimp only;split at hk
    ·rename_i hl;rw[if_pos (h.firm hl)];exact hk
    ·cases hk
   ·cases hk
  ·cases hk
 case cln f xs ls =>
  split at hk
  ·rename_i vs hvs;rw[h.avs hvs];dsimp only;split at hk
   ·rename_i hl;rw[if_pos (h.firm hl)];exact hk
   ·cases hk
  ·cases hk
 case stl x v =>
  split at hk
  ·rename_i cs hr;rw[h.get hr (by nofun)];dsimp only;split at hk
   ·rename_i b k n ds hr2;rw[h.get hr2 (by nofun)];exact hk
   ·cases hk
  ·cases hk
 case fdo x =>
  split at hk
  ·rename_i b k n cs hr;rw[h.get hr (by nofun)];exact hk
  ·cases hk
 case cpo x=>exact hk
 case exo x =>
  split at hk
  ·rename_i b k n cs hr;rw[h.get hr (by nofun)];exact hk
  ·cases hk
 case sub x d lo hi k =>
  split at hk
  ·rename_i d' hr;rw[h.get hr (by nofun)];dsimp only;split at hk
   ·rename_i hd;rw[if_pos hd];split at hk
    ·rename_i k' n cs hr2;rw[h.get hr2 (by nofun)];dsimp only;split at hk
     ·rename_i hh l b1 b2;rw[h.bnd b1,h.bnd b2];exact hk
     ·cases hk
    ·cases hk
   ·cases hk
  ·cases hk
 case app ow x d y k =>
  split at hk
  ·rename_i d' k' l hh hr;rw[h.get hr (by nofun)];dsimp only;split at hk
   ·rename_i hd;rw[if_pos hd];split at hk
    ·rename_i k'' n cs hr2;rw[h.get hr2 (by nofun)];dsimp only;split at hk
     ·rename_i hd2;rw[if_pos hd2];split at hk
      ·rename_i m ys hy;rw[h.av hy];exact hk
      ·cases hk
     ·cases hk
    ·cases hk
   ·cases hk
  ·cases hk
 case apb ow x y d k =>
  split at hk
  ·rename_i k0 n cs hr;rw[h.get hr (by nofun)];dsimp only;split at hk
   ·rename_i d' k' l hh hr1;rw[h.get hr1 (by nofun)];dsimp only;split at hk
    ·rename_i hd;rw[if_pos hd];split at hk
     ·rename_i k'' n' cs' hr2;rw[h.get hr2 (by nofun)];exact hk
     ·cases hk
    ·cases hk
   ·cases hk
  ·cases hk
 case slo x hi k =>
  split at hk
  ·rename_i k1 iv hiv;rw[h.av hiv];dsimp only at hk |-;split at hk
   ·rename_i k' n cs hr;rw[h.get hr (by nofun)];exact hk
   ·cases hk
  ·cases hk
 case bad=>cases hk
theorem HO.set{s s':Aj}(h:HO s s')(d:Nat)(r:Reg):HO (s.set d r) (s'.set d r):=by
 refine⟨by simp[h.1],fun t => ?_⟩;rw[Du,Du,h.1];split
 ·exact .inr rfl
 ·exact h.2 t
theorem HO.puts{s s':Aj}(h:HO s s'):∀ (l:List (Nat × Reg)),HO (BZ s l) (BZ s' l):=by
 intro l;induction l generalizing s s' with
 | nil=>exact h
 | cons p l ih=>obtain⟨t,r⟩:=p;exact ih (h.set t r)
theorem HO.put{s s':Aj}(h:HO s s')(d:Option Nat)(r:Reg):HO (Ea s d r) (Ea s' d r):=by
 cases d with
 | none=>exact h
 | some d=>exact h.set d r
theorem Wo{s s':Aj}(h:HO s s'){g:Option (Nat × Bool)}{b:Bool}(hw:HK s g=some b):HK s' g=some b:=by
 cases g with
 | none=>exact hw
 | some p =>
  obtain⟨t,x⟩:=p;simp only[HK] at hw |-;split at hw
  ·rename_i hr;rw[h.get hr (by nofun)];exact hw
  ·rename_i hr;rw[h.get hr (by nofun)];exact hw
  ·cases hw
theorem tZ{F:BL}{o:IOp}{s s' t:Aj}(h:HO s s')(he:G9 F o s=some t):∃ t',G9 F o s'=some t'/\HO t t':=by
 have h:HO (kill s o.ks) (kill s' o.ks):=h.puts _;simp only[G9,Jo] at he |-;generalize kill s o.ks=s at *
 generalize kill s' o.ks=s' at *
 split at he
 ·cases he
 ·rename_i hw;cases he;rw[Wo h hw];exact⟨_,rfl,h.put _ _⟩
 ·rename_i hw;rw[Wo h hw];split at he
  ·cases he
  ·rename_i r l hk;cases he;rw[Aea h hk];exact⟨_,rfl,(h.puts l).put _ _⟩
theorem Wp{F:BL}:∀ {l:List IOp} {s s' t:Aj},HO s s'->EA F l s=some t->∃ t',EA F l s'=some t'/\HO t t'
 | [],s,s',t,h,he=>by
  simp only[EA,A9] at he;subst he;exact⟨s',rfl,h⟩
 | o::l,s,s',t,h,he=>by
  simp only[EA] at he |-;cases h1:G9 F o s with
  | none=>rw[h1] at he;cases he
  | some s1 =>
   rw[h1] at he;obtain⟨s2,h2,h3⟩:=tZ h h1;rw[h2];exact Wp h3 he
theorem Aeb{F:BL}:∀ (n:Nat) {c:ICode} {s s' t:Aj} {ex:Ex},HO s s'->C4 F n c s=some (ex,t)->∃ t',C4 F n c s'=some (ex,t')/\HO t t':=by
 intro n;induction n with
 | zero=>intro c s s' t ex _ he;simp[C4] at he
 | succ n ih =>
  intro c s s' t ex h he;cases c with
  | skip=>simp only[C4,A9,DJ] at he |-;obtain⟨rfl,rfl⟩:=he;exact⟨s',⟨rfl,rfl⟩,h⟩
  | exit id=>simp only[C4,A9,DJ] at he |-;obtain⟨rfl,rfl⟩:=he;exact⟨s',⟨rfl,rfl⟩,h⟩
  | ret=>simp only[C4,A9,DJ] at he |-;obtain⟨rfl,rfl⟩:=he;exact⟨s',⟨rfl,rfl⟩,h⟩
  | region d ops =>
   simp only[C4,Am] at he |-;obtain⟨s1,h1,e⟩:=he;cases e;obtain⟨t',h2,h3⟩:=Wp h h1;exact⟨t',⟨t',h2,rfl⟩,h3⟩
  | seq a b =>
   simp only[C4] at he |-;cases h1:C4 F n a s with
   | none=>rw[h1] at he;cases he
   | some p =>
    obtain⟨e1,s1⟩:=p;rw[h1] at he;obtain⟨s2,h2,h3⟩:=ih h h1;rw[h2];cases e1 with
    | norm=>exact ih h3 he
    | exit i=>cases he;exact⟨s2,rfl,h3⟩
    | ret=>cases he;exact⟨s2,rfl,h3⟩
  | cond c a b =>
   simp only[C4] at he |-;have key:∀ v,Lh s c=some v->Lh s' c=some v:=by
    intro v hv;unfold Lh at hv |-;split at hv
    ·rename_i b' hb;rw[h.av hb];exact hv
    ·cases hv
   split at he
   ·rename_i hc;rw[key _ hc];exact ih h he
   ·rename_i hc;rw[key _ hc];exact ih h he
   ·cases he
  | block id c =>
   simp only[C4] at he |-;cases h1:C4 F n c s with
   | none=>rw[h1] at he;cases he
   | some p =>
    obtain⟨e1,s1⟩:=p;rw[h1] at he;obtain⟨s2,h2,h3⟩:=ih h h1;rw[h2];cases e1 with
    | norm=>cases he;exact⟨s2,rfl,h3⟩
    | ret=>cases he;exact⟨s2,rfl,h3⟩
    | exit i =>
     dsimp only at he |-;split at he
     ·rename_i hi;cases he;exact⟨s2,by rw[if_pos hi],h3⟩
     ·rename_i hi;cases he;exact⟨s2,by rw[if_neg hi],h3⟩
  | scope c=>simp only[C4] at he |-;exact ih h he
  | loop c =>
   simp only[C4] at he |-;cases h1:C4 F n c s with
   | none=>rw[h1] at he;cases he
   | some p =>
    obtain⟨e1,s1⟩:=p;rw[h1] at he;obtain⟨s2,h2,h3⟩:=ih h h1;rw[h2];cases e1 with
    | norm=>exact ih h3 he
    | exit i=>cases he;exact⟨s2,rfl,h3⟩
    | ret=>cases he;exact⟨s2,rfl,h3⟩
def CE(prog:Nat->Option IFunc)(c:ICode)(s:Aj)(ex:Ex)(t:Aj):Prop:=∃ t',DX prog c s ex t'/\HO t t'
section
variable {prog:Nat->Option IFunc}
theorem DX.w{c:ICode}{s t:Aj}{ex:Ex}(h:DX prog c s ex t):CE prog c s ex t:=⟨t,h,HO.refl t⟩
theorem DX.mono{c:ICode}{s s' t:Aj}{ex:Ex}(h:DX prog c s ex t)(hs:HO s s'):CE prog c s' ex t:=by
 obtain⟨n,h⟩:=h;obtain⟨t',h1,h2⟩:=Aeb n hs h;exact⟨t',⟨n,h1⟩,h2⟩
theorem CE.weak{c:ICode}{s s' t t':Aj}{ex:Ex}(h:CE prog c s ex t)(hs:HO s s')(ht:HO t' t):CE prog c s' ex t':=by
 obtain⟨t1,h1,h2⟩:=h;obtain⟨t2,h3,h4⟩:=h1.mono hs;exact⟨t2,h3,(ht.trans h2).trans h4⟩
theorem CE.seq{a b:ICode}{s s1 t:Aj}{ex:Ex}(h1:CE prog a s .norm s1)(h2:CE prog b s1 ex t):CE prog (.seq a b) s ex t:=by
 obtain⟨u,k1,k2⟩:=h1;obtain⟨v,k3,k4⟩:=h2.weak k2 (HO.refl t);exact⟨v,DX.seq k1 k3,k4⟩
theorem A4{a b:ICode}{s t:Aj}{ex:Ex}(h1:CE prog a s ex t)(hex:ex≠.norm:=by nofun):CE prog (.seq a b) s ex t:=by
 obtain⟨u,k1,k2⟩:=h1;exact⟨u,Fb k1 hex,k2⟩
theorem DX.inv{prog:Nat->Option IFunc}{a b:ICode}{s t:Aj}{ex:Ex}(h:DX prog (.seq a b) s ex t):(DX prog a s ex t/\ex ≠ .norm)\/∃ v,DX prog a s .norm v/\DX prog b v ex t:=by
 obtain⟨n,h⟩:=h;cases n with
 | zero=>simp[C4] at h
 | succ n =>
  simp only[C4] at h;have up:∀ {c:ICode} {s:Aj} {q:Ex × Aj},C4 (Qe prog (n+1)) n c s=some q->C4 (Qe prog (n+1)) (n+1) c s=some q:=fun hh=>Gf (E' prog (Ao _)) (A3j n) hh;split at h
  ·rename_i v hv;exact .inr ⟨v,⟨n+1,up hv⟩,⟨n+1,up h⟩⟩
  ·rename_i hne;refine .inl ⟨⟨n+1,up h⟩,?_⟩;intro e;subst e;exact hne _ h
theorem CE.asc{a b r:ICode}{s t:Aj}{ex:Ex}(h:CE prog (.seq (.seq a b) r) s ex t):CE prog (.seq a (.seq b r)) s ex t:=by
 obtain⟨u,k1,k2⟩:=h;refine⟨u,?_,k2⟩;rcases k1.inv with ⟨h1,hne⟩ | ⟨v,h1,h2⟩
 ·rcases h1.inv with ⟨h3,_⟩ | ⟨x,h3,h4⟩
  ·exact Fb h3 hne
  ·exact DX.seq h3 (Fb h4 hne)
 ·rcases h1.inv with ⟨_,hne⟩ | ⟨x,h3,h4⟩
  ·exact absurd rfl hne
  ·exact DX.seq h3 (DX.seq h4 h2)
theorem Av{p i l r:ICode}{s t:Aj}{ex:Ex}(h:CE prog (.seq (.seq p i) (.seq l r)) s ex t):CE prog (.seq p (.seq (.seq i l) r)) s ex t:=by
 obtain⟨u,k1,k2⟩:=h;refine⟨u,?_,k2⟩;rcases k1.inv with ⟨h1,hne⟩ | ⟨v,h1,h2⟩
 ·rcases h1.inv with ⟨h3,_⟩ | ⟨x,h3,h4⟩
  ·exact Fb h3 hne
  ·exact DX.seq h3 (Fb (Fb h4 hne) hne)
 ·rcases h1.inv with ⟨_,hne⟩ | ⟨x,h3,h4⟩
  ·exact absurd rfl hne
  ·rcases h2.inv with ⟨h5,hne⟩ | ⟨y,h5,h6⟩
   ·exact DX.seq h3 (Fb (DX.seq h4 h5) hne)
   ·exact DX.seq h3 (DX.seq (DX.seq h4 h5) h6)
theorem CE.scope{c:ICode}{s t:Aj}{ex:Ex}(h:CE prog c s ex t):CE prog (.scope c) s ex t:=by
 obtain⟨u,k1,k2⟩:=h;exact⟨u,DX.scope k1,k2⟩
theorem CE.block{id:Nat}{c:ICode}{s t:Aj}(h:CE prog c s (.exit id) t):CE prog (.block id c) s .norm t:=by
 obtain⟨u,k1,k2⟩:=h;exact⟨u,DX.block k1,k2⟩
theorem BO{id:Nat}{c:ICode}{s t:Aj}(h:CE prog c s .ret t):CE prog (.block id c) s .ret t:=by
 obtain⟨u,k1,k2⟩:=h;exact⟨u,NZ k1,k2⟩
theorem v{id:Nat}{c:ICode}{s t:Aj}(h:CE prog c s .norm t):CE prog (.block id c) s .norm t:=by
 obtain⟨u,k1,k2⟩:=h;exact⟨u,MV k1,k2⟩
theorem CE.loop{c:ICode}{s s1 t:Aj}{ex:Ex}(h1:CE prog c s .norm s1)(h2:CE prog (.loop c) s1 ex t):CE prog (.loop c) s ex t:=by
 obtain⟨u,k1,k2⟩:=h1;obtain⟨v,k3,k4⟩:=h2.weak k2 (HO.refl t);exact⟨v,DX.loop k1 k3,k4⟩
theorem Ah{c:ICode}{s t:Aj}{ex:Ex}(h1:CE prog c s ex t)(hex:ex≠.norm:=by nofun):CE prog (.loop c) s ex t:=by
 obtain⟨u,k1,k2⟩:=h1;exact⟨u,PJ k1 hex,k2⟩
theorem uA{s s':Aj}(h:HO s s'){r:IRes}{x:AV}(hr:F2 s r=some x):F2 s' r=some x:=by
 cases r with
 | tmp t =>
  simp only[F2] at hr |-;split at hr
  ·rename_i y hy;rw[h.get hy (by nofun)];exact hr
  ·rename_i k n cs hy;rw[h.get hy (by nofun)];exact hr
  ·cases hr
 | cell t n one =>
  simp only[F2] at hr |-;split at hr
  ·rename_i y hy;rw[h.get hy (by nofun)];exact hr
  ·cases hr
theorem QG{s s':Aj}(h:HO s s'):∀ {l:List IRes} {xs:List AV},Eo s l=some xs->Eo s' l=some xs
 | [],xs,hx=>hx
 | r::l,xs,hx=>by
  simp only[Eo] at hx |-;cases h1:F2 s r with
  | none=>rw[h1] at hx;cases hx
  | some x =>
   rw[h1] at hx;rw[uA h h1];cases h2:Eo s l with
   | none=>rw[h2] at hx;cases hx
   | some ys =>
    rw[h2] at hx;rw[QG h h2];exact hx
theorem gH{s s':Aj}(h:HO s s'){l:List IRes}{x:AV}(hx:II s l=some x):II s' l=some x:=by
 unfold II at hx |-;split at hx
 ·rename_i t;split at hx
  ·rename_i k n cs hr;rw[h.get hr (by nofun)];exact hx
  ·rename_i b k n cs hr;rw[h.get hr (by nofun)];exact hx
  ·cases hx
 ·rename_i t u;split at hx
  ·rename_i k n cs hr;rw[h.get hr (by nofun)];dsimp only;split at hx
   ·rename_i b hru;rw[h.get hru (by nofun)];exact hx
   ·cases hx
  ·cases hx
 ·rename_i t n one;split at hx
  ·rename_i d hr;rw[h.get hr (by nofun)];dsimp only;split at hx
   ·rename_i b k m cs hr2;rw[h.get hr2 (by nofun)];exact hx
   ·cases hx
  ·cases hx
 ·cases hx
theorem Uf{s s':Aj}(h:HO s s'){l:List IRes}{xs:List AV}(hf:II s l=none)(hx:Eo s l=some xs):II s' l=none:=by
 cases l with
 | nil=>rfl
 | cons r l =>
  cases r with
  | cell t n one =>
   cases l with
   | cons _ _=>rfl
   | nil =>
    simp only[II] at hf |-;cases hr:A8 s t with
    | box cs=>rw[h.get hr (by nofun)]
    | val x=>simp only[Eo,F2,hr] at hx;cases hx
    | own k n cs=>simp only[Eo,F2,hr] at hx;cases hx
    | agn b k n cs=>simp only[Eo,F2,hr] at hx;cases hx
    | bxl _=>simp only[Eo,F2,hr] at hx;cases hx
    | ptr _ _=>simp only[Eo,F2,hr] at hx;cases hx
    | mem _=>simp only[Eo,F2,hr] at hx;cases hx
    | dup _=>simp only[Eo,F2,hr] at hx;cases hx
    | sub _ _ _ _=>simp only[Eo,F2,hr] at hx;cases hx
    | dead=>simp only[Eo,F2,hr] at hx;cases hx
  | tmp t =>
   cases l with
   | cons r2 l2 =>
    cases r2 with
    | cell _ _ _=>rfl
    | tmp u =>
     cases l2 with
     | cons _ _=>rfl
     | nil =>
      have hru:∃ r,F2 s (.tmp u)=some r:=by
       cases h1:F2 s (.tmp t) with
       | none=>simp only[Eo,h1] at hx;cases hx
       | some x1 =>
        cases h2:F2 s (.tmp u) with
        | none=>simp only[Eo,h1,h2] at hx;cases hx
        | some x2=>exact⟨x2,rfl⟩
      have hrt:∃ r,F2 s (.tmp t)=some r:=by
       cases h1:F2 s (.tmp t) with
       | none=>simp only[Eo,h1] at hx;cases hx
       | some x1=>exact⟨x1,rfl⟩
      obtain⟨_,hru⟩:=hru;obtain⟨_,hrt⟩:=hrt;simp only[II] at hf |-;have gt:A8 s' t=A8 s t:=by
       have hne:A8 s t ≠ .dead:=by
        intro e;simp only[F2,e] at hrt;cases hrt
       exact h.get rfl hne
      have gu:A8 s' u=A8 s u:=by
       have hne:A8 s u ≠ .dead:=by
        intro e;simp only[F2,e] at hru;cases hru
       exact h.get rfl hne
      rw[gt,gu];exact hf
   | nil =>
    simp only[II] at hf |-;cases hr:A8 s t with
    | val x=>rw[h.get hr (by nofun)]
    | own k n cs=>rw[hr] at hf;cases hf
    | agn b k n cs=>rw[hr] at hf;cases hf
    | bxl _=>simp only[Eo,F2,hr] at hx;cases hx
    | box _=>simp only[Eo,F2,hr] at hx;cases hx
    | ptr _ _=>simp only[Eo,F2,hr] at hx;cases hx
    | mem _=>simp only[Eo,F2,hr] at hx;cases hx
    | dup _=>simp only[Eo,F2,hr] at hx;cases hx
    | sub _ _ _ _=>simp only[Eo,F2,hr] at hx;cases hx
    | dead=>simp only[Eo,F2,hr] at hx;cases hx
theorem Mw{f:Nat}{fn:IFunc}{args:List AV}{s:Aj}{ex:Ex}{r:AV}(hf:prog f=some fn)(hl:args.length=fn.params)(h:CE prog fn.body (HM fn args) ex s)
  (hex:∀ i,ex ≠ .exit i) (hr:HL s fn.res=some r):Iq prog f args r:=by
 obtain⟨u,k1,k2⟩:=h;refine IB hf hl k1 hex ?_;unfold HL at hr |-;cases hfr:II s fn.res with
 | some y=>rw[hfr] at hr;rw[gH k2 hfr];exact hr
 | none =>
  rw[hfr] at hr;dsimp only at hr;split at hr
  ·rename_i y hy;cases hr;rw[Uf k2 hfr hy,QG k2 hy]
  ·rename_i ys hne hy;cases hr;rw[Uf k2 hfr hy,QG k2 hy];cases ys with
   | nil=>rfl
   | cons y l =>
    cases l with
    | nil=>exact (hne y rfl).elim
    | cons _ _=>rfl
  ·cases hr
def Yw(ks:List Nat)(s:Aj):Aj:=s.zipIdx.map fun p=>if ks.contains p.2 then p.1 else .dead
theorem bK(ks:List Nat)(s:Aj):HO (Yw ks s) s:=by
 refine⟨by simp[Yw],fun t => ?_⟩;simp only[A8,Yw,Z,Cs,List.getElem?_zipIdx];cases h:s[t]? with
 | none=>simp
 | some r =>
  simp only[AF,Cb,H7];split
  ·exact .inr rfl
  ·exact .inl rfl
def Auc(prog:Nat->Option IFunc)(T:C8)(n:Nat)(c:ICode)(s:Aj)(sc:List Sc)(ks:List Nat):Option (Ex × Aj × List Prop) :=
 match Ir prog T n c s sc [] with
 | some ((ex,t),[],ps)=>some (ex,Yw ks t,ps)
 | _=>none
theorem Er{T:C8}(hT:Co prog T)(n:Nat){c:ICode}{s t:Aj}{ex:Ex}(sc:List Sc)(ks:List Nat){ps:List Prop}
  (h:Auc prog T n c s sc ks=some (ex,t,ps)) (hp:GN ps):CE prog c s ex t:=by
 unfold Auc at h;split at h
 ·rename_i ex' t' ps' h1;cases h;exact⟨_,N9 hT n sc h1 hp,bK ks _⟩
 ·cases h
theorem G{T:C8}(hT:Co prog T)(n:Nat){c:ICode}{s t:Aj}{ex:Ex}(sc:List Sc)(ks:List Nat){ps:List Prop}
  (hp:GN ps) (h:Auc prog T n c s sc ks=some (ex,t,ps):=by kernel_rfl):CE prog c s ex t:=Er hT n sc ks h hp
end
theorem ac{p:Prop}{ps:List Prop}(h:p)(hs:GN ps):GN (p::ps):=⟨h,hs⟩
theorem a0:GN []:=trivial
theorem i{prog:Nat->Option IFunc}{T:C8}(hT:Co prog T){f:Nat}{fn:IFunc}(hf:prog f=some fn)(n:Nat){args:List AV}(hl:args.length=fn.params)(sc:List Sc){r:AV}{ps:List Prop}
  (hp:GN ps) (h:Aoq prog T n fn args sc=some (r,ps):=by kernel_rfl):Iq prog f args r:=Jz hT hf n hl sc h hp
theorem Fc:false=false:=rfl
theorem Jn:¬ (32:Int)<0:=by decide
theorem QH:true=true:=rfl
theorem ZQ:¬ (63:Int)<0:=by decide
theorem G1:¬ (32:Int)=0:=by decide
theorem Jx{p1:Prop}(h1:p1):GN [p1]:=⟨h1,trivial⟩
theorem J0{p1 p2:Prop}(h1:p1)(h2:p2):GN [p1,p2]:=⟨h1,h2,trivial⟩
theorem JV{p1 p2 p3:Prop}(h1:p1)(h2:p2)(h3:p3):GN [p1,p2,p3]:=⟨h1,h2,h3,trivial⟩
theorem JS{p1 p2 p3 p4:Prop}(h1:p1)(h2:p2)(h3:p3)(h4:p4):GN [p1,p2,p3,p4]:=⟨h1,h2,h3,h4,trivial⟩
theorem JL{p1 p2 p3 p4 p5:Prop}(h1:p1)(h2:p2)(h3:p3)(h4:p4)(h5:p5):GN [p1,p2,p3,p4,p5]:=⟨h1,h2,h3,h4,h5,trivial⟩
theorem JT{p1 p2 p3 p4 p5 p6:Prop}(h1:p1)(h2:p2)(h3:p3)(h4:p4)(h5:p5)(h6:p6):GN [p1,p2,p3,p4,p5,p6]:=⟨h1,h2,h3,h4,h5,h6,trivial⟩
theorem Lm{p1 p2 p3 p4 p5 p6 p7:Prop}(h1:p1)(h2:p2)(h3:p3)(h4:p4)(h5:p5)(h6:p6)(h7:p7):GN [p1,p2,p3,p4,p5,p6,p7]:=⟨h1,h2,h3,h4,h5,h6,h7,trivial⟩
theorem ND{p1 p2 p3 p4 p5 p6 p7 p8:Prop}(h1:p1)(h2:p2)(h3:p3)(h4:p4)(h5:p5)(h6:p6)(h7:p7)(h8:p8):GN [p1,p2,p3,p4,p5,p6,p7,p8]:=⟨h1,h2,h3,h4,h5,h6,h7,h8,trivial⟩
theorem Qx{p1 p2 p3 p4 p5 p6 p7 p8 p9:Prop}(h1:p1)(h2:p2)(h3:p3)(h4:p4)(h5:p5)(h6:p6)(h7:p7)(h8:p8)(h9:p9):GN [p1,p2,p3,p4,p5,p6,p7,p8,p9]:=⟨h1,h2,h3,h4,h5,h6,h7,h8,h9,trivial⟩
theorem OS{p1 p2 p3 p4 p5 p6 p7 p8 p9 p10:Prop}(h1:p1)(h2:p2)(h3:p3)(h4:p4)(h5:p5)(h6:p6)(h7:p7)(h8:p8)(h9:p9)(h10:p10):GN [p1,p2,p3,p4,p5,p6,p7,p8,p9,p10]:=⟨h1,h2,h3,h4,h5,h6,h7,h8,h9,h10,trivial⟩
theorem NF{p1 p2 p3 p4 p5 p6 p7 p8 p9 p10 p11:Prop}(h1:p1)(h2:p2)(h3:p3)(h4:p4)(h5:p5)(h6:p6)(h7:p7)(h8:p8)(h9:p9)(h10:p10)(h11:p11):GN [p1,p2,p3,p4,p5,p6,p7,p8,p9,p10,p11]:=⟨h1,h2,h3,h4,h5,h6,h7,h8,h9,h10,h11,trivial⟩
theorem Te{p1 p2 p3 p4 p5 p6 p7 p8 p9 p10 p11 p12:Prop}(h1:p1)(h2:p2)(h3:p3)(h4:p4)(h5:p5)(h6:p6)(h7:p7)(h8:p8)(h9:p9)(h10:p10)(h11:p11)(h12:p12):GN [p1,p2,p3,p4,p5,p6,p7,p8,p9,p10,p11,p12]:=⟨h1,h2,h3,h4,h5,h6,h7,h8,h9,h10,h11,h12,trivial⟩
theorem Q8{p1 p2 p3 p4 p5 p6 p7 p8:Prop}{l:List Prop}(h1:p1)(h2:p2)(h3:p3)(h4:p4)(h5:p5)(h6:p6)(h7:p7)(h8:p8)(h:GN l):GN (p1::p2::p3::p4::p5::p6::p7::p8::l):=⟨h1,h2,h3,h4,h5,h6,h7,h8,h⟩
theorem J{prog:Nat->Option IFunc}{T:C8}(hT:Co prog T){c:ICode}{s t:Aj}{ex:Ex}(sc:List Sc)(ks:List Nat){ps:List Prop}(hp:GN ps)(h:Auc prog T 400 c s sc ks=some (ex,t,ps):=by kernel_rfl):CE prog c s ex t:=G hT 400 sc ks hp h
def bT:Sc:=.b true
def bF:Sc:=.b false
def lD:List Nat:=[0,1,4,5,6,13,14]
def XX:List Nat:=[0,1,4,5,6,21,22]
def gG:List Nat:=[0,1,4,5,6,7,8,9,10]
def Tx:List Nat:=[0,1,4,5,6,7,8]
def QF:List Nat:=[0,1,4,5,6,7]
def Tf:List Nat:=[0,1,4,5,6]
def NB:List Nat:=[0,1,4,5]
def lO:List Nat:=[0,1,4,6,21,22,51,52,53,54,55,56]
def fT:List Nat:=[0,1,4,6,7,8,9,10]
def Qy:List Nat:=[0,1,4]
def Qz:List Nat:=[0,1,5,6,7]
def XY:List Nat:=[0,2,3,4,5,6,7]
def Ll:List Nat:=[0,2,3,4,5]
def KK:List Nat:=[0,2,3,4]
def Mu:List Nat:=[0,2,3]
def St:List Nat:=[0,3,5,6,7]
def oM:List Nat:=[1,2,3,4,21,22,23,24,25,26,27,28,29,30]
def Yg:List Nat:=[1,2,3,4]
def OX:List Nat:=[1,2,4,5,6,7,8]
def PL:List Nat:=[1,2,4,5,6,7,9,10]
def kQ:List Nat:=[1,5,6,7,8,9,44,45]
def kR:List Nat:=[1,5,6,7,8,9,59,60]
def kU:List Nat:=[1,5,6,7,8,9,78,79]
def fV:List Nat:=[1,5,6,7,8]
def Yh:List Nat:=[1,5,6,9,11,13,63,64]
def fW:List Nat:=[2,12,13,14,21,22,23]
def fY:List Nat:=[2,12,13,14]
def Th:List Nat:=[2,3,4,10,11,12,14,50,51,52,73,74,75]
def PM:List Nat:=[2,3,4,10,50,51,52]
def S_:List Nat:=[2,3,4,5,10,11,12]
def Sv:List Nat:=[2,3,4,5,17,18,19]
def Q6:List Nat:=[2,3,4,5,6]
def Q7:List Nat:=[2,3,4,5]
def Sw:List Nat:=[2,3,4]
def kV:List Nat:=[2,6,7,8,12,13,14,21,22,23]
def Yk:List Nat:=[2,6,7,8]
def Vk:List Nat:=[3,13,73,74]
def PK:List Nat:=[3,14,15,16,27,28,29]
def Vm:List Nat:=[3,14,15,16]
def Wm:List Nat:=[3,5,6,10,11,12]
def Ym:List Nat:=[3,9,10,11,14,15,16,27,28,29]
def Tc:List Nat:=[4,5,6,7,8,9,10,11]
def fZ:List Nat:=[4,5,6,7,8,9,10,12,13]
def gA:List Nat:=[4,5,6,7,8,9,10]
def Yo:List Nat:=[4,5,6,7,8,9,11,12]
def gB:List Nat:=[4,5,6,7,8]
def Wn:List Nat:=[4,5,6,7]
def NC:List Nat:=[4,5,6]
def Ys:List Nat:=[4,5,7,8,9,10,11,12,41,42,43,48,49,50]
def bG:List Nat:=[4,5,7,8,9,33,34,35]
def bH:List Nat:=[4,5,7,8,9,41,42,43]
def XQ:List Nat:=[4,5,8,9,11,28]
def Q9:List Nat:=[4,5,9,10,11,12,13,14,16,17]
def XR:List Nat:=[4,5,9,10,11,12,13,14,16,18,19,20]
def bI:List Nat:=[4,5,9,10,11,12,13,14,16,23,24]
def kY:List Nat:=[4,5,9,10,11,12,13,14,16,253]
def PN:List Nat:=[4,5,9,10,11,12,13,14]
def QA:List Nat:=[4,8,9,10,11,13,14,15,17,18]
def XT:List Nat:=[4,8,9,10,11,13,14,15,17,19,20,21]
def lC:List Nat:=[4,8,9,10,11,13,14,15,17,199]
def bJ:List Nat:=[4,8,9,10,11,13,14,15,17,25,26]
def Qw:List Nat:=[4,8,9,10,11,13,14,15]
theorem AC{prog:Nat->Option IFunc}{f:Nat}{args:List AV}{r:AV}(fn:IFunc)(s:Aj)(h:CE prog fn.body (HM fn args) .ret s)(hf:prog f=some fn:=by exact rfl)(hl:args.length=fn.params:=by exact rfl)(hr:HL s fn.res=some r:=by exact rfl):Iq prog f args r:=Mw hf hl h (by nofun) hr
theorem N_{b:Bool}(h:b=true):(!b)=false:=by rw[h];rfl
theorem Yx{b:Bool}(h:b=false):(!b)=true:=by rw[h];rfl
end Go.Ai
