/- Texts of the proof of ContactStates: part 12 of 18. -/
import Derived.Test.YtenfgdobfjofkaaGreatCst11
namespace Go.Proofs.YtenfgdobfjofkaaGreat
open Go.Ai Go.RowKit Go.Hp
set_option maxRecDepth 100000
open Go.Calls renaming mono->vW
open Go.Proofs.Tryz renaming prog->g
open List renaming map_cons->Bg,map_nil->C1
open List.cons renaming injEq->Avt
open Nat renaming lt_of_not_le->Hd
open Option renaming rec->HW
open UInt8 renaming toNat->AFk
noncomputable section
def ABy:List Nat:=[0,0,0,0,0,0,0,0,0,0,0,0,0,0,0,0,0,0,0,0,0,0,0,0,0,0,0,0,0,0,0,0,0,141,0,0,0,0,0,0,0,0,0,0,0,0,0,0,0,0,0,0,0,0,0,0,0,0,0,0,0,0,0,0,0,0,0,0,0,0,0,0,0,0,0,0,0,0,0,0,0,0,0,0,0,0,0,0,0,0,0,0,0,0,0,0,0,0,0,0,0,0,0,0,0,0,7,8390647,51,0,0,0,0,0,0,0,13,0,0,0,0,0,0,0,0,0,0,0,0,0,0,0,0,0,0,0,0,0,0,0,0,0,0,0,0,0,0,0,0,0,0,0,0,527,0,0,0,0,0,0,0,0,0,0,0,0,0,0,0,0,0,0,0,0,0,0,0,0,0,0,0,0,0,0,0,0,0,0,0,0,0,0,0,0,0,0,0,0,0,0,0,0,0,0,0,0,0,0,0,0,633825451229914227763255975927,32781,0,0,0,0,0,0,0,576469548934499327,0,0,0,2147484605,0,0,0,1101660193843,0,0,0,0,0,0,0,0,0,0,0,0,0,0,0,0,0,0,33562751,0,0,0,0,0,0,31,0,7,0,0,0,0,0,0,0,0,0,0,0,0,0,0,0,0,0,0,0,0,0,0,0,477642368103929306574193898073005562001783721220932305682880536672227400089587,0,0,0,0,0,0,0,0,0,275014222067,533491]
def mkD(f:Nat):Nat:=HW (motive:=fun _=>Nat) 0 (fun x=>x) (mV ABy f)
def nH(b:Nat)(o:Option (HV × HS)):Bool:=match o with
 | some (.c (.string x),_)=>x.data.toList.map AFk==[b]
 | _=>false
theorem Auz{x:ByteArray}{b:UInt8}(h:x.data.toList.map AFk=[b.toNat]):x=⟨#[b]⟩:=by
 rcases x with ⟨⟨l⟩⟩;match l,h with
 | [c],h =>
  simp only[Bg,C1,Avt,and_true] at h;rw[UInt8.toNat_inj.1 h]
 | _::_::_,h=>simp at h
theorem Aei{P:Program}{call:BI}(hc:HOk P call){fn:Nat}{l:List HV}{vals:Array Value}(hl:VY (fun _=>none) l vals){b:UInt8}(h:nH b.toNat (call (.f fn [] []) l ⟨.e,0,[]⟩)=true)(w:World) :
  Calls P fn vals w fun e w'=>e = .returned (.string ⟨#[b]⟩)/\Below w.heap.size w w':=by
 unfold nH at h;split at h
 next x s' hs=>have a:=Auz (b:=b) (AM.1 h);subst a;refine vW (Aox hc hl hs w) fun e w' c => ?_;obtain⟨v,μ,rfl,d,hb⟩:=c;cases d;exact⟨rfl,hb⟩
 ·cases h
theorem U2{w w':World}{R:Nat->Prop}(hb:Below w.heap.size w w'):Grown ⟨w,R⟩ w':=⟨hb.os,hb.tape,hb.output,hb.size,fun b a=>hb.block b (Hd fun e=>a (.inl e))⟩
theorem dig1:nH 49 (Jm g 1000000 mkD 200 (.f 116 [] []) [.i .i64 1] ⟨.e,0,[]⟩)=true:=by kernel_rfl
theorem dig2:nH 50 (Jm g 1000000 mkD 200 (.f 116 [] []) [.i .i64 2] ⟨.e,0,[]⟩)=true:=by kernel_rfl
theorem dig3:nH 51 (Jm g 1000000 mkD 200 (.f 116 [] []) [.i .i64 3] ⟨.e,0,[]⟩)=true:=by kernel_rfl
theorem nmT:Avv.all (fun l=>okB (Jm g 1000000 mkD 200 (.f 223 [] []) [.c (.string ⟨l.toArray⟩)] ⟨.e,0,[]⟩))=true:=by kernel_rfl
end
noncomputable section
def vI:Pc:={ fn:=162,args:=[.g [.i .i64 0,.i .i64 150,.i .i64 0,.i .i64 (-100),.i .i64 0,.i .i64 0],.g [.i .i64 (-500),.i .i64 0],.g [.i .i64 500,.i .i64 0],.i .i64 100],nx:=171,hin:=[],x := .s 1487 0 3 (.d 1),nx':=1488,tch:=[],out:=[(540,[.b true,.s 544 0 1 (.k 1),.b false,.s 549 0 1 (.k 1),.b true,.s 554 0 1 (.k 1)]),(544,[.i .u32 262500]),(549,[.i .u32 30000]),(554,[.i .u32 10000]),(556,[.s 540 0 3 (.k 3)]),(744,[.b false,.s 748 0 1 (.k 1)]),(748,[.i .u32 500000]),(940,[.b false,.s 944 0 1 (.k 1)]),(944,[.i .u32 500000]),(1094,[.b true,.s 1098 0 2 (.k 2),.b false,.s 1103 0 2 (.k 2),.b true,.s 1108 0 2 (.k 2)]),(1098,[.i .u32 3910065408,.i .u32 2]),(1103,[.i .u32 4230196224,.i .u32 6]),(1108,[.i .u32 1410065408,.i .u32 2]),(1110,[.s 744 0 1 (.k 1),.s 940 0 1 (.k 1),.s 1094 0 3 (.k 3)]),(1469,[.b true,.s 1473 0 1 (.k 1),.b false,.s 1478 0 1 (.k 1),.b true,.s 1483 0 1 (.k 1)]),(1473,[.i .u32 262500]),(1478,[.i .u32 30000]),(1483,[.i .u32 10000]),(1485,[.s 1469 0 3 (.k 3)]),(1487,[.s 556 0 1 (.k 1),.s 1485 0 1 (.k 1),.s 1110 0 3 (.k 3)])] }
theorem A7s:vI.look (RE g 1000000 SU tb0 200 (.f vI.fn [] []) vI.args vI.sIn)=some (vI.x,vI.nx',vI.out.map (fun o=>some (.c o.2)),true):=by kernel_rfl
def tb1:Tr Pc:=tb0.set vI.nx (some vI)
theorem Apb:Fw g tb1:=Fw.add Apa (Hb (Gn GO Apa 200) (by kernel_rfl) A7s)
end
noncomputable section
def vJ:Pc:={ fn:=271,args:=[.s 2122 0 3 (.k 3),.s 2170 0 2 (.k 2)],nx:=2181,hin:=[(2122,[.b false,.s 2126 0 1 (.k 1),.b true,.s 2131 0 1 (.k 1),.b false,.s 2136 0 1 (.k 1)]),(2126,[.i .u32 5]),(2131,[.i .u32 12]),(2136,[.i .u32 4]),(2170,[.b true,.s 2174 0 1 (.k 1),.b false,.s 2179 0 1 (.k 1)]),(2174,[.i .u32 12]),(2179,[.i .u32 8])],x := .s 3128 0 1 (.k 1),nx':=3134,tch:=[],out:=[(3128,[.b false,.s 3132 0 1 (.k 1)]),(3132,[.i .u32 1])] }
theorem A7t:vJ.look (RE g 1000000 SU tb1 200 (.f vJ.fn [] []) vJ.args vJ.sIn)=some (vJ.x,vJ.nx',vJ.out.map (fun o=>some (.c o.2)),true):=by kernel_rfl
def tb2:Tr Pc:=tb1.set vJ.nx (some vJ)
theorem Apc:Fw g tb2:=Fw.add Apb (Hb (Gn GO Apb 200) (by kernel_rfl) A7t)
end
noncomputable section
def vK:Pc:={ fn:=204,args:=[.s 1858 0 3 (.k 3)],nx:=2002,hin:=[(1858,[.b true,.s 1862 0 2 (.k 2),.b false,.s 1867 0 2 (.k 2),.b true,.s 1872 0 2 (.k 2)]),(1862,[.i .u32 3910065408,.i .u32 2]),(1867,[.i .u32 4230196224,.i .u32 6]),(1872,[.i .u32 1410065408,.i .u32 2])],x := .s 3728 0 3 (.d 1),nx':=4036,tch:=[],out:=[(2122,[.b false,.s 2126 0 1 (.k 1),.b true,.s 2131 0 1 (.k 1),.b false,.s 2136 0 1 (.k 1)]),(2126,[.i .u32 5]),(2131,[.i .u32 12]),(2136,[.i .u32 4]),(3180,[.b true,.s 3245 0 1 (.k 1),.b false,.s 3255 0 1 (.k 1)]),(3245,[.i .u32 3]),(3255,[.i .u32 2]),(3721,[.b false,.s 3725 0 1 (.k 1)]),(3725,[.i .u32 1]),(3728,[.s 2122 0 3 (.k 3),.s 3180 0 2 (.k 2),.s 3721 0 1 (.k 1)])] }
theorem A7u:vK.look (RE g 1000000 SU tb2 200 (.f vK.fn [] []) vK.args vK.sIn)=some (vK.x,vK.nx',vK.out.map (fun o=>some (.c o.2)),true):=by kernel_rfl
def tb3:Tr Pc:=tb2.set vK.nx (some vK)
theorem Apd:Fw g tb3:=Fw.add Apc (Hb (Gn GO Apc 200) (by kernel_rfl) A7u)
end
noncomputable section
def vL:Pc:={ fn:=329,args:=[.s 1992 0 1 (.d 1)],nx:=1996,hin:=[(1858,[.b true,.s 1862 0 2 (.k 2),.b false,.s 1867 0 2 (.k 2),.b true,.s 1872 0 2 (.k 2)]),(1862,[.i .u32 3910065408,.i .u32 2]),(1867,[.i .u32 4230196224,.i .u32 6]),(1872,[.i .u32 1410065408,.i .u32 2]),(1992,[.s 1858 0 3 (.k 3)])],x := .s 4402 0 1 (.d 7),nx':=4664,tch:=[],out:=[(2122,[.b false,.s 2126 0 1 (.k 1),.b true,.s 2131 0 1 (.k 1),.b false,.s 2136 0 1 (.k 1)]),(2126,[.i .u32 5]),(2131,[.i .u32 12]),(2136,[.i .u32 4]),(4402,[.s 2122 0 3 (.k 3),.b false,.sn,.i .i64 0,.b false,.s 4470 0 1 (.k 1),.i .i64 1]),(4470,[.i .u32 1])] }
theorem A7v:vL.look (RE g 1000000 SU tb3 200 (.f vL.fn [] []) vL.args vL.sIn)=some (vL.x,vL.nx',vL.out.map (fun o=>some (.c o.2)),true):=by kernel_rfl
def tb4:Tr Pc:=tb3.set vL.nx (some vL)
theorem Ape:Fw g tb4:=Fw.add Apd (Hb (Gn GO Apd 200) (by kernel_rfl) A7v)
end
noncomputable section
def vM:Pc:={ fn:=281,args:=[.s 1487 0 3 (.d 1)],nx:=1521,hin:=[(540,[.b true,.s 544 0 1 (.k 1),.b false,.s 549 0 1 (.k 1),.b true,.s 554 0 1 (.k 1)]),(544,[.i .u32 262500]),(549,[.i .u32 30000]),(554,[.i .u32 10000]),(556,[.s 540 0 3 (.k 3)]),(744,[.b false,.s 748 0 1 (.k 1)]),(748,[.i .u32 500000]),(940,[.b false,.s 944 0 1 (.k 1)]),(944,[.i .u32 500000]),(1094,[.b true,.s 1098 0 2 (.k 2),.b false,.s 1103 0 2 (.k 2),.b true,.s 1108 0 2 (.k 2)]),(1098,[.i .u32 3910065408,.i .u32 2]),(1103,[.i .u32 4230196224,.i .u32 6]),(1108,[.i .u32 1410065408,.i .u32 2]),(1110,[.s 744 0 1 (.k 1),.s 940 0 1 (.k 1),.s 1094 0 3 (.k 3)]),(1469,[.b true,.s 1473 0 1 (.k 1),.b false,.s 1478 0 1 (.k 1),.b true,.s 1483 0 1 (.k 1)]),(1473,[.i .u32 262500]),(1478,[.i .u32 30000]),(1483,[.i .u32 10000]),(1485,[.s 1469 0 3 (.k 3)]),(1487,[.s 556 0 1 (.k 1),.s 1485 0 1 (.k 1),.s 1110 0 3 (.k 3)])],x := .t [.g [.s 2122 0 3 (.k 3),.b false,.sn,.i .i64 0,.b false,.s 4470 0 1 (.k 1),.i .i64 1],.b true],nx':=4783,tch:=[],out:=[(2122,[.b false,.s 2126 0 1 (.k 1),.b true,.s 2131 0 1 (.k 1),.b false,.s 2136 0 1 (.k 1)]),(2126,[.i .u32 5]),(2131,[.i .u32 12]),(2136,[.i .u32 4]),(4470,[.i .u32 1])] }
theorem A7w:vM.look (RE g 1000000 SU tb4 200 (.f vM.fn [] []) vM.args vM.sIn)=some (vM.x,vM.nx',vM.out.map (fun o=>some (.c o.2)),true):=by kernel_rfl
def tb5:Tr Pc:=tb4.set vM.nx (some vM)
theorem Apf:Fw g tb5:=Fw.add Ape (Hb (Gn GO Ape 200) (by kernel_rfl) A7w)
end
noncomputable section
def vN:Pc:={ fn:=271,args:=[.s 4892 0 3 (.k 3),.s 5012 0 2 (.k 2)],nx:=5023,hin:=[(4892,[.b false,.s 4896 0 1 (.k 1),.b true,.s 4901 0 1 (.k 1),.b false,.s 4906 0 1 (.k 1)]),(4896,[.i .u32 5]),(4901,[.i .u32 12]),(4906,[.i .u32 4]),(5012,[.b true,.s 5016 0 1 (.k 1),.b false,.s 5021 0 1 (.k 1)]),(5016,[.i .u32 12]),(5021,[.i .u32 8])],x := .s 5970 0 1 (.k 1),nx':=5976,tch:=[],out:=[(5970,[.b false,.s 5974 0 1 (.k 1)]),(5974,[.i .u32 1])] }
theorem A7x:vN.look (RE g 1000000 SU tb5 200 (.f vN.fn [] []) vN.args vN.sIn)=some (vN.x,vN.nx',vN.out.map (fun o=>some (.c o.2)),true):=by kernel_rfl
def tb6:Tr Pc:=tb5.set vN.nx (some vN)
theorem Apg:Fw g tb6:=Fw.add Apf (Hb (Gn GO Apf 200) (by kernel_rfl) A7x)
end
noncomputable section
def vO:Pc:={ fn:=204,args:=[.s 4788 0 3 (.k 3)],nx:=4890,hin:=[(4788,[.b false,.s 4792 0 1 (.k 1),.b true,.s 4797 0 1 (.k 1),.b false,.s 4802 0 1 (.k 1)]),(4792,[.i .u32 5]),(4797,[.i .u32 12]),(4802,[.i .u32 4])],x := .s 6570 0 3 (.d 1),nx':=6878,tch:=[],out:=[(4892,[.b false,.s 4896 0 1 (.k 1),.b true,.s 4901 0 1 (.k 1),.b false,.s 4906 0 1 (.k 1)]),(4896,[.i .u32 5]),(4901,[.i .u32 12]),(4906,[.i .u32 4]),(6022,[.b true,.s 6087 0 1 (.k 1),.b false,.s 6097 0 1 (.k 1)]),(6087,[.i .u32 3]),(6097,[.i .u32 2]),(6563,[.b false,.s 6567 0 1 (.k 1)]),(6567,[.i .u32 1]),(6570,[.s 4892 0 3 (.k 3),.s 6022 0 2 (.k 2),.s 6563 0 1 (.k 1)])] }
theorem A7y:vO.look (RE g 1000000 SU tb6 200 (.f vO.fn [] []) vO.args vO.sIn)=some (vO.x,vO.nx',vO.out.map (fun o=>some (.c o.2)),true):=by kernel_rfl
def tb7:Tr Pc:=tb6.set vO.nx (some vO)
theorem Aph:Fw g tb7:=Fw.add Apg (Hb (Gn GO Apg 200) (by kernel_rfl) A7y)
end
noncomputable section
def vP:Pc:={ fn:=271,args:=[.s 7130 0 3 (.k 3),.s 7250 0 2 (.k 2)],nx:=7261,hin:=[(7130,[.b false,.s 7134 0 1 (.k 1),.b true,.s 7139 0 1 (.k 1),.b false,.s 7144 0 1 (.k 1)]),(7134,[.i .u32 5]),(7139,[.i .u32 12]),(7144,[.i .u32 4]),(7250,[.b true,.s 7254 0 1 (.k 1),.b false,.s 7259 0 1 (.k 1)]),(7254,[.i .u32 12]),(7259,[.i .u32 8])],x := .s 8208 0 1 (.k 1),nx':=8214,tch:=[],out:=[(8208,[.b false,.s 8212 0 1 (.k 1)]),(8212,[.i .u32 1])] }
theorem A7z:vP.look (RE g 1000000 SU tb7 200 (.f vP.fn [] []) vP.args vP.sIn)=some (vP.x,vP.nx',vP.out.map (fun o=>some (.c o.2)),true):=by kernel_rfl
def tb8:Tr Pc:=tb7.set vP.nx (some vP)
theorem Api:Fw g tb8:=Fw.add Aph (Hb (Gn GO Aph 200) (by kernel_rfl) A7z)
end
noncomputable section
def vQ:Pc:={ fn:=249,args:=[.g [.s 7130 0 3 (.k 3),.b false,.sn,.i .i64 0,.b false,.s 4815 0 1 (.k 1),.i .i64 1],.i .i64 4],nx:=8214,hin:=[(4815,[.i .u32 1]),(7130,[.b false,.s 7134 0 1 (.k 1),.b true,.s 7139 0 1 (.k 1),.b false,.s 7144 0 1 (.k 1)]),(7134,[.i .u32 5]),(7139,[.i .u32 12]),(7144,[.i .u32 4])],x := .g [.b false,.s 8992 0 1 (.k 1)],nx':=9122,tch:=[],out:=[(8992,[.i .u32 8,.i .u32 0])] }
theorem A8a:vQ.look (RE g 1000000 SU tb8 200 (.f vQ.fn [] []) vQ.args vQ.sIn)=some (vQ.x,vQ.nx',vQ.out.map (fun o=>some (.c o.2)),true):=by kernel_rfl
def tb9:Tr Pc:=tb8.set vQ.nx (some vQ)
theorem Apj:Fw g tb9:=Fw.add Api (Hb (Gn GO Api 200) (by kernel_rfl) A8a)
end
noncomputable section
def U3:Pc:={ fn:=179,args:=[.g [.s 4788 0 3 (.k 3),.b false,.sn,.i .i64 0,.b false,.s 4815 0 1 (.k 1),.i .i64 1],.i .i64 4],nx:=4826,hin:=[(4788,[.b false,.s 4792 0 1 (.k 1),.b true,.s 4797 0 1 (.k 1),.b false,.s 4802 0 1 (.k 1)]),(4792,[.i .u32 5]),(4797,[.i .u32 12]),(4802,[.i .u32 4]),(4815,[.i .u32 1])],x := .t [.g [.b false,.s 8992 0 1 (.k 1)],.i .i64 0],nx':=9122,tch:=[],out:=[(8992,[.i .u32 8,.i .u32 0])] }
theorem Ava:U3.look (RE g 1000000 SU tb9 200 (.f U3.fn [] []) U3.args U3.sIn)=some (U3.x,U3.nx',U3.out.map (fun o=>some (.c o.2)),true):=by kernel_rfl
def A8b:Tr Pc:=tb9.set U3.nx (some U3)
theorem Aej:Fw g A8b:=Fw.add Apj (Hb (Gn GO Apj 200) (by kernel_rfl) Ava)
end
noncomputable section
def U4:Pc:={ fn:=162,args:=[.g [.i .i64 0,.i .i64 150,.i .i64 0,.i .i64 (-50),.i .i64 0,.i .i64 0],.g [.i .i64 (-500),.i .i64 0],.g [.i .i64 500,.i .i64 0],.i .i64 100],nx:=9383,hin:=[],x := .s 10699 0 3 (.d 1),nx':=10700,tch:=[],out:=[(9752,[.b true,.s 9756 0 1 (.k 1),.b false,.s 9761 0 1 (.k 1),.b true,.s 9766 0 1 (.k 1)]),(9756,[.i .u32 262500]),(9761,[.i .u32 15000]),(9766,[.i .u32 2500]),(9768,[.s 9752 0 3 (.k 3)]),(9956,[.b false,.s 9960 0 1 (.k 1)]),(9960,[.i .u32 500000]),(10152,[.b false,.s 10156 0 1 (.k 1)]),(10156,[.i .u32 500000]),(10306,[.b true,.s 10310 0 2 (.k 2),.b false,.s 10315 0 2 (.k 2),.b true,.s 10320 0 1 (.k 1)]),(10310,[.i .u32 3910065408,.i .u32 2]),(10315,[.i .u32 2115098112,.i .u32 3]),(10320,[.i .u32 2500000000]),(10322,[.s 9956 0 1 (.k 1),.s 10152 0 1 (.k 1),.s 10306 0 3 (.k 3)]),(10681,[.b true,.s 10685 0 1 (.k 1),.b false,.s 10690 0 1 (.k 1),.b true,.s 10695 0 1 (.k 1)]),(10685,[.i .u32 262500]),(10690,[.i .u32 15000]),(10695,[.i .u32 2500]),(10697,[.s 10681 0 3 (.k 3)]),(10699,[.s 9768 0 1 (.k 1),.s 10697 0 1 (.k 1),.s 10322 0 3 (.k 3)])] }
theorem Avb:U4.look (RE g 1000000 SU A8b 200 (.f U4.fn [] []) U4.args U4.sIn)=some (U4.x,U4.nx',U4.out.map (fun o=>some (.c o.2)),true):=by kernel_rfl
def A8c:Tr Pc:=A8b.set U4.nx (some U4)
theorem Aek:Fw g A8c:=Fw.add Aej (Hb (Gn GO Aej 200) (by kernel_rfl) Avb)
end
noncomputable section
def U5:Pc:={ fn:=281,args:=[.s 10699 0 3 (.d 1)],nx:=10733,hin:=[(9752,[.b true,.s 9756 0 1 (.k 1),.b false,.s 9761 0 1 (.k 1),.b true,.s 9766 0 1 (.k 1)]),(9756,[.i .u32 262500]),(9761,[.i .u32 15000]),(9766,[.i .u32 2500]),(9768,[.s 9752 0 3 (.k 3)]),(9956,[.b false,.s 9960 0 1 (.k 1)]),(9960,[.i .u32 500000]),(10152,[.b false,.s 10156 0 1 (.k 1)]),(10156,[.i .u32 500000]),(10306,[.b true,.s 10310 0 2 (.k 2),.b false,.s 10315 0 2 (.k 2),.b true,.s 10320 0 1 (.k 1)]),(10310,[.i .u32 3910065408,.i .u32 2]),(10315,[.i .u32 2115098112,.i .u32 3]),(10320,[.i .u32 2500000000]),(10322,[.s 9956 0 1 (.k 1),.s 10152 0 1 (.k 1),.s 10306 0 3 (.k 3)]),(10681,[.b true,.s 10685 0 1 (.k 1),.b false,.s 10690 0 1 (.k 1),.b true,.s 10695 0 1 (.k 1)]),(10685,[.i .u32 262500]),(10690,[.i .u32 15000]),(10695,[.i .u32 2500]),(10697,[.s 10681 0 3 (.k 3)]),(10699,[.s 9768 0 1 (.k 1),.s 10697 0 1 (.k 1),.s 10322 0 3 (.k 3)])],x := .t [.g [.sn,.b false,.sn,.i .i64 0,.b false,.sn,.i .i64 0],.b false],nx':=11204,tch:=[],out:=[] }
theorem Avc:U5.look (RE g 1000000 SU A8c 200 (.f U5.fn [] []) U5.args U5.sIn)=some (U5.x,U5.nx',U5.out.map (fun o=>some (.c o.2)),true):=by kernel_rfl
def A8d:Tr Pc:=A8c.set U5.nx (some U5)
theorem Ael:Fw g A8d:=Fw.add Aek (Hb (Gn GO Aek 200) (by kernel_rfl) Avc)
end
noncomputable section
def U6:Pc:={ fn:=112,args:=[.s 11414 0 3 (.d 2),.s 11458 0 2 (.d 2)],nx:=11459,hin:=[(11400,[.i .u32 5]),(11406,[.i .u32 12]),(11412,[.i .u32 4]),(11414,[.b false,.s 11400 0 1 (.d 1),.b true,.s 11406 0 1 (.d 1),.b false,.s 11412 0 1 (.d 1)]),(11450,[.i .u32 12]),(11456,[.i .u32 8]),(11458,[.b true,.s 11450 0 1 (.d 1),.b false,.s 11456 0 1 (.d 1)])],x := .s 12514 0 1 (.d 2),nx':=12515,tch:=[],out:=[(12512,[.i .u32 1]),(12514,[.b false,.s 12512 0 1 (.d 1)])] }
theorem Avd:U6.look (RE g 1000000 SU A8d 200 (.f U6.fn [] []) U6.args U6.sIn)=some (U6.x,U6.nx',U6.out.map (fun o=>some (.c o.2)),true):=by kernel_rfl
def A8e:Tr Pc:=A8d.set U6.nx (some U6)
theorem Aem:Fw g A8e:=Fw.add Ael (Hb (Gn GO Ael 200) (by kernel_rfl) Avd)
end
noncomputable section
def U7:Pc:={ fn:=115,args:=[.s 4788 0 3 (.k 3)],nx:=11208,hin:=[(4788,[.b false,.s 4792 0 1 (.k 1),.b true,.s 4797 0 1 (.k 1),.b false,.s 4802 0 1 (.k 1)]),(4792,[.i .u32 5]),(4797,[.i .u32 12]),(4802,[.i .u32 4])],x := .s 12889 0 3 (.d 2),nx':=12892,tch:=[],out:=[(12875,[.i .u32 5]),(12881,[.i .u32 12]),(12887,[.i .u32 4]),(12889,[.b false,.s 12875 0 1 (.d 1),.b true,.s 12881 0 1 (.d 1),.b false,.s 12887 0 1 (.d 1)])] }
theorem Ave:U7.look (RE g 1000000 SU A8e 200 (.f U7.fn [] []) U7.args U7.sIn)=some (U7.x,U7.nx',U7.out.map (fun o=>some (.c o.2)),true):=by kernel_rfl
def AFl:Tr Pc:=A8e.set U7.nx (some U7)
theorem A8f:Fw g AFl:=Fw.add Aem (Hb (Gn GO Aem 200) (by kernel_rfl) Ave)
end
end Go.Proofs.YtenfgdobfjofkaaGreat
