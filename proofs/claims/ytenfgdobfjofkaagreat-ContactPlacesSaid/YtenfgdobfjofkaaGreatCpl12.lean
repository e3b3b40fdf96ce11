/- Texts of the proof of ContactPlaces: part 12 of 17. -/
import Derived.Test.YtenfgdobfjofkaaGreatCpl11
namespace Go.Proofs.YtenfgdobfjofkaaGreat
open Go.Ai Go.RowKit Go.Hp
set_option maxRecDepth 100000
open Go.Calls renaming mono->iB
open Go.Proofs.Tryz renaming prog->g
open List renaming map_cons->BQ,map_nil->RK
open Nat renaming lt_of_not_le->Gd
open Option renaming rec->GQ
open UInt8 renaming toNat->Axv
noncomputable section
def Aue:List Nat:=[0,0,0,0,0,0,0,0,0,0,0,0,0,0,0,0,0,0,0,0,0,0,0,0,0,0,0,0,0,0,0,0,0,141,0,0,0,0,0,0,0,0,0,0,0,0,0,0,0,0,0,0,0,0,0,0,0,0,0,0,0,0,0,0,0,0,0,0,0,0,0,0,0,0,0,0,0,0,0,0,0,0,0,0,0,0,0,0,0,0,0,0,0,0,0,0,0,0,0,0,0,0,0,0,0,0,7,8390647,51,0,0,0,0,0,0,0,13,0,0,0,0,0,0,0,0,0,0,0,0,0,0,0,0,0,0,0,0,0,0,0,0,0,0,0,0,0,0,0,0,0,0,0,0,527,0,0,0,0,0,0,0,0,0,0,0,0,0,0,0,0,0,0,0,0,0,0,0,0,0,0,0,0,0,0,0,0,0,0,0,0,0,0,0,0,0,0,0,0,0,0,0,0,0,0,0,0,0,0,0,0,633825451229914227763255975927,32781,0,0,0,0,0,0,0,576469548934499327,0,0,0,0,0,0,0,1101660193843,0,0,0,0,0,0,0,0,0,0,0,0,0,0,0,0,0,0,33562751,0,0,0,0,0,0,31,0,7,0,0,0,0,0,0,0,0,0,0,0,0,0,0,0,0,0,0,0,0,0,0,0,477642368103929306574193898073005562001783721220932305682880536672227400089587,0,0,0,0,0,0,0,0,0,275014222067,533491]
def mkD(f:Nat):Nat:=GQ (motive:=fun _=>Nat) 0 (fun x=>x) (ZV Aue f)
def aG(b:Nat)(o:Option (HV × HS)):Bool:=match o with
 | some (.c (.string x),_)=>x.data.toList.map Axv==[b]
 | _=>false
theorem Afu{x:ByteArray}{b:UInt8}(h:x.data.toList.map Axv=[b.toNat]):x=⟨#[b]⟩:=by
 rcases x with ⟨⟨l⟩⟩;match l,h with
 | [c],h =>
  simp only[BQ,RK,List.cons.injEq,and_true] at h;rw[UInt8.toNat_inj.1 h]
 | _::_::_,h=>simp at h
theorem qG{P:Program}{call:B0}(hc:HOk P call){fn:Nat}{l:List HV}{vals:Array Value}(hl:SM (fun _=>none) l vals){b:UInt8}(h:aG b.toNat (call (.f fn [] []) l ⟨.e,0,[]⟩)=true)(w:World) :
  Calls P fn vals w fun e w'=>e = .returned (.string ⟨#[b]⟩)/\Below w.heap.size w w':=by
 unfold aG at h;split at h
 next x s' hs=>have a:=Afu (b:=b) (AW.1 h);subst a;refine iB (Aae hc hl hs w) fun e w' c => ?_;obtain⟨v,μ,rfl,d,hb⟩:=c;cases d;exact⟨rfl,hb⟩
 ·cases h
theorem R9{w w':World}{R:Nat->Prop}(hb:Below w.heap.size w w'):Grown ⟨w,R⟩ w':=⟨hb.os,hb.tape,hb.output,hb.size,fun b a=>hb.block b (Gd fun e=>a (.inl e))⟩
theorem dig1:aG 49 (Ia g 1000000 mkD 200 (.f 116 [] []) [.i .i64 1] ⟨.e,0,[]⟩)=true:=by kernel_rfl
theorem dig2:aG 50 (Ia g 1000000 mkD 200 (.f 116 [] []) [.i .i64 2] ⟨.e,0,[]⟩)=true:=by kernel_rfl
theorem dig3:aG 51 (Ia g 1000000 mkD 200 (.f 116 [] []) [.i .i64 3] ⟨.e,0,[]⟩)=true:=by kernel_rfl
end
noncomputable section
def gO:Pc:={ fn:=162,args:=[.g [.i .i64 0,.i .i64 150,.i .i64 0,.i .i64 (-100),.i .i64 0,.i .i64 0],.g [.i .i64 (-500),.i .i64 0],.g [.i .i64 500,.i .i64 0],.i .i64 100],nx:=171,hin:=[],x := .s 1487 0 3 (.d 1),nx':=1488,tch:=[],out:=[(540,[.b true,.s 544 0 1 (.k 1),.b false,.s 549 0 1 (.k 1),.b true,.s 554 0 1 (.k 1)]),(544,[.i .u32 262500]),(549,[.i .u32 30000]),(554,[.i .u32 10000]),(556,[.s 540 0 3 (.k 3)]),(744,[.b false,.s 748 0 1 (.k 1)]),(748,[.i .u32 500000]),(940,[.b false,.s 944 0 1 (.k 1)]),(944,[.i .u32 500000]),(1094,[.b true,.s 1098 0 2 (.k 2),.b false,.s 1103 0 2 (.k 2),.b true,.s 1108 0 2 (.k 2)]),(1098,[.i .u32 3910065408,.i .u32 2]),(1103,[.i .u32 4230196224,.i .u32 6]),(1108,[.i .u32 1410065408,.i .u32 2]),(1110,[.s 744 0 1 (.k 1),.s 940 0 1 (.k 1),.s 1094 0 3 (.k 3)]),(1469,[.b true,.s 1473 0 1 (.k 1),.b false,.s 1478 0 1 (.k 1),.b true,.s 1483 0 1 (.k 1)]),(1473,[.i .u32 262500]),(1478,[.i .u32 30000]),(1483,[.i .u32 10000]),(1485,[.s 1469 0 3 (.k 3)]),(1487,[.s 556 0 1 (.k 1),.s 1485 0 1 (.k 1),.s 1110 0 3 (.k 3)])] }
theorem Aqu:gO.look (Py g 1000000 Qj tb0 200 (.f gO.fn [] []) gO.args gO.sIn)=some (gO.x,gO.nx',gO.out.map (fun o=>some (.c o.2)),true):=by kernel_rfl
def tb1:Tr Pc:=tb0.set gO.nx (some gO)
theorem Aai:E4 g tb1:=E4.add Aah (Gb (Fr FP Aah 200) (by kernel_rfl) Aqu)
end
noncomputable section
def gP:Pc:={ fn:=271,args:=[.s 2122 0 3 (.k 3),.s 2170 0 2 (.k 2)],nx:=2181,hin:=[(2122,[.b false,.s 2126 0 1 (.k 1),.b true,.s 2131 0 1 (.k 1),.b false,.s 2136 0 1 (.k 1)]),(2126,[.i .u32 5]),(2131,[.i .u32 12]),(2136,[.i .u32 4]),(2170,[.b true,.s 2174 0 1 (.k 1),.b false,.s 2179 0 1 (.k 1)]),(2174,[.i .u32 12]),(2179,[.i .u32 8])],x := .s 3128 0 1 (.k 1),nx':=3134,tch:=[],out:=[(3128,[.b false,.s 3132 0 1 (.k 1)]),(3132,[.i .u32 1])] }
theorem Aqv:gP.look (Py g 1000000 Qj tb1 200 (.f gP.fn [] []) gP.args gP.sIn)=some (gP.x,gP.nx',gP.out.map (fun o=>some (.c o.2)),true):=by kernel_rfl
def tb2:Tr Pc:=tb1.set gP.nx (some gP)
theorem Aaj:E4 g tb2:=E4.add Aai (Gb (Fr FP Aai 200) (by kernel_rfl) Aqv)
end
noncomputable section
def gQ:Pc:={ fn:=204,args:=[.s 1858 0 3 (.k 3)],nx:=2002,hin:=[(1858,[.b true,.s 1862 0 2 (.k 2),.b false,.s 1867 0 2 (.k 2),.b true,.s 1872 0 2 (.k 2)]),(1862,[.i .u32 3910065408,.i .u32 2]),(1867,[.i .u32 4230196224,.i .u32 6]),(1872,[.i .u32 1410065408,.i .u32 2])],x := .s 3728 0 3 (.d 1),nx':=4036,tch:=[],out:=[(2122,[.b false,.s 2126 0 1 (.k 1),.b true,.s 2131 0 1 (.k 1),.b false,.s 2136 0 1 (.k 1)]),(2126,[.i .u32 5]),(2131,[.i .u32 12]),(2136,[.i .u32 4]),(3180,[.b true,.s 3245 0 1 (.k 1),.b false,.s 3255 0 1 (.k 1)]),(3245,[.i .u32 3]),(3255,[.i .u32 2]),(3721,[.b false,.s 3725 0 1 (.k 1)]),(3725,[.i .u32 1]),(3728,[.s 2122 0 3 (.k 3),.s 3180 0 2 (.k 2),.s 3721 0 1 (.k 1)])] }
theorem Aqw:gQ.look (Py g 1000000 Qj tb2 200 (.f gQ.fn [] []) gQ.args gQ.sIn)=some (gQ.x,gQ.nx',gQ.out.map (fun o=>some (.c o.2)),true):=by kernel_rfl
def tb3:Tr Pc:=tb2.set gQ.nx (some gQ)
theorem Aak:E4 g tb3:=E4.add Aaj (Gb (Fr FP Aaj 200) (by kernel_rfl) Aqw)
end
noncomputable section
def gR:Pc:={ fn:=329,args:=[.s 1992 0 1 (.d 1)],nx:=1996,hin:=[(1858,[.b true,.s 1862 0 2 (.k 2),.b false,.s 1867 0 2 (.k 2),.b true,.s 1872 0 2 (.k 2)]),(1862,[.i .u32 3910065408,.i .u32 2]),(1867,[.i .u32 4230196224,.i .u32 6]),(1872,[.i .u32 1410065408,.i .u32 2]),(1992,[.s 1858 0 3 (.k 3)])],x := .s 4402 0 1 (.d 7),nx':=4664,tch:=[],out:=[(2122,[.b false,.s 2126 0 1 (.k 1),.b true,.s 2131 0 1 (.k 1),.b false,.s 2136 0 1 (.k 1)]),(2126,[.i .u32 5]),(2131,[.i .u32 12]),(2136,[.i .u32 4]),(4402,[.s 2122 0 3 (.k 3),.b false,.sn,.i .i64 0,.b false,.s 4470 0 1 (.k 1),.i .i64 1]),(4470,[.i .u32 1])] }
theorem Aqx:gR.look (Py g 1000000 Qj tb3 200 (.f gR.fn [] []) gR.args gR.sIn)=some (gR.x,gR.nx',gR.out.map (fun o=>some (.c o.2)),true):=by kernel_rfl
def tb4:Tr Pc:=tb3.set gR.nx (some gR)
theorem Aal:E4 g tb4:=E4.add Aak (Gb (Fr FP Aak 200) (by kernel_rfl) Aqx)
end
noncomputable section
def gS:Pc:={ fn:=281,args:=[.s 1487 0 3 (.d 1)],nx:=1521,hin:=[(540,[.b true,.s 544 0 1 (.k 1),.b false,.s 549 0 1 (.k 1),.b true,.s 554 0 1 (.k 1)]),(544,[.i .u32 262500]),(549,[.i .u32 30000]),(554,[.i .u32 10000]),(556,[.s 540 0 3 (.k 3)]),(744,[.b false,.s 748 0 1 (.k 1)]),(748,[.i .u32 500000]),(940,[.b false,.s 944 0 1 (.k 1)]),(944,[.i .u32 500000]),(1094,[.b true,.s 1098 0 2 (.k 2),.b false,.s 1103 0 2 (.k 2),.b true,.s 1108 0 2 (.k 2)]),(1098,[.i .u32 3910065408,.i .u32 2]),(1103,[.i .u32 4230196224,.i .u32 6]),(1108,[.i .u32 1410065408,.i .u32 2]),(1110,[.s 744 0 1 (.k 1),.s 940 0 1 (.k 1),.s 1094 0 3 (.k 3)]),(1469,[.b true,.s 1473 0 1 (.k 1),.b false,.s 1478 0 1 (.k 1),.b true,.s 1483 0 1 (.k 1)]),(1473,[.i .u32 262500]),(1478,[.i .u32 30000]),(1483,[.i .u32 10000]),(1485,[.s 1469 0 3 (.k 3)]),(1487,[.s 556 0 1 (.k 1),.s 1485 0 1 (.k 1),.s 1110 0 3 (.k 3)])],x := .t [.g [.s 2122 0 3 (.k 3),.b false,.sn,.i .i64 0,.b false,.s 4470 0 1 (.k 1),.i .i64 1],.b true],nx':=4783,tch:=[],out:=[(2122,[.b false,.s 2126 0 1 (.k 1),.b true,.s 2131 0 1 (.k 1),.b false,.s 2136 0 1 (.k 1)]),(2126,[.i .u32 5]),(2131,[.i .u32 12]),(2136,[.i .u32 4]),(4470,[.i .u32 1])] }
theorem Aqy:gS.look (Py g 1000000 Qj tb4 200 (.f gS.fn [] []) gS.args gS.sIn)=some (gS.x,gS.nx',gS.out.map (fun o=>some (.c o.2)),true):=by kernel_rfl
def tb5:Tr Pc:=tb4.set gS.nx (some gS)
theorem Aam:E4 g tb5:=E4.add Aal (Gb (Fr FP Aal 200) (by kernel_rfl) Aqy)
end
noncomputable section
def gT:Pc:={ fn:=271,args:=[.s 4892 0 3 (.k 3),.s 5012 0 2 (.k 2)],nx:=5023,hin:=[(4892,[.b false,.s 4896 0 1 (.k 1),.b true,.s 4901 0 1 (.k 1),.b false,.s 4906 0 1 (.k 1)]),(4896,[.i .u32 5]),(4901,[.i .u32 12]),(4906,[.i .u32 4]),(5012,[.b true,.s 5016 0 1 (.k 1),.b false,.s 5021 0 1 (.k 1)]),(5016,[.i .u32 12]),(5021,[.i .u32 8])],x := .s 5970 0 1 (.k 1),nx':=5976,tch:=[],out:=[(5970,[.b false,.s 5974 0 1 (.k 1)]),(5974,[.i .u32 1])] }
theorem Aqz:gT.look (Py g 1000000 Qj tb5 200 (.f gT.fn [] []) gT.args gT.sIn)=some (gT.x,gT.nx',gT.out.map (fun o=>some (.c o.2)),true):=by kernel_rfl
def tb6:Tr Pc:=tb5.set gT.nx (some gT)
theorem Aan:E4 g tb6:=E4.add Aam (Gb (Fr FP Aam 200) (by kernel_rfl) Aqz)
end
noncomputable section
def gU:Pc:={ fn:=204,args:=[.s 4788 0 3 (.k 3)],nx:=4890,hin:=[(4788,[.b false,.s 4792 0 1 (.k 1),.b true,.s 4797 0 1 (.k 1),.b false,.s 4802 0 1 (.k 1)]),(4792,[.i .u32 5]),(4797,[.i .u32 12]),(4802,[.i .u32 4])],x := .s 6570 0 3 (.d 1),nx':=6878,tch:=[],out:=[(4892,[.b false,.s 4896 0 1 (.k 1),.b true,.s 4901 0 1 (.k 1),.b false,.s 4906 0 1 (.k 1)]),(4896,[.i .u32 5]),(4901,[.i .u32 12]),(4906,[.i .u32 4]),(6022,[.b true,.s 6087 0 1 (.k 1),.b false,.s 6097 0 1 (.k 1)]),(6087,[.i .u32 3]),(6097,[.i .u32 2]),(6563,[.b false,.s 6567 0 1 (.k 1)]),(6567,[.i .u32 1]),(6570,[.s 4892 0 3 (.k 3),.s 6022 0 2 (.k 2),.s 6563 0 1 (.k 1)])] }
theorem Ara:gU.look (Py g 1000000 Qj tb6 200 (.f gU.fn [] []) gU.args gU.sIn)=some (gU.x,gU.nx',gU.out.map (fun o=>some (.c o.2)),true):=by kernel_rfl
def tb7:Tr Pc:=tb6.set gU.nx (some gU)
theorem Aao:E4 g tb7:=E4.add Aan (Gb (Fr FP Aan 200) (by kernel_rfl) Ara)
end
noncomputable section
def gV:Pc:={ fn:=271,args:=[.s 7130 0 3 (.k 3),.s 7250 0 2 (.k 2)],nx:=7261,hin:=[(7130,[.b false,.s 7134 0 1 (.k 1),.b true,.s 7139 0 1 (.k 1),.b false,.s 7144 0 1 (.k 1)]),(7134,[.i .u32 5]),(7139,[.i .u32 12]),(7144,[.i .u32 4]),(7250,[.b true,.s 7254 0 1 (.k 1),.b false,.s 7259 0 1 (.k 1)]),(7254,[.i .u32 12]),(7259,[.i .u32 8])],x := .s 8208 0 1 (.k 1),nx':=8214,tch:=[],out:=[(8208,[.b false,.s 8212 0 1 (.k 1)]),(8212,[.i .u32 1])] }
theorem Arb:gV.look (Py g 1000000 Qj tb7 200 (.f gV.fn [] []) gV.args gV.sIn)=some (gV.x,gV.nx',gV.out.map (fun o=>some (.c o.2)),true):=by kernel_rfl
def tb8:Tr Pc:=tb7.set gV.nx (some gV)
theorem Aap:E4 g tb8:=E4.add Aao (Gb (Fr FP Aao 200) (by kernel_rfl) Arb)
end
noncomputable section
def gW:Pc:={ fn:=249,args:=[.g [.s 7130 0 3 (.k 3),.b false,.sn,.i .i64 0,.b false,.s 4815 0 1 (.k 1),.i .i64 1],.i .i64 4],nx:=8214,hin:=[(4815,[.i .u32 1]),(7130,[.b false,.s 7134 0 1 (.k 1),.b true,.s 7139 0 1 (.k 1),.b false,.s 7144 0 1 (.k 1)]),(7134,[.i .u32 5]),(7139,[.i .u32 12]),(7144,[.i .u32 4])],x := .g [.b false,.s 8992 0 1 (.k 1)],nx':=9122,tch:=[],out:=[(8992,[.i .u32 8,.i .u32 0])] }
theorem Arc:gW.look (Py g 1000000 Qj tb8 200 (.f gW.fn [] []) gW.args gW.sIn)=some (gW.x,gW.nx',gW.out.map (fun o=>some (.c o.2)),true):=by kernel_rfl
def tb9:Tr Pc:=tb8.set gW.nx (some gW)
theorem Aaq:E4 g tb9:=E4.add Aap (Gb (Fr FP Aap 200) (by kernel_rfl) Arc)
end
noncomputable section
def RA:Pc:={ fn:=179,args:=[.g [.s 4788 0 3 (.k 3),.b false,.sn,.i .i64 0,.b false,.s 4815 0 1 (.k 1),.i .i64 1],.i .i64 4],nx:=4826,hin:=[(4788,[.b false,.s 4792 0 1 (.k 1),.b true,.s 4797 0 1 (.k 1),.b false,.s 4802 0 1 (.k 1)]),(4792,[.i .u32 5]),(4797,[.i .u32 12]),(4802,[.i .u32 4]),(4815,[.i .u32 1])],x := .t [.g [.b false,.s 8992 0 1 (.k 1)],.i .i64 0],nx':=9122,tch:=[],out:=[(8992,[.i .u32 8,.i .u32 0])] }
theorem Afv:RA.look (Py g 1000000 Qj tb9 200 (.f RA.fn [] []) RA.args RA.sIn)=some (RA.x,RA.nx',RA.out.map (fun o=>some (.c o.2)),true):=by kernel_rfl
def Ard:Tr Pc:=tb9.set RA.nx (some RA)
theorem qH:E4 g Ard:=E4.add Aaq (Gb (Fr FP Aaq 200) (by kernel_rfl) Afv)
end
noncomputable section
def RB:Pc:={ fn:=162,args:=[.g [.i .i64 0,.i .i64 150,.i .i64 0,.i .i64 (-50),.i .i64 0,.i .i64 0],.g [.i .i64 (-500),.i .i64 0],.g [.i .i64 500,.i .i64 0],.i .i64 100],nx:=9383,hin:=[],x := .s 10699 0 3 (.d 1),nx':=10700,tch:=[],out:=[(9752,[.b true,.s 9756 0 1 (.k 1),.b false,.s 9761 0 1 (.k 1),.b true,.s 9766 0 1 (.k 1)]),(9756,[.i .u32 262500]),(9761,[.i .u32 15000]),(9766,[.i .u32 2500]),(9768,[.s 9752 0 3 (.k 3)]),(9956,[.b false,.s 9960 0 1 (.k 1)]),(9960,[.i .u32 500000]),(10152,[.b false,.s 10156 0 1 (.k 1)]),(10156,[.i .u32 500000]),(10306,[.b true,.s 10310 0 2 (.k 2),.b false,.s 10315 0 2 (.k 2),.b true,.s 10320 0 1 (.k 1)]),(10310,[.i .u32 3910065408,.i .u32 2]),(10315,[.i .u32 2115098112,.i .u32 3]),(10320,[.i .u32 2500000000]),(10322,[.s 9956 0 1 (.k 1),.s 10152 0 1 (.k 1),.s 10306 0 3 (.k 3)]),(10681,[.b true,.s 10685 0 1 (.k 1),.b false,.s 10690 0 1 (.k 1),.b true,.s 10695 0 1 (.k 1)]),(10685,[.i .u32 262500]),(10690,[.i .u32 15000]),(10695,[.i .u32 2500]),(10697,[.s 10681 0 3 (.k 3)]),(10699,[.s 9768 0 1 (.k 1),.s 10697 0 1 (.k 1),.s 10322 0 3 (.k 3)])] }
theorem Afw:RB.look (Py g 1000000 Qj Ard 200 (.f RB.fn [] []) RB.args RB.sIn)=some (RB.x,RB.nx',RB.out.map (fun o=>some (.c o.2)),true):=by kernel_rfl
def Are:Tr Pc:=Ard.set RB.nx (some RB)
theorem qI:E4 g Are:=E4.add qH (Gb (Fr FP qH 200) (by kernel_rfl) Afw)
end
noncomputable section
def RD:Pc:={ fn:=281,args:=[.s 10699 0 3 (.d 1)],nx:=10733,hin:=[(9752,[.b true,.s 9756 0 1 (.k 1),.b false,.s 9761 0 1 (.k 1),.b true,.s 9766 0 1 (.k 1)]),(9756,[.i .u32 262500]),(9761,[.i .u32 15000]),(9766,[.i .u32 2500]),(9768,[.s 9752 0 3 (.k 3)]),(9956,[.b false,.s 9960 0 1 (.k 1)]),(9960,[.i .u32 500000]),(10152,[.b false,.s 10156 0 1 (.k 1)]),(10156,[.i .u32 500000]),(10306,[.b true,.s 10310 0 2 (.k 2),.b false,.s 10315 0 2 (.k 2),.b true,.s 10320 0 1 (.k 1)]),(10310,[.i .u32 3910065408,.i .u32 2]),(10315,[.i .u32 2115098112,.i .u32 3]),(10320,[.i .u32 2500000000]),(10322,[.s 9956 0 1 (.k 1),.s 10152 0 1 (.k 1),.s 10306 0 3 (.k 3)]),(10681,[.b true,.s 10685 0 1 (.k 1),.b false,.s 10690 0 1 (.k 1),.b true,.s 10695 0 1 (.k 1)]),(10685,[.i .u32 262500]),(10690,[.i .u32 15000]),(10695,[.i .u32 2500]),(10697,[.s 10681 0 3 (.k 3)]),(10699,[.s 9768 0 1 (.k 1),.s 10697 0 1 (.k 1),.s 10322 0 3 (.k 3)])],x := .t [.g [.sn,.b false,.sn,.i .i64 0,.b false,.sn,.i .i64 0],.b false],nx':=11204,tch:=[],out:=[] }
theorem Afx:RD.look (Py g 1000000 Qj Are 200 (.f RD.fn [] []) RD.args RD.sIn)=some (RD.x,RD.nx',RD.out.map (fun o=>some (.c o.2)),true):=by kernel_rfl
def Arf:Tr Pc:=Are.set RD.nx (some RD)
theorem qJ:E4 g Arf:=E4.add qI (Gb (Fr FP qI 200) (by kernel_rfl) Afx)
end
noncomputable section
def RE:Pc:={ fn:=112,args:=[.s 11414 0 3 (.d 2),.s 11458 0 2 (.d 2)],nx:=11459,hin:=[(11400,[.i .u32 5]),(11406,[.i .u32 12]),(11412,[.i .u32 4]),(11414,[.b false,.s 11400 0 1 (.d 1),.b true,.s 11406 0 1 (.d 1),.b false,.s 11412 0 1 (.d 1)]),(11450,[.i .u32 12]),(11456,[.i .u32 8]),(11458,[.b true,.s 11450 0 1 (.d 1),.b false,.s 11456 0 1 (.d 1)])],x := .s 12514 0 1 (.d 2),nx':=12515,tch:=[],out:=[(12512,[.i .u32 1]),(12514,[.b false,.s 12512 0 1 (.d 1)])] }
theorem Afy:RE.look (Py g 1000000 Qj Arf 200 (.f RE.fn [] []) RE.args RE.sIn)=some (RE.x,RE.nx',RE.out.map (fun o=>some (.c o.2)),true):=by kernel_rfl
def Arg:Tr Pc:=Arf.set RE.nx (some RE)
theorem qK:E4 g Arg:=E4.add qJ (Gb (Fr FP qJ 200) (by kernel_rfl) Afy)
end
noncomputable section
def RF:Pc:={ fn:=115,args:=[.s 4788 0 3 (.k 3)],nx:=11208,hin:=[(4788,[.b false,.s 4792 0 1 (.k 1),.b true,.s 4797 0 1 (.k 1),.b false,.s 4802 0 1 (.k 1)]),(4792,[.i .u32 5]),(4797,[.i .u32 12]),(4802,[.i .u32 4])],x := .s 12889 0 3 (.d 2),nx':=12892,tch:=[],out:=[(12875,[.i .u32 5]),(12881,[.i .u32 12]),(12887,[.i .u32 4]),(12889,[.b false,.s 12875 0 1 (.d 1),.b true,.s 12881 0 1 (.d 1),.b false,.s 12887 0 1 (.d 1)])] }
theorem Afz:RF.look (Py g 1000000 Qj Arg 200 (.f RF.fn [] []) RF.args RF.sIn)=some (RF.x,RF.nx',RF.out.map (fun o=>some (.c o.2)),true):=by kernel_rfl
def Axw:Tr Pc:=Arg.set RF.nx (some RF)
theorem Arh:E4 g Axw:=E4.add qK (Gb (Fr FP qK 200) (by kernel_rfl) Afz)
end
end Go.Proofs.YtenfgdobfjofkaaGreat
