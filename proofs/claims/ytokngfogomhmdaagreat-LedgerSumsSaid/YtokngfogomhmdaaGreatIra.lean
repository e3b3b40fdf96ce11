/- Functions of the seat in the intermediate language, printed by a program out of the translation. -/
import Derived.Test.YtokngfogomhmdaaGreatProg
import Derived.Test.YtokngfogomhmdaaGreatAbsT
import Derived.KernelRfl
namespace Go.Proofs.YtokngfogomhmdaaGreat
open Go.Ai
set_option maxRecDepth 100000
noncomputable section

def Tryz.cp (x : Fx) (n p : Nat) : ICode := cP Tryz.prog x n p
/- pinball/pinballlaw22.LedgerSums -/
def Tryz.x3 : Fx := fx Tryz.f3 1 93 [.tmp 2] [(5, [20, 24, 29, 34, 39, 44, 54, 56, 58]), (6, [73, 80, 87]), (7, [75, 82, 89]), (1000, [3, 53]), (1001, [65, 69]), (1002, [62])] []
def Tryz.i3 : IFunc := iF Tryz.prog Tryz.x3

/- pinball/ledger.Sum -/
def Tryz.x5 : Fx := fx Tryz.f5 1 36 [.cell 2 3 false] [(36, [12, 19]), (3, [28, 33]), (5, [30])] []
def Tryz.i5 : IFunc := iF Tryz.prog Tryz.x5

/- pinball/pinballref22.Sum -/
def Tryz.x6 : Fx := fx Tryz.f6 1 37 [.cell 2 3 false] [(37, [11, 18, 32]), (3, [27, 35])] []
def Tryz.i6 : IFunc := iF Tryz.prog Tryz.x6

/- pinball/ledger.Sound -/
def Tryz.x7 : Fx := fx Tryz.f7 1 36 [.tmp 2] [(4, [12, 14, 17, 24]), (36, [30])] []
def Tryz.i7 : IFunc := iF Tryz.prog Tryz.x7

/- pinball/pinballref22.Sound -/
def Tryz.x8 : Fx := fx Tryz.f8 1 45 [.tmp 2] [(45, [13, 18, 24, 34, 40])] []
def Tryz.i8 : IFunc := iF Tryz.prog Tryz.x8

end
end Go.Proofs.YtokngfogomhmdaaGreat
