/- The table of the functions in the intermediate language. -/
import Derived.Test.YtokngfogomhmdaaGreatIra
import Derived.Test.YtokngfogomhmdaaGreatAbsF
namespace Go.Proofs.YtokngfogomhmdaaGreat
open Go.Ai
set_option maxRecDepth 100000
noncomputable section

theorem Tryz.mixed : Tryz.prog.follows .mixedOrders = true := by kernel_rfl
def Tryz.irs : List (Nat × Fx) := [(3, Tryz.x3), (5, Tryz.x5), (6, Tryz.x6), (7, Tryz.x7), (8, Tryz.x8)]
/-- Stands for the function 4, of which all is known by its contract. -/
def Tryz.aw : IFunc := ⟨0, 1, [.tmp 0], .region false [o1 0 (.mov (.c (.bool true)))]⟩
def Tryz.ir (f : Nat) : Option IFunc := cond (Nat.beq f 4) (some Tryz.aw) ((lk Tryz.irs f).map (iF Tryz.prog))
theorem Tryz.irs_ok : Tryz.irs.all (tOk Tryz.prog) = true := by kernel_rfl
theorem Tryz.ir_ok (f : Nat) (ifn : IFunc) (h : Tryz.ir f = some ifn) : (∃ fn roots, Tryz.prog.funcs[f]? = some fn ∧ fnOk Tryz.prog roots fn ifn = true) ∨ (f = 4 ∧ ifn = Tryz.aw) := by
  unfold Tryz.ir at h
  cases hb : Nat.beq f 4 <;> rw [hb] at h
  · exact .inl (tOk_all Tryz.irs_ok f ifn h)
  · cases h; exact .inr ⟨Nat.eq_of_beq_eq_true hb, rfl⟩
end
end Go.Proofs.YtokngfogomhmdaaGreat
