/- The row of PolyLimits: the walk and the plain law joined. -/
import Derived.Test.YtmchkmpefhdolaaRows
import Derived.ProofKit
import Derived.Test.YtmchkmpefhdolaaLimits
import Derived.Test.YtmchkmpefhdolaaAbs17
namespace Go.Proofs.Ytmchkmpefhdolaa
open Go.ChangeShapes Go.WideShapes Go.ChangeAt Go.RowKit Go.Ai
theorem polyLimitsOwn : ownKnob Try.prog.godebug = none := by kernel_rfl
theorem polyLimitsLaid : laidOutB Try.prog = true := by kernel_rfl

set_option maxRecDepth 100000 in
theorem polyLimits_lifted (os : Os) (started : os.Started) (H : Type) (enc : TypeId × Value → H) :
    ReturnsInHanded {} Try.checked os 8 .any (Rows.polyLimitsSpec.pre6 enc Try.prog Try.f8 Rows.polyLimitsRow.domain false) (Rows.polyLimitsSpec.post enc Try.prog Try.f8 false true false false) := by
  refine returnsInHanded_of_change (C := Try.checked) polyLimitsOwn started (by kernel_rfl) Try.func8
    (ChangeSpec.witness6 (enc := enc) (C := Try.checked) false ⟨#[], #[.int .i64 0], []⟩ 8 (by kernel_rfl) (by kernel_rfl) (by kernel_rfl) (by kernel_rfl)) ?_
  intro W base args ds gs before hval0 hW hcnd _
  have hval : ∀ (j : Nat) t v, Try.f8.params[j]? = some t → args[j]? = some v → Value.okWide Try.prog W .any base t v := hval0
  have hW' := hW
  obtain ⟨p, q, hA0, hV, _, _, _⟩ := hW
  have hA : DataW.TrodAll enc Try.prog W 0 (fun _ => true) true Try.f8.params.toList args.toList ds p := hA0
  rw [Try.params8] at hA hval
  obtain ⟨v0, d0, rfl, rfl, h0⟩ := trodAll_one hA
  obtain ⟨rfl, rfl⟩ := trodVars_none hV
  obtain ⟨n, rfl, rfl, rfl, h_n⟩ := open_int Try.underlying3 (hval 0 3 v0 rfl rfl) h0
  have run := limits_run n
  refine (run.calls Try.mixed Try.ir_ok (fun _ => False) W #[.int .i64 n] (fun _ h => h.elim) rfl ?_).mono ?_
  · refine rdAll_of ⟨.int _ _, trivial⟩
  · rintro e W' ⟨v, rfl, hb, hr⟩
    obtain rfl := rd_bool hr
    exact ⟨_, rfl, post_true polyLimitsLaid (by kernel_rfl) rfl (by kernel_rfl) Try.underlying4 hW' rfl hb⟩

theorem polyLimits_holds : Rows.PolyLimitsSaid :=
  OpenClaim.holds_of_wide 8 Try.f8 rfl rfl rfl rfl rfl rfl rfl ⟨rfl, rfl, rfl, rfl, rfl⟩ rfl rfl rfl rfl rfl (by kernel_rfl) Try.func8 (by kernel_rfl)
    (of_decide_eq_true (by kernel_rfl)) (by unfold Func.isWrapper; first | (rw [if_pos (by decide +kernel)]; kernel_rfl) | (rw [if_neg (by decide +kernel)]; exact ⟨rfl, rfl⟩))
    (fun os started H enc _ => polyLimits_lifted os started H enc)
end Go.Proofs.Ytmchkmpefhdolaa
