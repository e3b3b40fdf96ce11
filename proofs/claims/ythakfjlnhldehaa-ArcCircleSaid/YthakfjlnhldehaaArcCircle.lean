/- The row of ArcCircle: the walk and the plain law joined. -/
import Derived.Test.YthakfjlnhldehaaRows
import Derived.ProofKit
import Derived.Test.YthakfjlnhldehaaArcPlain2
import Derived.Test.YthakfjlnhldehaaAbs16
namespace Go.Proofs.Ythakfjlnhldehaa
open Go.ChangeShapes Go.WideShapes Go.ChangeAt Go.RowKit Go.Ai
theorem arcCircleOwn : ownKnob Try.prog.godebug = none := by kernel_rfl
theorem arcCircleLaid : laidOutB Try.prog = true := by kernel_rfl

set_option maxRecDepth 100000 in
theorem arcCircle_lifted (os : Os) (started : os.Started) (H : Type) (enc : TypeId × Value → H) :
    ReturnsInHanded {} Try.checked os 4 .any (Rows.arcCircleSpec.pre6 enc Try.prog Try.f4 Rows.arcCircleRow.domain false) (Rows.arcCircleSpec.post enc Try.prog Try.f4 false true false false) := by
  refine returnsInHanded_of_change (C := Try.checked) arcCircleOwn started (by kernel_rfl) Try.func4
    (ChangeSpec.witness6 (enc := enc) (C := Try.checked) false ⟨#[], #[.agg #[.int .i64 0, .int .i64 0], .int .i64 0, .int .i64 0], []⟩ 8 (by kernel_rfl) (by kernel_rfl) (by kernel_rfl) (by kernel_rfl)) ?_
  intro W base args ds gs before hval0 hW hcnd _
  have hval : ∀ (j : Nat) t v, Try.f4.params[j]? = some t → args[j]? = some v → Value.okWide Try.prog W .any base t v := hval0
  have hW' := hW
  obtain ⟨p, q, hA0, hV, _, _, _⟩ := hW
  have hA : DataW.TrodAll enc Try.prog W 0 (fun _ => true) true Try.f4.params.toList args.toList ds p := hA0
  rw [Try.params4] at hA hval
  obtain ⟨v0, v1, v2, d0, d1, d2, p0, p1, p2, rfl, rfl, rfl, h0, h1, h2⟩ := trodAll_three hA
  obtain ⟨rfl, rfl⟩ := trodVars_none hV
  obtain ⟨cs0, rfl, k0⟩ := open_flat (ks := [.int .i64, .int .i64]) 60 Try.underlying23 (by kernel_rfl) (hval 0 23 v0 rfl rfl) h0
  obtain ⟨_, _, rfl, ⟨px, rfl, h_px⟩, k0⟩ := k0
  obtain ⟨_, _, rfl, ⟨py, rfl, h_py⟩, k0⟩ := k0
  cases k0
  obtain ⟨q, rfl, rfl, rfl, h_q⟩ := open_int Try.underlying3 (hval 1 3 v1 rfl rfl) h1
  obtain ⟨reach, rfl, rfl, rfl, h_reach⟩ := open_int Try.underlying3 (hval 2 3 v2 rfl rfl) h2
  have run := Try.run4 px py q reach
  rw [arcCircle_true _ _ _ _] at run
  refine (run.calls Try.mixed Try.ir_ok (fun _ => False) W #[.agg #[.int .i64 px, .int .i64 py], .int .i64 q, .int .i64 reach] (fun _ h => h.elim) rfl ?_).mono ?_
  · refine rdAll_of ⟨rdAgg_of (dat_of (by rfl)) ⟨.int _ _, .int _ _, trivial⟩, .int _ _, .int _ _, trivial⟩
  · rintro e W' ⟨v, rfl, hb, hr⟩
    obtain rfl := rd_bool hr
    exact ⟨_, rfl, post_true arcCircleLaid (by kernel_rfl) rfl (by kernel_rfl) Try.underlying4 hW' rfl hb⟩

theorem arcCircle_holds : Rows.ArcCircleSaid :=
  OpenClaim.holds_of_wide 4 Try.f4 rfl rfl rfl rfl rfl rfl rfl ⟨rfl, rfl, rfl, rfl, rfl⟩ rfl rfl rfl rfl rfl (by kernel_rfl) Try.func4 (by kernel_rfl)
    (of_decide_eq_true (by kernel_rfl)) (by unfold Func.isWrapper; first | (rw [if_pos (by decide +kernel)]; kernel_rfl) | (rw [if_neg (by decide +kernel)]; exact ⟨rfl, rfl⟩))
    (fun os started H enc _ => arcCircle_lifted os started H enc)
end Go.Proofs.Ythakfjlnhldehaa
