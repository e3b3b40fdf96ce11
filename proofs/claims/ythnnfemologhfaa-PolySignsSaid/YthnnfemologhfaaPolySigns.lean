/- The row of PolySigns: the walk and the plain law joined. -/
import Derived.Test.YthnnfemologhfaaRows
import Derived.ProofKit
import Derived.Test.YthnnfemologhfaaPSgn
import Derived.Test.YthnnfemologhfaaDeepz
namespace Go.Proofs.Ythnnfemologhfaa
open Go.ChangeShapes Go.WideShapes Go.ChangeAt Go.RowKit Go.Ai
theorem polySignsOwn : ownKnob Try.prog.godebug = none := by kernel_rfl
theorem polySignsLaid : laidOutB Try.prog = true := by kernel_rfl

set_option maxRecDepth 100000 in
theorem polySigns_lifted (os : Os) (started : os.Started) (H : Type) (enc : TypeId × Value → H) :
    ReturnsInHanded {} Try.checked os 6 .any (Rows.polySignsSpec.pre6 enc Try.prog Try.f6 Rows.polySignsRow.domain false) (Rows.polySignsSpec.post enc Try.prog Try.f6 false true false false) := by
  refine returnsInHanded_of_change (C := Try.checked) polySignsOwn started (by kernel_rfl) Try.func6
    (ChangeSpec.witness6 (enc := enc) (C := Try.checked) false ⟨#[], #[.slice none 0 0, .agg #[.bool false, .slice none 0 0, .int .i64 0]], []⟩ 8 (by kernel_rfl) (by kernel_rfl) (by kernel_rfl) (by kernel_rfl)) ?_
  intro W base args ds gs before hval0 hW hcnd _
  have hval : ∀ (j : Nat) t v, Try.f6.params[j]? = some t → args[j]? = some v → Value.okWide Try.prog W .any base t v := hval0
  have hW' := hW
  obtain ⟨p, q, hA0, hV, _, _, _⟩ := hW
  have hA : DataW.TrodAll enc Try.prog W 0 (fun _ => true) true Try.f6.params.toList args.toList ds p := hA0
  rw [Try.params6] at hA hval
  obtain ⟨v0, v1, d0, d1, p0, p1, rfl, rfl, rfl, h0, h1⟩ := trodAll_two hA
  obtain ⟨rfl, rfl⟩ := trodVars_none hV
  obtain ⟨a_p, r_p, g_p⟩ := open_deep (ks := [.bool, .sl [.int .u32]]) 60 Try.underlying23 (by kernel_rfl) (hval 0 23 v0 rfl rfl) h0
  obtain ⟨p, h_p, rfl⟩ := poly_of g_p
  obtain ⟨a_x, r_x, g_x⟩ := open_deepS (ks := dyS) 60 Try.underlying42 (by kernel_rfl) (hval 1 42 v1 rfl rfl) h1
  obtain ⟨x, e_x, h_x, w_x, rfl⟩ := dyadic_of g_x
  have run := psigns_run (rs := p) (r := x) e_x h_p h_x
  refine (run.calls Try.mixed Try.ir_ok (fun _ => False) W #[v0, v1] (fun _ h => h.elim) rfl ?_).mono ?_
  · refine rdAll_of ⟨r_p, r_x, trivial⟩
  · rintro e W' ⟨v, rfl, hb, hr⟩
    obtain rfl := rd_bool hr
    exact ⟨_, rfl, post_true polySignsLaid (by kernel_rfl) rfl (by kernel_rfl) Try.underlying4 hW' rfl hb⟩

theorem polySigns_holds : Rows.PolySignsSaid :=
  OpenClaim.holds_of_wide 6 Try.f6 rfl rfl rfl rfl rfl rfl rfl ⟨rfl, rfl, rfl, rfl, rfl⟩ rfl rfl rfl rfl rfl (by kernel_rfl) Try.func6 (by kernel_rfl)
    (of_decide_eq_true (by kernel_rfl)) (by unfold Func.isWrapper; first | (rw [if_pos (by decide +kernel)]; kernel_rfl) | (rw [if_neg (by decide +kernel)]; exact ⟨rfl, rfl⟩))
    (fun os started H enc _ => polySigns_lifted os started H enc)
end Go.Proofs.Ythnnfemologhfaa
