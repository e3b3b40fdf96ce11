/- Texts of the proof of PolyFree, packed by pack.py: part 19 of 19. -/
import Derived.Test.YthnnfemologhfaaRows
import Derived.ProofKit
import Derived.Test.YthnnfemologhfaaPfr18
namespace Go.Proofs.Ythnnfemologhfaa
open Go.ChangeShapes Go.WideShapes Go.ChangeAt Go.RowKit Go.Ai
theorem polyFreeOwn : ownKnob Try.prog.godebug = none := by kernel_rfl
theorem polyFreeLaid : laidOutB Try.prog = true := by kernel_rfl
set_option maxRecDepth 100000 in
theorem polyFree_lifted (os : Os) (started : os.Started) (H : Type) (enc : TypeId × Value → H) :
    ReturnsInHanded {} Try.checked os 5 .any (Rows.polyFreeSpec.pre6 enc Try.prog Try.f5 Rows.polyFreeRow.domain false) (Rows.polyFreeSpec.post enc Try.prog Try.f5 false true false false) := by
  refine returnsInHanded_of_change (C := Try.checked) polyFreeOwn started (by kernel_rfl) Try.func5
    (ChangeSpec.witness6 (enc := enc) (C := Try.checked) false ⟨#[], #[.slice none 0 0, .int .i64 0, .slice none 0 0], []⟩ 8 (by kernel_rfl) (by kernel_rfl) (by kernel_rfl) (by kernel_rfl)) ?_
  intro W base args ds gs before hval0 hW hcnd _
  have hval : ∀ (j : Nat) t v, Try.f5.params[j]? = some t → args[j]? = some v → Value.okWide Try.prog W .any base t v := hval0
  have hW' := hW
  obtain ⟨p, q, hA0, hV, _, _, _⟩ := hW
  have hA : DataW.TrodAll enc Try.prog W 0 (fun _ => true) true Try.f5.params.toList args.toList ds p := hA0
  rw [Try.params5] at hA hval
  obtain ⟨v0, v1, v2, d0, d1, d2, p0, p1, p2, rfl, rfl, rfl, h0, h1, h2⟩ := trodAll_three hA
  obtain ⟨rfl, rfl⟩ := trodVars_none hV
  obtain ⟨l, r_l, h_l⟩ := open_avInts (k := .i64) 60 Try.underlying38 (by kernel_rfl) (by kernel_rfl) (hval 0 38 v0 rfl rfl) h0
  obtain ⟨n, rfl, rfl, rfl, h_n⟩ := open_int Try.underlying3 (hval 1 3 v1 rfl rfl) h1
  obtain ⟨a_p, r_p, g_p⟩ := open_deep (ks := [.bool, .sl [.int .u32]]) 60 Try.underlying23 (by kernel_rfl) (hval 2 23 v2 rfl rfl) h2
  obtain ⟨p, h_p, rfl⟩ := poly_of g_p
  have run := pfreeAV_run (n := n) (ps := p) h_l h_p
  refine (run.calls Try.mixed Try.ir_ok (fun _ => False) W #[v0, .int .i64 n, v2] (fun _ h => h.elim) rfl ?_).mono ?_
  · refine rdAll_of ⟨r_l, .int _ _, r_p, trivial⟩
  · rintro e W' ⟨v, rfl, hb, hr⟩
    obtain rfl := rd_bool hr
    exact ⟨_, rfl, post_true polyFreeLaid (by kernel_rfl) rfl (by kernel_rfl) Try.underlying4 hW' rfl hb⟩
theorem polyFree_holds : Rows.PolyFreeSaid :=
  OpenClaim.holds_of_wide 5 Try.f5 rfl rfl rfl rfl rfl rfl rfl ⟨rfl, rfl, rfl, rfl, rfl⟩ rfl rfl rfl rfl rfl (by kernel_rfl) Try.func5 (by kernel_rfl)
    (of_decide_eq_true (by kernel_rfl)) (by unfold Func.isWrapper; first | (rw [if_pos (by decide +kernel)]; kernel_rfl) | (rw [if_neg (by decide +kernel)]; exact ⟨rfl, rfl⟩))
    (fun os started H enc _ => polyFree_lifted os started H enc)
end Go.Proofs.Ythnnfemologhfaa
