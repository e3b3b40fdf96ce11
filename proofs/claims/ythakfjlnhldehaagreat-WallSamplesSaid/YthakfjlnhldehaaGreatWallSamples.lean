/- The row of WallSamples: the walk and the plain law joined. -/
import Derived.Test.YthakfjlnhldehaaGreatRows
import Derived.ProofKit
import Derived.Test.YthakfjlnhldehaaGreatWSamP
import Derived.Test.YthakfjlnhldehaaGreatAbs17
namespace Go.Proofs.YthakfjlnhldehaaGreat
open Go.ChangeShapes Go.WideShapes Go.ChangeAt Go.RowKit Go.Ai
theorem wallSamplesOwn : ownKnob Tryz.prog.godebug = none := by kernel_rfl
theorem wallSamplesLaid : laidOutB Tryz.prog = true := by kernel_rfl

set_option maxRecDepth 100000 in
theorem wallSamples_lifted (os : Os) (started : os.Started) (H : Type) (enc : TypeId × Value → H) :
    ReturnsInHanded {} Tryz.checked os 4 .any (Rows.wallSamplesSpec.pre6 enc Tryz.prog Tryz.f4 Rows.wallSamplesRow.domain false) (Rows.wallSamplesSpec.post enc Tryz.prog Tryz.f4 false true false false) := by
  refine returnsInHanded_of_change (C := Tryz.checked) wallSamplesOwn started (by kernel_rfl) Tryz.func4
    (ChangeSpec.witness6 (enc := enc) (C := Tryz.checked) false ⟨#[], #[.agg #[.int .i64 0, .int .i64 0, .int .i64 0, .int .i64 0, .int .i64 0, .int .i64 0], .slice none 0 0, .int .i64 0], []⟩ 8 (by kernel_rfl) (by kernel_rfl) (by kernel_rfl) (by kernel_rfl)) ?_
  intro W base args ds gs before hval0 hW hcnd _
  have hval : ∀ (j : Nat) t v, Tryz.f4.params[j]? = some t → args[j]? = some v → Value.okWide Tryz.prog W .any base t v := hval0
  have hW' := hW
  obtain ⟨p, q, hA0, hV, _, _, _⟩ := hW
  have hA : DataW.TrodAll enc Tryz.prog W 0 (fun _ => true) true Tryz.f4.params.toList args.toList ds p := hA0
  rw [Tryz.params4] at hA hval
  obtain ⟨v0, v1, v2, d0, d1, d2, p0, p1, p2, rfl, rfl, rfl, h0, h1, h2⟩ := trodAll_three hA
  obtain ⟨rfl, rfl⟩ := trodVars_none hV
  obtain ⟨cs0, rfl, k0⟩ := open_flat (ks := [.int .i64, .int .i64, .int .i64, .int .i64, .int .i64, .int .i64]) 60 Tryz.underlying32 (by kernel_rfl) (hval 0 32 v0 rfl rfl) h0
  obtain ⟨_, _, rfl, ⟨ma, rfl, h_ma⟩, k0⟩ := k0
  obtain ⟨_, _, rfl, ⟨mb, rfl, h_mb⟩, k0⟩ := k0
  obtain ⟨_, _, rfl, ⟨mc, rfl, h_mc⟩, k0⟩ := k0
  obtain ⟨_, _, rfl, ⟨md, rfl, h_md⟩, k0⟩ := k0
  obtain ⟨_, _, rfl, ⟨me, rfl, h_me⟩, k0⟩ := k0
  obtain ⟨_, _, rfl, ⟨mf, rfl, h_mf⟩, k0⟩ := k0
  cases k0
  obtain ⟨l, r_l, h_l⟩ := open_avVecs (k := .i64) 60 Tryz.underlying24 (by kernel_rfl) (by kernel_rfl) (hval 1 24 v1 rfl rfl) h1
  obtain ⟨reach, rfl, rfl, rfl, h_reach⟩ := open_int Tryz.underlying3 (hval 2 3 v2 rfl rfl) h2
  have run := samples_run ma mb mc md me mf l h_l reach
  refine (run.calls Tryz.mixed Tryz.ir_ok (fun _ => False) W #[.agg #[.int .i64 ma, .int .i64 mb, .int .i64 mc, .int .i64 md, .int .i64 me, .int .i64 mf], v1, .int .i64 reach] (fun _ h => h.elim) rfl ?_).mono ?_
  · refine rdAll_of ⟨rdAgg_of (dat_of (by rfl)) ⟨.int _ _, .int _ _, .int _ _, .int _ _, .int _ _, .int _ _, trivial⟩, r_l, .int _ _, trivial⟩
  · rintro e W' ⟨v, rfl, hb, hr⟩
    obtain rfl := rd_bool hr
    exact ⟨_, rfl, post_true wallSamplesLaid (by kernel_rfl) rfl (by kernel_rfl) Tryz.underlying4 hW' rfl hb⟩

theorem wallSamples_holds : Rows.WallSamplesSaid :=
  OpenClaim.holds_of_wide 4 Tryz.f4 rfl rfl rfl rfl rfl rfl rfl ⟨rfl, rfl, rfl, rfl, rfl⟩ rfl rfl rfl rfl rfl (by kernel_rfl) Tryz.func4 (by kernel_rfl)
    (of_decide_eq_true (by kernel_rfl)) (by unfold Func.isWrapper; first | (rw [if_pos (by decide +kernel)]; kernel_rfl) | (rw [if_neg (by decide +kernel)]; exact ⟨rfl, rfl⟩))
    (fun os started H enc _ => wallSamples_lifted os started H enc)
end Go.Proofs.YthakfjlnhldehaaGreat
