/- The row of ArcSamples: the walk and the plain law joined. -/
import Derived.Test.YthakfjlnhldehaaRows
import Derived.ProofKit
import Derived.Test.YthakfjlnhldehaaASam
import Derived.Test.YthakfjlnhldehaaAbs17
namespace Go.Proofs.Ythakfjlnhldehaa
open Go.ChangeShapes Go.WideShapes Go.ChangeAt Go.RowKit Go.Ai
theorem arcSamplesOwn : ownKnob Try.prog.godebug = none := by kernel_rfl
theorem arcSamplesLaid : laidOutB Try.prog = true := by kernel_rfl

set_option maxRecDepth 100000 in
theorem arcSamples_lifted (os : Os) (started : os.Started) (H : Type) (enc : TypeId × Value → H) :
    ReturnsInHanded {} Try.checked os 9 .any (Rows.arcSamplesSpec.pre6 enc Try.prog Try.f9 Rows.arcSamplesRow.domain false) (Rows.arcSamplesSpec.post enc Try.prog Try.f9 false true false false) := by
  refine returnsInHanded_of_change (C := Try.checked) arcSamplesOwn started (by kernel_rfl) Try.func9
    (ChangeSpec.witness6 (enc := enc) (C := Try.checked) false ⟨#[], #[.agg #[.int .i64 0, .int .i64 0, .int .i64 0, .int .i64 0, .int .i64 0, .int .i64 0], .agg #[.string (ByteArray.mk #[]), .int .i64 0, .int .i64 0, .int .i64 0, .int .i64 0, .int .i64 0, .int .i64 0, .int .i64 0, .int .i64 0, .int .i64 0, .int .i64 0, .int .i64 0], .int .i64 0], []⟩ 8 (by kernel_rfl) (by kernel_rfl) (by kernel_rfl) (by kernel_rfl)) ?_
  intro W base args ds gs before hval0 hW hcnd _
  have hval : ∀ (j : Nat) t v, Try.f9.params[j]? = some t → args[j]? = some v → Value.okWide Try.prog W .any base t v := hval0
  have hW' := hW
  obtain ⟨p, q, hA0, hV, _, _, _⟩ := hW
  have hA : DataW.TrodAll enc Try.prog W 0 (fun _ => true) true Try.f9.params.toList args.toList ds p := hA0
  rw [Try.params9] at hA hval
  obtain ⟨v0, v1, v2, d0, d1, d2, p0, p1, p2, rfl, rfl, rfl, h0, h1, h2⟩ := trodAll_three hA
  obtain ⟨rfl, rfl⟩ := trodVars_none hV
  obtain ⟨cs0, rfl, k0⟩ := open_flat (ks := [.int .i64, .int .i64, .int .i64, .int .i64, .int .i64, .int .i64]) 60 Try.underlying59 (by kernel_rfl) (hval 0 59 v0 rfl rfl) h0
  obtain ⟨_, _, rfl, ⟨ma, rfl, h_ma⟩, k0⟩ := k0
  obtain ⟨_, _, rfl, ⟨mb, rfl, h_mb⟩, k0⟩ := k0
  obtain ⟨_, _, rfl, ⟨mc, rfl, h_mc⟩, k0⟩ := k0
  obtain ⟨_, _, rfl, ⟨md, rfl, h_md⟩, k0⟩ := k0
  obtain ⟨_, _, rfl, ⟨me, rfl, h_me⟩, k0⟩ := k0
  obtain ⟨_, _, rfl, ⟨mf, rfl, h_mf⟩, k0⟩ := k0
  cases k0
  obtain ⟨cs1, rfl, k1⟩ := open_flat (ks := [.str, .int .i64, .int .i64, .int .i64, .int .i64, .int .i64, .int .i64, .int .i64, .int .i64, .int .i64, .int .i64, .int .i64]) 60 Try.underlying25 (by kernel_rfl) (hval 1 25 v1 rfl rfl) h1
  obtain ⟨_, _, rfl, ⟨nm, rfl⟩, k1⟩ := k1
  obtain ⟨_, _, rfl, ⟨lv, rfl, h_lv⟩, k1⟩ := k1
  obtain ⟨_, _, rfl, ⟨cx, rfl, h_cx⟩, k1⟩ := k1
  obtain ⟨_, _, rfl, ⟨cy, rfl, h_cy⟩, k1⟩ := k1
  obtain ⟨_, _, rfl, ⟨sx, rfl, h_sx⟩, k1⟩ := k1
  obtain ⟨_, _, rfl, ⟨sy, rfl, h_sy⟩, k1⟩ := k1
  obtain ⟨_, _, rfl, ⟨ex, rfl, h_ex⟩, k1⟩ := k1
  obtain ⟨_, _, rfl, ⟨ey, rfl, h_ey⟩, k1⟩ := k1
  obtain ⟨_, _, rfl, ⟨rs, rfl, h_rs⟩, k1⟩ := k1
  obtain ⟨_, _, rfl, ⟨gr, rfl, h_gr⟩, k1⟩ := k1
  obtain ⟨_, _, rfl, ⟨mi, rfl, h_mi⟩, k1⟩ := k1
  obtain ⟨_, _, rfl, ⟨sw, rfl, h_sw⟩, k1⟩ := k1
  cases k1
  obtain ⟨reach, rfl, rfl, rfl, h_reach⟩ := open_int Try.underlying3 (hval 2 3 v2 rfl rfl) h2
  have run := asamples_run ma mb mc md me mf nm lv cx cy sx sy ex ey rs gr mi sw reach
  refine (run.calls Try.mixed Try.ir_ok (fun _ => False) W #[.agg #[.int .i64 ma, .int .i64 mb, .int .i64 mc, .int .i64 md, .int .i64 me, .int .i64 mf], .agg #[.string nm, .int .i64 lv, .int .i64 cx, .int .i64 cy, .int .i64 sx, .int .i64 sy, .int .i64 ex, .int .i64 ey, .int .i64 rs, .int .i64 gr, .int .i64 mi, .int .i64 sw], .int .i64 reach] (fun _ h => h.elim) rfl ?_).mono ?_
  · refine rdAll_of ⟨rdAgg_of (dat_of (by rfl)) ⟨.int _ _, .int _ _, .int _ _, .int _ _, .int _ _, .int _ _, trivial⟩, rdAgg_of (dat_of (by rfl)) ⟨.str _, .int _ _, .int _ _, .int _ _, .int _ _, .int _ _, .int _ _, .int _ _, .int _ _, .int _ _, .int _ _, .int _ _, trivial⟩, .int _ _, trivial⟩
  · rintro e W' ⟨v, rfl, hb, hr⟩
    obtain rfl := rd_bool hr
    exact ⟨_, rfl, post_true arcSamplesLaid (by kernel_rfl) rfl (by kernel_rfl) Try.underlying4 hW' rfl hb⟩

theorem arcSamples_holds : Rows.ArcSamplesSaid :=
  OpenClaim.holds_of_wide 9 Try.f9 rfl rfl rfl rfl rfl rfl rfl ⟨rfl, rfl, rfl, rfl, rfl⟩ rfl rfl rfl rfl rfl (by kernel_rfl) Try.func9 (by kernel_rfl)
    (of_decide_eq_true (by kernel_rfl)) (by unfold Func.isWrapper; first | (rw [if_pos (by decide +kernel)]; kernel_rfl) | (rw [if_neg (by decide +kernel)]; exact ⟨rfl, rfl⟩))
    (fun os started H enc _ => arcSamples_lifted os started H enc)
end Go.Proofs.Ythakfjlnhldehaa
