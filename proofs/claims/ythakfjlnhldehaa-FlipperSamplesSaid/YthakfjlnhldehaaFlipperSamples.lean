/- The row of FlipperSamples: the walk and the plain law joined. -/
import Derived.Test.YthakfjlnhldehaaRows
import Derived.ProofKit
import Derived.Test.YthakfjlnhldehaaFSam
import Derived.Test.YthakfjlnhldehaaAbs17
namespace Go.Proofs.Ythakfjlnhldehaa
open Go.ChangeShapes Go.WideShapes Go.ChangeAt Go.RowKit Go.Ai
theorem flipperSamplesOwn : ownKnob Try.prog.godebug = none := by kernel_rfl
theorem flipperSamplesLaid : laidOutB Try.prog = true := by kernel_rfl

set_option maxRecDepth 100000 in
theorem flipperSamples_lifted (os : Os) (started : os.Started) (H : Type) (enc : TypeId × Value → H) :
    ReturnsInHanded {} Try.checked os 10 .any (Rows.flipperSamplesSpec.pre6 enc Try.prog Try.f10 Rows.flipperSamplesRow.domain false) (Rows.flipperSamplesSpec.post enc Try.prog Try.f10 false true false false) := by
  refine returnsInHanded_of_change (C := Try.checked) flipperSamplesOwn started (by kernel_rfl) Try.func10
    (ChangeSpec.witness6 (enc := enc) (C := Try.checked) false ⟨#[], #[.agg #[.int .i64 0, .int .i64 0, .int .i64 0, .int .i64 0, .int .i64 0, .int .i64 0], .agg #[.string (ByteArray.mk #[]), .int .i64 0, .int .i64 0, .int .i64 0, .int .i64 0, .bool false, .int .i64 0, .int .i64 0, .int .i64 0, .int .i64 0, .int .i64 0, .int .i64 0, .int .i64 0, .int .i64 0, .int .i64 0, .int .i64 0, .int .i64 0], .int .i64 0], []⟩ 8 (by kernel_rfl) (by kernel_rfl) (by kernel_rfl) (by kernel_rfl)) ?_
  intro W base args ds gs before hval0 hW hcnd _
  have hval : ∀ (j : Nat) t v, Try.f10.params[j]? = some t → args[j]? = some v → Value.okWide Try.prog W .any base t v := hval0
  have hW' := hW
  obtain ⟨p, q, hA0, hV, _, _, _⟩ := hW
  have hA : DataW.TrodAll enc Try.prog W 0 (fun _ => true) true Try.f10.params.toList args.toList ds p := hA0
  rw [Try.params10] at hA hval
  obtain ⟨v0, v1, v2, d0, d1, d2, p0, p1, p2, rfl, rfl, rfl, h0, h1, h2⟩ := trodAll_three hA
  obtain ⟨rfl, rfl⟩ := trodVars_none hV
  obtain ⟨cs0, rfl, k0⟩ := open_flat (ks := [.int .i64, .int .i64, .int .i64, .int .i64, .int .i64, .int .i64]) 60 Try.underlying59 (by kernel_rfl) (hval 0 59 v0 rfl rfl) h0
  obtain ⟨_, _, rfl, ⟨ma, rfl, h_ma⟩, k0⟩ := k0
  obtain ⟨_, _, rfl, ⟨mb, rfl, h_mb⟩, k0⟩ := k0
  obtain ⟨_, _, rfl, ⟨mc, rfl, h_mc⟩, k0⟩ := k0
  obtain ⟨_, _, rfl, ⟨md, rfl, h_md⟩, k0⟩ := k0
  obtain ⟨_, _, rfl, ⟨me, rfl, h_me⟩, k0⟩ := k0
  obtain ⟨_, _, rfl, ⟨mf, rfl, h_mf⟩, k0⟩ := k0
  cases k0
  obtain ⟨cs1, rfl, k1⟩ := open_flat (ks := [.str, .int .i64, .int .i64, .int .i64, .int .i64, .bool, .int .i64, .int .i64, .int .i64, .int .i64, .int .i64, .int .i64, .int .i64, .int .i64, .int .i64, .int .i64, .int .i64]) 60 Try.underlying49 (by kernel_rfl) (hval 1 49 v1 rfl rfl) h1
  obtain ⟨_, _, rfl, ⟨nm, rfl⟩, k1⟩ := k1
  obtain ⟨_, _, rfl, ⟨lv, rfl, h_lv⟩, k1⟩ := k1
  obtain ⟨_, _, rfl, ⟨px, rfl, h_px⟩, k1⟩ := k1
  obtain ⟨_, _, rfl, ⟨py, rfl, h_py⟩, k1⟩ := k1
  obtain ⟨_, _, rfl, ⟨ln, rfl, h_ln⟩, k1⟩ := k1
  obtain ⟨_, _, rfl, ⟨mi, rfl⟩, k1⟩ := k1
  obtain ⟨_, _, rfl, ⟨lo, rfl, h_lo⟩, k1⟩ := k1
  obtain ⟨_, _, rfl, ⟨hi, rfl, h_hi⟩, k1⟩ := k1
  obtain ⟨_, _, rfl, ⟨up, rfl, h_up⟩, k1⟩ := k1
  obtain ⟨_, _, rfl, ⟨dn, rfl, h_dn⟩, k1⟩ := k1
  obtain ⟨_, _, rfl, ⟨mx, rfl, h_mx⟩, k1⟩ := k1
  obtain ⟨_, _, rfl, ⟨rs, rfl, h_rs⟩, k1⟩ := k1
  obtain ⟨_, _, rfl, ⟨gr, rfl, h_gr⟩, k1⟩ := k1
  obtain ⟨_, _, rfl, ⟨co, rfl, h_co⟩, k1⟩ := k1
  obtain ⟨_, _, rfl, ⟨sw, rfl, h_sw⟩, k1⟩ := k1
  obtain ⟨_, _, rfl, ⟨kf, rfl, h_kf⟩, k1⟩ := k1
  obtain ⟨_, _, rfl, ⟨kt, rfl, h_kt⟩, k1⟩ := k1
  cases k1
  obtain ⟨reach, rfl, rfl, rfl, h_reach⟩ := open_int Try.underlying3 (hval 2 3 v2 rfl rfl) h2
  have run := fsamples_run ma mb mc md me mf nm lv px py ln mi lo hi up dn mx rs gr co sw kf kt reach
  refine (run.calls Try.mixed Try.ir_ok (fun _ => False) W #[.agg #[.int .i64 ma, .int .i64 mb, .int .i64 mc, .int .i64 md, .int .i64 me, .int .i64 mf], .agg #[.string nm, .int .i64 lv, .int .i64 px, .int .i64 py, .int .i64 ln, .bool mi, .int .i64 lo, .int .i64 hi, .int .i64 up, .int .i64 dn, .int .i64 mx, .int .i64 rs, .int .i64 gr, .int .i64 co, .int .i64 sw, .int .i64 kf, .int .i64 kt], .int .i64 reach] (fun _ h => h.elim) rfl ?_).mono ?_
  · refine rdAll_of ⟨rdAgg_of (dat_of (by rfl)) ⟨.int _ _, .int _ _, .int _ _, .int _ _, .int _ _, .int _ _, trivial⟩, rdAgg_of (dat_of (by rfl)) ⟨.str _, .int _ _, .int _ _, .int _ _, .int _ _, .bool _, .int _ _, .int _ _, .int _ _, .int _ _, .int _ _, .int _ _, .int _ _, .int _ _, .int _ _, .int _ _, .int _ _, trivial⟩, .int _ _, trivial⟩
  · rintro e W' ⟨v, rfl, hb, hr⟩
    obtain rfl := rd_bool hr
    exact ⟨_, rfl, post_true flipperSamplesLaid (by kernel_rfl) rfl (by kernel_rfl) Try.underlying4 hW' rfl hb⟩

theorem flipperSamples_holds : Rows.FlipperSamplesSaid :=
  OpenClaim.holds_of_wide 10 Try.f10 rfl rfl rfl rfl rfl rfl rfl ⟨rfl, rfl, rfl, rfl, rfl⟩ rfl rfl rfl rfl rfl (by kernel_rfl) Try.func10 (by kernel_rfl)
    (of_decide_eq_true (by kernel_rfl)) (by unfold Func.isWrapper; first | (rw [if_pos (by decide +kernel)]; kernel_rfl) | (rw [if_neg (by decide +kernel)]; exact ⟨rfl, rfl⟩))
    (fun os started H enc _ => flipperSamples_lifted os started H enc)
end Go.Proofs.Ythakfjlnhldehaa
