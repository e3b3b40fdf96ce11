/- The row of FlipperLead: the walk and the plain law joined. -/
import Derived.Test.YthakfjlnhldehaaRows
import Derived.ProofKit
import Derived.Test.YthakfjlnhldehaaLeadPlain
import Derived.Test.YthakfjlnhldehaaAbs17
namespace Go.Proofs.Ythakfjlnhldehaa
open Go.ChangeShapes Go.WideShapes Go.ChangeAt Go.RowKit Go.Ai
theorem flipperLeadOwn : ownKnob Try.prog.godebug = none := by kernel_rfl
theorem flipperLeadLaid : laidOutB Try.prog = true := by kernel_rfl

set_option maxRecDepth 100000 in
theorem flipperLead_lifted (os : Os) (started : os.Started) (H : Type) (enc : TypeId × Value → H) :
    ReturnsInHanded {} Try.checked os 7 .any (Rows.flipperLeadSpec.pre6 enc Try.prog Try.f7 Rows.flipperLeadRow.domain false) (Rows.flipperLeadSpec.post enc Try.prog Try.f7 false true false false) := by
  refine returnsInHanded_of_change (C := Try.checked) flipperLeadOwn started (by kernel_rfl) Try.func7
    (ChangeSpec.witness6 (enc := enc) (C := Try.checked) false ⟨#[], #[.agg #[.string (ByteArray.mk #[]), .int .i64 0, .int .i64 0, .int .i64 0, .int .i64 0, .bool false, .int .i64 0, .int .i64 0, .int .i64 0, .int .i64 0, .int .i64 0, .int .i64 0, .int .i64 0, .int .i64 0, .int .i64 0, .int .i64 0, .int .i64 0], .int .i64 0], []⟩ 8 (by kernel_rfl) (by kernel_rfl) (by kernel_rfl) (by kernel_rfl)) ?_
  intro W base args ds gs before hval0 hW hcnd _
  have hval : ∀ (j : Nat) t v, Try.f7.params[j]? = some t → args[j]? = some v → Value.okWide Try.prog W .any base t v := hval0
  have hW' := hW
  obtain ⟨p, q, hA0, hV, _, _, _⟩ := hW
  have hA : DataW.TrodAll enc Try.prog W 0 (fun _ => true) true Try.f7.params.toList args.toList ds p := hA0
  rw [Try.params7] at hA hval
  obtain ⟨v0, v1, d0, d1, p0, p1, rfl, rfl, rfl, h0, h1⟩ := trodAll_two hA
  obtain ⟨rfl, rfl⟩ := trodVars_none hV
  obtain ⟨cs0, rfl, k0⟩ := open_flat (ks := [.str, .int .i64, .int .i64, .int .i64, .int .i64, .bool, .int .i64, .int .i64, .int .i64, .int .i64, .int .i64, .int .i64, .int .i64, .int .i64, .int .i64, .int .i64, .int .i64]) 60 Try.underlying49 (by kernel_rfl) (hval 0 49 v0 rfl rfl) h0
  obtain ⟨_, _, rfl, ⟨nm, rfl⟩, k0⟩ := k0
  obtain ⟨_, _, rfl, ⟨lv, rfl, h_lv⟩, k0⟩ := k0
  obtain ⟨_, _, rfl, ⟨px, rfl, h_px⟩, k0⟩ := k0
  obtain ⟨_, _, rfl, ⟨py, rfl, h_py⟩, k0⟩ := k0
  obtain ⟨_, _, rfl, ⟨ln, rfl, h_ln⟩, k0⟩ := k0
  obtain ⟨_, _, rfl, ⟨mi, rfl⟩, k0⟩ := k0
  obtain ⟨_, _, rfl, ⟨lo, rfl, h_lo⟩, k0⟩ := k0
  obtain ⟨_, _, rfl, ⟨hi, rfl, h_hi⟩, k0⟩ := k0
  obtain ⟨_, _, rfl, ⟨up, rfl, h_up⟩, k0⟩ := k0
  obtain ⟨_, _, rfl, ⟨dn, rfl, h_dn⟩, k0⟩ := k0
  obtain ⟨_, _, rfl, ⟨mx, rfl, h_mx⟩, k0⟩ := k0
  obtain ⟨_, _, rfl, ⟨rs, rfl, h_rs⟩, k0⟩ := k0
  obtain ⟨_, _, rfl, ⟨gr, rfl, h_gr⟩, k0⟩ := k0
  obtain ⟨_, _, rfl, ⟨co, rfl, h_co⟩, k0⟩ := k0
  obtain ⟨_, _, rfl, ⟨sw, rfl, h_sw⟩, k0⟩ := k0
  obtain ⟨_, _, rfl, ⟨kf, rfl, h_kf⟩, k0⟩ := k0
  obtain ⟨_, _, rfl, ⟨kt, rfl, h_kt⟩, k0⟩ := k0
  cases k0
  obtain ⟨along, rfl, rfl, rfl, h_along⟩ := open_int Try.underlying3 (hval 1 3 v1 rfl rfl) h1
  have run := Try.run7 nm lv px py ln mi lo hi up dn mx rs gr co sw kf kt along
  rw [lead_true _ _ _ _ _ _ _ _ _ _ _ _ (i64_bd h_kt)] at run
  refine (run.calls Try.mixed Try.ir_ok (fun _ => False) W #[.agg #[.string nm, .int .i64 lv, .int .i64 px, .int .i64 py, .int .i64 ln, .bool mi, .int .i64 lo, .int .i64 hi, .int .i64 up, .int .i64 dn, .int .i64 mx, .int .i64 rs, .int .i64 gr, .int .i64 co, .int .i64 sw, .int .i64 kf, .int .i64 kt], .int .i64 along] (fun _ h => h.elim) rfl ?_).mono ?_
  · refine rdAll_of ⟨rdAgg_of (dat_of (by rfl)) ⟨.str _, .int _ _, .int _ _, .int _ _, .int _ _, .bool _, .int _ _, .int _ _, .int _ _, .int _ _, .int _ _, .int _ _, .int _ _, .int _ _, .int _ _, .int _ _, .int _ _, trivial⟩, .int _ _, trivial⟩
  · rintro e W' ⟨v, rfl, hb, hr⟩
    obtain rfl := rd_bool hr
    exact ⟨_, rfl, post_true flipperLeadLaid (by kernel_rfl) rfl (by kernel_rfl) Try.underlying4 hW' rfl hb⟩

theorem flipperLead_holds : Rows.FlipperLeadSaid :=
  OpenClaim.holds_of_wide 7 Try.f7 rfl rfl rfl rfl rfl rfl rfl ⟨rfl, rfl, rfl, rfl, rfl⟩ rfl rfl rfl rfl rfl (by kernel_rfl) Try.func7 (by kernel_rfl)
    (of_decide_eq_true (by kernel_rfl)) (by unfold Func.isWrapper; first | (rw [if_pos (by decide +kernel)]; kernel_rfl) | (rw [if_neg (by decide +kernel)]; exact ⟨rfl, rfl⟩))
    (fun os started H enc _ => flipperLead_lifted os started H enc)
end Go.Proofs.Ythakfjlnhldehaa
