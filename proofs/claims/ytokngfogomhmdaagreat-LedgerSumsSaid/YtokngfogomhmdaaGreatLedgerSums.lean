/- The row of LedgerSums: the walk and the plain law joined. -/
import Derived.Test.YtokngfogomhmdaaGreatRows
import Derived.ProofKit
import Derived.Test.YtokngfogomhmdaaGreatLedB
import Derived.Test.YtokngfogomhmdaaGreatHat
import Derived.Test.YtokngfogomhmdaaGreatDeepe
import Derived.Test.YtokngfogomhmdaaGreatAbs17
namespace Go.Proofs.YtokngfogomhmdaaGreat
open Go.ChangeShapes Go.WideShapes Go.ChangeAt Go.RowKit Go.Ai
theorem ledgerSumsOwn : ownKnob Tryz.prog.godebug = none := by kernel_rfl
theorem ledgerSumsLaid : laidOutB Tryz.prog = true := by kernel_rfl

set_option maxRecDepth 100000 in
theorem ledgerSums_lifted (os : Os) (started : os.Started) (H : Type) (enc : TypeId × Value → H) :
    ReturnsInHanded {} Tryz.checked os 3 .any (Rows.ledgerSumsSpec.pre6 enc Tryz.prog Tryz.f3 Rows.ledgerSumsRow.domain false) (Rows.ledgerSumsSpec.post enc Tryz.prog Tryz.f3 false true false false) := by
  refine returnsInHanded_of_change_sized (C := Tryz.checked) ledgerSumsOwn started (by kernel_rfl) Tryz.func3
    (ChangeSpec.witness6 (enc := enc) (C := Tryz.checked) false ⟨#[], #[.slice none 0 0], []⟩ 8 (by kernel_rfl) (by kernel_rfl) (by kernel_rfl) (by kernel_rfl)) ?_
  intro W base args ds gs before hval0 hW hcnd hsz _
  have hval : ∀ (j : Nat) t v, Tryz.f3.params[j]? = some t → args[j]? = some v → Value.okWide Tryz.prog W .any base t v := hval0
  have hW' := hW
  obtain ⟨p, q, hA0, hV, _, _, _⟩ := hW
  have hA : DataW.TrodAll enc Tryz.prog W 0 (fun _ => true) true Tryz.f3.params.toList args.toList ds p := hA0
  rw [Tryz.params3] at hA hval
  obtain ⟨v0, d0, rfl, rfl, h0⟩ := trodAll_one hA
  obtain ⟨rfl, rfl⟩ := trodVars_none hV
  have w_0 : ∀ n ∈ d0.weights Tryz.prog 22, n ≤ reachBytes := fun n hn => by simpa using List.all_eq_true.1 hsz _ (DataW.weights_mem_each (j := 0) (t := 22) (d := d0) (by kernel_rfl) rfl n hn)
  obtain ⟨a_l, r_l, g_l⟩ := open_deep (b := 24) (ks := [.int .i64, .int .i64, .int .i64]) 60 Tryz.underlying22 (by kernel_rfl) (hval 0 22 v0 rfl rfl) h0 w_0
  obtain ⟨l, h_l, rfl⟩ := ents_of g_l
  have run := ledgerSums_run awake_runs h_l
  refine (run.callsT Tryz.mixed Tryz.ir_known (fun _ => False) W #[v0] (fun _ h => h.elim) rfl ?_).mono ?_
  · refine rdAll_of ⟨r_l, trivial⟩
  · rintro e W' ⟨v, rfl, hb, hr⟩
    obtain rfl := rd_bool hr
    exact ⟨_, rfl, post_true ledgerSumsLaid (by kernel_rfl) rfl (by kernel_rfl) Tryz.underlying4 hW' rfl hb⟩

theorem ledgerSums_in : Tryz.pinned.checked.prog.inPlace 3 = Rows.ledgerSumsRow.inPlace := by kernel_rfl
theorem ledgerSums_un : Tryz.pinned.checked.prog.unfollowed 3 = Rows.ledgerSumsRow.unfollowed := by kernel_rfl
theorem ledgerSums_re : Tryz.pinned.checked.prog.recurses 3 = Rows.ledgerSumsRow.recurses := by
  unfold Program.recurses
  rw [ledgerSums_un]
  rfl
theorem ledgerSums_na : Tryz.pinned.checked.prog.varsNamed 3 = Rows.ledgerSumsRow.named := by kernel_rfl
theorem ledgerSums_facts : joinedFacts Tryz.pinned.checked.prog 3 Tryz.f3 Rows.ledgerSumsSpec Rows.ledgerSumsRow = true := by
  unfold joinedFacts
  rw [ledgerSums_in, ledgerSums_un, ledgerSums_re, ledgerSums_na]
  kernel_rfl

theorem ledgerSums_holds : Rows.LedgerSumsSaid :=
  OpenClaim.holds_of_wide 3 Tryz.f3 rfl rfl rfl rfl rfl rfl rfl ⟨rfl, rfl, rfl, rfl, rfl⟩ rfl rfl rfl rfl rfl (by kernel_rfl) Tryz.func3 ledgerSums_facts
    (of_decide_eq_true (by kernel_rfl)) (by unfold Func.isWrapper; first | (rw [if_pos (by decide +kernel)]; kernel_rfl) | (rw [if_neg (by decide +kernel)]; exact ⟨rfl, rfl⟩))
    (fun os started H enc _ => ledgerSums_lifted os started H enc)
end Go.Proofs.YtokngfogomhmdaaGreat
