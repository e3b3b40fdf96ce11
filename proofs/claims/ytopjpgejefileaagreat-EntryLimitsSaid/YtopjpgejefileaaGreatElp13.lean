/- Texts of the proof of EntryLimits, packed by pack.py: part 13 of 13. -/
import Derived.Test.YtopjpgejefileaaGreatRows
import Derived.ProofKit
import Derived.Test.YtopjpgejefileaaGreatElp12
namespace Go.Proofs.YtopjpgejefileaaGreat
open Go.IntKind (i64 u64 u32)
open Go.ChangeShapes Go.WideShapes Go.ChangeAt Go.RowKit Go.Ai
theorem entryLimitsOwn:ownKnob Tryz.prog.godebug=none:=by kernel_rfl
theorem entryLimitsLaid:laidOutB Tryz.prog=true:=by kernel_rfl
set_option maxRecDepth 100000 in
theorem entryLimits_lifted (os:Os) (started:os.Started) (H:Type) (enc:TypeId × Value→H) :
  ReturnsInHanded {} Tryz.checked os 11 .any (Rows.entryLimitsSpec.pre6 enc Tryz.prog Tryz.f11 Rows.entryLimitsRow.domain false) (Rows.entryLimitsSpec.post enc Tryz.prog Tryz.f11 false true false false):=by
 refine returnsInHanded_of_change (C:=Tryz.checked) entryLimitsOwn started (by kernel_rfl) Tryz.func11
  (ChangeSpec.witness6 (enc:=enc) (C:=Tryz.checked) false ⟨#[],#[.int .i64 0],[]⟩ 8 (by kernel_rfl) (by kernel_rfl) (by kernel_rfl) (by kernel_rfl)) ?_
 intro W base args ds gs before hval0 hW hcnd _
 have hval:∀ (j:Nat) t v,Tryz.f11.params[j]?=some t→args[j]?=some v→Value.okWide Tryz.prog W .any base t v:=hval0
 have hW':=hW
 obtain⟨p,q,hA0,hV,_,_,_⟩:=hW
 have hA:DataW.TrodAll enc Tryz.prog W 0 (fun _=>true) true Tryz.f11.params.toList args.toList ds p:=hA0
 rw[Tryz.params11] at hA hval
 obtain⟨v0,d0,rfl,rfl,h0⟩:=trodAll_one hA
 obtain⟨rfl,rfl⟩:=trodVars_none hV
 obtain⟨n,rfl,rfl,rfl,h_n⟩:=open_int Tryz.underlying3 (hval 0 3 v0 rfl rfl) h0
 have run:=G1 n
 refine (run.calls Ymixed Yir_ok (fun _=>False) W #[.int .i64 n] (fun _ h=>h.elim) rfl ?_).mono ?_
 ·refine Gk ⟨.int _ _,trivial⟩
 ·rintro e W' ⟨v,rfl,hb,hr⟩
  obtain rfl:=Ef hr
  exact⟨_,rfl,Kq entryLimitsLaid (by kernel_rfl) rfl (by kernel_rfl) Tryz.underlying4 hW' rfl hb⟩
theorem entryLimits_holds:Rows.EntryLimitsSaid :=
 OpenClaim.holds_of_wide 11 Tryz.f11 rfl rfl rfl rfl rfl rfl rfl ⟨rfl,rfl,rfl,rfl,rfl⟩ rfl rfl rfl rfl rfl (by kernel_rfl) Tryz.func11 (by kernel_rfl)
  (of_decide_eq_true (by kernel_rfl)) (by unfold Func.isWrapper;first | (rw[if_pos (by decide +kernel)];kernel_rfl) | (rw[if_neg (by decide +kernel)];exact⟨rfl,rfl⟩))
  (fun os started H enc _=>entryLimits_lifted os started H enc)
end Go.Proofs.YtopjpgejefileaaGreat
