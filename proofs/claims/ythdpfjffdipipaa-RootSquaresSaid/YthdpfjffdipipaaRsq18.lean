/- Texts of the proof of RootSquares, packed by pack.py: part 18 of 18. -/
import Derived.Test.YthdpfjffdipipaaRows
import Derived.ProofKit
import Derived.Test.YthdpfjffdipipaaRsq17
namespace Go.Proofs.Ythdpfjffdipipaa
open Go.IntKind (i64 u64 u32)
open Go.ChangeShapes Go.WideShapes Go.ChangeAt Go.RowKit Go.Ai
theorem rootSquaresOwn:ownKnob Try.prog.godebug=none:=by kernel_rfl
theorem rootSquaresLaid:laidOutB Try.prog=true:=by kernel_rfl
set_option maxRecDepth 100000 in
theorem rootSquares_lifted (os:Os) (started:os.Started) (H:Type) (enc:TypeId × Value->H) :
  ReturnsInHanded {} Try.checked os 6 .any (Rows.rootSquaresSpec.pre6 enc Try.prog Try.f6 Rows.rootSquaresRow.domain false) (Rows.rootSquaresSpec.post enc Try.prog Try.f6 false true false false):=by
 refine returnsInHanded_of_change (C:=Try.checked) rootSquaresOwn started (by kernel_rfl) Try.func6
  (ChangeSpec.witness6 (enc:=enc) (C:=Try.checked) false ⟨#[],#[.int .i64 0,.int .i64 0],[]⟩ 8 (by kernel_rfl) (by kernel_rfl) (by kernel_rfl) (by kernel_rfl)) ?_
 intro W base args ds gs before hval0 hW hcnd _;have hval:∀ (j:Nat) t v,Try.f6.params[j]?=some t->args[j]?=some v->Value.okWide Try.prog W .any base t v:=hval0;have hW':=hW;obtain⟨p,q,hA0,hV,_,_,_⟩:=hW;have hA:DataW.TrodAll enc Try.prog W 0 (fun _=>true) true Try.f6.params.toList args.toList ds p:=hA0;rw[Try.params6] at hA hval;obtain⟨v0,v1,d0,d1,p0,p1,rfl,rfl,rfl,h0,h1⟩:=trodAll_two hA;obtain⟨rfl,rfl⟩:=trodVars_none hV;obtain⟨a,rfl,rfl,rfl,h_a⟩:=open_int Try.underlying3 (hval 0 3 v0 rfl rfl) h0;obtain⟨b,rfl,rfl,rfl,h_b⟩:=open_int Try.underlying3 (hval 1 3 v1 rfl rfl) h1;have run:=Rs Yrun21 a b;refine (run.calls Ymixed Yir_ok (fun _=>False) W #[.int .i64 a,.int .i64 b] (fun _ h=>h.elim) rfl ?_).mono ?_
 ·refine Zju ⟨.int _ _,.int _ _,trivial⟩
 ·rintro e W' ⟨v,rfl,hb,hr⟩;obtain rfl:=Zqc hr;exact⟨_,rfl,Zef rootSquaresLaid (by kernel_rfl) rfl (by kernel_rfl) Try.underlying4 hW' rfl hb⟩
theorem rootSquares_holds:Rows.RootSquaresSaid :=
 OpenClaim.holds_of_wide 6 Try.f6 rfl rfl rfl rfl rfl rfl rfl ⟨rfl,rfl,rfl,rfl,rfl⟩ rfl rfl rfl rfl rfl (by kernel_rfl) Try.func6 (by kernel_rfl)
  (of_decide_eq_true (by kernel_rfl)) (by unfold Func.isWrapper;first | (rw[if_pos (by decide +kernel)];kernel_rfl) | (rw[if_neg (by decide +kernel)];exact⟨rfl,rfl⟩))
  (fun os started H enc _=>rootSquares_lifted os started H enc)
end Go.Proofs.Ythdpfjffdipipaa
