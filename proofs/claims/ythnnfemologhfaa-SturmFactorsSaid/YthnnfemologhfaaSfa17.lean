/- Texts of the proof of SturmFactors, packed by pack.py: part 17 of 17. -/
import Derived.Test.YthnnfemologhfaaRows
import Derived.ProofKit
import Derived.Test.YthnnfemologhfaaSfa16
namespace Go.Proofs.Ythnnfemologhfaa
open Go.IntKind (i64 u64 u32)
open Go.ChangeShapes Go.WideShapes Go.ChangeAt Go.RowKit Go.Ai
theorem sturmFactorsOwn:ownKnob Try.prog.godebug=none:=by kernel_rfl
theorem sturmFactorsLaid:laidOutB Try.prog=true:=by kernel_rfl
set_option maxRecDepth 100000 in
theorem sturmFactors_lifted (os:Os) (started:os.Started) (H:Type) (enc:TypeId × Value→H) :
  ReturnsInHanded {} Try.checked os 10 .any (Rows.sturmFactorsSpec.pre6 enc Try.prog Try.f10 Rows.sturmFactorsRow.domain false) (Rows.sturmFactorsSpec.post enc Try.prog Try.f10 false true false false):=by
 refine returnsInHanded_of_change (C:=Try.checked) sturmFactorsOwn started (by kernel_rfl) Try.func10
  (ChangeSpec.witness6 (enc:=enc) (C:=Try.checked) false ⟨#[],#[.slice none 0 0, .int .i64 0, .int .i64 0],[]⟩ 8 (by kernel_rfl) (by kernel_rfl) (by kernel_rfl) (by kernel_rfl)) ?_
 intro W base args ds gs before hval0 hW hcnd _
 have hval:∀ (j:Nat) t v,Try.f10.params[j]?=some t→args[j]?=some v→Value.okWide Try.prog W .any base t v:=hval0
 have hW':=hW
 obtain⟨p,q,hA0,hV,_,_,_⟩:=hW
 have hA:DataW.TrodAll enc Try.prog W 0 (fun _=>true) true Try.f10.params.toList args.toList ds p:=hA0
 rw[Try.params10] at hA hval
 obtain⟨v0,v1,v2,d0,d1,d2,p0,p1,p2,rfl,rfl,rfl,h0,h1,h2⟩:=trodAll_three hA
 obtain⟨rfl,rfl⟩:=trodVars_none hV
 obtain⟨roots,r_roots,h_roots⟩:=Pp (k := .i64) 60 Try.underlying38 (by kernel_rfl) (by kernel_rfl) (hval 0 38 v0 rfl rfl) h0
 obtain⟨lo,rfl,rfl,rfl,h_lo⟩:=open_int Try.underlying3 (hval 1 3 v1 rfl rfl) h1
 obtain⟨hi,rfl,rfl,rfl,h_hi⟩:=open_int Try.underlying3 (hval 2 3 v2 rfl rfl) h2
 have run:=Zap (lo:=lo) (hi:=hi) h_roots
 refine (run.calls Ymixed Yir_ok (fun _=>False) W #[v0, .int .i64 lo, .int .i64 hi] (fun _ h=>h.elim) rfl ?_).mono ?_
 ·refine Zia ⟨r_roots, .int _ _, .int _ _,trivial⟩
 ·rintro e W' ⟨v,rfl,hb,hr⟩
  obtain rfl:=Zob hr
  exact⟨_,rfl,Zcw sturmFactorsLaid (by kernel_rfl) rfl (by kernel_rfl) Try.underlying4 hW' rfl hb⟩
theorem sturmFactors_holds:Rows.SturmFactorsSaid :=
 OpenClaim.holds_of_wide 10 Try.f10 rfl rfl rfl rfl rfl rfl rfl ⟨rfl,rfl,rfl,rfl,rfl⟩ rfl rfl rfl rfl rfl (by kernel_rfl) Try.func10 (by kernel_rfl)
  (of_decide_eq_true (by kernel_rfl)) (by unfold Func.isWrapper;first | (rw[if_pos (by decide +kernel)];kernel_rfl) | (rw[if_neg (by decide +kernel)];exact⟨rfl,rfl⟩))
  (fun os started H enc _=>sturmFactors_lifted os started H enc)
end Go.Proofs.Ythnnfemologhfaa
