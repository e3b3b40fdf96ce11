/- Texts of the proof of SturmAdds, packed by pack.py: part 15 of 15. -/
import Derived.Test.YthnnfemologhfaaRows
import Derived.ProofKit
import Derived.Test.YthnnfemologhfaaSad14
namespace Go.Proofs.Ythnnfemologhfaa
open Go.IntKind (i64 u64 u32)
open Go.ChangeShapes Go.WideShapes Go.ChangeAt Go.RowKit Go.Ai
theorem sturmAddsOwn:ownKnob Try.prog.godebug=none:=by kernel_rfl
theorem sturmAddsLaid:laidOutB Try.prog=true:=by kernel_rfl
set_option maxRecDepth 100000 in
theorem sturmAdds_lifted (os:Os) (started:os.Started) (H:Type) (enc:TypeId × Value→H) :
  ReturnsInHanded {} Try.checked os 11 .any (Rows.sturmAddsSpec.pre6 enc Try.prog Try.f11 Rows.sturmAddsRow.domain false) (Rows.sturmAddsSpec.post enc Try.prog Try.f11 false true false false):=by
 refine returnsInHanded_of_change (C:=Try.checked) sturmAddsOwn started (by kernel_rfl) Try.func11
  (ChangeSpec.witness6 (enc:=enc) (C:=Try.checked) false ⟨#[],#[.slice none 0 0, .slice none 0 0],[]⟩ 8 (by kernel_rfl) (by kernel_rfl) (by kernel_rfl) (by kernel_rfl)) ?_
 intro W base args ds gs before hval0 hW hcnd _
 have hval:∀ (j:Nat) t v,Try.f11.params[j]?=some t→args[j]?=some v→Value.okWide Try.prog W .any base t v:=hval0
 have hW':=hW
 obtain⟨p,q,hA0,hV,_,_,_⟩:=hW
 have hA:DataW.TrodAll enc Try.prog W 0 (fun _=>true) true Try.f11.params.toList args.toList ds p:=hA0
 rw[Try.params11] at hA hval
 obtain⟨v0,v1,d0,d1,p0,p1,rfl,rfl,rfl,h0,h1⟩:=trodAll_two hA
 obtain⟨rfl,rfl⟩:=trodVars_none hV
 obtain⟨a_p,r_p,g_p⟩:=Zbw (ks:=[.bool, .sl [.int .u32]]) 60 Try.underlying23 (by kernel_rfl) (hval 0 23 v0 rfl rfl) h0
 obtain⟨p,h_p,rfl⟩:=Zmg g_p
 obtain⟨cuts,r_cuts,h_cuts⟩:=Li (k := .i64) 60 Try.underlying38 (by kernel_rfl) (by kernel_rfl) (hval 1 38 v1 rfl rfl) h1
 have run:=Tu (ps:=p) h_cuts h_p
 refine (run.calls Ymixed Yir_ok (fun _=>False) W #[v0,v1] (fun _ h=>h.elim) rfl ?_).mono ?_
 ·refine Zgt ⟨r_p,r_cuts,trivial⟩
 ·rintro e W' ⟨v,rfl,hb,hr⟩
  obtain rfl:=Zmc hr
  exact⟨_,rfl,Zbm sturmAddsLaid (by kernel_rfl) rfl (by kernel_rfl) Try.underlying4 hW' rfl hb⟩
theorem sturmAdds_holds:Rows.SturmAddsSaid :=
 OpenClaim.holds_of_wide 11 Try.f11 rfl rfl rfl rfl rfl rfl rfl ⟨rfl,rfl,rfl,rfl,rfl⟩ rfl rfl rfl rfl rfl (by kernel_rfl) Try.func11 (by kernel_rfl)
  (of_decide_eq_true (by kernel_rfl)) (by unfold Func.isWrapper;first | (rw[if_pos (by decide +kernel)];kernel_rfl) | (rw[if_neg (by decide +kernel)];exact⟨rfl,rfl⟩))
  (fun os started H enc _=>sturmAdds_lifted os started H enc)
end Go.Proofs.Ythnnfemologhfaa
