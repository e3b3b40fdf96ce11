/- Texts of the proof of PolyExact, packed by pack.py: part 19 of 19. -/
import Derived.Test.YthnnfemologhfaaRows
import Derived.ProofKit
import Derived.Test.YthnnfemologhfaaPex18
namespace Go.Proofs.Ythnnfemologhfaa
open Go.IntKind (i64 u64 u32)
open Go.ChangeShapes Go.WideShapes Go.ChangeAt Go.RowKit Go.Ai
theorem polyExactOwn:ownKnob Try.prog.godebug=none:=by kernel_rfl
theorem polyExactLaid:laidOutB Try.prog=true:=by kernel_rfl
set_option maxRecDepth 100000 in
theorem polyExact_lifted (os:Os) (started:os.Started) (H:Type) (enc:TypeId × Value→H) :
  ReturnsInHanded {} Try.checked os 7 .any (Rows.polyExactSpec.pre6 enc Try.prog Try.f7 Rows.polyExactRow.domain false) (Rows.polyExactSpec.post enc Try.prog Try.f7 false true false false):=by
 refine returnsInHanded_of_change (C:=Try.checked) polyExactOwn started (by kernel_rfl) Try.func7
  (ChangeSpec.witness6 (enc:=enc) (C:=Try.checked) false ⟨#[],#[.slice none 0 0, .slice none 0 0],[]⟩ 8 (by kernel_rfl) (by kernel_rfl) (by kernel_rfl) (by kernel_rfl)) ?_
 intro W base args ds gs before hval0 hW hcnd _
 have hval:∀ (j:Nat) t v,Try.f7.params[j]?=some t→args[j]?=some v→Value.okWide Try.prog W .any base t v:=hval0
 have hW':=hW
 obtain ⟨p,q,hA0,hV,_,_,_⟩:=hW
 have hA:DataW.TrodAll enc Try.prog W 0 (fun _=>true) true Try.f7.params.toList args.toList ds p:=hA0
 rw [Try.params7] at hA hval
 obtain ⟨v0,v1,d0,d1,p0,p1,rfl,rfl,rfl,h0,h1⟩:=trodAll_two hA
 obtain ⟨rfl,rfl⟩:=trodVars_none hV
 obtain ⟨a_p,r_p,g_p⟩:=open_deep (ks:=[.bool, .sl [.int .u32]]) 60 Try.underlying23 (by kernel_rfl) (hval 0 23 v0 rfl rfl) h0
 obtain ⟨p,h_p,rfl⟩:=poly_of g_p
 obtain ⟨a_q,r_q,g_q⟩:=open_deep (ks:=[.bool, .sl [.int .u32]]) 60 Try.underlying23 (by kernel_rfl) (hval 1 23 v1 rfl rfl) h1
 obtain ⟨q,h_q,rfl⟩:=poly_of g_q
 have run:=pexa_run (rs:=p) (ss:=q) h_p h_q
 refine (run.calls Ymixed Yir_ok (fun _=>False) W #[v0,v1] (fun _ h=>h.elim) rfl ?_).mono ?_
 ·refine rdAll_of ⟨r_p,r_q,trivial⟩
 ·rintro e W' ⟨v,rfl,hb,hr⟩
  obtain rfl:=rd_bool hr
  exact ⟨_,rfl,post_true polyExactLaid (by kernel_rfl) rfl (by kernel_rfl) Try.underlying4 hW' rfl hb⟩
theorem polyExact_holds:Rows.PolyExactSaid :=
 OpenClaim.holds_of_wide 7 Try.f7 rfl rfl rfl rfl rfl rfl rfl ⟨rfl,rfl,rfl,rfl,rfl⟩ rfl rfl rfl rfl rfl (by kernel_rfl) Try.func7 (by kernel_rfl)
  (of_decide_eq_true (by kernel_rfl)) (by unfold Func.isWrapper;first | (rw [if_pos (by decide +kernel)];kernel_rfl) | (rw [if_neg (by decide +kernel)];exact ⟨rfl,rfl⟩))
  (fun os started H enc _=>polyExact_lifted os started H enc)
end Go.Proofs.Ythnnfemologhfaa
