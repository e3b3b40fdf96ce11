/- Texts of the proof of SturmDyadics, packed by pack.py: part 15 of 15. -/
import Derived.Test.YthnnfemologhfaaRows
import Derived.ProofKit
import Derived.Test.YthnnfemologhfaaSdy14
namespace Go.Proofs.Ythnnfemologhfaa
open Go.IntKind (i64 u64 u32)
open Go.ChangeShapes Go.WideShapes Go.ChangeAt Go.RowKit Go.Ai
theorem sturmDyadicsOwn:ownKnob Try.prog.godebug=none:=by kernel_rfl
theorem sturmDyadicsLaid:laidOutB Try.prog=true:=by kernel_rfl
set_option maxRecDepth 100000 in
theorem sturmDyadics_lifted (os:Os) (started:os.Started) (H:Type) (enc:TypeId × Value→H) :
  ReturnsInHanded {} Try.checked os 12 .any (Rows.sturmDyadicsSpec.pre6 enc Try.prog Try.f12 Rows.sturmDyadicsRow.domain false) (Rows.sturmDyadicsSpec.post enc Try.prog Try.f12 false true false false):=by
 refine returnsInHanded_of_change (C:=Try.checked) sturmDyadicsOwn started (by kernel_rfl) Try.func12
  (ChangeSpec.witness6 (enc:=enc) (C:=Try.checked) false ⟨#[],#[.agg #[.bool false, .slice none 0 0, .int .i64 0], .agg #[.bool false, .slice none 0 0, .int .i64 0]],[]⟩ 8 (by kernel_rfl) (by kernel_rfl) (by kernel_rfl) (by kernel_rfl)) ?_
 intro W base args ds gs before hval0 hW hcnd _
 have hval:∀ (j:Nat) t v,Try.f12.params[j]?=some t→args[j]?=some v→Value.okWide Try.prog W .any base t v:=hval0
 have hW':=hW
 obtain ⟨p,q,hA0,hV,_,_,_⟩:=hW
 have hA:DataW.TrodAll enc Try.prog W 0 (fun _=>true) true Try.f12.params.toList args.toList ds p:=hA0
 rw [Try.params12] at hA hval
 obtain ⟨v0,v1,d0,d1,p0,p1,rfl,rfl,rfl,h0,h1⟩:=trodAll_two hA
 obtain ⟨rfl,rfl⟩:=trodVars_none hV
 obtain ⟨a_x,r_x,g_x⟩:=open_deepS (ks:=dyS) 60 Try.underlying42 (by kernel_rfl) (hval 0 42 v0 rfl rfl) h0
 obtain ⟨x,e_x,h_x,w_x,rfl⟩:=dyadic_of g_x
 obtain ⟨a_y,r_y,g_y⟩:=open_deepS (ks:=dyS) 60 Try.underlying42 (by kernel_rfl) (hval 1 42 v1 rfl rfl) h1
 obtain ⟨y,e_y,h_y,w_y,rfl⟩:=dyadic_of g_y
 have run:=dya_run (r:=x) (t:=y) e_x e_y h_x h_y
 refine (run.calls Ymixed Yir_ok (fun _=>False) W #[v0,v1] (fun _ h=>h.elim) rfl ?_).mono ?_
 ·refine rdAll_of ⟨r_x,r_y,trivial⟩
 ·rintro e W' ⟨v,rfl,hb,hr⟩
  obtain rfl:=rd_bool hr
  exact ⟨_,rfl,post_true sturmDyadicsLaid (by kernel_rfl) rfl (by kernel_rfl) Try.underlying4 hW' rfl hb⟩
theorem sturmDyadics_holds:Rows.SturmDyadicsSaid :=
 OpenClaim.holds_of_wide 12 Try.f12 rfl rfl rfl rfl rfl rfl rfl ⟨rfl,rfl,rfl,rfl,rfl⟩ rfl rfl rfl rfl rfl (by kernel_rfl) Try.func12 (by kernel_rfl)
  (of_decide_eq_true (by kernel_rfl)) (by unfold Func.isWrapper;first | (rw [if_pos (by decide +kernel)];kernel_rfl) | (rw [if_neg (by decide +kernel)];exact ⟨rfl,rfl⟩))
  (fun os started H enc _=>sturmDyadics_lifted os started H enc)
end Go.Proofs.Ythnnfemologhfaa
