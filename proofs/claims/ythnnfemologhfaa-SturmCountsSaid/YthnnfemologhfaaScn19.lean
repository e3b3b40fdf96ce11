/- Texts of the proof of SturmCounts, packed by pack.py: part 19 of 19. -/
import Derived.Test.YthnnfemologhfaaRows
import Derived.ProofKit
import Derived.Test.YthnnfemologhfaaScn18
namespace Go.Proofs.Ythnnfemologhfaa
open Go.IntKind (i64 u64 u32)
open Go.ChangeShapes Go.WideShapes Go.ChangeAt Go.RowKit Go.Ai
theorem sturmCountsOwn:ownKnob Try.prog.godebug=none:=by kernel_rfl
theorem sturmCountsLaid:laidOutB Try.prog=true:=by kernel_rfl
set_option maxRecDepth 100000 in
theorem sturmCounts_lifted (os:Os) (started:os.Started) (H:Type) (enc:TypeId × Value→H) :
  ReturnsInHanded {} Try.checked os 9 .any (Rows.sturmCountsSpec.pre6 enc Try.prog Try.f9 Rows.sturmCountsRow.domain false) (Rows.sturmCountsSpec.post enc Try.prog Try.f9 false true false false):=by
 refine returnsInHanded_of_change (C:=Try.checked) sturmCountsOwn started (by kernel_rfl) Try.func9
  (ChangeSpec.witness6 (enc:=enc) (C:=Try.checked) false ⟨#[],#[.slice none 0 0, .agg #[.bool false, .slice none 0 0, .int .i64 0], .agg #[.bool false, .slice none 0 0, .int .i64 0]],[]⟩ 8 (by kernel_rfl) (by kernel_rfl) (by kernel_rfl) (by kernel_rfl)) ?_
 intro W base args ds gs before hval0 hW hcnd _
 have hval:∀ (j:Nat) t v,Try.f9.params[j]?=some t→args[j]?=some v→Value.okWide Try.prog W .any base t v:=hval0
 have hW':=hW
 obtain⟨p,q,hA0,hV,_,_,_⟩:=hW
 have hA:DataW.TrodAll enc Try.prog W 0 (fun _=>true) true Try.f9.params.toList args.toList ds p:=hA0
 rw[Try.params9] at hA hval
 obtain⟨v0,v1,v2,d0,d1,d2,p0,p1,p2,rfl,rfl,rfl,h0,h1,h2⟩:=trodAll_three hA
 obtain⟨rfl,rfl⟩:=trodVars_none hV
 obtain⟨a_p,r_p,g_p⟩:=Zee (ks:=[.bool, .sl [.int .u32]]) 60 Try.underlying23 (by kernel_rfl) (hval 0 23 v0 rfl rfl) h0
 obtain⟨p,h_p,rfl⟩:=Zri g_p
 obtain⟨a_x,r_x,g_x⟩:=Eu (ks:=dyS) 60 Try.underlying42 (by kernel_rfl) (hval 1 42 v1 rfl rfl) h1
 obtain⟨x,e_x,h_x,w_x,rfl⟩:=Lp g_x
 obtain⟨a_y,r_y,g_y⟩:=Eu (ks:=dyS) 60 Try.underlying42 (by kernel_rfl) (hval 2 42 v2 rfl rfl) h2
 obtain⟨y,e_y,h_y,w_y,rfl⟩:=Lp g_y
 have run:=Zrv (rs:=p) (r:=x) (t:=y) e_x e_y h_p h_x h_y
 refine (run.calls Ymixed Yir_ok (fun _=>False) W #[v0,v1,v2] (fun _ h=>h.elim) rfl ?_).mono ?_
 ·refine Zj6 ⟨r_p,r_x,r_y,trivial⟩
 ·rintro e W' ⟨v,rfl,hb,hr⟩
  obtain rfl:=Zrd hr
  exact⟨_,rfl,Zd5 sturmCountsLaid (by kernel_rfl) rfl (by kernel_rfl) Try.underlying4 hW' rfl hb⟩
theorem sturmCounts_holds:Rows.SturmCountsSaid :=
 OpenClaim.holds_of_wide 9 Try.f9 rfl rfl rfl rfl rfl rfl rfl ⟨rfl,rfl,rfl,rfl,rfl⟩ rfl rfl rfl rfl rfl (by kernel_rfl) Try.func9 (by kernel_rfl)
  (of_decide_eq_true (by kernel_rfl)) (by unfold Func.isWrapper;first | (rw[if_pos (by decide +kernel)];kernel_rfl) | (rw[if_neg (by decide +kernel)];exact⟨rfl,rfl⟩))
  (fun os started H enc _=>sturmCounts_lifted os started H enc)
end Go.Proofs.Ythnnfemologhfaa
