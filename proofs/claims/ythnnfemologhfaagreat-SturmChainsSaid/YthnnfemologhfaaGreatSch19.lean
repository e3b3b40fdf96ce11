/- Texts of the proof of SturmChains, packed by pack.py: part 19 of 19. -/
import Derived.Test.YthnnfemologhfaaGreatRows
import Derived.ProofKit
import Derived.Test.YthnnfemologhfaaGreatSch18
namespace Go.Proofs.YthnnfemologhfaaGreat
open Go.IntKind (i64 u64 u32)
open Go.ChangeShapes Go.WideShapes Go.ChangeAt Go.RowKit Go.Ai
theorem sturmChainsOwn:ownKnob Tryz.prog.godebug=none:=by kernel_rfl
theorem sturmChainsLaid:laidOutB Tryz.prog=true:=by kernel_rfl
set_option maxRecDepth 100000 in
theorem sturmChains_lifted (os:Os) (started:os.Started) (H:Type) (enc:TypeId × Value→H) :
  ReturnsInHanded {} Tryz.checked os 3 .any (Rows.sturmChainsSpec.pre6 enc Tryz.prog Tryz.f3 Rows.sturmChainsRow.domain false) (Rows.sturmChainsSpec.post enc Tryz.prog Tryz.f3 false true false false):=by
 refine returnsInHanded_of_change (C:=Tryz.checked) sturmChainsOwn started (by kernel_rfl) Tryz.func3
  (ChangeSpec.witness6 (enc:=enc) (C:=Tryz.checked) false ⟨#[],#[.slice none 0 0, .agg #[.bool false, .slice none 0 0, .int .i64 0]],[]⟩ 8 (by kernel_rfl) (by kernel_rfl) (by kernel_rfl) (by kernel_rfl)) ?_
 intro W base args ds gs before hval0 hW hcnd _
 have hval:∀ (j:Nat) t v,Tryz.f3.params[j]?=some t→args[j]?=some v→Value.okWide Tryz.prog W .any base t v:=hval0
 have hW':=hW
 obtain⟨p,q,hA0,hV,_,_,_⟩:=hW
 have hA:DataW.TrodAll enc Tryz.prog W 0 (fun _=>true) true Tryz.f3.params.toList args.toList ds p:=hA0
 rw[Tryz.params3] at hA hval
 obtain⟨v0,v1,d0,d1,p0,p1,rfl,rfl,rfl,h0,h1⟩:=trodAll_two hA
 obtain⟨rfl,rfl⟩:=trodVars_none hV
 obtain⟨a_p,r_p,g_p⟩:=Zcv (ks:=[.bool, .sl [.int .u32]]) 60 Tryz.underlying23 (by kernel_rfl) (hval 0 23 v0 rfl rfl) h0
 obtain⟨p,h_p,rfl⟩:=Zmy g_p
 obtain⟨a_x,r_x,g_x⟩:=Zai (ks:=dyS) 60 Tryz.underlying28 (by kernel_rfl) (hval 1 28 v1 rfl rfl) h1
 obtain⟨x,e_x,h_x,w_x,rfl⟩:=Zdv g_x
 have run:=Znb (rs:=p) (r:=x) e_x h_p h_x
 refine (run.calls Ymixed Yir_ok (fun _=>False) W #[v0,v1] (fun _ h=>h.elim) rfl ?_).mono ?_
 ·refine Zgv ⟨r_p,r_x,trivial⟩
 ·rintro e W' ⟨v,rfl,hb,hr⟩
  obtain rfl:=Zmt hr
  exact⟨_,rfl,Zcn sturmChainsLaid (by kernel_rfl) rfl (by kernel_rfl) Tryz.underlying4 hW' rfl hb⟩
theorem sturmChains_holds:Rows.SturmChainsSaid :=
 OpenClaim.holds_of_wide 3 Tryz.f3 rfl rfl rfl rfl rfl rfl rfl ⟨rfl,rfl,rfl,rfl,rfl⟩ rfl rfl rfl rfl rfl (by kernel_rfl) Tryz.func3 (by kernel_rfl)
  (of_decide_eq_true (by kernel_rfl)) (by unfold Func.isWrapper;first | (rw[if_pos (by decide +kernel)];kernel_rfl) | (rw[if_neg (by decide +kernel)];exact⟨rfl,rfl⟩))
  (fun os started H enc _=>sturmChains_lifted os started H enc)
end Go.Proofs.YthnnfemologhfaaGreat
