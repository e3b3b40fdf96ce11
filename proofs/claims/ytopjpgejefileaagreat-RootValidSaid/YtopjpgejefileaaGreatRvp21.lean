/- Texts of the proof of RootValid, packed by pack.py: part 21 of 21. -/
import Derived.Test.YtopjpgejefileaaGreatRows
import Derived.ProofKit
import Derived.Test.YtopjpgejefileaaGreatRvp20
namespace Go.Proofs.YtopjpgejefileaaGreat
open Go.IntKind (i64 u64 u32)
open Go.ChangeShapes Go.WideShapes Go.ChangeAt Go.RowKit Go.Ai
theorem rootValidOwn:ownKnob Tryz.prog.godebug=none:=by kernel_rfl
theorem rootValidLaid:laidOutB Tryz.prog=true:=by kernel_rfl
set_option maxRecDepth 100000 in
theorem rootValid_lifted (os:Os) (started:os.Started) (H:Type) (enc:TypeId × Value->H) :
  ReturnsInHanded {} Tryz.checked os 6 .any (Rows.rootValidSpec.pre6 enc Tryz.prog Tryz.f6 Rows.rootValidRow.domain false) (Rows.rootValidSpec.post enc Tryz.prog Tryz.f6 false true false false):=by
 refine returnsInHanded_of_change_sized (C:=Tryz.checked) rootValidOwn started (by kernel_rfl) Tryz.func6
  (ChangeSpec.witness6 (enc:=enc) (C:=Tryz.checked) false ⟨#[],#[.agg #[.slice none 0 0,.bool false,.slice none 0 0,.int .i64 0,.bool false,.slice none 0 0,.int .i64 0],.int .i64 0],[]⟩ 8 (by kernel_rfl) (by kernel_rfl) (by kernel_rfl) (by kernel_rfl)) ?_
 intro W base args ds gs before hval0 hW hcnd hsz _;have hval:∀ (j:Nat) t v,Tryz.f6.params[j]?=some t->args[j]?=some v->Value.okWide Tryz.prog W .any base t v:=hval0;have hW':=hW;obtain⟨p,q,hA0,hV,_,_,_⟩:=hW;have hA:DataW.TrodAll enc Tryz.prog W 0 (fun _=>true) true Tryz.f6.params.toList args.toList ds p:=hA0;rw[Tryz.params6] at hA hval;obtain⟨v0,v1,d0,d1,p0,p1,rfl,rfl,rfl,h0,h1⟩:=trodAll_two hA;obtain⟨rfl,rfl⟩:=trodVars_none hV;have w_0:∀ n∈d0.weights Tryz.prog 38,n<=reachBytes:=fun n hn=>by simpa using List.all_eq_true.1 hsz _ (DataW.weights_mem_each (j:=0) (t:=38) (d:=d0) (by kernel_rfl) rfl n hn)
 obtain⟨a_r,r_r,g_r⟩:=Zdh (ks:=rootS) 60 Tryz.underlying38 (by kernel_rfl) (hval 0 38 v0 rfl rfl) h0 w_0;obtain⟨p_r,l_r,e_r,u_r,f_r,h_r,hl_r,hu_r,we_r,wf_r,rfl⟩:=Zwb g_r;obtain⟨steps,rfl,rfl,rfl,h_steps⟩:=open_int Tryz.underlying3 (hval 1 3 v1 rfl rfl) h1;have run:=Mw Yrun12 (rs:=p_r) h_r (r:=l_r) (t:=u_r) hl_r.1 hu_r.1 e_r f_r steps;refine (run.calls Ymixed Yir_ok (fun _=>False) W #[v0,.int .i64 steps] (fun _ h=>h.elim) rfl ?_).mono ?_
 ·refine Znb ⟨r_r,.int _ _,trivial⟩
 ·rintro e W' ⟨v,rfl,hb,hr⟩;obtain rfl:=Zwe hr;exact⟨_,rfl,Zf9 rootValidLaid (by kernel_rfl) rfl (by kernel_rfl) Tryz.underlying4 hW' rfl hb⟩
theorem rootValid_holds:Rows.RootValidSaid :=
 OpenClaim.holds_of_wide 6 Tryz.f6 rfl rfl rfl rfl rfl rfl rfl ⟨rfl,rfl,rfl,rfl,rfl⟩ rfl rfl rfl rfl rfl (by kernel_rfl) Tryz.func6 (by kernel_rfl)
  (of_decide_eq_true (by kernel_rfl)) (by unfold Func.isWrapper;first | (rw[if_pos (by decide +kernel)];kernel_rfl) | (rw[if_neg (by decide +kernel)];exact⟨rfl,rfl⟩))
  (fun os started H enc _=>rootValid_lifted os started H enc)
end Go.Proofs.YtopjpgejefileaaGreat
