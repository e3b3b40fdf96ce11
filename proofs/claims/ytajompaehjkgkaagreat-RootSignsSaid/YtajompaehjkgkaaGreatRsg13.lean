/- Texts of the proof of RootSigns: part 13 of 13. -/
import Derived.Test.YtajompaehjkgkaaGreatRows
import Derived.ProofKit
import Derived.Test.YtajompaehjkgkaaGreatRsg12
namespace Go.Proofs.YtajompaehjkgkaaGreat
open Go.ChangeShapes Go.WideShapes Go.ChangeAt Go.RowKit Go.Ai
set_option maxRecDepth 100000
open Go.DataW renaming TrodAll->Mc,weights_mem_each->ZF
open Go.Proofs.Tryz renaming checked->ZE,f7->Ug,func7->Avw,prog->c,underlying23->Aen
open Go.Proofs.YtajompaehjkgkaaGreat.Rows renaming rootSignsSpec->tD
open Go.Value renaming okWide->Aez
open List renaming all_eq_true->BQ
theorem rootSignsOwn:ownKnob c.godebug=none:=by kernel_rfl
theorem rootSignsLaid:laidOutB c=true:=by kernel_rfl
set_option maxRecDepth 100000 in
theorem rootSigns_lifted(os:Os)(started:os.Started)(H:Type)(enc:TypeId × Value->H) :
  ReturnsInHanded {} ZE os 7 .any (tD.pre6 enc c Ug Rows.rootSignsRow.domain false) (tD.post enc c Ug false true false false):=by
 refine returnsInHanded_of_change_sized (C:=ZE) rootSignsOwn started (by kernel_rfl) Avw
  (ChangeSpec.witness6 (enc:=enc) (C:=ZE) false ⟨#[],#[.slice none 0 0,.slice none 0 0],[]⟩ 8 (by kernel_rfl) (by kernel_rfl) (by kernel_rfl) (by kernel_rfl)) ?_
 intro W base args ds gs before hval0 hW hcnd hsz _;have hval:∀ (j:Nat) t v,Ug.params[j]?=some t->args[j]?=some v->Aez c W .any base t v:=hval0;have hW':=hW;obtain⟨p,q,hA0,hV,_,_,_⟩:=hW;have hA:Mc enc c W 0 (fun _=>true) true Ug.params.toList args.toList ds p:=hA0;rw[Tryz.params7] at hA hval;obtain⟨v0,v1,d0,d1,p0,p1,rfl,rfl,rfl,h0,h1⟩:=trodAll_two hA;obtain⟨rfl,rfl⟩:=trodVars_none hV;have w_0:∀ n∈d0.weights c 23,n<=reachBytes:=fun n hn=>by simpa using BQ.1 hsz _ (ZF (j:=0) (t:=23) (d:=d0) (by kernel_rfl) rfl n hn)
 obtain⟨a_p,r_p,g_p⟩:=W9 (b:=32) (ks:=[.bool,.sl 4 [.int .u32]]) 60 Aen (by kernel_rfl) (hval 0 23 v0 rfl rfl) h0 w_0;obtain⟨p,h_p,rfl⟩:=iG g_p;have w_1:∀ n∈d1.weights c 23,n<=reachBytes:=fun n hn=>by simpa using BQ.1 hsz _ (ZF (j:=1) (t:=23) (d:=d1) (by kernel_rfl) rfl n hn)
 obtain⟨a_q,r_q,g_q⟩:=W9 (b:=32) (ks:=[.bool,.sl 4 [.int .u32]]) 60 Aen (by kernel_rfl) (hval 1 23 v1 rfl rfl) h1 w_1;obtain⟨q,h_q,rfl⟩:=iG g_q;have run:=W8 A1w (rs:=p) (qs:=q) h_p h_q;refine (run.calls Awz Axa (fun _=>False) W #[v0,v1] (fun _ h=>h.elim) rfl ?_).mono ?_
 ·refine Ael ⟨r_p,r_q,trivial⟩
 ·rintro e W' ⟨v,rfl,hb,hr⟩;obtain rfl:=Avq hr;exact⟨_,rfl,qS rootSignsLaid (by kernel_rfl) rfl (by kernel_rfl) Tryz.underlying4 hW' rfl hb⟩
theorem rootSigns_holds:Rows.RootSignsSaid :=
 OpenClaim.holds_of_wide 7 Ug rfl rfl rfl rfl rfl rfl rfl ⟨rfl,rfl,rfl,rfl,rfl⟩ rfl rfl rfl rfl rfl (by kernel_rfl) Avw (by kernel_rfl)
  (of_decide_eq_true (by kernel_rfl)) (by unfold Func.isWrapper;first | (rw[if_pos (by decide +kernel)];kernel_rfl) | (rw[if_neg (by decide +kernel)];exact⟨rfl,rfl⟩))
  (fun os started H enc _=>rootSigns_lifted os started H enc)
end Go.Proofs.YtajompaehjkgkaaGreat
