/- Texts of the proof of RootOrder: part 13 of 13. -/
import Derived.Test.YtajompaehjkgkaaGreatRows
import Derived.ProofKit
import Derived.Test.YtajompaehjkgkaaGreatRod12
namespace Go.Proofs.YtajompaehjkgkaaGreat
open Go.ChangeShapes Go.WideShapes Go.ChangeAt Go.RowKit Go.Ai
set_option maxRecDepth 100000
open Go.DataW renaming TrodAll->MB,weights_mem_each->bG
open Go.Proofs.Tryz renaming checked->bF,f4->UE,func4->Ayq,prog->A9p,underlying23->Ahg
open Go.Proofs.YtajompaehjkgkaaGreat.Rows renaming rootOrderSpec->vK
open Go.Value renaming okWide->Ahs
open List renaming all_eq_true->BY
theorem rootOrderOwn:ownKnob A9p.godebug=none:=by kernel_rfl
theorem rootOrderLaid:laidOutB A9p=true:=by kernel_rfl
set_option maxRecDepth 100000 in
theorem rootOrder_lifted(os:Os)(started:os.Started)(H:Type)(enc:TypeId × Value->H) :
  ReturnsInHanded {} bF os 4 .any (vK.pre6 enc A9p UE Rows.rootOrderRow.domain false) (vK.post enc A9p UE false true false false):=by
 refine returnsInHanded_of_change_sized (C:=bF) rootOrderOwn started (by kernel_rfl) Ayq
  (ChangeSpec.witness6 (enc:=enc) (C:=bF) false ⟨#[],#[.slice none 0 0,.slice none 0 0],[]⟩ 8 (by kernel_rfl) (by kernel_rfl) (by kernel_rfl) (by kernel_rfl)) ?_
 intro W base args ds gs before hval0 hW hcnd hsz _;have hval:∀ (j:Nat) t v,UE.params[j]? = some t->args[j]? = some v->Ahs A9p W .any base t v:=hval0;have hW':=hW;obtain⟨p,q,hA0,hV,_,_,_⟩:=hW;have hA:MB enc A9p W 0 (fun _=>true) true UE.params.toList args.toList ds p:=hA0;rw[Tryz.params4] at hA hval;obtain⟨v0,v1,d0,d1,p0,p1,rfl,rfl,rfl,h0,h1⟩:=trodAll_two hA;obtain⟨rfl,rfl⟩:=trodVars_none hV;have w_0:∀ n∈d0.weights A9p 23,n<=reachBytes:=fun n hn=>by simpa using BY.1 hsz _ (bG (j:=0) (t:=23) (d:=d0) (by kernel_rfl) rfl n hn)
 obtain⟨a_p,r_p,g_p⟩:=Xu (b:=32) (ks:=[.bool,.sl 4 [.int .u32]]) 60 Ahg (by kernel_rfl) (hval 0 23 v0 rfl rfl) h0 w_0;obtain⟨p,h_p,rfl⟩:=kR g_p;have w_1:∀ n∈d1.weights A9p 23,n<=reachBytes:=fun n hn=>by simpa using BY.1 hsz _ (bG (j:=1) (t:=23) (d:=d1) (by kernel_rfl) rfl n hn)
 obtain⟨a_q,r_q,g_q⟩:=Xu (b:=32) (ks:=[.bool,.sl 4 [.int .u32]]) 60 Ahg (by kernel_rfl) (hval 1 23 v1 rfl rfl) h1 w_1;obtain⟨q,h_q,rfl⟩:=kR g_q;have run:=Xt A4v (rs:=p) (qs:=q) h_p h_q;refine (run.calls Azt Azu (fun _=>False) W #[v0,v1] (fun _ h=>h.elim) rfl ?_).mono ?_
 ·refine Ahe ⟨r_p,r_q,trivial⟩
 ·rintro e W' ⟨v,rfl,hb,hr⟩;obtain rfl:=Ayj hr;exact⟨_,rfl,sY rootOrderLaid (by kernel_rfl) rfl (by kernel_rfl) Tryz.underlying4 hW' rfl hb⟩
theorem rootOrder_holds:Rows.RootOrderSaid :=
 OpenClaim.holds_of_wide 4 UE rfl rfl rfl rfl rfl rfl rfl ⟨rfl,rfl,rfl,rfl,rfl⟩ rfl rfl rfl rfl rfl (by kernel_rfl) Ayq (by kernel_rfl)
  (of_decide_eq_true (by kernel_rfl)) (by unfold Func.isWrapper;first | (rw[if_pos (by decide +kernel)];kernel_rfl) | (rw[if_neg (by decide +kernel)];exact⟨rfl,rfl⟩))
  (fun os started H enc _=>rootOrder_lifted os started H enc)
end Go.Proofs.YtajompaehjkgkaaGreat
