/- Texts of the proof of RootDyadics: part 13 of 13. -/
import Derived.Test.YtajompaehjkgkaaGreatRows
import Derived.ProofKit
import Derived.Test.YtajompaehjkgkaaGreatRdx12
namespace Go.Proofs.YtajompaehjkgkaaGreat
open Go.ChangeShapes Go.WideShapes Go.ChangeAt Go.RowKit Go.Ai
set_option maxRecDepth 100000
open Go.DataW renaming TrodAll->LR,weights_mem_each->ZE
open Go.Proofs.Tryz renaming checked->ZD,f5->TN,func5->Aud,prog->c
open Go.Proofs.YtajompaehjkgkaaGreat.Rows renaming rootDyadicsSpec->gT
open Go.Value renaming okWide->Wv
open List renaming all_eq_true->Cb
theorem rootDyadicsOwn:ownKnob c.godebug=none:=by kernel_rfl
theorem rootDyadicsLaid:laidOutB c=true:=by kernel_rfl
set_option maxRecDepth 100000 in
theorem rootDyadics_lifted(os:Os)(started:os.Started)(H:Type)(enc:TypeId × Value->H) :
  ReturnsInHanded {} ZD os 5 .any (gT.pre6 enc c TN Rows.rootDyadicsRow.domain false) (gT.post enc c TN false true false false):=by
 refine returnsInHanded_of_change_sized (C:=ZD) rootDyadicsOwn started (by kernel_rfl) Aud
  (ChangeSpec.witness6 (enc:=enc) (C:=ZD) false ⟨#[],#[.slice none 0 0,.agg #[.bool false,.slice none 0 0,.int .i64 0],.int .i64 0],[]⟩ 8 (by kernel_rfl) (by kernel_rfl) (by kernel_rfl) (by kernel_rfl)) ?_
 intro W base args ds gs before hval0 hW hcnd hsz _;have hval:∀ (j:Nat) t v,TN.params[j]?=some t->args[j]?=some v->Wv c W .any base t v:=hval0;have hW':=hW;obtain⟨p,q,hA0,hV,_,_,_⟩:=hW;have hA:LR enc c W 0 (fun _=>true) true TN.params.toList args.toList ds p:=hA0;rw[Tryz.params5] at hA hval;obtain⟨v0,v1,v2,d0,d1,d2,p0,p1,p2,rfl,rfl,rfl,h0,h1,h2⟩:=trodAll_three hA;obtain⟨rfl,rfl⟩:=trodVars_none hV;have w_0:∀ n∈d0.weights c 23,n<=reachBytes:=fun n hn=>by simpa using Cb.1 hsz _ (ZE (j:=0) (t:=23) (d:=d0) (by kernel_rfl) rfl n hn)
 obtain⟨a_p,r_p,g_p⟩:=pF (b:=32) (ks:=[.bool,.sl 4 [.int .u32]]) 60 Tryz.underlying23 (by kernel_rfl) (hval 0 23 v0 rfl rfl) h0 w_0;obtain⟨p,h_p,rfl⟩:=Aua g_p;have w_1:∀ n∈d1.weights c 28,n<=reachBytes:=fun n hn=>by simpa using Cb.1 hsz _ (ZE (j:=1) (t:=28) (d:=d1) (by kernel_rfl) rfl n hn)
 obtain⟨a_x,r_x,g_x⟩:=gK (ks:=dyS) 60 Tryz.underlying28 (by kernel_rfl) (hval 1 28 v1 rfl rfl) h1 w_1;obtain⟨x,e_x,h_x,w_x,rfl⟩:=pG g_x;obtain⟨e,rfl,rfl,rfl,h_e⟩:=open_int Tryz.underlying3 (hval 2 3 v2 rfl rfl) h2;have run:=Sx A0u (rs:=p) h_p (q:=x) h_x e_x e;refine (run.calls Avk Avl (fun _=>False) W #[v0,v1,.int .i64 e] (fun _ h=>h.elim) rfl ?_).mono ?_
 ·refine Acy ⟨r_p,r_x,.int _ _,trivial⟩
 ·rintro e W' ⟨v,rfl,hb,hr⟩;obtain rfl:=Atz hr;exact⟨_,rfl,pD rootDyadicsLaid (by kernel_rfl) rfl (by kernel_rfl) Tryz.underlying4 hW' rfl hb⟩
theorem rootDyadics_holds:Rows.RootDyadicsSaid :=
 OpenClaim.holds_of_wide 5 TN rfl rfl rfl rfl rfl rfl rfl ⟨rfl,rfl,rfl,rfl,rfl⟩ rfl rfl rfl rfl rfl (by kernel_rfl) Aud (by kernel_rfl)
  (of_decide_eq_true (by kernel_rfl)) (by unfold Func.isWrapper;first | (rw[if_pos (by decide +kernel)];kernel_rfl) | (rw[if_neg (by decide +kernel)];exact⟨rfl,rfl⟩))
  (fun os started H enc _=>rootDyadics_lifted os started H enc)
end Go.Proofs.YtajompaehjkgkaaGreat
