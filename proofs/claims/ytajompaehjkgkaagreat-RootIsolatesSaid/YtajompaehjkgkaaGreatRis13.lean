/- Texts of the proof of RootIsolates: part 13 of 13. -/
import Derived.Test.YtajompaehjkgkaaGreatRows
import Derived.ProofKit
import Derived.Test.YtajompaehjkgkaaGreatRis12
namespace Go.Proofs.YtajompaehjkgkaaGreat
open Go.ChangeShapes Go.WideShapes Go.ChangeAt Go.RowKit Go.Ai
set_option maxRecDepth 100000
open Go.DataW renaming TrodAll->Mx,weights_mem_each->M0
open Go.Proofs.Tryz renaming checked->aC,f3->Uo,func3->Awa,prog->c,underlying28->Aey
open Go.Proofs.YtajompaehjkgkaaGreat.Rows renaming rootIsolatesSpec->iR
open Go.Value renaming okWide->WO
open List renaming all_eq_true->BA
theorem rootIsolatesOwn:ownKnob c.godebug=none:=by kernel_rfl
theorem rootIsolatesLaid:laidOutB c=true:=by kernel_rfl
set_option maxRecDepth 100000 in
theorem rootIsolates_lifted(os:Os)(started:os.Started)(H:Type)(enc:TypeId × Value->H) :
  ReturnsInHanded {} aC os 3 .any (iR.pre6 enc c Uo Rows.rootIsolatesRow.domain false) (iR.post enc c Uo false true false false):=by
 refine returnsInHanded_of_change_sized (C:=aC) rootIsolatesOwn started (by kernel_rfl) Awa
  (ChangeSpec.witness6 (enc:=enc) (C:=aC) false ⟨#[],#[.slice none 0 0,.agg #[.bool false,.slice none 0 0,.int .i64 0],.agg #[.bool false,.slice none 0 0,.int .i64 0]],[]⟩ 8 (by kernel_rfl) (by kernel_rfl) (by kernel_rfl) (by kernel_rfl)) ?_
 intro W base args ds gs before hval0 hW hcnd hsz _;have hval:∀ (j:Nat) t v,Uo.params[j]? = some t->args[j]? = some v->WO c W .any base t v:=hval0;have hW':=hW;obtain⟨p,q,hA0,hV,_,_,_⟩:=hW;have hA:Mx enc c W 0 (fun _=>true) true Uo.params.toList args.toList ds p:=hA0;rw[Tryz.params3] at hA hval;obtain⟨v0,v1,v2,d0,d1,d2,p0,p1,p2,rfl,rfl,rfl,h0,h1,h2⟩:=trodAll_three hA;obtain⟨rfl,rfl⟩:=trodVars_none hV;have w_0:∀ n∈d0.weights c 23,n<=reachBytes:=fun n hn=>by simpa using BA.1 hsz _ (M0 (j:=0) (t:=23) (d:=d0) (by kernel_rfl) rfl n hn)
 obtain⟨a_p,r_p,g_p⟩:=qP (b:=32) (ks:=[.bool,.sl 4 [.int .u32]]) 60 Tryz.underlying23 (by kernel_rfl) (hval 0 23 v0 rfl rfl) h0 w_0;obtain⟨p,h_p,rfl⟩:=Avx g_p;have w_1:∀ n∈d1.weights c 28,n<=reachBytes:=fun n hn=>by simpa using BA.1 hsz _ (M0 (j:=1) (t:=28) (d:=d1) (by kernel_rfl) rfl n hn)
 obtain⟨a_lo,r_lo,g_lo⟩:=TL (ks:=dyS) 60 Aey (by kernel_rfl) (hval 1 28 v1 rfl rfl) h1 w_1;obtain⟨lo,e_lo,h_lo,w_lo,rfl⟩:=WL g_lo;have w_2:∀ n∈d2.weights c 28,n<=reachBytes:=fun n hn=>by simpa using BA.1 hsz _ (M0 (j:=2) (t:=28) (d:=d2) (by kernel_rfl) rfl n hn)
 obtain⟨a_hi,r_hi,g_hi⟩:=TL (ks:=dyS) 60 Aey (by kernel_rfl) (hval 2 28 v2 rfl rfl) h2 w_2;obtain⟨hi,e_hi,h_hi,w_hi,rfl⟩:=WL g_hi;have run:=RC A2j (rs:=p) h_p (r:=lo) (t:=hi) h_lo h_hi e_lo e_hi;refine (run.calls Axe Axf (fun _=>False) W #[v0,v1,v2] (fun _ h=>h.elim) rfl ?_).mono ?_
 ·refine Aew ⟨r_p,r_lo,r_hi,trivial⟩
 ·rintro e W' ⟨v,rfl,hb,hr⟩;obtain rfl:=Avw hr;exact⟨_,rfl,qO rootIsolatesLaid (by kernel_rfl) rfl (by kernel_rfl) Tryz.underlying4 hW' rfl hb⟩
theorem rootIsolates_holds:Rows.RootIsolatesSaid :=
 OpenClaim.holds_of_wide 3 Uo rfl rfl rfl rfl rfl rfl rfl ⟨rfl,rfl,rfl,rfl,rfl⟩ rfl rfl rfl rfl rfl (by kernel_rfl) Awa (by kernel_rfl)
  (of_decide_eq_true (by kernel_rfl)) (by unfold Func.isWrapper;first | (rw[if_pos (by decide +kernel)];kernel_rfl) | (rw[if_neg (by decide +kernel)];exact⟨rfl,rfl⟩))
  (fun os started H enc _=>rootIsolates_lifted os started H enc)
end Go.Proofs.YtajompaehjkgkaaGreat
