/- Texts of the proof of ContactStates: part 18 of 18. -/
import Derived.Test.YtenfgdobfjofkaaGreatRows
import Derived.ProofKit
import Derived.Test.YtenfgdobfjofkaaGreatCst17
namespace Go.Proofs.YtenfgdobfjofkaaGreat
open Go.ChangeShapes Go.WideShapes Go.ChangeAt Go.RowKit Go.Ai
set_option maxRecDepth 100000
open Go.DataW renaming TrodAll->R8,weights_mem_each->WT
open Go.Proofs.Tryz renaming checked->Awd,f3->Afl,func3->AKd,prog->g,underlying22->Aky
open Go.Proofs.YtenfgdobfjofkaaGreat.Rows renaming contactStatesRow->Mz,contactStatesSpec->oB
open Go.Proofs.YtenfgdobfjofkaaGreat.Tryz renaming pinned->oN
open Go.Value renaming okWide->ABz
open List renaming all_eq_true->AKf
theorem contactStatesOwn:ownKnob g.godebug=none:=by kernel_rfl
theorem contactStatesLaid:laidOutB g=true:=by kernel_rfl
set_option maxRecDepth 100000 in
theorem contactStates_lifted(os:Os)(started:os.Started)(H:Type)(enc:TypeId × Value->H) :
  ReturnsInHanded {} Awd os 3 .any (oB.pre6 enc g Afl Mz.domain false) (oB.post enc g Afl false true false false):=by
 refine returnsInHanded_of_change_sized (C:=Awd) contactStatesOwn started (by kernel_rfl) AKd
  (ChangeSpec.witness6 (enc:=enc) (C:=Awd) false ⟨#[],#[.slice none 0 0,.slice none 0 0,.slice none 0 0],[]⟩ 8 (by kernel_rfl) (by kernel_rfl) (by kernel_rfl) (by kernel_rfl)) ?_
 intro W base args ds gs before hval0 hW hcnd hsz _;have hval:∀ (j:Nat) t v,Afl.params[j]? = some t->args[j]? = some v->ABz g W .any base t v:=hval0;have hW':=hW;obtain⟨p,q,hA0,hV,_,_,_⟩:=hW;have hA:R8 enc g W 0 (fun _=>true) true Afl.params.toList args.toList ds p:=hA0;rw[Tryz.params3] at hA hval;obtain⟨v0,v1,v2,d0,d1,d2,p0,p1,p2,rfl,rfl,rfl,h0,h1,h2⟩:=trodAll_three hA;obtain⟨rfl,rfl⟩:=trodVars_none hV;have w_0:∀ n∈d0.weights g 22,n<=reachBytes:=fun n hn=>by simpa using AKf.1 hsz _ (WT (j:=0) (t:=22) (d:=d0) (by kernel_rfl) rfl n hn)
 obtain⟨a_l1,r_l1,g_l1⟩:=Aex (b:=8) (ks:=[.int .i64]) 60 Aky (by kernel_rfl) (hval 0 22 v0 rfl rfl) h0 w_0;obtain⟨l1,h_l1,rfl⟩:=Apy g_l1;have w_1:∀ n∈d1.weights g 22,n<=reachBytes:=fun n hn=>by simpa using AKf.1 hsz _ (WT (j:=1) (t:=22) (d:=d1) (by kernel_rfl) rfl n hn)
 obtain⟨a_l2,r_l2,g_l2⟩:=Aex (b:=8) (ks:=[.int .i64]) 60 Aky (by kernel_rfl) (hval 1 22 v1 rfl rfl) h1 w_1;obtain⟨l2,h_l2,rfl⟩:=Apy g_l2;have w_2:∀ n∈d2.weights g 22,n<=reachBytes:=fun n hn=>by simpa using AKf.1 hsz _ (WT (j:=2) (t:=22) (d:=d2) (by kernel_rfl) rfl n hn)
 obtain⟨a_l3,r_l3,g_l3⟩:=Aex (b:=8) (ks:=[.int .i64]) 60 Aky (by kernel_rfl) (hval 2 22 v2 rfl rfl) h2 w_2;obtain⟨l3,h_l3,rfl⟩:=Apy g_l3;have run:=Aqb (l3:=l3) h_l1 h_l2 WO;refine (run.callsT A9e iN (fun _=>False) W #[v0,v1,v2] (fun _ h=>h.elim) rfl ?_).mono ?_
 ·refine AJq ⟨r_l1,r_l2,r_l3,trivial⟩
 ·rintro e W' ⟨v,rfl,hb,hr⟩;obtain rfl:=AJv hr;exact⟨_,rfl,Ala contactStatesLaid (by kernel_rfl) rfl (by kernel_rfl) Tryz.underlying4 hW' rfl hb⟩
theorem contactStates_in:oN.checked.prog.inPlace 3=Mz.inPlace:=by kernel_rfl
theorem contactStates_un:oN.checked.prog.unfollowed 3=Mz.unfollowed:=by kernel_rfl
theorem contactStates_re:oN.checked.prog.recurses 3=Mz.recurses:=by
 unfold Program.recurses;rw[contactStates_un];rfl
theorem contactStates_na:oN.checked.prog.varsNamed 3=Mz.named:=by kernel_rfl
theorem contactStates_facts:joinedFacts oN.checked.prog 3 Afl oB Mz=true:=by
 unfold joinedFacts;rw[contactStates_in,contactStates_un,contactStates_re,contactStates_na];kernel_rfl
theorem contactStates_holds:Rows.ContactStatesSaid :=
 OpenClaim.holds_of_wide 3 Afl rfl rfl rfl rfl rfl rfl rfl ⟨rfl,rfl,rfl,rfl,rfl⟩ rfl rfl rfl rfl rfl (by kernel_rfl) AKd contactStates_facts
  (of_decide_eq_true (by kernel_rfl)) (by unfold Func.isWrapper;first | (rw[if_pos (by decide +kernel)];kernel_rfl) | (rw[if_neg (by decide +kernel)];exact⟨rfl,rfl⟩))
  (fun os started H enc _=>contactStates_lifted os started H enc)
end Go.Proofs.YtenfgdobfjofkaaGreat
