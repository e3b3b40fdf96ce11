/- Texts of the proof of EntryWithin: part 13 of 13. -/
import Derived.Test.YtajompaehjkgkaaGreatRows
import Derived.ProofKit
import Derived.Test.YtajompaehjkgkaaGreatEwn12
namespace Go.Proofs.YtajompaehjkgkaaGreat
open Go.ChangeShapes Go.WideShapes Go.ChangeAt Go.RowKit Go.Ai
set_option maxRecDepth 100000
open Go.DataW renaming TrodAll->PO
open Go.Proofs.Tryz renaming checked->rC,f9->Zi,func9->AJs,prog->AC
open Go.Proofs.YtajompaehjkgkaaGreat.Rows renaming entryWithinSpec->yX
open Go.Value renaming okWide->Axz
open List renaming all_eq_true->CG
theorem entryWithinOwn:ownKnob AC.godebug=none:=by kernel_rfl
theorem entryWithinLaid:laidOutB AC=true:=by kernel_rfl
set_option maxRecDepth 100000 in
theorem entryWithin_lifted(os:Os)(started:os.Started)(H:Type)(enc:TypeId × Value->H) :
  ReturnsInHanded {} rC os 9 .any (yX.pre6 enc AC Zi Rows.entryWithinRow.domain false) (yX.post enc AC Zi false true false false):=by
 refine returnsInHanded_of_change_sized (C:=rC) entryWithinOwn started (by kernel_rfl) AJs
  (ChangeSpec.witness6 (enc:=enc) (C:=rC) false ⟨#[],#[.slice none 0 0],[]⟩ 8 (by kernel_rfl) (by kernel_rfl) (by kernel_rfl) (by kernel_rfl)) ?_
 intro W base args ds gs before hval0 hW hcnd hsz _;have hval:∀ (j:Nat) t v,Zi.params[j]? = some t->args[j]? = some v->Axz AC W .any base t v:=hval0;have hW':=hW;obtain⟨p,q,hA0,hV,_,_,_⟩:=hW;have hA:PO enc AC W 0 (fun _=>true) true Zi.params.toList args.toList ds p:=hA0;rw[Tryz.params9] at hA hval;obtain⟨v0,d0,rfl,rfl,h0⟩:=trodAll_one hA;obtain⟨rfl,rfl⟩:=trodVars_none hV;have w_0:∀ n∈d0.weights AC 61,n<=reachBytes:=fun n hn=>by simpa using CG.1 hsz _ (DataW.weights_mem_each (j:=0) (t:=61) (d:=d0) (by kernel_rfl) rfl n hn)
 obtain⟨a_l,r_l,g_l⟩:=Aik (b:=24) (ks:=[rB]) 60 Tryz.underlying61 (by kernel_rfl) (hval 0 61 v0 rfl rfl) h0 w_0;obtain⟨l,h_l,rfl⟩:=Axo g_l;have run:=X3 AFz (ll:=l) h_l;refine (run.calls ACy ACz (fun _=>False) W #[v0] (fun _ h=>h.elim) rfl ?_).mono ?_
 ·refine Axm ⟨r_l,trivial⟩
 ·rintro e W' ⟨v,rfl,hb,hr⟩;obtain rfl:=ABa hr;exact⟨_,rfl,Aij entryWithinLaid (by kernel_rfl) rfl (by kernel_rfl) Tryz.underlying4 hW' rfl hb⟩
theorem entryWithin_holds:Rows.EntryWithinSaid :=
 OpenClaim.holds_of_wide 9 Zi rfl rfl rfl rfl rfl rfl rfl ⟨rfl,rfl,rfl,rfl,rfl⟩ rfl rfl rfl rfl rfl (by kernel_rfl) AJs (by kernel_rfl)
  (of_decide_eq_true (by kernel_rfl)) (by unfold Func.isWrapper;first | (rw[if_pos (by decide +kernel)];kernel_rfl) | (rw[if_neg (by decide +kernel)];exact⟨rfl,rfl⟩))
  (fun os started H enc _=>entryWithin_lifted os started H enc)
end Go.Proofs.YtajompaehjkgkaaGreat
