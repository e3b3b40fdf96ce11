/- Texts of the proof of EntryOrder: part 14 of 14. -/
import Derived.Test.YtajompaehjkgkaaGreatRows
import Derived.ProofKit
import Derived.Test.YtajompaehjkgkaaGreatEor13
namespace Go.Proofs.YtajompaehjkgkaaGreat
open Go.ChangeShapes Go.WideShapes Go.ChangeAt Go.RowKit Go.Ai
set_option maxRecDepth 100000
open Go.DataW renaming TrodAll->O7
open Go.Proofs.Tryz renaming checked->jM,f10->US,func10->AEd,prog->Mv
open Go.Proofs.YtajompaehjkgkaaGreat.Rows renaming entryOrderSpec->Aaw
open Go.Value renaming okWide->Anz
open List renaming all_eq_true->Cf
theorem entryOrderOwn:ownKnob Mv.godebug=none:=by kernel_rfl
theorem entryOrderLaid:laidOutB Mv=true:=by kernel_rfl
set_option maxRecDepth 100000 in
theorem entryOrder_lifted(os:Os)(started:os.Started)(H:Type)(enc:TypeId × Value->H) :
  ReturnsInHanded {} jM os 10 .any (Aaw.pre6 enc Mv US Rows.entryOrderRow.domain false) (Aaw.post enc Mv US false true false false):=by
 refine returnsInHanded_of_change_sized (C:=jM) entryOrderOwn started (by kernel_rfl) AEd
  (ChangeSpec.witness6 (enc:=enc) (C:=jM) false ⟨#[],#[.slice none 0 0,.int .i64 0],[]⟩ 8 (by kernel_rfl) (by kernel_rfl) (by kernel_rfl) (by kernel_rfl)) ?_
 intro W base args ds gs before hval0 hW hcnd hsz _;have hval:∀ (j:Nat) t v,US.params[j]? = some t->args[j]? = some v->Anz Mv W .any base t v:=hval0;have hW':=hW;obtain⟨p,q,hA0,hV,_,_,_⟩:=hW;have hA:O7 enc Mv W 0 (fun _=>true) true US.params.toList args.toList ds p:=hA0;rw[Tryz.params10] at hA hval;obtain⟨v0,v1,d0,d1,p0,p1,rfl,rfl,rfl,h0,h1⟩:=trodAll_two hA;obtain⟨rfl,rfl⟩:=trodVars_none hV;have w_0:∀ n∈d0.weights Mv 61,n<=reachBytes:=fun n hn=>by simpa using Cf.1 hsz _ (DataW.weights_mem_each (j:=0) (t:=61) (d:=d0) (by kernel_rfl) rfl n hn)
 obtain⟨a_l,r_l,g_l⟩:=Aau (b:=24) (ks:=[jL]) 60 Tryz.underlying61 (by kernel_rfl) (hval 0 61 v0 rfl rfl) h0 w_0;obtain⟨l,h_l,rfl⟩:=Anp g_l;obtain⟨turn,rfl,rfl,rfl,h_turn⟩:=open_int Tryz.underlying3 (hval 1 3 v1 rfl rfl) h1;have run:=Xi A7x (ll:=l) h_l turn;refine (run.calls A4p A4q (fun _=>False) W #[v0,.int .i64 turn] (fun _ h=>h.elim) rfl ?_).mono ?_
 ·refine Ann ⟨r_l,.int _ _,trivial⟩
 ·rintro e W' ⟨v,rfl,hb,hr⟩;obtain rfl:=A3f hr;exact⟨_,rfl,Aat entryOrderLaid (by kernel_rfl) rfl (by kernel_rfl) Tryz.underlying4 hW' rfl hb⟩
theorem entryOrder_holds:Rows.EntryOrderSaid :=
 OpenClaim.holds_of_wide 10 US rfl rfl rfl rfl rfl rfl rfl ⟨rfl,rfl,rfl,rfl,rfl⟩ rfl rfl rfl rfl rfl (by kernel_rfl) AEd (by kernel_rfl)
  (of_decide_eq_true (by kernel_rfl)) (by unfold Func.isWrapper;first | (rw[if_pos (by decide +kernel)];kernel_rfl) | (rw[if_neg (by decide +kernel)];exact⟨rfl,rfl⟩))
  (fun os started H enc _=>entryOrder_lifted os started H enc)
end Go.Proofs.YtajompaehjkgkaaGreat
