/- Texts of the proof of ContactPlaces: part 17 of 17. -/
import Derived.Test.YtenfgdobfjofkaaGreatRows
import Derived.ProofKit
import Derived.Test.YtenfgdobfjofkaaGreatCpl16
namespace Go.Proofs.YtenfgdobfjofkaaGreat
open Go.ChangeShapes Go.WideShapes Go.ChangeAt Go.RowKit Go.Ai
set_option maxRecDepth 100000
open Go.DataW renaming TrodAll->LG,weights_mem_each->hC
open Go.Proofs.Tryz renaming checked->gZ,f4->Qq,func4->A1b,prog->g,underlying22->Age
open Go.Proofs.YtenfgdobfjofkaaGreat.Rows renaming contactPlacesRow->EB,contactPlacesSpec->M5
open Go.Proofs.YtenfgdobfjofkaaGreat.Tryz renaming pinned->MU
open Go.Value renaming okWide->Yu
open List renaming all_eq_true->A6
theorem contactPlacesOwn:ownKnob g.godebug=none:=by kernel_rfl
theorem contactPlacesLaid:laidOutB g=true:=by kernel_rfl
set_option maxRecDepth 100000 in
theorem contactPlaces_lifted(os:Os)(started:os.Started)(H:Type)(enc:TypeId × Value->H) :
  ReturnsInHanded {} gZ os 4 .any (M5.pre6 enc g Qq EB.domain false) (M5.post enc g Qq false true false false):=by
 refine returnsInHanded_of_change_sized (C:=gZ) contactPlacesOwn started (by kernel_rfl) A1b
  (ChangeSpec.witness6 (enc:=enc) (C:=gZ) false ⟨#[],#[.slice none 0 0,.slice none 0 0,.agg #[.int .i64 0,.int .i64 0]],[]⟩ 8 (by kernel_rfl) (by kernel_rfl) (by kernel_rfl) (by kernel_rfl)) ?_
 intro W base args ds gs before hval0 hW hcnd hsz _;have hval:∀ (j:Nat) t v,Qq.params[j]? = some t->args[j]? = some v->Yu g W .any base t v:=hval0;have hW':=hW;obtain⟨p,q,hA0,hV,_,_,_⟩:=hW;have hA:LG enc g W 0 (fun _=>true) true Qq.params.toList args.toList ds p:=hA0;rw[Tryz.params4] at hA hval;obtain⟨v0,v1,v2,d0,d1,d2,p0,p1,p2,rfl,rfl,rfl,h0,h1,h2⟩:=trodAll_three hA;obtain⟨rfl,rfl⟩:=trodVars_none hV;have w_0:∀ n∈d0.weights g 22,n<=reachBytes:=fun n hn=>by simpa using A6.1 hsz _ (hC (j:=0) (t:=22) (d:=d0) (by kernel_rfl) rfl n hn)
 obtain⟨a_l1,r_l1,g_l1⟩:=Ys (b:=8) (ks:=[.int .i64]) 60 Age (by kernel_rfl) (hval 0 22 v0 rfl rfl) h0 w_0;obtain⟨l1,h_l1,rfl⟩:=qQ g_l1;have w_1:∀ n∈d1.weights g 22,n<=reachBytes:=fun n hn=>by simpa using A6.1 hsz _ (hC (j:=1) (t:=22) (d:=d1) (by kernel_rfl) rfl n hn)
 obtain⟨a_l2,r_l2,g_l2⟩:=Ys (b:=8) (ks:=[.int .i64]) 60 Age (by kernel_rfl) (hval 1 22 v1 rfl rfl) h1 w_1;obtain⟨l2,h_l2,rfl⟩:=qQ g_l2;obtain⟨cs2,rfl,k2⟩:=wU (ks:=[.int .i64,.int .i64]) 60 Tryz.underlying25 (by kernel_rfl) (hval 2 25 v2 rfl rfl) h2;obtain⟨_,_,rfl,⟨px,rfl,h_px⟩,k2⟩:=k2;obtain⟨_,_,rfl,⟨py,rfl,h_py⟩,k2⟩:=k2;cases k2;have run:=fA (px:=px) (py:=py) h_l1 h_l2 qM vO;refine (run.callsT xO wS (fun _=>False) W #[v0,v1,.agg #[.int .i64 px,.int .i64 py]] (fun _ h=>h.elim) rfl ?_).mono ?_
 ·refine Agb ⟨r_l1,r_l2,Agc (Auf (by rfl)) ⟨.int _ _,.int _ _,trivial⟩,trivial⟩
 ·rintro e W' ⟨v,rfl,hb,hr⟩;obtain rfl:=Ari hr;exact⟨_,rfl,wV contactPlacesLaid (by kernel_rfl) rfl (by kernel_rfl) Tryz.underlying4 hW' rfl hb⟩
theorem contactPlaces_in:MU.checked.prog.inPlace 4=EB.inPlace:=by kernel_rfl
theorem contactPlaces_un:MU.checked.prog.unfollowed 4=EB.unfollowed:=by kernel_rfl
theorem contactPlaces_re:MU.checked.prog.recurses 4=EB.recurses:=by
 unfold Program.recurses;rw[contactPlaces_un];rfl
theorem contactPlaces_na:MU.checked.prog.varsNamed 4=EB.named:=by kernel_rfl
theorem contactPlaces_facts:joinedFacts MU.checked.prog 4 Qq M5 EB=true:=by
 unfold joinedFacts;rw[contactPlaces_in,contactPlaces_un,contactPlaces_re,contactPlaces_na];kernel_rfl
theorem contactPlaces_holds:Rows.ContactPlacesSaid :=
 OpenClaim.holds_of_wide 4 Qq rfl rfl rfl rfl rfl rfl rfl ⟨rfl,rfl,rfl,rfl,rfl⟩ rfl rfl rfl rfl rfl (by kernel_rfl) A1b contactPlaces_facts
  (of_decide_eq_true (by kernel_rfl)) (by unfold Func.isWrapper;first | (rw[if_pos (by decide +kernel)];kernel_rfl) | (rw[if_neg (by decide +kernel)];exact⟨rfl,rfl⟩))
  (fun os started H enc _=>contactPlaces_lifted os started H enc)
end Go.Proofs.YtenfgdobfjofkaaGreat
