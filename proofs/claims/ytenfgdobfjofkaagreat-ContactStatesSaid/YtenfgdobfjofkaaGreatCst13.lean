/- Texts of the proof of ContactStates: part 13 of 18. -/
import Derived.Test.YtenfgdobfjofkaaGreatCst12
namespace Go.Proofs.YtenfgdobfjofkaaGreat
open Go.Ai Go.RowKit Go.Hp
set_option maxRecDepth 100000
open Go.Calls renaming mono->vW
open Go.Proofs.Tryz renaming prog->g
open List renaming getElem_cons_zero->Bk,getElem_toArray->EI,length->C
noncomputable section
theorem Akx:okB (RE g 1000000 SU AFl 200 (.f 8 [] []) [] ⟨.e,0,[]⟩)=true:=by kernel_rfl
theorem vR(w:World):Calls g 8 #[] w fun e w'=>e = .returned (.bool true)/\Below w.heap.size w w':=Aed (Gn GO A8f 200) Akx w
end
noncomputable section
theorem Aen:QB g 8 Yaw:=by
 intro F n args x h Y X w vs hs _;split at h
 ·rename_i hl;have hl:C args=0:=hl;match args,hl with
  | [],_ =>
   have a:vs=#[]:=by simpa using hs
   subst a;have b:x = .bool true:=by
    cases n with
    | zero=>cases h
    | succ n=>cases h;rfl
   subst b;refine vW (vR w) fun e w' ⟨c,hb⟩ => ?_;subst c;exact⟨_,rfl,U2 hb,.bool true,fun _ _ _ _ e=>by cases e⟩
 ·cases h
theorem Avf:QB g 116 YS:=by
 intro F n args x h Y X w vs hs hr;split at h
 ·rename_i hl;have hl:C args=1:=hl;match args,hl with
  | [a],_ =>
   have l:∃ v,vs=#[v]:=by
    have:vs.size=1:=hs;match vs,this with
    | ⟨[v]⟩,_=>exact⟨v,rfl⟩
   obtain⟨v,rfl⟩:=l;have h0:=hr 0 (by simp) (by simp);simp only[Bk,EI] at h0;have m:∀ (d:Int) (b:UInt8),a = .int .i64 d->x = .str ⟨#[b]⟩->nH b.toNat (Jm g 1000000 mkD 200 (.f 116 [] []) [.i .i64 d] ⟨.e,0,[]⟩)=true ->
     Calls g 116 #[v] w fun e w'=>∃ o,e = .returned o/\Grown ⟨w,Ei [a] #[v]⟩ w'/\Eh Y X (Base.mine ⟨w,Ei [a] #[v]⟩) w' o x/\Ti Y X [a] #[v] w' o x:=by
    rintro d b rfl rfl hd;have l:v = .int .i64 d:=by
     cases h0;rfl
    subst l;refine vW (Aei (Aow A9e 200) (vals:=#[.int .i64 d]) ⟨rfl,fun j h1 h2 => ?_⟩ hd w) fun e w' ⟨p,hb⟩ => ?_
    ·match j,h1 with
     | 0,_=>exact .i _ _
    ·subst p;exact⟨_,rfl,U2 hb,.str _,fun _ _ _ _ e=>by cases e⟩
   rcases Auk h with ⟨c,k⟩ | ⟨c,k⟩ | ⟨c,k⟩
   ·exact m 1 49 c k dig1
   ·exact m 2 50 c k dig2
   ·exact m 3 51 c k dig3
 ·cases h
theorem iN(f:Nat)(a:IFunc)(h:CQ f=some a):(∃ fn roots,g.funcs[f]? = some fn/\lJ g roots fn a=true)\/QB g f a:=by
 rcases A9f f a h with h | ⟨rfl,rfl⟩ | ⟨rfl,rfl⟩
 ·exact .inl h
 ·exact .inr Aen
 ·exact .inr Avf
theorem WO:RQ 8 [] (.bool true):=⟨2,rfl⟩
end
end Go.Proofs.YtenfgdobfjofkaaGreat
