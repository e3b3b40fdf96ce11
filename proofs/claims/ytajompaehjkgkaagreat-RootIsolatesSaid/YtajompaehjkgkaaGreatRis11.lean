/- Texts of the proof of RootIsolates: part 11 of 13. -/
import Derived.Deep.Slices
import Derived.Test.YtajompaehjkgkaaGreatRis10
namespace Go.Ai
open Go.RowKit Go.WideShapes Go.ChangeShapes
open Go renaming undef->Br
open List renaming getElem?_eq_getElem->Af,mapM_cons->L6
open Nat renaming not_lt_zero->Qw
theorem Qu{α β:Type}{f:α->Option β}:∀ {l:List α} {r:List β},l.mapM f=some r->r.length=l.length/\∀ (i:Nat) (h:i<l.length) (h':i<r.length),f l[i]=some r[i]
 | [],r,h=>by simp at h;subst h;exact⟨rfl,fun i h=>absurd h (Qw i)⟩
 | a::l,r,h=>by
  rw[L6] at h;cases h1:f a with
  | none=>rw[h1] at h;cases h
  | some b =>
   rw[h1] at h;cases h2:l.mapM f with
   | none=>simp[h2] at h
   | some bs =>
    rw[h2] at h;cases h;obtain⟨e,k⟩:=Qu h2;refine⟨by simp[e],fun i => ?_⟩;cases i with
    | zero=>intro _ _;exact h1
    | succ i=>intro a b;exact k i (by simpa using a) (by simpa using b)
section
variable {H:Type} {enc:TypeId × Value->H} {P:Program} {w:World} {base:Nat} {spare:Nat->Bool} {held:Bool}
end
theorem Aex{Y X:Nat->Prop}{w:World}{b off len cap:Nat}{cs:List Value}{az:List AV}(hX:¬ X b)(hY:¬ Y b)(hn:len<=cap)(hd:N9 az)(h:Ua Y X w cs az)
  (hcell:∀ (i:Nat) (h:i<cs.length),w.cell? ⟨b,off+i,none⟩=some cs[i]):Rd Y X w (.slice (some ⟨b,off,none⟩) len cap) (.sl len az):=by
 obtain⟨e,k⟩:=h.at
 refine .sl b off len cap az (fun i=>cs.getD i Br) hd hn (fun _=>hX) (fun _=>hY) (fun i hi => ?_) (fun i hi => ?_)
 ·rw[hcell i (by omega)];simp[List.getD,Af (show i<cs.length by omega)]
 ·have:cs.getD i Br=cs[i]'(by omega):=by simp[List.getD,Af (show i<cs.length by omega)]
  rw[this];exact k i (by omega) hi
section
variable {H:Type} {enc:TypeId × Value->H} {P:Program} {w:World} {base:Nat} {spare:Nat->Bool} {held:Bool}
end
section
variable {H:Type} {enc:TypeId × Value->H} {P:Program} {w:World} {base:Nat} {spare:Nat->Bool} {held:Bool}
end
end Go.Ai
