/- Texts of the proof of EntryWithin: part 11 of 13. -/
import Derived.Deep.Slices
import Derived.Test.YtajompaehjkgkaaGreatEwn10
namespace Go.Ai
open Go.RowKit Go.WideShapes Go.ChangeShapes
open Go renaming undef->BU
open List renaming getD->H,getElem?_eq_getElem->Am,mapM_cons->OP
open Nat renaming not_lt_zero->Pk
theorem UU{α β:Type}{f:α->Option β}:∀ {l:List α} {r:List β},l.mapM f=some r->r.length=l.length/\∀ (i:Nat) (h:i<l.length) (c:i<r.length),f l[i]=some r[i]
 | [],r,h=>by simp at h;subst h;exact⟨rfl,fun i h=>absurd h (Pk i)⟩
 | a::l,r,h=>by
  rw[OP] at h;cases h1:f a with
  | none=>rw[h1] at h;cases h
  | some b =>
   rw[h1] at h;cases h2:l.mapM f with
   | none=>simp[h2] at h
   | some bs =>
    rw[h2] at h;cases h;obtain⟨e,k⟩:=UU h2;refine⟨by simp[e],fun i => ?_⟩;cases i with
    | zero=>intro _ _;exact h1
    | succ i=>intro a b;exact k i (by simpa using a) (by simpa using b)
theorem Axn{Y a:Nat->Prop}{w:World}{b off len cap:Nat}{cs:List Value}{az:AK}(hX:¬ a b)(hY:¬ Y b)(hn:len<=cap)(hd:Rw az)(h:YG Y a w cs az)
  (hcell:∀ (i:Nat) (h:i<cs.length),w.cell? ⟨b,off+i,none⟩=some cs[i]):Rd Y a w (.slice (some ⟨b,off,none⟩) len cap) (.sl len az):=by
 obtain⟨e,k⟩:=h.at
 refine .sl b off len cap az (fun i=>cs.getD i BU) hd hn (fun _=>hX) (fun _=>hY) (fun i hi => ?_) (fun i hi => ?_)
 ·rw[hcell i (by omega)];simp[H,Am (show i<cs.length by omega)]
 ·have:cs.getD i BU=cs[i]'(by omega):=by simp[H,Am (show i<cs.length by omega)]
  rw[this];exact k i (by omega) hi
end Go.Ai
