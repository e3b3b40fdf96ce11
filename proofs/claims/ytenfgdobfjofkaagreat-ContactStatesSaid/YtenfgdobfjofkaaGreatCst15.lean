/- Texts of the proof of ContactStates: part 15 of 18. -/
import Derived.Deep.Slices
import Derived.Test.YtenfgdobfjofkaaGreatCst14
namespace Go.Ai
open Go.RowKit Go.WideShapes Go.ChangeShapes
open Go renaming undef->A9
open List renaming getD->L,getElem?_eq_getElem->Af,mapM_cons->Gz
open Nat renaming not_lt_zero->AJu
def rep(n:Nat)(ks:List CKd):List CKd:=match n with
 | 0=>[]
 | n+1=>rep n ks++ks
theorem Aeq{α β:Type}{f:α->Option β}:∀ {l:List α} {r:List β},l.mapM f=some r->r.length=l.length/\∀ (i:Nat) (h:i<l.length) (c:i<r.length),f l[i]=some r[i]
 | [],r,h=>by simp at h;subst h;exact⟨rfl,fun i h=>absurd h (AJu i)⟩
 | a::l,r,h=>by
  rw[Gz] at h;cases h1:f a with
  | none=>rw[h1] at h;cases h
  | some b =>
   rw[h1] at h;cases h2:l.mapM f with
   | none=>simp[h2] at h
   | some bs =>
    rw[h2] at h;cases h;obtain⟨e,k⟩:=Aeq h2;refine⟨by simp[e],fun i => ?_⟩;cases i with
    | zero=>intro _ _;exact h1
    | succ i=>intro a b;exact k i (by simpa using a) (by simpa using b)
theorem AJr{Y X:Nat->Prop}{w:World}{b off len cap:Nat}{cs:List Value}{az:u}(hX:¬ X b)(hY:¬ Y b)(hn:len<=cap)(hd:OK az)(h:RdL Y X w cs az)
  (hcell:∀ (i:Nat) (h:i<cs.length),w.cell? ⟨b,off+i,none⟩=some cs[i]):Rd Y X w (.slice (some ⟨b,off,none⟩) len cap) (.sl len az):=by
 obtain⟨e,k⟩:=h.at
 refine .sl b off len cap az (fun i=>cs.getD i A9) hd hn (fun _=>hX) (fun _=>hY) (fun i hi => ?_) (fun i hi => ?_)
 ·rw[hcell i (by omega)];simp[L,Af (show i<cs.length by omega)]
 ·have:cs.getD i A9=cs[i]'(by omega):=by simp[L,Af (show i<cs.length by omega)]
  rw[this];exact k i (by omega) hi
end Go.Ai
