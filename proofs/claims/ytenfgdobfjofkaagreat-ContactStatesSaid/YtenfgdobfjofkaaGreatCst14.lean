/- Texts of the proof of ContactStates: part 14 of 18. -/
import Derived.ProofKit
import Derived.Carry
import Derived.Test.YtenfgdobfjofkaaGreatCst13
namespace Go.Ai
open Go.RowKit Go.WideShapes Go.ChangeShapes
open Bool renaming and_eq_true->U
open Go.DataW renaming TrodAll->R8,trod->GP
open Go.Value renaming bool->SW,okWide->ABz
open List renaming all_cons->F7,append_nil->Df
open Nat renaming not_lt_zero->AJu
inductive CKd where
 | int (k:IntKind)
 | bool
 | str
def Apk:CKd->Value->Prop
 | .int k,v=>∃ n,v = .int k n/\(Lit.int k n).wf=true
 | .bool,v=>∃ b,v = .bool b
 | .str,v=>∃ s,v = .string s
def Gy:List CKd->List Value->Prop
 | [],cs=>cs=[]
 | k::ks,cs=>∃ c a,cs=c::a/\Apk k c/\Gy ks a
theorem Gy.append:∀ {ks ls:List CKd} {a b:List Value},Gy ks a->Gy ls b->Gy (ks++ls) (a++b)
 | [],_,_,_,h,d=>by cases h;exact d
 | _::_,_,_,_,⟨c,cs,e,hc,h⟩,d=>by subst e;exact⟨c,_,rfl,hc,h.append d⟩
theorem Gy.length:∀ {ks:List CKd} {a:List Value},Gy ks a->a.length=ks.length
 | [],_,h=>by cases h;rfl
 | _::_,_,⟨_,_,e,_,h⟩=>by subst e;simp[h.length]
mutual
def flat(P:Program):Nat->TypeId->Option (List CKd)
 | 0,_=>none
 | n+1,t=>match P.underlying t with
  | some .bool=>some [.bool]
  | some (.int k)=>some [.int k]
  | some .string=>some [.str]
  | some (.struct fs)=>match SV P n fs.toList 0 with
   | some ks=>if ks.length=P.cellsOf t then some ks else none
   | none=>none
  | _=>none
def SV(P:Program):Nat->List Field->Nat->Option (List CKd)
 | _,[],_=>some []
 | 0,_::_,_=>none
 | n+1,f::fs,off=>match flat P n f.type with
  | some ks=>if f.offset=off/\ks.length=P.cellsOf f.type then
    match SV P n fs (off+ks.length) with
    | some ls=>some (ks++ls)
    | none=>none
   else none
  | none=>none
end
section
variable {H:Type} {enc:TypeId × Value->H} {P:Program} {w:World} {base:Nat} {spare:Nat->Bool} {held:Bool}
theorem Q1(hl:laidOutB P=true){W g:World}(hb:Below W.heap.size W g){i:Nat->Bool}:∀ {b:List TypeId} {vs:List Value} {f:List (DataW H)} {ps:List MemPlace},
  b.all (fun t=>P.readableRec t&&decide (t<P.types.size))=true->R8 enc P W 0 (fun _=>true) true b vs f ps->(∀ p∈ps,p.block<W.heap.size)->(∀ p∈ps,i p.block=true) ->
  R8 enc P g 0 i true b vs f ps
 | [],[],[],_,_,h,_,_=>h
 | [],_::_,_,_,_,h,_,_=>h.elim
 | [],[],_::_,_,_,h,_,_=>h.elim
 | _::_,[],_,_,_,h,_,_=>h.elim
 | _::_,_::_,[],_,_,h,_,_=>h.elim
 | t::b,v::vs,d::f,ps,c,h,j,k=>by
  obtain⟨p,q,h1,h2,e⟩:=h;rw[F7,U,U,DI] at c;subst e;exact⟨p,q,WideElems.Trod_stays hl c.1.1 c.1.2 h1 (fun x a=>hb.same (j x (by simp[a]))) (fun x a=>k x (by simp[a])),
   Q1 hl hb c.2 h2 (fun x a=>j x (by simp[a])) (fun x a=>k x (by simp[a])),rfl⟩
theorem Ala{f:Func}{s:ChangeSpec}{apart fresh x y:Bool}{W d:World}{args:Array Value}{c g:List (DataW H)}{before:List MemPlace}{m:TypeId}
  (hl:laidOutB P=true) (z:f.params.toList.all (fun t=>P.readableRec t&&decide (t<P.types.size))=true) (n:s.vars=[])
  (hr:f.resultTypes=#[m]) (o:P.underlying m=some .bool)
  (h:DataW.Whole enc P f.params.toList s.vars apart W args.toList c g before)
  (i:s.fn H (c++g)={ results:=[.lit (.bool true)],args:=c }) (hb:Below W.heap.size W d) :
  s.post enc P f apart fresh x y W args (.bool true) d:=by
 have k:∀ p∈before,p.block<W.heap.size:=fun p a=>h.lt p a;have hold:∀ p∈before,(fun b=>decide (b<W.heap.size)) p.block=true:=fun p a=>by simpa using k p a
 have A:=h;obtain⟨p,q,B,l,u,C,hn⟩:=h;rw[n] at l;obtain⟨D,E⟩:g=[]/\q=[]:=by
  cases g with
  | nil=>exact⟨rfl,l⟩
  | cons _ _=>exact l.elim
 subst D E;rw[Df] at u;subst u;have v (b:Nat) (e:Nat->Bool) (hd:Bool):R8 enc P d b e hd f.resultTypes.toList ((SW true).resultList f.resultTypes.size) (s.fn H (c++[])).results []:=by
  rw[i,hr];exact⟨[],[],⟨1,by simp[GP,Value.cells,o]⟩,rfl,rfl⟩
 have w (e:Nat->Bool) (hs:∀ p∈before,e p.block=true):R8 enc P d 0 e true f.params.toList args.toList (s.fn H (c++[])).args before:=by
  rw[i];exact Q1 hl hb z B k hs
 have hvars (e:Nat->Bool):DataW.TrodVars enc P d e s.vars (s.fn H (c++[])).vars []:=by
  rw[i,n];rfl
 have F:∀ (j:Nat) (t:TypeId) (r:Value),f.resultTypes[j]? = some t->((SW true).resultList f.resultTypes.size)[j]? = some r->ABz P d .any 0 t r :=
  ok_one hr rfl (okWide_bool_mk o true)
 refine⟨c,[],before,[],before,[],A,v _ _ _,w _ hold,hvars _,World.keptBut_mono (fun p a=>⟨a,?_⟩) (hb.frame (·∈before)),fun _ => ?_⟩
 ·exact Or.inr (Or.inl a)
 ·refine⟨F,_,_,([]++before)++[],⟨[]++before,[],trodAll_append (w _ (fun _ _=>rfl)) (v _ _ _),hvars _,rfl,?_,?_⟩,?_⟩
  ·intro b off a;have hin:MemPlace.cell b off∈before:=by simpa using a
   rw[hb.frozen (k _ hin)];exact C b off hin
  ·intro G;simpa using hn G
  ·intro p a _;simpa using a
end
def RdL(Y X:Nat->Prop)(w:World):List Value->u->Prop
 | [],[]=>True
 | v::vs,x::xs=>Rd Y X w v x/\RdL Y X w vs xs
 | _,_=>False
theorem RdL.at{Y X:Nat->Prop}{w:World}:∀ {vs:List Value} {xs:u},RdL Y X w vs xs->vs.length=xs.length/\∀ (i:Nat) (h1:i<vs.length) (h2:i<xs.length),Rd Y X w vs[i] xs[i]
 | [],[],_=>⟨rfl,fun i h=>absurd h (AJu i)⟩
 | [],_::_,h=>h.elim
 | _::_,[],h=>h.elim
 | v::vs,x::xs,h=>by
  obtain⟨h0,h1⟩:=h;obtain⟨e,k⟩:=RdL.at h1;refine⟨by simp[e],fun i => ?_⟩;cases i with
  | zero=>intro _ _;exact h0
  | succ i=>intro a b;exact k i (by simpa using a) (by simpa using b)
section
variable{Y X:Nat->Prop}{w:World}
theorem AJq{vs:List Value}{xs:u}(h:RdL Y X w vs xs):∀ (i:Nat) (h1:i<vs.toArray.size) (h2:i<xs.length),Rd Y X w vs.toArray[i] xs[i] :=
 fun i h1 h2=>h.at.2 i (by simpa using h1) h2
theorem AJv{v:Value}{b:Bool}(h:Rd Y X w v (.bool b)):v = .bool b:=by
 cases h;rfl
end
end Go.Ai
