/- Texts of the proof of EntryWithin: part 10 of 13. -/
import Derived.ProofKit
import Derived.Carry
import Derived.Test.YtajompaehjkgkaaGreatEwn9
namespace Go.Ai
open Go.RowKit Go.WideShapes Go.ChangeShapes
open Bool renaming and_eq_true->At
open Go.DataW renaming TrodAll->PO,trod->IA
open Go.Value renaming bool->YI,okWide->Axz
open List renaming all_cons->ABd,append_nil->Ld
open Nat renaming not_lt_zero->Pk
open Or renaming inl->Alo,inr->TQ
inductive CK where
 | int (k:IntKind)
 | bool
 | str
def AGa:CK->Value->Prop
 | .int k,v=>∃ n,v = .int k n/\(Lit.int k n).wf=true
 | .bool,v=>∃ b,v = .bool b
 | .str,v=>∃ s,v = .string s
def PM:List CK->List Value->Prop
 | [],cs=>cs=[]
 | k::ks,cs=>∃ c a,cs=c::a/\AGa k c/\PM ks a
theorem PM.append:∀ {ks ls:List CK} {a b:List Value},PM ks a->PM ls b->PM (ks++ls) (a++b)
 | [],_,_,_,h,d=>by cases h;exact d
 | _::_,_,_,_,⟨c,cs,e,hc,h⟩,d=>by subst e;exact⟨c,_,rfl,hc,h.append d⟩
theorem PM.length:∀ {ks:List CK} {a:List Value},PM ks a->a.length=ks.length
 | [],_,h=>by cases h;rfl
 | _::_,_,⟨_,_,e,_,h⟩=>by subst e;simp[h.length]
mutual
def flat(P:Program):Nat->TypeId->Option (List CK)
 | 0,_=>none
 | n+1,t=>match P.underlying t with
  | some .bool=>some [.bool]
  | some (.int k)=>some [.int k]
  | some .string=>some [.str]
  | some (.struct fs)=>match AAz P n fs.toList 0 with
   | some ks=>if ks.length=P.cellsOf t then some ks else none
   | none=>none
  | _=>none
def AAz(P:Program):Nat->List Field->Nat->Option (List CK)
 | _,[],_=>some []
 | 0,_::_,_=>none
 | n+1,f::fs,off=>match flat P n f.type with
  | some ks=>if f.offset=off/\ks.length=P.cellsOf f.type then
    match AAz P n fs (off+ks.length) with
    | some ls=>some (ks++ls)
    | none=>none
   else none
  | none=>none
end
section
variable {H:Type} {enc:TypeId × Value->H} {P:Program} {w:World} {base:Nat} {spare:Nat->Bool} {held:Bool}
theorem SI(f:laidOutB P=true){a g:World}(hb:Below a.heap.size a g){i:Nat->Bool}:∀ {ts:List TypeId} {vs:List Value} {c:List (DataW H)} {ps:List MemPlace},
  ts.all (fun t=>P.readableRec t&&decide (t<P.types.size))=true->PO enc P a 0 (fun _=>true) true ts vs c ps->(∀ p∈ps,p.block<a.heap.size)->(∀ p∈ps,i p.block=true) ->
  PO enc P g 0 i true ts vs c ps
 | [],[],[],_,_,h,_,_=>h
 | [],_::_,_,_,_,h,_,_=>h.elim
 | [],[],_::_,_,_,h,_,_=>h.elim
 | _::_,[],_,_,_,h,_,_=>h.elim
 | _::_,_::_,[],_,_,h,_,_=>h.elim
 | t::ts,v::vs,d::c,ps,b,h,j,hsp=>by
  obtain⟨p,q,h1,h2,e⟩:=h;rw[ABd,At,At,AZ] at b;subst e;exact⟨p,q,WideElems.Trod_stays f b.1.1 b.1.2 h1 (fun x hx=>hb.same (j x (by simp[hx]))) (fun x hx=>hsp x (by simp[hx])),
   SI f hb b.2 h2 (fun x hx=>j x (by simp[hx])) (fun x hx=>hsp x (by simp[hx])),rfl⟩
theorem Aij{f:Func}{s:ChangeSpec}{n fresh z A:Bool}{a e:World}{args:Array Value}{d h:List (DataW H)}{c:List MemPlace}{o:TypeId}
  (B:laidOutB P=true) (C:f.params.toList.all (fun t=>P.readableRec t&&decide (t<P.types.size))=true) (hv:s.vars=[])
  (hr:f.resultTypes=#[o]) (u:P.underlying o=some .bool)
  (i:DataW.Whole enc P f.params.toList s.vars n a args.toList d h c)
  (k:s.fn H (d++h)={ results:=[.lit (.bool true)],args:=d }) (hb:Below a.heap.size a e) :
  s.post enc P f n fresh z A a args (.bool true) e:=by
 have l:∀ p∈c,p.block<a.heap.size:=fun p hp=>i.lt p hp;have D:∀ p∈c,(fun b=>decide (b<a.heap.size)) p.block=true:=fun p hp=>by simpa using l p hp
 have E:=i;obtain⟨p,q,F,m,v,hz,hn⟩:=i;rw[hv] at m;obtain⟨G,I⟩:h=[]/\q=[]:=by
  cases h with
  | nil=>exact⟨rfl,m⟩
  | cons _ _=>exact m.elim
 subst G I;rw[Ld] at v;subst v;have w (b:Nat) (g:Nat->Bool) (hd:Bool):PO enc P e b g hd f.resultTypes.toList ((YI true).resultList f.resultTypes.size) (s.fn H (d++[])).results []:=by
  rw[k,hr];exact⟨[],[],⟨1,by simp[IA,Value.cells,u]⟩,rfl,rfl⟩
 have x (g:Nat->Bool) (hs:∀ p∈c,g p.block=true):PO enc P e 0 g true f.params.toList args.toList (s.fn H (d++[])).args c:=by
  rw[k];exact SI B hb C F l hs
 have hvars (g:Nat->Bool):DataW.TrodVars enc P e g s.vars (s.fn H (d++[])).vars []:=by
  rw[k,hv];rfl
 have J:∀ (j:Nat) (t:TypeId) (r:Value),f.resultTypes[j]? = some t->((YI true).resultList f.resultTypes.size)[j]? = some r->Axz P e .any 0 t r :=
  ok_one hr rfl (okWide_bool_mk u true)
 refine⟨d,[],c,[],c,[],E,w _ _ _,x _ D,hvars _,World.keptBut_mono (fun p hp=>⟨hp,?_⟩) (hb.frame (·∈c)),fun _ => ?_⟩
 ·exact TQ (Alo hp)
 ·refine⟨J,_,_,([]++c)++[],⟨[]++c,[],trodAll_append (x _ (fun _ _=>rfl)) (w _ _ _),hvars _,rfl,?_,?_⟩,?_⟩
  ·intro b off hp;have y:MemPlace.cell b off∈c:=by simpa using hp
   rw[hb.frozen (l _ y)];exact hz b off y
  ·intro K;simpa using hn K
  ·intro p hp _;simpa using hp
end
def YG(Y a:Nat->Prop)(w:World):List Value->AK->Prop
 | [],[]=>True
 | v::vs,x::xs=>Rd Y a w v x/\YG Y a w vs xs
 | _,_=>False
theorem YG.at{Y X:Nat->Prop}{w:World}:∀ {vs:List Value} {xs:AK},YG Y X w vs xs->vs.length=xs.length/\∀ (i:Nat) (h1:i<vs.length) (h2:i<xs.length),Rd Y X w vs[i] xs[i]
 | [],[],_=>⟨rfl,fun i h=>absurd h (Pk i)⟩
 | [],_::_,h=>h.elim
 | _::_,[],h=>h.elim
 | v::vs,x::xs,h=>by
  obtain⟨c,h1⟩:=h;obtain⟨e,k⟩:=YG.at h1;refine⟨by simp[e],fun i => ?_⟩;cases i with
  | zero=>intro _ _;exact c
  | succ i=>intro a b;exact k i (by simpa using a) (by simpa using b)
section
variable{Y a:Nat->Prop}{w:World}
theorem Axm{vs:List Value}{xs:AK}(h:YG Y a w vs xs):∀ (i:Nat) (h1:i<vs.toArray.size) (h2:i<xs.length),Rd Y a w vs.toArray[i] xs[i] :=
 fun i h1 h2=>h.at.2 i (by simpa using h1) h2
theorem ABa{v:Value}{b:Bool}(h:Rd Y a w v (.bool b)):v = .bool b:=by
 cases h;rfl
end
end Go.Ai
