/- Texts of the proof of EntryOrder: part 11 of 14. -/
import Derived.ProofKit
import Derived.Carry
import Derived.Test.YtajompaehjkgkaaGreatEor10
namespace Go.Ai
open Go.RowKit Go.WideShapes Go.ChangeShapes
open Bool renaming and_eq_true->Af
open Go.DataW renaming TrodAll->O7,trod->H5
open Go.Value renaming bool->Xl,okWide->Anz
open List renaming all_cons->A3i,append_nil->Mp
open Nat renaming not_lt_zero->NR
open Or renaming inl->Adi,inr->S8
inductive CK where
 | int (k:IntKind)
 | bool
 | str
def A7y:CK->Value->Prop
 | .int k,v=>∃ n,v = .int k n/\(Lit.int k n).wf=true
 | .bool,v=>∃ b,v = .bool b
 | .str,v=>∃ s,v = .string s
def O5:List CK->List Value->Prop
 | [],cs=>cs=[]
 | k::ks,cs=>∃ c cs',cs=c::cs'/\A7y k c/\O5 ks cs'
theorem O5.append:∀ {ks ls:List CK} {a b:List Value},O5 ks a->O5 ls b->O5 (ks++ls) (a++b)
 | [],_,_,_,h,h'=>by cases h;exact h'
 | _::_,_,_,_,⟨c,cs,e,hc,h⟩,h'=>by subst e;exact⟨c,_,rfl,hc,h.append h'⟩
theorem O5.length:∀ {ks:List CK} {a:List Value},O5 ks a->a.length=ks.length
 | [],_,h=>by cases h;rfl
 | _::_,_,⟨_,_,e,_,h⟩=>by subst e;simp[h.length]
mutual
def flat(P:Program):Nat->TypeId->Option (List CK)
 | 0,_=>none
 | n+1,t=>match P.underlying t with
  | some .bool=>some [.bool]
  | some (.int k)=>some [.int k]
  | some .string=>some [.str]
  | some (.struct fs)=>match A3e P n fs.toList 0 with
   | some ks=>if ks.length=P.cellsOf t then some ks else none
   | none=>none
  | _=>none
def A3e(P:Program):Nat->List Field->Nat->Option (List CK)
 | _,[],_=>some []
 | 0,_::_,_=>none
 | n+1,f::fs,off=>match flat P n f.type with
  | some ks=>if f.offset=off/\ks.length=P.cellsOf f.type then
    match A3e P n fs (off+ks.length) with
    | some ls=>some (ks++ls)
    | none=>none
   else none
  | none=>none
end
section
variable {H:Type} {enc:TypeId × Value->H} {P:Program} {w:World} {base:Nat} {spare:Nat->Bool} {held:Bool}
theorem R1(hl:laidOutB P=true){W W':World}(hb:Below W.heap.size W W'){sp:Nat->Bool}:∀ {ts:List TypeId} {vs:List Value} {ds:List (DataW H)} {ps:List MemPlace},
  ts.all (fun t=>P.readableRec t&&decide (t<P.types.size))=true->O7 enc P W 0 (fun _=>true) true ts vs ds ps->(∀ p∈ps,p.block<W.heap.size)->(∀ p∈ps,sp p.block=true) ->
  O7 enc P W' 0 sp true ts vs ds ps
 | [],[],[],_,_,h,_,_=>h
 | [],_::_,_,_,_,h,_,_=>h.elim
 | [],[],_::_,_,_,h,_,_=>h.elim
 | _::_,[],_,_,_,h,_,_=>h.elim
 | _::_,_::_,[],_,_,h,_,_=>h.elim
 | t::ts,v::vs,d::ds,ps,ht,h,hlt,hsp=>by
  obtain⟨p,q,h1,h2,e⟩:=h;rw[A3i,Af,Af,decide_eq_true_eq] at ht;subst e;exact⟨p,q,WideElems.Trod_stays hl ht.1.1 ht.1.2 h1 (fun x hx=>hb.same (hlt x (by simp[hx]))) (fun x hx=>hsp x (by simp[hx])),
   R1 hl hb ht.2 h2 (fun x hx=>hlt x (by simp[hx])) (fun x hx=>hsp x (by simp[hx])),rfl⟩
theorem Aat{f:Func}{s:ChangeSpec}{apart fresh handsOn again:Bool}{W W':World}{args:Array Value}{ds gs:List (DataW H)}{before:List MemPlace}{tb:TypeId}
  (hl:laidOutB P=true) (hts:f.params.toList.all (fun t=>P.readableRec t&&decide (t<P.types.size))=true) (hv:s.vars=[])
  (hr:f.resultTypes=#[tb]) (hub:P.underlying tb=some .bool)
  (hW:DataW.Whole enc P f.params.toList s.vars apart W args.toList ds gs before)
  (hfn:s.fn H (ds++gs)={ results:=[.lit (.bool true)],args:=ds }) (hb:Below W.heap.size W W') :
  s.post enc P f apart fresh handsOn again W args (.bool true) W':=by
 have hlt:∀ p∈before,p.block<W.heap.size:=fun p hp=>hW.lt p hp;have hold:∀ p∈before,(fun b=>decide (b<W.heap.size)) p.block=true:=fun p hp=>by simpa using hlt p hp
 have hW0:=hW;obtain⟨p,q,hA,hV,he,hz,hn⟩:=hW;rw[hv] at hV;obtain⟨hg,hq⟩:gs=[]/\q=[]:=by
  cases gs with
  | nil=>exact⟨rfl,hV⟩
  | cons _ _=>exact hV.elim
 subst hg hq;rw[Mp] at he;subst he;have hres (b:Nat) (sp:Nat->Bool) (hd:Bool):O7 enc P W' b sp hd f.resultTypes.toList ((Xl true).resultList f.resultTypes.size) (s.fn H (ds++[])).results []:=by
  rw[hfn,hr];exact⟨[],[],⟨1,by simp[H5,Value.cells,hub]⟩,rfl,rfl⟩
 have hargs (sp:Nat->Bool) (hs:∀ p∈before,sp p.block=true):O7 enc P W' 0 sp true f.params.toList args.toList (s.fn H (ds++[])).args before:=by
  rw[hfn];exact R1 hl hb hts hA hlt hs
 have hvars (sp:Nat->Bool):DataW.TrodVars enc P W' sp s.vars (s.fn H (ds++[])).vars []:=by
  rw[hfn,hv];rfl
 have hok:∀ (j:Nat) (t:TypeId) (r:Value),f.resultTypes[j]? = some t->((Xl true).resultList f.resultTypes.size)[j]? = some r->Anz P W' .any 0 t r :=
  ok_one hr rfl (okWide_bool_mk hub true)
 refine⟨ds,[],before,[],before,[],hW0,hres _ _ _,hargs _ hold,hvars _,World.keptBut_mono (fun p hp=>⟨hp,?_⟩) (hb.frame (·∈before)),fun _ => ?_⟩
 ·exact S8 (Adi hp)
 ·refine⟨hok,_,_,([]++before)++[],⟨[]++before,[],trodAll_append (hargs _ (fun _ _=>rfl)) (hres _ _ _),hvars _,rfl,?_,?_⟩,?_⟩
  ·intro b off hp;have hin:MemPlace.cell b off∈before:=by simpa using hp
   rw[hb.frozen (hlt _ hin)];exact hz b off hin
  ·intro ha;simpa using hn ha
  ·intro p hp _;simpa using hp
end
def Xj(Y X:Nat->Prop)(w:World):List Value->List AV->Prop
 | [],[]=>True
 | v::vs,x::xs=>Rd Y X w v x/\Xj Y X w vs xs
 | _,_=>False
theorem Xj.at{Y X:Nat->Prop}{w:World}:∀ {vs:List Value} {xs:List AV},Xj Y X w vs xs->vs.length=xs.length/\∀ (i:Nat) (h1:i<vs.length) (h2:i<xs.length),Rd Y X w vs[i] xs[i]
 | [],[],_=>⟨rfl,fun i h=>absurd h (NR i)⟩
 | [],_::_,h=>h.elim
 | _::_,[],h=>h.elim
 | v::vs,x::xs,h=>by
  obtain⟨h0,h1⟩:=h;obtain⟨e,k⟩:=Xj.at h1;refine⟨by simp[e],fun i => ?_⟩;cases i with
  | zero=>intro _ _;exact h0
  | succ i=>intro a b;exact k i (by simpa using a) (by simpa using b)
theorem Ann{Y X:Nat->Prop}{w:World}{vs:List Value}{xs:List AV}(h:Xj Y X w vs xs):∀ (i:Nat) (h1:i<vs.toArray.size) (h2:i<xs.length),Rd Y X w vs.toArray[i] xs[i] :=
 fun i h1 h2=>h.at.2 i (by simpa using h1) h2
theorem A3f{Y X:Nat->Prop}{w:World}{v:Value}{b:Bool}(h:Rd Y X w v (.bool b)):v = .bool b:=by
 cases h;rfl
end Go.Ai
