/- Texts of the proof of ContactPlaces: part 14 of 17. -/
import Derived.ProofKit
import Derived.Carry
import Derived.Test.YtenfgdobfjofkaaGreatCpl13
namespace Go.Ai
open Go.RowKit Go.WideShapes Go.ChangeShapes
open Bool renaming and_eq_true->U
open Go.DataW renaming TrodAll->LG,trod->Cv,trod_int->A1f,trod_string->A0q
open Go.Value renaming bool->TZ,okWide->Yu
open List renaming all_cons->H',all_eq_true->A6,append_nil->UF,drop_zero->DF,length_append->Ac,mapM_cons->EX,take_of_length_le->Ej
open Nat renaming not_lt_zero->Agq
inductive CKd where
 | int (k:IntKind)
 | bool
 | str
def Aar:CKd->Value->Prop
 | .int k,v=>∃ n,v = .int k n/\(Lit.int k n).wf=true
 | .bool,v=>∃ b,v = .bool b
 | .str,v=>∃ s,v = .string s
def Fw:List CKd->List Value->Prop
 | [],cs=>cs=[]
 | k::ks,cs=>∃ c a,cs=c::a/\Aar k c/\Fw ks a
theorem Fw.append:∀ {ks ls:List CKd} {a b:List Value},Fw ks a->Fw ls b->Fw (ks++ls) (a++b)
 | [],_,_,_,h,d=>by cases h;exact d
 | _::_,_,_,_,⟨c,cs,e,hc,h⟩,d=>by subst e;exact⟨c,_,rfl,hc,h.append d⟩
theorem Fw.length:∀ {ks:List CKd} {a:List Value},Fw ks a->a.length=ks.length
 | [],_,h=>by cases h;rfl
 | _::_,_,⟨_,_,e,_,h⟩=>by subst e;simp[h.length]
mutual
def qN(P:Program):Nat->TypeId->Option (List CKd)
 | 0,_=>none
 | n+1,t=>match P.underlying t with
  | some .bool=>some [.bool]
  | some (.int k)=>some [.int k]
  | some .string=>some [.str]
  | some (.struct fs)=>match Qk P n fs.toList 0 with
   | some ks=>if ks.length=P.cellsOf t then some ks else none
   | none=>none
  | _=>none
def Qk(P:Program):Nat->List Field->Nat->Option (List CKd)
 | _,[],_=>some []
 | 0,_::_,_=>none
 | n+1,f::fs,off=>match qN P n f.type with
  | some ks=>if f.offset=off/\ks.length=P.cellsOf f.type then
    match Qk P n fs (off+ks.length) with
    | some ls=>some (ks++ls)
    | none=>none
   else none
  | none=>none
end
section
variable {H:Type} {enc:TypeId × Value->H} {P:Program} {w:World} {base:Nat} {spare:Nat->Bool} {held:Bool}
theorem wT(n:Nat) :
  (∀ t ks,qN P n t=some ks->∀ a cs x,Cv enc P w base spare held a t cs=some x->Fw ks cs) /\
  (∀ fs off ks,Qk P n fs off=some ks->∀ a (cs:List Value) xs,off+ks.length<=cs.length ->
   fs.mapM (fun f=>Cv enc P w base spare held a f.type ((cs.drop f.offset).take (P.cellsOf f.type)))=some xs->Fw ks ((cs.drop off).take ks.length)):=by
 induction n with
 | zero =>
  refine⟨fun t ks h=>by simp[qN] at h,fun fs off ks h a cs xs hl c => ?_⟩;cases fs with
  | nil=>simp[Qk] at h;subst h;simp[Fw]
  | cons f fs=>simp[Qk] at h
 | succ n d =>
  constructor
  ·intro t ks h a cs x b;cases a with
   | zero=>simp[Cv] at b
   | succ a =>
    unfold qN at h;split at h
    next hu=>cases h;unfold Cv at b;rw[hu] at b;split at b <;> simp_all [Fw,Aar]
    next k hu=>cases h;obtain⟨m,e,_,j⟩:=A1f hu b;exact⟨_,_,e,⟨m,rfl,j⟩,rfl⟩
    next hu=>cases h;obtain⟨s,e,_,_⟩:=A0q hu b;exact⟨_,_,e,⟨s,rfl⟩,rfl⟩
    ·rename_i fs hu;split at h
     ·rename_i ls g;split at h
      ·rename_i q;cases h;obtain⟨hl,xs,c,_⟩:cs.length=P.cellsOf t/\∃ xs,fs.toList.mapM (fun f=>Cv enc P w base spare held a f.type ((cs.drop f.offset).take (P.cellsOf f.type)))=some xs/\True:=by
        unfold Cv at b;rw[hu] at b;simp only at b;split at b
        ·rename_i hl;refine⟨hl,?_⟩;cases c:fs.toList.mapM (fun f=>Cv enc P w base spare held a f.type ((cs.drop f.offset).take (P.cellsOf f.type))) with
         | none=>rw[c] at b;cases b
         | some xs=>exact⟨xs,rfl,trivial⟩
        ·cases b
       have:=(d.2 fs.toList 0 ks g a cs xs (by omega) c);rw[DF,Ej (by omega)] at this;exact this
      ·cases h
     ·cases h
    ·cases h
  ·intro fs off ks h a cs xs hl c;cases fs with
   | nil=>simp[Qk] at h;subst h;simp[Fw]
   | cons f fs =>
    unfold Qk at h;split at h
    ·rename_i ls g;split at h
     ·rename_i ho;split at h
      ·rename_i ms l;cases h;rw[EX] at c;cases h1:Cv enc P w base spare held a f.type ((cs.drop f.offset).take (P.cellsOf f.type)) with
       | none=>rw[h1] at c;cases c
       | some y =>
        rw[h1] at c;cases h2:fs.mapM (fun f=>Cv enc P w base spare held a f.type ((cs.drop f.offset).take (P.cellsOf f.type))) with
        | none=>simp[h2] at c
        | some o =>
         rw[Ac] at hl |-;have i:=d.1 f.type ls g a _ y h1;have p:=d.2 fs (off+ls.length) ms l a cs o (by omega) h2;rw[ho.1,<- ho.2] at i;rw[List.take_add,List.drop_drop];exact i.append p
      ·cases h
     ·cases h
    ·cases h
theorem wU{r:Reach}{a:Nat}{t:TypeId}{fs:Array Field}{v:Value}{d:DataW H}{ps:List MemPlace}{ks:List CKd}(n:Nat)(hu:P.underlying t=some (.struct fs))(b:qN P n t=some ks)
  (c:Yu P w r a t v) (hd:DataW.Trod enc P w base spare held t v d ps):∃ cs,v = .agg cs.toArray/\Fw ks cs:=by
 obtain⟨cs,rfl,f⟩:=okWide_struct hu c;obtain⟨e,hf⟩:=hd;exact⟨cs.toList,by simp,(wT n).1 t ks b e _ _ hf⟩
theorem O8(hl:laidOutB P=true){W g:World}(hb:Below W.heap.size W g){i:Nat->Bool}:∀ {b:List TypeId} {vs:List Value} {f:List (DataW H)} {ps:List MemPlace},
  b.all (fun t=>P.readableRec t&&decide (t<P.types.size))=true->LG enc P W 0 (fun _=>true) true b vs f ps->(∀ p∈ps,p.block<W.heap.size)->(∀ p∈ps,i p.block=true) ->
  LG enc P g 0 i true b vs f ps
 | [],[],[],_,_,h,_,_=>h
 | [],_::_,_,_,_,h,_,_=>h.elim
 | [],[],_::_,_,_,h,_,_=>h.elim
 | _::_,[],_,_,_,h,_,_=>h.elim
 | _::_,_::_,[],_,_,h,_,_=>h.elim
 | t::b,v::vs,d::f,ps,c,h,j,k=>by
  obtain⟨p,q,h1,h2,e⟩:=h;rw[H',U,U,Dm] at c;subst e;exact⟨p,q,WideElems.Trod_stays hl c.1.1 c.1.2 h1 (fun x a=>hb.same (j x (by simp[a]))) (fun x a=>k x (by simp[a])),
   O8 hl hb c.2 h2 (fun x a=>j x (by simp[a])) (fun x a=>k x (by simp[a])),rfl⟩
theorem wV{f:Func}{s:ChangeSpec}{apart fresh x y:Bool}{W d:World}{args:Array Value}{c g:List (DataW H)}{before:List MemPlace}{m:TypeId}
  (hl:laidOutB P=true) (z:f.params.toList.all (fun t=>P.readableRec t&&decide (t<P.types.size))=true) (n:s.vars=[])
  (hr:f.resultTypes=#[m]) (o:P.underlying m=some .bool)
  (h:DataW.Whole enc P f.params.toList s.vars apart W args.toList c g before)
  (i:s.fn H (c++g)={ results:=[.lit (.bool true)],args:=c }) (hb:Below W.heap.size W d) :
  s.post enc P f apart fresh x y W args (.bool true) d:=by
 have k:∀ p∈before,p.block<W.heap.size:=fun p a=>h.lt p a;have hold:∀ p∈before,(fun b=>decide (b<W.heap.size)) p.block=true:=fun p a=>by simpa using k p a
 have A:=h;obtain⟨p,q,B,l,u,C,hn⟩:=h;rw[n] at l;obtain⟨D,E⟩:g=[]/\q=[]:=by
  cases g with
  | nil=>exact⟨rfl,l⟩
  | cons _ _=>exact l.elim
 subst D E;rw[UF] at u;subst u;have v (b:Nat) (e:Nat->Bool) (hd:Bool):LG enc P d b e hd f.resultTypes.toList ((TZ true).resultList f.resultTypes.size) (s.fn H (c++[])).results []:=by
  rw[i,hr];exact⟨[],[],⟨1,by simp[Cv,Value.cells,o]⟩,rfl,rfl⟩
 have w (e:Nat->Bool) (hs:∀ p∈before,e p.block=true):LG enc P d 0 e true f.params.toList args.toList (s.fn H (c++[])).args before:=by
  rw[i];exact O8 hl hb z B k hs
 have hvars (e:Nat->Bool):DataW.TrodVars enc P d e s.vars (s.fn H (c++[])).vars []:=by
  rw[i,n];rfl
 have F:∀ (j:Nat) (t:TypeId) (r:Value),f.resultTypes[j]? = some t->((TZ true).resultList f.resultTypes.size)[j]? = some r->Yu P d .any 0 t r :=
  ok_one hr rfl (okWide_bool_mk o true)
 refine⟨c,[],before,[],before,[],A,v _ _ _,w _ hold,hvars _,World.keptBut_mono (fun p a=>⟨a,?_⟩) (hb.frame (·∈before)),fun _ => ?_⟩
 ·exact Or.inr (Or.inl a)
 ·refine⟨F,_,_,([]++before)++[],⟨[]++before,[],trodAll_append (w _ (fun _ _=>rfl)) (v _ _ _),hvars _,rfl,?_,?_⟩,?_⟩
  ·intro b off a;have hin:MemPlace.cell b off∈before:=by simpa using a
   rw[hb.frozen (k _ hin)];exact C b off hin
  ·intro G;simpa using hn G
  ·intro p a _;simpa using a
end
def SO(Y X:Nat->Prop)(w:World):List Value->u->Prop
 | [],[]=>True
 | v::vs,x::xs=>Rd Y X w v x/\SO Y X w vs xs
 | _,_=>False
theorem SO.at{Y X:Nat->Prop}{w:World}:∀ {vs:List Value} {xs:u},SO Y X w vs xs->vs.length=xs.length/\∀ (i:Nat) (h1:i<vs.length) (h2:i<xs.length),Rd Y X w vs[i] xs[i]
 | [],[],_=>⟨rfl,fun i h=>absurd h (Agq i)⟩
 | [],_::_,h=>h.elim
 | _::_,[],h=>h.elim
 | v::vs,x::xs,h=>by
  obtain⟨h0,h1⟩:=h;obtain⟨e,k⟩:=SO.at h1;refine⟨by simp[e],fun i => ?_⟩;cases i with
  | zero=>intro _ _;exact h0
  | succ i=>intro a b;exact k i (by simpa using a) (by simpa using b)
section
variable{Y X:Nat->Prop}{w:World}{vs:List Value}{xs:u}
theorem Agb(h:SO Y X w vs xs):∀ (i:Nat) (h1:i<vs.toArray.size) (h2:i<xs.length),Rd Y X w vs.toArray[i] xs[i] :=
 fun i h1 h2=>h.at.2 i (by simpa using h1) h2
theorem Agc(hd:Kd xs)(h:SO Y X w vs xs):Rd Y X w (.agg vs.toArray) (.agg xs) :=
 .agg _ _ hd (by simpa using h.at.1) (fun i h1 h2=>h.at.2 i (by simpa using h1) h2)
end
theorem Auf{xs:u}(h:xs.all EM=true):Kd xs:=fun x a=>A6.1 h x a
theorem Ari{Y X:Nat->Prop}{w:World}{v:Value}{b:Bool}(h:Rd Y X w v (.bool b)):v = .bool b:=by
 cases h;rfl
end Go.Ai
