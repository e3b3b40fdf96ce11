/- Texts of the proof of ContactStates: part 16 of 18. -/
import Derived.SizedLaws
import Derived.Test.YtenfgdobfjofkaaGreatCst15
namespace Go.Ai
open Go.RowKit Go.WideShapes Go.ChangeShapes
open Go.Addr renaming add->AKa
open Go.DataW renaming trod->GP,weights->AJy,weightsAll->Akz,weightsEach->AJp
open Go.Value renaming okWide->ABz
open Go.World renaming cells?->AJz
open List renaming drop_zero->AL,getElem_append_left->Dj,getElem_append_right->Dd,getElem_range->AKc,length_append->Ah,length_map->Bz,length_range->DT,mapM_cons->Gz,map_cons->Bg,mem_append->AK,mem_cons->Aw,mem_map->Cb,mem_range->S_,take_of_length_le->E_
open Nat renaming eq_zero_or_pos->LD,le_refl->Ay,le_trans->AA,mul_le_mul_right->Kq,not_lt_zero->AJu,succ_mul->OL
inductive SH where
 | int (k:IntKind)
 | bool
 | str
 | sl (b:Nat) (ks:List SH)
def AFm(n:Nat)(ks:List SH):List SH:=match n with
 | 0=>[]
 | n+1=>AFm n ks++ks
theorem Avq(n:Nat)(ks:List SH):(AFm n ks).length=n*ks.length:=by
 induction n with
 | zero=>simp[AFm]
 | succ n a=>simp[AFm,a,OL]
mutual
inductive AIs:SH->AV->Prop where
 | int {k:IntKind} {n:Int} (h:(Lit.int k n).wf=true):AIs (.int k) (.int k n)
 | bool {b:Bool}:AIs .bool (.bool b)
 | str {s:ByteArray}:AIs .str (.str s)
 | sl {b:Nat} {ks:List SH} {n:Nat} {az:u} (h:AsAre (AFm n ks) az) (hb:n*b<=reachBytes):AIs (.sl b ks) (.sl n az)
inductive AsAre:List SH->u->Prop where
 | nil:AsAre [] []
 | cons {k:SH} {a:AV} {ks:List SH} {az:u} (h:AIs k a) (hs:AsAre ks az):AsAre (k::ks) (a::az)
end
theorem AIs.data{k:SH}{a:AV}(h:AIs k a):EK a=true:=by cases h <;> rfl
theorem AsAre.dat:∀ {ks:List SH} {az:u},AsAre ks az->OK az
 | _,_,.nil=>fun x a=>by cases a
 | _,_,.cons h hs=>fun x a=>by
  cases a with
  | head=>exact h.data
  | tail _ a=>exact hs.dat x a
theorem AsAre.append:∀ {ks ls:List SH} {a b:u},AsAre ks a->AsAre ls b->AsAre (ks++ls) (a++b)
 | _,_,_,_,.nil,h=>h
 | _,_,_,_,.cons h hs,c => .cons h (hs.append c)
theorem AsAre.length:∀ {ks:List SH} {a:u},AsAre ks a->a.length=ks.length
 | _,_,.nil=>rfl
 | _,_,.cons _ hs=>by simp[hs.length]
mutual
def A8g(P:Program):Nat->TypeId->Option (List SH)
 | 0,_=>none
 | n+1,t=>match P.underlying t with
  | some .bool=>some [.bool]
  | some (.int k)=>some [.int k]
  | some .string=>some [.str]
  | some (.slice e)=>match A8g P n e with
   | some ks=>if ks.length=P.cellsOf e/\0<ks.length then some [.sl (P.bytesOf e) ks] else none
   | none=>none
  | some (.struct fs)=>match Apl P n fs.toList 0 with
   | some ks=>if ks.length=P.cellsOf t then some ks else none
   | none=>none
  | _=>none
def Apl(P:Program):Nat->List Field->Nat->Option (List SH)
 | _,[],_=>some []
 | 0,_::_,_=>none
 | n+1,f::fs,off=>match A8g P n f.type with
  | some ks=>if f.offset=off/\ks.length=P.cellsOf f.type then
    match Apl P n fs (off+ks.length) with
    | some ls=>some (ks++ls)
    | none=>none
   else none
  | none=>none
end
theorem RdL.append{Y X:Nat->Prop}{w:World}:∀ {a c:List Value} {b d:u},RdL Y X w a b->RdL Y X w c d->RdL Y X w (a++c) (b++d)
 | [],_,[],_,_,h=>h
 | _::_,_,_::_,_,h,e=>⟨h.1,RdL.append h.2 e⟩
 | [],_,_::_,_,h,_=>h.elim
 | _::_,_,[],_,h,_=>h.elim
theorem oG{H:Type}{P:Program}{e:TypeId}:∀ {a:List (DataW H)} {d:DataW H},d∈a->∀ n∈d.weights P e,n∈Akz P e a
 | _::_,_,.head _,n,hn=>by simp only[Akz,AK];exact .inl hn
 | _::_,_,.tail _ h,n,hn=>by simp only[Akz,AK];exact .inr (oG h n hn)
section
variable {H:Type} {enc:TypeId × Value->H} {P:Program} {w:World} {base:Nat} {spare:Nat->Bool} {held:Bool}
abbrev F0:Nat->Prop:=fun _=>False
theorem Ayk(n:Nat) :
  (∀ t ks,A8g P n t=some ks->∀ d cs x,GP enc P w base spare held d t cs=some x->(∀ n∈x.1.weights P t,n<=reachBytes)->∃ az,RdL F0 F0 w cs az/\AsAre ks az) /\
  (∀ fs off ks,Apl P n fs off=some ks->∀ d (cs:List Value) xs,off+ks.length<=cs.length ->
   fs.mapM (fun f=>GP enc P w base spare held d f.type ((cs.drop f.offset).take (P.cellsOf f.type)))=some xs->(∀ n∈AJp P (fs.map (·.type)) (xs.map (·.1)),n<=reachBytes)->∃ az,RdL F0 F0 w ((cs.drop off).take ks.length) az/\AsAre ks az):=by
 induction n with
 | zero =>
  refine⟨fun t ks h=>by simp[A8g] at h,fun fs off ks h d cs xs hl g _ => ?_⟩;cases fs with
  | nil=>simp[Apl] at h;subst h;exact⟨[],by simp[RdL],.nil⟩
  | cons f fs=>simp[Apl] at h
 | succ n p =>
  constructor
  ·intro t ks h d cs x c j;cases d with
   | zero=>simp[GP] at c
   | succ d =>
    unfold A8g at h;split at h
    next hu=>cases h;unfold GP at c;rw[hu] at c;split at c <;> simp_all;exact⟨[.bool _],⟨.bool _,trivial⟩,.cons .bool .nil⟩
    next k hu=>cases h;obtain⟨m,e,_,G⟩:=DataW.trod_int hu c;subst e;exact⟨[.int k m],⟨.int k m,trivial⟩,.cons (.int G) .nil⟩
    next hu=>cases h;obtain⟨s,e,_,_⟩:=DataW.trod_string hu c;subst e;exact⟨[.str s],⟨.str s,trivial⟩,.cons .str .nil⟩
    ·rename_i e hu;split at h
     ·rename_i ls o;split at h
      ·rename_i z;cases h;rcases Go.Deep.open_slice hu c with ⟨h0,_⟩ | ⟨a,len,cap,m,H,D,Pl,h1,hb,hl,g,I,J,A⟩
       ·subst h0;exact⟨[.sl 0 []],⟨.nil0,trivial⟩,.cons (.sl .nil (by simp)) .nil⟩
       ·subst h1;rcases LD len with h0 | a8
        ·subst h0;exact⟨[.sl 0 []],⟨.e0 _ _,trivial⟩,.cons (.sl .nil (by simp)) .nil⟩
        ·have a9:len<=m:=by rw[I];split <;> omega
         rw[J] at j;simp only[AJy,hu,Aw,AK,Bz,DT] at j;have K:len*P.bytesOf e<=reachBytes:=AA (Kq _ (by omega)) (j _ (.inl rfl));have L:∀ k,k<len->∀ n∈(D k).weights P e,n<=reachBytes:=fun k M n hn=>j n (.inr (.inl (oG (Cb.2 ⟨k,S_.2 M,rfl⟩) n hn)));have B:a.spot=none:=by
          obtain⟨q,l,_⟩:=A 0 (by omega);unfold AJz at l;split at l
          ·obtain⟨r,v⟩:=Aeq l;rw[DT] at r;have:=v 0 (by rw[DT];omega) (by omega);have:=World.cell?_spot this;simpa [AKa] using this
          ·cases l
         obtain⟨b,off,sp⟩:=a;simp only at B;subst B;have N:∀ k,k<=len->∃ (cs:List Value) (az:u),RdL F0 F0 w cs az/\AsAre (AFm k ls) az/\∀ (i:Nat) (h:i<cs.length),w.cell? ⟨b,off+i,none⟩=some cs[i]:=by
          intro k;induction k with
          | zero=>intro _;exact⟨[],[],trivial,.nil,fun i h=>absurd h (AJu i)⟩
          | succ k O =>
           intro b0;obtain⟨cs,az,h1,h2,Q⟩:=O (by omega);obtain⟨q,l,R⟩:=A k (by omega);obtain⟨S,T,U⟩:=p.1 e ls o H q _ R (L k (by omega));refine⟨cs++q,az++S,h1.append T,h2.append U,fun i hi => ?_⟩;have V:cs.length=k*ls.length:=by rw[(h1.at).1,h2.length,Avq]
           by_cases C:i<cs.length
           ·rw[Dj C];exact Q i C
           ·rw[Dd (by omega)];have E:i-cs.length<q.length:=by rw[Ah] at hi;omega
            unfold AJz at l;split at l
            ·obtain⟨r,v⟩:=Aeq l;have:=v (i-cs.length) (by rw[<- r];exact E) E;rw[<- this,AKc];congr 1;have W:k*P.cellsOf e=cs.length:=by rw[V,z.1]
             rw[W];have ho:off+i=off+cs.length+(i-cs.length):=by omega
             rw[ho];unfold AKa;by_cases X:cs.length=0 <;> by_cases Y:i-cs.length=0 <;> simp[X,Y] <;> omega
            ·cases l
         obtain⟨cs,az,h1,h2,l⟩:=N len (Ay _);exact⟨[.sl len az],⟨AJr (fun h=>h) (fun h=>h) hl h2.dat h1 l,trivial⟩,.cons (.sl h2 K) .nil⟩
      ·cases h
     ·cases h
    ·rename_i fs hu;split at h
     ·rename_i ls o;split at h
      ·rename_i z;cases h;obtain⟨hl,xs,g,Z⟩:cs.length=P.cellsOf t/\∃ xs,fs.toList.mapM (fun f=>GP enc P w base spare held d f.type ((cs.drop f.offset).take (P.cellsOf f.type)))=some xs/\x.1 = .agg (xs.map (·.1)):=by
        unfold GP at c;rw[hu] at c;simp only at c;split at c
        ·rename_i hl;refine⟨hl,?_⟩;cases g:fs.toList.mapM (fun f=>GP enc P w base spare held d f.type ((cs.drop f.offset).take (P.cellsOf f.type))) with
         | none=>rw[g] at c;cases c
         | some xs=>rw[g] at c;cases c;exact⟨xs,rfl,rfl⟩
        ·cases c
       rw[Z] at j;simp only[AJy,hu] at j;have:=(p.2 fs.toList 0 ks o d cs xs (by omega) g j);rw[AL,E_ (by omega)] at this;exact this
      ·cases h
     ·cases h
    ·cases h
  ·intro fs off ks h d cs xs hl g j;cases fs with
   | nil=>simp[Apl] at h;subst h;exact⟨[],by simp[RdL],.nil⟩
   | cons f fs =>
    unfold Apl at h;split at h
    ·rename_i ls o;split at h
     ·rename_i ho;split at h
      ·rename_i ms a3;cases h;rw[Gz] at g;cases h1:GP enc P w base spare held d f.type ((cs.drop f.offset).take (P.cellsOf f.type)) with
       | none=>rw[h1] at g;cases g
       | some y =>
        rw[h1] at g;cases h2:fs.mapM (fun f=>GP enc P w base spare held d f.type ((cs.drop f.offset).take (P.cellsOf f.type))) with
        | none=>simp[h2] at g
        | some ys =>
         rw[h2] at g;cases g;simp only[Bg,AJp,AK] at j;rw[Ah] at hl |-;obtain⟨a4,F,a5⟩:=p.1 f.type ls o d _ y h1 (fun n hn=>j n (.inl hn));obtain⟨a6,a2,a7⟩:=p.2 fs (off+ls.length) ms a3 d cs ys (by omega) h2 (fun n hn=>j n (.inr hn));rw[ho.1,<- ho.2] at F;rw[List.take_add,List.drop_drop];exact⟨a4++a6,F.append a2,a5.append a7⟩
      ·cases h
     ·cases h
    ·cases h
theorem Aex{r:Reach}{a:Nat}{t e:TypeId}{v:Value}{d:DataW H}{ps:List MemPlace}{ks:List SH}(n:Nat)(hu:P.underlying t=some (.slice e)){b:Nat}(c:A8g P n t=some [.sl b ks])
  (f:ABz P w r a t v) (hd:DataW.Trod enc P w base spare held t v d ps) (g:∀ n∈d.weights P t,n<=reachBytes):∃ x,Rd (fun _=>False) (fun _=>False) w v x/\AIs (.sl b ks) x:=by
 obtain⟨i,hf⟩:=hd;obtain⟨a0,k,c0,j⟩:=okWide_slice hu f;subst j;obtain⟨az,h1,h2⟩:=(Ayk n).1 t _ c i _ _ hf g;cases h2 with
 | cons h hs =>
  cases hs;exact⟨_,h1.1,h⟩
end
end Go.Ai
namespace Go.Ai
open Go.RowKit
open List renaming length->C
theorem vS:∀ {ks ls:List SH} {az:u},AsAre (ks++ls) az->∃ a b,az=a++b/\AsAre ks a/\AsAre ls b
 | [],_,az,h=>⟨[],az,rfl,.nil,h⟩
 | _::_,_,_,.cons h hs=>by
  obtain⟨a,b,rfl,h1,h2⟩:=vS hs;exact⟨_::a,b,rfl,.cons h h1,h2⟩
theorem Azq:∀ {n:Nat} {az:u},AsAre (AFm n [.int .i64]) az->∃ l:LI,C l=n/\az=li l
 | 0,_,.nil=>⟨[],rfl,rfl⟩
 | n+1,az,h=>by
  obtain⟨a,b,rfl,h1,h2⟩:=vS h;obtain⟨l,c,rfl⟩:=Azq h1;cases h2 with
  | cons d e =>
   cases e;cases d;rename_i x _;exact⟨l++[x],by simp[c],by simp[li]⟩
theorem Apy{x:AV}(h:AIs (.sl 8 [.int .i64]) x):∃ l:LI,C l<4611686018427387904/\x = .sl (C l) (li l):=by
 cases h with
 | sl b hb =>
  obtain⟨l,a,rfl⟩:=Azq b;refine⟨l,?_,by rw[a]⟩;subst a;have e:reachBytes<9223372036854775807:=by decide
  omega
end Go.Ai
