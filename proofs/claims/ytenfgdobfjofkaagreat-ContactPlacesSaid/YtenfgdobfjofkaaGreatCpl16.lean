/- Texts of the proof of ContactPlaces: part 16 of 17. -/
import Derived.SizedLaws
import Derived.Test.YtenfgdobfjofkaaGreatCpl15
namespace Go.Ai
open Go.RowKit Go.WideShapes Go.ChangeShapes
open Go.Addr renaming add->Ayb
open Go.DataW renaming trod->Cv,trod_int->A1f,trod_string->A0q,weights->Aro,weightsAll->RL,weightsEach->Aas
open Go.Value renaming okWide->Yu
open Go.World renaming cells?->Aug
open List renaming drop_zero->DF,getElem_append_left->CD,getElem_append_right->C3,length_append->Ac,length_map->Bx,length_range->Cm,mapM_cons->EX,map_cons->BQ,mem_append->AF,mem_cons->Aw,mem_map->Dv,take_of_length_le->Ej
open Nat renaming eq_zero_or_pos->Ic,le_refl->Ar,le_trans->AR,mul_le_mul_right->Hf,not_lt_zero->Agq,succ_mul->Kh
inductive SH where
 | int (k:IntKind)
 | bool
 | str
 | sl (b:Nat) (ks:List SH)
def Yr(n:Nat)(ks:List SH):List SH:=match n with
 | 0=>[]
 | n+1=>Yr n ks++ks
theorem gY(n:Nat)(ks:List SH):(Yr n ks).length=n*ks.length:=by
 induction n with
 | zero=>simp[Yr]
 | succ n a=>simp[Yr,a,Kh]
mutual
inductive AIs:SH->AV->Prop where
 | int {k:IntKind} {n:Int} (h:(Lit.int k n).wf=true):AIs (.int k) (.int k n)
 | bool {b:Bool}:AIs .bool (.bool b)
 | str {s:ByteArray}:AIs .str (.str s)
 | sl {b:Nat} {ks:List SH} {n:Nat} {az:u} (h:AsAre (Yr n ks) az) (hb:n*b<=reachBytes):AIs (.sl b ks) (.sl n az)
inductive AsAre:List SH->u->Prop where
 | nil:AsAre [] []
 | cons {k:SH} {a:AV} {ks:List SH} {az:u} (h:AIs k a) (hs:AsAre ks az):AsAre (k::ks) (a::az)
end
theorem AIs.data{k:SH}{a:AV}(h:AIs k a):EM a=true:=by cases h <;> rfl
theorem AsAre.dat:∀ {ks:List SH} {az:u},AsAre ks az->Kd az
 | _,_,.nil=>fun x a=>by cases a
 | _,_,.cons h hs=>fun x a=>by
  cases a with
  | head=>exact h.data
  | tail _ a=>exact hs.dat x a
theorem AsAre.append:∀ {ks ls:List SH} {a b:u},AsAre ks a->AsAre ls b->AsAre (ks++ls) (a++b)
 | _,_,_,_,.nil,h=>h
 | _,_,_,_,.cons h hs,c => .cons h (hs.append c)
theorem AsAre.length:∀ {ks:List SH} {a:u},AsAre ks a->a.length=ks.length
 | _,_,.nil=>rfl
 | _,_,.cons _ hs=>by simp[hs.length]
mutual
def SP(P:Program):Nat->TypeId->Option (List SH)
 | 0,_=>none
 | n+1,t=>match P.underlying t with
  | some .bool=>some [.bool]
  | some (.int k)=>some [.int k]
  | some .string=>some [.str]
  | some (.slice e)=>match SP P n e with
   | some ks=>if ks.length=P.cellsOf e/\0<ks.length then some [.sl (P.bytesOf e) ks] else none
   | none=>none
  | some (.struct fs)=>match M4 P n fs.toList 0 with
   | some ks=>if ks.length=P.cellsOf t then some ks else none
   | none=>none
  | _=>none
def M4(P:Program):Nat->List Field->Nat->Option (List SH)
 | _,[],_=>some []
 | 0,_::_,_=>none
 | n+1,f::fs,off=>match SP P n f.type with
  | some ks=>if f.offset=off/\ks.length=P.cellsOf f.type then
    match M4 P n fs (off+ks.length) with
    | some ls=>some (ks++ls)
    | none=>none
   else none
  | none=>none
end
theorem SO.append{Y X:Nat->Prop}{w:World}:∀ {a c:List Value} {b d:u},SO Y X w a b->SO Y X w c d->SO Y X w (a++c) (b++d)
 | [],_,[],_,_,h=>h
 | _::_,_,_::_,_,h,e=>⟨h.1,SO.append h.2 e⟩
 | [],_,_::_,_,h,_=>h.elim
 | _::_,_,[],_,h,_=>h.elim
theorem MM{H:Type}{P:Program}{e:TypeId}:∀ {a:List (DataW H)} {d:DataW H},d∈a->∀ n∈d.weights P e,n∈RL P e a
 | _::_,_,.head _,n,hn=>by simp only[RL,AF];exact .inl hn
 | _::_,_,.tail _ h,n,hn=>by simp only[RL,AF];exact .inr (MM h n hn)
section
variable {H:Type} {enc:TypeId × Value->H} {P:Program} {w:World} {base:Nat} {spare:Nat->Bool} {held:Bool}
abbrev F0:Nat->Prop:=fun _=>False
theorem qO(n:Nat) :
  (∀ t ks,SP P n t=some ks->∀ d cs x,Cv enc P w base spare held d t cs=some x->(∀ n∈x.1.weights P t,n<=reachBytes)->∃ az,SO F0 F0 w cs az/\AsAre ks az) /\
  (∀ fs off ks,M4 P n fs off=some ks->∀ d (cs:List Value) xs,off+ks.length<=cs.length ->
   fs.mapM (fun f=>Cv enc P w base spare held d f.type ((cs.drop f.offset).take (P.cellsOf f.type)))=some xs->(∀ n∈Aas P (fs.map (·.type)) (xs.map (·.1)),n<=reachBytes)->∃ az,SO F0 F0 w ((cs.drop off).take ks.length) az/\AsAre ks az):=by
 induction n with
 | zero =>
  refine⟨fun t ks h=>by simp[SP] at h,fun fs off ks h d cs xs hl g _ => ?_⟩;cases fs with
  | nil=>simp[M4] at h;subst h;exact⟨[],by simp[SO],.nil⟩
  | cons f fs=>simp[M4] at h
 | succ n p =>
  constructor
  ·intro t ks h d cs x c j;cases d with
   | zero=>simp[Cv] at c
   | succ d =>
    unfold SP at h;split at h
    next hu=>cases h;unfold Cv at c;rw[hu] at c;split at c <;> simp_all;exact⟨[.bool _],⟨.bool _,trivial⟩,.cons .bool .nil⟩
    next k hu=>cases h;obtain⟨m,e,_,G⟩:=A1f hu c;subst e;exact⟨[.int k m],⟨.int k m,trivial⟩,.cons (.int G) .nil⟩
    next hu=>cases h;obtain⟨s,e,_,_⟩:=A0q hu c;subst e;exact⟨[.str s],⟨.str s,trivial⟩,.cons .str .nil⟩
    ·rename_i e hu;split at h
     ·rename_i ls o;split at h
      ·rename_i z;cases h;rcases Go.Deep.open_slice hu c with ⟨h0,_⟩ | ⟨a,len,cap,m,H,D,Pl,h1,hb,hl,g,I,J,A⟩
       ·subst h0;exact⟨[.sl 0 []],⟨.nil0,trivial⟩,.cons (.sl .nil (by simp)) .nil⟩
       ·subst h1;rcases Ic len with h0 | a8
        ·subst h0;exact⟨[.sl 0 []],⟨.e0 _ _,trivial⟩,.cons (.sl .nil (by simp)) .nil⟩
        ·have a9:len<=m:=by rw[I];split <;> omega
         rw[J] at j;simp only[Aro,hu,Aw,AF,Bx,Cm] at j;have K:len*P.bytesOf e<=reachBytes:=AR (Hf _ (by omega)) (j _ (.inl rfl));have L:∀ k,k<len->∀ n∈(D k).weights P e,n<=reachBytes:=fun k M n hn=>j n (.inr (.inl (MM (Dv.2 ⟨k,List.mem_range.2 M,rfl⟩) n hn)));have B:a.spot=none:=by
          obtain⟨q,l,_⟩:=A 0 (by omega);unfold Aug at l;split at l
          ·obtain⟨r,v⟩:=Ql l;rw[Cm] at r;have:=v 0 (by rw[Cm];omega) (by omega);have:=World.cell?_spot this;simpa [Ayb] using this
          ·cases l
         obtain⟨b,off,sp⟩:=a;simp only at B;subst B;have N:∀ k,k<=len->∃ (cs:List Value) (az:u),SO F0 F0 w cs az/\AsAre (Yr k ls) az/\∀ (i:Nat) (h:i<cs.length),w.cell? ⟨b,off+i,none⟩=some cs[i]:=by
          intro k;induction k with
          | zero=>intro _;exact⟨[],[],trivial,.nil,fun i h=>absurd h (Agq i)⟩
          | succ k O =>
           intro b0;obtain⟨cs,az,h1,h2,Q⟩:=O (by omega);obtain⟨q,l,R⟩:=A k (by omega);obtain⟨S,T,U⟩:=p.1 e ls o H q _ R (L k (by omega));refine⟨cs++q,az++S,h1.append T,h2.append U,fun i hi => ?_⟩;have V:cs.length=k*ls.length:=by rw[(h1.at).1,h2.length,gY]
           by_cases C:i<cs.length
           ·rw[CD C];exact Q i C
           ·rw[C3 (by omega)];have E:i-cs.length<q.length:=by rw[Ac] at hi;omega
            unfold Aug at l;split at l
            ·obtain⟨r,v⟩:=Ql l;have:=v (i-cs.length) (by rw[<- r];exact E) E;rw[<- this,List.getElem_range];congr 1;have W:k*P.cellsOf e=cs.length:=by rw[V,z.1]
             rw[W];have ho:off+i=off+cs.length+(i-cs.length):=by omega
             rw[ho];unfold Ayb;by_cases X:cs.length=0 <;> by_cases Y:i-cs.length=0 <;> simp[X,Y] <;> omega
            ·cases l
         obtain⟨cs,az,h1,h2,l⟩:=N len (Ar _);exact⟨[.sl len az],⟨Agd (fun h=>h) (fun h=>h) hl h2.dat h1 l,trivial⟩,.cons (.sl h2 K) .nil⟩
      ·cases h
     ·cases h
    ·rename_i fs hu;split at h
     ·rename_i ls o;split at h
      ·rename_i z;cases h;obtain⟨hl,xs,g,Z⟩:cs.length=P.cellsOf t/\∃ xs,fs.toList.mapM (fun f=>Cv enc P w base spare held d f.type ((cs.drop f.offset).take (P.cellsOf f.type)))=some xs/\x.1 = .agg (xs.map (·.1)):=by
        unfold Cv at c;rw[hu] at c;simp only at c;split at c
        ·rename_i hl;refine⟨hl,?_⟩;cases g:fs.toList.mapM (fun f=>Cv enc P w base spare held d f.type ((cs.drop f.offset).take (P.cellsOf f.type))) with
         | none=>rw[g] at c;cases c
         | some xs=>rw[g] at c;cases c;exact⟨xs,rfl,rfl⟩
        ·cases c
       rw[Z] at j;simp only[Aro,hu] at j;have:=(p.2 fs.toList 0 ks o d cs xs (by omega) g j);rw[DF,Ej (by omega)] at this;exact this
      ·cases h
     ·cases h
    ·cases h
  ·intro fs off ks h d cs xs hl g j;cases fs with
   | nil=>simp[M4] at h;subst h;exact⟨[],by simp[SO],.nil⟩
   | cons f fs =>
    unfold M4 at h;split at h
    ·rename_i ls o;split at h
     ·rename_i ho;split at h
      ·rename_i ms a3;cases h;rw[EX] at g;cases h1:Cv enc P w base spare held d f.type ((cs.drop f.offset).take (P.cellsOf f.type)) with
       | none=>rw[h1] at g;cases g
       | some y =>
        rw[h1] at g;cases h2:fs.mapM (fun f=>Cv enc P w base spare held d f.type ((cs.drop f.offset).take (P.cellsOf f.type))) with
        | none=>simp[h2] at g
        | some ys =>
         rw[h2] at g;cases g;simp only[BQ,Aas,AF] at j;rw[Ac] at hl |-;obtain⟨a4,F,a5⟩:=p.1 f.type ls o d _ y h1 (fun n hn=>j n (.inl hn));obtain⟨a6,a2,a7⟩:=p.2 fs (off+ls.length) ms a3 d cs ys (by omega) h2 (fun n hn=>j n (.inr hn));rw[ho.1,<- ho.2] at F;rw[List.take_add,List.drop_drop];exact⟨a4++a6,F.append a2,a5.append a7⟩
      ·cases h
     ·cases h
    ·cases h
theorem Ys{r:Reach}{a:Nat}{t e:TypeId}{v:Value}{d:DataW H}{ps:List MemPlace}{ks:List SH}(n:Nat)(hu:P.underlying t=some (.slice e)){b:Nat}(c:SP P n t=some [.sl b ks])
  (f:Yu P w r a t v) (hd:DataW.Trod enc P w base spare held t v d ps) (g:∀ n∈d.weights P t,n<=reachBytes):∃ x,Rd (fun _=>False) (fun _=>False) w v x/\AIs (.sl b ks) x:=by
 obtain⟨i,hf⟩:=hd;obtain⟨a0,k,c0,j⟩:=okWide_slice hu f;subst j;obtain⟨az,h1,h2⟩:=(qO n).1 t _ c i _ _ hf g;cases h2 with
 | cons h hs =>
  cases hs;exact⟨_,h1.1,h⟩
end
end Go.Ai
namespace Go.Ai
open Go.RowKit
open List renaming length->C
theorem RG:∀ {ks ls:List SH} {az:u},AsAre (ks++ls) az->∃ a b,az=a++b/\AsAre ks a/\AsAre ls b
 | [],_,az,h=>⟨[],az,rfl,.nil,h⟩
 | _::_,_,_,.cons h hs=>by
  obtain⟨a,b,rfl,h1,h2⟩:=RG hs;exact⟨_::a,b,rfl,.cons h h1,h2⟩
theorem qP:∀ {n:Nat} {az:u},AsAre (Yr n [.int .i64]) az->∃ l:LI,C l=n/\az=li l
 | 0,_,.nil=>⟨[],rfl,rfl⟩
 | n+1,az,h=>by
  obtain⟨a,b,rfl,h1,h2⟩:=RG h;obtain⟨l,c,rfl⟩:=qP h1;cases h2 with
  | cons d e =>
   cases e;cases d;rename_i x _;exact⟨l++[x],by simp[c],by simp[li]⟩
theorem qQ{x:AV}(h:AIs (.sl 8 [.int .i64]) x):∃ l:LI,C l<4611686018427387904/\x = .sl (C l) (li l):=by
 cases h with
 | sl b hb =>
  obtain⟨l,a,rfl⟩:=qP b;refine⟨l,?_,by rw[a]⟩;subst a;have e:reachBytes<9223372036854775807:=by decide
  omega
end Go.Ai
