/- Texts of the proof of ContactStates: part 2 of 18. -/
import Derived.Laws.Cells
import Derived.Laws.CopyRow
import Derived.Laws.Entries
import Derived.Laws.StructEq
import Derived.Laws.NewFold
import Derived.Test.YtenfgdobfjofkaaGreatCst1
namespace Go.Ai
open Go.RowKit
open And renaming left->N8
open _root_.Array renaming all_eq_true_iff_forall_mem->Aew,ext'->ACb,foldl_toList->Si,getElem?_eq_getElem->AE,getElem?_eq_none->A8n,getElem?_extract->nV,getElem?_setIfInBounds->Kc,getElem?_toList->E4,length_toList->B3,mapM_eq_mapM_toList->L5,size_setIfInBounds->Ku,toList_zipIdx->ACc
open Bool renaming and_assoc->S',and_eq_true->U,and_true->D5,false_and->Ea,false_eq_true->AC,not_eq_true'->Bl,or_eq_false_iff->nM,true_and->G8
open Decidable renaming not_not->Avg
open False renaming elim->Avr
open Go renaming undef->A9
open Go.Addr renaming add->AKa
open Go.BinOp renaming eql->AJf,neq->AJe
open Go.Builtin renaming max2->Awb,min2->Awc
open Go.Instr renaming build->J3,fill->DH
open Go.Op renaming eqFields->L4,equal->Alb,intArith->WR,intBits->Apr,intCmp->O_,unary->A8t
open Go.Oper renaming upon->BN,wp->Cn
open Go.Program renaming cellsOf->IH,fieldsOf->Afg
open Go.Result renaming andThen_ok->W
open Go.RowKit.Below renaming heap_alloc->FM,refl->DZ
open Go.Sem renaming run->Cl,run_bind->Aj,run_map->Apv,run_pure->An
open Go.Value renaming bool->SW
open Go.World renaming setRow->A8s
open List renaming all_eq_true->AKf,append_assoc->Ci,cons_append->HZ,drop->R,eq_nil_of_length_eq_zero->Bb,foldlM->AFs,foldlM_cons->Avk,foldl_cons->Awa,getElem?_append_left->AO,getElem?_append_right->A_,getElem?_cons_succ->Eb,getElem?_drop->D4,getElem?_eq_getElem->Af,getElem?_eq_some_iff->Az,getElem?_take_of_lt->B8,getElem?_toArray->C3,getElem_append_left->Dj,getElem_append_right->Dd,getElem_cons_zero->Bk,getElem_drop->AJk,getElem_map->Gk,getElem_mem->AF,getElem_of_mem->ED,getElem_toArray->EI,length->C,length_append->Ah,length_cons->B1,length_drop->C5,length_take->Db,mapM_cons->Gz,map_cons->Bg,mem_append->AK,mem_cons_of_mem->AJ,mem_cons_self->AKh,mem_of_mem_drop->Cv,mem_of_mem_take->BC,mem_singleton->AP,range->AZ,size_toArray->CS,take->CN,take_append_drop->OZ
open Nat renaming add_assoc->DC,add_comm->KG,add_zero->Bv,le_refl->Ay,lt_of_lt_of_le->Bf,lt_of_not_le->Hd,zero_add->AH
open Ne renaming symm->CW
open Option renaming isSome_iff_exists->A7,map_eq_some_iff->S,map_none->L7,map_some->Am
open Option.some renaming inj->AY,injEq->Ac
theorem FQ{Y X:Nat->Prop}{w:World}{v:Value}{x:AV}(h:Rd Y X w v x)(hd:EK x=true):v.oneCell'=true/\v.cells=#[v]:=by
 cases h <;> first | exact⟨rfl,rfl⟩ | cases hd
theorem Du(b o j:Nat):(⟨b,o,none⟩:Addr).add j=⟨b,o+j,none⟩:=by
 unfold AKa;split
 next h=>subst h;rfl
 ·rfl
def nT:TypeDesc->Bool
 | .struct _ | .array _ _=>true
 | _=>false
def G7(P:Program)(t:TypeId)(n:Nat)(one:Bool):Bool :=
 match P.underlying t,P.info? t with
 | some d,some i=>i.size==n&&one == !(nT d)
 | _,_=>false
theorem E6{P:Program}{t:TypeId}{n:Nat}{one:Bool}(h:G7 P t n one=true) :
  (∀ w,(isAgg t).run P w = .ok (!one) w)/\(∀ w,(sizeOf t).run P w = .ok n w):=by
 unfold G7 at h;split at h
 ·rename_i d i hd hi;simp only[U,AM] at h;obtain⟨h1,h2⟩:=h;constructor
  ·intro w;subst h2;simp only[isAgg,Aj,run_underlying hd,W,Bool.not_not];cases d <;> rfl
  ·intro w;simp[sizeOf,typeInfo,program,Cl,hi,h1]
 ·cases h
theorem MM{P:Program}{Y X:Nat->Prop}{w:World}{t:TypeId}{n b c off:Nat}{one:Bool}{cs:List AV}{x:AV}(ho:G7 P t n one=true)(d:Gq Y X w b c cs)
  (a:Ad cs off n one=some x):∃ v,(loadVar t ⟨b,c+off,none⟩).run P w = .ok v w/\Rd Y X w v x:=by
 obtain⟨h1,h2⟩:=E6 ho;obtain⟨hd,d⟩:=d;unfold Ad at a;cases one with
 | true =>
  simp only[if_true] at a;obtain⟨k,l⟩:=Az.1 a;obtain⟨v,hc,hr⟩:=d off k;refine⟨v,?_,l ▸ hr⟩;simp[loadVar,h1,hc]
 | false =>
  simp only[AC,if_false] at a;split at a
  ·rename_i o;cases a;let f:Nat->Value:=fun j=>(w.cell? ⟨b,c+off+j,none⟩).getD A9
   have hf:∀ j,j<n->w.cell? ⟨b,c+off+j,none⟩=some (f j)/\∀ h:off+j<C cs,Rd Y X w (f j) cs[off+j]:=by
    intro j e;obtain⟨v,hc,hr⟩:=d (off+j) (by omega);have g:w.cell? ⟨b,c+off+j,none⟩=some v:=by rw[DC];exact hc
    refine⟨by simp[f,g],fun _ => ?_⟩;have:f j=v:=by simp[f,g]
    rw[this];exact hr
   refine⟨.agg ((AZ n).map f).toArray,?_,?_⟩
   ·have hl:=run_loadCells (P:=P) w ⟨b,c+off,none⟩ n f (fun j e=>by rw[Du];exact (hf j e).1);simp[loadVar,h1,h2,hl]
   ·refine .agg _ _ ?_ (by simp;omega) (fun i h1 h2 => ?_)
    ·intro y m;exact hd y (Cv (BC m))
    ·have hi:i<n:=by simpa using h1
     simpa using (hf i hi).2 (by omega)
  ·cases a
def Dl(Y X:Nat->Prop)(w:World)(vs:Array Value)(cs:List AV):Prop :=
 OK cs/\vs.size=C cs/\∀ (i:Nat) (h1:i<vs.size) (h2:i<C cs),Rd Y X w vs[i] cs[i]
section
variable{Y X:Nat->Prop}
theorem Dl.oneCell{w:World}{vs:Array Value}{cs:List AV}(h:Dl Y X w vs cs):∀ v∈vs.toList,v.oneCell'=true:=by
 obtain⟨hd,hs,hr⟩:=h;intro v c;obtain⟨i,hi,rfl⟩:=ED c;have d:i<vs.size:=by simpa using hi
 have:=hr i d (by omega);exact (FQ this (hd _ (AF _))).1
theorem ND{w:World}{v:Value}{x:AV}{n:Nat}{ys:List AV}(h:Rd Y X w v x)(hc:H2 x n=some ys):C ys=n/\Dl Y X w v.cells ys:=by
 have one:EK x=true->n=1->ys=[x]->C ys=n/\Dl Y X w v.cells ys:=by
  intro hd hn a;subst a hn;refine⟨rfl,?_⟩;rw[(FQ h hd).2];refine⟨fun y a => ?_,rfl,fun i h1 h2 => ?_⟩
  ·simp only[AP] at a;subst a;exact hd
  ·have:i=0:=by simp at h2;exact h2
   subst this;exact h
 cases x with
 | agg cs =>
  simp only[H2] at hc;split at hc
  ·cases hc;cases h with
   | agg vs _ hd hs hr=>exact⟨by assumption,hd,hs,hr⟩
  ·cases hc
 | tup _=>cases hc
 | undef=>cases hc
 | fresh _ _ _=>cases hc
 | frs _ _ _ _=>cases hc
 | pt _=>cases hc
 | fnc _ _=>cases hc
 | gb _=>cases hc
 | io _ _=>cases hc
 | frh _=>cases hc
 | int k m=>simp only[H2] at hc;split at hc <;> cases hc;exact one rfl (by assumption) rfl
 | bool b=>simp only[H2] at hc;split at hc <;> cases hc;exact one rfl (by assumption) rfl
 | str b=>simp only[H2] at hc;split at hc <;> cases hc;exact one rfl (by assumption) rfl
 | nil=>simp only[H2] at hc;split at hc <;> cases hc;exact one rfl (by assumption) rfl
 | sl m cs=>simp only[H2] at hc;split at hc <;> cases hc;exact one rfl (by assumption) rfl
theorem Dl.world{w w':World}{vs:Array Value}{cs:List AV}(h:Dl Y X w vs cs)(e:∀ b,¬ X b->b<w.heap.size->w'.heap[b]? = w.heap[b]?):Dl Y X w' vs cs :=
 ⟨h.1,h.2.1,fun i h1 h2=>(h.2.2 i h1 h2).world e⟩
end
theorem Dl.mono{Y X X':Nat->Prop}{w:World}{vs:Array Value}{cs:List AV}(h:Dl Y X w vs cs)(hX:∀ b,X' b->X b\/w.heap.size<=b):Dl Y X' w vs cs :=
 ⟨h.1,h.2.1,fun i h1 h2=>(h.2.2 i h1 h2).mono hX⟩
theorem Dl.get{Y X:Nat->Prop}{w:World}{vs:Array Value}{cs:List AV}(h:Dl Y X w vs cs){i:Nat}{c:AV}(hc:cs[i]? = some c):∃ v,vs[i]? = some v/\Rd Y X w v c:=by
 obtain⟨a,b⟩:=Az.1 hc;have hs:=h.2.1;refine⟨vs[i]'(by omega),by rw[AE],?_⟩;subst b;exact h.2.2 i (by omega) a
theorem RJ(cs new:List AV)(off i:Nat)(h:off+C new<=C cs) :
  (cs.take off++new++cs.drop (off+C new))[i]? = if i<off then cs[i]? else if i<off+C new then new[i-off]? else cs[i]? := by
 have a:C (cs.take off)=off:=by simp;omega
 by_cases h1:i<off
 ·rw[Ae h1,Ci,AO (by omega),B8 h1]
 ·rw[Al h1];by_cases h2:i<off+C new
  ·rw[Ae h2,AO (by simp;omega),A_ (by omega),a]
  ·rw[Al h2,A_ (by simp;omega),D4];congr 1;simp;omega
section
variable{cs new b:List AV}{off:Nat}
theorem MN(h:Cg cs off new=some b):off+C new<=C cs/\C b=C cs/\b=cs.take off++new++cs.drop (off+C new):=by
 unfold Cg at h;split at h
 ·cases h;exact⟨by assumption,by simp;omega,rfl⟩
 ·cases h
theorem kZ(h:Cg cs off new=some b)(hc:OK cs)(hn:OK new):OK b:=by
 obtain⟨_,_,rfl⟩:=MN h;intro x a;simp only[AK] at a;rcases a with (a | a) | a
 ·exact hc x (BC a)
 ·exact hn x a
 ·exact hc x (Cv a)
end
theorem Dp(w:World)(b c:Nat)(cs:Array Value)(h:c ≠ b):(w.setRow b cs).heap[c]? = w.heap[c]? := by
 simp only[A8s,Array.getElem?_modify];rw[Al (CW h)]
theorem Eg(w:World)(b:Nat)(cs:Array Value):(w.setRow b cs).heap.size=w.heap.size:=by
 simp[A8s]
theorem UB{P:Program}{Y X:Nat->Prop}{w:World}{t:TypeId}{n b off:Nat}{cs d f:List AV}{v:Value}(p:∀ w,(sizeOf t).run P w = .ok n w)
  (hb:Ef Y X w b 0 cs) (hX:X b) (g:Dl Y X w v.cells d) (hn:C d=n) (hl:Cg cs off d=some f) :
  ∃ w',(storeVar t ⟨b,off,none⟩ v).run P w = .ok () w'/\w'.os=w.os/\w'.tape=w.tape/\w'.output=w.output/\w'.heap.size=w.heap.size/\(∀ c,c ≠ b->w'.heap[c]? = w.heap[c]?)/\Ef Y X w' b 0 f/\∀ m,Wd w b m->Wd w' b m:=by
 obtain⟨q,vs,T,h,r,hcell⟩:=hb;obtain⟨s,B,x⟩:=MN hl;have l:v.cells.size=n:=by rw[g.2.1,hn]
 have j:=run_storeCells_at (P:=P) b off T v.cells.toList 0 vs w h (by simp only[B3];omega) g.oneCell;simp only[Bv,B3,AH] at j r hcell;refine⟨w.setRow b (CN off vs.toList++v.cells.toList++R (off+v.cells.size) vs.toList).toArray,?_,rfl,rfl,rfl,Eg _ _ _,fun c hc=>Dp _ _ _ _ hc,⟨kZ hl q g.1,_,T,setRow_heap w b vs _ T (0,0) h,?_,?_⟩,?_⟩
 ·simp only[storeVar,Aj,p,W,l,ne_eq,not_true_eq_false,if_false];rw[l] at j;exact j
 ·simp only[CS,Ah,Db,C5,B3,AH];omega
 ·have k:∀ c,¬ X c->c<w.heap.size->(w.setRow b (CN off vs.toList++v.cells.toList++R (off+v.cells.size) vs.toList).toArray).heap[c]? = w.heap[c]? := fun c hc _=>Dp _ _ _ _ (fun e=>hc (e ▸ hX));intro i hi;have y:f[i]? = some f[i]:=Af hi;have a:=RJ cs d off i s;rw[<- x,y] at a;have z:C v.cells.toList=C d:=by simp only[B3];omega
  have o:C (vs.toList.take off)=off:=by simp;omega
  simp only[AH,C3];by_cases h1:i<off
  ·rw[Ae h1] at a;obtain⟨u,hu,hr⟩:=hcell i (by omega);refine⟨u,?_,?_⟩
   ·rw[Ci,AO (by omega),B8 h1];simpa using hu
   ·have:cs[i]=f[i]:=by rw[Af (by omega)] at a;exact (AY a).symm
    rw[<- this];exact hr.world k
  ·rw[Al h1] at a;by_cases h2:i<off+C d
   ·rw[Ae h2] at a;obtain⟨u,hu,hr⟩:=g.get a.symm;refine⟨u,?_,hr.world k⟩;rw[AO (by simp only[Ah];omega),A_ (by omega),o];simpa using hu
   ·rw[Al h2] at a;obtain⟨u,hu,hr⟩:=hcell i (by omega);refine⟨u,?_,?_⟩
    ·rw[A_ (by simp only[Ah];omega),D4];have A:off+v.cells.size+(i-C (vs.toList.take off++v.cells.toList))=i:=by simp only[Ah,o,z];omega
     rw[A];simpa using hu
    ·have:cs[i]=f[i]:=by rw[Af (by omega)] at a;exact (AY a).symm
     rw[<- this];exact hr.world k
 ·rintro m ⟨D,E,r1,r2⟩;rw[h] at r1;cases r1;refine⟨_,T,setRow_heap w b vs _ T (0,0) h,?_⟩;simp only[CS,Ah,Db,C5,B3];omega
theorem Yc(off:Nat):∀ (l:List Value) (k:Nat) (cells:Array Value) (i:Nat),
  ((l.zipIdx k).foldl (fun (cs:Array Value) (p:Value × Nat)=>cs.setIfInBounds (off+p.2) p.1) cells)[i]? =
   if off+k<=i/\i<off+k+C l/\i<cells.size then l[i-(off+k)]? else cells[i]? := by
 intro l;induction l with
 | nil=>intro k cells i;simp;intro h1 h2;omega
 | cons v l a =>
  intro k cells i;simp only[List.zipIdx_cons,Awa];rw[a];simp only[Ku,Kc,B1];by_cases h0:i=off+k
  ·subst h0;by_cases hs:off+k<cells.size
   ·rw[Al (by omega),Ae (by omega),Ae hs,Ae (by omega)];simp
   ·rw[Al (by omega),Ae (by omega),Al hs,Al (by omega),A8n (by omega)]
  ·by_cases h1:off+(k+1)<=i/\i<off+(k+1)+C l/\i<cells.size
   ·rw[Ae h1,Ae (by omega)];have:i-(off+k)=(i-(off+(k+1)))+1:=by omega
    rw[this,Eb]
   ·rw[Al h1,Al (by omega),Al (by omega)]
theorem Yd(off:Nat):∀ (l:List (Value × Nat)) (cells:Array Value),(l.foldl (fun (cs:Array Value) (p:Value × Nat)=>cs.setIfInBounds (off+p.2) p.1) cells).size=cells.size:=by
 intro l;induction l with
 | nil=>intro cells;rfl
 | cons p l a=>intro cells;simp only[Awa];rw[a];simp
theorem Aff{Y X:Nat->Prop}{w:World}{cells b:Array Value}{cs d e:List AV}{off:Nat}(hc:Dl Y X w cells cs)(f:Dl Y X w b d)(hl:Cg cs off d=some e) :
  Dl Y X w (b.zipIdx.foldl (fun (cs:Array Value) (p:Value × Nat)=>cs.setIfInBounds (off+p.2) p.1) cells) e:=by
 obtain⟨j,k,l⟩:=MN hl;have m:b.zipIdx.foldl (fun (cs:Array Value) (p:Value × Nat)=>cs.setIfInBounds (off+p.2) p.1) cells=(b.toList.zipIdx 0).foldl (fun (cs:Array Value) (p:Value × Nat)=>cs.setIfInBounds (off+p.2) p.1) cells:=by
  rw[<- Si,ACc]
 rw[m];have n:=Yd off (b.toList.zipIdx 0) cells;refine⟨kZ hl hc.1 f.1,by rw[n,k];exact hc.2.1,?_⟩;intro i h1 h2;have a:=Yc off b.toList 0 cells i;have c:=RJ cs d off i j;rw[<- l,Af h2] at c;rw[AE h1] at a;have q:=hc.2.1;have r:=f.2.1;have hin:i<cells.size:=by omega
 simp only[Bv,B3] at a;by_cases g:off<=i/\i<off+b.size
 ·rw[Ae ⟨g.1,g.2,hin⟩] at a;rw[Al (by omega),Ae (by omega)] at c;obtain⟨u,hu,hr⟩:=f.get c.symm;simp only[E4,hu,Ac] at a;rw[a];exact hr
 ·rw[Al (by omega)] at a;have o:cs[i]? = some e[i]:=by
   by_cases h:i<off
   ·rw[Ae h] at c;exact c.symm
   ·rw[Al h,Al (by omega)] at c;exact c.symm
  obtain⟨u,hu,hr⟩:=hc.get o;rw[hu] at a;rw[AY a];exact hr
def NE(P:Program):Nat->List Field->Bool
 | _,[]=>true
 | i,f::fs=>f.name != "_" && f.offset==i&&(match P.underlying f.type with | some (.int _)=>true | _=>false)&&NE P (i+1) fs
theorem nU{P:Program}{Y X:Nat->Prop}{w:World}{xs l:Array Value}(d:Nat):∀ (fs:List Field) (i:Nat) (as bs:List AV) (r:Bool),NE P i fs=true->Bt as bs=some r ->
  C as=C fs->(∀ (j:Nat) (h:j<C as),∃ v,xs[i+j]? = some v/\Rd Y X w v as[j])->(∀ (j:Nat) (h:j<C bs),∃ v,l[i+j]? = some v/\Rd Y X w v bs[j]) ->
  (L4 (d+1) xs l fs).run P w = .ok r w:=by
 intro fs;induction fs with
 | nil =>
  intro i as bs r _ c hl _ _;have:as=[]:=Bb hl;subst this;cases bs with
  | nil=>simp only[Bt,Ac] at c;subst c;rfl
  | cons b bs=>simp[Bt] at c
 | cons f fs A =>
  intro i as bs r hf c hl n o;simp only[NE,U,bne_iff_ne,ne_eq,AM] at hf;obtain⟨⟨⟨h1,h2⟩,p⟩,B⟩:=hf;cases as with
  | nil=>simp at hl
  | cons a as =>
   cases a with
   | int k m =>
    cases bs with
    | nil=>simp[Bt] at c
    | cons b bs =>
     cases b with
     | int H g =>
      simp only[Bt] at c;split at c
      ·rename_i D;subst D;simp only[S] at c;obtain⟨r',c,e⟩:=c;obtain⟨u,hu,q⟩:=n 0 (by simp);obtain⟨I,s,t⟩:=o 0 (by simp);simp only[Bv,Bk] at hu q s t;cases q;cases t;split at p
       ·rename_i E x;have F:∀ w,(isAgg f.type).run P w = .ok false w:=fun w=>by
         simp[isAgg,run_underlying x]
        simp only[L4,h1,ne_eq,not_false_eq_true,if_true,Aj,part,F,W,AC,if_false,h2,hu,s,An,run_equalIn_int w d f.type k E m g x];by_cases y:(m==g)=true
        ·simp only[y,G8] at e |-;simp only[Bool.not_true,AC,if_false];subst e;refine A (i+1) as bs r' B c (by simpa using hl) (fun j G => ?_) (fun j G => ?_)
         ·have:=n (j+1) (by simp;omega);simpa [DC,KG 1 j] using this
         ·have:=o (j+1) (by simp;omega);simpa [DC,KG 1 j] using this
        ·have z:(m==g)=false:=by simpa using y
         simp only[z,Ea] at e;subst e;simp[z]
       ·cases p
      ·cases c
     | bool _=>simp[Bt] at c
     | str _=>simp[Bt] at c
     | agg _=>simp[Bt] at c
     | nil=>simp[Bt] at c
     | sl _ _=>simp[Bt] at c
     | tup _=>simp[Bt] at c
     | undef=>simp[Bt] at c
     | fresh _ _ _=>simp[Bt] at c
     | frs _ _ _ _=>simp[Bt] at c
     | pt _=>simp[Bt] at c
     | fnc _ _=>simp[Bt] at c
     | gb _=>simp[Bt] at c
     | io _ _=>simp[Bt] at c
     | frh _=>simp[Bt] at c
   | bool _=>cases bs <;> simp[Bt] at c
   | str _=>cases bs <;> simp[Bt] at c
   | agg _=>cases bs <;> simp[Bt] at c
   | nil=>cases bs <;> simp[Bt] at c
   | sl _ _=>cases bs <;> simp[Bt] at c
   | tup _=>cases bs <;> simp[Bt] at c
   | undef=>cases bs <;> simp[Bt] at c
   | fresh _ _ _=>cases bs <;> simp[Bt] at c
   | frs _ _ _ _=>cases bs <;> simp[Bt] at c
   | pt _=>cases bs <;> simp[Bt] at c
   | fnc _ _=>cases bs <;> simp[Bt] at c
   | gb _=>cases bs <;> simp[Bt] at c
   | io _ _=>cases bs <;> simp[Bt] at c
   | frh _=>cases bs <;> simp[Bt] at c
def ACd(P:Program)(t:TypeId)(n:Nat):Bool :=
 match P.info? t with
 | some i=>i.size==n
 | none=>false
def JN(P:Program):Nat->List Field->Bool
 | _,[]=>true
 | i,f::fs=>f.name != "_" && f.offset==i&&(match P.underlying f.type with
  | some (.int _)=>JN P (i+1) fs
  | some (.struct a) => !P.stoodInHeld f.type&&NE P 0 a.toList&&ACd P f.type a.size&&JN P (i+a.size) fs
  | _=>false)
def Xp(P:Program):List Field->Nat
 | []=>0
 | f::fs=>(match P.underlying f.type with
  | some (.struct a)=>a.size
  | _=>1)+Xp P fs
def Alh(P:Program)(t:TypeId)(n:Nat):Bool :=
 match P.underlying t with
 | some (.struct fs) => !P.stoodInHeld t && !P.eqGuardType P.depth t&&JN P 0 fs.toList&&Xp P fs.toList==n
 | _=>false
theorem NF:∀ {as c bs:List AV} {r:Bool},Bt (as++c) bs=some r->∃ d e r1 r2,bs=d++e/\C d=C as/\Bt as d=some r1/\Bt c e=some r2/\r=(r1&&r2)
 | [],c,bs,r,h=>⟨[],bs,true,r,rfl,rfl,rfl,h,by simp⟩
 | a::as,c,[],r,h=>by cases a <;> simp[Bt] at h
 | a::as,c,b::bs,r,h=>by
  cases a <;> simp only[HZ,Bt] at h <;> try (cases b <;> simp at h;done)
  cases b <;> simp only[Bt] at h <;> try (cases h;done)
  split at h
  next g=>simp only[S] at h;obtain⟨q,h1,rfl⟩:=h;obtain⟨d,e,r1,r2,rfl,i,j,l,rfl⟩:=NF h1;rename_i k m n f;exact⟨.int n f::d,e,m==f&&r1,r2,rfl,by simp[i],by simp only[Bt,Ae g,j,Am],l,by rw[S']⟩
  ·cases h
theorem iS{P:Program}{Y X:Nat->Prop}{w:World}{xs l:Array Value}(d:Nat):∀ (fs:List Field) (i:Nat) (as bs:List AV) (r:Bool),JN P i fs=true->Bt as bs=some r ->
  C as=Xp P fs->i+C as<=xs.size->i+C bs<=l.size->(∀ (j:Nat) (h:j<C as),∃ v,xs[i+j]? = some v/\Rd Y X w v as[j])->(∀ (j:Nat) (h:j<C bs),∃ v,l[i+j]? = some v/\Rd Y X w v bs[j]) ->
  (L4 (d+2) xs l fs).run P w = .ok r w:=by
 intro fs;induction fs with
 | nil =>
  intro i as bs r _ o hl _ _ _ _;have:as=[]:=Bb hl;subst this;cases bs with
  | nil=>simp only[Bt,Ac] at o;subst o;rfl
  | cons b bs=>simp[Bt] at o
 | cons f fs I =>
  intro i as bs r hf o hl Q E z A;simp only[JN,U,bne_iff_ne,ne_eq,AM] at hf;obtain⟨⟨h1,h2⟩,p⟩:=hf;simp only[Xp] at hl;have J:∀ (u v:Value) (r1 r2:Bool),(part f.type xs f.offset).run P w = .ok u w->(part f.type l f.offset).run P w = .ok v w->(Op.equalIn (d+2) f.type u v).run P w = .ok r1 w->(L4 (d+2) xs l fs).run P w = .ok r2 w ->
    (L4 (d+2) xs l (f::fs)).run P w = .ok (r1&&r2) w:=by
   intro u v r1 r2 R q e s;simp only[L4,h1,ne_eq,not_false_eq_true,if_true,Aj,R,q,e,W];cases r1
   ·rfl
   ·simpa using s
  split at p
  ·rename_i S F;rw[F] at hl;dsimp only at hl;obtain⟨a,as,rfl⟩:∃ a T,as=a::T:=by
    cases as with
    | nil=>simp at hl;omega
    | cons a as=>exact⟨a,as,rfl⟩
   obtain⟨t,G,r1,r2,rfl,q,e,s,rfl⟩:=NF (as:=[a]) o;obtain⟨b,rfl⟩:∃ b,t=[b]:=by
    match t,q with
    | [b],_=>exact⟨b,rfl⟩
   have H:=I (i+1) as G r2 p s (by simp at hl;omega) (by simp at Q;omega) (by simp at E;omega) (fun j g=>by
    have:=z (j+1) (by simp;omega);simpa [DC,KG 1 j] using this) (fun j g=>by
    have:=A (j+1) (by simp;omega);simpa [DC,KG 1 j] using this)
   have x:∀ w,(isAgg f.type).run P w = .ok false w:=fun w=>by simp[isAgg,run_underlying F]
   obtain⟨u,hu,K⟩:=z 0 (by simp);obtain⟨v,L,M⟩:=A 0 (by simp);simp only[Bv,Bk,HZ] at hu K L M;cases a <;> cases b <;> first | (simp[Bt] at e;done) | skip
   simp only[Bt] at e;split at e
   next k m k' V Z=>subst Z;cases K;cases M;simp only[Am,D5,Ac] at e;subst e;exact J _ _ _ _ (by simp only[part,Aj,x,W,AC,if_false,h2,hu,An]) (by simp only[part,Aj,x,W,AC,if_false,h2,L,An]) (run_equalIn_int w (d+1) f.type k S m V F) H
   ·cases e
  ·rename_i c B;rw[B] at hl;dsimp only at hl;simp only[U,Bl] at p;obtain⟨⟨⟨g1,g2⟩,D⟩,g4⟩:=p;have a3:c.size<=C as:=by omega
   have a1:Bt (as.take c.size++as.drop c.size) bs=some r:=by rw[OZ];exact o
   obtain⟨t,G,r1,r2,rfl,q,e,s,rfl⟩:=NF a1;have a2:C t=c.size:=by rw[q,Db];omega
   have x:∀ w,(isAgg f.type).run P w = .ok true w:=fun w=>by simp[isAgg,run_underlying B]
   have N:∀ w,(sizeOf f.type).run P w = .ok c.size w:=fun w=>by
    unfold ACd at D;split at D
    ·rename_i i hi;have:i.size=c.size:=by simpa using D
     simp[sizeOf,typeInfo,program,Cl,hi,this]
    ·cases D
   have H:=I (i+c.size) (as.drop c.size) G r2 g4 s (by rw[C5];omega) (by rw[C5];omega) (by simp at E;omega) (fun j g=>by
    rw[C5] at g;have:=z (c.size+j) (by omega);rw[AJk];simpa [DC] using this) (fun j g=>by
    have:=A (c.size+j) (by simp;omega);obtain⟨v,y,n⟩:=this;refine⟨v,by rw[<- y,DC],?_⟩;rw[Dd (by omega)] at n;simpa [a2] using n)
   have O:P.fieldsOf f.type=c:=by simp[Afg,B]
   refine J (.agg (xs.extract i (i+c.size))) (.agg (l.extract i (i+c.size))) r1 r2 (by simp only[part,Aj,x,W,if_true,N,h2,An]) (by simp only[part,Aj,x,W,if_true,N,h2,An]) ?_ H;rw[run_equalIn_struct w (d+1) f.type _ _ (by rw[O];exact B) g1,O];refine nU (Y:=Y) (X:=X) d c.toList 0 (as.take c.size) t r1 g2 e (by simp;omega) (fun j g => ?_) (fun j g => ?_)
   ·rw[Db] at g;obtain⟨v,y,n⟩:=z j (by omega);refine⟨v,?_,by rw[List.getElem_take];exact n⟩;rw[AH,nV,Ae (by omega)];exact y
   ·obtain⟨v,y,n⟩:=A j (by simp;omega);refine⟨v,?_,by rw[Dj g] at n;exact n⟩;rw[AH,nV,Ae (by simp at E;omega)];exact y
  ·cases p
theorem Ali{P:Program}{Y X:Nat->Prop}{w:World}{t:TypeId}{n:Nat}{u v:Value}{as bs:List AV}{r:Bool}(b:Alh P t n=true)(hu:Rd Y X w u (.agg as))(f:Rd Y X w v (.agg bs))
  (hn:C as=n) (g:Bt as bs=some r) (x y:Operand) :
  ∃ xs a,u = .agg xs/\v = .agg a/\(Alb t u v).run P w = .ok r w/\∀ op,(eqGuard op t x y u v).run P w = .ok () w:=by
 cases hu with
 | agg xs _ hd hs hr =>
  cases f with
  | agg a _ k l h =>
   unfold Alh at b;split at b
   ·rename_i fs d;simp only[U,Bl,AM] at b;obtain⟨⟨⟨h1,h2⟩,i⟩,m⟩:=b;have e:P.fieldsOf t=fs:=by simp[Afg,d]
    refine⟨xs,a,rfl,rfl,?_,fun op=>run_eqGuard_agg w op t x y xs a h2⟩;show (Op.equalIn (9999+1) t (.agg xs) (.agg a)).run P w=_;rw[run_equalIn_struct w 9999 t xs a (by rw[e];exact d) h1,e];refine iS (Y:=Y) (X:=X) 9997 fs.toList 0 as bs r i g (by omega) (by omega) (by omega) (fun j c => ?_) (fun j c => ?_)
    ·exact⟨xs[j]'(by omega),by rw[AH,AE],hr j (by omega) c⟩
    ·exact⟨a[j]'(by omega),by rw[AH,AE],h j (by omega) c⟩
   ·cases b
def MP:Value->AV->Bool
 | .int k n,.int a c=>k==a&&n==c
 | .bool b,.bool b'=>b==b'
 | .string s,.str s'=>decide (s=s')
 | .slice none 0 0,.nil=>true
 | .slice none 0 0,.sl 0 []=>true
 | _,_=>false
theorem We{Y X:Nat->Prop}{w:World}{v:Value}{x:AV}(h:MP v x=true):Rd Y X w v x/\EK x=true:=by
 unfold MP at h;split at h
 ·simp only[U,AM] at h;obtain⟨rfl,rfl⟩:=h;exact⟨.int _ _,rfl⟩
 ·simp only[AM] at h;subst h;exact⟨.bool _,rfl⟩
 ·simp only[DI] at h;subst h;exact⟨.str _,rfl⟩
 ·exact⟨.nil,rfl⟩
 ·exact⟨.nil0,rfl⟩
 ·cases h
def MQ:List Value->List AV->Bool
 | [],[]=>true
 | v::vs,x::xs=>MP v x&&MQ vs xs
 | _,_=>false
theorem Kx{Y X:Nat->Prop}{w:World}:∀ {vs:List Value} {cs:List AV},MQ vs cs=true->Dl Y X w vs.toArray cs
 | [],[],_=>⟨fun x c=>(by cases c),rfl,fun i h1 _=>(by simp at h1)⟩
 | v::vs,x::cs,h=>by
  simp only[MQ,U] at h;obtain⟨h1,h2⟩:=h;obtain⟨hd,hs,hr⟩:=Kx (Y:=Y) (X:=X) (w:=w) h2;obtain⟨d,e⟩:=We (Y:=Y) (X:=X) (w:=w) h1;refine⟨fun y a => ?_,by simp at hs |-;exact hs,fun i f g => ?_⟩
  ·cases a with
   | head=>exact e
   | tail _ a=>exact hd y a
  ·cases i with
   | zero=>simpa using d
   | succ i =>
    have b:=hr i (by simp at f |-;omega) (by simp at g |-;omega);simp only[EI] at b;simpa using b
 | [],_::_,h=>by cases h
 | _::_,[],h=>by cases h
def Bm:Operand->Opd->Bool
 | .tmp t,.t n=>t==n
 | .const v,.c x=>MP v x
 | _,_=>false
def EM:List Operand->List Opd->Bool
 | [],[]=>true
 | x::xs,o::os=>Bm x o&&EM xs os
 | _,_=>false
def NG(P:Program)(t:TypeId)(z:List AV):Bool :=
 match P.info? t with
 | some i=>(match i.zero with | some v=>MQ v.cells.toList z | none=>false)
 | none=>false
def G9(P:Program)(t:TypeId)(n:Nat):Bool :=
 match P.info? t with
 | some i=>i.size==n
 | none=>false
def If(P:Program)(fs:Array Field)(i off n:Nat):Bool :=
 match fs[i]? with
 | some f=>f.offset==off&&G9 P f.type n
 | none=>false
def IL(a:Nat->Nat->Nat->Bool):List (Nat × Operand)->List (Nat × Nat × Opd)->Bool
 | [],[]=>true
 | (i,x)::l,(off,n,o)::m=>a i off n&&Bm x o&&IL a l m
 | _,_=>false
def nW(P:Program)(t:TypeId)(a:List (Nat × Operand))(z:List AV)(ps:List (Nat × Nat × Opd)):Bool :=
 NG P t z &&
 match P.underlying t with
 | some (.struct fs)=>fs.all (fun f=>(P.info? f.type).isSome)&&IL (If P fs) a ps
 | some (.array _ e)=>(P.info? e).isSome&&IL (fun i off n=>off==i*P.cellsOf e&&n==P.cellsOf e) a ps
 | _=>false
def Tg(z:List AV)(zero:List Value):Nat->Bool
 | 0=>z.isEmpty
 | n+1=>MQ zero (z.take (C zero))&&Tg (z.drop (C zero)) zero n
section
variable(P:Program)
def nX(t:TypeId)(len:Nat)(c:List (Nat × Operand))(n:Nat)(z:List AV)(ps:List (Nat × Nat × Opd)):Bool :=
 len==n &&
 match P.underlying t with
 | some (.slice e)=>(match P.info? e with
  | some i=>decide (0<i.size)&&decide (len*i.size<=16777216)&&(match i.zero with | some v=>v.cells.size==i.size&&decide (C z=len*i.size)&&Tg z v.cells.toList len | none=>false) &&
   IL (fun j off m=>off==j*i.size&&m==i.size) c ps
  | none=>false)
 | _=>false
def Th(t:TypeId):Bool:=match P.underlying t with | some (.int _)=>true | _=>false
def O'(t:TypeId):Bool:=match P.underlying t with | some .bool=>true | _=>false
def nY(args:List Operand)(a:List TypeId)(x:Opd):Bool :=
 match args,a with
 | [b],[t]=>Bm b x&&(match P.underlying t with | some (.slice _)=>true | _=>false)
 | _,_=>false
def Ft(t:TypeId)(k:Nat):Bool :=
 match P.underlying t with
 | some (.slice e)=>(match P.info? e with
  | some i=>i.size==k&&decide (0<i.size)&&decide (i.bytes<=1048576)&&(match i.zero with | some v=>v.cells.size==i.size | none=>false)
  | none=>false)
 | _=>false
def Xq(t:TypeId)(z:List AV):Bool :=
 match P.underlying t with
 | some (.slice e)=>NG P e z
 | _=>false
def Fb(t:TypeId):Bool:=match P.underlying t with | some (.slice _)=>true | _=>false
def Q7(t:TypeId)(B:Nat):Bool :=
 match P.underlying t with
 | some (.slice e)=>(match P.info? e with
  | some i=>decide (B*i.bytes<=140737488355328)&&decide (B<=140737488355328)
  | none=>false)
 | _=>false
def Ye(args:List Operand)(a:List TypeId)(x y:Opd)(k B:Nat):Bool :=
 match args,a with
 | [b,d],[t,t']=>Bm b x&&Bm d y&&Ft P t k&&Fb P t'&&Q7 P t B
 | _,_=>false
end
def RK:Option Operand->Option Opd->Bool
 | none,none=>true
 | some x,some o=>Bm x o
 | _,_=>false
def IM(P:Program)(f:Nat):Bool:=match P.funcs[f]? with | some fn=>fn.body.isSome && !(fn.name == "runtime.NumGoroutine") | none=>false
def Afh(P:Program)(t:TypeId)(b:List (Nat × Operand))(a:Opd)(x:Nat):Bool :=
 match P.underlying t,b with
 | some (.struct fs),[(0,a'),(1,c)]=>Bm a' a&&Bm c (.t x)&&fs.size==2&&If P fs 0 0 1&&If P fs 1 1 1&&NG P t [.bool false,.sl 0 []]&&fs.all (fun f=>(P.info? f.type).isSome)
 | _,_=>false
def wK(sk:Bool):TypeDesc->Bool
 | .int _ => !sk
 | .string=>sk
 | _=>false
def nZ(P:Program)(sk:Bool)(t:TypeId):Bool :=
 match P.underlying t with
 | some (.map a e)=>(match P.underlying a with | some d=>wK sk d | none=>false)&&(match P.info? e with | some { zero:=some (.bool false), .. }=>true | _=>false)
 | _=>false
def Yf(op:Op)(x:Nat):Bool:=match op with | .move y=>Bm y (.t x) | .assign y=>Bm y (.t x) | _=>false
def Cq(P:Program)(op:Op)(k:K):Bool :=
 match k with
 | .mov y=>(match op with | .move x=>Bm x y | .assign x=>Bm x y | _=>false)
 | .pick c a b=>(match op with | .pick w a' b'=>Bm w c&&Bm a' a&&Bm b' b | _=>false)
 | .bin o x y=>(match op with | .binOp o' _ d p _=>o'==o&&Bm d x&&Bm p y | _=>false)
 | .eqb neg x y=>(match op with | .binOp o' t d p _=>o'==(if neg then AJe else AJf)&&O' P t&&Bm d x&&Bm p y | _=>false)
 | .eqv neg n x y=>(match op with | .binOp o' t d p _=>o'==(if neg then AJe else AJf)&&Alh P t n&&Bm d x&&Bm p y | _=>false)
 | .un o x=>(match op with | .unOp o' _ d=>o'==o&&Bm d x | _=>false)
 | .cv k x=>(match op with | .convert A dst d=>Th P A&&(match P.underlying dst with | some (.int r)=>r==k | _=>false)&&Bm d x | _=>false)
 | .new z _=>(match op with | .alloc t=>NG P t z | _=>false)
 | .box x _=>(match op with | .box _ d=>Bm d x | _=>false)
 | .bld z ps=>(match op with | .build t h=>nW P t h.toList z ps | _=>false)
 | .bls n z ps=>(match op with | .buildSlice t len h=>nX P t len h.toList n z ps | _=>false)
 | .adr x _ off=>(match op with | .fieldAddr t d f=>Bm d (.t x)&&(match P.underlying t with | some (.struct fs)=>(match fs[f]? with | some f=>f.offset==off && !(G9 P f.type 0)&&(P.info? f.type).isSome | none=>false) | _=>false) | _=>false)
 | .ld x _ n one=>(match op with | .load t d=>Bm d (.t x)&&G7 P t n one | _=>false)
 | .st x _ n v=>(match op with | .store t d m=>Bm d (.t x)&&G9 P t n&&Bm m v | _=>false)
 | .ixa x i k=>(match op with | .indexAddr t d s=>Bm d (.t x)&&Bm s i&&(match P.underlying t with | some (.slice e)=>G9 P e k | _=>false) | _=>false)
 | .six x i=>(match op with | .index t d s=>Bm d x&&Bm s i&&(match P.underlying t with | some .string=>true | _=>false) | _=>false)
 | .ext x i=>(match op with | .extract d s=>Bm d x&&s==i | _=>false)
 | .len x=>(match op with | .call { callee := .builtin .len,args:=args,argTypes:=j }=>nY P args.toList j.toList x | _=>false)
 | .mx xs=>(match op with | .call { callee := .builtin .max,args:=args,argTypes:=_ }=>EM args.toList xs | _=>false)
 | .mn xs=>(match op with | .call { callee := .builtin .min,args:=args,argTypes:=_ }=>EM args.toList xs | _=>false)
 | .call f xs=>(match op with | .call { callee := .value (.func g),args:=args,argTypes:=_ }=>g==f&&EM args.toList xs&&(match P.funcs[f]? with | some fn=>fn.body.isSome && !(fn.name == "runtime.NumGoroutine") | none=>false) | _=>false)
 | .clo f xs=>(match op with | .call { callee := .value (.func g),args:=args,argTypes:=_ }=>g==f&&EM args.toList xs&&(match P.funcs[f]? with | some fn=>fn.body.isSome && !(fn.name == "runtime.NumGoroutine") | none=>false) | _=>false)
 | .nlo _=>(match op with | .move (.const (.slice none 0 0))=>true | .assign (.const (.slice none 0 0))=>true | _=>false)
 | .cpy x=>Yf op x
 | .cpo x=>Yf op x
 | .tra x=>Yf op x
 | .frz x=>Yf op x
 | .mks z n=>(match op with | .makeSlice t l c=>Bm l n&&Bm c n&&Ft P t (C z)&&Xq P t z | _=>false)
 | .blo k n z ps=>(match op with | .buildSlice t len h=>nX P t len h.toList n z ps&&Ft P t k | _=>false)
 | .apd _ x y k B=>(match op with | .call { callee := .builtin .append,args:=args,argTypes:=j }=>Ye P args.toList j.toList x y k B | _=>false)
 | .sli x lo hi mx k=>(match op with | .slice t d D E F=>Bm d x&&RK D lo&&RK E hi&&RK F mx&&Ft P t k | _=>false)
 | .ixo x _ i k=>(match op with | .indexAddr t d s=>Bm d (.t x)&&Bm s i&&Ft P t k | _=>false)
 | .lno x _=>(match op with | .call { callee := .builtin .len,args:=args,argTypes:=j }=>nY P args.toList j.toList (.t x) | _=>false)
 | .bdo a x _=>(match op with | .build t h=>Afh P t h.toList a x | _=>false)
 | .stl x v=>(match op with | .store t d m=>Bm d (.t x)&&G9 P t 2&&Bm m (.t v) | _=>false)
 | .npt=>(match op with | .assign (.const (.pointer none))=>true | .move (.const (.pointer none))=>true | _=>false)
 | .mvp x _=>(match op with | .move y=>Bm y (.t x) | .nilCheck y=>Bm y (.t x) | .assign y=>Bm y (.t x) | _=>false)
 | .mvf x _ _ _=>(match op with | .move y=>Bm y (.t x) | _=>false)
 | .ldh x _ _ _=>(match op with | .load t d=>Bm d (.t x)&&G7 P t 1 true | _=>false)
 | .sth x _ v=>(match op with | .store t d m=>Bm d (.t x)&&G9 P t 1&&Bm m (.t v) | _=>false)
 | .sts x _ v=>(match op with | .store t d m=>Bm d (.t x)&&G9 P t 1&&Bm m v | _=>false)
 | .aph x y k B _ _=>(match op with | .call { callee := .builtin .append,args:=args,argTypes:=j }=>Ye P args.toList j.toList (.t x) y k B | _=>false)
 | .lda x n _=>(match op with | .load t d=>Bm d (.t x)&&G7 P t n false | _=>false)
 | .ldz x n _ _=>(match op with | .load t d=>Bm d (.t x)&&G7 P t n false | _=>false)
 | .blh z qs=>(match op with | .build t h=>nW P t h.toList z (qs.map fun q=>(q.1,1,.t q.2))&&(match P.underlying t with | some (.struct _)=>true | _=>false) | _=>false)
 | .sta x v n _=>(match op with | .store t d m=>Bm d (.t x)&&G9 P t n&&Bm m (.t v) | _=>false)
 | .bwh f xs _=>(match op with | .call { callee := .value (.func g),args:=args,argTypes:=_ }=>g==f&&EM args.toList xs&&IM P f | _=>false)
 | .cab f x _ xs=>(match op with | .call { callee := .value (.func g),args:=args,argTypes:=_ }=>g==f&&EM args.toList (.t x::xs)&&IM P f | _=>false)
 | .mkw z n _=>(match op with | .makeSlice t l c=>Bm l n&&Bm c n&&Ft P t (C z)&&Xq P t z | _=>false)
 | .clw f xs _ _=>(match op with | .call { callee := .value (.func g),args:=args,argTypes:=_ }=>g==f&&EM args.toList xs&&IM P f | _=>false)
 | .sbn o x y=>(match op with | .binOp o' t d p _=>o'==o&&(match P.underlying t with | some .string=>true | _=>false)&&Bm d x&&Bm p y | _=>false)
 | .sln x=>(match op with | .call { callee := .builtin .len,args:=args,argTypes:=j }=>(match args.toList,j.toList with | [d],[t]=>Bm d x&&(match P.underlying t with | some .string=>true | _=>false) | _,_=>false) | _=>false)
 | .apn y k B _=>(match op with | .call { callee := .builtin .append,args:=args,argTypes:=j }=>Ye P args.toList j.toList (.c .nil) y k B | _=>false)
 | .mkm=>(match op with | .makeMap _ none=>true | _=>false)
 | .mlk sk x _ k=>(match op with | .lookup t d r false=>Bm d (.t x)&&Bm r k&&nZ P sk t | _=>false)
 | .mup sk x _ k=>(match op with | .mapUpdate t d r (.const (.bool true))=>Bm d (.t x)&&Bm r k&&nZ P sk t | _=>false)
 | .blm u k=>(match op with | .build t h=>(match P.underlying t with | some (.struct fs)=>fs.all (fun f=>(P.info? f.type).isSome)&&IL (If P fs) h.toList [(0,1,.t u)] | _=>false)&&(match P.info? t with | some { zero:=some (.agg z), .. }=>(match z.toList with | [.map none,.int r 0]=>r==k | _=>false) | _=>false) | _=>false)
 | .bom x _=>(match op with | .box _ d=>Bm d (.t x) | _=>false)
 | .lok f x _ _ xs=>(match op with | .call { callee := .value (.func g),args:=args,argTypes:=_ }=>g==f&&EM args.toList (.t x::xs)&&IM P f | _=>false)
 | .cpf f xs _=>(match op with | .call { callee := .value (.func g),args:=args,argTypes:=_ }=>g==f&&EM args.toList xs&&IM P f | _=>false)
 | .ldf x _ _ _ _ _ _ _=>(match op with | .load t d=>Bm d (.t x)&&G7 P t 1 true | _=>false)
 | .bad=>true
section
variable {P:Program} {Y X0:Nat->Prop} {roots:List (Nat × Nat)} {w0:Base} {w:World} {s:H} {a:Act} {Q:Exit->Act->World->Prop}
theorem BG(h:Rel Y X0 roots w0 s a w){x:Operand}{o:Opd}{y:AV}(d:Bm x o=true)(ho:o.av s=some y):Rd Y (fun b=>X0 b\/XS s a.tmps b) w (a.eval x) y:=by
 cases o with
 | t n =>
  cases x with
  | tmp m =>
   simp only[Bm,AM] at d;subst d;simp only[Opd.av,Opd.reg] at ho;have h0:=h.reg m;cases hr:Ag s m with
   | val z =>
    rw[hr] at ho h0;cases ho;exact h0
   | box _=>rw[hr] at ho;cases ho
   | ptr _ _=>rw[hr] at ho;cases ho
   | mem _=>rw[hr] at ho;cases ho
   | own _ _ _=>rw[hr] at ho;cases ho
   | agn _ _ _ _=>rw[hr] at ho;cases ho
   | bxl _=>rw[hr] at ho;cases ho
   | dup _=>rw[hr] at ho;cases ho
   | sub _ _ _ _=>rw[hr] at ho;cases ho
   | bxh _ _=>rw[hr] at ho;cases ho
   | agh _ _=>rw[hr] at ho;cases ho
   | mp _=>rw[hr] at ho;cases ho
   | agf _ _=>rw[hr] at ho;cases ho
   | bxf _ _=>rw[hr] at ho;cases ho
   | bxg _=>rw[hr] at ho;cases ho
   | dead=>rw[hr] at ho;cases ho
  | const v=>cases d
  | global g=>cases d
  | func f=>cases d
 | c z =>
  cases x with
  | const v =>
   simp only[Opd.av,Opd.reg,Ac] at ho;subst ho;exact (We d).1
  | tmp m=>cases d
  | global g=>cases d
  | func f=>cases d
theorem Hi(h:Rel Y X0 roots w0 s a w):∀ {xs:List Operand} {os:List Opd} {e:List AV},EM xs os=true->avs s os=some e ->
  C xs=C e/\∀ (i:Nat) (h1:i<C xs) (h2:i<C e),Rd Y (fun b=>X0 b\/XS s a.tmps b) w (a.eval xs[i]) e[i]
 | [],[],e,_,c=>by
  simp only[avs,Ac] at c;subst c;exact⟨rfl,fun i h1 _=>(by simp at h1)⟩
 | x::xs,o::os,e,d,c=>by
  simp only[EM,U] at d;simp only[avs] at c;cases h1:o.av s with
  | none=>rw[h1] at c;cases c
  | some y =>
   rw[h1] at c;cases h2:avs s os with
   | none=>rw[h2] at c;cases c
   | some l =>
    rw[h2] at c;cases c;obtain⟨f,g⟩:=Hi h d.2 h2;refine⟨by simp[f],fun i j k => ?_⟩;cases i with
    | zero=>exact BG h d.1 h1
    | succ i=>exact g i (by simpa using j) (by simpa using k)
 | [],_::_,_,d,_=>by cases d
 | _::_,[],_,d,_=>by cases d
theorem Rel.lowYw(h:Rel Y X0 roots w0 s a w):∀ b,Y b->b<w.heap.size:=fun b hb=>Bf (Hd fun e=>h.lowY b hb (.inl e)) h.below.size
theorem Rel.lowX(h:Rel Y X0 roots w0 s a w):∀ b,(X0 b\/XS s a.tmps b)->b<w.heap.size:=by
 rintro b (hb | ⟨t,h1,h2⟩)
 ·exact Bf (Hd fun e=>h.low b hb (.inl e)) h.below.size
 ·exact (h.exclLow h1 h2).2
def D_(s:H)(roots:List (Nat × Nat))(dst:Option Nat):Prop:=∀ d,dst=some d->∀ t,(t,d)∈roots->BF (Ag s t)=false
theorem Rel.put(h:Rel Y X0 roots w0 s a w){dst:Option Nat}{v:Value}{x:AV}(hf:D_ s roots dst)(hr:Rd Y (fun b=>X0 b\/XS s a.tmps b) w v x):Rel Y X0 roots w0 (BD s dst (.val x)) (a.put dst v) w:=by
 cases dst with
 | none=>exact h
 | some d =>
  refine BB (ks:=[]) h (DZ _ _) (fun t c => .inr (hf d rfl t c)) (fun e=>(by cases e)) (fun X _ h2 => ?_);exact hr.mono fun b hb => .inl (h2 rfl b hb)
theorem LC(h:Rel Y X0 roots w0 s a w){dst:Option Nat}{b off:Nat}{cs:List AV}(hf:D_ s roots dst)(hX:cs ≠ []->¬ (X0 b\/XS s a.tmps b))(hr:Gq Y (fun b=>X0 b\/XS s a.tmps b) w b off cs) :
  Rel Y X0 roots w0 (BD s dst (.mem cs)) (a.put dst (.pointer (some ⟨b,off,none⟩))) w:=by
 cases dst with
 | none=>exact h
 | some d =>
  refine BB (ks:=[]) h (DZ _ _) (fun t c => .inr (hf d rfl t c)) (fun e=>(by cases e)) (fun X _ h2 => ?_);exact⟨b,off,rfl,fun f g=>hX f (h2 rfl b g),hr.mono fun b hb => .inl (h2 rfl b hb)⟩
theorem My(h:Rel Y X0 roots w0 s a w){dst:Option Nat}{d off:Nat}{p:Addr}(hf:D_ s roots dst)(b:∀ t,dst=some t->(t,d)∈roots/\t ≠ d)(hd:C6 (a.tmps.getD d A9)=some p)(hs:p.spot=none) :
  Rel Y X0 roots w0 (BD s dst (.ptr d off)) (a.put dst (.pointer (some ⟨p.block,p.off+off,none⟩))) w:=by
 cases dst with
 | none=>exact h
 | some t =>
  refine BB (ks:=[]) h (DZ _ _) (fun u hu => .inr (hf t rfl u hu)) (fun c=>(by cases c)) (fun X _ _ => ?_);refine⟨(b t rfl).1,p,?_,hs,rfl⟩;rw[FP,Al]
  ·exact hd
  ·rintro⟨rfl,_⟩;exact (b t rfl).2 rfl
theorem Rel.putDup(h:Rel Y X0 roots w0 s a w){dst:Option Nat}{d:Nat}(hf:D_ s roots dst)(b:∀ t,dst=some t->(t,d)∈roots/\t ≠ d) :
  Rel Y X0 roots w0 (BD s dst (.dup d)) (a.put dst (a.tmps.getD d A9)) w:=by
 cases dst with
 | none=>exact h
 | some t =>
  refine BB (ks:=[]) h (DZ _ _) (fun u hu => .inr (hf t rfl u hu)) (fun c=>(by cases c)) (fun X _ _ => ?_);refine⟨(b t rfl).1,?_⟩;rw[FP,Al];rintro⟨rfl,_⟩;exact (b t rfl).2 rfl
theorem AI{o:Oper}{v:Value}{K:Act->World->Prop}(b:(execOp a.eval o).run P w = .ok (.value v) w)(h:K (a.put o.dst v) w):o.wp P a w K Q:=by
 simp only[Cn,b,BN];exact h
def Eh(Y X B:Nat->Prop)(w':World)(v:Value):AV->Prop
 | .fresh k n cs=>EG Y (fun c=>X c\/Ax v=some c) B w' v k n cs
 | .frs b k n cs=>Kb Y (fun c=>X c\/Ax v=some c) B w' v b k n cs
 | .gb cs=>∃ b,v = .pointer (some ⟨b,0,none⟩)/\B b/\Ef Y (fun c=>X c\/Ax v=some c) w' b 0 cs
 | .io _ y=>Rd Y X w' v y
 | .frh cs=>∃ vs,v = .agg vs/\vs.size=C cs/\cs.all XV=true/\Tf Y X B [] #[] w' 0 vs cs []
 | x=>Rd Y X w' v x
section
variable{Y X:Nat->Prop}{B:Nat->Prop}{w':World}{v:Value}{x:AV}
theorem Eh.of_rd(h:Rd Y X w' v x):Eh Y X B w' v x:=by
 cases h <;> simp only[Eh] <;> first | exact .int _ _ | exact .bool _ | exact .str _ | exact .undef | exact .nil | exact .nil0 | exact .e0 _ _ | (apply Rd.agg <;> assumption) | (apply Rd.tup <;> assumption) | (apply Rd.sl <;> assumption) | (apply Rd.pt <;> assumption) | (apply Rd.fnc <;> assumption) | assumption
theorem Eh.thawed(h:Eh Y X B w' v x)(hX:∀ b,X b->¬ B b)(hY:∀ b,Y b->¬ B b):Rd Y X w' v (O5 x):=by
 cases x
 case fresh k n cs =>
  simp only[Eh] at h;exact EG.frozen h (fun b hb => .inl (.inl hb)) (fun b hb d=>hX b d (EG.block h hb).1) hY
 case frs g k n cs =>
  simp only[Eh] at h;obtain⟨u,rfl,h⟩:=h;have hu:Rd Y X w' u (.sl n cs):=by
   exact EG.frozen h (fun b hb => .inl (.inl hb)) (fun b hb d=>hX b d (EG.block h hb).1) hY
  cases g with
  | st b=>exact Afe hu
  | tp b =>
   refine Rd.tup #[u,.bool b] [.sl n cs,.bool b] rfl fun i h1 h2 => ?_;match i,h2 with
   | 0,_=>exact hu
   | 1,_=>exact Rd.bool b
 case gb cs =>
  simp only[Eh] at h;obtain⟨b,rfl,j,h⟩:=h;have l:=h.mono (X':=X) fun c hc => .inl (.inl hc);exact Gq.pt (fun _ e=>hX b e j) l.mem
 case io cs y=>exact .io _ _ _ h
 case frh cs =>
  simp only[Eh] at h;obtain⟨vs,rfl,m,o,h⟩:=h;have f:∀ (i:Nat) (h2:i<C cs),∃ u,vs[i]? = some u/\Rd Y X w' u (G' cs[i])/\EK (G' cs[i])=true:=fun i h2=>by
   obtain⟨u,a,_,p⟩:=h.2.2.1 i h2;exact⟨u,a,p.frz hY (AKf.1 o _ (AF h2))⟩
  refine Rd.agg vs _ (fun x e => ?_) (by simp[m]) (fun i h1 h2 => ?_)
  ·obtain⟨i,hi,rfl⟩:=ED e;rw[Gk];exact (f i (by simpa using hi)).choose_spec.2.2
  ·have q:i<C cs:=by simpa using h2
   obtain⟨u,a,r,_⟩:=f i q;rw[Gk];rw[AE h1] at a;cases a;exact r
 all_goals exact h
end
theorem Eh.lower{Y X:Nat->Prop}{B f:Nat->Prop}{w':World}{v:Value}{x:AV}(h:Eh Y X B w' v x)(a:∀ b,B b->f b):Eh Y X f w' v x:=by
 cases x
 case fresh k n cs=>exact EG.lower h a
 case frs r k n cs=>exact Kb.lower h a
 case gb cs=>obtain⟨b,c,d,e⟩:=h;exact⟨b,c,a b d,e⟩
 case frh cs=>obtain⟨vs,c,d,e,g,j,l,m⟩:=h;exact⟨vs,c,d,e,g,j,fun i hi=>let ⟨u,o,p,q⟩:=l i hi; ⟨u,o,p,q.lower a⟩,m⟩
 all_goals exact h
def oA(Y X O:Nat->Prop)(w:World)(v:Value):AV->Prop
 | .fresh k n cs=>EG Y (fun c=>X c\/O c) O w v k n cs
 | .gb cs=>∃ b,v = .pointer (some ⟨b,0,none⟩)/\O b/\Ef Y (fun c=>X c\/O c) w b 0 cs
 | x=>Rd Y (fun c=>X c\/O c) w v x
def MR:AV->Bool
 | .fresh _ _ _=>true
 | .gb _=>true
 | _=>false
def Ei(args:List AV)(vs:Array Value)(b:Nat):Prop:=(∃ x l,args=x::l/\MR x=true)/\Ax (vs.getD 0 A9)=some b
def Ti(Y X:Nat->Prop)(args:List AV)(vs:Array Value)(w':World)(v:Value)(x:AV):Prop :=
 ∀ a l cs y,args = .gb a::l->x = .io cs y->∃ b,vs.getD 0 A9 = .pointer (some ⟨b,0,none⟩)/\Ef Y (fun c=>X c\/c=b) w' b 0 cs/\Rd Y (fun c=>X c\/c=b) w' v y
def GA(P:Program)(F:Bh):Prop :=
 ∀ (f:Nat) (args:List AV) (x:AV),F f args=some x->∀ (Y X:Nat->Prop) (w:World) (vs:Array Value),(∀ b,X b->b<w.heap.size/\¬ Ei args vs b)->(∀ b,Y b->b<w.heap.size/\¬ Ei args vs b)->vs.size=C args ->
  (∀ (i:Nat) (h1:i<vs.size) (h2:i<C args),oA Y X (Ei args vs) w vs[i] args[i])->(∀ (i:Nat) (h:i<C args),MR args[i]=true->i=0) ->
  Calls P f vs w fun e w'=>∃ v,e = .returned v/\Grown ⟨w,Ei args vs⟩ w'/\Eh Y X (Base.mine ⟨w,Ei args vs⟩) w' v x/\Ti Y X args vs w' v x
def lA(n b:Nat):Prop:=n<=b
theorem GA.plain{F:Bh}(h:GA P F)(f:Nat)(args:List AV)(x:AV)(j:F f args=some x)(Y X:Nat->Prop)(w:World)(vs:Array Value)(hX:∀ b,X b->b<w.heap.size)(hY:∀ b,Y b->b<w.heap.size)(hs:vs.size=C args)
  (hr:∀ (i:Nat) (h1:i<vs.size) (h2:i<C args),Rd Y X w vs[i] args[i]) :
  Calls P f vs w fun e w'=>∃ v,e = .returned v/\Below w.heap.size w w'/\Eh Y X (lA w.heap.size) w' v x:=by
 have g:∀ (i:Nat) (h2:i<C args),MR args[i]=false:=by
  intro i h2;have h1:=hr i (by omega) h2;generalize args[i]=y at h1 |-;generalize vs[i]'(by omega)=u at h1;cases h1 <;> rfl
 have a:∀ b,¬ Ei args vs b:=by
  rintro b ⟨⟨z,l,rfl,k⟩,_⟩;have:=g 0 (by simp);simp only[Bk] at this;rw[k] at this;cases this
 have m:Ei args vs=fun _=>False:=funext fun b=>eq_false (a b);refine (h f args x j Y X w vs (fun b hb=>⟨hX b hb,a b⟩) (fun b hb=>⟨hY b hb,a b⟩) hs (fun i h1 h2 => ?_) (fun i h2 d => ?_)).mono ?_
 ·have h0:=hr i h1 h2;have e:=g i h2;rw[m];generalize args[i]=y at h0 e |-;have d:Rd Y (fun c=>X c\/False) w vs[i] y:=h0.mono fun b hb => .inl (hb.elim id Avr);cases y <;> first | exact d | cases e
 ·rw[g i h2] at d;cases d
 ·rintro e w' ⟨v,n,o,p,_⟩;exact⟨v,n,o.below a,p.lower fun b hb=>hb.elim id fun hb=>(a b hb).elim⟩
end
section
variable {P:Program} {Y X0:Nat->Prop} {roots:List (Nat × Nat)} {w0:Base} {w:World} {s:H} {a:Act} {Q:Exit->Act->World->Prop}
section
variable(op:BinOp)(t:TypeId)(x y:Operand)
theorem MS(k b:IntKind)(m a:Int):(eqGuard op t x y (.int k m) (.int b a)).run P w = .ok () w:=by
 cases op <;> rfl
theorem IN(m a:Bool):(eqGuard op t x y (.bool m) (.bool a)).run P w = .ok () w:=by
 cases op <;> rfl
end
theorem wL{op:BinOp}{t:TypeId}{k a:IntKind}{m b:Int}{z:AV}{Y X:Nat->Prop}(h:KN op (.int k m) (.int a b)=some z) :
  ∃ v,(binOp op t (.int k m) (.int a b)).run P w = .ok v w/\Rd Y X w v z:=by
 simp only[KN] at h;split at h
 ·rename_i hs;unfold Xo at h;split at h
  ·cases h
  ·rename_i hn;cases op <;> simp only[H',AC] at hs <;> simp only[Ac] at h <;> subst h
   ·exact⟨_,by simp[binOp,Op.shift,hn],.int _ _⟩
   ·exact⟨_,by simp[binOp,Op.shift,hn],.int _ _⟩
 ·rename_i hs;split at h
  ·rename_i c;subst c;cases op <;> simp only[H',not_true_eq_false] at hs <;> simp only[XR,Alf,Avu,Am,L7,Ac] at h
   case quo =>
    split at h
    ·cases h
    next h0=>cases h;exact⟨_,by simp[binOp,Op.intDiv,h0],.int _ _⟩
   case rem =>
    split at h
    ·cases h
    next h0=>cases h;exact⟨_,by simp[binOp,Op.intDiv,h0],.int _ _⟩
   case andNot=>cases h
   case add=>subst h;exact⟨_,by simp[binOp,WR],.int _ _⟩
   case sub=>subst h;exact⟨_,by simp[binOp,WR],.int _ _⟩
   case mul=>subst h;exact⟨_,by simp[binOp,WR],.int _ _⟩
   case and=>subst h;exact⟨_,by simp only[binOp,Apr,ne_eq,not_true_eq_false,if_false];rfl,.int _ _⟩
   case or=>subst h;exact⟨_,by simp only[binOp,Apr,ne_eq,not_true_eq_false,if_false];rfl,.int _ _⟩
   case xor=>subst h;exact⟨_,by simp only[binOp,Apr,ne_eq,not_true_eq_false,if_false];rfl,.int _ _⟩
   case eql=>subst h;exact⟨_,by simp only[binOp,O_,ne_eq,not_true_eq_false,if_false];rfl,.bool _⟩
   case neq=>subst h;exact⟨_,by simp only[binOp,O_,ne_eq,not_true_eq_false,if_false];rfl,.bool _⟩
   case lss=>subst h;exact⟨_,by simp only[binOp,O_,ne_eq,not_true_eq_false,if_false];rfl,.bool _⟩
   case leq=>subst h;exact⟨_,by simp only[binOp,O_,ne_eq,not_true_eq_false,if_false];rfl,.bool _⟩
   case gtr=>subst h;exact⟨_,by simp only[binOp,O_,ne_eq,not_true_eq_false,if_false];rfl,.bool _⟩
   case geq=>subst h;exact⟨_,by simp only[binOp,O_,ne_eq,not_true_eq_false,if_false];rfl,.bool _⟩
  ·cases h
theorem Alj{op:UnOp}{u:Value}{x z:AV}{Y X:Nat->Prop}(hu:Rd Y X w u x)(h:unA op x=some z):∃ v,(A8t op u).run P w = .ok v w/\Rd Y X w v z:=by
 unfold unA at h;split at h
 ·cases hu;simp only[Ac] at h;subst h;exact⟨_,by simp[A8t,WR],.int _ _⟩
 ·cases hu;simp only[Ac] at h;subst h;exact⟨_,by simp[A8t],.bool _⟩
 ·cases h
theorem Aps(k:IntKind)(x y:Int):(Awb (.int k x) (.int k y)).run P w = .ok (.int k (if y>x then y else x)) w:=rfl
theorem Apu(k:IntKind)(x y:Int):(Awc (.int k x) (.int k y)).run P w = .ok (.int k (if y<x then y else x)) w:=rfl
theorem Yg{Y X:Nat->Prop}{k:IntKind}:∀ {vs:List Value} {l:List AV} {m r:Int},C vs=C l->(∀ (i:Nat) (h1:i<C vs) (h2:i<C l),Rd Y X w vs[i] l[i])->kM k m l=some r ->
  (AFs Awb (.int k m) vs:Sem Value).run P w = .ok (.int k r) w
 | [],[],m,r,_,_,h=>by simp only[kM,Ac] at h;subst h;rfl
 | v::vs,x::l,m,r,hl,hr,h=>by
  have h0:=hr 0 (by simp) (by simp);simp only[Bk] at h0;cases x <;> simp only[kM] at h <;> try cases h
  rename_i c n;split at h
  next a=>subst a;cases h0;have b:=Yg (vs:=vs) (l:=l) (by simpa using hl) (fun i h1 h2=>hr (i+1) (by simp;omega) (by simp;omega)) h;simp only[Avk,Aj,Aps,W];exact b
  ·cases h
 | [],_::_,_,_,hl,_,_=>by simp at hl
 | _::_,[],_,_,hl,_,_=>by simp at hl
theorem Yh{Y X:Nat->Prop}{k:IntKind}:∀ {vs:List Value} {l:List AV} {m r:Int},C vs=C l->(∀ (i:Nat) (h1:i<C vs) (h2:i<C l),Rd Y X w vs[i] l[i])->kN k m l=some r ->
  (AFs Awc (.int k m) vs:Sem Value).run P w = .ok (.int k r) w
 | [],[],m,r,_,_,h=>by simp only[kN,Ac] at h;subst h;rfl
 | v::vs,x::l,m,r,hl,hr,h=>by
  have h0:=hr 0 (by simp) (by simp);simp only[Bk] at h0;cases x <;> simp only[kN] at h <;> try cases h
  rename_i c n;split at h
  next a=>subst a;cases h0;have b:=Yh (vs:=vs) (l:=l) (by simpa using hl) (fun i h1 h2=>hr (i+1) (by simp;omega) (by simp;omega)) h;simp only[Avk,Aj,Apu,W];exact b
  ·cases h
 | [],_::_,_,_,hl,_,_=>by simp at hl
 | _::_,[],_,_,hl,_,_=>by simp at hl
theorem Pa(h:Rel Y X0 roots w0 s a w){dst:Option Nat}{cells:Array Value}{cs:List AV}{T:TypeId}{ks:List Nat}(c:∀ d,dst=some d->∀ t,(t,d)∈roots->t∈ks)
  (e:dst.isSome=true) (hc:Dl Y (fun b=>X0 b\/XS s a.tmps b) w cells cs) :
  Rel Y X0 roots w0 (BD (A5 s (ks.map fun u=>(u,Reg.dead))) dst (.box cs)) (a.put dst (.pointer (some ⟨w.heap.size,0,none⟩))) (w.alloc (.cells cells T)):=by
 cases dst with
 | none=>cases e
 | some d =>
  refine BB h ((DZ _ _).alloc (Ay _) _) (fun t f => .inl (c d rfl t f)) (fun _ b hb=>by simp only[Ax,C6,Am,Ac] at hb;omega) (fun X h1 _ => ?_);have g:=(hc.mono (X':=X) (fun b hb=>(h1 b hb).imp id N8)).world (w':=w.alloc (.cells cells T)) (fun b _ hb=>FM _ _ _ hb);refine⟨w.heap.size,rfl,.inl h.below.size,hc.1,cells,T,by show (w.heap.push _)[w.heap.size]? = _;simp,by rw[hc.2.1];omega,fun i hi => ?_⟩;have hs:=hc.2.1;refine⟨cells[i]'(by omega),by rw[AH,AE],g.2.2 i (by omega) hi⟩
theorem Ky{t:TypeId}{z:List AV}(h:NG P t z=true):∃ v,(∀ w,(zeroValue t).run P w = .ok v w)/\∀ (Y X:Nat->Prop) (w:World),Dl Y X w v.cells z:=by
 unfold NG at h;split at h
 ·rename_i i hi;split at h
  next v a=>refine⟨v,fun w=>by simp[zeroValue,typeInfo,program,Cl,hi,a],fun Y X w => ?_⟩;have:=Kx (Y:=Y) (X:=X) (w:=w) h;simpa using this
  ·cases h
 ·cases h
theorem FV{t:TypeId}{n:Nat}(h:G9 P t n=true):∀ w,(sizeOf t).run P w = .ok n w:=by
 unfold G9 at h;split at h
 next i hi=>simp only[AM] at h;intro w;simp[sizeOf,typeInfo,program,Cl,hi,h]
 ·cases h
theorem Pb(h:Rel Y X0 roots w0 s a w){place:Nat->Option (Nat × Nat)}{pl:Nat->Nat->Nat->Bool}(j:∀ i off n,pl i off n=true->place i=some (off,n)) :
  ∀ {f:List (Nat × Operand)} {ps:List (Nat × Nat × Opd)} {cells:Array Value} {cs d:List AV},IL pl f ps=true->Dl Y (fun b=>X0 b\/XS s a.tmps b) w cells cs->GW s cs ps=some d ->
   ∃ e,DH place cells (f.map fun p=>(p.1,a.eval p.2))=some e/\Dl Y (fun b=>X0 b\/XS s a.tmps b) w e d
 | [],[],cells,cs,d,_,hc,hf=>by
  simp only[GW,Ac] at hf;subst hf;exact⟨cells,rfl,hc⟩
 | (i,x)::f,(off,n,o)::ps,cells,cs,d,c,hc,hf=>by
  simp only[IL,U] at c;obtain⟨⟨h1,h2⟩,l⟩:=c;simp only[GW] at hf;cases ho:o.av s with
  | none=>rw[ho] at hf;cases hf
  | some y =>
   rw[ho] at hf;dsimp only at hf;cases g:H2 y n with
   | none=>rw[g] at hf;cases hf
   | some m =>
    rw[g] at hf;dsimp only at hf;cases hl:Cg cs off m with
    | none=>rw[hl] at hf;cases hf
    | some u =>
     rw[hl] at hf;dsimp only at hf;obtain⟨hn,k⟩:=ND (BG h h2 ho) g;obtain⟨e,q,r⟩:=Pb h j l (Aff hc k hl) hf;refine⟨e,?_,r⟩;simp only[Bg,DH,j i off n h1];have v:=(MN hl).1;have z:=hc.2.1;have A:=k.2.1;have t:((a.eval x).cells.size ≠ n || off+(a.eval x).cells.size>cells.size)=false:=by
      simp only[ne_eq,nM,J6,Avg,gt_iff_lt,Nat.not_lt];omega
     rw[Al (by rw[t];simp)];exact q
 | [],_::_,_,_,_,c,_,_=>by cases c
 | _::_,[],_,_,_,c,_,_=>by cases c
theorem NH{fs:Array Field}(a:fs.all (fun f=>(P.info? f.type).isSome)=true):(fs.mapM fun f=>do pure (f.offset,<- sizeOf f.type):Sem (Array (Nat × Nat))).run P w = .ok (fs.map fun f=>(f.offset,P.cellsOf f.type)) w:=by
 have b:∀ (l:List Field),(∀ f∈l,(P.info? f.type).isSome=true)->(l.mapM fun f=>do pure (f.offset,<- sizeOf f.type):Sem (List (Nat × Nat))).run P w = .ok (l.map fun f=>(f.offset,P.cellsOf f.type)) w:=by
  intro l;induction l with
  | nil=>intro _;rfl
  | cons f l c =>
   intro hl;obtain⟨i,hi⟩:=A7.1 (hl f (AKh ..));have d:(sizeOf f.type).run P w = .ok (P.cellsOf f.type) w:=by simp[sizeOf,typeInfo,program,Cl,hi,IH]
   simp only[Gz,Aj,d,W,An,c (fun g e=>hl g (AJ _ e)),Bg]
 have:=b fs.toList (fun f hf=>by simp only[Aew] at a;exact a f (by simpa using hf));rw[L5];simp only[Apv,this,W];congr 1;apply ACb;simp
theorem IP{fs:Array Field}{i off n:Nat}(hi:If P fs i off n=true):(fs.map fun f=>(f.offset,P.cellsOf f.type))[i]? = some (off,n):=by
 unfold If at hi;split at hi
 ·rename_i f hf;simp only[U,AM] at hi;obtain⟨rfl,a⟩:=hi;unfold G9 at a;split at a
  next c b=>simp only[AM] at a;simp[hf,IH,b,a]
  ·cases a
 ·cases hi
theorem Apw{vs:Array Value}(h:vs.size=2):∃ x y,vs=#[x,y]:=by
 obtain⟨l⟩:=vs;match l,h with
 | [x,y],_=>exact⟨x,y,rfl⟩
theorem Apx{t:TypeId}{d:List (Nat × Operand)}{o:Opd}{x:Nat}(a:Afh P t d o x=true) :
  ∃ a' c,d=[(0,a'),(1,c)]/\Bm a' o=true/\Bm c (.t x)=true /\
   ∀ (b:Bool) (u:Value),u.cells=#[u]->∀ w,(J3 t #[(0,.bool b),(1,u)]).run P w = .ok (.agg #[.bool b,u]) w:=by
 unfold Afh at a;split at a
 next fs a' c e=>simp only[U,AM] at a;obtain⟨⟨⟨⟨⟨⟨h1,h2⟩,n⟩,f⟩,g⟩,h⟩,i⟩:=a;refine⟨a',c,rfl,h1,h2,fun b u hu w => ?_⟩;obtain⟨v,j,hc⟩:=Ky h;obtain⟨z0,p,k⟩:=Apw (hc (fun _=>False) (fun _=>False) w).2.1;have l:=IP f;have m:=IP g;have hb:(SW b).cells=#[.bool b]:=rfl;simp only[J3,Aj,j,W,run_underlying e,NH i,k,DH,l,m,hb,hu];rfl
 ·cases a
end
end Go.Ai
