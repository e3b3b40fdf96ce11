/- Texts of the proof of ContactPlaces: part 2 of 17. -/
import Derived.Laws.Cells
import Derived.Laws.CopyRow
import Derived.Laws.Entries
import Derived.Laws.StructEq
import Derived.Laws.NewFold
import Derived.Test.YtenfgdobfjofkaaGreatCpl1
namespace Go.Ai
open Go.RowKit
open And renaming left->Nk
open _root_.Array renaming all_eq_true_iff_forall_mem->qY,foldl_toList->PK,getElem?_eq_getElem->A4,getElem?_eq_none->Arp,getElem?_setIfInBounds->IT,getElem?_toList->DI,length_toList->Bt,mapM_eq_mapM_toList->Ke,size_setIfInBounds->O9,toList_zipIdx->Aui
open Bool renaming and_eq_true->U,false_and->M7,false_eq_true->AC,not_eq_true'->BJ,or_eq_false_iff->aK,true_and->Yt
open Decidable renaming not_not->Agf
open False renaming elim->Ago
open Go renaming undef->A0
open Go.Addr renaming add->Ayb
open Go.BinOp renaming eql->A0w,neq->A0v
open Go.Builtin renaming max2->Agx,min2->Agy
open Go.Instr renaming build->JC,field->aI,fill->Dp
open Go.Op renaming equal->wW,intArith->TG,intBits->Aaz,intCmp->Ni,unary->Aru
open Go.Oper renaming upon->BY,wp->Cw
open Go.Program renaming cellsOf->H6
open Go.Result renaming andThen_ok->Aa
open Go.RowKit.Below renaming heap_alloc->F7,refl->F2
open Go.Sem renaming run->Cn,run_bind->Am,run_map->Abc,run_pure->Ap
open Go.Value renaming bool->TZ
open Go.World renaming setRow->Art
open List renaming append_assoc->EU,drop->R,eq_nil_of_length_eq_zero->A_,foldlM->Ayc,foldlM_cons->Agj,foldl_cons->Agw,getElem?_append_left->AA,getElem?_append_right->AO,getElem?_cons_succ->Du,getElem?_drop->C8,getElem?_eq_getElem->Ad,getElem?_eq_some_iff->AZ,getElem?_take_of_lt->BO,getElem?_toArray->Cq,getElem_cons_zero->Bk,getElem_mem->Bl,getElem_of_mem->Hr,getElem_toArray->DV,length->C,length_append->Ac,length_cons->BF,length_drop->ET,length_take->EE,mapM_cons->EX,map_cons->BQ,mem_append->AF,mem_cons_of_mem->AI,mem_cons_self->A1,mem_of_mem_drop->C1,mem_of_mem_take->B8,mem_singleton->Be,range->A',size_toArray->Cr,take->CV
open Nat renaming add_assoc->Fs,add_comm->S',add_zero->Bn,le_refl->Ar,lt_of_lt_of_le->Ba,lt_of_not_le->Gd,not_lt->Agz,zero_add->AJ
open Ne renaming symm->EG
open Option renaming isSome_iff_exists->A5,map_eq_some_iff->S,map_none->Kg,map_some->Al
open Option.some renaming inj->AM,injEq->Ab
theorem EW{Y X:Nat->Prop}{w:World}{v:Value}{x:AV}(h:Rd Y X w v x)(hd:EM x=true):v.oneCell'=true/\v.cells=#[v]:=by
 cases h <;> first | exact⟨rfl,rfl⟩ | cases hd
theorem Dk(b o j:Nat):(⟨b,o,none⟩:Addr).add j=⟨b,o+j,none⟩:=by
 unfold Ayb;split
 next h=>subst h;rfl
 ·rfl
def aP:TypeDesc->Bool
 | .struct _ | .array _ _=>true
 | _=>false
def Gk(P:Program)(t:TypeId)(n:Nat)(one:Bool):Bool :=
 match P.underlying t,P.info? t with
 | some d,some i=>i.size==n&&one == !(aP d)
 | _,_=>false
theorem Ed{P:Program}{t:TypeId}{n:Nat}{one:Bool}(h:Gk P t n one=true) :
  (∀ w,(isAgg t).run P w = .ok (!one) w)/\(∀ w,(sizeOf t).run P w = .ok n w):=by
 unfold Gk at h;split at h
 ·rename_i d i hd hi;simp only[U,AW] at h;obtain⟨h1,h2⟩:=h;constructor
  ·intro w;subst h2;simp only[isAgg,Am,run_underlying hd,Aa,Bool.not_not];cases d <;> rfl
  ·intro w;simp[sizeOf,typeInfo,program,Cn,hi,h1]
 ·cases h
theorem Ng{P:Program}{Y X:Nat->Prop}{w:World}{t:TypeId}{n b c off:Nat}{one:Bool}{cs:List AV}{x:AV}(ho:Gk P t n one=true)(d:F8 Y X w b c cs)
  (a:Ae cs off n one=some x):∃ v,(loadVar t ⟨b,c+off,none⟩).run P w = .ok v w/\Rd Y X w v x:=by
 obtain⟨h1,h2⟩:=Ed ho;obtain⟨hd,d⟩:=d;unfold Ae at a;cases one with
 | true =>
  simp only[if_true] at a;obtain⟨k,l⟩:=AZ.1 a;obtain⟨v,hc,hr⟩:=d off k;refine⟨v,?_,l ▸ hr⟩;simp[loadVar,h1,hc]
 | false =>
  simp only[AC,if_false] at a;split at a
  ·rename_i o;cases a;let f:Nat->Value:=fun j=>(w.cell? ⟨b,c+off+j,none⟩).getD A0
   have hf:∀ j,j<n->w.cell? ⟨b,c+off+j,none⟩=some (f j)/\∀ h:off+j<C cs,Rd Y X w (f j) cs[off+j]:=by
    intro j e;obtain⟨v,hc,hr⟩:=d (off+j) (by omega);have g:w.cell? ⟨b,c+off+j,none⟩=some v:=by rw[Fs];exact hc
    refine⟨by simp[f,g],fun _ => ?_⟩;have:f j=v:=by simp[f,g]
    rw[this];exact hr
   refine⟨.agg ((A' n).map f).toArray,?_,?_⟩
   ·have hl:=run_loadCells (P:=P) w ⟨b,c+off,none⟩ n f (fun j e=>by rw[Dk];exact (hf j e).1);simp[loadVar,h1,h2,hl]
   ·refine .agg _ _ ?_ (by simp;omega) (fun i h1 h2 => ?_)
    ·intro y m;exact hd y (C1 (B8 m))
    ·have hi:i<n:=by simpa using h1
     simpa using (hf i hi).2 (by omega)
  ·cases a
def CF(Y X:Nat->Prop)(w:World)(vs:Array Value)(cs:List AV):Prop :=
 Kd cs/\vs.size=C cs/\∀ (i:Nat) (h1:i<vs.size) (h2:i<C cs),Rd Y X w vs[i] cs[i]
section
variable{Y X:Nat->Prop}
theorem CF.oneCell{w:World}{vs:Array Value}{cs:List AV}(h:CF Y X w vs cs):∀ v∈vs.toList,v.oneCell'=true:=by
 obtain⟨hd,hs,hr⟩:=h;intro v c;obtain⟨i,hi,rfl⟩:=Hr c;have d:i<vs.size:=by simpa using hi
 have:=hr i d (by omega);exact (EW this (hd _ (Bl _))).1
theorem LN{w:World}{v:Value}{x:AV}{n:Nat}{ys:List AV}(h:Rd Y X w v x)(hc:Gz x n=some ys):C ys=n/\CF Y X w v.cells ys:=by
 have one:EM x=true->n=1->ys=[x]->C ys=n/\CF Y X w v.cells ys:=by
  intro hd hn a;subst a hn;refine⟨rfl,?_⟩;rw[(EW h hd).2];refine⟨fun y a => ?_,rfl,fun i h1 h2 => ?_⟩
  ·simp only[Be] at a;subst a;exact hd
  ·have:i=0:=by simp at h2;exact h2
   subst this;exact h
 cases x with
 | agg cs =>
  simp only[Gz] at hc;split at hc
  ·cases hc;cases h with
   | agg vs _ hd hs hr=>exact⟨by assumption,hd,hs,hr⟩
  ·cases hc
 | tup _=>cases hc
 | undef=>cases hc
 | fresh _ _ _=>cases hc
 | frs _ _ _ _=>cases hc
 | pt _=>cases hc
 | fnc _ _=>cases hc
 | gb _=>cases hc
 | io _ _=>cases hc
 | int k m=>simp only[Gz] at hc;split at hc <;> cases hc;exact one rfl (by assumption) rfl
 | bool b=>simp only[Gz] at hc;split at hc <;> cases hc;exact one rfl (by assumption) rfl
 | str b=>simp only[Gz] at hc;split at hc <;> cases hc;exact one rfl (by assumption) rfl
 | nil=>simp only[Gz] at hc;split at hc <;> cases hc;exact one rfl (by assumption) rfl
 | sl m cs=>simp only[Gz] at hc;split at hc <;> cases hc;exact one rfl (by assumption) rfl
theorem CF.world{w w':World}{vs:Array Value}{cs:List AV}(h:CF Y X w vs cs)(e:∀ b,¬ X b->b<w.heap.size->w'.heap[b]? = w.heap[b]?):CF Y X w' vs cs :=
 ⟨h.1,h.2.1,fun i h1 h2=>(h.2.2 i h1 h2).world e⟩
end
theorem CF.mono{Y X X':Nat->Prop}{w:World}{vs:Array Value}{cs:List AV}(h:CF Y X w vs cs)(hX:∀ b,X' b->X b\/w.heap.size<=b):CF Y X' w vs cs :=
 ⟨h.1,h.2.1,fun i h1 h2=>(h.2.2 i h1 h2).mono hX⟩
theorem CF.get{Y X:Nat->Prop}{w:World}{vs:Array Value}{cs:List AV}(h:CF Y X w vs cs){i:Nat}{c:AV}(hc:cs[i]? = some c):∃ v,vs[i]? = some v/\Rd Y X w v c:=by
 obtain⟨a,b⟩:=AZ.1 hc;have hs:=h.2.1;refine⟨vs[i]'(by omega),by rw[A4],?_⟩;subst b;exact h.2.2 i (by omega) a
theorem Pz(cs new:List AV)(off i:Nat)(h:off+C new<=C cs) :
  (cs.take off++new++cs.drop (off+C new))[i]? = if i<off then cs[i]? else if i<off+C new then new[i-off]? else cs[i]? := by
 have a:C (cs.take off)=off:=by simp;omega
 by_cases h1:i<off
 ·rw[Af h1,EU,AA (by omega),BO h1]
 ·rw[Ak h1];by_cases h2:i<off+C new
  ·rw[Af h2,AA (by simp;omega),AO (by omega),a]
  ·rw[Ak h2,AO (by simp;omega),C8];congr 1;simp;omega
section
variable{cs new b:List AV}{off:Nat}
theorem K_(h:BE cs off new=some b):off+C new<=C cs/\C b=C cs/\b=cs.take off++new++cs.drop (off+C new):=by
 unfold BE at h;split at h
 ·cases h;exact⟨by assumption,by simp;omega,rfl⟩
 ·cases h
theorem Zq(h:BE cs off new=some b)(hc:Kd cs)(hn:Kd new):Kd b:=by
 obtain⟨_,_,rfl⟩:=K_ h;intro x a;simp only[AF] at a;rcases a with (a | a) | a
 ·exact hc x (B8 a)
 ·exact hn x a
 ·exact hc x (C1 a)
end
theorem Dy(w:World)(b c:Nat)(cs:Array Value)(h:c ≠ b):(w.setRow b cs).heap[c]? = w.heap[c]? := by
 simp only[Art,Array.getElem?_modify];rw[Ak (EG h)]
theorem DX(w:World)(b:Nat)(cs:Array Value):(w.setRow b cs).heap.size=w.heap.size:=by
 simp[Art]
theorem RO{P:Program}{Y X:Nat->Prop}{w:World}{t:TypeId}{n b off:Nat}{cs d f:List AV}{v:Value}(p:∀ w,(sizeOf t).run P w = .ok n w)
  (hb:D0 Y X w b 0 cs) (hX:X b) (g:CF Y X w v.cells d) (hn:C d=n) (hl:BE cs off d=some f) :
  ∃ w',(storeVar t ⟨b,off,none⟩ v).run P w = .ok () w'/\w'.os=w.os/\w'.tape=w.tape/\w'.output=w.output/\w'.heap.size=w.heap.size/\(∀ c,c ≠ b->w'.heap[c]? = w.heap[c]?)/\D0 Y X w' b 0 f/\∀ m,SZ w b m->SZ w' b m:=by
 obtain⟨q,vs,T,h,r,hcell⟩:=hb;obtain⟨s,B,x⟩:=K_ hl;have l:v.cells.size=n:=by rw[g.2.1,hn]
 have j:=run_storeCells_at (P:=P) b off T v.cells.toList 0 vs w h (by simp only[Bt];omega) g.oneCell;simp only[Bn,Bt,AJ] at j r hcell;refine⟨w.setRow b (CV off vs.toList++v.cells.toList++R (off+v.cells.size) vs.toList).toArray,?_,rfl,rfl,rfl,DX _ _ _,fun c hc=>Dy _ _ _ _ hc,⟨Zq hl q g.1,_,T,setRow_heap w b vs _ T (0,0) h,?_,?_⟩,?_⟩
 ·simp only[storeVar,Am,p,Aa,l,ne_eq,not_true_eq_false,if_false];rw[l] at j;exact j
 ·simp only[Cr,Ac,EE,ET,Bt,AJ];omega
 ·have k:∀ c,¬ X c->c<w.heap.size->(w.setRow b (CV off vs.toList++v.cells.toList++R (off+v.cells.size) vs.toList).toArray).heap[c]? = w.heap[c]? := fun c hc _=>Dy _ _ _ _ (fun e=>hc (e ▸ hX));intro i hi;have y:f[i]? = some f[i]:=Ad hi;have a:=Pz cs d off i s;rw[<- x,y] at a;have z:C v.cells.toList=C d:=by simp only[Bt];omega
  have o:C (vs.toList.take off)=off:=by simp;omega
  simp only[AJ,Cq];by_cases h1:i<off
  ·rw[Af h1] at a;obtain⟨u,hu,hr⟩:=hcell i (by omega);refine⟨u,?_,?_⟩
   ·rw[EU,AA (by omega),BO h1];simpa using hu
   ·have:cs[i]=f[i]:=by rw[Ad (by omega)] at a;exact (AM a).symm
    rw[<- this];exact hr.world k
  ·rw[Ak h1] at a;by_cases h2:i<off+C d
   ·rw[Af h2] at a;obtain⟨u,hu,hr⟩:=g.get a.symm;refine⟨u,?_,hr.world k⟩;rw[AA (by simp only[Ac];omega),AO (by omega),o];simpa using hu
   ·rw[Ak h2] at a;obtain⟨u,hu,hr⟩:=hcell i (by omega);refine⟨u,?_,?_⟩
    ·rw[AO (by simp only[Ac];omega),C8];have A:off+v.cells.size+(i-C (vs.toList.take off++v.cells.toList))=i:=by simp only[Ac,o,z];omega
     rw[A];simpa using hu
    ·have:cs[i]=f[i]:=by rw[Ad (by omega)] at a;exact (AM a).symm
     rw[<- this];exact hr.world k
 ·rintro m ⟨D,E,r1,r2⟩;rw[h] at r1;cases r1;refine⟨_,T,setRow_heap w b vs _ T (0,0) h,?_⟩;simp only[Cr,Ac,EE,ET,Bt];omega
theorem U8(off:Nat):∀ (l:List Value) (k:Nat) (cells:Array Value) (i:Nat),
  ((l.zipIdx k).foldl (fun (cs:Array Value) (p:Value × Nat)=>cs.setIfInBounds (off+p.2) p.1) cells)[i]? =
   if off+k<=i/\i<off+k+C l/\i<cells.size then l[i-(off+k)]? else cells[i]? := by
 intro l;induction l with
 | nil=>intro k cells i;simp;intro h1 h2;omega
 | cons v l a =>
  intro k cells i;simp only[List.zipIdx_cons,Agw];rw[a];simp only[O9,IT,BF];by_cases h0:i=off+k
  ·subst h0;by_cases hs:off+k<cells.size
   ·rw[Ak (by omega),Af (by omega),Af hs,Af (by omega)];simp
   ·rw[Ak (by omega),Af (by omega),Ak hs,Ak (by omega),Arp (by omega)]
  ·by_cases h1:off+(k+1)<=i/\i<off+(k+1)+C l/\i<cells.size
   ·rw[Af h1,Af (by omega)];have:i-(off+k)=(i-(off+(k+1)))+1:=by omega
    rw[this,Du]
   ·rw[Ak h1,Ak (by omega),Ak (by omega)]
theorem U9(off:Nat):∀ (l:List (Value × Nat)) (cells:Array Value),(l.foldl (fun (cs:Array Value) (p:Value × Nat)=>cs.setIfInBounds (off+p.2) p.1) cells).size=cells.size:=by
 intro l;induction l with
 | nil=>intro cells;rfl
 | cons p l a=>intro cells;simp only[Agw];rw[a];simp
theorem rG{Y X:Nat->Prop}{w:World}{cells b:Array Value}{cs d e:List AV}{off:Nat}(hc:CF Y X w cells cs)(f:CF Y X w b d)(hl:BE cs off d=some e) :
  CF Y X w (b.zipIdx.foldl (fun (cs:Array Value) (p:Value × Nat)=>cs.setIfInBounds (off+p.2) p.1) cells) e:=by
 obtain⟨j,k,l⟩:=K_ hl;have m:b.zipIdx.foldl (fun (cs:Array Value) (p:Value × Nat)=>cs.setIfInBounds (off+p.2) p.1) cells=(b.toList.zipIdx 0).foldl (fun (cs:Array Value) (p:Value × Nat)=>cs.setIfInBounds (off+p.2) p.1) cells:=by
  rw[<- PK,Aui]
 rw[m];have n:=U9 off (b.toList.zipIdx 0) cells;refine⟨Zq hl hc.1 f.1,by rw[n,k];exact hc.2.1,?_⟩;intro i h1 h2;have a:=U8 off b.toList 0 cells i;have c:=Pz cs d off i j;rw[<- l,Ad h2] at c;rw[A4 h1] at a;have q:=hc.2.1;have r:=f.2.1;have hin:i<cells.size:=by omega
 simp only[Bn,Bt] at a;by_cases g:off<=i/\i<off+b.size
 ·rw[Af ⟨g.1,g.2,hin⟩] at a;rw[Ak (by omega),Af (by omega)] at c;obtain⟨u,hu,hr⟩:=f.get c.symm;simp only[DI,hu,Ab] at a;rw[a];exact hr
 ·rw[Ak (by omega)] at a;have o:cs[i]? = some e[i]:=by
   by_cases h:i<off
   ·rw[Af h] at c;exact c.symm
   ·rw[Ak h,Ak (by omega)] at c;exact c.symm
  obtain⟨u,hu,hr⟩:=hc.get o;rw[hu] at a;rw[AM a];exact hr
def LO(P:Program):Nat->List Field->Bool
 | _,[]=>true
 | i,f::fs=>f.name != "_" && f.offset==i&&(match P.underlying f.type with | some (.int _)=>true | _=>false)&&LO P (i+1) fs
def xA(P:Program)(t:TypeId)(n:Nat):Bool :=
 match P.underlying t with
 | some (.struct fs) => !P.stoodInHeld t && !P.eqGuardType P.depth t&&LO P 0 fs.toList&&fs.size==n
 | _=>false
theorem aQ{P:Program}{Y X:Nat->Prop}{w:World}{xs l:Array Value}(d:Nat):∀ (fs:List Field) (i:Nat) (as bs:List AV) (r:Bool),LO P i fs=true->B9 as bs=some r ->
  C as=C fs->(∀ (j:Nat) (h:j<C as),∃ v,xs[i+j]? = some v/\Rd Y X w v as[j])->(∀ (j:Nat) (h:j<C bs),∃ v,l[i+j]? = some v/\Rd Y X w v bs[j]) ->
  (Op.eqFields (d+1) xs l fs).run P w = .ok r w:=by
 intro fs;induction fs with
 | nil =>
  intro i as bs r _ c hl _ _;have:as=[]:=A_ hl;subst this;cases bs with
  | nil=>simp only[B9,Ab] at c;subst c;rfl
  | cons b bs=>simp[B9] at c
 | cons f fs A =>
  intro i as bs r hf c hl n o;simp only[LO,U,bne_iff_ne,ne_eq,AW] at hf;obtain⟨⟨⟨h1,h2⟩,p⟩,B⟩:=hf;cases as with
  | nil=>simp at hl
  | cons a as =>
   cases a with
   | int k m =>
    cases bs with
    | nil=>simp[B9] at c
    | cons b bs =>
     cases b with
     | int H g =>
      simp only[B9] at c;split at c
      ·rename_i D;subst D;simp only[S] at c;obtain⟨r',c,e⟩:=c;obtain⟨u,hu,q⟩:=n 0 (by simp);obtain⟨I,s,t⟩:=o 0 (by simp);simp only[Bn,Bk] at hu q s t;cases q;cases t;split at p
       ·rename_i E x;have F:∀ w,(isAgg f.type).run P w = .ok false w:=fun w=>by
         simp[isAgg,run_underlying x]
        simp only[Op.eqFields,h1,ne_eq,not_false_eq_true,if_true,Am,part,F,Aa,AC,if_false,h2,hu,s,Ap,run_equalIn_int w d f.type k E m g x];by_cases y:(m==g)=true
        ·simp only[y,Yt] at e |-;simp only[Bool.not_true,AC,if_false];subst e;refine A (i+1) as bs r' B c (by simpa using hl) (fun j G => ?_) (fun j G => ?_)
         ·have:=n (j+1) (by simp;omega);simpa [Fs,S' 1 j] using this
         ·have:=o (j+1) (by simp;omega);simpa [Fs,S' 1 j] using this
        ·have z:(m==g)=false:=by simpa using y
         simp only[z,M7] at e;subst e;simp[z]
       ·cases p
      ·cases c
     | bool _=>simp[B9] at c
     | str _=>simp[B9] at c
     | agg _=>simp[B9] at c
     | nil=>simp[B9] at c
     | sl _ _=>simp[B9] at c
     | tup _=>simp[B9] at c
     | undef=>simp[B9] at c
     | fresh _ _ _=>simp[B9] at c
     | frs _ _ _ _=>simp[B9] at c
     | pt _=>simp[B9] at c
     | fnc _ _=>simp[B9] at c
     | gb _=>simp[B9] at c
     | io _ _=>simp[B9] at c
   | bool _=>cases bs <;> simp[B9] at c
   | str _=>cases bs <;> simp[B9] at c
   | agg _=>cases bs <;> simp[B9] at c
   | nil=>cases bs <;> simp[B9] at c
   | sl _ _=>cases bs <;> simp[B9] at c
   | tup _=>cases bs <;> simp[B9] at c
   | undef=>cases bs <;> simp[B9] at c
   | fresh _ _ _=>cases bs <;> simp[B9] at c
   | frs _ _ _ _=>cases bs <;> simp[B9] at c
   | pt _=>cases bs <;> simp[B9] at c
   | fnc _ _=>cases bs <;> simp[B9] at c
   | gb _=>cases bs <;> simp[B9] at c
   | io _ _=>cases bs <;> simp[B9] at c
theorem xB{P:Program}{Y X:Nat->Prop}{w:World}{t:TypeId}{n:Nat}{u v:Value}{as bs:List AV}{r:Bool}(b:xA P t n=true)(hu:Rd Y X w u (.agg as))(f:Rd Y X w v (.agg bs))
  (hn:C as=n) (g:B9 as bs=some r) (x y:Operand) :
  ∃ xs a,u = .agg xs/\v = .agg a/\(wW t u v).run P w = .ok r w/\∀ op,(eqGuard op t x y u v).run P w = .ok () w:=by
 cases hu with
 | agg xs _ hd hs hr =>
  cases f with
  | agg a _ k l h =>
   unfold xA at b;split at b
   ·rename_i fs d;simp only[U,BJ,AW] at b;obtain⟨⟨⟨h1,h2⟩,i⟩,m⟩:=b;have e:P.fieldsOf t=fs:=by simp[Program.fieldsOf,d]
    refine⟨xs,a,rfl,rfl,?_,fun op=>run_eqGuard_agg w op t x y xs a h2⟩;show (Op.equalIn (9999+1) t (.agg xs) (.agg a)).run P w=_;rw[run_equalIn_struct w 9999 t xs a (by rw[e];exact d) h1,e];refine aQ (Y:=Y) (X:=X) 9998 fs.toList 0 as bs r i g (by simp only[Bt];omega) (fun j c => ?_) (fun j c => ?_)
    ·exact⟨xs[j]'(by omega),by rw[AJ,A4],hr j (by omega) c⟩
    ·exact⟨a[j]'(by omega),by rw[AJ,A4],h j (by omega) c⟩
   ·cases b
def La:Value->AV->Bool
 | .int k n,.int a c=>k==a&&n==c
 | .bool b,.bool b'=>b==b'
 | .string s,.str s'=>decide (s=s')
 | .slice none 0 0,.nil=>true
 | .slice none 0 0,.sl 0 []=>true
 | _,_=>false
theorem S_{Y X:Nat->Prop}{w:World}{v:Value}{x:AV}(h:La v x=true):Rd Y X w v x/\EM x=true:=by
 unfold La at h;split at h
 ·simp only[U,AW] at h;obtain⟨rfl,rfl⟩:=h;exact⟨.int _ _,rfl⟩
 ·simp only[AW] at h;subst h;exact⟨.bool _,rfl⟩
 ·simp only[Dm] at h;subst h;exact⟨.str _,rfl⟩
 ·exact⟨.nil,rfl⟩
 ·exact⟨.nil0,rfl⟩
 ·cases h
def Lb:List Value->List AV->Bool
 | [],[]=>true
 | v::vs,x::xs=>La v x&&Lb vs xs
 | _,_=>false
theorem Ji{Y X:Nat->Prop}{w:World}:∀ {vs:List Value} {cs:List AV},Lb vs cs=true->CF Y X w vs.toArray cs
 | [],[],_=>⟨fun x c=>(by cases c),rfl,fun i h1 _=>(by simp at h1)⟩
 | v::vs,x::cs,h=>by
  simp only[Lb,U] at h;obtain⟨h1,h2⟩:=h;obtain⟨hd,hs,hr⟩:=Ji (Y:=Y) (X:=X) (w:=w) h2;obtain⟨d,e⟩:=S_ (Y:=Y) (X:=X) (w:=w) h1;refine⟨fun y a => ?_,by simp at hs |-;exact hs,fun i f g => ?_⟩
  ·cases a with
   | head=>exact e
   | tail _ a=>exact hd y a
  ·cases i with
   | zero=>simpa using d
   | succ i =>
    have b:=hr i (by simp at f |-;omega) (by simp at g |-;omega);simp only[DV] at b;simpa using b
 | [],_::_,h=>by cases h
 | _::_,[],h=>by cases h
def Bh:Operand->Opd->Bool
 | .tmp t,.t n=>t==n
 | .const v,.c x=>La v x
 | _,_=>false
def EN:List Operand->List Opd->Bool
 | [],[]=>true
 | x::xs,o::os=>Bh x o&&EN xs os
 | _,_=>false
def LP(P:Program)(t:TypeId)(z:List AV):Bool :=
 match P.info? t with
 | some i=>(match i.zero with | some v=>Lb v.cells.toList z | none=>false)
 | none=>false
def FB(P:Program)(t:TypeId)(n:Nat):Bool :=
 match P.info? t with
 | some i=>i.size==n
 | none=>false
def IC(P:Program)(fs:Array Field)(i off n:Nat):Bool :=
 match fs[i]? with
 | some f=>f.offset==off&&FB P f.type n
 | none=>false
def ID(a:Nat->Nat->Nat->Bool):List (Nat × Operand)->List (Nat × Nat × Opd)->Bool
 | [],[]=>true
 | (i,x)::l,(off,n,o)::m=>a i off n&&Bh x o&&ID a l m
 | _,_=>false
def aR(P:Program)(t:TypeId)(a:List (Nat × Operand))(z:List AV)(ps:List (Nat × Nat × Opd)):Bool :=
 LP P t z &&
 match P.underlying t with
 | some (.struct fs)=>fs.all (fun f=>(P.info? f.type).isSome)&&ID (IC P fs) a ps
 | some (.array _ e)=>(P.info? e).isSome&&ID (fun i off n=>off==i*P.cellsOf e&&n==P.cellsOf e) a ps
 | _=>false
def Qv(z:List AV)(zero:List Value):Nat->Bool
 | 0=>z.isEmpty
 | n+1=>Lb zero (z.take (C zero))&&Qv (z.drop (C zero)) zero n
section
variable(P:Program)
def aS(t:TypeId)(len:Nat)(c:List (Nat × Operand))(n:Nat)(z:List AV)(ps:List (Nat × Nat × Opd)):Bool :=
 len==n &&
 match P.underlying t with
 | some (.slice e)=>(match P.info? e with
  | some i=>decide (0<i.size)&&decide (len*i.size<=16777216)&&(match i.zero with | some v=>v.cells.size==i.size&&decide (C z=len*i.size)&&Qv z v.cells.toList len | none=>false) &&
   ID (fun j off m=>off==j*i.size&&m==i.size) c ps
  | none=>false)
 | _=>false
def Qw(t:TypeId):Bool:=match P.underlying t with | some (.int _)=>true | _=>false
def Nh(t:TypeId):Bool:=match P.underlying t with | some .bool=>true | _=>false
def aT(args:List Operand)(a:List TypeId)(x:Opd):Bool :=
 match args,a with
 | [b],[t]=>Bh b x&&(match P.underlying t with | some (.slice _)=>true | _=>false)
 | _,_=>false
def E0(t:TypeId)(k:Nat):Bool :=
 match P.underlying t with
 | some (.slice e)=>(match P.info? e with
  | some i=>i.size==k&&decide (0<i.size)&&decide (i.bytes<=1048576)&&(match i.zero with | some v=>v.cells.size==i.size | none=>false)
  | none=>false)
 | _=>false
def TY(t:TypeId)(z:List AV):Bool :=
 match P.underlying t with
 | some (.slice e)=>LP P e z
 | _=>false
def Eo(t:TypeId):Bool:=match P.underlying t with | some (.slice _)=>true | _=>false
def OD(t:TypeId)(B:Nat):Bool :=
 match P.underlying t with
 | some (.slice e)=>(match P.info? e with
  | some i=>decide (B*i.bytes<=140737488355328)&&decide (B<=140737488355328)
  | none=>false)
 | _=>false
def aU(args:List Operand)(a:List TypeId)(x y:Opd)(k B:Nat):Bool :=
 match args,a with
 | [b,d],[t,t']=>Bh b x&&Bh d y&&E0 P t k&&Eo P t'&&OD P t B
 | _,_=>false
end
def P0:Option Operand->Option Opd->Bool
 | none,none=>true
 | some x,some o=>Bh x o
 | _,_=>false
def Jj(P:Program)(f:Nat):Bool:=match P.funcs[f]? with | some fn=>fn.body.isSome && !(fn.name == "runtime.NumGoroutine") | none=>false
def rH(P:Program)(t:TypeId)(b:List (Nat × Operand))(a:Opd)(x:Nat):Bool :=
 match P.underlying t,b with
 | some (.struct fs),[(0,a'),(1,c)]=>Bh a' a&&Bh c (.t x)&&fs.size==2&&IC P fs 0 0 1&&IC P fs 1 1 1&&LP P t [.bool false,.sl 0 []]&&fs.all (fun f=>(P.info? f.type).isSome)
 | _,_=>false
def UA(op:Op)(x:Nat):Bool:=match op with | .move y=>Bh y (.t x) | .assign y=>Bh y (.t x) | _=>false
def C9(P:Program)(op:Op)(k:K):Bool :=
 match k with
 | .mov y=>(match op with | .move x=>Bh x y | .assign x=>Bh x y | _=>false)
 | .pick c a b=>(match op with | .pick u a' b'=>Bh u c&&Bh a' a&&Bh b' b | _=>false)
 | .bin o x y=>(match op with | .binOp o' _ d p _=>o'==o&&Bh d x&&Bh p y | _=>false)
 | .eqb neg x y=>(match op with | .binOp o' t d p _=>o'==(if neg then A0v else A0w)&&Nh P t&&Bh d x&&Bh p y | _=>false)
 | .eqv neg n x y=>(match op with | .binOp o' t d p _=>o'==(if neg then A0v else A0w)&&xA P t n&&Bh d x&&Bh p y | _=>false)
 | .un o x=>(match op with | .unOp o' _ d=>o'==o&&Bh d x | _=>false)
 | .cv k x=>(match op with | .convert w dst d=>Qw P w&&(match P.underlying dst with | some (.int A)=>A==k | _=>false)&&Bh d x | _=>false)
 | .new z _=>(match op with | .alloc t=>LP P t z | _=>false)
 | .box x _=>(match op with | .box _ d=>Bh d x | _=>false)
 | .bld z ps=>(match op with | .build t h=>aR P t h.toList z ps | _=>false)
 | .bls n z ps=>(match op with | .buildSlice t len h=>aS P t len h.toList n z ps | _=>false)
 | .adr x _ off=>(match op with | .fieldAddr t d f=>Bh d (.t x)&&(match P.underlying t with | some (.struct fs)=>(match fs[f]? with | some f=>f.offset==off && !(FB P f.type 0)&&(P.info? f.type).isSome | none=>false) | _=>false) | _=>false)
 | .ld x _ n one=>(match op with | .load t d=>Bh d (.t x)&&Gk P t n one | _=>false)
 | .st x _ n v=>(match op with | .store t d j=>Bh d (.t x)&&FB P t n&&Bh j v | _=>false)
 | .fld x off n one=>(match op with | .field t d f=>Bh d x&&(match P.underlying t with | some (.struct fs)=>(match fs[f]? with | some f=>f.offset==off&&Gk P f.type n one | none=>false) | _=>false) | _=>false)
 | .ixa x i k=>(match op with | .indexAddr t d r=>Bh d (.t x)&&Bh r i&&(match P.underlying t with | some (.slice e)=>FB P e k | _=>false) | _=>false)
 | .six x i=>(match op with | .index t d r=>Bh d x&&Bh r i&&(match P.underlying t with | some .string=>true | _=>false) | _=>false)
 | .ext x i=>(match op with | .extract d r=>Bh d x&&r==i | _=>false)
 | .len x=>(match op with | .call { callee := .builtin .len,args:=args,argTypes:=m }=>aT P args.toList m.toList x | _=>false)
 | .mx xs=>(match op with | .call { callee := .builtin .max,args:=args,argTypes:=_ }=>EN args.toList xs | _=>false)
 | .mn xs=>(match op with | .call { callee := .builtin .min,args:=args,argTypes:=_ }=>EN args.toList xs | _=>false)
 | .call f xs=>(match op with | .call { callee := .value (.func g),args:=args,argTypes:=_ }=>g==f&&EN args.toList xs&&(match P.funcs[f]? with | some fn=>fn.body.isSome && !(fn.name == "runtime.NumGoroutine") | none=>false) | _=>false)
 | .clo f xs=>(match op with | .call { callee := .value (.func g),args:=args,argTypes:=_ }=>g==f&&EN args.toList xs&&(match P.funcs[f]? with | some fn=>fn.body.isSome && !(fn.name == "runtime.NumGoroutine") | none=>false) | _=>false)
 | .brw f x _=>(match op with | .call { callee := .value (.func g),args:=args,argTypes:=_ }=>g==f&&EN args.toList [.t x]&&(match P.funcs[f]? with | some fn=>fn.body.isSome && !(fn.name == "runtime.NumGoroutine") | none=>false) | _=>false)
 | .nlo _=>(match op with | .move (.const (.slice none 0 0))=>true | .assign (.const (.slice none 0 0))=>true | _=>false)
 | .cpy x=>UA op x
 | .tra x=>UA op x
 | .frz x=>UA op x
 | .mks z n=>(match op with | .makeSlice t l c=>Bh l n&&Bh c n&&E0 P t (C z)&&TY P t z | _=>false)
 | .blo k n z ps=>(match op with | .buildSlice t len h=>aS P t len h.toList n z ps&&E0 P t k | _=>false)
 | .apd _ x y k B=>(match op with | .call { callee := .builtin .append,args:=args,argTypes:=m }=>aU P args.toList m.toList x y k B | _=>false)
 | .sli x lo hi mx k=>(match op with | .slice t d D s E=>Bh d x&&P0 D lo&&P0 s hi&&P0 E mx&&E0 P t k | _=>false)
 | .ixo x _ i k=>(match op with | .indexAddr t d r=>Bh d (.t x)&&Bh r i&&E0 P t k | _=>false)
 | .lno x _=>(match op with | .call { callee := .builtin .len,args:=args,argTypes:=m }=>aT P args.toList m.toList (.t x) | _=>false)
 | .bdo a x _=>(match op with | .build t h=>rH P t h.toList a x | _=>false)
 | .cln f xs _=>(match op with | .call { callee := .value (.func g),args:=args,argTypes:=_ }=>g==f&&EN args.toList xs&&Jj P f | _=>false)
 | .stl x v=>(match op with | .store t d j=>Bh d (.t x)&&FB P t 2&&Bh j (.t v) | _=>false)
 | .fdo x=>(match op with | .field t d 1=>Bh d (.t x)&&(match P.underlying t with | some (.struct fs)=>(match fs[1]? with | some f=>f.offset==1&&Gk P f.type 1 true | none=>false) | _=>false) | _=>false)
 | .exo x=>(match op with | .extract d 0=>Bh d (.t x) | _=>false)
 | .slo x hi k=>(match op with | .slice t d none (some s) none=>Bh d (.t x)&&Bh s hi&&E0 P t k | _=>false)
 | .cao f _ x xs=>(match op with | .call { callee := .value (.func g),args:=args,argTypes:=_ }=>g==f&&EN args.toList (x::xs)&&Jj P f | _=>false)
 | .npt=>(match op with | .assign (.const (.pointer none))=>true | .move (.const (.pointer none))=>true | _=>false)
 | .mvp x _=>(match op with | .move y=>Bh y (.t x) | .nilCheck y=>Bh y (.t x) | _=>false)
 | .mvf x _ _ _=>(match op with | .move y=>Bh y (.t x) | _=>false)
 | .ldh x _ _ _=>(match op with | .load t d=>Bh d (.t x)&&Gk P t 1 true | _=>false)
 | .sth x _ v=>(match op with | .store t d j=>Bh d (.t x)&&FB P t 1&&Bh j (.t v) | _=>false)
 | .sts x _ v=>(match op with | .store t d j=>Bh d (.t x)&&FB P t 1&&Bh j v | _=>false)
 | .aph x y k B _ _=>(match op with | .call { callee := .builtin .append,args:=args,argTypes:=m }=>aU P args.toList m.toList (.t x) y k B | _=>false)
 | .lda x n _=>(match op with | .load t d=>Bh d (.t x)&&Gk P t n false | _=>false)
 | .ldz x n _ _=>(match op with | .load t d=>Bh d (.t x)&&Gk P t n false | _=>false)
 | .blh z qs=>(match op with | .build t h=>aR P t h.toList z (qs.map fun q=>(q.1,1,.t q.2))&&(match P.underlying t with | some (.struct _)=>true | _=>false) | _=>false)
 | .sta x v n _=>(match op with | .store t d j=>Bh d (.t x)&&FB P t n&&Bh j (.t v) | _=>false)
 | .bwh f xs _=>(match op with | .call { callee := .value (.func g),args:=args,argTypes:=_ }=>g==f&&EN args.toList xs&&Jj P f | _=>false)
 | .cab f x _ xs=>(match op with | .call { callee := .value (.func g),args:=args,argTypes:=_ }=>g==f&&EN args.toList (.t x::xs)&&Jj P f | _=>false)
 | .mkw z n _=>(match op with | .makeSlice t l c=>Bh l n&&Bh c n&&E0 P t (C z)&&TY P t z | _=>false)
 | .clw f xs _ _=>(match op with | .call { callee := .value (.func g),args:=args,argTypes:=_ }=>g==f&&EN args.toList xs&&Jj P f | _=>false)
 | .sbn o x y=>(match op with | .binOp o' t d p _=>o'==o&&(match P.underlying t with | some .string=>true | _=>false)&&Bh d x&&Bh p y | _=>false)
 | .sln x=>(match op with | .call { callee := .builtin .len,args:=args,argTypes:=m }=>(match args.toList,m.toList with | [d],[t]=>Bh d x&&(match P.underlying t with | some .string=>true | _=>false) | _,_=>false) | _=>false)
 | .bad=>true
section
variable {P:Program} {Y X0:Nat->Prop} {roots:List (Nat × Nat)} {w0:Base} {w:World} {s:V} {a:Act} {Q:Exit->Act->World->Prop}
theorem B2(h:Rel Y X0 roots w0 s a w){x:Operand}{o:Opd}{y:AV}(d:Bh x o=true)(ho:o.av s=some y):Rd Y (fun b=>X0 b\/XS s a.tmps b) w (a.eval x) y:=by
 cases o with
 | t n =>
  cases x with
  | tmp m =>
   simp only[Bh,AW] at d;subst d;simp only[Opd.av,Opd.reg] at ho;have h0:=h.reg m;cases hr:Ag s m with
   | val z =>
    rw[hr] at ho h0;cases ho;exact h0
   | box _=>rw[hr] at ho;cases ho
   | ptr _ _=>rw[hr] at ho;cases ho
   | mem _=>rw[hr] at ho;cases ho
   | own _ _ _=>rw[hr] at ho;cases ho
   | agn _ _ _ _=>rw[hr] at ho;cases ho
   | bxl _=>rw[hr] at ho;cases ho
   | dup _=>rw[hr] at ho;cases ho
   | sub _ _ _ _=>rw[hr] at ho;cases ho
   | bxh _ _=>rw[hr] at ho;cases ho
   | agh _ _=>rw[hr] at ho;cases ho
   | bxg _=>rw[hr] at ho;cases ho
   | dead=>rw[hr] at ho;cases ho
  | const v=>cases d
  | global g=>cases d
  | func f=>cases d
 | c z =>
  cases x with
  | const v =>
   simp only[Opd.av,Opd.reg,Ab] at ho;subst ho;exact (S_ d).1
  | tmp m=>cases d
  | global g=>cases d
  | func f=>cases d
theorem H9(h:Rel Y X0 roots w0 s a w):∀ {xs:List Operand} {os:List Opd} {e:List AV},EN xs os=true->avs s os=some e ->
  C xs=C e/\∀ (i:Nat) (h1:i<C xs) (h2:i<C e),Rd Y (fun b=>X0 b\/XS s a.tmps b) w (a.eval xs[i]) e[i]
 | [],[],e,_,c=>by
  simp only[avs,Ab] at c;subst c;exact⟨rfl,fun i h1 _=>(by simp at h1)⟩
 | x::xs,o::os,e,d,c=>by
  simp only[EN,U] at d;simp only[avs] at c;cases h1:o.av s with
  | none=>rw[h1] at c;cases c
  | some y =>
   rw[h1] at c;cases h2:avs s os with
   | none=>rw[h2] at c;cases c
   | some l =>
    rw[h2] at c;cases c;obtain⟨f,g⟩:=H9 h d.2 h2;refine⟨by simp[f],fun i j k => ?_⟩;cases i with
    | zero=>exact B2 h d.1 h1
    | succ i=>exact g i (by simpa using j) (by simpa using k)
 | [],_::_,_,d,_=>by cases d
 | _::_,[],_,d,_=>by cases d
theorem Rel.lowYw(h:Rel Y X0 roots w0 s a w):∀ b,Y b->b<w.heap.size:=fun b hb=>Ba (Gd fun e=>h.lowY b hb (.inl e)) h.below.size
theorem Rel.lowX(h:Rel Y X0 roots w0 s a w):∀ b,(X0 b\/XS s a.tmps b)->b<w.heap.size:=by
 rintro b (hb | ⟨t,h1,h2⟩)
 ·exact Ba (Gd fun e=>h.low b hb (.inl e)) h.below.size
 ·exact (h.exclLow h1 h2).2
def D1(s:V)(roots:List (Nat × Nat))(dst:Option Nat):Prop:=∀ d,dst=some d->∀ t,(t,d)∈roots->BC (Ag s t)=false
theorem Rel.put(h:Rel Y X0 roots w0 s a w){dst:Option Nat}{v:Value}{x:AV}(hf:D1 s roots dst)(hr:Rd Y (fun b=>X0 b\/XS s a.tmps b) w v x):Rel Y X0 roots w0 (BD s dst (.val x)) (a.put dst v) w:=by
 cases dst with
 | none=>exact h
 | some d =>
  refine BK (ks:=[]) h (F2 _ _) (fun t c => .inr (hf d rfl t c)) (fun e=>(by cases e)) (fun X _ h2 => ?_);exact hr.mono fun b hb => .inl (h2 rfl b hb)
theorem Kl(h:Rel Y X0 roots w0 s a w){dst:Option Nat}{b off:Nat}{cs:List AV}(hf:D1 s roots dst)(hX:cs ≠ []->¬ (X0 b\/XS s a.tmps b))(hr:F8 Y (fun b=>X0 b\/XS s a.tmps b) w b off cs) :
  Rel Y X0 roots w0 (BD s dst (.mem cs)) (a.put dst (.pointer (some ⟨b,off,none⟩))) w:=by
 cases dst with
 | none=>exact h
 | some d =>
  refine BK (ks:=[]) h (F2 _ _) (fun t c => .inr (hf d rfl t c)) (fun e=>(by cases e)) (fun X _ h2 => ?_);exact⟨b,off,rfl,fun f g=>hX f (h2 rfl b g),hr.mono fun b hb => .inl (h2 rfl b hb)⟩
theorem F4(h:Rel Y X0 roots w0 s a w){dst:Option Nat}{d off:Nat}{p:Addr}(hf:D1 s roots dst)(b:∀ t,dst=some t->(t,d)∈roots/\t ≠ d)(hd:CN (a.tmps.getD d A0)=some p)(hs:p.spot=none) :
  Rel Y X0 roots w0 (BD s dst (.ptr d off)) (a.put dst (.pointer (some ⟨p.block,p.off+off,none⟩))) w:=by
 cases dst with
 | none=>exact h
 | some t =>
  refine BK (ks:=[]) h (F2 _ _) (fun u hu => .inr (hf t rfl u hu)) (fun c=>(by cases c)) (fun X _ _ => ?_);refine⟨(b t rfl).1,p,?_,hs,rfl⟩;rw[Ii,Ak]
  ·exact hd
  ·rintro⟨rfl,_⟩;exact (b t rfl).2 rfl
theorem Rel.putDup(h:Rel Y X0 roots w0 s a w){dst:Option Nat}{d:Nat}(hf:D1 s roots dst)(b:∀ t,dst=some t->(t,d)∈roots/\t ≠ d) :
  Rel Y X0 roots w0 (BD s dst (.dup d)) (a.put dst (a.tmps.getD d A0)) w:=by
 cases dst with
 | none=>exact h
 | some t =>
  refine BK (ks:=[]) h (F2 _ _) (fun u hu => .inr (hf t rfl u hu)) (fun c=>(by cases c)) (fun X _ _ => ?_);refine⟨(b t rfl).1,?_⟩;rw[Ii,Ak];rintro⟨rfl,_⟩;exact (b t rfl).2 rfl
theorem AB{o:Oper}{v:Value}{K:Act->World->Prop}(b:(execOp a.eval o).run P w = .ok (.value v) w)(h:K (a.put o.dst v) w):o.wp P a w K Q:=by
 simp only[Cw,b,BY];exact h
def Ee(Y X B:Nat->Prop)(w':World)(v:Value):AV->Prop
 | .fresh k n cs=>Ez Y (fun c=>X c\/At v=some c) B w' v k n cs
 | .frs b k n cs=>IS Y (fun c=>X c\/At v=some c) B w' v b k n cs
 | .gb cs=>∃ b,v = .pointer (some ⟨b,0,none⟩)/\B b/\D0 Y (fun c=>X c\/At v=some c) w' b 0 cs
 | .io _ y=>Rd Y X w' v y
 | x=>Rd Y X w' v x
section
variable{Y X:Nat->Prop}{B:Nat->Prop}{w':World}{v:Value}{x:AV}
theorem Ee.of_rd(h:Rd Y X w' v x):Ee Y X B w' v x:=by
 cases h <;> simp only[Ee] <;> first | exact .int _ _ | exact .bool _ | exact .str _ | exact .undef | exact .nil | exact .nil0 | exact .e0 _ _ | (apply Rd.agg <;> assumption) | (apply Rd.tup <;> assumption) | (apply Rd.sl <;> assumption) | (apply Rd.pt <;> assumption) | (apply Rd.fnc <;> assumption) | assumption
theorem Ee.thawed(h:Ee Y X B w' v x)(hX:∀ b,X b->¬ B b)(hY:∀ b,Y b->¬ B b):Rd Y X w' v (KZ x):=by
 cases x
 case fresh k n cs =>
  simp only[Ee] at h;exact Ez.frozen h (fun b hb => .inl (.inl hb)) (fun b hb a=>hX b a (Ez.block h hb).1) hY
 case frs d k n cs =>
  simp only[Ee] at h;obtain⟨u,rfl,h⟩:=h;have hu:Rd Y X w' u (.sl n cs):=by
   exact Ez.frozen h (fun b hb => .inl (.inl hb)) (fun b hb a=>hX b a (Ez.block h hb).1) hY
  cases d with
  | st b=>exact rF hu
  | tp b =>
   refine Rd.tup #[u,.bool b] [.sl n cs,.bool b] rfl fun i h1 h2 => ?_;match i,h2 with
   | 0,_=>exact hu
   | 1,_=>exact Rd.bool b
 case gb cs =>
  simp only[Ee] at h;obtain⟨b,rfl,e,h⟩:=h;have f:=h.mono (X':=X) fun c hc => .inl (.inl hc);exact F8.pt (fun _ g=>hX b g e) f.mem
 case io cs y=>exact .io _ _ _ h
 all_goals exact h
end
theorem Ee.lower{Y X:Nat->Prop}{B c:Nat->Prop}{w':World}{v:Value}{x:AV}(h:Ee Y X B w' v x)(a:∀ b,B b->c b):Ee Y X c w' v x:=by
 cases x
 case fresh k n cs=>exact Ez.lower h a
 case frs g k n cs=>exact IS.lower h a
 case gb cs=>obtain⟨b,d,e,f⟩:=h;exact⟨b,d,a b e,f⟩
 all_goals exact h
def aV(Y X O:Nat->Prop)(w:World)(v:Value):AV->Prop
 | .fresh k n cs=>Ez Y (fun c=>X c\/O c) O w v k n cs
 | .gb cs=>∃ b,v = .pointer (some ⟨b,0,none⟩)/\O b/\D0 Y (fun c=>X c\/O c) w b 0 cs
 | x=>Rd Y (fun c=>X c\/O c) w v x
def Lc:AV->Bool
 | .fresh _ _ _=>true
 | .gb _=>true
 | _=>false
def D2(args:List AV)(vs:Array Value)(b:Nat):Prop:=(∃ x l,args=x::l/\Lc x=true)/\At (vs.getD 0 A0)=some b
def Qx(Y X:Nat->Prop)(args:List AV)(vs:Array Value)(w':World)(v:Value)(x:AV):Prop :=
 ∀ a l cs y,args = .gb a::l->x = .io cs y->∃ b,vs.getD 0 A0 = .pointer (some ⟨b,0,none⟩)/\D0 Y (fun c=>X c\/c=b) w' b 0 cs/\Rd Y (fun c=>X c\/c=b) w' v y
def G1(P:Program)(F:Bf):Prop :=
 ∀ (f:Nat) (args:List AV) (x:AV),F f args=some x->∀ (Y X:Nat->Prop) (w:World) (vs:Array Value),(∀ b,X b->b<w.heap.size/\¬ D2 args vs b)->(∀ b,Y b->b<w.heap.size/\¬ D2 args vs b)->vs.size=C args ->
  (∀ (i:Nat) (h1:i<vs.size) (h2:i<C args),aV Y X (D2 args vs) w vs[i] args[i])->(∀ (i:Nat) (h:i<C args),Lc args[i]=true->i=0) ->
  Calls P f vs w fun e w'=>∃ v,e = .returned v/\Grown ⟨w,D2 args vs⟩ w'/\Ee Y X (Base.mine ⟨w,D2 args vs⟩) w' v x/\Qx Y X args vs w' v x
def Zr(n b:Nat):Prop:=n<=b
theorem G1.plain{F:Bf}(h:G1 P F)(f:Nat)(args:List AV)(x:AV)(j:F f args=some x)(Y X:Nat->Prop)(w:World)(vs:Array Value)(hX:∀ b,X b->b<w.heap.size)(hY:∀ b,Y b->b<w.heap.size)(hs:vs.size=C args)
  (hr:∀ (i:Nat) (h1:i<vs.size) (h2:i<C args),Rd Y X w vs[i] args[i]) :
  Calls P f vs w fun e w'=>∃ v,e = .returned v/\Below w.heap.size w w'/\Ee Y X (Zr w.heap.size) w' v x:=by
 have g:∀ (i:Nat) (h2:i<C args),Lc args[i]=false:=by
  intro i h2;have h1:=hr i (by omega) h2;generalize args[i]=y at h1 |-;generalize vs[i]'(by omega)=u at h1;cases h1 <;> rfl
 have a:∀ b,¬ D2 args vs b:=by
  rintro b ⟨⟨z,l,rfl,k⟩,_⟩;have:=g 0 (by simp);simp only[Bk] at this;rw[k] at this;cases this
 have m:D2 args vs=fun _=>False:=funext fun b=>eq_false (a b);refine (h f args x j Y X w vs (fun b hb=>⟨hX b hb,a b⟩) (fun b hb=>⟨hY b hb,a b⟩) hs (fun i h1 h2 => ?_) (fun i h2 d => ?_)).mono ?_
 ·have h0:=hr i h1 h2;have e:=g i h2;rw[m];generalize args[i]=y at h0 e |-;have d:Rd Y (fun c=>X c\/False) w vs[i] y:=h0.mono fun b hb => .inl (hb.elim id Ago);cases y <;> first | exact d | cases e
 ·rw[g i h2] at d;cases d
 ·rintro e w' ⟨v,n,o,p,_⟩;exact⟨v,n,o.below a,p.lower fun b hb=>hb.elim id fun hb=>(a b hb).elim⟩
end
section
variable {P:Program} {Y X0:Nat->Prop} {roots:List (Nat × Nat)} {w0:Base} {w:World} {s:V} {a:Act} {Q:Exit->Act->World->Prop}
section
variable(op:BinOp)(t:TypeId)(x y:Operand)
theorem Ld(k b:IntKind)(m a:Int):(eqGuard op t x y (.int k m) (.int b a)).run P w = .ok () w:=by
 cases op <;> rfl
theorem HA(m a:Bool):(eqGuard op t x y (.bool m) (.bool a)).run P w = .ok () w:=by
 cases op <;> rfl
end
theorem iQ{op:BinOp}{t:TypeId}{k a:IntKind}{m b:Int}{z:AV}{Y X:Nat->Prop}(h:J7 op (.int k m) (.int a b)=some z) :
  ∃ v,(binOp op t (.int k m) (.int a b)).run P w = .ok v w/\Rd Y X w v z:=by
 simp only[J7] at h;split at h
 ·rename_i hs;unfold TX at h;split at h
  ·cases h
  ·rename_i hn;cases op <;> simp only[GT,AC] at hs <;> simp only[Ab] at h <;> subst h
   ·exact⟨_,by simp[binOp,Op.shift,hn],.int _ _⟩
   ·exact⟨_,by simp[binOp,Op.shift,hn],.int _ _⟩
 ·rename_i hs;split at h
  ·rename_i c;subst c;cases op <;> simp only[GT,not_true_eq_false] at hs <;> simp only[U2,wY,Agr,Al,Kg,Ab] at h
   case quo =>
    split at h
    ·cases h
    next h0=>cases h;exact⟨_,by simp[binOp,Op.intDiv,h0],.int _ _⟩
   case rem =>
    split at h
    ·cases h
    next h0=>cases h;exact⟨_,by simp[binOp,Op.intDiv,h0],.int _ _⟩
   case andNot=>cases h
   case add=>subst h;exact⟨_,by simp[binOp,TG],.int _ _⟩
   case sub=>subst h;exact⟨_,by simp[binOp,TG],.int _ _⟩
   case mul=>subst h;exact⟨_,by simp[binOp,TG],.int _ _⟩
   case and=>subst h;exact⟨_,by simp only[binOp,Aaz,ne_eq,not_true_eq_false,if_false];rfl,.int _ _⟩
   case or=>subst h;exact⟨_,by simp only[binOp,Aaz,ne_eq,not_true_eq_false,if_false];rfl,.int _ _⟩
   case xor=>subst h;exact⟨_,by simp only[binOp,Aaz,ne_eq,not_true_eq_false,if_false];rfl,.int _ _⟩
   case eql=>subst h;exact⟨_,by simp only[binOp,Ni,ne_eq,not_true_eq_false,if_false];rfl,.bool _⟩
   case neq=>subst h;exact⟨_,by simp only[binOp,Ni,ne_eq,not_true_eq_false,if_false];rfl,.bool _⟩
   case lss=>subst h;exact⟨_,by simp only[binOp,Ni,ne_eq,not_true_eq_false,if_false];rfl,.bool _⟩
   case leq=>subst h;exact⟨_,by simp only[binOp,Ni,ne_eq,not_true_eq_false,if_false];rfl,.bool _⟩
   case gtr=>subst h;exact⟨_,by simp only[binOp,Ni,ne_eq,not_true_eq_false,if_false];rfl,.bool _⟩
   case geq=>subst h;exact⟨_,by simp only[binOp,Ni,ne_eq,not_true_eq_false,if_false];rfl,.bool _⟩
  ·cases h
theorem xC{op:UnOp}{u:Value}{x z:AV}{Y X:Nat->Prop}(hu:Rd Y X w u x)(h:unA op x=some z):∃ v,(Aru op u).run P w = .ok v w/\Rd Y X w v z:=by
 unfold unA at h;split at h
 ·cases hu;simp only[Ab] at h;subst h;exact⟨_,by simp[Aru,TG],.int _ _⟩
 ·cases hu;simp only[Ab] at h;subst h;exact⟨_,by simp[Aru],.bool _⟩
 ·cases h
theorem Aba(k:IntKind)(x y:Int):(Agx (.int k x) (.int k y)).run P w = .ok (.int k (if y>x then y else x)) w:=rfl
theorem Abb(k:IntKind)(x y:Int):(Agy (.int k x) (.int k y)).run P w = .ok (.int k (if y<x then y else x)) w:=rfl
theorem UB{Y X:Nat->Prop}{k:IntKind}:∀ {vs:List Value} {l:List AV} {m r:Int},C vs=C l->(∀ (i:Nat) (h1:i<C vs) (h2:i<C l),Rd Y X w vs[i] l[i])->Zf k m l=some r ->
  (Ayc Agx (.int k m) vs:Sem Value).run P w = .ok (.int k r) w
 | [],[],m,r,_,_,h=>by simp only[Zf,Ab] at h;subst h;rfl
 | v::vs,x::l,m,r,hl,hr,h=>by
  have h0:=hr 0 (by simp) (by simp);simp only[Bk] at h0;cases x <;> simp only[Zf] at h <;> try cases h
  rename_i c n;split at h
  next a=>subst a;cases h0;have b:=UB (vs:=vs) (l:=l) (by simpa using hl) (fun i h1 h2=>hr (i+1) (by simp;omega) (by simp;omega)) h;simp only[Agj,Am,Aba,Aa];exact b
  ·cases h
 | [],_::_,_,_,hl,_,_=>by simp at hl
 | _::_,[],_,_,hl,_,_=>by simp at hl
theorem UC{Y X:Nat->Prop}{k:IntKind}:∀ {vs:List Value} {l:List AV} {m r:Int},C vs=C l->(∀ (i:Nat) (h1:i<C vs) (h2:i<C l),Rd Y X w vs[i] l[i])->Zg k m l=some r ->
  (Ayc Agy (.int k m) vs:Sem Value).run P w = .ok (.int k r) w
 | [],[],m,r,_,_,h=>by simp only[Zg,Ab] at h;subst h;rfl
 | v::vs,x::l,m,r,hl,hr,h=>by
  have h0:=hr 0 (by simp) (by simp);simp only[Bk] at h0;cases x <;> simp only[Zg] at h <;> try cases h
  rename_i c n;split at h
  next a=>subst a;cases h0;have b:=UC (vs:=vs) (l:=l) (by simpa using hl) (fun i h1 h2=>hr (i+1) (by simp;omega) (by simp;omega)) h;simp only[Agj,Am,Abb,Aa];exact b
  ·cases h
 | [],_::_,_,_,hl,_,_=>by simp at hl
 | _::_,[],_,_,hl,_,_=>by simp at hl
theorem Nj(h:Rel Y X0 roots w0 s a w){dst:Option Nat}{cells:Array Value}{cs:List AV}{T:TypeId}{ks:List Nat}(c:∀ d,dst=some d->∀ t,(t,d)∈roots->t∈ks)
  (e:dst.isSome=true) (hc:CF Y (fun b=>X0 b\/XS s a.tmps b) w cells cs) :
  Rel Y X0 roots w0 (BD (AE s (ks.map fun u=>(u,Reg.dead))) dst (.box cs)) (a.put dst (.pointer (some ⟨w.heap.size,0,none⟩))) (w.alloc (.cells cells T)):=by
 cases dst with
 | none=>cases e
 | some d =>
  refine BK h ((F2 _ _).alloc (Ar _) _) (fun t f => .inl (c d rfl t f)) (fun _ b hb=>by simp only[At,CN,Al,Ab] at hb;omega) (fun X h1 _ => ?_);have g:=(hc.mono (X':=X) (fun b hb=>(h1 b hb).imp id Nk)).world (w':=w.alloc (.cells cells T)) (fun b _ hb=>F7 _ _ _ hb);refine⟨w.heap.size,rfl,.inl h.below.size,hc.1,cells,T,by show (w.heap.push _)[w.heap.size]? = _;simp,by rw[hc.2.1];omega,fun i hi => ?_⟩;have hs:=hc.2.1;refine⟨cells[i]'(by omega),by rw[AJ,A4],g.2.2 i (by omega) hi⟩
theorem Jk{t:TypeId}{z:List AV}(h:LP P t z=true):∃ v,(∀ w,(zeroValue t).run P w = .ok v w)/\∀ (Y X:Nat->Prop) (w:World),CF Y X w v.cells z:=by
 unfold LP at h;split at h
 ·rename_i i hi;split at h
  next v a=>refine⟨v,fun w=>by simp[zeroValue,typeInfo,program,Cn,hi,a],fun Y X w => ?_⟩;have:=Ji (Y:=Y) (X:=X) (w:=w) h;simpa using this
  ·cases h
 ·cases h
theorem FC{t:TypeId}{n:Nat}(h:FB P t n=true):∀ w,(sizeOf t).run P w = .ok n w:=by
 unfold FB at h;split at h
 next i hi=>simp only[AW] at h;intro w;simp[sizeOf,typeInfo,program,Cn,hi,h]
 ·cases h
theorem Nl(h:Rel Y X0 roots w0 s a w){place:Nat->Option (Nat × Nat)}{pl:Nat->Nat->Nat->Bool}(j:∀ i off n,pl i off n=true->place i=some (off,n)) :
  ∀ {f:List (Nat × Operand)} {ps:List (Nat × Nat × Opd)} {cells:Array Value} {cs d:List AV},ID pl f ps=true->CF Y (fun b=>X0 b\/XS s a.tmps b) w cells cs->FY s cs ps=some d ->
   ∃ e,Dp place cells (f.map fun p=>(p.1,a.eval p.2))=some e/\CF Y (fun b=>X0 b\/XS s a.tmps b) w e d
 | [],[],cells,cs,d,_,hc,hf=>by
  simp only[FY,Ab] at hf;subst hf;exact⟨cells,rfl,hc⟩
 | (i,x)::f,(off,n,o)::ps,cells,cs,d,c,hc,hf=>by
  simp only[ID,U] at c;obtain⟨⟨h1,h2⟩,l⟩:=c;simp only[FY] at hf;cases ho:o.av s with
  | none=>rw[ho] at hf;cases hf
  | some y =>
   rw[ho] at hf;dsimp only at hf;cases g:Gz y n with
   | none=>rw[g] at hf;cases hf
   | some m =>
    rw[g] at hf;dsimp only at hf;cases hl:BE cs off m with
    | none=>rw[hl] at hf;cases hf
    | some u =>
     rw[hl] at hf;dsimp only at hf;obtain⟨hn,k⟩:=LN (B2 h h2 ho) g;obtain⟨e,q,r⟩:=Nl h j l (rG hc k hl) hf;refine⟨e,?_,r⟩;simp only[BQ,Dp,j i off n h1];have v:=(K_ hl).1;have z:=hc.2.1;have A:=k.2.1;have t:((a.eval x).cells.size ≠ n || off+(a.eval x).cells.size>cells.size)=false:=by
      simp only[ne_eq,aK,OA,Agf,gt_iff_lt,Agz];omega
     rw[Ak (by rw[t];simp)];exact q
 | [],_::_,_,_,_,c,_,_=>by cases c
 | _::_,[],_,_,_,c,_,_=>by cases c
theorem PL{fs:Array Field}(a:fs.all (fun f=>(P.info? f.type).isSome)=true):(fs.mapM fun f=>do pure (f.offset,<- sizeOf f.type):Sem (Array (Nat × Nat))).run P w = .ok (fs.map fun f=>(f.offset,P.cellsOf f.type)) w:=by
 have b:∀ (l:List Field),(∀ f∈l,(P.info? f.type).isSome=true)->(l.mapM fun f=>do pure (f.offset,<- sizeOf f.type):Sem (List (Nat × Nat))).run P w = .ok (l.map fun f=>(f.offset,P.cellsOf f.type)) w:=by
  intro l;induction l with
  | nil=>intro _;rfl
  | cons f l c =>
   intro hl;obtain⟨i,hi⟩:=A5.1 (hl f (A1 ..));have d:(sizeOf f.type).run P w = .ok (P.cellsOf f.type) w:=by simp[sizeOf,typeInfo,program,Cn,hi,H6]
   simp only[EX,Am,d,Aa,Ap,c (fun g e=>hl g (AI _ e)),BQ]
 have:=b fs.toList (fun f hf=>by simp only[qY] at a;exact a f (by simpa using hf));rw[Ke];simp only[Abc,this,Aa];congr 1;apply Array.ext';simp
theorem JB{fs:Array Field}{i off n:Nat}(hi:IC P fs i off n=true):(fs.map fun f=>(f.offset,P.cellsOf f.type))[i]? = some (off,n):=by
 unfold IC at hi;split at hi
 ·rename_i f hf;simp only[U,AW] at hi;obtain⟨rfl,a⟩:=hi;unfold FB at a;split at a
  next c b=>simp only[AW] at a;simp[hf,H6,b,a]
  ·cases a
 ·cases hi
theorem Abd{vs:Array Value}(h:vs.size=2):∃ x y,vs=#[x,y]:=by
 obtain⟨l⟩:=vs;match l,h with
 | [x,y],_=>exact⟨x,y,rfl⟩
theorem Abe{t:TypeId}{d:List (Nat × Operand)}{o:Opd}{x:Nat}(a:rH P t d o x=true) :
  ∃ a' c,d=[(0,a'),(1,c)]/\Bh a' o=true/\Bh c (.t x)=true /\
   ∀ (b:Bool) (u:Value),u.cells=#[u]->∀ w,(JC t #[(0,.bool b),(1,u)]).run P w = .ok (.agg #[.bool b,u]) w:=by
 unfold rH at a;split at a
 next fs a' c e=>simp only[U,AW] at a;obtain⟨⟨⟨⟨⟨⟨h1,h2⟩,n⟩,f⟩,g⟩,h⟩,i⟩:=a;refine⟨a',c,rfl,h1,h2,fun b u hu w => ?_⟩;obtain⟨v,j,hc⟩:=Jk h;obtain⟨z0,p,k⟩:=Abd (hc (fun _=>False) (fun _=>False) w).2.1;have l:=JB f;have m:=JB g;have hb:(TZ b).cells=#[.bool b]:=rfl;simp only[JC,Am,j,Aa,run_underlying e,PL i,k,Dp,l,m,hb,hu];rfl
 ·cases a
theorem Abf{t:TypeId}(a:(match P.underlying t with | some (.struct fs)=>(match fs[1]? with | some f=>f.offset==1&&Gk P f.type 1 true | none=>false) | _=>false)=true)(b:Bool)(u:Value) :
  ∀ w,(aI t (.agg #[.bool b,u]) 1).run P w = .ok u w:=by
 intro w;split at a
 ·rename_i fs c;split at a
  next f hf=>simp only[U,AW] at a;obtain⟨h1,h2⟩:=a;have d:=(Ed h2).1;simp only[aI,Am,run_underlying c,Aa,hf,asAgg,Ap,h1,part,d];rfl
  ·cases a
 ·cases a
end
end Go.Ai
