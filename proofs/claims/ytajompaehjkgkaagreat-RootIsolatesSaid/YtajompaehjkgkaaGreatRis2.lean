/- Texts of the proof of RootIsolates: part 2 of 13. -/
import Derived.Laws.Cells
import Derived.Laws.CopyRow
import Derived.Laws.Entries
import Derived.Laws.StructEq
import Derived.Laws.NewFold
import Derived.Test.YtajompaehjkgkaaGreatRis1
namespace Go.Ai
open Go.RowKit
open And renaming left->SM
open _root_.Array renaming all_eq_true_iff_forall_mem->iZ,getElem?_eq_getElem->Dm,getElem?_eq_none->Awh,getElem?_setIfInBounds->PA,getElem?_toList->Awm,length_toList->CH,mapM_eq_mapM_toList->RH,size_setIfInBounds->OE
open Bool renaming and_eq_true->Ad,false_eq_true->Cf,or_eq_false_iff->SP
open Go renaming undef->Br
open Go.Addr renaming add->A5r
open Go.Builtin renaming max2->Afo,min2->Afp
open Go.Instr renaming build->Uq,field->tE,fill->K3
open Go.Op renaming intArith->TS,intBits->tI,intCmp->ND,unary->Awt
open Go.Oper renaming upon->EJ,wp->Fl
open Go.Program renaming cellsOf->JR
open Go.Result renaming andThen_ok->Az
open Go.RowKit.Below renaming heap_alloc->WU,refl->Ig
open Go.Sem renaming run->Fq,run_bind->AK,run_map->A6v,run_pure->Bk
open Go.Value renaming bool->Ue
open Go.World renaming setRow->Awr
open List renaming append_assoc->JQ,drop->p,foldlM->A5t,foldlM_cons->Aff,foldl_cons->Afk,getElem?_append_left->AN,getElem?_append_right->AT,getElem?_cons_succ->Awn,getElem?_drop->Bu,getElem?_eq_getElem->Af,getElem?_eq_some_iff->Fz,getElem?_take_of_lt->B1,getElem?_toArray->RG,getElem_cons_zero->FN,getElem_mem->CT,getElem_of_mem->A6u,getElem_toArray->Nn,length_append->AX,length_cons->Bv,length_drop->Ep,length_take->AB,mapM_cons->L6,map_cons->C2,mem_append->BV,mem_cons_of_mem->Bi,mem_cons_self->By,mem_of_mem_drop->E',mem_of_mem_take->C3,mem_singleton->I3,range->Aq,size_toArray->Ij,take->B3
open Nat renaming add_assoc->Dw,add_zero->FR,le_refl->Ap,lt_of_lt_of_le->Dk,lt_of_not_le->I4,zero_add->B_
open Option renaming isSome_iff_exists->A_,map_none->WV,map_some->A3
open Option.some renaming inj->LU,injEq->A1
theorem J9{Y X:Nat->Prop}{w:World}{v:Value}{x:AV}(h:Rd Y X w v x)(hd:KU x=true):v.oneCell'=true/\v.cells=#[v]:=by
 cases h <;> first | exact⟨rfl,rfl⟩ | cases hd
theorem Hj(b o j:Nat):(⟨b,o,none⟩:Addr).add j=⟨b,o+j,none⟩:=by
 unfold A5r;split
 ·rename_i h;subst h;rfl
 ·rfl
def Awq:TypeDesc->Bool
 | .struct _ | .array _ _=>true
 | _=>false
def M1(P:Program)(t:TypeId)(n:Nat)(one:Bool):Bool :=
 match P.underlying t,P.info? t with
 | some d,some i=>i.size==n&&one == !(Awq d)
 | _,_=>false
theorem KW{P:Program}{t:TypeId}{n:Nat}{one:Bool}(h:M1 P t n one=true) :
  (∀ w,(isAgg t).run P w = .ok (!one) w)/\(∀ w,(sizeOf t).run P w = .ok n w):=by
 unfold M1 at h;split at h
 ·rename_i d i hd hi;simp only[Ad,beq_iff_eq] at h;obtain⟨h1,h2⟩:=h;constructor
  ·intro w;subst h2;simp only[isAgg,AK,run_underlying hd,Az,Bool.not_not];cases d <;> rfl
  ·intro w;simp[sizeOf,typeInfo,program,Fq,hi,h1]
 ·cases h
theorem aQ{P:Program}{Y X:Nat->Prop}{w:World}{t:TypeId}{n b base off:Nat}{one:Bool}{cs:List AV}{x:AV}(ho:M1 P t n one=true)(hm:Gq Y X w b base cs)
  (ht:Bn cs off n one=some x):∃ v,(loadVar t ⟨b,base+off,none⟩).run P w = .ok v w/\Rd Y X w v x:=by
 obtain⟨h1,h2⟩:=KW ho;obtain⟨hd,hm⟩:=hm;unfold Bn at ht;cases one with
 | true =>
  simp only[if_true] at ht;obtain⟨hlt,hx⟩:=Fz.1 ht;obtain⟨v,hc,hr⟩:=hm off hlt;refine⟨v,?_,hx ▸ hr⟩;simp[loadVar,h1,hc]
 | false =>
  simp only[Cf,if_false] at ht;split at ht
  ·rename_i hle;cases ht;let f:Nat->Value:=fun j=>(w.cell? ⟨b,base+off+j,none⟩).getD Br
   have hf:∀ j,j<n->w.cell? ⟨b,base+off+j,none⟩=some (f j)/\∀ h:off+j<cs.length,Rd Y X w (f j) cs[off+j]:=by
    intro j hj;obtain⟨v,hc,hr⟩:=hm (off+j) (by omega);have hc':w.cell? ⟨b,base+off+j,none⟩=some v:=by rw[Dw];exact hc
    refine⟨by simp[f,hc'],fun _ => ?_⟩;have:f j=v:=by simp[f,hc']
    rw[this];exact hr
   refine⟨.agg ((Aq n).map f).toArray,?_,?_⟩
   ·have hl:=run_loadCells (P:=P) w ⟨b,base+off,none⟩ n f (fun j hj=>by rw[Hj];exact (hf j hj).1);simp[loadVar,h1,h2,hl]
   ·refine .agg _ _ ?_ (by simp;omega) (fun i h1 h2 => ?_)
    ·intro y hy;exact hd y (E' (C3 hy))
    ·have hi:i<n:=by simpa using h1
     simpa using (hf i hi).2 (by omega)
  ·cases ht
def D8(Y X:Nat->Prop)(w:World)(vs:Array Value)(cs:List AV):Prop :=
 N9 cs/\vs.size=cs.length/\∀ (i:Nat) (h1:i<vs.size) (h2:i<cs.length),Rd Y X w vs[i] cs[i]
theorem D8.oneCell{Y X:Nat->Prop}{w:World}{vs:Array Value}{cs:List AV}(h:D8 Y X w vs cs):∀ v∈vs.toList,v.oneCell'=true:=by
 obtain⟨hd,hs,hr⟩:=h;intro v hv;obtain⟨i,hi,rfl⟩:=A6u hv;have hi':i<vs.size:=by simpa using hi
 have:=hr i hi' (by omega);exact (J9 this (hd _ (CT _))).1
theorem M2{Y X:Nat->Prop}{w:World}{v:Value}{x:AV}{n:Nat}{ys:List AV}(h:Rd Y X w v x)(hc:Gp x n=some ys):ys.length=n/\D8 Y X w v.cells ys:=by
 have one:KU x=true->n=1->ys=[x]->ys.length=n/\D8 Y X w v.cells ys:=by
  intro hd hn hy;subst hy hn;refine⟨rfl,?_⟩;rw[(J9 h hd).2];refine⟨fun y hy => ?_,rfl,fun i h1 h2 => ?_⟩
  ·simp only[I3] at hy;subst hy;exact hd
  ·have:i=0:=by simp at h2;exact h2
   subst this;exact h
 cases x with
 | agg cs =>
  simp only[Gp] at hc;split at hc
  ·cases hc;cases h with
   | agg vs _ hd hs hr=>exact⟨by assumption,hd,hs,hr⟩
  ·cases hc
 | tup _=>cases hc
 | undef=>cases hc
 | fresh _ _ _=>cases hc
 | frs _ _ _ _=>cases hc
 | pt _=>cases hc
 | fnc _ _=>cases hc
 | int k m=>simp only[Gp] at hc;split at hc <;> cases hc;exact one rfl (by assumption) rfl
 | bool b=>simp only[Gp] at hc;split at hc <;> cases hc;exact one rfl (by assumption) rfl
 | str b=>simp only[Gp] at hc;split at hc <;> cases hc;exact one rfl (by assumption) rfl
 | nil=>simp only[Gp] at hc;split at hc <;> cases hc;exact one rfl (by assumption) rfl
 | sl m cs=>simp only[Gp] at hc;split at hc <;> cases hc;exact one rfl (by assumption) rfl
theorem D8.world{Y X:Nat->Prop}{w w':World}{vs:Array Value}{cs:List AV}(h:D8 Y X w vs cs)(hw:∀ b,¬ X b->b<w.heap.size->w'.heap[b]? = w.heap[b]?):D8 Y X w' vs cs :=
 ⟨h.1,h.2.1,fun i h1 h2=>(h.2.2 i h1 h2).world hw⟩
theorem D8.mono{Y X X':Nat->Prop}{w:World}{vs:Array Value}{cs:List AV}(h:D8 Y X w vs cs)(hX:∀ b,X' b->X b\/w.heap.size<=b):D8 Y X' w vs cs :=
 ⟨h.1,h.2.1,fun i h1 h2=>(h.2.2 i h1 h2).mono hX⟩
theorem D8.get{Y X:Nat->Prop}{w:World}{vs:Array Value}{cs:List AV}(h:D8 Y X w vs cs){i:Nat}{c:AV}(hc:cs[i]? = some c):∃ v,vs[i]? = some v/\Rd Y X w v c:=by
 obtain⟨hlt,he⟩:=Fz.1 hc;have hs:=h.2.1;refine⟨vs[i]'(by omega),by rw[Dm],?_⟩;subst he;exact h.2.2 i (by omega) hlt
theorem Pm(cs new:List AV)(off i:Nat)(h:off+new.length<=cs.length) :
  (cs.take off++new++cs.drop (off+new.length))[i]? = if i<off then cs[i]? else if i<off+new.length then new[i-off]? else cs[i]? := by
 have ht:(cs.take off).length=off:=by simp;omega
 by_cases h1:i<off
 ·rw[if_pos h1,JQ,AN (by omega),B1 h1]
 ·rw[if_neg h1];by_cases h2:i<off+new.length
  ·rw[if_pos h2,AN (by simp;omega),AT (by omega),ht]
  ·rw[if_neg h2,AT (by simp;omega),Bu];congr 1;simp;omega
theorem LZ{cs new cs':List AV}{off:Nat}(h:C4 cs off new=some cs'):off+new.length<=cs.length/\cs'.length=cs.length/\cs'=cs.take off++new++cs.drop (off+new.length):=by
 unfold C4 at h;split at h
 ·cases h;exact⟨by assumption,by simp;omega,rfl⟩
 ·cases h
theorem XE{cs new cs':List AV}{off:Nat}(h:C4 cs off new=some cs')(hc:N9 cs)(hn:N9 new):N9 cs':=by
 obtain⟨_,_,rfl⟩:=LZ h;intro x hx;simp only[BV] at hx;rcases hx with (hx | hx) | hx
 ·exact hc x (C3 hx)
 ·exact hn x hx
 ·exact hc x (E' hx)
theorem H5(w:World)(b c:Nat)(cs:Array Value)(h:c ≠ b):(w.setRow b cs).heap[c]? = w.heap[c]? := by
 simp only[Awr,Array.getElem?_modify];rw[if_neg (Ne.symm h)]
theorem JY(w:World)(b:Nat)(cs:Array Value):(w.setRow b cs).heap.size=w.heap.size:=by
 simp[Awr]
theorem XF{P:Program}{Y X:Nat->Prop}{w:World}{t:TypeId}{n b off:Nat}{cs ys cs':List AV}{v:Value}(hsz:∀ w,(sizeOf t).run P w = .ok n w)
  (hb:FY Y X w b 0 cs) (hX:X b) (hv:D8 Y X w v.cells ys) (hn:ys.length=n) (hl:C4 cs off ys=some cs') :
  ∃ w',(storeVar t ⟨b,off,none⟩ v).run P w = .ok () w'/\w'.os=w.os/\w'.tape=w.tape/\w'.output=w.output/\w'.heap.size=w.heap.size/\(∀ c,c ≠ b->w'.heap[c]? = w.heap[c]?)/\FY Y X w' b 0 cs'/\∀ m,SS w b m->SS w' b m:=by
 obtain⟨hdat,vs,T,hblk,hle,hcell⟩:=hb;obtain⟨hl1,hl2,hl3⟩:=LZ hl;have hvs:v.cells.size=n:=by rw[hv.2.1,hn]
 have hrun:=run_storeCells_at (P:=P) b off T v.cells.toList 0 vs w hblk (by simp only[CH];omega) hv.oneCell;simp only[FR,CH,B_] at hrun hle hcell;refine⟨w.setRow b (B3 off vs.toList++v.cells.toList++p (off+v.cells.size) vs.toList).toArray,?_,rfl,rfl,rfl,JY _ _ _,fun c hc=>H5 _ _ _ _ hc,⟨XE hl hdat hv.1,_,T,setRow_heap w b vs _ T (0,0) hblk,?_,?_⟩,?_⟩
 ·simp only[storeVar,AK,hsz,Az,hvs,ne_eq,not_true_eq_false,if_false];rw[hvs] at hrun;exact hrun
 ·simp only[Ij,AX,AB,Ep,CH,B_];omega
 ·have hw:∀ c,¬ X c->c<w.heap.size->(w.setRow b (B3 off vs.toList++v.cells.toList++p (off+v.cells.size) vs.toList).toArray).heap[c]? = w.heap[c]? := fun c hc _=>H5 _ _ _ _ (fun e=>hc (e ▸ hX));intro i hi;have hg:cs'[i]? = some cs'[i]:=Af hi;have e1:=Pm cs ys off i hl1;rw[<- hl3,hg] at e1;have hvl:v.cells.toList.length=ys.length:=by simp only[CH];omega
  have ht:(vs.toList.take off).length=off:=by simp;omega
  simp only[B_,RG];by_cases h1:i<off
  ·rw[if_pos h1] at e1;obtain⟨u,hu,hr⟩:=hcell i (by omega);refine⟨u,?_,?_⟩
   ·rw[JQ,AN (by omega),B1 h1];simpa using hu
   ·have:cs[i]=cs'[i]:=by rw[Af (by omega)] at e1;exact (LU e1).symm
    rw[<- this];exact hr.world hw
  ·rw[if_neg h1] at e1;by_cases h2:i<off+ys.length
   ·rw[if_pos h2] at e1;obtain⟨u,hu,hr⟩:=hv.get e1.symm;refine⟨u,?_,hr.world hw⟩;rw[AN (by simp only[AX];omega),AT (by omega),ht];simpa using hu
   ·rw[if_neg h2] at e1;obtain⟨u,hu,hr⟩:=hcell i (by omega);refine⟨u,?_,?_⟩
    ·rw[AT (by simp only[AX];omega),Bu];have e2:off+v.cells.size+(i-(vs.toList.take off++v.cells.toList).length)=i:=by simp only[AX,ht,hvl];omega
     rw[e2];simpa using hu
    ·have:cs[i]=cs'[i]:=by rw[Af (by omega)] at e1;exact (LU e1).symm
     rw[<- this];exact hr.world hw
 ·rintro m ⟨vs',T',r1,r2⟩;rw[hblk] at r1;cases r1;refine⟨_,T,setRow_heap w b vs _ T (0,0) hblk,?_⟩;simp only[Ij,AX,AB,Ep,CH];omega
theorem jG(off:Nat):∀ (l:List Value) (k:Nat) (cells:Array Value) (i:Nat),
  ((l.zipIdx k).foldl (fun (cs:Array Value) (p:Value × Nat)=>cs.setIfInBounds (off+p.2) p.1) cells)[i]? =
   if off+k<=i/\i<off+k+l.length/\i<cells.size then l[i-(off+k)]? else cells[i]? := by
 intro l;induction l with
 | nil=>intro k cells i;simp;intro h1 h2;omega
 | cons v l ih =>
  intro k cells i;simp only[List.zipIdx_cons,Afk];rw[ih];simp only[OE,PA,Bv];by_cases h0:i=off+k
  ·subst h0;by_cases hs:off+k<cells.size
   ·rw[if_neg (by omega),if_pos (by omega),if_pos hs,if_pos (by omega)];simp
   ·rw[if_neg (by omega),if_pos (by omega),if_neg hs,if_neg (by omega),Awh (by omega)]
  ·by_cases h1:off+(k+1)<=i/\i<off+(k+1)+l.length/\i<cells.size
   ·rw[if_pos h1,if_pos (by omega)];have:i-(off+k)=(i-(off+(k+1)))+1:=by omega
    rw[this,Awn]
   ·rw[if_neg h1,if_neg (by omega),if_neg (by omega)]
theorem jH(off:Nat):∀ (l:List (Value × Nat)) (cells:Array Value),(l.foldl (fun (cs:Array Value) (p:Value × Nat)=>cs.setIfInBounds (off+p.2) p.1) cells).size=cells.size:=by
 intro l;induction l with
 | nil=>intro cells;rfl
 | cons p l ih=>intro cells;simp only[Afk];rw[ih];simp
theorem jI{Y X:Nat->Prop}{w:World}{cells ys':Array Value}{cs ys cs':List AV}{off:Nat}(hc:D8 Y X w cells cs)(hy:D8 Y X w ys' ys)(hl:C4 cs off ys=some cs') :
  D8 Y X w (ys'.zipIdx.foldl (fun (cs:Array Value) (p:Value × Nat)=>cs.setIfInBounds (off+p.2) p.1) cells) cs':=by
 obtain⟨hl1,hl2,hl3⟩:=LZ hl;have he:ys'.zipIdx.foldl (fun (cs:Array Value) (p:Value × Nat)=>cs.setIfInBounds (off+p.2) p.1) cells=(ys'.toList.zipIdx 0).foldl (fun (cs:Array Value) (p:Value × Nat)=>cs.setIfInBounds (off+p.2) p.1) cells:=by
  rw[<- Array.foldl_toList,Array.toList_zipIdx]
 rw[he];have hsz:=jH off (ys'.toList.zipIdx 0) cells;refine⟨XE hl hc.1 hy.1,by rw[hsz,hl2];exact hc.2.1,?_⟩;intro i h1 h2;have hg:=jG off ys'.toList 0 cells i;have e1:=Pm cs ys off i hl1;rw[<- hl3,Af h2] at e1;rw[Dm h1] at hg;have hcs:=hc.2.1;have hys:=hy.2.1;have hin:i<cells.size:=by omega
 simp only[FR,CH] at hg;by_cases h3:off<=i/\i<off+ys'.size
 ·rw[if_pos ⟨h3.1,h3.2,hin⟩] at hg;rw[if_neg (by omega),if_pos (by omega)] at e1;obtain⟨u,hu,hr⟩:=hy.get e1.symm;simp only[Awm,hu,A1] at hg;rw[hg];exact hr
 ·rw[if_neg (by omega)] at hg;have e2:cs[i]? = some cs'[i]:=by
   by_cases h4:i<off
   ·rw[if_pos h4] at e1;exact e1.symm
   ·rw[if_neg h4,if_neg (by omega)] at e1;exact e1.symm
  obtain⟨u,hu,hr⟩:=hc.get e2;rw[hu] at hg;rw[LU hg];exact hr
def L':Value->AV->Bool
 | .int k n,.int k' n'=>k==k'&&n==n'
 | .bool b,.bool b'=>b==b'
 | .string s,.str s'=>decide (s=s')
 | .slice none 0 0,.nil=>true
 | .slice none 0 0,.sl 0 []=>true
 | _,_=>false
theorem SU{Y X:Nat->Prop}{w:World}{v:Value}{x:AV}(h:L' v x=true):Rd Y X w v x/\KU x=true:=by
 unfold L' at h;split at h
 ·simp only[Ad,beq_iff_eq] at h;obtain⟨rfl,rfl⟩:=h;exact⟨.int _ _,rfl⟩
 ·simp only[beq_iff_eq] at h;subst h;exact⟨.bool _,rfl⟩
 ·simp only[decide_eq_true_eq] at h;subst h;exact⟨.str _,rfl⟩
 ·exact⟨.nil,rfl⟩
 ·exact⟨.nil0,rfl⟩
 ·cases h
def L_:List Value->List AV->Bool
 | [],[]=>true
 | v::vs,x::xs=>L' v x&&L_ vs xs
 | _,_=>false
theorem JZ{Y X:Nat->Prop}{w:World}:∀ {vs:List Value} {cs:List AV},L_ vs cs=true->D8 Y X w vs.toArray cs
 | [],[],_=>⟨fun x hx=>(by cases hx),rfl,fun i h1 _=>(by simp at h1)⟩
 | v::vs,x::cs,h=>by
  simp only[L_,Ad] at h;obtain⟨h1,h2⟩:=h;obtain⟨hd,hs,hr⟩:=JZ (Y:=Y) (X:=X) (w:=w) h2;obtain⟨hv,hdx⟩:=SU (Y:=Y) (X:=X) (w:=w) h1;refine⟨fun y hy => ?_,by simp at hs |-;exact hs,fun i h3 h4 => ?_⟩
  ·cases hy with
   | head=>exact hdx
   | tail _ hy=>exact hd y hy
  ·cases i with
   | zero=>simpa using hv
   | succ i =>
    have h5:=hr i (by simp at h3 |-;omega) (by simp at h4 |-;omega);simp only[Nn] at h5;simpa using h5
 | [],_::_,h=>by cases h
 | _::_,[],h=>by cases h
def Cb:Operand->Opd->Bool
 | .tmp t,.t n=>t==n
 | .const v,.c x=>L' v x
 | _,_=>false
def HD:List Operand->List Opd->Bool
 | [],[]=>true
 | x::xs,o::os=>Cb x o&&HD xs os
 | _,_=>false
def M3(P:Program)(t:TypeId)(z:List AV):Bool :=
 match P.info? t with
 | some i=>(match i.zero with | some v=>L_ v.cells.toList z | none=>false)
 | none=>false
def I_(P:Program)(t:TypeId)(n:Nat):Bool :=
 match P.info? t with
 | some i=>i.size==n
 | none=>false
def K6(P:Program)(fs:Array Field)(i off n:Nat):Bool :=
 match fs[i]? with
 | some f=>f.offset==off&&I_ P f.type n
 | none=>false
def Ma(place:Nat->Nat->Nat->Bool):List (Nat × Operand)->List (Nat × Nat × Opd)->Bool
 | [],[]=>true
 | (i,x)::l,(off,n,o)::m=>place i off n&&Cb x o&&Ma place l m
 | _,_=>false
def Afl(P:Program)(t:TypeId)(parts:List (Nat × Operand))(z:List AV)(ps:List (Nat × Nat × Opd)):Bool :=
 M3 P t z &&
 match P.underlying t with
 | some (.struct fs)=>fs.all (fun f=>(P.info? f.type).isSome)&&Ma (K6 P fs) parts ps
 | some (.array _ e)=>(P.info? e).isSome&&Ma (fun i off n=>off==i*P.cellsOf e&&n==P.cellsOf e) parts ps
 | _=>false
def QA(z:List AV)(zero:List Value):Nat->Bool
 | 0=>z.isEmpty
 | n+1=>L_ zero (z.take zero.length)&&QA (z.drop zero.length) zero n
def YV(P:Program)(t:TypeId)(len:Nat)(parts:List (Nat × Operand))(n:Nat)(z:List AV)(ps:List (Nat × Nat × Opd)):Bool :=
 len==n &&
 match P.underlying t with
 | some (.slice e)=>(match P.info? e with
  | some i=>decide (0<i.size)&&decide (len*i.size<=16777216)&&(match i.zero with | some v=>v.cells.size==i.size&&decide (z.length=len*i.size)&&QA z v.cells.toList len | none=>false) &&
   Ma (fun j off m=>off==j*i.size&&m==i.size) parts ps
  | none=>false)
 | _=>false
def qW(P:Program)(t:TypeId):Bool:=match P.underlying t with | some (.int _)=>true | _=>false
def aR(P:Program)(t:TypeId):Bool:=match P.underlying t with | some .bool=>true | _=>false
def YW(P:Program)(args:List Operand)(ts:List TypeId)(x:Opd):Bool :=
 match args,ts with
 | [x'],[t]=>Cb x' x&&(match P.underlying t with | some (.slice _)=>true | _=>false)
 | _,_=>false
def FT(P:Program)(t:TypeId)(k:Nat):Bool :=
 match P.underlying t with
 | some (.slice e)=>(match P.info? e with
  | some i=>i.size==k&&decide (0<i.size)&&decide (i.bytes<=1048576)&&(match i.zero with | some v=>v.cells.size==i.size | none=>false)
  | none=>false)
 | _=>false
def YX(P:Program)(t:TypeId)(z:List AV):Bool :=
 match P.underlying t with
 | some (.slice e)=>M3 P e z
 | _=>false
def Hk(P:Program)(t:TypeId):Bool:=match P.underlying t with | some (.slice _)=>true | _=>false
def Ub(P:Program)(t:TypeId)(B:Nat):Bool :=
 match P.underlying t with
 | some (.slice e)=>(match P.info? e with
  | some i=>decide (B*i.bytes<=140737488355328)&&decide (B<=140737488355328)
  | none=>false)
 | _=>false
def Afm(P:Program)(args:List Operand)(ts:List TypeId)(x y:Opd)(k B:Nat):Bool :=
 match args,ts with
 | [x',y'],[t,t']=>Cb x' x&&Cb y' y&&FT P t k&&Hk P t'&&Ub P t B
 | _,_=>false
def Pn:Option Operand->Option Opd->Bool
 | none,none=>true
 | some x,some o=>Cb x o
 | _,_=>false
def Uc(P:Program)(f:Nat):Bool:=match P.funcs[f]? with | some fn=>fn.body.isSome && !(fn.name == "runtime.NumGoroutine") | none=>false
def jJ(P:Program)(t:TypeId)(parts:List (Nat × Operand))(a:Opd)(x:Nat):Bool :=
 match P.underlying t,parts with
 | some (.struct fs),[(0,a'),(1,x')]=>Cb a' a&&Cb x' (.t x)&&fs.size==2&&K6 P fs 0 0 1&&K6 P fs 1 1 1&&M3 P t [.bool false,.sl 0 []]&&fs.all (fun f=>(P.info? f.type).isSome)
 | _,_=>false
def U1(op:Op)(x:Nat):Bool:=match op with | .move y=>Cb y (.t x) | .assign y=>Cb y (.t x) | _=>false
def Gr(P:Program)(op:Op)(k:K):Bool :=
 match k with
 | .mov y=>(match op with | .move x=>Cb x y | .assign x=>Cb x y | _=>false)
 | .pick c a b=>(match op with | .pick c' a' b'=>Cb c' c&&Cb a' a&&Cb b' b | _=>false)
 | .bin o x y=>(match op with | .binOp o' _ x' y' _=>o'==o&&Cb x' x&&Cb y' y | _=>false)
 | .eqb neg x y=>(match op with | .binOp o' t x' y' _=>o'==(if neg then BinOp.neq else BinOp.eql)&&aR P t&&Cb x' x&&Cb y' y | _=>false)
 | .un o x=>(match op with | .unOp o' _ x'=>o'==o&&Cb x' x | _=>false)
 | .cv k x=>(match op with | .convert src dst x'=>qW P src&&(match P.underlying dst with | some (.int k')=>k'==k | _=>false)&&Cb x' x | _=>false)
 | .new z _=>(match op with | .alloc t=>M3 P t z | _=>false)
 | .box x _=>(match op with | .box _ x'=>Cb x' x | _=>false)
 | .bld z ps=>(match op with | .build t parts=>Afl P t parts.toList z ps | _=>false)
 | .bls n z ps=>(match op with | .buildSlice t len parts=>YV P t len parts.toList n z ps | _=>false)
 | .adr x _ off=>(match op with | .fieldAddr t x' f=>Cb x' (.t x)&&(match P.underlying t with | some (.struct fs)=>(match fs[f]? with | some f=>f.offset==off && !(I_ P f.type 0)&&(P.info? f.type).isSome | none=>false) | _=>false) | _=>false)
 | .ld x _ n one=>(match op with | .load t x'=>Cb x' (.t x)&&M1 P t n one | _=>false)
 | .st x _ n v=>(match op with | .store t x' v'=>Cb x' (.t x)&&I_ P t n&&Cb v' v | _=>false)
 | .fld x off n one=>(match op with | .field t x' f=>Cb x' x&&(match P.underlying t with | some (.struct fs)=>(match fs[f]? with | some f=>f.offset==off&&M1 P f.type n one | none=>false) | _=>false) | _=>false)
 | .ixa x i k=>(match op with | .indexAddr t x' i'=>Cb x' (.t x)&&Cb i' i&&(match P.underlying t with | some (.slice e)=>I_ P e k | _=>false) | _=>false)
 | .six x i=>(match op with | .index t x' i'=>Cb x' x&&Cb i' i&&(match P.underlying t with | some .string=>true | _=>false) | _=>false)
 | .ext x i=>(match op with | .extract x' i'=>Cb x' x&&i'==i | _=>false)
 | .len x=>(match op with | .call { callee := .builtin .len,args:=args,argTypes:=ts }=>YW P args.toList ts.toList x | _=>false)
 | .mx xs=>(match op with | .call { callee := .builtin .max,args:=args,argTypes:=_ }=>HD args.toList xs | _=>false)
 | .mn xs=>(match op with | .call { callee := .builtin .min,args:=args,argTypes:=_ }=>HD args.toList xs | _=>false)
 | .call f xs=>(match op with | .call { callee := .value (.func f'),args:=args,argTypes:=_ }=>f'==f&&HD args.toList xs&&(match P.funcs[f]? with | some fn=>fn.body.isSome && !(fn.name == "runtime.NumGoroutine") | none=>false) | _=>false)
 | .clo f xs=>(match op with | .call { callee := .value (.func f'),args:=args,argTypes:=_ }=>f'==f&&HD args.toList xs&&(match P.funcs[f]? with | some fn=>fn.body.isSome && !(fn.name == "runtime.NumGoroutine") | none=>false) | _=>false)
 | .brw f x _=>(match op with | .call { callee := .value (.func f'),args:=args,argTypes:=_ }=>f'==f&&HD args.toList [.t x]&&(match P.funcs[f]? with | some fn=>fn.body.isSome && !(fn.name == "runtime.NumGoroutine") | none=>false) | _=>false)
 | .nlo _=>(match op with | .move (.const (.slice none 0 0))=>true | .assign (.const (.slice none 0 0))=>true | _=>false)
 | .cpy x=>U1 op x
 | .tra x=>U1 op x
 | .frz x=>U1 op x
 | .mks z n=>(match op with | .makeSlice t l c=>Cb l n&&Cb c n&&FT P t z.length&&YX P t z | _=>false)
 | .blo k n z ps=>(match op with | .buildSlice t len parts=>YV P t len parts.toList n z ps&&FT P t k | _=>false)
 | .apd _ x y k B=>(match op with | .call { callee := .builtin .append,args:=args,argTypes:=ts }=>Afm P args.toList ts.toList x y k B | _=>false)
 | .sli x lo hi mx k=>(match op with | .slice t x' lo' hi' mx'=>Cb x' x&&Pn lo' lo&&Pn hi' hi&&Pn mx' mx&&FT P t k | _=>false)
 | .ixo x _ i k=>(match op with | .indexAddr t x' i'=>Cb x' (.t x)&&Cb i' i&&FT P t k | _=>false)
 | .lno x _=>(match op with | .call { callee := .builtin .len,args:=args,argTypes:=ts }=>YW P args.toList ts.toList (.t x) | _=>false)
 | .bdo a x _=>(match op with | .build t parts=>jJ P t parts.toList a x | _=>false)
 | .cln f xs _=>(match op with | .call { callee := .value (.func f'),args:=args,argTypes:=_ }=>f'==f&&HD args.toList xs&&Uc P f | _=>false)
 | .stl x v=>(match op with | .store t x' v'=>Cb x' (.t x)&&I_ P t 2&&Cb v' (.t v) | _=>false)
 | .fdo x=>(match op with | .field t x' 1=>Cb x' (.t x)&&(match P.underlying t with | some (.struct fs)=>(match fs[1]? with | some f=>f.offset==1&&M1 P f.type 1 true | none=>false) | _=>false) | _=>false)
 | .exo x=>(match op with | .extract x' 0=>Cb x' (.t x) | _=>false)
 | .slo x hi k=>(match op with | .slice t x' none (some hi') none=>Cb x' (.t x)&&Cb hi' hi&&FT P t k | _=>false)
 | .cao f _ x xs=>(match op with | .call { callee := .value (.func f'),args:=args,argTypes:=_ }=>f'==f&&HD args.toList (x::xs)&&Uc P f | _=>false)
 | .bad=>true
section
variable {P:Program} {Y X0:Nat->Prop} {roots:List (Nat × Nat)} {w0:Base} {w:World} {s:Al} {a:Act} {Q:Exit->Act->World->Prop}
theorem CB(h:Rel Y X0 roots w0 s a w){x:Operand}{o:Opd}{y:AV}(hx:Cb x o=true)(ho:o.av s=some y):Rd Y (fun b=>X0 b\/XS s a.tmps b) w (a.eval x) y:=by
 cases o with
 | t n =>
  cases x with
  | tmp m =>
   simp only[Cb,beq_iff_eq] at hx;subst hx;simp only[Opd.av,Opd.reg] at ho;have h0:=h.reg m;cases hr:A4 s m with
   | val z =>
    rw[hr] at ho h0;cases ho;exact h0
   | box _=>rw[hr] at ho;cases ho
   | ptr _ _=>rw[hr] at ho;cases ho
   | mem _=>rw[hr] at ho;cases ho
   | own _ _ _=>rw[hr] at ho;cases ho
   | agn _ _ _ _=>rw[hr] at ho;cases ho
   | bxl _=>rw[hr] at ho;cases ho
   | dup _=>rw[hr] at ho;cases ho
   | sub _ _ _ _=>rw[hr] at ho;cases ho
   | dead=>rw[hr] at ho;cases ho
  | const v=>cases hx
  | global g=>cases hx
  | func f=>cases hx
 | c z =>
  cases x with
  | const v =>
   simp only[Opd.av,Opd.reg,A1] at ho;subst ho;exact (SU hx).1
  | tmp m=>cases hx
  | global g=>cases hx
  | func f=>cases hx
theorem K7(h:Rel Y X0 roots w0 s a w):∀ {xs:List Operand} {os:List Opd} {ys:List AV},HD xs os=true->avs s os=some ys ->
  xs.length=ys.length/\∀ (i:Nat) (h1:i<xs.length) (h2:i<ys.length),Rd Y (fun b=>X0 b\/XS s a.tmps b) w (a.eval xs[i]) ys[i]
 | [],[],ys,_,hy=>by
  simp only[avs,A1] at hy;subst hy;exact⟨rfl,fun i h1 _=>(by simp at h1)⟩
 | x::xs,o::os,ys,hx,hy=>by
  simp only[HD,Ad] at hx;simp only[avs] at hy;cases h1:o.av s with
  | none=>rw[h1] at hy;cases hy
  | some y =>
   rw[h1] at hy;cases h2:avs s os with
   | none=>rw[h2] at hy;cases hy
   | some ys' =>
    rw[h2] at hy;cases hy;obtain⟨e1,e2⟩:=K7 h hx.2 h2;refine⟨by simp[e1],fun i h3 h4 => ?_⟩;cases i with
    | zero=>exact CB h hx.1 h1
    | succ i=>exact e2 i (by simpa using h3) (by simpa using h4)
 | [],_::_,_,hx,_=>by cases hx
 | _::_,[],_,hx,_=>by cases hx
theorem Rel.lowYw(h:Rel Y X0 roots w0 s a w):∀ b,Y b->b<w.heap.size:=fun b hb=>Dk (I4 fun e=>h.lowY b hb (.inl e)) h.below.size
theorem Rel.lowX(h:Rel Y X0 roots w0 s a w):∀ b,(X0 b\/XS s a.tmps b)->b<w.heap.size:=by
 rintro b (hb | ⟨t,h1,h2⟩)
 ·exact Dk (I4 fun e=>h.low b hb (.inl e)) h.below.size
 ·exact (h.exclLow h1 h2).2
def aS(s:Al)(roots:List (Nat × Nat))(dst:Option Nat):Prop:=∀ d,dst=some d->∀ t,(t,d)∈roots->E_ (A4 s t)=false
theorem Rel.put(h:Rel Y X0 roots w0 s a w){dst:Option Nat}{v:Value}{x:AV}(hf:aS s roots dst)(hr:Rd Y (fun b=>X0 b\/XS s a.tmps b) w v x):Rel Y X0 roots w0 (DL s dst (.val x)) (a.put dst v) w:=by
 cases dst with
 | none=>exact h
 | some d =>
  refine D7 (ks:=[]) h (Ig _ _) (fun t ht => .inr (hf d rfl t ht)) (fun he=>(by cases he)) (fun X _ h2 => ?_);exact hr.mono fun b hb => .inl (h2 rfl b hb)
theorem NA(h:Rel Y X0 roots w0 s a w){dst:Option Nat}{b off:Nat}{cs:List AV}(hf:aS s roots dst)(hX:cs ≠ []->¬ (X0 b\/XS s a.tmps b))(hr:Gq Y (fun b=>X0 b\/XS s a.tmps b) w b off cs) :
  Rel Y X0 roots w0 (DL s dst (.mem cs)) (a.put dst (.pointer (some ⟨b,off,none⟩))) w:=by
 cases dst with
 | none=>exact h
 | some d =>
  refine D7 (ks:=[]) h (Ig _ _) (fun t ht => .inr (hf d rfl t ht)) (fun he=>(by cases he)) (fun X _ h2 => ?_);exact⟨b,off,rfl,fun hne hx=>hX hne (h2 rfl b hx),hr.mono fun b hb => .inl (h2 rfl b hb)⟩
theorem NB(h:Rel Y X0 roots w0 s a w){dst:Option Nat}{d off:Nat}{p:Addr}(hf:aS s roots dst)(hroot:∀ t,dst=some t->(t,d)∈roots/\t ≠ d)(hd:GD (a.tmps.getD d Br)=some p)(hs:p.spot=none) :
  Rel Y X0 roots w0 (DL s dst (.ptr d off)) (a.put dst (.pointer (some ⟨p.block,p.off+off,none⟩))) w:=by
 cases dst with
 | none=>exact h
 | some t =>
  refine D7 (ks:=[]) h (Ig _ _) (fun u hu => .inr (hf t rfl u hu)) (fun he=>(by cases he)) (fun X _ _ => ?_);refine⟨(hroot t rfl).1,p,?_,hs,rfl⟩;rw[LY,if_neg]
  ·exact hd
  ·rintro⟨rfl,_⟩;exact (hroot t rfl).2 rfl
theorem Rel.putDup(h:Rel Y X0 roots w0 s a w){dst:Option Nat}{d:Nat}(hf:aS s roots dst)(hroot:∀ t,dst=some t->(t,d)∈roots/\t ≠ d) :
  Rel Y X0 roots w0 (DL s dst (.dup d)) (a.put dst (a.tmps.getD d Br)) w:=by
 cases dst with
 | none=>exact h
 | some t =>
  refine D7 (ks:=[]) h (Ig _ _) (fun u hu => .inr (hf t rfl u hu)) (fun he=>(by cases he)) (fun X _ _ => ?_);refine⟨(hroot t rfl).1,?_⟩;rw[LY,if_neg];rintro⟨rfl,_⟩;exact (hroot t rfl).2 rfl
theorem Bz{o:Oper}{v:Value}{K:Act->World->Prop}(hrun:(execOp a.eval o).run P w = .ok (.value v) w)(h:K (a.put o.dst v) w):o.wp P a w K Q:=by
 simp only[Fl,hrun,EJ];exact h
def Ik(Y X:Nat->Prop)(B:Nat->Prop)(w':World)(v:Value):AV->Prop
 | .fresh k n cs=>Fp Y (fun c=>X c\/AI v=some c) B w' v k n cs
 | .frs b k n cs=>J8 Y (fun c=>X c\/AI v=some c) B w' v b k n cs
 | x=>Rd Y X w' v x
theorem Ik.of_rd{Y X:Nat->Prop}{B:Nat->Prop}{w':World}{v:Value}{x:AV}(h:Rd Y X w' v x):Ik Y X B w' v x:=by
 cases h <;> simp only[Ik] <;> first | exact .int _ _ | exact .bool _ | exact .str _ | exact .undef | exact .nil | exact .nil0 | exact .e0 _ _ | (apply Rd.agg <;> assumption) | (apply Rd.tup <;> assumption) | (apply Rd.sl <;> assumption) | (apply Rd.pt <;> assumption) | (apply Rd.fnc <;> assumption)
theorem Ik.thawed{Y X:Nat->Prop}{B:Nat->Prop}{w':World}{v:Value}{x:AV}(h:Ik Y X B w' v x)(hX:∀ b,X b->¬ B b)(hY:∀ b,Y b->¬ B b):Rd Y X w' v (K5 x):=by
 cases x
 case fresh k n cs =>
  simp only[Ik] at h;exact Fp.frozen h (fun b hb => .inl (.inl hb)) (fun b hb hXb=>hX b hXb (Fp.block h hb).1) hY
 case frs bb k n cs =>
  simp only[Ik] at h;obtain⟨u,rfl,h⟩:=h;have hu:Rd Y X w' u (.sl n cs):=by
   exact Fp.frozen h (fun b hb => .inl (.inl hb)) (fun b hb hXb=>hX b hXb (Fp.block h hb).1) hY
  cases bb with
  | st b=>exact jF hu
  | tp b =>
   refine Rd.tup #[u,.bool b] [.sl n cs,.bool b] rfl fun i h1 h2 => ?_;match i,h2 with
   | 0,_=>exact hu
   | 1,_=>exact Rd.bool b
 all_goals exact h
theorem Ik.lower{Y X:Nat->Prop}{B B':Nat->Prop}{w':World}{v:Value}{x:AV}(h:Ik Y X B w' v x)(hB:∀ b,B b->B' b):Ik Y X B' w' v x:=by
 cases x
 case fresh k n cs=>exact Fp.lower h hB
 case frs bb k n cs=>exact J8.lower h hB
 all_goals exact h
def jK(Y X O:Nat->Prop)(w:World)(v:Value):AV->Prop
 | .fresh k n cs=>Fp Y (fun c=>X c\/O c) O w v k n cs
 | x=>Rd Y (fun c=>X c\/O c) w v x
def FZ(args:List AV)(vs:Array Value)(b:Nat):Prop:=(∃ k n cs l,args = .fresh k n cs::l)/\AI (vs.getD 0 Br)=some b
def NC:AV->Bool
 | .fresh _ _ _=>true
 | _=>false
def Ja(P:Program)(F:B7):Prop :=
 ∀ (f:Nat) (args:List AV) (x:AV),F f args=some x->∀ (Y X:Nat->Prop) (w:World) (vs:Array Value),(∀ b,X b->b<w.heap.size/\¬ FZ args vs b)->(∀ b,Y b->b<w.heap.size/\¬ FZ args vs b)->vs.size=args.length ->
  (∀ (i:Nat) (h1:i<vs.size) (h2:i<args.length),jK Y X (FZ args vs) w vs[i] args[i])->(∀ (i:Nat) (h:i<args.length),NC args[i]=true->i=0) ->
  Calls P f vs w fun e w'=>∃ v,e = .returned v/\Grown ⟨w,FZ args vs⟩ w'/\Ik Y X (Base.mine ⟨w,FZ args vs⟩) w' v x
def XG(n b:Nat):Prop:=n<=b
theorem Ja.plain{F:B7}(h:Ja P F)(f:Nat)(args:List AV)(x:AV)(hx:F f args=some x)(Y X:Nat->Prop)(w:World)(vs:Array Value)(hX:∀ b,X b->b<w.heap.size)(hY:∀ b,Y b->b<w.heap.size)(hs:vs.size=args.length)
  (hr:∀ (i:Nat) (h1:i<vs.size) (h2:i<args.length),Rd Y X w vs[i] args[i]) :
  Calls P f vs w fun e w'=>∃ v,e = .returned v/\Below w.heap.size w w'/\Ik Y X (XG w.heap.size) w' v x:=by
 have nf:∀ (i:Nat) (h2:i<args.length),NC args[i]=false:=by
  intro i h2;have h1:=hr i (by omega) h2;generalize args[i]=y at h1 |-;generalize vs[i]'(by omega)=u at h1;cases h1 <;> rfl
 have hg:∀ b,¬ FZ args vs b:=by
  rintro b ⟨⟨k,n,cs,l,rfl⟩,_⟩;cases nf 0 (by simp)
 have hg':FZ args vs=fun _=>False:=funext fun b=>eq_false (hg b);refine (h f args x hx Y X w vs (fun b hb=>⟨hX b hb,hg b⟩) (fun b hb=>⟨hY b hb,hg b⟩) hs (fun i h1 h2 => ?_) (fun i h2 h3 => ?_)).mono ?_
 ·have h0:=hr i h1 h2;have e:=nf i h2;rw[hg'];generalize args[i]=y at h0 e |-;have h3:Rd Y (fun c=>X c\/False) w vs[i] y:=h0.mono fun b hb => .inl (hb.elim id False.elim);cases y <;> first | exact h3 | cases e
 ·rw[nf i h2] at h3;cases h3
 ·rintro e w' ⟨v,e1,e2,e3⟩;exact⟨v,e1,e2.below hg,e3.lower fun b hb=>hb.elim id fun hb=>(hg b hb).elim⟩
end
section
variable {P:Program} {Y X0:Nat->Prop} {roots:List (Nat × Nat)} {w0:Base} {w:World} {s:Al} {a:Act} {Q:Exit->Act->World->Prop}
theorem RJ(op:BinOp)(t:TypeId)(x y:Operand)(k k':IntKind)(m m':Int):(eqGuard op t x y (.int k m) (.int k' m')).run P w = .ok () w:=by
 cases op <;> rfl
theorem KX(op:BinOp)(t:TypeId)(x y:Operand)(m m':Bool):(eqGuard op t x y (.bool m) (.bool m')).run P w = .ok () w:=by
 cases op <;> rfl
theorem Afn{op:BinOp}{t:TypeId}{k k':IntKind}{m m':Int}{z:AV}{Y X:Nat->Prop}(h:LW op (.int k m) (.int k' m')=some z) :
  ∃ v,(binOp op t (.int k m) (.int k' m')).run P w = .ok v w/\Rd Y X w v z:=by
 simp only[LW] at h;split at h
 ·rename_i hs;unfold Q9 at h;split at h
  ·cases h
  ·rename_i hn;cases op <;> simp only[Jm,Cf] at hs <;> simp only[A1] at h <;> subst h
   ·exact⟨_,by simp[binOp,Op.shift,hn],.int _ _⟩
   ·exact⟨_,by simp[binOp,Op.shift,hn],.int _ _⟩
 ·rename_i hs;split at h
  ·rename_i hk;subst hk;cases op <;> simp only[Jm,not_true_eq_false] at hs <;> simp only[aJ,Afi,L7,A3,WV,A1] at h
   case quo =>
    split at h
    ·cases h
    ·rename_i h0;cases h;exact⟨_,by simp[binOp,Op.intDiv,h0],.int _ _⟩
   case rem =>
    split at h
    ·cases h
    ·rename_i h0;cases h;exact⟨_,by simp[binOp,Op.intDiv,h0],.int _ _⟩
   case andNot=>cases h
   case add=>subst h;exact⟨_,by simp[binOp,TS],.int _ _⟩
   case sub=>subst h;exact⟨_,by simp[binOp,TS],.int _ _⟩
   case mul=>subst h;exact⟨_,by simp[binOp,TS],.int _ _⟩
   case and=>subst h;exact⟨_,by simp only[binOp,tI,ne_eq,not_true_eq_false,if_false];rfl,.int _ _⟩
   case or=>subst h;exact⟨_,by simp only[binOp,tI,ne_eq,not_true_eq_false,if_false];rfl,.int _ _⟩
   case xor=>subst h;exact⟨_,by simp only[binOp,tI,ne_eq,not_true_eq_false,if_false];rfl,.int _ _⟩
   case eql=>subst h;exact⟨_,by simp only[binOp,ND,ne_eq,not_true_eq_false,if_false];rfl,.bool _⟩
   case neq=>subst h;exact⟨_,by simp only[binOp,ND,ne_eq,not_true_eq_false,if_false];rfl,.bool _⟩
   case lss=>subst h;exact⟨_,by simp only[binOp,ND,ne_eq,not_true_eq_false,if_false];rfl,.bool _⟩
   case leq=>subst h;exact⟨_,by simp only[binOp,ND,ne_eq,not_true_eq_false,if_false];rfl,.bool _⟩
   case gtr=>subst h;exact⟨_,by simp only[binOp,ND,ne_eq,not_true_eq_false,if_false];rfl,.bool _⟩
   case geq=>subst h;exact⟨_,by simp only[binOp,ND,ne_eq,not_true_eq_false,if_false];rfl,.bool _⟩
  ·cases h
theorem Aws{op:UnOp}{u:Value}{x z:AV}{Y X:Nat->Prop}(hu:Rd Y X w u x)(h:unA op x=some z):∃ v,(Awt op u).run P w = .ok v w/\Rd Y X w v z:=by
 unfold unA at h;split at h
 ·cases hu;simp only[A1] at h;subst h;exact⟨_,by simp[Awt,TS],.int _ _⟩
 ·cases hu;simp only[A1] at h;subst h;exact⟨_,by simp[Awt],.bool _⟩
 ·cases h
theorem tJ(k:IntKind)(x y:Int):(Afo (.int k x) (.int k y)).run P w = .ok (.int k (if y>x then y else x)) w:=rfl
theorem tK(k:IntKind)(x y:Int):(Afp (.int k x) (.int k y)).run P w = .ok (.int k (if y<x then y else x)) w:=rfl
theorem aT{Y X:Nat->Prop}{k:IntKind}:∀ {vs:List Value} {l:List AV} {m r:Int},vs.length=l.length->(∀ (i:Nat) (h1:i<vs.length) (h2:i<l.length),Rd Y X w vs[i] l[i])->X8 k m l=some r ->
  (A5t Afo (.int k m) vs:Sem Value).run P w = .ok (.int k r) w
 | [],[],m,r,_,_,h=>by simp only[X8,A1] at h;subst h;rfl
 | v::vs,x::l,m,r,hl,hr,h=>by
  have h0:=hr 0 (by simp) (by simp);simp only[FN] at h0;cases x <;> simp only[X8] at h <;> try cases h
  rename_i k' n;split at h
  ·rename_i hk;subst hk;cases h0;have ih:=aT (vs:=vs) (l:=l) (by simpa using hl) (fun i h1 h2=>hr (i+1) (by simp;omega) (by simp;omega)) h;simp only[Aff,AK,tJ,Az];exact ih
  ·cases h
 | [],_::_,_,_,hl,_,_=>by simp at hl
 | _::_,[],_,_,hl,_,_=>by simp at hl
theorem aU{Y X:Nat->Prop}{k:IntKind}:∀ {vs:List Value} {l:List AV} {m r:Int},vs.length=l.length->(∀ (i:Nat) (h1:i<vs.length) (h2:i<l.length),Rd Y X w vs[i] l[i])->X9 k m l=some r ->
  (A5t Afp (.int k m) vs:Sem Value).run P w = .ok (.int k r) w
 | [],[],m,r,_,_,h=>by simp only[X9,A1] at h;subst h;rfl
 | v::vs,x::l,m,r,hl,hr,h=>by
  have h0:=hr 0 (by simp) (by simp);simp only[FN] at h0;cases x <;> simp only[X9] at h <;> try cases h
  rename_i k' n;split at h
  ·rename_i hk;subst hk;cases h0;have ih:=aU (vs:=vs) (l:=l) (by simpa using hl) (fun i h1 h2=>hr (i+1) (by simp;omega) (by simp;omega)) h;simp only[Aff,AK,tK,Az];exact ih
  ·cases h
 | [],_::_,_,_,hl,_,_=>by simp at hl
 | _::_,[],_,_,hl,_,_=>by simp at hl
theorem NE(h:Rel Y X0 roots w0 s a w){dst:Option Nat}{cells:Array Value}{cs:List AV}{T:TypeId}{ks:List Nat}(hks:∀ d,dst=some d->∀ t,(t,d)∈roots->t∈ks)
  (hdst:dst.isSome=true) (hc:D8 Y (fun b=>X0 b\/XS s a.tmps b) w cells cs) :
  Rel Y X0 roots w0 (DL (BO s (ks.map fun u=>(u,Reg.dead))) dst (.box cs)) (a.put dst (.pointer (some ⟨w.heap.size,0,none⟩))) (w.alloc (.cells cells T)):=by
 cases dst with
 | none=>cases hdst
 | some d =>
  refine D7 h ((Ig _ _).alloc (Ap _) _) (fun t ht => .inl (hks d rfl t ht)) (fun _ b hb=>by simp only[AI,GD,A3,A1] at hb;omega) (fun X h1 _ => ?_);have hc':=(hc.mono (X':=X) (fun b hb=>(h1 b hb).imp id SM)).world (w':=w.alloc (.cells cells T)) (fun b _ hb=>WU _ _ _ hb);refine⟨w.heap.size,rfl,.inl h.below.size,hc.1,cells,T,by show (w.heap.push _)[w.heap.size]? = _;simp,by rw[hc.2.1];omega,fun i hi => ?_⟩;have hs:=hc.2.1;refine⟨cells[i]'(by omega),by rw[B_,Dm],hc'.2.2 i (by omega) hi⟩
theorem M4{t:TypeId}{z:List AV}(h:M3 P t z=true):∃ v,(∀ w,(zeroValue t).run P w = .ok v w)/\∀ (Y X:Nat->Prop) (w:World),D8 Y X w v.cells z:=by
 unfold M3 at h;split at h
 ·rename_i i hi;split at h
  ·rename_i v hv;refine⟨v,fun w=>by simp[zeroValue,typeInfo,program,Fq,hi,hv],fun Y X w => ?_⟩;have:=JZ (Y:=Y) (X:=X) (w:=w) h;simpa using this
  ·cases h
 ·cases h
theorem J'{t:TypeId}{n:Nat}(h:I_ P t n=true):∀ w,(sizeOf t).run P w = .ok n w:=by
 unfold I_ at h;split at h
 ·rename_i i hi;simp only[beq_iff_eq] at h;intro w;simp[sizeOf,typeInfo,program,Fq,hi,h]
 ·cases h
theorem NF(h:Rel Y X0 roots w0 s a w){place:Nat->Option (Nat × Nat)}{pl:Nat->Nat->Nat->Bool}(hpl:∀ i off n,pl i off n=true->place i=some (off,n)) :
  ∀ {parts:List (Nat × Operand)} {ps:List (Nat × Nat × Opd)} {cells:Array Value} {cs cs':List AV},Ma pl parts ps=true->D8 Y (fun b=>X0 b\/XS s a.tmps b) w cells cs->FW s cs ps=some cs' ->
   ∃ cells',K3 place cells (parts.map fun p=>(p.1,a.eval p.2))=some cells'/\D8 Y (fun b=>X0 b\/XS s a.tmps b) w cells' cs'
 | [],[],cells,cs,cs',_,hc,hf=>by
  simp only[FW,A1] at hf;subst hf;exact⟨cells,rfl,hc⟩
 | (i,x)::parts,(off,n,o)::ps,cells,cs,cs',hp,hc,hf=>by
  simp only[Ma,Ad] at hp;obtain⟨⟨h1,h2⟩,h3⟩:=hp;simp only[FW] at hf;cases ho:o.av s with
  | none=>rw[ho] at hf;cases hf
  | some y =>
   rw[ho] at hf;dsimp only at hf;cases hy:Gp y n with
   | none=>rw[hy] at hf;cases hf
   | some ys =>
    rw[hy] at hf;dsimp only at hf;cases hl:C4 cs off ys with
    | none=>rw[hl] at hf;cases hf
    | some cs1 =>
     rw[hl] at hf;dsimp only at hf;obtain⟨hn,hyr⟩:=M2 (CB h h2 ho) hy;obtain⟨cells',e1,e2⟩:=NF h hpl h3 (jI hc hyr hl) hf;refine⟨cells',?_,e2⟩;simp only[C2,K3,hpl i off n h1];have hle:=(LZ hl).1;have hs1:=hc.2.1;have hs2:=hyr.2.1;have hcond:((a.eval x).cells.size ≠ n || off+(a.eval x).cells.size>cells.size)=false:=by
      simp only[ne_eq,SP,decide_eq_false_iff_not,Decidable.not_not,gt_iff_lt,Nat.not_lt];omega
     rw[if_neg (by rw[hcond];simp)];exact e1
 | [],_::_,_,_,_,hp,_,_=>by cases hp
 | _::_,[],_,_,_,hp,_,_=>by cases hp
theorem jL{fs:Array Field}(hall:fs.all (fun f=>(P.info? f.type).isSome)=true):(fs.mapM fun f=>do pure (f.offset,<- sizeOf f.type):Sem (Array (Nat × Nat))).run P w = .ok (fs.map fun f=>(f.offset,P.cellsOf f.type)) w:=by
 have key:∀ (l:List Field),(∀ f∈l,(P.info? f.type).isSome=true)->(l.mapM fun f=>do pure (f.offset,<- sizeOf f.type):Sem (List (Nat × Nat))).run P w = .ok (l.map fun f=>(f.offset,P.cellsOf f.type)) w:=by
  intro l;induction l with
  | nil=>intro _;rfl
  | cons f l ih =>
   intro hl;obtain⟨i,hi⟩:=A_.1 (hl f (By ..));have hsz:(sizeOf f.type).run P w = .ok (P.cellsOf f.type) w:=by simp[sizeOf,typeInfo,program,Fq,hi,JR]
   simp only[L6,AK,hsz,Az,Bk,ih (fun g hg=>hl g (Bi _ hg)),C2]
 have:=key fs.toList (fun f hf=>by simp only[iZ] at hall;exact hall f (by simpa using hf));rw[RH];simp only[A6v,this,Az];congr 1;apply Array.ext';simp
theorem NG{fs:Array Field}{i off n:Nat}(hi:K6 P fs i off n=true):(fs.map fun f=>(f.offset,P.cellsOf f.type))[i]? = some (off,n):=by
 unfold K6 at hi;split at hi
 ·rename_i f hf;simp only[Ad,beq_iff_eq] at hi;obtain⟨rfl,hsz⟩:=hi;unfold I_ at hsz;split at hsz
  ·rename_i ii hii;simp only[beq_iff_eq] at hsz;simp[hf,JR,hii,hsz]
  ·cases hsz
 ·cases hi
theorem tL{vs:Array Value}(h:vs.size=2):∃ x y,vs=#[x,y]:=by
 obtain⟨l⟩:=vs;match l,h with
 | [x,y],_=>exact⟨x,y,rfl⟩
theorem tM{t:TypeId}{parts:List (Nat × Operand)}{o:Opd}{x:Nat}(hk:jJ P t parts o x=true) :
  ∃ a' x',parts=[(0,a'),(1,x')]/\Cb a' o=true/\Cb x' (.t x)=true /\
   ∀ (b:Bool) (u:Value),u.cells=#[u]->∀ w,(Uq t #[(0,.bool b),(1,u)]).run P w = .ok (.agg #[.bool b,u]) w:=by
 unfold jJ at hk;split at hk
 ·rename_i fs a' x' hfs;simp only[Ad,beq_iff_eq] at hk;obtain⟨⟨⟨⟨⟨⟨h1,h2⟩,h3⟩,h4⟩,h5⟩,h6⟩,h7⟩:=hk;refine⟨a',x',rfl,h1,h2,fun b u hu w => ?_⟩;obtain⟨v,hzv,hc⟩:=M4 h6;obtain⟨z0,z1,hz⟩:=tL (hc (fun _=>False) (fun _=>False) w).2.1;have f0:=NG h4;have f1:=NG h5;have hb:(Ue b).cells=#[.bool b]:=rfl;simp only[Uq,AK,hzv,Az,run_underlying hfs,jL h7,hz,K3,f0,f1,hb,hu];rfl
 ·cases hk
theorem tN{t:TypeId}(hk:(match P.underlying t with | some (.struct fs)=>(match fs[1]? with | some f=>f.offset==1&&M1 P f.type 1 true | none=>false) | _=>false)=true)(b:Bool)(u:Value) :
  ∀ w,(tE t (.agg #[.bool b,u]) 1).run P w = .ok u w:=by
 intro w;split at hk
 ·rename_i fs hfs;split at hk
  ·rename_i f hf;simp only[Ad,beq_iff_eq] at hk;obtain⟨h1,h2⟩:=hk;have hag:=(KW h2).1;simp only[tE,AK,run_underlying hfs,Az,hf,asAgg,Bk,h1,part,hag];rfl
  ·cases hk
 ·cases hk
end
end Go.Ai
