/- Texts of the proof of RootOrder: part 2 of 13. -/
import Derived.Laws.Cells
import Derived.Laws.CopyRow
import Derived.Laws.Entries
import Derived.Laws.StructEq
import Derived.Laws.NewFold
import Derived.Test.YtajompaehjkgkaaGreatRod1
namespace Go.Ai
open Go.RowKit
open And renaming left->Ahh
open _root_.Array renaming all_eq_true_iff_forall_mem->lD,getElem?_eq_getElem->DZ,getElem?_eq_none->Ayx,getElem?_setIfInBounds->Qf,getElem?_toList->Azb,length_toList->CQ,mapM_eq_mapM_toList->Sg,size_setIfInBounds->OY
open Bool renaming and_eq_true->Af,false_eq_true->Cj,or_eq_false_iff->GT
open Go renaming undef->B5
open Go.Addr renaming add->A7x
open Go.Builtin renaming max2->Ahy,min2->Ahz
open Go.Instr renaming build->UG,field->vM,fill->KI
open Go.Op renaming intArith->Up,intBits->vO,intCmp->NU,unary->Azi
open Go.Oper renaming upon->FD,wp->FT
open Go.Program renaming cellsOf->Kh
open Go.Result renaming andThen_ok->A1
open Go.RowKit.Below renaming heap_alloc->X2,refl->HF
open Go.Sem renaming run->F4,run_bind->AL,run_map->A8y,run_pure->Bj
open Go.Value renaming bool->Uz
open Go.World renaming setRow->Azg
open List renaming append_assoc->N6,drop->A9v,foldlM->A7z,foldlM_cons->Ahn,foldl_cons->Ahu,getElem?_append_left->AN,getElem?_append_right->AT,getElem?_cons_succ->Azc,getElem?_drop->Bw,getElem?_eq_getElem->Ah,getElem?_eq_some_iff->H7,getElem?_take_of_lt->B9,getElem?_toArray->Sf,getElem_cons_zero->FM,getElem_mem->CY,getElem_of_mem->A8x,getElem_toArray->Zy,length_append->Bf,length_cons->Bz,length_drop->Es,length_take->AB,mapM_cons->LN,map_cons->C8,mem_append->Cc,mem_cons_of_mem->Bh,mem_cons_self->B4,mem_of_mem_drop->EV,mem_of_mem_take->C5,mem_singleton->IF,range->Aq,size_toArray->Ix,take->BD
open Nat renaming add_assoc->DE,add_zero->FP,le_refl->Ap,lt_of_lt_of_le->EW,zero_add->Cs
open Option renaming isSome_iff_exists->Bi,map_none->X3,map_some->A9
open Option.some renaming inj->Mc,injEq->A3
theorem JP{Y X:Nat->Prop}{w:World}{v:Value}{x:AV}(h:Rd Y X w v x)(hd:Lm x=true):v.oneCell'=true/\v.cells=#[v]:=by
 cases h <;> first | exact⟨rfl,rfl⟩ | cases hd
theorem Ht(b o j:Nat):(⟨b,o,none⟩:Addr).add j=⟨b,o+j,none⟩:=by
 unfold A7x;split
 ·rename_i h;subst h;rfl
 ·rfl
def Azf:TypeDesc->Bool
 | .struct _ | .array _ _=>true
 | _=>false
def MF(P:Program)(t:TypeId)(n:Nat)(one:Bool):Bool :=
 match P.underlying t,P.info? t with
 | some d,some i=>i.size==n&&one == !(Azf d)
 | _,_=>false
theorem Lp{P:Program}{t:TypeId}{n:Nat}{one:Bool}(h:MF P t n one=true) :
  (∀ w,(isAgg t).run P w = .ok (!one) w)/\(∀ w,(sizeOf t).run P w = .ok n w):=by
 unfold MF at h;split at h
 ·rename_i d i hd hi;simp only[Af,beq_iff_eq] at h;obtain⟨h1,h2⟩:=h;constructor
  ·intro w;subst h2;simp only[isAgg,AL,run_underlying hd,A1,Bool.not_not];cases d <;> rfl
  ·intro w;simp[sizeOf,typeInfo,program,F4,hi,h1]
 ·cases h
theorem bY{P:Program}{Y X:Nat->Prop}{w:World}{t:TypeId}{n b base off:Nat}{one:Bool}{cs:List AV}{x:AV}(ho:MF P t n one=true)(hm:Gp Y X w b base cs)
  (ht:Bv cs off n one=some x):∃ v,(loadVar t ⟨b,base+off,none⟩).run P w = .ok v w/\Rd Y X w v x:=by
 obtain⟨h1,h2⟩:=Lp ho;obtain⟨hd,hm⟩:=hm;unfold Bv at ht;cases one with
 | true =>
  simp only[if_true] at ht;obtain⟨hlt,hx⟩:=H7.1 ht;obtain⟨v,hc,hr⟩:=hm off hlt;refine⟨v,?_,hx ▸ hr⟩;simp[loadVar,h1,hc]
 | false =>
  simp only[Cj,if_false] at ht;split at ht
  ·rename_i hle;cases ht;let f:Nat->Value:=fun j=>(w.cell? ⟨b,base+off+j,none⟩).getD B5
   have hf:∀ j,j<n->w.cell? ⟨b,base+off+j,none⟩=some (f j)/\∀ h:off+j<cs.length,Rd Y X w (f j) cs[off+j]:=by
    intro j hj;obtain⟨v,hc,hr⟩:=hm (off+j) (by omega);have hc':w.cell? ⟨b,base+off+j,none⟩=some v:=by rw[DE];exact hc
    refine⟨by simp[f,hc'],fun _ => ?_⟩;have:f j=v:=by simp[f,hc']
    rw[this];exact hr
   refine⟨.agg ((Aq n).map f).toArray,?_,?_⟩
   ·have hl:=run_loadCells (P:=P) w ⟨b,base+off,none⟩ n f (fun j hj=>by rw[Ht];exact (hf j hj).1);simp[loadVar,h1,h2,hl]
   ·refine .agg _ _ ?_ (by simp;omega) (fun i h1 h2 => ?_)
    ·intro y hy;exact hd y (EV (C5 hy))
    ·have hi:i<n:=by simpa using h1
     simpa using (hf i hi).2 (by omega)
  ·cases ht
def D8(Y X:Nat->Prop)(w:World)(vs:Array Value)(cs:List AV):Prop :=
 NR cs/\vs.size=cs.length/\∀ (i:Nat) (h1:i<vs.size) (h2:i<cs.length),Rd Y X w vs[i] cs[i]
theorem D8.oneCell{Y X:Nat->Prop}{w:World}{vs:Array Value}{cs:List AV}(h:D8 Y X w vs cs):∀ v∈vs.toList,v.oneCell'=true:=by
 obtain⟨hd,hs,hr⟩:=h;intro v hv;obtain⟨i,hi,rfl⟩:=A8x hv;have hi':i<vs.size:=by simpa using hi
 have:=hr i hi' (by omega);exact (JP this (hd _ (CY _))).1
theorem MG{Y X:Nat->Prop}{w:World}{v:Value}{x:AV}{n:Nat}{ys:List AV}(h:Rd Y X w v x)(hc:Gn x n=some ys):ys.length=n/\D8 Y X w v.cells ys:=by
 have one:Lm x=true->n=1->ys=[x]->ys.length=n/\D8 Y X w v.cells ys:=by
  intro hd hn hy;subst hy hn;refine⟨rfl,?_⟩;rw[(JP h hd).2];refine⟨fun y hy => ?_,rfl,fun i h1 h2 => ?_⟩
  ·simp only[IF] at hy;subst hy;exact hd
  ·have:i=0:=by simp at h2;exact h2
   subst this;exact h
 cases x with
 | agg cs =>
  simp only[Gn] at hc;split at hc
  ·cases hc;cases h with
   | agg vs _ hd hs hr=>exact⟨by assumption,hd,hs,hr⟩
  ·cases hc
 | tup _=>cases hc
 | undef=>cases hc
 | fresh _ _ _=>cases hc
 | frs _ _ _ _=>cases hc
 | pt _=>cases hc
 | fnc _ _=>cases hc
 | int k m=>simp only[Gn] at hc;split at hc <;> cases hc;exact one rfl (by assumption) rfl
 | bool b=>simp only[Gn] at hc;split at hc <;> cases hc;exact one rfl (by assumption) rfl
 | str b=>simp only[Gn] at hc;split at hc <;> cases hc;exact one rfl (by assumption) rfl
 | nil=>simp only[Gn] at hc;split at hc <;> cases hc;exact one rfl (by assumption) rfl
 | sl m cs=>simp only[Gn] at hc;split at hc <;> cases hc;exact one rfl (by assumption) rfl
theorem D8.world{Y X:Nat->Prop}{w w':World}{vs:Array Value}{cs:List AV}(h:D8 Y X w vs cs)(hw:∀ b,¬ X b->b<w.heap.size->w'.heap[b]? = w.heap[b]?):D8 Y X w' vs cs :=
 ⟨h.1,h.2.1,fun i h1 h2=>(h.2.2 i h1 h2).world hw⟩
theorem D8.mono{Y X X':Nat->Prop}{w:World}{vs:Array Value}{cs:List AV}(h:D8 Y X w vs cs)(hX:∀ b,X' b->X b\/w.heap.size<=b):D8 Y X' w vs cs :=
 ⟨h.1,h.2.1,fun i h1 h2=>(h.2.2 i h1 h2).mono hX⟩
theorem D8.get{Y X:Nat->Prop}{w:World}{vs:Array Value}{cs:List AV}(h:D8 Y X w vs cs){i:Nat}{c:AV}(hc:cs[i]? = some c):∃ v,vs[i]? = some v/\Rd Y X w v c:=by
 obtain⟨hlt,he⟩:=H7.1 hc;have hs:=h.2.1;refine⟨vs[i]'(by omega),by rw[DZ],?_⟩;subst he;exact h.2.2 i (by omega) hlt
theorem PG(cs new:List AV)(off i:Nat)(h:off+new.length<=cs.length) :
  (cs.take off++new++cs.drop (off+new.length))[i]? = if i<off then cs[i]? else if i<off+new.length then new[i-off]? else cs[i]? := by
 have ht:(cs.take off).length=off:=by simp;omega
 by_cases h1:i<off
 ·rw[if_pos h1,N6,AN (by omega),B9 h1]
 ·rw[if_neg h1];by_cases h2:i<off+new.length
  ·rw[if_pos h2,AN (by simp;omega),AT (by omega),ht]
  ·rw[if_neg h2,AT (by simp;omega),Bw];congr 1;simp;omega
theorem Mg{cs new cs':List AV}{off:Nat}(h:C6 cs off new=some cs'):off+new.length<=cs.length/\cs'.length=cs.length/\cs'=cs.take off++new++cs.drop (off+new.length):=by
 unfold C6 at h;split at h
 ·cases h;exact⟨by assumption,by simp;omega,rfl⟩
 ·cases h
theorem Yf{cs new cs':List AV}{off:Nat}(h:C6 cs off new=some cs')(hc:NR cs)(hn:NR new):NR cs':=by
 obtain⟨_,_,rfl⟩:=Mg h;intro x hx;simp only[Cc] at hx;rcases hx with (hx | hx) | hx
 ·exact hc x (C5 hx)
 ·exact hn x hx
 ·exact hc x (EV hx)
theorem HK(w:World)(b c:Nat)(cs:Array Value)(h:c ≠ b):(w.setRow b cs).heap[c]? = w.heap[c]? := by
 simp only[Azg,Array.getElem?_modify];rw[if_neg (Ne.symm h)]
theorem Kn(w:World)(b:Nat)(cs:Array Value):(w.setRow b cs).heap.size=w.heap.size:=by
 simp[Azg]
theorem Yg{P:Program}{Y X:Nat->Prop}{w:World}{t:TypeId}{n b off:Nat}{cs ys cs':List AV}{v:Value}(hsz:∀ w,(sizeOf t).run P w = .ok n w)
  (hb:FX Y X w b 0 cs) (hX:X b) (hv:D8 Y X w v.cells ys) (hn:ys.length=n) (hl:C6 cs off ys=some cs') :
  ∃ w',(storeVar t ⟨b,off,none⟩ v).run P w = .ok () w'/\w'.os=w.os/\w'.tape=w.tape/\w'.output=w.output/\w'.heap.size=w.heap.size/\(∀ c,c ≠ b->w'.heap[c]? = w.heap[c]?)/\FX Y X w' b 0 cs'/\∀ m,Tt w b m->Tt w' b m:=by
 obtain⟨hdat,vs,T,hblk,hle,hcell⟩:=hb;obtain⟨hl1,hl2,hl3⟩:=Mg hl;have hvs:v.cells.size=n:=by rw[hv.2.1,hn]
 have hrun:=run_storeCells_at (P:=P) b off T v.cells.toList 0 vs w hblk (by simp only[CQ];omega) hv.oneCell;simp only[FP,CQ,Cs] at hrun hle hcell;refine⟨w.setRow b (BD off vs.toList++v.cells.toList++A9v (off+v.cells.size) vs.toList).toArray,?_,rfl,rfl,rfl,Kn _ _ _,fun c hc=>HK _ _ _ _ hc,⟨Yf hl hdat hv.1,_,T,setRow_heap w b vs _ T (0,0) hblk,?_,?_⟩,?_⟩
 ·simp only[storeVar,AL,hsz,A1,hvs,ne_eq,not_true_eq_false,if_false];rw[hvs] at hrun;exact hrun
 ·simp only[Ix,Bf,AB,Es,CQ,Cs];omega
 ·have hw:∀ c,¬ X c->c<w.heap.size->(w.setRow b (BD off vs.toList++v.cells.toList++A9v (off+v.cells.size) vs.toList).toArray).heap[c]? = w.heap[c]? := fun c hc _=>HK _ _ _ _ (fun e=>hc (e ▸ hX));intro i hi;have hg:cs'[i]? = some cs'[i]:=Ah hi;have e1:=PG cs ys off i hl1;rw[<- hl3,hg] at e1;have hvl:v.cells.toList.length=ys.length:=by simp only[CQ];omega
  have ht:(vs.toList.take off).length=off:=by simp;omega
  simp only[Cs,Sf];by_cases h1:i<off
  ·rw[if_pos h1] at e1;obtain⟨u,hu,hr⟩:=hcell i (by omega);refine⟨u,?_,?_⟩
   ·rw[N6,AN (by omega),B9 h1];simpa using hu
   ·have:cs[i]=cs'[i]:=by rw[Ah (by omega)] at e1;exact (Mc e1).symm
    rw[<- this];exact hr.world hw
  ·rw[if_neg h1] at e1;by_cases h2:i<off+ys.length
   ·rw[if_pos h2] at e1;obtain⟨u,hu,hr⟩:=hv.get e1.symm;refine⟨u,?_,hr.world hw⟩;rw[AN (by simp only[Bf];omega),AT (by omega),ht];simpa using hu
   ·rw[if_neg h2] at e1;obtain⟨u,hu,hr⟩:=hcell i (by omega);refine⟨u,?_,?_⟩
    ·rw[AT (by simp only[Bf];omega),Bw];have e2:off+v.cells.size+(i-(vs.toList.take off++v.cells.toList).length)=i:=by simp only[Bf,ht,hvl];omega
     rw[e2];simpa using hu
    ·have:cs[i]=cs'[i]:=by rw[Ah (by omega)] at e1;exact (Mc e1).symm
     rw[<- this];exact hr.world hw
 ·rintro m ⟨vs',T',r1,r2⟩;rw[hblk] at r1;cases r1;refine⟨_,T,setRow_heap w b vs _ T (0,0) hblk,?_⟩;simp only[Ix,Bf,AB,Es,CQ];omega
theorem lL(off:Nat):∀ (l:List Value) (k:Nat) (cells:Array Value) (i:Nat),
  ((l.zipIdx k).foldl (fun (cs:Array Value) (p:Value × Nat)=>cs.setIfInBounds (off+p.2) p.1) cells)[i]? =
   if off+k<=i/\i<off+k+l.length/\i<cells.size then l[i-(off+k)]? else cells[i]? := by
 intro l;induction l with
 | nil=>intro k cells i;simp;intro h1 h2;omega
 | cons v l ih =>
  intro k cells i;simp only[List.zipIdx_cons,Ahu];rw[ih];simp only[OY,Qf,Bz];by_cases h0:i=off+k
  ·subst h0;by_cases hs:off+k<cells.size
   ·rw[if_neg (by omega),if_pos (by omega),if_pos hs,if_pos (by omega)];simp
   ·rw[if_neg (by omega),if_pos (by omega),if_neg hs,if_neg (by omega),Ayx (by omega)]
  ·by_cases h1:off+(k+1)<=i/\i<off+(k+1)+l.length/\i<cells.size
   ·rw[if_pos h1,if_pos (by omega)];have:i-(off+k)=(i-(off+(k+1)))+1:=by omega
    rw[this,Azc]
   ·rw[if_neg h1,if_neg (by omega),if_neg (by omega)]
theorem lM(off:Nat):∀ (l:List (Value × Nat)) (cells:Array Value),(l.foldl (fun (cs:Array Value) (p:Value × Nat)=>cs.setIfInBounds (off+p.2) p.1) cells).size=cells.size:=by
 intro l;induction l with
 | nil=>intro cells;rfl
 | cons p l ih=>intro cells;simp only[Ahu];rw[ih];simp
theorem lN{Y X:Nat->Prop}{w:World}{cells ys':Array Value}{cs ys cs':List AV}{off:Nat}(hc:D8 Y X w cells cs)(hy:D8 Y X w ys' ys)(hl:C6 cs off ys=some cs') :
  D8 Y X w (ys'.zipIdx.foldl (fun (cs:Array Value) (p:Value × Nat)=>cs.setIfInBounds (off+p.2) p.1) cells) cs':=by
 obtain⟨hl1,hl2,hl3⟩:=Mg hl;have he:ys'.zipIdx.foldl (fun (cs:Array Value) (p:Value × Nat)=>cs.setIfInBounds (off+p.2) p.1) cells=(ys'.toList.zipIdx 0).foldl (fun (cs:Array Value) (p:Value × Nat)=>cs.setIfInBounds (off+p.2) p.1) cells:=by
  rw[<- Array.foldl_toList,Array.toList_zipIdx]
 rw[he];have hsz:=lM off (ys'.toList.zipIdx 0) cells;refine⟨Yf hl hc.1 hy.1,by rw[hsz,hl2];exact hc.2.1,?_⟩;intro i h1 h2;have hg:=lL off ys'.toList 0 cells i;have e1:=PG cs ys off i hl1;rw[<- hl3,Ah h2] at e1;rw[DZ h1] at hg;have hcs:=hc.2.1;have hys:=hy.2.1;have hin:i<cells.size:=by omega
 simp only[FP,CQ] at hg;by_cases h3:off<=i/\i<off+ys'.size
 ·rw[if_pos ⟨h3.1,h3.2,hin⟩] at hg;rw[if_neg (by omega),if_pos (by omega)] at e1;obtain⟨u,hu,hr⟩:=hy.get e1.symm;simp only[Azb,hu,A3] at hg;rw[hg];exact hr
 ·rw[if_neg (by omega)] at hg;have e2:cs[i]? = some cs'[i]:=by
   by_cases h4:i<off
   ·rw[if_pos h4] at e1;exact e1.symm
   ·rw[if_neg h4,if_neg (by omega)] at e1;exact e1.symm
  obtain⟨u,hu,hr⟩:=hc.get e2;rw[hu] at hg;rw[Mc hg];exact hr
def Ra:Value->AV->Bool
 | .int k n,.int k' n'=>k==k'&&n==n'
 | .bool b,.bool b'=>b==b'
 | .string s,.str s'=>decide (s=s')
 | .slice none 0 0,.nil=>true
 | .slice none 0 0,.sl 0 []=>true
 | _,_=>false
theorem Tu{Y X:Nat->Prop}{w:World}{v:Value}{x:AV}(h:Ra v x=true):Rd Y X w v x/\Lm x=true:=by
 unfold Ra at h;split at h
 ·simp only[Af,beq_iff_eq] at h;obtain⟨rfl,rfl⟩:=h;exact⟨.int _ _,rfl⟩
 ·simp only[beq_iff_eq] at h;subst h;exact⟨.bool _,rfl⟩
 ·simp only[decide_eq_true_eq] at h;subst h;exact⟨.str _,rfl⟩
 ·exact⟨.nil,rfl⟩
 ·exact⟨.nil0,rfl⟩
 ·cases h
def Mh:List Value->List AV->Bool
 | [],[]=>true
 | v::vs,x::xs=>Ra v x&&Mh vs xs
 | _,_=>false
theorem Ko{Y X:Nat->Prop}{w:World}:∀ {vs:List Value} {cs:List AV},Mh vs cs=true->D8 Y X w vs.toArray cs
 | [],[],_=>⟨fun x hx=>(by cases hx),rfl,fun i h1 _=>(by simp at h1)⟩
 | v::vs,x::cs,h=>by
  simp only[Mh,Af] at h;obtain⟨h1,h2⟩:=h;obtain⟨hd,hs,hr⟩:=Ko (Y:=Y) (X:=X) (w:=w) h2;obtain⟨hv,hdx⟩:=Tu (Y:=Y) (X:=X) (w:=w) h1;refine⟨fun y hy => ?_,by simp at hs |-;exact hs,fun i h3 h4 => ?_⟩
  ·cases hy with
   | head=>exact hdx
   | tail _ hy=>exact hd y hy
  ·cases i with
   | zero=>simpa using hv
   | succ i =>
    have h5:=hr i (by simp at h3 |-;omega) (by simp at h4 |-;omega);simp only[Zy] at h5;simpa using h5
 | [],_::_,h=>by cases h
 | _::_,[],h=>by cases h
def Cg:Operand->Opd->Bool
 | .tmp t,.t n=>t==n
 | .const v,.c x=>Ra v x
 | _,_=>false
def Jk:List Operand->List Opd->Bool
 | [],[]=>true
 | x::xs,o::os=>Cg x o&&Jk xs os
 | _,_=>false
def MH(P:Program)(t:TypeId)(z:List AV):Bool :=
 match P.info? t with
 | some i=>(match i.zero with | some v=>Mh v.cells.toList z | none=>false)
 | none=>false
def Jl(P:Program)(t:TypeId)(n:Nat):Bool :=
 match P.info? t with
 | some i=>i.size==n
 | none=>false
def KM(P:Program)(fs:Array Field)(i off n:Nat):Bool :=
 match fs[i]? with
 | some f=>f.offset==off&&Jl P f.type n
 | none=>false
def Mi(place:Nat->Nat->Nat->Bool):List (Nat × Operand)->List (Nat × Nat × Opd)->Bool
 | [],[]=>true
 | (i,x)::l,(off,n,o)::m=>place i off n&&Cg x o&&Mi place l m
 | _,_=>false
def Ahv(P:Program)(t:TypeId)(parts:List (Nat × Operand))(z:List AV)(ps:List (Nat × Nat × Opd)):Bool :=
 MH P t z &&
 match P.underlying t with
 | some (.struct fs)=>fs.all (fun f=>(P.info? f.type).isSome)&&Mi (KM P fs) parts ps
 | some (.array _ e)=>(P.info? e).isSome&&Mi (fun i off n=>off==i*P.cellsOf e&&n==P.cellsOf e) parts ps
 | _=>false
def Rb(z:List AV)(zero:List Value):Nat->Bool
 | 0=>z.isEmpty
 | n+1=>Mh zero (z.take zero.length)&&Rb (z.drop zero.length) zero n
def Z3(P:Program)(t:TypeId)(len:Nat)(parts:List (Nat × Operand))(n:Nat)(z:List AV)(ps:List (Nat × Nat × Opd)):Bool :=
 len==n &&
 match P.underlying t with
 | some (.slice e)=>(match P.info? e with
  | some i=>decide (0<i.size)&&decide (len*i.size<=16777216)&&(match i.zero with | some v=>v.cells.size==i.size&&decide (z.length=len*i.size)&&Rb z v.cells.toList len | none=>false) &&
   Mi (fun j off m=>off==j*i.size&&m==i.size) parts ps
  | none=>false)
 | _=>false
def tF(P:Program)(t:TypeId):Bool:=match P.underlying t with | some (.int _)=>true | _=>false
def bZ(P:Program)(t:TypeId):Bool:=match P.underlying t with | some .bool=>true | _=>false
def Z4(P:Program)(args:List Operand)(ts:List TypeId)(x:Opd):Bool :=
 match args,ts with
 | [x'],[t]=>Cg x' x&&(match P.underlying t with | some (.slice _)=>true | _=>false)
 | _,_=>false
def FQ(P:Program)(t:TypeId)(k:Nat):Bool :=
 match P.underlying t with
 | some (.slice e)=>(match P.info? e with
  | some i=>i.size==k&&decide (0<i.size)&&decide (i.bytes<=1048576)&&(match i.zero with | some v=>v.cells.size==i.size | none=>false)
  | none=>false)
 | _=>false
def Z5(P:Program)(t:TypeId)(z:List AV):Bool :=
 match P.underlying t with
 | some (.slice e)=>MH P e z
 | _=>false
def Hu(P:Program)(t:TypeId):Bool:=match P.underlying t with | some (.slice _)=>true | _=>false
def Uy(P:Program)(t:TypeId)(B:Nat):Bool :=
 match P.underlying t with
 | some (.slice e)=>(match P.info? e with
  | some i=>decide (B*i.bytes<=140737488355328)&&decide (B<=140737488355328)
  | none=>false)
 | _=>false
def Ahw(P:Program)(args:List Operand)(ts:List TypeId)(x y:Opd)(k B:Nat):Bool :=
 match args,ts with
 | [x',y'],[t,t']=>Cg x' x&&Cg y' y&&FQ P t k&&Hu P t'&&Uy P t B
 | _,_=>false
def PH:Option Operand->Option Opd->Bool
 | none,none=>true
 | some x,some o=>Cg x o
 | _,_=>false
def tH(P:Program)(f:Nat):Bool:=match P.funcs[f]? with | some fn=>fn.body.isSome && !(fn.name == "runtime.NumGoroutine") | none=>false
def lO(P:Program)(t:TypeId)(parts:List (Nat × Operand))(a:Opd)(x:Nat):Bool :=
 match P.underlying t,parts with
 | some (.struct fs),[(0,a'),(1,x')]=>Cg a' a&&Cg x' (.t x)&&fs.size==2&&KM P fs 0 0 1&&KM P fs 1 1 1&&MH P t [.bool false,.sl 0 []]&&fs.all (fun f=>(P.info? f.type).isSome)
 | _,_=>false
def UQ(op:Op)(x:Nat):Bool:=match op with | .move y=>Cg y (.t x) | .assign y=>Cg y (.t x) | _=>false
def G5(P:Program)(op:Op)(k:K):Bool :=
 match k with
 | .mov y=>(match op with | .move x=>Cg x y | .assign x=>Cg x y | _=>false)
 | .pick c a b=>(match op with | .pick c' a' b'=>Cg c' c&&Cg a' a&&Cg b' b | _=>false)
 | .bin o x y=>(match op with | .binOp o' _ x' y' _=>o'==o&&Cg x' x&&Cg y' y | _=>false)
 | .eqb neg x y=>(match op with | .binOp o' t x' y' _=>o'==(if neg then BinOp.neq else BinOp.eql)&&bZ P t&&Cg x' x&&Cg y' y | _=>false)
 | .un o x=>(match op with | .unOp o' _ x'=>o'==o&&Cg x' x | _=>false)
 | .cv k x=>(match op with | .convert src dst x'=>tF P src&&(match P.underlying dst with | some (.int k')=>k'==k | _=>false)&&Cg x' x | _=>false)
 | .new z _=>(match op with | .alloc t=>MH P t z | _=>false)
 | .box x _=>(match op with | .box _ x'=>Cg x' x | _=>false)
 | .bld z ps=>(match op with | .build t parts=>Ahv P t parts.toList z ps | _=>false)
 | .bls n z ps=>(match op with | .buildSlice t len parts=>Z3 P t len parts.toList n z ps | _=>false)
 | .adr x _ off=>(match op with | .fieldAddr t x' f=>Cg x' (.t x)&&(match P.underlying t with | some (.struct fs)=>(match fs[f]? with | some f=>f.offset==off && !(Jl P f.type 0)&&(P.info? f.type).isSome | none=>false) | _=>false) | _=>false)
 | .ld x _ n one=>(match op with | .load t x'=>Cg x' (.t x)&&MF P t n one | _=>false)
 | .st x _ n v=>(match op with | .store t x' v'=>Cg x' (.t x)&&Jl P t n&&Cg v' v | _=>false)
 | .fld x off n one=>(match op with | .field t x' f=>Cg x' x&&(match P.underlying t with | some (.struct fs)=>(match fs[f]? with | some f=>f.offset==off&&MF P f.type n one | none=>false) | _=>false) | _=>false)
 | .ixa x i k=>(match op with | .indexAddr t x' i'=>Cg x' (.t x)&&Cg i' i&&(match P.underlying t with | some (.slice e)=>Jl P e k | _=>false) | _=>false)
 | .six x i=>(match op with | .index t x' i'=>Cg x' x&&Cg i' i&&(match P.underlying t with | some .string=>true | _=>false) | _=>false)
 | .ext x i=>(match op with | .extract x' i'=>Cg x' x&&i'==i | _=>false)
 | .len x=>(match op with | .call { callee := .builtin .len,args:=args,argTypes:=ts }=>Z4 P args.toList ts.toList x | _=>false)
 | .mx xs=>(match op with | .call { callee := .builtin .max,args:=args,argTypes:=_ }=>Jk args.toList xs | _=>false)
 | .mn xs=>(match op with | .call { callee := .builtin .min,args:=args,argTypes:=_ }=>Jk args.toList xs | _=>false)
 | .call f xs=>(match op with | .call { callee := .value (.func f'),args:=args,argTypes:=_ }=>f'==f&&Jk args.toList xs&&(match P.funcs[f]? with | some fn=>fn.body.isSome && !(fn.name == "runtime.NumGoroutine") | none=>false) | _=>false)
 | .clo f xs=>(match op with | .call { callee := .value (.func f'),args:=args,argTypes:=_ }=>f'==f&&Jk args.toList xs&&(match P.funcs[f]? with | some fn=>fn.body.isSome && !(fn.name == "runtime.NumGoroutine") | none=>false) | _=>false)
 | .brw f x _=>(match op with | .call { callee := .value (.func f'),args:=args,argTypes:=_ }=>f'==f&&Jk args.toList [.t x]&&(match P.funcs[f]? with | some fn=>fn.body.isSome && !(fn.name == "runtime.NumGoroutine") | none=>false) | _=>false)
 | .nlo _=>(match op with | .move (.const (.slice none 0 0))=>true | .assign (.const (.slice none 0 0))=>true | _=>false)
 | .cpy x=>UQ op x
 | .tra x=>UQ op x
 | .frz x=>UQ op x
 | .mks z n=>(match op with | .makeSlice t l c=>Cg l n&&Cg c n&&FQ P t z.length&&Z5 P t z | _=>false)
 | .blo k n z ps=>(match op with | .buildSlice t len parts=>Z3 P t len parts.toList n z ps&&FQ P t k | _=>false)
 | .apd _ x y k B=>(match op with | .call { callee := .builtin .append,args:=args,argTypes:=ts }=>Ahw P args.toList ts.toList x y k B | _=>false)
 | .sli x lo hi mx k=>(match op with | .slice t x' lo' hi' mx'=>Cg x' x&&PH lo' lo&&PH hi' hi&&PH mx' mx&&FQ P t k | _=>false)
 | .ixo x _ i k=>(match op with | .indexAddr t x' i'=>Cg x' (.t x)&&Cg i' i&&FQ P t k | _=>false)
 | .lno x _=>(match op with | .call { callee := .builtin .len,args:=args,argTypes:=ts }=>Z4 P args.toList ts.toList (.t x) | _=>false)
 | .bdo a x _=>(match op with | .build t parts=>lO P t parts.toList a x | _=>false)
 | .cln f xs _=>(match op with | .call { callee := .value (.func f'),args:=args,argTypes:=_ }=>f'==f&&Jk args.toList xs&&tH P f | _=>false)
 | .stl x v=>(match op with | .store t x' v'=>Cg x' (.t x)&&Jl P t 2&&Cg v' (.t v) | _=>false)
 | .fdo x=>(match op with | .field t x' 1=>Cg x' (.t x)&&(match P.underlying t with | some (.struct fs)=>(match fs[1]? with | some f=>f.offset==1&&MF P f.type 1 true | none=>false) | _=>false) | _=>false)
 | .exo x=>(match op with | .extract x' 0=>Cg x' (.t x) | _=>false)
 | .slo x hi k=>(match op with | .slice t x' none (some hi') none=>Cg x' (.t x)&&Cg hi' hi&&FQ P t k | _=>false)
 | .bad=>true
section
variable {P:Program} {Y X0:Nat->Prop} {roots:List (Nat × Nat)} {w0 w:World} {s:Al} {a:Act} {Q:Exit->Act->World->Prop}
theorem CF(h:Rel Y X0 roots w0 s a w){x:Operand}{o:Opd}{y:AV}(hx:Cg x o=true)(ho:o.av s=some y):Rd Y (fun b=>X0 b\/XS s a.tmps b) w (a.eval x) y:=by
 cases o with
 | t n =>
  cases x with
  | tmp m =>
   simp only[Cg,beq_iff_eq] at hx;subst hx;simp only[Opd.av,Opd.reg] at ho;have h0:=h.reg m;cases hr:A5 s m with
   | val z =>
    rw[hr] at ho h0;cases ho;exact h0
   | box _=>rw[hr] at ho;cases ho
   | ptr _ _=>rw[hr] at ho;cases ho
   | mem _=>rw[hr] at ho;cases ho
   | own _ _ _=>rw[hr] at ho;cases ho
   | agn _ _ _ _=>rw[hr] at ho;cases ho
   | bxl _=>rw[hr] at ho;cases ho
   | dup _=>rw[hr] at ho;cases ho
   | sub _ _ _ _=>rw[hr] at ho;cases ho
   | dead=>rw[hr] at ho;cases ho
  | const v=>cases hx
  | global g=>cases hx
  | func f=>cases hx
 | c z =>
  cases x with
  | const v =>
   simp only[Opd.av,Opd.reg,A3] at ho;subst ho;exact (Tu hx).1
  | tmp m=>cases hx
  | global g=>cases hx
  | func f=>cases hx
theorem Mj(h:Rel Y X0 roots w0 s a w):∀ {xs:List Operand} {os:List Opd} {ys:List AV},Jk xs os=true->avs s os=some ys ->
  xs.length=ys.length/\∀ (i:Nat) (h1:i<xs.length) (h2:i<ys.length),Rd Y (fun b=>X0 b\/XS s a.tmps b) w (a.eval xs[i]) ys[i]
 | [],[],ys,_,hy=>by
  simp only[avs,A3] at hy;subst hy;exact⟨rfl,fun i h1 _=>(by simp at h1)⟩
 | x::xs,o::os,ys,hx,hy=>by
  simp only[Jk,Af] at hx;simp only[avs] at hy;cases h1:o.av s with
  | none=>rw[h1] at hy;cases hy
  | some y =>
   rw[h1] at hy;cases h2:avs s os with
   | none=>rw[h2] at hy;cases hy
   | some ys' =>
    rw[h2] at hy;cases hy;obtain⟨e1,e2⟩:=Mj h hx.2 h2;refine⟨by simp[e1],fun i h3 h4 => ?_⟩;cases i with
    | zero=>exact CF h hx.1 h1
    | succ i=>exact e2 i (by simpa using h3) (by simpa using h4)
 | [],_::_,_,hx,_=>by cases hx
 | _::_,[],_,hx,_=>by cases hx
theorem Rel.lowYw(h:Rel Y X0 roots w0 s a w):∀ b,Y b->b<w.heap.size:=fun b hb=>EW (h.lowY b hb) h.below.size
theorem Rel.lowX(h:Rel Y X0 roots w0 s a w):∀ b,(X0 b\/XS s a.tmps b)->b<w.heap.size:=by
 rintro b (hb | ⟨t,h1,h2⟩)
 ·exact EW (h.low b hb) h.below.size
 ·exact (h.exclLow h1 h2).2
def cA(s:Al)(roots:List (Nat × Nat))(dst:Option Nat):Prop:=∀ d,dst=some d->∀ t,(t,d)∈roots->F3 (A5 s t)=false
theorem Rel.put(h:Rel Y X0 roots w0 s a w){dst:Option Nat}{v:Value}{x:AV}(hf:cA s roots dst)(hr:Rd Y (fun b=>X0 b\/XS s a.tmps b) w v x):Rel Y X0 roots w0 (Ea s dst (.val x)) (a.put dst v) w:=by
 cases dst with
 | none=>exact h
 | some d =>
  refine D7 (ks:=[]) h (HF _ _) (fun t ht => .inr (hf d rfl t ht)) (fun he=>(by cases he)) (fun X _ h2 => ?_);exact hr.mono fun b hb => .inl (h2 rfl b hb)
theorem NS(h:Rel Y X0 roots w0 s a w){dst:Option Nat}{b off:Nat}{cs:List AV}(hf:cA s roots dst)(hX:cs ≠ []->¬ (X0 b\/XS s a.tmps b))(hr:Gp Y (fun b=>X0 b\/XS s a.tmps b) w b off cs) :
  Rel Y X0 roots w0 (Ea s dst (.mem cs)) (a.put dst (.pointer (some ⟨b,off,none⟩))) w:=by
 cases dst with
 | none=>exact h
 | some d =>
  refine D7 (ks:=[]) h (HF _ _) (fun t ht => .inr (hf d rfl t ht)) (fun he=>(by cases he)) (fun X _ h2 => ?_);exact⟨b,off,rfl,fun hne hx=>hX hne (h2 rfl b hx),hr.mono fun b hb => .inl (h2 rfl b hb)⟩
theorem NT(h:Rel Y X0 roots w0 s a w){dst:Option Nat}{d off:Nat}{p:Addr}(hf:cA s roots dst)(hroot:∀ t,dst=some t->(t,d)∈roots/\t ≠ d)(hd:HT (a.tmps.getD d B5)=some p)(hs:p.spot=none) :
  Rel Y X0 roots w0 (Ea s dst (.ptr d off)) (a.put dst (.pointer (some ⟨p.block,p.off+off,none⟩))) w:=by
 cases dst with
 | none=>exact h
 | some t =>
  refine D7 (ks:=[]) h (HF _ _) (fun u hu => .inr (hf t rfl u hu)) (fun he=>(by cases he)) (fun X _ _ => ?_);refine⟨(hroot t rfl).1,p,?_,hs,rfl⟩;rw[Mf,if_neg]
  ·exact hd
  ·rintro⟨rfl,_⟩;exact (hroot t rfl).2 rfl
theorem Rel.putDup(h:Rel Y X0 roots w0 s a w){dst:Option Nat}{d:Nat}(hf:cA s roots dst)(hroot:∀ t,dst=some t->(t,d)∈roots/\t ≠ d) :
  Rel Y X0 roots w0 (Ea s dst (.dup d)) (a.put dst (a.tmps.getD d B5)) w:=by
 cases dst with
 | none=>exact h
 | some t =>
  refine D7 (ks:=[]) h (HF _ _) (fun u hu => .inr (hf t rfl u hu)) (fun he=>(by cases he)) (fun X _ _ => ?_);refine⟨(hroot t rfl).1,?_⟩;rw[Mf,if_neg];rintro⟨rfl,_⟩;exact (hroot t rfl).2 rfl
theorem B6{o:Oper}{v:Value}{K:Act->World->Prop}(hrun:(execOp a.eval o).run P w = .ok (.value v) w)(h:K (a.put o.dst v) w):o.wp P a w K Q:=by
 simp only[FT,hrun,FD];exact h
def KN(Y X:Nat->Prop)(B:Nat)(w':World)(v:Value):AV->Prop
 | .fresh k n cs=>FY Y (fun c=>X c\/Bq v=some c) B w' v k n cs
 | .frs b k n cs=>JO Y (fun c=>X c\/Bq v=some c) B w' v b k n cs
 | x=>Rd Y X w' v x
theorem KN.of_rd{Y X:Nat->Prop}{B:Nat}{w':World}{v:Value}{x:AV}(h:Rd Y X w' v x):KN Y X B w' v x:=by
 cases h <;> simp only[KN] <;> first | exact .int _ _ | exact .bool _ | exact .str _ | exact .undef | exact .nil | exact .nil0 | exact .e0 _ _ | (apply Rd.agg <;> assumption) | (apply Rd.tup <;> assumption) | (apply Rd.sl <;> assumption) | (apply Rd.pt <;> assumption) | (apply Rd.fnc <;> assumption)
theorem KN.thawed{Y X:Nat->Prop}{B:Nat}{w':World}{v:Value}{x:AV}(h:KN Y X B w' v x)(hX:∀ b,X b->b<B)(hY:∀ b,Y b->b<B):Rd Y X w' v (KK x):=by
 cases x
 case fresh k n cs =>
  simp only[KN] at h;refine FY.frozen h (fun b hb => .inl (.inl hb)) (fun b hb hXb => ?_) hY;have h1:=(FY.block h hb).1;have:=hX b hXb;omega
 case frs bb k n cs =>
  simp only[KN] at h;obtain⟨u,rfl,h⟩:=h;have hu:Rd Y X w' u (.sl n cs):=by
   refine FY.frozen h (fun b hb => .inl (.inl hb)) (fun b hb hXb => ?_) hY;have h1:=(FY.block h hb).1;have:=hX b hXb;omega
  cases bb with
  | st b=>exact lJ hu
  | tp b =>
   refine Rd.tup #[u,.bool b] [.sl n cs,.bool b] rfl fun i h1 h2 => ?_;match i,h2 with
   | 0,_=>exact hu
   | 1,_=>exact Rd.bool b
 all_goals exact h
def Lq(P:Program)(F:BM):Prop :=
 ∀ (f:Nat) (args:List AV) (x:AV),F f args=some x->∀ (Y X:Nat->Prop) (w:World) (vs:Array Value),(∀ b,X b->b<w.heap.size)->(∀ b,Y b->b<w.heap.size)->vs.size=args.length ->
  (∀ (i:Nat) (h1:i<vs.size) (h2:i<args.length),Rd Y X w vs[i] args[i]) ->
  Calls P f vs w fun e w'=>∃ v,e = .returned v/\Below w.heap.size w w'/\KN Y X w.heap.size w' v x
end
section
variable {P:Program} {Y X0:Nat->Prop} {roots:List (Nat × Nat)} {w0 w:World} {s:Al} {a:Act} {Q:Exit->Act->World->Prop}
theorem Si(op:BinOp)(t:TypeId)(x y:Operand)(k k':IntKind)(m m':Int):(eqGuard op t x y (.int k m) (.int k' m')).run P w = .ok () w:=by
 cases op <;> rfl
theorem Lr(op:BinOp)(t:TypeId)(x y:Operand)(m m':Bool):(eqGuard op t x y (.bool m) (.bool m')).run P w = .ok () w:=by
 cases op <;> rfl
theorem Ahx{op:BinOp}{t:TypeId}{k k':IntKind}{m m':Int}{z:AV}{Y X:Nat->Prop}(h:Md op (.int k m) (.int k' m')=some z) :
  ∃ v,(binOp op t (.int k m) (.int k' m')).run P w = .ok v w/\Rd Y X w v z:=by
 simp only[Md] at h;split at h
 ·rename_i hs;unfold Q_ at h;split at h
  ·cases h
  ·rename_i hn;cases op <;> simp only[J1,Cj] at hs <;> simp only[A3] at h <;> subst h
   ·exact⟨_,by simp[binOp,Op.shift,hn],.int _ _⟩
   ·exact⟨_,by simp[binOp,Op.shift,hn],.int _ _⟩
 ·rename_i hs;split at h
  ·rename_i hk;subst hk;cases op <;> simp only[J1,not_true_eq_false] at hs <;> simp only[bL,Aht,LP,A9,X3,A3] at h
   case quo =>
    split at h
    ·cases h
    ·rename_i h0;cases h;exact⟨_,by simp[binOp,Op.intDiv,h0],.int _ _⟩
   case rem =>
    split at h
    ·cases h
    ·rename_i h0;cases h;exact⟨_,by simp[binOp,Op.intDiv,h0],.int _ _⟩
   case andNot=>cases h
   case add=>subst h;exact⟨_,by simp[binOp,Up],.int _ _⟩
   case sub=>subst h;exact⟨_,by simp[binOp,Up],.int _ _⟩
   case mul=>subst h;exact⟨_,by simp[binOp,Up],.int _ _⟩
   case and=>subst h;exact⟨_,by simp only[binOp,vO,ne_eq,not_true_eq_false,if_false];rfl,.int _ _⟩
   case or=>subst h;exact⟨_,by simp only[binOp,vO,ne_eq,not_true_eq_false,if_false];rfl,.int _ _⟩
   case xor=>subst h;exact⟨_,by simp only[binOp,vO,ne_eq,not_true_eq_false,if_false];rfl,.int _ _⟩
   case eql=>subst h;exact⟨_,by simp only[binOp,NU,ne_eq,not_true_eq_false,if_false];rfl,.bool _⟩
   case neq=>subst h;exact⟨_,by simp only[binOp,NU,ne_eq,not_true_eq_false,if_false];rfl,.bool _⟩
   case lss=>subst h;exact⟨_,by simp only[binOp,NU,ne_eq,not_true_eq_false,if_false];rfl,.bool _⟩
   case leq=>subst h;exact⟨_,by simp only[binOp,NU,ne_eq,not_true_eq_false,if_false];rfl,.bool _⟩
   case gtr=>subst h;exact⟨_,by simp only[binOp,NU,ne_eq,not_true_eq_false,if_false];rfl,.bool _⟩
   case geq=>subst h;exact⟨_,by simp only[binOp,NU,ne_eq,not_true_eq_false,if_false];rfl,.bool _⟩
  ·cases h
theorem Azh{op:UnOp}{u:Value}{x z:AV}{Y X:Nat->Prop}(hu:Rd Y X w u x)(h:unA op x=some z):∃ v,(Azi op u).run P w = .ok v w/\Rd Y X w v z:=by
 unfold unA at h;split at h
 ·cases hu;simp only[A3] at h;subst h;exact⟨_,by simp[Azi,Up],.int _ _⟩
 ·cases hu;simp only[A3] at h;subst h;exact⟨_,by simp[Azi],.bool _⟩
 ·cases h
theorem vP(k:IntKind)(x y:Int):(Ahy (.int k x) (.int k y)).run P w = .ok (.int k (if y>x then y else x)) w:=rfl
theorem vQ(k:IntKind)(x y:Int):(Ahz (.int k x) (.int k y)).run P w = .ok (.int k (if y<x then y else x)) w:=rfl
theorem cB{Y X:Nat->Prop}{k:IntKind}:∀ {vs:List Value} {l:List AV} {m r:Int},vs.length=l.length->(∀ (i:Nat) (h1:i<vs.length) (h2:i<l.length),Rd Y X w vs[i] l[i])->Ya k m l=some r ->
  (A7z Ahy (.int k m) vs:Sem Value).run P w = .ok (.int k r) w
 | [],[],m,r,_,_,h=>by simp only[Ya,A3] at h;subst h;rfl
 | v::vs,x::l,m,r,hl,hr,h=>by
  have h0:=hr 0 (by simp) (by simp);simp only[FM] at h0;cases x <;> simp only[Ya] at h <;> try cases h
  rename_i k' n;split at h
  ·rename_i hk;subst hk;cases h0;have ih:=cB (vs:=vs) (l:=l) (by simpa using hl) (fun i h1 h2=>hr (i+1) (by simp;omega) (by simp;omega)) h;simp only[Ahn,AL,vP,A1];exact ih
  ·cases h
 | [],_::_,_,_,hl,_,_=>by simp at hl
 | _::_,[],_,_,hl,_,_=>by simp at hl
theorem cC{Y X:Nat->Prop}{k:IntKind}:∀ {vs:List Value} {l:List AV} {m r:Int},vs.length=l.length->(∀ (i:Nat) (h1:i<vs.length) (h2:i<l.length),Rd Y X w vs[i] l[i])->Yb k m l=some r ->
  (A7z Ahz (.int k m) vs:Sem Value).run P w = .ok (.int k r) w
 | [],[],m,r,_,_,h=>by simp only[Yb,A3] at h;subst h;rfl
 | v::vs,x::l,m,r,hl,hr,h=>by
  have h0:=hr 0 (by simp) (by simp);simp only[FM] at h0;cases x <;> simp only[Yb] at h <;> try cases h
  rename_i k' n;split at h
  ·rename_i hk;subst hk;cases h0;have ih:=cC (vs:=vs) (l:=l) (by simpa using hl) (fun i h1 h2=>hr (i+1) (by simp;omega) (by simp;omega)) h;simp only[Ahn,AL,vQ,A1];exact ih
  ·cases h
 | [],_::_,_,_,hl,_,_=>by simp at hl
 | _::_,[],_,_,hl,_,_=>by simp at hl
theorem NV(h:Rel Y X0 roots w0 s a w){dst:Option Nat}{cells:Array Value}{cs:List AV}{T:TypeId}{ks:List Nat}(hks:∀ d,dst=some d->∀ t,(t,d)∈roots->t∈ks)
  (hdst:dst.isSome=true) (hc:D8 Y (fun b=>X0 b\/XS s a.tmps b) w cells cs) :
  Rel Y X0 roots w0 (Ea (Cd s (ks.map fun u=>(u,Reg.dead))) dst (.box cs)) (a.put dst (.pointer (some ⟨w.heap.size,0,none⟩))) (w.alloc (.cells cells T)):=by
 cases dst with
 | none=>cases hdst
 | some d =>
  refine D7 h ((HF _ _).alloc (Ap _) _) (fun t ht => .inl (hks d rfl t ht)) (fun _ b hb=>by simp only[Bq,HT,A9,A3] at hb;omega) (fun X h1 _ => ?_);have hc':=(hc.mono (X':=X) (fun b hb=>(h1 b hb).imp id Ahh)).world (w':=w.alloc (.cells cells T)) (fun b _ hb=>X2 _ _ _ hb);refine⟨w.heap.size,rfl,h.below.size,hc.1,cells,T,by show (w.heap.push _)[w.heap.size]? = _;simp,by rw[hc.2.1];omega,fun i hi => ?_⟩;have hs:=hc.2.1;refine⟨cells[i]'(by omega),by rw[Cs,DZ],hc'.2.2 i (by omega) hi⟩
theorem MI{t:TypeId}{z:List AV}(h:MH P t z=true):∃ v,(∀ w,(zeroValue t).run P w = .ok v w)/\∀ (Y X:Nat->Prop) (w:World),D8 Y X w v.cells z:=by
 unfold MH at h;split at h
 ·rename_i i hi;split at h
  ·rename_i v hv;refine⟨v,fun w=>by simp[zeroValue,typeInfo,program,F4,hi,hv],fun Y X w => ?_⟩;have:=Ko (Y:=Y) (X:=X) (w:=w) h;simpa using this
  ·cases h
 ·cases h
theorem Kp{t:TypeId}{n:Nat}(h:Jl P t n=true):∀ w,(sizeOf t).run P w = .ok n w:=by
 unfold Jl at h;split at h
 ·rename_i i hi;simp only[beq_iff_eq] at h;intro w;simp[sizeOf,typeInfo,program,F4,hi,h]
 ·cases h
theorem NW(h:Rel Y X0 roots w0 s a w){place:Nat->Option (Nat × Nat)}{pl:Nat->Nat->Nat->Bool}(hpl:∀ i off n,pl i off n=true->place i=some (off,n)) :
  ∀ {parts:List (Nat × Operand)} {ps:List (Nat × Nat × Opd)} {cells:Array Value} {cs cs':List AV},Mi pl parts ps=true->D8 Y (fun b=>X0 b\/XS s a.tmps b) w cells cs->FV s cs ps=some cs' ->
   ∃ cells',KI place cells (parts.map fun p=>(p.1,a.eval p.2))=some cells'/\D8 Y (fun b=>X0 b\/XS s a.tmps b) w cells' cs'
 | [],[],cells,cs,cs',_,hc,hf=>by
  simp only[FV,A3] at hf;subst hf;exact⟨cells,rfl,hc⟩
 | (i,x)::parts,(off,n,o)::ps,cells,cs,cs',hp,hc,hf=>by
  simp only[Mi,Af] at hp;obtain⟨⟨h1,h2⟩,h3⟩:=hp;simp only[FV] at hf;cases ho:o.av s with
  | none=>rw[ho] at hf;cases hf
  | some y =>
   rw[ho] at hf;dsimp only at hf;cases hy:Gn y n with
   | none=>rw[hy] at hf;cases hf
   | some ys =>
    rw[hy] at hf;dsimp only at hf;cases hl:C6 cs off ys with
    | none=>rw[hl] at hf;cases hf
    | some cs1 =>
     rw[hl] at hf;dsimp only at hf;obtain⟨hn,hyr⟩:=MG (CF h h2 ho) hy;obtain⟨cells',e1,e2⟩:=NW h hpl h3 (lN hc hyr hl) hf;refine⟨cells',?_,e2⟩;simp only[C8,KI,hpl i off n h1];have hle:=(Mg hl).1;have hs1:=hc.2.1;have hs2:=hyr.2.1;have hcond:((a.eval x).cells.size ≠ n || off+(a.eval x).cells.size>cells.size)=false:=by
      simp only[ne_eq,GT,decide_eq_false_iff_not,Decidable.not_not,gt_iff_lt,Nat.not_lt];omega
     rw[if_neg (by rw[hcond];simp)];exact e1
 | [],_::_,_,_,_,hp,_,_=>by cases hp
 | _::_,[],_,_,_,hp,_,_=>by cases hp
theorem lP{fs:Array Field}(hall:fs.all (fun f=>(P.info? f.type).isSome)=true):(fs.mapM fun f=>do pure (f.offset,<- sizeOf f.type):Sem (Array (Nat × Nat))).run P w = .ok (fs.map fun f=>(f.offset,P.cellsOf f.type)) w:=by
 have key:∀ (l:List Field),(∀ f∈l,(P.info? f.type).isSome=true)->(l.mapM fun f=>do pure (f.offset,<- sizeOf f.type):Sem (List (Nat × Nat))).run P w = .ok (l.map fun f=>(f.offset,P.cellsOf f.type)) w:=by
  intro l;induction l with
  | nil=>intro _;rfl
  | cons f l ih =>
   intro hl;obtain⟨i,hi⟩:=Bi.1 (hl f (B4 ..));have hsz:(sizeOf f.type).run P w = .ok (P.cellsOf f.type) w:=by simp[sizeOf,typeInfo,program,F4,hi,Kh]
   simp only[LN,AL,hsz,A1,Bj,ih (fun g hg=>hl g (Bh _ hg)),C8]
 have:=key fs.toList (fun f hf=>by simp only[lD] at hall;exact hall f (by simpa using hf));rw[Sg];simp only[A8y,this,A1];congr 1;apply Array.ext';simp
theorem NX{fs:Array Field}{i off n:Nat}(hi:KM P fs i off n=true):(fs.map fun f=>(f.offset,P.cellsOf f.type))[i]? = some (off,n):=by
 unfold KM at hi;split at hi
 ·rename_i f hf;simp only[Af,beq_iff_eq] at hi;obtain⟨rfl,hsz⟩:=hi;unfold Jl at hsz;split at hsz
  ·rename_i ii hii;simp only[beq_iff_eq] at hsz;simp[hf,Kh,hii,hsz]
  ·cases hsz
 ·cases hi
theorem vR{vs:Array Value}(h:vs.size=2):∃ x y,vs=#[x,y]:=by
 obtain⟨l⟩:=vs;match l,h with
 | [x,y],_=>exact⟨x,y,rfl⟩
theorem vS{t:TypeId}{parts:List (Nat × Operand)}{o:Opd}{x:Nat}(hk:lO P t parts o x=true) :
  ∃ a' x',parts=[(0,a'),(1,x')]/\Cg a' o=true/\Cg x' (.t x)=true /\
   ∀ (b:Bool) (u:Value),u.cells=#[u]->∀ w,(UG t #[(0,.bool b),(1,u)]).run P w = .ok (.agg #[.bool b,u]) w:=by
 unfold lO at hk;split at hk
 ·rename_i fs a' x' hfs;simp only[Af,beq_iff_eq] at hk;obtain⟨⟨⟨⟨⟨⟨h1,h2⟩,h3⟩,h4⟩,h5⟩,h6⟩,h7⟩:=hk;refine⟨a',x',rfl,h1,h2,fun b u hu w => ?_⟩;obtain⟨v,hzv,hc⟩:=MI h6;obtain⟨z0,z1,hz⟩:=vR (hc (fun _=>False) (fun _=>False) w).2.1;have f0:=NX h4;have f1:=NX h5;have hb:(Uz b).cells=#[.bool b]:=rfl;simp only[UG,AL,hzv,A1,run_underlying hfs,lP h7,hz,KI,f0,f1,hb,hu];rfl
 ·cases hk
theorem vT{t:TypeId}(hk:(match P.underlying t with | some (.struct fs)=>(match fs[1]? with | some f=>f.offset==1&&MF P f.type 1 true | none=>false) | _=>false)=true)(b:Bool)(u:Value) :
  ∀ w,(vM t (.agg #[.bool b,u]) 1).run P w = .ok u w:=by
 intro w;split at hk
 ·rename_i fs hfs;split at hk
  ·rename_i f hf;simp only[Af,beq_iff_eq] at hk;obtain⟨h1,h2⟩:=hk;have hag:=(Lp h2).1;simp only[vM,AL,run_underlying hfs,A1,hf,asAgg,Bj,h1,part,hag];rfl
  ·cases hk
 ·cases hk
end
end Go.Ai
