/- Texts of the proof of EntryOrder: part 2 of 14. -/
import Derived.Laws.Cells
import Derived.Laws.CopyRow
import Derived.Laws.Entries
import Derived.Laws.StructEq
import Derived.Laws.NewFold
import Derived.Test.YtajompaehjkgkaaGreatEor1
namespace Go.Ai
open Go.RowKit
open And renaming left->Anq
open _root_.Array renaming all_eq_true_iff_forall_mem->sC,getElem?_eq_getElem->D8,getElem?_eq_none->A3x,getElem?_setIfInBounds->SK,getElem?_toList->A3z,length_toList->CW,mapM_eq_mapM_toList->UW,size_setIfInBounds->R4
open Bool renaming and_eq_true->Af,false_eq_true->B_,or_eq_false_iff->ACk
open Go renaming undef->Bq
open Go.Addr renaming add->ACm
open Go.Builtin renaming max2->Aof,min2->Aog
open Go.Instr renaming build->X1,field->Adj,fill->Mn
open Go.Op renaming intArith->W_,intBits->Adm,intCmp->Qk,unary->A4f
open Go.Oper renaming upon->ET,wp->Fz
open Go.Program renaming cellsOf->L5
open Go.Result renaming andThen_ok->A3
open Go.RowKit.Below renaming heap_alloc->ZM,refl->If
open Go.Sem renaming run->Ge,run_bind->AQ,run_map->AEf,run_pure->Br
open Go.Value renaming bool->Xl
open Go.World renaming setRow->A4d
open List renaming append_assoc->L0,drop->g,foldlM->ACo,foldlM_cons->Anw,foldl_cons->Aoc,getElem?_append_left->AZ,getElem?_append_right->Bk,getElem?_cons_succ->A4a,getElem?_drop->Bu,getElem?_eq_getElem->Ad,getElem?_eq_some_iff->FY,getElem?_take_of_lt->B8,getElem?_toArray->UV,getElem_cons_zero->Gy,getElem_mem->AM,getElem_of_mem->Hq,getElem_toArray->fD,length_append->AY,length_cons->B0,length_drop->CV,length_take->AD,mapM_cons->N5,map_cons->Cx,mem_append->Bn,mem_cons_of_mem->AT,mem_cons_self->AO,mem_of_mem_drop->Eh,mem_of_mem_take->BT,mem_singleton->C3,range->Aq,size_toArray->Jr,take->Bx
open Nat renaming add_assoc->DW,add_zero->EJ,le_refl->Ao,lt_of_lt_of_le->CG,lt_of_not_le->JH,zero_add->Cb
open Option renaming isSome_iff_exists->Bf,map_none->Qd,map_some->AF
open Option.some renaming inj->NP,injEq->A9
theorem Lj{Y X:Nat->Prop}{w:World}{v:Value}{x:AV}(h:Rd Y X w v x)(hd:MP x=true):v.oneCell'=true/\v.cells=#[v]:=by
 cases h <;> first | exact⟨rfl,rfl⟩ | cases hd
theorem Hs(b o j:Nat):(⟨b,o,none⟩:Addr).add j=⟨b,o+j,none⟩:=by
 unfold ACm;split
 ·rename_i h;subst h;rfl
 ·rfl
def Aba:TypeDesc->Bool
 | .struct _ | .array _ _=>true
 | _=>false
def OB(P:Program)(t:TypeId)(n:Nat)(one:Bool):Bool :=
 match P.underlying t,P.info? t with
 | some d,some i=>i.size==n&&one == !(Aba d)
 | _,_=>false
theorem MS{P:Program}{t:TypeId}{n:Nat}{one:Bool}(h:OB P t n one=true) :
  (∀ w,(isAgg t).run P w = .ok (!one) w)/\(∀ w,(sizeOf t).run P w = .ok n w):=by
 unfold OB at h;split at h
 ·rename_i d i hd hi;simp only[Af,beq_iff_eq] at h;obtain⟨h1,h2⟩:=h;constructor
  ·intro w;subst h2;simp only[isAgg,AQ,run_underlying hd,A3,Bool.not_not];cases d <;> rfl
  ·intro w;simp[sizeOf,typeInfo,program,Ge,hi,h1]
 ·cases h
theorem jY{P:Program}{Y X:Nat->Prop}{w:World}{t:TypeId}{n b base off:Nat}{one:Bool}{cs:List AV}{x:AV}(ho:OB P t n one=true)(hm:FX Y X w b base cs)
  (ht:Bj cs off n one=some x):∃ v,(loadVar t ⟨b,base+off,none⟩).run P w = .ok v w/\Rd Y X w v x:=by
 obtain⟨h1,h2⟩:=MS ho;obtain⟨hd,hm⟩:=hm;unfold Bj at ht;cases one with
 | true =>
  simp only[if_true] at ht;obtain⟨hlt,hx⟩:=FY.1 ht;obtain⟨v,hc,hr⟩:=hm off hlt;refine⟨v,?_,hx ▸ hr⟩;simp[loadVar,h1,hc]
 | false =>
  simp only[B_,if_false] at ht;split at ht
  ·rename_i hle;cases ht;let f:Nat->Value:=fun j=>(w.cell? ⟨b,base+off+j,none⟩).getD Bq
   have hf:∀ j,j<n->w.cell? ⟨b,base+off+j,none⟩=some (f j)/\∀ h:off+j<cs.length,Rd Y X w (f j) cs[off+j]:=by
    intro j hj;obtain⟨v,hc,hr⟩:=hm (off+j) (by omega);have hc':w.cell? ⟨b,base+off+j,none⟩=some v:=by rw[DW];exact hc
    refine⟨by simp[f,hc'],fun _ => ?_⟩;have:f j=v:=by simp[f,hc']
    rw[this];exact hr
   refine⟨.agg ((Aq n).map f).toArray,?_,?_⟩
   ·have hl:=run_loadCells (P:=P) w ⟨b,base+off,none⟩ n f (fun j hj=>by rw[Hs];exact (hf j hj).1);simp[loadVar,h1,h2,hl]
   ·refine .agg _ _ ?_ (by simp;omega) (fun i h1 h2 => ?_)
    ·intro y hy;exact hd y (Eh (BT hy))
    ·have hi:i<n:=by simpa using h1
     simpa using (hf i hi).2 (by omega)
  ·cases ht
def DN(Y X:Nat->Prop)(w:World)(vs:Array Value)(cs:List AV):Prop :=
 Qg cs/\vs.size=cs.length/\∀ (i:Nat) (h1:i<vs.size) (h2:i<cs.length),Rd Y X w vs[i] cs[i]
theorem DN.oneCell{Y X:Nat->Prop}{w:World}{vs:Array Value}{cs:List AV}(h:DN Y X w vs cs):∀ v∈vs.toList,v.oneCell'=true:=by
 obtain⟨hd,hs,hr⟩:=h;intro v hv;obtain⟨i,hi,rfl⟩:=Hq hv;have hi':i<vs.size:=by simpa using hi
 have:=hr i hi' (by omega);exact (Lj this (hd _ (AM _))).1
theorem OC{Y X:Nat->Prop}{w:World}{v:Value}{x:AV}{n:Nat}{ys:List AV}(h:Rd Y X w v x)(hc:GU x n=some ys):ys.length=n/\DN Y X w v.cells ys:=by
 have one:MP x=true->n=1->ys=[x]->ys.length=n/\DN Y X w v.cells ys:=by
  intro hd hn hy;subst hy hn;refine⟨rfl,?_⟩;rw[(Lj h hd).2];refine⟨fun y hy => ?_,rfl,fun i h1 h2 => ?_⟩
  ·simp only[C3] at hy;subst hy;exact hd
  ·have:i=0:=by simp at h2;exact h2
   subst this;exact h
 cases x with
 | agg cs =>
  simp only[GU] at hc;split at hc
  ·cases hc;cases h with
   | agg vs _ hd hs hr=>exact⟨by assumption,hd,hs,hr⟩
  ·cases hc
 | tup _=>cases hc
 | undef=>cases hc
 | fresh _ _ _=>cases hc
 | frs _ _ _ _=>cases hc
 | pt _=>cases hc
 | fnc _ _=>cases hc
 | int k m=>simp only[GU] at hc;split at hc <;> cases hc;exact one rfl (by assumption) rfl
 | bool b=>simp only[GU] at hc;split at hc <;> cases hc;exact one rfl (by assumption) rfl
 | str b=>simp only[GU] at hc;split at hc <;> cases hc;exact one rfl (by assumption) rfl
 | nil=>simp only[GU] at hc;split at hc <;> cases hc;exact one rfl (by assumption) rfl
 | sl m cs=>simp only[GU] at hc;split at hc <;> cases hc;exact one rfl (by assumption) rfl
theorem DN.world{Y X:Nat->Prop}{w w':World}{vs:Array Value}{cs:List AV}(h:DN Y X w vs cs)(hw:∀ b,¬ X b->b<w.heap.size->w'.heap[b]? = w.heap[b]?):DN Y X w' vs cs :=
 ⟨h.1,h.2.1,fun i h1 h2=>(h.2.2 i h1 h2).world hw⟩
theorem DN.mono{Y X X':Nat->Prop}{w:World}{vs:Array Value}{cs:List AV}(h:DN Y X w vs cs)(hX:∀ b,X' b->X b\/w.heap.size<=b):DN Y X' w vs cs :=
 ⟨h.1,h.2.1,fun i h1 h2=>(h.2.2 i h1 h2).mono hX⟩
theorem DN.get{Y X:Nat->Prop}{w:World}{vs:Array Value}{cs:List AV}(h:DN Y X w vs cs){i:Nat}{c:AV}(hc:cs[i]? = some c):∃ v,vs[i]? = some v/\Rd Y X w v c:=by
 obtain⟨hlt,he⟩:=FY.1 hc;have hs:=h.2.1;refine⟨vs[i]'(by omega),by rw[D8],?_⟩;subst he;exact h.2.2 i (by omega) hlt
theorem Sq(cs new:List AV)(off i:Nat)(h:off+new.length<=cs.length) :
  (cs.take off++new++cs.drop (off+new.length))[i]? = if i<off then cs[i]? else if i<off+new.length then new[i-off]? else cs[i]? := by
 have ht:(cs.take off).length=off:=by simp;omega
 by_cases h1:i<off
 ·rw[if_pos h1,L0,AZ (by omega),B8 h1]
 ·rw[if_neg h1];by_cases h2:i<off+new.length
  ·rw[if_pos h2,AZ (by simp;omega),Bk (by omega),ht]
  ·rw[if_neg h2,Bk (by simp;omega),Bu];congr 1;simp;omega
theorem NU{cs new cs':List AV}{off:Nat}(h:C5 cs off new=some cs'):off+new.length<=cs.length/\cs'.length=cs.length/\cs'=cs.take off++new++cs.drop (off+new.length):=by
 unfold C5 at h;split at h
 ·cases h;exact⟨by assumption,by simp;omega,rfl⟩
 ·cases h
theorem aY{cs new cs':List AV}{off:Nat}(h:C5 cs off new=some cs')(hc:Qg cs)(hn:Qg new):Qg cs':=by
 obtain⟨_,_,rfl⟩:=NU h;intro x hx;simp only[Bn] at hx;rcases hx with (hx | hx) | hx
 ·exact hc x (BT hx)
 ·exact hn x hx
 ·exact hc x (Eh hx)
theorem IA(w:World)(b c:Nat)(cs:Array Value)(h:c ≠ b):(w.setRow b cs).heap[c]? = w.heap[c]? := by
 simp only[A4d,Array.getElem?_modify];rw[if_neg (Ne.symm h)]
theorem LA(w:World)(b:Nat)(cs:Array Value):(w.setRow b cs).heap.size=w.heap.size:=by
 simp[A4d]
theorem aZ{P:Program}{Y X:Nat->Prop}{w:World}{t:TypeId}{n b off:Nat}{cs ys cs':List AV}{v:Value}(hsz:∀ w,(sizeOf t).run P w = .ok n w)
  (hb:GA Y X w b 0 cs) (hX:X b) (hv:DN Y X w v.cells ys) (hn:ys.length=n) (hl:C5 cs off ys=some cs') :
  ∃ w',(storeVar t ⟨b,off,none⟩ v).run P w = .ok () w'/\w'.os=w.os/\w'.tape=w.tape/\w'.output=w.output/\w'.heap.size=w.heap.size/\(∀ c,c ≠ b->w'.heap[c]? = w.heap[c]?)/\GA Y X w' b 0 cs'/\∀ m,Wb w b m->Wb w' b m:=by
 obtain⟨hdat,vs,T,hblk,hle,hcell⟩:=hb;obtain⟨hl1,hl2,hl3⟩:=NU hl;have hvs:v.cells.size=n:=by rw[hv.2.1,hn]
 have hrun:=run_storeCells_at (P:=P) b off T v.cells.toList 0 vs w hblk (by simp only[CW];omega) hv.oneCell;simp only[EJ,CW,Cb] at hrun hle hcell;refine⟨w.setRow b (Bx off vs.toList++v.cells.toList++g (off+v.cells.size) vs.toList).toArray,?_,rfl,rfl,rfl,LA _ _ _,fun c hc=>IA _ _ _ _ hc,⟨aY hl hdat hv.1,_,T,setRow_heap w b vs _ T (0,0) hblk,?_,?_⟩,?_⟩
 ·simp only[storeVar,AQ,hsz,A3,hvs,ne_eq,not_true_eq_false,if_false];rw[hvs] at hrun;exact hrun
 ·simp only[Jr,AY,AD,CV,CW,Cb];omega
 ·have hw:∀ c,¬ X c->c<w.heap.size->(w.setRow b (Bx off vs.toList++v.cells.toList++g (off+v.cells.size) vs.toList).toArray).heap[c]? = w.heap[c]? := fun c hc _=>IA _ _ _ _ (fun e=>hc (e ▸ hX));intro i hi;have hg:cs'[i]? = some cs'[i]:=Ad hi;have e1:=Sq cs ys off i hl1;rw[<- hl3,hg] at e1;have hvl:v.cells.toList.length=ys.length:=by simp only[CW];omega
  have ht:(vs.toList.take off).length=off:=by simp;omega
  simp only[Cb,UV];by_cases h1:i<off
  ·rw[if_pos h1] at e1;obtain⟨u,hu,hr⟩:=hcell i (by omega);refine⟨u,?_,?_⟩
   ·rw[L0,AZ (by omega),B8 h1];simpa using hu
   ·have:cs[i]=cs'[i]:=by rw[Ad (by omega)] at e1;exact (NP e1).symm
    rw[<- this];exact hr.world hw
  ·rw[if_neg h1] at e1;by_cases h2:i<off+ys.length
   ·rw[if_pos h2] at e1;obtain⟨u,hu,hr⟩:=hv.get e1.symm;refine⟨u,?_,hr.world hw⟩;rw[AZ (by simp only[AY];omega),Bk (by omega),ht];simpa using hu
   ·rw[if_neg h2] at e1;obtain⟨u,hu,hr⟩:=hcell i (by omega);refine⟨u,?_,?_⟩
    ·rw[Bk (by simp only[AY];omega),Bu];have e2:off+v.cells.size+(i-(vs.toList.take off++v.cells.toList).length)=i:=by simp only[AY,ht,hvl];omega
     rw[e2];simpa using hu
    ·have:cs[i]=cs'[i]:=by rw[Ad (by omega)] at e1;exact (NP e1).symm
     rw[<- this];exact hr.world hw
 ·rintro m ⟨vs',T',r1,r2⟩;rw[hblk] at r1;cases r1;refine⟨_,T,setRow_heap w b vs _ T (0,0) hblk,?_⟩;simp only[Jr,AY,AD,CV,CW];omega
theorem sJ(off:Nat):∀ (l:List Value) (k:Nat) (cells:Array Value) (i:Nat),
  ((l.zipIdx k).foldl (fun (cs:Array Value) (p:Value × Nat)=>cs.setIfInBounds (off+p.2) p.1) cells)[i]? =
   if off+k<=i/\i<off+k+l.length/\i<cells.size then l[i-(off+k)]? else cells[i]? := by
 intro l;induction l with
 | nil=>intro k cells i;simp;intro h1 h2;omega
 | cons v l ih =>
  intro k cells i;simp only[List.zipIdx_cons,Aoc];rw[ih];simp only[R4,SK,B0];by_cases h0:i=off+k
  ·subst h0;by_cases hs:off+k<cells.size
   ·rw[if_neg (by omega),if_pos (by omega),if_pos hs,if_pos (by omega)];simp
   ·rw[if_neg (by omega),if_pos (by omega),if_neg hs,if_neg (by omega),A3x (by omega)]
  ·by_cases h1:off+(k+1)<=i/\i<off+(k+1)+l.length/\i<cells.size
   ·rw[if_pos h1,if_pos (by omega)];have:i-(off+k)=(i-(off+(k+1)))+1:=by omega
    rw[this,A4a]
   ·rw[if_neg h1,if_neg (by omega),if_neg (by omega)]
theorem sK(off:Nat):∀ (l:List (Value × Nat)) (cells:Array Value),(l.foldl (fun (cs:Array Value) (p:Value × Nat)=>cs.setIfInBounds (off+p.2) p.1) cells).size=cells.size:=by
 intro l;induction l with
 | nil=>intro cells;rfl
 | cons p l ih=>intro cells;simp only[Aoc];rw[ih];simp
theorem sM{Y X:Nat->Prop}{w:World}{cells ys':Array Value}{cs ys cs':List AV}{off:Nat}(hc:DN Y X w cells cs)(hy:DN Y X w ys' ys)(hl:C5 cs off ys=some cs') :
  DN Y X w (ys'.zipIdx.foldl (fun (cs:Array Value) (p:Value × Nat)=>cs.setIfInBounds (off+p.2) p.1) cells) cs':=by
 obtain⟨hl1,hl2,hl3⟩:=NU hl;have he:ys'.zipIdx.foldl (fun (cs:Array Value) (p:Value × Nat)=>cs.setIfInBounds (off+p.2) p.1) cells=(ys'.toList.zipIdx 0).foldl (fun (cs:Array Value) (p:Value × Nat)=>cs.setIfInBounds (off+p.2) p.1) cells:=by
  rw[<- Array.foldl_toList,Array.toList_zipIdx]
 rw[he];have hsz:=sK off (ys'.toList.zipIdx 0) cells;refine⟨aY hl hc.1 hy.1,by rw[hsz,hl2];exact hc.2.1,?_⟩;intro i h1 h2;have hg:=sJ off ys'.toList 0 cells i;have e1:=Sq cs ys off i hl1;rw[<- hl3,Ad h2] at e1;rw[D8 h1] at hg;have hcs:=hc.2.1;have hys:=hy.2.1;have hin:i<cells.size:=by omega
 simp only[EJ,CW] at hg;by_cases h3:off<=i/\i<off+ys'.size
 ·rw[if_pos ⟨h3.1,h3.2,hin⟩] at hg;rw[if_neg (by omega),if_pos (by omega)] at e1;obtain⟨u,hu,hr⟩:=hy.get e1.symm;simp only[A3z,hu,A9] at hg;rw[hg];exact hr
 ·rw[if_neg (by omega)] at hg;have e2:cs[i]? = some cs'[i]:=by
   by_cases h4:i<off
   ·rw[if_pos h4] at e1;exact e1.symm
   ·rw[if_neg h4,if_neg (by omega)] at e1;exact e1.symm
  obtain⟨u,hu,hr⟩:=hc.get e2;rw[hu] at hg;rw[NP hg];exact hr
def TP:Value->AV->Bool
 | .int k n,.int k' n'=>k==k'&&n==n'
 | .bool b,.bool b'=>b==b'
 | .string s,.str s'=>decide (s=s')
 | .slice none 0 0,.nil=>true
 | .slice none 0 0,.sl 0 []=>true
 | _,_=>false
theorem Wc{Y X:Nat->Prop}{w:World}{v:Value}{x:AV}(h:TP v x=true):Rd Y X w v x/\MP x=true:=by
 unfold TP at h;split at h
 ·simp only[Af,beq_iff_eq] at h;obtain⟨rfl,rfl⟩:=h;exact⟨.int _ _,rfl⟩
 ·simp only[beq_iff_eq] at h;subst h;exact⟨.bool _,rfl⟩
 ·simp only[decide_eq_true_eq] at h;subst h;exact⟨.str _,rfl⟩
 ·exact⟨.nil,rfl⟩
 ·exact⟨.nil0,rfl⟩
 ·cases h
def NV:List Value->List AV->Bool
 | [],[]=>true
 | v::vs,x::xs=>TP v x&&NV vs xs
 | _,_=>false
theorem LB{Y X:Nat->Prop}{w:World}:∀ {vs:List Value} {cs:List AV},NV vs cs=true->DN Y X w vs.toArray cs
 | [],[],_=>⟨fun x hx=>(by cases hx),rfl,fun i h1 _=>(by simp at h1)⟩
 | v::vs,x::cs,h=>by
  simp only[NV,Af] at h;obtain⟨h1,h2⟩:=h;obtain⟨hd,hs,hr⟩:=LB (Y:=Y) (X:=X) (w:=w) h2;obtain⟨hv,hdx⟩:=Wc (Y:=Y) (X:=X) (w:=w) h1;refine⟨fun y hy => ?_,by simp at hs |-;exact hs,fun i h3 h4 => ?_⟩
  ·cases hy with
   | head=>exact hdx
   | tail _ hy=>exact hd y hy
  ·cases i with
   | zero=>simpa using hv
   | succ i =>
    have h5:=hr i (by simp at h3 |-;omega) (by simp at h4 |-;omega);simp only[fD] at h5;simpa using h5
 | [],_::_,h=>by cases h
 | _::_,[],h=>by cases h
def Ck:Operand->Opd->Bool
 | .tmp t,.t n=>t==n
 | .const v,.c x=>TP v x
 | _,_=>false
def Kw:List Operand->List Opd->Bool
 | [],[]=>true
 | x::xs,o::os=>Ck x o&&Kw xs os
 | _,_=>false
def OD(P:Program)(t:TypeId)(z:List AV):Bool :=
 match P.info? t with
 | some i=>(match i.zero with | some v=>NV v.cells.toList z | none=>false)
 | none=>false
def Kx(P:Program)(t:TypeId)(n:Nat):Bool :=
 match P.info? t with
 | some i=>i.size==n
 | none=>false
def Mr(P:Program)(fs:Array Field)(i off n:Nat):Bool :=
 match fs[i]? with
 | some f=>f.offset==off&&Kx P f.type n
 | none=>false
def NW(place:Nat->Nat->Nat->Bool):List (Nat × Operand)->List (Nat × Nat × Opd)->Bool
 | [],[]=>true
 | (i,x)::l,(off,n,o)::m=>place i off n&&Ck x o&&NW place l m
 | _,_=>false
def Aod(P:Program)(t:TypeId)(parts:List (Nat × Operand))(z:List AV)(ps:List (Nat × Nat × Opd)):Bool :=
 OD P t z &&
 match P.underlying t with
 | some (.struct fs)=>fs.all (fun f=>(P.info? f.type).isSome)&&NW (Mr P fs) parts ps
 | some (.array _ e)=>(P.info? e).isSome&&NW (fun i off n=>off==i*P.cellsOf e&&n==P.cellsOf e) parts ps
 | _=>false
def TQ(z:List AV)(zero:List Value):Nat->Bool
 | 0=>z.isEmpty
 | n+1=>NV zero (z.take zero.length)&&TQ (z.drop zero.length) zero n
def fJ(P:Program)(t:TypeId)(len:Nat)(parts:List (Nat × Operand))(n:Nat)(z:List AV)(ps:List (Nat × Nat × Opd)):Bool :=
 len==n &&
 match P.underlying t with
 | some (.slice e)=>(match P.info? e with
  | some i=>decide (0<i.size)&&decide (len*i.size<=16777216)&&(match i.zero with | some v=>v.cells.size==i.size&&decide (z.length=len*i.size)&&TQ z v.cells.toList len | none=>false) &&
   NW (fun j off m=>off==j*i.size&&m==i.size) parts ps
  | none=>false)
 | _=>false
def fK(P:Program)(t:TypeId):Bool:=match P.underlying t with | some (.int _)=>true | _=>false
def XB(P:Program)(t:TypeId):Bool:=match P.underlying t with | some .bool=>true | _=>false
def fL(P:Program)(args:List Operand)(ts:List TypeId)(x:Opd):Bool :=
 match args,ts with
 | [x'],[t]=>Ck x' x&&(match P.underlying t with | some (.slice _)=>true | _=>false)
 | _,_=>false
def FS(P:Program)(t:TypeId)(k:Nat):Bool :=
 match P.underlying t with
 | some (.slice e)=>(match P.info? e with
  | some i=>i.size==k&&decide (0<i.size)&&decide (i.bytes<=1048576)&&(match i.zero with | some v=>v.cells.size==i.size | none=>false)
  | none=>false)
 | _=>false
def fM(P:Program)(t:TypeId)(z:List AV):Bool :=
 match P.underlying t with
 | some (.slice e)=>OD P e z
 | _=>false
def Ht(P:Program)(t:TypeId):Bool:=match P.underlying t with | some (.slice _)=>true | _=>false
def TR(P:Program)(t:TypeId)(B:Nat):Bool :=
 match P.underlying t with
 | some (.slice e)=>(match P.info? e with
  | some i=>decide (B*i.bytes<=140737488355328)&&decide (B<=140737488355328)
  | none=>false)
 | _=>false
def UZ(P:Program)(args:List Operand)(ts:List TypeId)(x y:Opd)(k B:Nat):Bool :=
 match args,ts with
 | [x',y'],[t,t']=>Ck x' x&&Ck y' y&&FS P t k&&Ht P t'&&TR P t B
 | _,_=>false
def PH:Option Operand->Option Opd->Bool
 | none,none=>true
 | some x,some o=>Ck x o
 | _,_=>false
def Abb(P:Program)(f:Nat):Bool:=match P.funcs[f]? with | some fn=>fn.body.isSome && !(fn.name == "runtime.NumGoroutine") | none=>false
def sN(P:Program)(t:TypeId)(parts:List (Nat × Operand))(a:Opd)(x:Nat):Bool :=
 match P.underlying t,parts with
 | some (.struct fs),[(0,a'),(1,x')]=>Ck a' a&&Ck x' (.t x)&&fs.size==2&&Mr P fs 0 0 1&&Mr P fs 1 1 1&&OD P t [.bool false,.sl 0 []]&&fs.all (fun f=>(P.info? f.type).isSome)
 | _,_=>false
def U_(op:Op)(x:Nat):Bool:=match op with | .move y=>Ck y (.t x) | .assign y=>Ck y (.t x) | _=>false
def GB(P:Program)(op:Op)(k:K):Bool :=
 match k with
 | .mov y=>(match op with | .move x=>Ck x y | .assign x=>Ck x y | _=>false)
 | .pick c a b=>(match op with | .pick c' a' b'=>Ck c' c&&Ck a' a&&Ck b' b | _=>false)
 | .bin o x y=>(match op with | .binOp o' _ x' y' _=>o'==o&&Ck x' x&&Ck y' y | _=>false)
 | .eqb neg x y=>(match op with | .binOp o' t x' y' _=>o'==(if neg then BinOp.neq else BinOp.eql)&&XB P t&&Ck x' x&&Ck y' y | _=>false)
 | .un o x=>(match op with | .unOp o' _ x'=>o'==o&&Ck x' x | _=>false)
 | .cv k x=>(match op with | .convert src dst x'=>fK P src&&(match P.underlying dst with | some (.int k')=>k'==k | _=>false)&&Ck x' x | _=>false)
 | .new z _=>(match op with | .alloc t=>OD P t z | _=>false)
 | .box x _=>(match op with | .box _ x'=>Ck x' x | _=>false)
 | .bld z ps=>(match op with | .build t parts=>Aod P t parts.toList z ps | _=>false)
 | .bls n z ps=>(match op with | .buildSlice t len parts=>fJ P t len parts.toList n z ps | _=>false)
 | .adr x _ off=>(match op with | .fieldAddr t x' f=>Ck x' (.t x)&&(match P.underlying t with | some (.struct fs)=>(match fs[f]? with | some f=>f.offset==off && !(Kx P f.type 0)&&(P.info? f.type).isSome | none=>false) | _=>false) | _=>false)
 | .ld x _ n one=>(match op with | .load t x'=>Ck x' (.t x)&&OB P t n one | _=>false)
 | .st x _ n v=>(match op with | .store t x' v'=>Ck x' (.t x)&&Kx P t n&&Ck v' v | _=>false)
 | .fld x off n one=>(match op with | .field t x' f=>Ck x' x&&(match P.underlying t with | some (.struct fs)=>(match fs[f]? with | some f=>f.offset==off&&OB P f.type n one | none=>false) | _=>false) | _=>false)
 | .ixa x i k=>(match op with | .indexAddr t x' i'=>Ck x' (.t x)&&Ck i' i&&(match P.underlying t with | some (.slice e)=>Kx P e k | _=>false) | _=>false)
 | .six x i=>(match op with | .index t x' i'=>Ck x' x&&Ck i' i&&(match P.underlying t with | some .string=>true | _=>false) | _=>false)
 | .ext x i=>(match op with | .extract x' i'=>Ck x' x&&i'==i | _=>false)
 | .len x=>(match op with | .call { callee := .builtin .len,args:=args,argTypes:=ts }=>fL P args.toList ts.toList x | _=>false)
 | .mx xs=>(match op with | .call { callee := .builtin .max,args:=args,argTypes:=_ }=>Kw args.toList xs | _=>false)
 | .mn xs=>(match op with | .call { callee := .builtin .min,args:=args,argTypes:=_ }=>Kw args.toList xs | _=>false)
 | .call f xs=>(match op with | .call { callee := .value (.func f'),args:=args,argTypes:=_ }=>f'==f&&Kw args.toList xs&&(match P.funcs[f]? with | some fn=>fn.body.isSome && !(fn.name == "runtime.NumGoroutine") | none=>false) | _=>false)
 | .clo f xs=>(match op with | .call { callee := .value (.func f'),args:=args,argTypes:=_ }=>f'==f&&Kw args.toList xs&&(match P.funcs[f]? with | some fn=>fn.body.isSome && !(fn.name == "runtime.NumGoroutine") | none=>false) | _=>false)
 | .brw f x _=>(match op with | .call { callee := .value (.func f'),args:=args,argTypes:=_ }=>f'==f&&Kw args.toList [.t x]&&(match P.funcs[f]? with | some fn=>fn.body.isSome && !(fn.name == "runtime.NumGoroutine") | none=>false) | _=>false)
 | .nlo _=>(match op with | .move (.const (.slice none 0 0))=>true | .assign (.const (.slice none 0 0))=>true | _=>false)
 | .cpy x=>U_ op x
 | .cpo x=>U_ op x
 | .tra x=>U_ op x
 | .frz x=>U_ op x
 | .mks z n=>(match op with | .makeSlice t l c=>Ck l n&&Ck c n&&FS P t z.length&&fM P t z | _=>false)
 | .blo k n z ps=>(match op with | .buildSlice t len parts=>fJ P t len parts.toList n z ps&&FS P t k | _=>false)
 | .apd _ x y k B=>(match op with | .call { callee := .builtin .append,args:=args,argTypes:=ts }=>UZ P args.toList ts.toList x y k B | _=>false)
 | .sli x lo hi mx k=>(match op with | .slice t x' lo' hi' mx'=>Ck x' x&&PH lo' lo&&PH hi' hi&&PH mx' mx&&FS P t k | _=>false)
 | .ixo x _ i k=>(match op with | .indexAddr t x' i'=>Ck x' (.t x)&&Ck i' i&&FS P t k | _=>false)
 | .lno x _=>(match op with | .call { callee := .builtin .len,args:=args,argTypes:=ts }=>fL P args.toList ts.toList (.t x) | _=>false)
 | .bdo a x _=>(match op with | .build t parts=>sN P t parts.toList a x | _=>false)
 | .cln f xs _=>(match op with | .call { callee := .value (.func f'),args:=args,argTypes:=_ }=>f'==f&&Kw args.toList xs&&Abb P f | _=>false)
 | .stl x v=>(match op with | .store t x' v'=>Ck x' (.t x)&&Kx P t 2&&Ck v' (.t v) | _=>false)
 | .fdo x=>(match op with | .field t x' 1=>Ck x' (.t x)&&(match P.underlying t with | some (.struct fs)=>(match fs[1]? with | some f=>f.offset==1&&OB P f.type 1 true | none=>false) | _=>false) | _=>false)
 | .exo x=>(match op with | .extract x' 0=>Ck x' (.t x) | _=>false)
 | .sub x _ lo hi k=>(match op with | .slice t x' lo' hi' none=>Ck x' (.t x)&&PH lo' lo&&PH hi' hi&&FS P t k | _=>false)
 | .app _ x _ y k=>(match op with | .call { callee := .builtin .append,args:=args,argTypes:=ts }=>UZ P args.toList ts.toList (.t x) y k 1048576 | _=>false)
 | .apb _ x y _ k=>(match op with | .call { callee := .builtin .append,args:=args,argTypes:=ts }=>UZ P args.toList ts.toList (.t x) (.t y) k 1048576 | _=>false)
 | .slo x hi k=>(match op with | .slice t x' none (some hi') none=>Ck x' (.t x)&&Ck hi' hi&&FS P t k | _=>false)
 | .bad=>true
section
variable {P:Program} {Y X0:Nat->Prop} {roots:List (Nat × Nat)} {w0:Base} {w:World} {s:Aj} {a:Act} {Q:Exit->Act->World->Prop}
theorem CN(h:Rel Y X0 roots w0 s a w){x:Operand}{o:Opd}{y:AV}(hx:Ck x o=true)(ho:o.av s=some y):Rd Y (fun b=>X0 b\/XS s a.tmps b) w (a.eval x) y:=by
 cases o with
 | t n =>
  cases x with
  | tmp m =>
   simp only[Ck,beq_iff_eq] at hx;subst hx;simp only[Opd.av,Opd.reg] at ho;have h0:=h.reg m;cases hr:A8 s m with
   | val z =>
    rw[hr] at ho h0;cases ho;exact h0
   | box _=>rw[hr] at ho;cases ho
   | ptr _ _=>rw[hr] at ho;cases ho
   | mem _=>rw[hr] at ho;cases ho
   | own _ _ _=>rw[hr] at ho;cases ho
   | agn _ _ _ _=>rw[hr] at ho;cases ho
   | bxl _=>rw[hr] at ho;cases ho
   | dup _=>rw[hr] at ho;cases ho
   | sub _ _ _ _=>rw[hr] at ho;cases ho
   | dead=>rw[hr] at ho;cases ho
  | const v=>cases hx
  | global g=>cases hx
  | func f=>cases hx
 | c z =>
  cases x with
  | const v =>
   simp only[Opd.av,Opd.reg,A9] at ho;subst ho;exact (Wc hx).1
  | tmp m=>cases hx
  | global g=>cases hx
  | func f=>cases hx
theorem NX(h:Rel Y X0 roots w0 s a w):∀ {xs:List Operand} {os:List Opd} {ys:List AV},Kw xs os=true->avs s os=some ys ->
  xs.length=ys.length/\∀ (i:Nat) (h1:i<xs.length) (h2:i<ys.length),Rd Y (fun b=>X0 b\/XS s a.tmps b) w (a.eval xs[i]) ys[i]
 | [],[],ys,_,hy=>by
  simp only[avs,A9] at hy;subst hy;exact⟨rfl,fun i h1 _=>(by simp at h1)⟩
 | x::xs,o::os,ys,hx,hy=>by
  simp only[Kw,Af] at hx;simp only[avs] at hy;cases h1:o.av s with
  | none=>rw[h1] at hy;cases hy
  | some y =>
   rw[h1] at hy;cases h2:avs s os with
   | none=>rw[h2] at hy;cases hy
   | some ys' =>
    rw[h2] at hy;cases hy;obtain⟨e1,e2⟩:=NX h hx.2 h2;refine⟨by simp[e1],fun i h3 h4 => ?_⟩;cases i with
    | zero=>exact CN h hx.1 h1
    | succ i=>exact e2 i (by simpa using h3) (by simpa using h4)
 | [],_::_,_,hx,_=>by cases hx
 | _::_,[],_,hx,_=>by cases hx
theorem Rel.lowYw(h:Rel Y X0 roots w0 s a w):∀ b,Y b->b<w.heap.size:=fun b hb=>CG (JH fun e=>h.lowY b hb (.inl e)) h.below.size
theorem Rel.lowX(h:Rel Y X0 roots w0 s a w):∀ b,(X0 b\/XS s a.tmps b)->b<w.heap.size:=by
 rintro b (hb | ⟨t,h1,h2⟩)
 ·exact CG (JH fun e=>h.low b hb (.inl e)) h.below.size
 ·exact (h.exclLow h1 h2).2
def jZ(s:Aj)(roots:List (Nat × Nat))(dst:Option Nat):Prop:=∀ d,dst=some d->∀ t,(t,d)∈roots->EP (A8 s t)=false
theorem Rel.put(h:Rel Y X0 roots w0 s a w){dst:Option Nat}{v:Value}{x:AV}(hf:jZ s roots dst)(hr:Rd Y (fun b=>X0 b\/XS s a.tmps b) w v x):Rel Y X0 roots w0 (Ea s dst (.val x)) (a.put dst v) w:=by
 cases dst with
 | none=>exact h
 | some d =>
  refine DA (ks:=[]) h (If _ _) (fun t ht => .inr (hf d rfl t ht)) (fun he=>(by cases he)) (fun X _ h2 => ?_);exact hr.mono fun b hb => .inl (h2 rfl b hb)
theorem Qh(h:Rel Y X0 roots w0 s a w){dst:Option Nat}{b off:Nat}{cs:List AV}(hf:jZ s roots dst)(hX:cs ≠ []->¬ (X0 b\/XS s a.tmps b))(hr:FX Y (fun b=>X0 b\/XS s a.tmps b) w b off cs) :
  Rel Y X0 roots w0 (Ea s dst (.mem cs)) (a.put dst (.pointer (some ⟨b,off,none⟩))) w:=by
 cases dst with
 | none=>exact h
 | some d =>
  refine DA (ks:=[]) h (If _ _) (fun t ht => .inr (hf d rfl t ht)) (fun he=>(by cases he)) (fun X _ h2 => ?_);exact⟨b,off,rfl,fun hne hx=>hX hne (h2 rfl b hx),hr.mono fun b hb => .inl (h2 rfl b hb)⟩
theorem Qi(h:Rel Y X0 roots w0 s a w){dst:Option Nat}{d off:Nat}{p:Addr}(hf:jZ s roots dst)(hroot:∀ t,dst=some t->(t,d)∈roots/\t ≠ d)(hd:H6 (a.tmps.getD d Bq)=some p)(hs:p.spot=none) :
  Rel Y X0 roots w0 (Ea s dst (.ptr d off)) (a.put dst (.pointer (some ⟨p.block,p.off+off,none⟩))) w:=by
 cases dst with
 | none=>exact h
 | some t =>
  refine DA (ks:=[]) h (If _ _) (fun u hu => .inr (hf t rfl u hu)) (fun he=>(by cases he)) (fun X _ _ => ?_);refine⟨(hroot t rfl).1,p,?_,hs,rfl⟩;rw[LV,if_neg]
  ·exact hd
  ·rintro⟨rfl,_⟩;exact (hroot t rfl).2 rfl
theorem Rel.putDup(h:Rel Y X0 roots w0 s a w){dst:Option Nat}{d:Nat}(hf:jZ s roots dst)(hroot:∀ t,dst=some t->(t,d)∈roots/\t ≠ d) :
  Rel Y X0 roots w0 (Ea s dst (.dup d)) (a.put dst (a.tmps.getD d Bq)) w:=by
 cases dst with
 | none=>exact h
 | some t =>
  refine DA (ks:=[]) h (If _ _) (fun u hu => .inr (hf t rfl u hu)) (fun he=>(by cases he)) (fun X _ _ => ?_);refine⟨(hroot t rfl).1,?_⟩;rw[LV,if_neg];rintro⟨rfl,_⟩;exact (hroot t rfl).2 rfl
theorem Bz{o:Oper}{v:Value}{K:Act->World->Prop}(hrun:(execOp a.eval o).run P w = .ok (.value v) w)(h:K (a.put o.dst v) w):o.wp P a w K Q:=by
 simp only[Fz,hrun,ET];exact h
def Js(Y X:Nat->Prop)(B:Nat->Prop)(w':World)(v:Value):AV->Prop
 | .fresh k n cs=>Gp Y (fun c=>X c\/Bh v=some c) B w' v k n cs
 | .frs b k n cs=>Li Y (fun c=>X c\/Bh v=some c) B w' v b k n cs
 | x=>Rd Y X w' v x
theorem Js.of_rd{Y X:Nat->Prop}{B:Nat->Prop}{w':World}{v:Value}{x:AV}(h:Rd Y X w' v x):Js Y X B w' v x:=by
 cases h <;> simp only[Js] <;> first | exact .int _ _ | exact .bool _ | exact .str _ | exact .undef | exact .nil | exact .nil0 | exact .e0 _ _ | (apply Rd.agg <;> assumption) | (apply Rd.tup <;> assumption) | (apply Rd.sl <;> assumption) | (apply Rd.pt <;> assumption) | (apply Rd.fnc <;> assumption)
theorem Js.thawed{Y X:Nat->Prop}{B:Nat->Prop}{w':World}{v:Value}{x:AV}(h:Js Y X B w' v x)(hX:∀ b,X b->¬ B b)(hY:∀ b,Y b->¬ B b):Rd Y X w' v (Mq x):=by
 cases x
 case fresh k n cs =>
  simp only[Js] at h;exact Gp.frozen h (fun b hb => .inl (.inl hb)) (fun b hb hXb=>hX b hXb (Gp.block h hb).1) hY
 case frs bb k n cs =>
  simp only[Js] at h;obtain⟨u,rfl,h⟩:=h;have hu:Rd Y X w' u (.sl n cs):=by
   exact Gp.frozen h (fun b hb => .inl (.inl hb)) (fun b hb hXb=>hX b hXb (Gp.block h hb).1) hY
  cases bb with
  | st b=>exact sI hu
  | tp b =>
   refine Rd.tup #[u,.bool b] [.sl n cs,.bool b] rfl fun i h1 h2 => ?_;match i,h2 with
   | 0,_=>exact hu
   | 1,_=>exact Rd.bool b
 all_goals exact h
theorem Js.lower{Y X:Nat->Prop}{B B':Nat->Prop}{w':World}{v:Value}{x:AV}(h:Js Y X B w' v x)(hB:∀ b,B b->B' b):Js Y X B' w' v x:=by
 cases x
 case fresh k n cs=>exact Gp.lower h hB
 case frs bb k n cs=>exact Li.lower h hB
 all_goals exact h
def sO(Y X O:Nat->Prop)(w:World)(v:Value):AV->Prop
 | .fresh k n cs=>Gp Y (fun c=>X c\/O c) O w v k n cs
 | x=>Rd Y (fun c=>X c\/O c) w v x
def H2(args:List AV)(vs:Array Value)(b:Nat):Prop:=(∃ k n cs l,args = .fresh k n cs::l)/\Bh (vs.getD 0 Bq)=some b
def Qj:AV->Bool
 | .fresh _ _ _=>true
 | _=>false
def LC(P:Program)(F:BL):Prop :=
 ∀ (f:Nat) (args:List AV) (x:AV),F f args=some x->∀ (Y X:Nat->Prop) (w:World) (vs:Array Value),(∀ b,X b->b<w.heap.size/\¬ H2 args vs b)->(∀ b,Y b->b<w.heap.size/\¬ H2 args vs b)->vs.size=args.length ->
  (∀ (i:Nat) (h1:i<vs.size) (h2:i<args.length),sO Y X (H2 args vs) w vs[i] args[i])->(∀ (i:Nat) (h:i<args.length),Qj args[i]=true->i=0) ->
  Calls P f vs w fun e w'=>∃ v,e = .returned v/\Grown ⟨w,H2 args vs⟩ w'/\Js Y X (Base.mine ⟨w,H2 args vs⟩) w' v x
def bA(n b:Nat):Prop:=n<=b
theorem LC.plain{F:BL}(h:LC P F)(f:Nat)(args:List AV)(x:AV)(hx:F f args=some x)(Y X:Nat->Prop)(w:World)(vs:Array Value)(hX:∀ b,X b->b<w.heap.size)(hY:∀ b,Y b->b<w.heap.size)(hs:vs.size=args.length)
  (hr:∀ (i:Nat) (h1:i<vs.size) (h2:i<args.length),Rd Y X w vs[i] args[i]) :
  Calls P f vs w fun e w'=>∃ v,e = .returned v/\Below w.heap.size w w'/\Js Y X (bA w.heap.size) w' v x:=by
 have nf:∀ (i:Nat) (h2:i<args.length),Qj args[i]=false:=by
  intro i h2;have h1:=hr i (by omega) h2;generalize args[i]=y at h1 |-;generalize vs[i]'(by omega)=u at h1;cases h1 <;> rfl
 have hg:∀ b,¬ H2 args vs b:=by
  rintro b ⟨⟨k,n,cs,l,rfl⟩,_⟩;cases nf 0 (by simp)
 have hg':H2 args vs=fun _=>False:=funext fun b=>eq_false (hg b);refine (h f args x hx Y X w vs (fun b hb=>⟨hX b hb,hg b⟩) (fun b hb=>⟨hY b hb,hg b⟩) hs (fun i h1 h2 => ?_) (fun i h2 h3 => ?_)).mono ?_
 ·have h0:=hr i h1 h2;have e:=nf i h2;rw[hg'];generalize args[i]=y at h0 e |-;have h3:Rd Y (fun c=>X c\/False) w vs[i] y:=h0.mono fun b hb => .inl (hb.elim id False.elim);cases y <;> first | exact h3 | cases e
 ·rw[nf i h2] at h3;cases h3
 ·rintro e w' ⟨v,e1,e2,e3⟩;exact⟨v,e1,e2.below hg,e3.lower fun b hb=>hb.elim id fun hb=>(hg b hb).elim⟩
end
section
variable {P:Program} {Y X0:Nat->Prop} {roots:List (Nat × Nat)} {w0:Base} {w:World} {s:Aj} {a:Act} {Q:Exit->Act->World->Prop}
theorem Va(op:BinOp)(t:TypeId)(x y:Operand)(k k':IntKind)(m m':Int):(eqGuard op t x y (.int k m) (.int k' m')).run P w = .ok () w:=by
 cases op <;> rfl
theorem MT(op:BinOp)(t:TypeId)(x y:Operand)(m m':Bool):(eqGuard op t x y (.bool m) (.bool m')).run P w = .ok () w:=by
 cases op <;> rfl
theorem Aoe{op:BinOp}{t:TypeId}{k k':IntKind}{m m':Int}{z:AV}{Y X:Nat->Prop}(h:NS op (.int k m) (.int k' m')=some z) :
  ∃ v,(binOp op t (.int k m) (.int k' m')).run P w = .ok v w/\Rd Y X w v z:=by
 simp only[NS] at h;split at h
 ·rename_i hs;unfold TO at h;split at h
  ·cases h
  ·rename_i hn;cases op <;> simp only[KG,B_] at hs <;> simp only[A9] at h <;> subst h
   ·exact⟨_,by simp[binOp,Op.shift,hn],.int _ _⟩
   ·exact⟨_,by simp[binOp,Op.shift,hn],.int _ _⟩
 ·rename_i hs;split at h
  ·rename_i hk;subst hk;cases op <;> simp only[KG,not_true_eq_false] at hs <;> simp only[jR,Aoa,N6,AF,Qd,A9] at h
   case quo =>
    split at h
    ·cases h
    ·rename_i h0;cases h;exact⟨_,by simp[binOp,Op.intDiv,h0],.int _ _⟩
   case rem =>
    split at h
    ·cases h
    ·rename_i h0;cases h;exact⟨_,by simp[binOp,Op.intDiv,h0],.int _ _⟩
   case andNot=>cases h
   case add=>subst h;exact⟨_,by simp[binOp,W_],.int _ _⟩
   case sub=>subst h;exact⟨_,by simp[binOp,W_],.int _ _⟩
   case mul=>subst h;exact⟨_,by simp[binOp,W_],.int _ _⟩
   case and=>subst h;exact⟨_,by simp only[binOp,Adm,ne_eq,not_true_eq_false,if_false];rfl,.int _ _⟩
   case or=>subst h;exact⟨_,by simp only[binOp,Adm,ne_eq,not_true_eq_false,if_false];rfl,.int _ _⟩
   case xor=>subst h;exact⟨_,by simp only[binOp,Adm,ne_eq,not_true_eq_false,if_false];rfl,.int _ _⟩
   case eql=>subst h;exact⟨_,by simp only[binOp,Qk,ne_eq,not_true_eq_false,if_false];rfl,.bool _⟩
   case neq=>subst h;exact⟨_,by simp only[binOp,Qk,ne_eq,not_true_eq_false,if_false];rfl,.bool _⟩
   case lss=>subst h;exact⟨_,by simp only[binOp,Qk,ne_eq,not_true_eq_false,if_false];rfl,.bool _⟩
   case leq=>subst h;exact⟨_,by simp only[binOp,Qk,ne_eq,not_true_eq_false,if_false];rfl,.bool _⟩
   case gtr=>subst h;exact⟨_,by simp only[binOp,Qk,ne_eq,not_true_eq_false,if_false];rfl,.bool _⟩
   case geq=>subst h;exact⟨_,by simp only[binOp,Qk,ne_eq,not_true_eq_false,if_false];rfl,.bool _⟩
  ·cases h
theorem A4e{op:UnOp}{u:Value}{x z:AV}{Y X:Nat->Prop}(hu:Rd Y X w u x)(h:GW op x=some z):∃ v,(A4f op u).run P w = .ok v w/\Rd Y X w v z:=by
 unfold GW at h;split at h
 ·cases hu;simp only[A9] at h;subst h;exact⟨_,by simp[A4f,W_],.int _ _⟩
 ·cases hu;simp only[A9] at h;subst h;exact⟨_,by simp[A4f],.bool _⟩
 ·cases h
theorem Adn(k:IntKind)(x y:Int):(Aof (.int k x) (.int k y)).run P w = .ok (.int k (if y>x then y else x)) w:=rfl
theorem Ado(k:IntKind)(x y:Int):(Aog (.int k x) (.int k y)).run P w = .ok (.int k (if y<x then y else x)) w:=rfl
theorem kD{Y X:Nat->Prop}{k:IntKind}:∀ {vs:List Value} {l:List AV} {m r:Int},vs.length=l.length->(∀ (i:Nat) (h1:i<vs.length) (h2:i<l.length),Rd Y X w vs[i] l[i])->aS k m l=some r ->
  (ACo Aof (.int k m) vs:Sem Value).run P w = .ok (.int k r) w
 | [],[],m,r,_,_,h=>by simp only[aS,A9] at h;subst h;rfl
 | v::vs,x::l,m,r,hl,hr,h=>by
  have h0:=hr 0 (by simp) (by simp);simp only[Gy] at h0;cases x <;> simp only[aS] at h <;> try cases h
  rename_i k' n;split at h
  ·rename_i hk;subst hk;cases h0;have ih:=kD (vs:=vs) (l:=l) (by simpa using hl) (fun i h1 h2=>hr (i+1) (by simp;omega) (by simp;omega)) h;simp only[Anw,AQ,Adn,A3];exact ih
  ·cases h
 | [],_::_,_,_,hl,_,_=>by simp at hl
 | _::_,[],_,_,hl,_,_=>by simp at hl
theorem kF{Y X:Nat->Prop}{k:IntKind}:∀ {vs:List Value} {l:List AV} {m r:Int},vs.length=l.length->(∀ (i:Nat) (h1:i<vs.length) (h2:i<l.length),Rd Y X w vs[i] l[i])->aT k m l=some r ->
  (ACo Aog (.int k m) vs:Sem Value).run P w = .ok (.int k r) w
 | [],[],m,r,_,_,h=>by simp only[aT,A9] at h;subst h;rfl
 | v::vs,x::l,m,r,hl,hr,h=>by
  have h0:=hr 0 (by simp) (by simp);simp only[Gy] at h0;cases x <;> simp only[aT] at h <;> try cases h
  rename_i k' n;split at h
  ·rename_i hk;subst hk;cases h0;have ih:=kF (vs:=vs) (l:=l) (by simpa using hl) (fun i h1 h2=>hr (i+1) (by simp;omega) (by simp;omega)) h;simp only[Anw,AQ,Ado,A3];exact ih
  ·cases h
 | [],_::_,_,_,hl,_,_=>by simp at hl
 | _::_,[],_,_,hl,_,_=>by simp at hl
theorem Ql(h:Rel Y X0 roots w0 s a w){dst:Option Nat}{cells:Array Value}{cs:List AV}{T:TypeId}{ks:List Nat}(hks:∀ d,dst=some d->∀ t,(t,d)∈roots->t∈ks)
  (hdst:dst.isSome=true) (hc:DN Y (fun b=>X0 b\/XS s a.tmps b) w cells cs) :
  Rel Y X0 roots w0 (Ea (BZ s (ks.map fun u=>(u,Reg.dead))) dst (.box cs)) (a.put dst (.pointer (some ⟨w.heap.size,0,none⟩))) (w.alloc (.cells cells T)):=by
 cases dst with
 | none=>cases hdst
 | some d =>
  refine DA h ((If _ _).alloc (Ao _) _) (fun t ht => .inl (hks d rfl t ht)) (fun _ b hb=>by simp only[Bh,H6,AF,A9] at hb;omega) (fun X h1 _ => ?_);have hc':=(hc.mono (X':=X) (fun b hb=>(h1 b hb).imp id Anq)).world (w':=w.alloc (.cells cells T)) (fun b _ hb=>ZM _ _ _ hb);refine⟨w.heap.size,rfl,.inl h.below.size,hc.1,cells,T,by show (w.heap.push _)[w.heap.size]? = _;simp,by rw[hc.2.1];omega,fun i hi => ?_⟩;have hs:=hc.2.1;refine⟨cells[i]'(by omega),by rw[Cb,D8],hc'.2.2 i (by omega) hi⟩
theorem OE{t:TypeId}{z:List AV}(h:OD P t z=true):∃ v,(∀ w,(zeroValue t).run P w = .ok v w)/\∀ (Y X:Nat->Prop) (w:World),DN Y X w v.cells z:=by
 unfold OD at h;split at h
 ·rename_i i hi;split at h
  ·rename_i v hv;refine⟨v,fun w=>by simp[zeroValue,typeInfo,program,Ge,hi,hv],fun Y X w => ?_⟩;have:=LB (Y:=Y) (X:=X) (w:=w) h;simpa using this
  ·cases h
 ·cases h
theorem LD{t:TypeId}{n:Nat}(h:Kx P t n=true):∀ w,(sizeOf t).run P w = .ok n w:=by
 unfold Kx at h;split at h
 ·rename_i i hi;simp only[beq_iff_eq] at h;intro w;simp[sizeOf,typeInfo,program,Ge,hi,h]
 ·cases h
theorem Qm(h:Rel Y X0 roots w0 s a w){place:Nat->Option (Nat × Nat)}{pl:Nat->Nat->Nat->Bool}(hpl:∀ i off n,pl i off n=true->place i=some (off,n)) :
  ∀ {parts:List (Nat × Operand)} {ps:List (Nat × Nat × Opd)} {cells:Array Value} {cs cs':List AV},NW pl parts ps=true->DN Y (fun b=>X0 b\/XS s a.tmps b) w cells cs->G8 s cs ps=some cs' ->
   ∃ cells',Mn place cells (parts.map fun p=>(p.1,a.eval p.2))=some cells'/\DN Y (fun b=>X0 b\/XS s a.tmps b) w cells' cs'
 | [],[],cells,cs,cs',_,hc,hf=>by
  simp only[G8,A9] at hf;subst hf;exact⟨cells,rfl,hc⟩
 | (i,x)::parts,(off,n,o)::ps,cells,cs,cs',hp,hc,hf=>by
  simp only[NW,Af] at hp;obtain⟨⟨h1,h2⟩,h3⟩:=hp;simp only[G8] at hf;cases ho:o.av s with
  | none=>rw[ho] at hf;cases hf
  | some y =>
   rw[ho] at hf;dsimp only at hf;cases hy:GU y n with
   | none=>rw[hy] at hf;cases hf
   | some ys =>
    rw[hy] at hf;dsimp only at hf;cases hl:C5 cs off ys with
    | none=>rw[hl] at hf;cases hf
    | some cs1 =>
     rw[hl] at hf;dsimp only at hf;obtain⟨hn,hyr⟩:=OC (CN h h2 ho) hy;obtain⟨cells',e1,e2⟩:=Qm h hpl h3 (sM hc hyr hl) hf;refine⟨cells',?_,e2⟩;simp only[Cx,Mn,hpl i off n h1];have hle:=(NU hl).1;have hs1:=hc.2.1;have hs2:=hyr.2.1;have hcond:((a.eval x).cells.size ≠ n || off+(a.eval x).cells.size>cells.size)=false:=by
      simp only[ne_eq,ACk,decide_eq_false_iff_not,Decidable.not_not,gt_iff_lt,Nat.not_lt];omega
     rw[if_neg (by rw[hcond];simp)];exact e1
 | [],_::_,_,_,_,hp,_,_=>by cases hp
 | _::_,[],_,_,_,hp,_,_=>by cases hp
theorem sP{fs:Array Field}(hall:fs.all (fun f=>(P.info? f.type).isSome)=true):(fs.mapM fun f=>do pure (f.offset,<- sizeOf f.type):Sem (Array (Nat × Nat))).run P w = .ok (fs.map fun f=>(f.offset,P.cellsOf f.type)) w:=by
 have key:∀ (l:List Field),(∀ f∈l,(P.info? f.type).isSome=true)->(l.mapM fun f=>do pure (f.offset,<- sizeOf f.type):Sem (List (Nat × Nat))).run P w = .ok (l.map fun f=>(f.offset,P.cellsOf f.type)) w:=by
  intro l;induction l with
  | nil=>intro _;rfl
  | cons f l ih =>
   intro hl;obtain⟨i,hi⟩:=Bf.1 (hl f (AO ..));have hsz:(sizeOf f.type).run P w = .ok (P.cellsOf f.type) w:=by simp[sizeOf,typeInfo,program,Ge,hi,L5]
   simp only[N5,AQ,hsz,A3,Br,ih (fun g hg=>hl g (AT _ hg)),Cx]
 have:=key fs.toList (fun f hf=>by simp only[sC] at hall;exact hall f (by simpa using hf));rw[UW];simp only[AEf,this,A3];congr 1;apply Array.ext';simp
theorem Qn{fs:Array Field}{i off n:Nat}(hi:Mr P fs i off n=true):(fs.map fun f=>(f.offset,P.cellsOf f.type))[i]? = some (off,n):=by
 unfold Mr at hi;split at hi
 ·rename_i f hf;simp only[Af,beq_iff_eq] at hi;obtain⟨rfl,hsz⟩:=hi;unfold Kx at hsz;split at hsz
  ·rename_i ii hii;simp only[beq_iff_eq] at hsz;simp[hf,L5,hii,hsz]
  ·cases hsz
 ·cases hi
theorem Adp{vs:Array Value}(h:vs.size=2):∃ x y,vs=#[x,y]:=by
 obtain⟨l⟩:=vs;match l,h with
 | [x,y],_=>exact⟨x,y,rfl⟩
theorem Adq{t:TypeId}{parts:List (Nat × Operand)}{o:Opd}{x:Nat}(hk:sN P t parts o x=true) :
  ∃ a' x',parts=[(0,a'),(1,x')]/\Ck a' o=true/\Ck x' (.t x)=true /\
   ∀ (b:Bool) (u:Value),u.cells=#[u]->∀ w,(X1 t #[(0,.bool b),(1,u)]).run P w = .ok (.agg #[.bool b,u]) w:=by
 unfold sN at hk;split at hk
 ·rename_i fs a' x' hfs;simp only[Af,beq_iff_eq] at hk;obtain⟨⟨⟨⟨⟨⟨h1,h2⟩,h3⟩,h4⟩,h5⟩,h6⟩,h7⟩:=hk;refine⟨a',x',rfl,h1,h2,fun b u hu w => ?_⟩;obtain⟨v,hzv,hc⟩:=OE h6;obtain⟨z0,z1,hz⟩:=Adp (hc (fun _=>False) (fun _=>False) w).2.1;have f0:=Qn h4;have f1:=Qn h5;have hb:(Xl b).cells=#[.bool b]:=rfl;simp only[X1,AQ,hzv,A3,run_underlying hfs,sP h7,hz,Mn,f0,f1,hb,hu];rfl
 ·cases hk
theorem Adr{t:TypeId}(hk:(match P.underlying t with | some (.struct fs)=>(match fs[1]? with | some f=>f.offset==1&&OB P f.type 1 true | none=>false) | _=>false)=true)(b:Bool)(u:Value) :
  ∀ w,(Adj t (.agg #[.bool b,u]) 1).run P w = .ok u w:=by
 intro w;split at hk
 ·rename_i fs hfs;split at hk
  ·rename_i f hf;simp only[Af,beq_iff_eq] at hk;obtain⟨h1,h2⟩:=hk;have hag:=(MS h2).1;simp only[Adj,AQ,run_underlying hfs,A3,hf,asAgg,Br,h1,part,hag];rfl
  ·cases hk
 ·cases hk
end
end Go.Ai
