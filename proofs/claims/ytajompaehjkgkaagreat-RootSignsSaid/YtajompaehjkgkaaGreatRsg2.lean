/- Texts of the proof of RootSigns: part 2 of 13. -/
import Derived.Laws.Cells
import Derived.Laws.CopyRow
import Derived.Laws.Entries
import Derived.Laws.StructEq
import Derived.Laws.NewFold
import Derived.Test.YtajompaehjkgkaaGreatRsg1
namespace Go.Ai
open Go.RowKit
open And renaming left->Aeo
open _root_.Array renaming all_eq_true_iff_forall_mem->iQ,getElem?_eq_getElem->DO,getElem?_eq_none->Awd,getElem?_setIfInBounds->P1,getElem?_toList->Awh,length_toList->CA,mapM_eq_mapM_toList->R4,size_setIfInBounds->O0
open Bool renaming and_eq_true->Ad,false_eq_true->Ca,or_eq_false_iff->SC
open Go renaming undef->Bw
open Go.Addr renaming add->A4z
open Go.Builtin renaming max2->Aff,min2->Afg
open Go.Instr renaming build->Ui,field->tF,fill->Kl
open Go.Op renaming intArith->TH,intBits->tI,intCmp->Nx,unary->Awo
open Go.Oper renaming upon->Fw,wp->FI
open Go.Program renaming cellsOf->JD
open Go.Result renaming andThen_ok->Aw
open Go.RowKit.Below renaming heap_alloc->WG,refl->Hw
open Go.Sem renaming run->Fm,run_bind->AH,run_map->A6d,run_pure->Bc
open Go.Value renaming bool->TR
open Go.World renaming setRow->Awm
open List renaming append_assoc->MZ,drop->g,foldlM->A5b,foldlM_cons->Aeu,foldl_cons->Afb,getElem?_append_left->AK,getElem?_append_right->AR,getElem?_cons_succ->Awi,getElem?_drop->Bn,getElem?_eq_getElem->Af,getElem?_eq_some_iff->Hm,getElem?_take_of_lt->By,getElem?_toArray->R2,getElem_cons_zero->F8,getElem_mem->Ds,getElem_of_mem->A6c,getElem_toArray->YA,length_append->AY,length_cons->Bq,length_drop->Eh,length_take->A7,mapM_cons->Ln,map_cons->Cw,mem_append->BR,mem_cons_of_mem->AS,mem_cons_self->AZ,mem_of_mem_drop->EK,mem_of_mem_take->Ct,mem_singleton->Is,range->Ao,size_toArray->Ia,take->B1
open Nat renaming add_assoc->D6,add_zero->FC,le_refl->An,lt_of_lt_of_le->EL,zero_add->Ch
open Option renaming isSome_iff_exists->A_,map_none->WH,map_some->A4
open Option.some renaming inj->L3,injEq->Ay
theorem Jv{Y X:Nat->Prop}{w:World}{v:Value}{x:AV}(h:Rd Y X w v x)(hd:KC x=true):v.oneCell'=true/\v.cells=#[v]:=by
 cases h <;> first | exact⟨rfl,rfl⟩ | cases hd
theorem GZ(b o j:Nat):(⟨b,o,none⟩:Addr).add j=⟨b,o+j,none⟩:=by
 unfold A4z;split
 ·rename_i h;subst h;rfl
 ·rfl
def Awl:TypeDesc->Bool
 | .struct _ | .array _ _=>true
 | _=>false
def Mg(P:Program)(t:TypeId)(n:Nat)(one:Bool):Bool :=
 match P.underlying t,P.info? t with
 | some d,some i=>i.size==n&&one == !(Awl d)
 | _,_=>false
theorem KF{P:Program}{t:TypeId}{n:Nat}{one:Bool}(h:Mg P t n one=true) :
  (∀ w,(isAgg t).run P w = .ok (!one) w)/\(∀ w,(sizeOf t).run P w = .ok n w):=by
 unfold Mg at h;split at h
 ·rename_i d i hd hi;simp only[Ad,beq_iff_eq] at h;obtain⟨h1,h2⟩:=h;constructor
  ·intro w;subst h2;simp only[isAgg,AH,run_underlying hd,Aw,Bool.not_not];cases d <;> rfl
  ·intro w;simp[sizeOf,typeInfo,program,Fm,hi,h1]
 ·cases h
theorem ZS{P:Program}{Y X:Nat->Prop}{w:World}{t:TypeId}{n b base off:Nat}{one:Bool}{cs:List AV}{x:AV}(ho:Mg P t n one=true)(hm:Gg Y X w b base cs)
  (ht:Bm cs off n one=some x):∃ v,(loadVar t ⟨b,base+off,none⟩).run P w = .ok v w/\Rd Y X w v x:=by
 obtain⟨h1,h2⟩:=KF ho;obtain⟨hd,hm⟩:=hm;unfold Bm at ht;cases one with
 | true =>
  simp only[if_true] at ht;obtain⟨hlt,hx⟩:=Hm.1 ht;obtain⟨v,hc,hr⟩:=hm off hlt;refine⟨v,?_,hx ▸ hr⟩;simp[loadVar,h1,hc]
 | false =>
  simp only[Ca,if_false] at ht;split at ht
  ·rename_i hle;cases ht;let f:Nat->Value:=fun j=>(w.cell? ⟨b,base+off+j,none⟩).getD Bw
   have hf:∀ j,j<n->w.cell? ⟨b,base+off+j,none⟩=some (f j)/\∀ h:off+j<cs.length,Rd Y X w (f j) cs[off+j]:=by
    intro j hj;obtain⟨v,hc,hr⟩:=hm (off+j) (by omega);have hc':w.cell? ⟨b,base+off+j,none⟩=some v:=by rw[D6];exact hc
    refine⟨by simp[f,hc'],fun _ => ?_⟩;have:f j=v:=by simp[f,hc']
    rw[this];exact hr
   refine⟨.agg ((Ao n).map f).toArray,?_,?_⟩
   ·have hl:=run_loadCells (P:=P) w ⟨b,base+off,none⟩ n f (fun j hj=>by rw[GZ];exact (hf j hj).1);simp[loadVar,h1,h2,hl]
   ·refine .agg _ _ ?_ (by simp;omega) (fun i h1 h2 => ?_)
    ·intro y hy;exact hd y (EK (Ct hy))
    ·have hi:i<n:=by simpa using h1
     simpa using (hf i hi).2 (by omega)
  ·cases ht
def Du(Y X:Nat->Prop)(w:World)(vs:Array Value)(cs:List AV):Prop :=
 Nu cs/\vs.size=cs.length/\∀ (i:Nat) (h1:i<vs.size) (h2:i<cs.length),Rd Y X w vs[i] cs[i]
theorem Du.oneCell{Y X:Nat->Prop}{w:World}{vs:Array Value}{cs:List AV}(h:Du Y X w vs cs):∀ v∈vs.toList,v.oneCell'=true:=by
 obtain⟨hd,hs,hr⟩:=h;intro v hv;obtain⟨i,hi,rfl⟩:=A6c hv;have hi':i<vs.size:=by simpa using hi
 have:=hr i hi' (by omega);exact (Jv this (hd _ (Ds _))).1
theorem Mh{Y X:Nat->Prop}{w:World}{v:Value}{x:AV}{n:Nat}{ys:List AV}(h:Rd Y X w v x)(hc:Gf x n=some ys):ys.length=n/\Du Y X w v.cells ys:=by
 have one:KC x=true->n=1->ys=[x]->ys.length=n/\Du Y X w v.cells ys:=by
  intro hd hn hy;subst hy hn;refine⟨rfl,?_⟩;rw[(Jv h hd).2];refine⟨fun y hy => ?_,rfl,fun i h1 h2 => ?_⟩
  ·simp only[Is] at hy;subst hy;exact hd
  ·have:i=0:=by simp at h2;exact h2
   subst this;exact h
 cases x with
 | agg cs =>
  simp only[Gf] at hc;split at hc
  ·cases hc;cases h with
   | agg vs _ hd hs hr=>exact⟨by assumption,hd,hs,hr⟩
  ·cases hc
 | tup _=>cases hc
 | undef=>cases hc
 | fresh _ _ _=>cases hc
 | frs _ _ _ _=>cases hc
 | pt _=>cases hc
 | fnc _ _=>cases hc
 | int k m=>simp only[Gf] at hc;split at hc <;> cases hc;exact one rfl (by assumption) rfl
 | bool b=>simp only[Gf] at hc;split at hc <;> cases hc;exact one rfl (by assumption) rfl
 | str b=>simp only[Gf] at hc;split at hc <;> cases hc;exact one rfl (by assumption) rfl
 | nil=>simp only[Gf] at hc;split at hc <;> cases hc;exact one rfl (by assumption) rfl
 | sl m cs=>simp only[Gf] at hc;split at hc <;> cases hc;exact one rfl (by assumption) rfl
theorem Du.world{Y X:Nat->Prop}{w w':World}{vs:Array Value}{cs:List AV}(h:Du Y X w vs cs)(hw:∀ b,¬ X b->b<w.heap.size->w'.heap[b]?=w.heap[b]?):Du Y X w' vs cs :=
 ⟨h.1,h.2.1,fun i h1 h2=>(h.2.2 i h1 h2).world hw⟩
theorem Du.mono{Y X X':Nat->Prop}{w:World}{vs:Array Value}{cs:List AV}(h:Du Y X w vs cs)(hX:∀ b,X' b->X b\/w.heap.size<=b):Du Y X' w vs cs :=
 ⟨h.1,h.2.1,fun i h1 h2=>(h.2.2 i h1 h2).mono hX⟩
theorem Du.get{Y X:Nat->Prop}{w:World}{vs:Array Value}{cs:List AV}(h:Du Y X w vs cs){i:Nat}{c:AV}(hc:cs[i]?=some c):∃ v,vs[i]?=some v/\Rd Y X w v c:=by
 obtain⟨hlt,he⟩:=Hm.1 hc;have hs:=h.2.1;refine⟨vs[i]'(by omega),by rw[DO],?_⟩;subst he;exact h.2.2 i (by omega) hlt
theorem Pd(cs new:List AV)(off i:Nat)(h:off+new.length<=cs.length) :
  (cs.take off++new++cs.drop (off+new.length))[i]?=if i<off then cs[i]? else if i<off+new.length then new[i-off]? else cs[i]?:=by
 have ht:(cs.take off).length=off:=by simp;omega
 by_cases h1:i<off
 ·rw[if_pos h1,MZ,AK (by omega),By h1]
 ·rw[if_neg h1];by_cases h2:i<off+new.length
  ·rw[if_pos h2,AK (by simp;omega),AR (by omega),ht]
  ·rw[if_neg h2,AR (by simp;omega),Bn];congr 1;simp;omega
theorem L9{cs new cs':List AV}{off:Nat}(h:Cu cs off new=some cs'):off+new.length<=cs.length/\cs'.length=cs.length/\cs'=cs.take off++new++cs.drop (off+new.length):=by
 unfold Cu at h;split at h
 ·cases h;exact⟨by assumption,by simp;omega,rfl⟩
 ·cases h
theorem Xu{cs new cs':List AV}{off:Nat}(h:Cu cs off new=some cs')(hc:Nu cs)(hn:Nu new):Nu cs':=by
 obtain⟨_,_,rfl⟩:=L9 h;intro x hx;simp only[BR] at hx;rcases hx with (hx | hx) | hx
 ·exact hc x (Ct hx)
 ·exact hn x hx
 ·exact hc x (EK hx)
theorem H1(w:World)(b c:Nat)(cs:Array Value)(h:c ≠ b):(w.setRow b cs).heap[c]?=w.heap[c]?:=by
 simp only[Awm,Array.getElem?_modify];rw[if_neg (Ne.symm h)]
theorem JK(w:World)(b:Nat)(cs:Array Value):(w.setRow b cs).heap.size=w.heap.size:=by
 simp[Awm]
theorem Xv{P:Program}{Y X:Nat->Prop}{w:World}{t:TypeId}{n b off:Nat}{cs ys cs':List AV}{v:Value}(hsz:∀ w,(sizeOf t).run P w = .ok n w)
  (hb:FN Y X w b 0 cs) (hX:X b) (hv:Du Y X w v.cells ys) (hn:ys.length=n) (hl:Cu cs off ys=some cs') :
  ∃ w',(storeVar t ⟨b,off,none⟩ v).run P w = .ok () w'/\w'.os=w.os/\w'.tape=w.tape/\w'.output=w.output/\w'.heap.size=w.heap.size/\(∀ c,c ≠ b->w'.heap[c]?=w.heap[c]?)/\FN Y X w' b 0 cs'/\∀ m,SF w b m->SF w' b m:=by
 obtain⟨hdat,vs,T,hblk,hle,hcell⟩:=hb;obtain⟨hl1,hl2,hl3⟩:=L9 hl;have hvs:v.cells.size=n:=by rw[hv.2.1,hn]
 have hrun:=run_storeCells_at (P:=P) b off T v.cells.toList 0 vs w hblk (by simp only[CA];omega) hv.oneCell;simp only[FC,CA,Ch] at hrun hle hcell;refine⟨w.setRow b (B1 off vs.toList++v.cells.toList++g (off+v.cells.size) vs.toList).toArray,?_,rfl,rfl,rfl,JK _ _ _,fun c hc=>H1 _ _ _ _ hc,⟨Xu hl hdat hv.1,_,T,setRow_heap w b vs _ T (0,0) hblk,?_,?_⟩,?_⟩
 ·simp only[storeVar,AH,hsz,Aw,hvs,ne_eq,not_true_eq_false,if_false];rw[hvs] at hrun;exact hrun
 ·simp only[Ia,AY,A7,Eh,CA,Ch];omega
 ·have hw:∀ c,¬ X c->c<w.heap.size->(w.setRow b (B1 off vs.toList++v.cells.toList++g (off+v.cells.size) vs.toList).toArray).heap[c]?=w.heap[c]?:=fun c hc _=>H1 _ _ _ _ (fun e=>hc (e ▸ hX));intro i hi;have hg:cs'[i]?=some cs'[i]:=Af hi;have e1:=Pd cs ys off i hl1;rw[<- hl3,hg] at e1;have hvl:v.cells.toList.length=ys.length:=by simp only[CA];omega
  have ht:(vs.toList.take off).length=off:=by simp;omega
  simp only[Ch,R2];by_cases h1:i<off
  ·rw[if_pos h1] at e1;obtain⟨u,hu,hr⟩:=hcell i (by omega);refine⟨u,?_,?_⟩
   ·rw[MZ,AK (by omega),By h1];simpa using hu
   ·have:cs[i]=cs'[i]:=by rw[Af (by omega)] at e1;exact (L3 e1).symm
    rw[<- this];exact hr.world hw
  ·rw[if_neg h1] at e1;by_cases h2:i<off+ys.length
   ·rw[if_pos h2] at e1;obtain⟨u,hu,hr⟩:=hv.get e1.symm;refine⟨u,?_,hr.world hw⟩;rw[AK (by simp only[AY];omega),AR (by omega),ht];simpa using hu
   ·rw[if_neg h2] at e1;obtain⟨u,hu,hr⟩:=hcell i (by omega);refine⟨u,?_,?_⟩
    ·rw[AR (by simp only[AY];omega),Bn];have e2:off+v.cells.size+(i-(vs.toList.take off++v.cells.toList).length)=i:=by simp only[AY,ht,hvl];omega
     rw[e2];simpa using hu
    ·have:cs[i]=cs'[i]:=by rw[Af (by omega)] at e1;exact (L3 e1).symm
     rw[<- this];exact hr.world hw
 ·rintro m ⟨vs',T',r1,r2⟩;rw[hblk] at r1;cases r1;refine⟨_,T,setRow_heap w b vs _ T (0,0) hblk,?_⟩;simp only[Ia,AY,A7,Eh,CA];omega
theorem iW(off:Nat):∀ (l:List Value) (k:Nat) (cells:Array Value) (i:Nat),
  ((l.zipIdx k).foldl (fun (cs:Array Value) (p:Value × Nat)=>cs.setIfInBounds (off+p.2) p.1) cells)[i]? =
   if off+k<=i/\i<off+k+l.length/\i<cells.size then l[i-(off+k)]? else cells[i]?:=by
 intro l;induction l with
 | nil=>intro k cells i;simp;intro h1 h2;omega
 | cons v l ih =>
  intro k cells i;simp only[List.zipIdx_cons,Afb];rw[ih];simp only[O0,P1,Bq];by_cases h0:i=off+k
  ·subst h0;by_cases hs:off+k<cells.size
   ·rw[if_neg (by omega),if_pos (by omega),if_pos hs,if_pos (by omega)];simp
   ·rw[if_neg (by omega),if_pos (by omega),if_neg hs,if_neg (by omega),Awd (by omega)]
  ·by_cases h1:off+(k+1)<=i/\i<off+(k+1)+l.length/\i<cells.size
   ·rw[if_pos h1,if_pos (by omega)];have:i-(off+k)=(i-(off+(k+1)))+1:=by omega
    rw[this,Awi]
   ·rw[if_neg h1,if_neg (by omega),if_neg (by omega)]
theorem iX(off:Nat):∀ (l:List (Value × Nat)) (cells:Array Value),(l.foldl (fun (cs:Array Value) (p:Value × Nat)=>cs.setIfInBounds (off+p.2) p.1) cells).size=cells.size:=by
 intro l;induction l with
 | nil=>intro cells;rfl
 | cons p l ih=>intro cells;simp only[Afb];rw[ih];simp
theorem iY{Y X:Nat->Prop}{w:World}{cells ys':Array Value}{cs ys cs':List AV}{off:Nat}(hc:Du Y X w cells cs)(hy:Du Y X w ys' ys)(hl:Cu cs off ys=some cs') :
  Du Y X w (ys'.zipIdx.foldl (fun (cs:Array Value) (p:Value × Nat)=>cs.setIfInBounds (off+p.2) p.1) cells) cs':=by
 obtain⟨hl1,hl2,hl3⟩:=L9 hl;have he:ys'.zipIdx.foldl (fun (cs:Array Value) (p:Value × Nat)=>cs.setIfInBounds (off+p.2) p.1) cells=(ys'.toList.zipIdx 0).foldl (fun (cs:Array Value) (p:Value × Nat)=>cs.setIfInBounds (off+p.2) p.1) cells:=by
  rw[<- Array.foldl_toList,Array.toList_zipIdx]
 rw[he];have hsz:=iX off (ys'.toList.zipIdx 0) cells;refine⟨Xu hl hc.1 hy.1,by rw[hsz,hl2];exact hc.2.1,?_⟩;intro i h1 h2;have hg:=iW off ys'.toList 0 cells i;have e1:=Pd cs ys off i hl1;rw[<- hl3,Af h2] at e1;rw[DO h1] at hg;have hcs:=hc.2.1;have hys:=hy.2.1;have hin:i<cells.size:=by omega
 simp only[FC,CA] at hg;by_cases h3:off<=i/\i<off+ys'.size
 ·rw[if_pos ⟨h3.1,h3.2,hin⟩] at hg;rw[if_neg (by omega),if_pos (by omega)] at e1;obtain⟨u,hu,hr⟩:=hy.get e1.symm;simp only[Awh,hu,Ay] at hg;rw[hg];exact hr
 ·rw[if_neg (by omega)] at hg;have e2:cs[i]?=some cs'[i]:=by
   by_cases h4:i<off
   ·rw[if_pos h4] at e1;exact e1.symm
   ·rw[if_neg h4,if_neg (by omega)] at e1;exact e1.symm
  obtain⟨u,hu,hr⟩:=hc.get e2;rw[hu] at hg;rw[L3 hg];exact hr
def Qw:Value->AV->Bool
 | .int k n,.int k' n'=>k==k'&&n==n'
 | .bool b,.bool b'=>b==b'
 | .string s,.str s'=>decide (s=s')
 | .slice none 0 0,.nil=>true
 | .slice none 0 0,.sl 0 []=>true
 | _,_=>false
theorem SG{Y X:Nat->Prop}{w:World}{v:Value}{x:AV}(h:Qw v x=true):Rd Y X w v x/\KC x=true:=by
 unfold Qw at h;split at h
 ·simp only[Ad,beq_iff_eq] at h;obtain⟨rfl,rfl⟩:=h;exact⟨.int _ _,rfl⟩
 ·simp only[beq_iff_eq] at h;subst h;exact⟨.bool _,rfl⟩
 ·simp only[decide_eq_true_eq] at h;subst h;exact⟨.str _,rfl⟩
 ·exact⟨.nil,rfl⟩
 ·exact⟨.nil0,rfl⟩
 ·cases h
def LA:List Value->List AV->Bool
 | [],[]=>true
 | v::vs,x::xs=>Qw v x&&LA vs xs
 | _,_=>false
theorem JL{Y X:Nat->Prop}{w:World}:∀ {vs:List Value} {cs:List AV},LA vs cs=true->Du Y X w vs.toArray cs
 | [],[],_=>⟨fun x hx=>(by cases hx),rfl,fun i h1 _=>(by simp at h1)⟩
 | v::vs,x::cs,h=>by
  simp only[LA,Ad] at h;obtain⟨h1,h2⟩:=h;obtain⟨hd,hs,hr⟩:=JL (Y:=Y) (X:=X) (w:=w) h2;obtain⟨hv,hdx⟩:=SG (Y:=Y) (X:=X) (w:=w) h1;refine⟨fun y hy => ?_,by simp at hs |-;exact hs,fun i h3 h4 => ?_⟩
  ·cases hy with
   | head=>exact hdx
   | tail _ hy=>exact hd y hy
  ·cases i with
   | zero=>simpa using hv
   | succ i =>
    have h5:=hr i (by simp at h3 |-;omega) (by simp at h4 |-;omega);simp only[YA] at h5;simpa using h5
 | [],_::_,h=>by cases h
 | _::_,[],h=>by cases h
def BX:Operand->Opd->Bool
 | .tmp t,.t n=>t==n
 | .const v,.c x=>Qw v x
 | _,_=>false
def IH:List Operand->List Opd->Bool
 | [],[]=>true
 | x::xs,o::os=>BX x o&&IH xs os
 | _,_=>false
def Mi(P:Program)(t:TypeId)(z:List AV):Bool :=
 match P.info? t with
 | some i=>(match i.zero with | some v=>LA v.cells.toList z | none=>false)
 | none=>false
def II(P:Program)(t:TypeId)(n:Nat):Bool :=
 match P.info? t with
 | some i=>i.size==n
 | none=>false
def Kp(P:Program)(fs:Array Field)(i off n:Nat):Bool :=
 match fs[i]? with
 | some f=>f.offset==off&&II P f.type n
 | none=>false
def LB(place:Nat->Nat->Nat->Bool):List (Nat × Operand)->List (Nat × Nat × Opd)->Bool
 | [],[]=>true
 | (i,x)::l,(off,n,o)::m=>place i off n&&BX x o&&LB place l m
 | _,_=>false
def Afc(P:Program)(t:TypeId)(parts:List (Nat × Operand))(z:List AV)(ps:List (Nat × Nat × Opd)):Bool :=
 Mi P t z &&
 match P.underlying t with
 | some (.struct fs)=>fs.all (fun f=>(P.info? f.type).isSome)&&LB (Kp P fs) parts ps
 | some (.array _ e)=>(P.info? e).isSome&&LB (fun i off n=>off==i*P.cellsOf e&&n==P.cellsOf e) parts ps
 | _=>false
def Qx(z:List AV)(zero:List Value):Nat->Bool
 | 0=>z.isEmpty
 | n+1=>LA zero (z.take zero.length)&&Qx (z.drop zero.length) zero n
def YF(P:Program)(t:TypeId)(len:Nat)(parts:List (Nat × Operand))(n:Nat)(z:List AV)(ps:List (Nat × Nat × Opd)):Bool :=
 len==n &&
 match P.underlying t with
 | some (.slice e)=>(match P.info? e with
  | some i=>decide (0<i.size)&&decide (len*i.size<=16777216)&&(match i.zero with | some v=>v.cells.size==i.size&&decide (z.length=len*i.size)&&Qx z v.cells.toList len | none=>false) &&
   LB (fun j off m=>off==j*i.size&&m==i.size) parts ps
  | none=>false)
 | _=>false
def qY(P:Program)(t:TypeId):Bool:=match P.underlying t with | some (.int _)=>true | _=>false
def ZT(P:Program)(t:TypeId):Bool:=match P.underlying t with | some .bool=>true | _=>false
def YG(P:Program)(args:List Operand)(ts:List TypeId)(x:Opd):Bool :=
 match args,ts with
 | [x'],[t]=>BX x' x&&(match P.underlying t with | some (.slice _)=>true | _=>false)
 | _,_=>false
def FE(P:Program)(t:TypeId)(k:Nat):Bool :=
 match P.underlying t with
 | some (.slice e)=>(match P.info? e with
  | some i=>i.size==k&&decide (0<i.size)&&decide (i.bytes<=1048576)&&(match i.zero with | some v=>v.cells.size==i.size | none=>false)
  | none=>false)
 | _=>false
def YH(P:Program)(t:TypeId)(z:List AV):Bool :=
 match P.underlying t with
 | some (.slice e)=>Mi P e z
 | _=>false
def G_(P:Program)(t:TypeId):Bool:=match P.underlying t with | some (.slice _)=>true | _=>false
def TQ(P:Program)(t:TypeId)(B:Nat):Bool :=
 match P.underlying t with
 | some (.slice e)=>(match P.info? e with
  | some i=>decide (B*i.bytes<=140737488355328)&&decide (B<=140737488355328)
  | none=>false)
 | _=>false
def Afd(P:Program)(args:List Operand)(ts:List TypeId)(x y:Opd)(k B:Nat):Bool :=
 match args,ts with
 | [x',y'],[t,t']=>BX x' x&&BX y' y&&FE P t k&&G_ P t'&&TQ P t B
 | _,_=>false
def Pe:Option Operand->Option Opd->Bool
 | none,none=>true
 | some x,some o=>BX x o
 | _,_=>false
def qZ(P : Program)(f : Nat) : Bool := match P.funcs[f]? with | some fn => fn.body.isSome && !(fn.name == "runtime.NumGoroutine") | none => false
def iZ(P:Program)(t:TypeId)(parts:List (Nat × Operand))(a:Opd)(x:Nat):Bool :=
 match P.underlying t,parts with
 | some (.struct fs),[(0,a'),(1,x')]=>BX a' a&&BX x' (.t x)&&fs.size==2&&Kp P fs 0 0 1&&Kp P fs 1 1 1&&Mi P t [.bool false,.sl 0 []]&&fs.all (fun f=>(P.info? f.type).isSome)
 | _,_=>false
def Us(op:Op)(x:Nat):Bool:=match op with | .move y=>BX y (.t x) | .assign y=>BX y (.t x) | _=>false
def Gu(P : Program)(op : Op)(k : K) : Bool :=
 match k with
 | .mov y => (match op with | .move x => BX x y | .assign x => BX x y | _ => false)
 | .pick c a b => (match op with | .pick c' a' b' => BX c' c && BX a' a && BX b' b | _ => false)
 | .bin o x y => (match op with | .binOp o' _ x' y' _ => o' == o && BX x' x && BX y' y | _ => false)
 | .eqb neg x y => (match op with | .binOp o' t x' y' _ => o' == (if neg then BinOp.neq else BinOp.eql) && ZT P t && BX x' x && BX y' y | _ => false)
 | .un o x => (match op with | .unOp o' _ x' => o' == o && BX x' x | _ => false)
 | .cv k x => (match op with | .convert src dst x' => qY P src && (match P.underlying dst with | some (.int k') => k' == k | _ => false) && BX x' x | _ => false)
 | .new z _ => (match op with | .alloc t => Mi P t z | _ => false)
 | .box x _ => (match op with | .box _ x' => BX x' x | _ => false)
 | .bld z ps => (match op with | .build t parts => Afc P t parts.toList z ps | _ => false)
 | .bls n z ps => (match op with | .buildSlice t len parts => YF P t len parts.toList n z ps | _ => false)
 | .adr x _ off => (match op with | .fieldAddr t x' f => BX x' (.t x) && (match P.underlying t with | some (.struct fs) => (match fs[f]? with | some f => f.offset == off && !(II P f.type 0) && (P.info? f.type).isSome | none => false) | _ => false) | _ => false)
 | .ld x _ n one => (match op with | .load t x' => BX x' (.t x) && Mg P t n one | _ => false)
 | .st x _ n v => (match op with | .store t x' v' => BX x' (.t x) && II P t n && BX v' v | _ => false)
 | .fld x off n one => (match op with | .field t x' f => BX x' x && (match P.underlying t with | some (.struct fs) => (match fs[f]? with | some f => f.offset == off && Mg P f.type n one | none => false) | _ => false) | _ => false)
 | .ixa x i k => (match op with | .indexAddr t x' i' => BX x' (.t x) && BX i' i && (match P.underlying t with | some (.slice e) => II P e k | _ => false) | _ => false)
 | .six x i => (match op with | .index t x' i' => BX x' x && BX i' i && (match P.underlying t with | some .string => true | _ => false) | _ => false)
 | .ext x i => (match op with | .extract x' i' => BX x' x && i' == i | _ => false)
 | .len x => (match op with | .call { callee := .builtin .len, args := args, argTypes := ts } => YG P args.toList ts.toList x | _ => false)
 | .mx xs => (match op with | .call { callee := .builtin .max, args := args, argTypes := _ } => IH args.toList xs | _ => false)
 | .mn xs => (match op with | .call { callee := .builtin .min, args := args, argTypes := _ } => IH args.toList xs | _ => false)
 | .call f xs => (match op with | .call { callee := .value (.func f'), args := args, argTypes := _ } => f' == f && IH args.toList xs && (match P.funcs[f]? with | some fn => fn.body.isSome && !(fn.name == "runtime.NumGoroutine") | none => false) | _ => false)
 | .clo f xs => (match op with | .call { callee := .value (.func f'), args := args, argTypes := _ } => f' == f && IH args.toList xs && (match P.funcs[f]? with | some fn => fn.body.isSome && !(fn.name == "runtime.NumGoroutine") | none => false) | _ => false)
 | .brw f x _ => (match op with | .call { callee := .value (.func f'), args := args, argTypes := _ } => f' == f && IH args.toList [.t x] && (match P.funcs[f]? with | some fn => fn.body.isSome && !(fn.name == "runtime.NumGoroutine") | none => false) | _ => false)
 | .nlo _ => (match op with | .move (.const (.slice none 0 0)) => true | .assign (.const (.slice none 0 0)) => true | _ => false)
 | .cpy x => Us op x
 | .tra x => Us op x
 | .frz x => Us op x
 | .mks z n => (match op with | .makeSlice t l c => BX l n && BX c n && FE P t z.length && YH P t z | _ => false)
 | .blo k n z ps => (match op with | .buildSlice t len parts => YF P t len parts.toList n z ps && FE P t k | _ => false)
 | .apd _ x y k B => (match op with | .call { callee := .builtin .append, args := args, argTypes := ts } => Afd P args.toList ts.toList x y k B | _ => false)
 | .sli x lo hi mx k => (match op with | .slice t x' lo' hi' mx' => BX x' x && Pe lo' lo && Pe hi' hi && Pe mx' mx && FE P t k | _ => false)
 | .ixo x _ i k => (match op with | .indexAddr t x' i' => BX x' (.t x) && BX i' i && FE P t k | _ => false)
 | .lno x _ => (match op with | .call { callee := .builtin .len, args := args, argTypes := ts } => YG P args.toList ts.toList (.t x) | _ => false)
 | .bdo a x _ => (match op with | .build t parts => iZ P t parts.toList a x | _ => false)
 | .cln f xs _ => (match op with | .call { callee := .value (.func f'), args := args, argTypes := _ } => f' == f && IH args.toList xs && qZ P f | _ => false)
 | .stl x v => (match op with | .store t x' v' => BX x' (.t x) && II P t 2 && BX v' (.t v) | _ => false)
 | .fdo x => (match op with | .field t x' 1 => BX x' (.t x) && (match P.underlying t with | some (.struct fs) => (match fs[1]? with | some f => f.offset == 1 && Mg P f.type 1 true | none => false) | _ => false) | _ => false)
 | .exo x => (match op with | .extract x' 0 => BX x' (.t x) | _ => false)
 | .slo x hi k => (match op with | .slice t x' none (some hi') none => BX x' (.t x) && BX hi' hi && FE P t k | _ => false)
 | .bad => true
section
variable {P:Program} {Y X0:Nat->Prop} {roots:List (Nat × Nat)} {w0 w:World} {s:Ak} {a:Act} {Q:Exit->Act->World->Prop}
theorem C5(h:Rel Y X0 roots w0 s a w){x:Operand}{o:Opd}{y:AV}(hx:BX x o=true)(ho:o.av s=some y):Rd Y (fun b=>X0 b\/XS s a.tmps b) w (a.eval x) y:=by
 cases o with
 | t n =>
  cases x with
  | tmp m =>
   simp only[BX,beq_iff_eq] at hx;subst hx;simp only[Opd.av,Opd.reg] at ho;have h0:=h.reg m;cases hr:A2 s m with
   | val z =>
    rw[hr] at ho h0;cases ho;exact h0
   | box _=>rw[hr] at ho;cases ho
   | ptr _ _=>rw[hr] at ho;cases ho
   | mem _=>rw[hr] at ho;cases ho
   | own _ _ _=>rw[hr] at ho;cases ho
   | agn _ _ _ _=>rw[hr] at ho;cases ho
   | bxl _=>rw[hr] at ho;cases ho
   | dup _=>rw[hr] at ho;cases ho
   | sub _ _ _ _=>rw[hr] at ho;cases ho
   | dead=>rw[hr] at ho;cases ho
  | const v=>cases hx
  | global g=>cases hx
  | func f=>cases hx
 | c z =>
  cases x with
  | const v =>
   simp only[Opd.av,Opd.reg,Ay] at ho;subst ho;exact (SG hx).1
  | tmp m=>cases hx
  | global g=>cases hx
  | func f=>cases hx
theorem LC(h:Rel Y X0 roots w0 s a w):∀ {xs:List Operand} {os:List Opd} {ys:List AV},IH xs os=true->avs s os=some ys ->
  xs.length=ys.length/\∀ (i:Nat) (h1:i<xs.length) (h2:i<ys.length),Rd Y (fun b=>X0 b\/XS s a.tmps b) w (a.eval xs[i]) ys[i]
 | [],[],ys,_,hy=>by
  simp only[avs,Ay] at hy;subst hy;exact⟨rfl,fun i h1 _=>(by simp at h1)⟩
 | x::xs,o::os,ys,hx,hy=>by
  simp only[IH,Ad] at hx;simp only[avs] at hy;cases h1:o.av s with
  | none=>rw[h1] at hy;cases hy
  | some y =>
   rw[h1] at hy;cases h2:avs s os with
   | none=>rw[h2] at hy;cases hy
   | some ys' =>
    rw[h2] at hy;cases hy;obtain⟨e1,e2⟩:=LC h hx.2 h2;refine⟨by simp[e1],fun i h3 h4 => ?_⟩;cases i with
    | zero=>exact C5 h hx.1 h1
    | succ i=>exact e2 i (by simpa using h3) (by simpa using h4)
 | [],_::_,_,hx,_=>by cases hx
 | _::_,[],_,hx,_=>by cases hx
theorem Rel.lowYw(h:Rel Y X0 roots w0 s a w):∀ b,Y b->b<w.heap.size:=fun b hb=>EL (h.lowY b hb) h.below.size
theorem Rel.lowX(h:Rel Y X0 roots w0 s a w):∀ b,(X0 b\/XS s a.tmps b)->b<w.heap.size:=by
 rintro b (hb | ⟨t,h1,h2⟩)
 ·exact EL (h.low b hb) h.below.size
 ·exact (h.exclLow h1 h2).2
def ZU(s:Ak)(roots:List (Nat × Nat))(dst:Option Nat):Prop:=∀ d,dst=some d->∀ t,(t,d)∈roots->Fl (A2 s t)=false
theorem Rel.put(h:Rel Y X0 roots w0 s a w){dst:Option Nat}{v:Value}{x:AV}(hf:ZU s roots dst)(hr:Rd Y (fun b=>X0 b\/XS s a.tmps b) w v x):Rel Y X0 roots w0 (DQ s dst (.val x)) (a.put dst v) w:=by
 cases dst with
 | none=>exact h
 | some d =>
  refine Dt (ks:=[]) h (Hw _ _) (fun t ht => .inr (hf d rfl t ht)) (fun he=>(by cases he)) (fun X _ h2 => ?_);exact hr.mono fun b hb => .inl (h2 rfl b hb)
theorem Nv(h:Rel Y X0 roots w0 s a w){dst:Option Nat}{b off:Nat}{cs:List AV}(hf:ZU s roots dst)(hX:cs ≠ []->¬ (X0 b\/XS s a.tmps b))(hr:Gg Y (fun b=>X0 b\/XS s a.tmps b) w b off cs) :
  Rel Y X0 roots w0 (DQ s dst (.mem cs)) (a.put dst (.pointer (some ⟨b,off,none⟩))) w:=by
 cases dst with
 | none=>exact h
 | some d =>
  refine Dt (ks:=[]) h (Hw _ _) (fun t ht => .inr (hf d rfl t ht)) (fun he=>(by cases he)) (fun X _ h2 => ?_);exact⟨b,off,rfl,fun hne hx=>hX hne (h2 rfl b hx),hr.mono fun b hb => .inl (h2 rfl b hb)⟩
theorem Nw(h:Rel Y X0 roots w0 s a w){dst:Option Nat}{d off:Nat}{p:Addr}(hf:ZU s roots dst)(hroot:∀ t,dst=some t->(t,d)∈roots/\t ≠ d)(hd:HB (a.tmps.getD d Bw)=some p)(hs:p.spot=none) :
  Rel Y X0 roots w0 (DQ s dst (.ptr d off)) (a.put dst (.pointer (some ⟨p.block,p.off+off,none⟩))) w:=by
 cases dst with
 | none=>exact h
 | some t =>
  refine Dt (ks:=[]) h (Hw _ _) (fun u hu => .inr (hf t rfl u hu)) (fun he=>(by cases he)) (fun X _ _ => ?_);refine⟨(hroot t rfl).1,p,?_,hs,rfl⟩;rw[L8,if_neg]
  ·exact hd
  ·rintro⟨rfl,_⟩;exact (hroot t rfl).2 rfl
theorem Rel.putDup(h:Rel Y X0 roots w0 s a w){dst:Option Nat}{d:Nat}(hf:ZU s roots dst)(hroot:∀ t,dst=some t->(t,d)∈roots/\t ≠ d) :
  Rel Y X0 roots w0 (DQ s dst (.dup d)) (a.put dst (a.tmps.getD d Bw)) w:=by
 cases dst with
 | none=>exact h
 | some t =>
  refine Dt (ks:=[]) h (Hw _ _) (fun u hu => .inr (hf t rfl u hu)) (fun he=>(by cases he)) (fun X _ _ => ?_);refine⟨(hroot t rfl).1,?_⟩;rw[L8,if_neg];rintro⟨rfl,_⟩;exact (hroot t rfl).2 rfl
theorem Bx{o:Oper}{v:Value}{K:Act->World->Prop}(hrun:(execOp a.eval o).run P w = .ok (.value v) w)(h:K (a.put o.dst v) w):o.wp P a w K Q:=by
 simp only[FI,hrun,Fw];exact h
def Kr(Y X:Nat->Prop)(B:Nat)(w':World)(v:Value):AV->Prop
 | .fresh k n cs=>FO Y (fun c=>X c\/Bi v=some c) B w' v k n cs
 | .frs b k n cs=>Ju Y (fun c=>X c\/Bi v=some c) B w' v b k n cs
 | x=>Rd Y X w' v x
theorem Kr.of_rd{Y X:Nat->Prop}{B:Nat}{w':World}{v:Value}{x:AV}(h:Rd Y X w' v x):Kr Y X B w' v x:=by
 cases h <;> simp only[Kr] <;> first | exact .int _ _ | exact .bool _ | exact .str _ | exact .undef | exact .nil | exact .nil0 | exact .e0 _ _ | (apply Rd.agg <;> assumption) | (apply Rd.tup <;> assumption) | (apply Rd.sl <;> assumption) | (apply Rd.pt <;> assumption) | (apply Rd.fnc <;> assumption)
theorem Kr.thawed{Y X:Nat->Prop}{B:Nat}{w':World}{v:Value}{x:AV}(h:Kr Y X B w' v x)(hX:∀ b,X b->b<B)(hY:∀ b,Y b->b<B):Rd Y X w' v (Kn x):=by
 cases x
 case fresh k n cs =>
  simp only[Kr] at h;refine FO.frozen h (fun b hb => .inl (.inl hb)) (fun b hb hXb => ?_) hY;have h1:=(FO.block h hb).1;have:=hX b hXb;omega
 case frs bb k n cs =>
  simp only[Kr] at h;obtain⟨u,rfl,h⟩:=h;have hu:Rd Y X w' u (.sl n cs):=by
   refine FO.frozen h (fun b hb => .inl (.inl hb)) (fun b hb hXb => ?_) hY;have h1:=(FO.block h hb).1;have:=hX b hXb;omega
  cases bb with
  | st b=>exact iV hu
  | tp b =>
   refine Rd.tup #[u,.bool b] [.sl n cs,.bool b] rfl fun i h1 h2 => ?_;match i,h2 with
   | 0,_=>exact hu
   | 1,_=>exact Rd.bool b
 all_goals exact h
def KG(P:Program)(F:BA):Prop :=
 ∀ (f:Nat) (args:List AV) (x:AV),F f args=some x->∀ (Y X:Nat->Prop) (w:World) (vs:Array Value),(∀ b,X b->b<w.heap.size)->(∀ b,Y b->b<w.heap.size)->vs.size=args.length ->
  (∀ (i:Nat) (h1:i<vs.size) (h2:i<args.length),Rd Y X w vs[i] args[i]) ->
  Calls P f vs w fun e w'=>∃ v,e = .returned v/\Below w.heap.size w w'/\Kr Y X w.heap.size w' v x
end
section
variable {P:Program} {Y X0:Nat->Prop} {roots:List (Nat × Nat)} {w0 w:World} {s:Ak} {a:Act} {Q:Exit->Act->World->Prop}
theorem R6(op:BinOp)(t:TypeId)(x y:Operand)(k k':IntKind)(m m':Int):(eqGuard op t x y (.int k m) (.int k' m')).run P w = .ok () w:=by
 cases op <;> rfl
theorem KH(op:BinOp)(t:TypeId)(x y:Operand)(m m':Bool):(eqGuard op t x y (.bool m) (.bool m')).run P w = .ok () w:=by
 cases op <;> rfl
theorem Afe{op:BinOp}{t:TypeId}{k k':IntKind}{m m':Int}{z:AV}{Y X:Nat->Prop}(h:L6 op (.int k m) (.int k' m')=some z) :
  ∃ v,(binOp op t (.int k m) (.int k' m')).run P w = .ok v w/\Rd Y X w v z:=by
 simp only[L6] at h;split at h
 ·rename_i hs;unfold Qv at h;split at h
  ·cases h
  ·rename_i hn;cases op <;> simp only[IY,Ca] at hs <;> simp only[Ay] at h <;> subst h
   ·exact⟨_,by simp[binOp,Op.shift,hn],.int _ _⟩
   ·exact⟨_,by simp[binOp,Op.shift,hn],.int _ _⟩
 ·rename_i hs;split at h
  ·rename_i hk;subst hk;cases op <;> simp only[IY,not_true_eq_false] at hs <;> simp only[ZL,Afa,Lp,A4,WH,Ay] at h
   case quo =>
    split at h
    ·cases h
    ·rename_i h0;cases h;exact⟨_,by simp[binOp,Op.intDiv,h0],.int _ _⟩
   case rem =>
    split at h
    ·cases h
    ·rename_i h0;cases h;exact⟨_,by simp[binOp,Op.intDiv,h0],.int _ _⟩
   case andNot=>cases h
   case add=>subst h;exact⟨_,by simp[binOp,TH],.int _ _⟩
   case sub=>subst h;exact⟨_,by simp[binOp,TH],.int _ _⟩
   case mul=>subst h;exact⟨_,by simp[binOp,TH],.int _ _⟩
   case and=>subst h;exact⟨_,by simp only[binOp,tI,ne_eq,not_true_eq_false,if_false];rfl,.int _ _⟩
   case or=>subst h;exact⟨_,by simp only[binOp,tI,ne_eq,not_true_eq_false,if_false];rfl,.int _ _⟩
   case xor=>subst h;exact⟨_,by simp only[binOp,tI,ne_eq,not_true_eq_false,if_false];rfl,.int _ _⟩
   case eql=>subst h;exact⟨_,by simp only[binOp,Nx,ne_eq,not_true_eq_false,if_false];rfl,.bool _⟩
   case neq=>subst h;exact⟨_,by simp only[binOp,Nx,ne_eq,not_true_eq_false,if_false];rfl,.bool _⟩
   case lss=>subst h;exact⟨_,by simp only[binOp,Nx,ne_eq,not_true_eq_false,if_false];rfl,.bool _⟩
   case leq=>subst h;exact⟨_,by simp only[binOp,Nx,ne_eq,not_true_eq_false,if_false];rfl,.bool _⟩
   case gtr=>subst h;exact⟨_,by simp only[binOp,Nx,ne_eq,not_true_eq_false,if_false];rfl,.bool _⟩
   case geq=>subst h;exact⟨_,by simp only[binOp,Nx,ne_eq,not_true_eq_false,if_false];rfl,.bool _⟩
  ·cases h
theorem Awn{op:UnOp}{u:Value}{x z:AV}{Y X:Nat->Prop}(hu:Rd Y X w u x)(h:unA op x=some z):∃ v,(Awo op u).run P w = .ok v w/\Rd Y X w v z:=by
 unfold unA at h;split at h
 ·cases hu;simp only[Ay] at h;subst h;exact⟨_,by simp[Awo,TH],.int _ _⟩
 ·cases hu;simp only[Ay] at h;subst h;exact⟨_,by simp[Awo],.bool _⟩
 ·cases h
theorem tJ(k:IntKind)(x y:Int):(Aff (.int k x) (.int k y)).run P w = .ok (.int k (if y>x then y else x)) w:=rfl
theorem tK(k:IntKind)(x y:Int):(Afg (.int k x) (.int k y)).run P w = .ok (.int k (if y<x then y else x)) w:=rfl
theorem ZV{Y X:Nat->Prop}{k:IntKind}:∀ {vs:List Value} {l:List AV} {m r:Int},vs.length=l.length->(∀ (i:Nat) (h1:i<vs.length) (h2:i<l.length),Rd Y X w vs[i] l[i])->Xp k m l=some r ->
  (A5b Aff (.int k m) vs:Sem Value).run P w = .ok (.int k r) w
 | [],[],m,r,_,_,h=>by simp only[Xp,Ay] at h;subst h;rfl
 | v::vs,x::l,m,r,hl,hr,h=>by
  have h0:=hr 0 (by simp) (by simp);simp only[F8] at h0;cases x <;> simp only[Xp] at h <;> try cases h
  rename_i k' n;split at h
  ·rename_i hk;subst hk;cases h0;have ih:=ZV (vs:=vs) (l:=l) (by simpa using hl) (fun i h1 h2=>hr (i+1) (by simp;omega) (by simp;omega)) h;simp only[Aeu,AH,tJ,Aw];exact ih
  ·cases h
 | [],_::_,_,_,hl,_,_=>by simp at hl
 | _::_,[],_,_,hl,_,_=>by simp at hl
theorem ZW{Y X:Nat->Prop}{k:IntKind}:∀ {vs:List Value} {l:List AV} {m r:Int},vs.length=l.length->(∀ (i:Nat) (h1:i<vs.length) (h2:i<l.length),Rd Y X w vs[i] l[i])->Xq k m l=some r ->
  (A5b Afg (.int k m) vs:Sem Value).run P w = .ok (.int k r) w
 | [],[],m,r,_,_,h=>by simp only[Xq,Ay] at h;subst h;rfl
 | v::vs,x::l,m,r,hl,hr,h=>by
  have h0:=hr 0 (by simp) (by simp);simp only[F8] at h0;cases x <;> simp only[Xq] at h <;> try cases h
  rename_i k' n;split at h
  ·rename_i hk;subst hk;cases h0;have ih:=ZW (vs:=vs) (l:=l) (by simpa using hl) (fun i h1 h2=>hr (i+1) (by simp;omega) (by simp;omega)) h;simp only[Aeu,AH,tK,Aw];exact ih
  ·cases h
 | [],_::_,_,_,hl,_,_=>by simp at hl
 | _::_,[],_,_,hl,_,_=>by simp at hl
theorem Ny(h:Rel Y X0 roots w0 s a w){dst:Option Nat}{cells:Array Value}{cs:List AV}{T:TypeId}{ks:List Nat}(hks:∀ d,dst=some d->∀ t,(t,d)∈roots->t∈ks)
  (hdst:dst.isSome=true) (hc:Du Y (fun b=>X0 b\/XS s a.tmps b) w cells cs) :
  Rel Y X0 roots w0 (DQ (BS s (ks.map fun u=>(u,Reg.dead))) dst (.box cs)) (a.put dst (.pointer (some ⟨w.heap.size,0,none⟩))) (w.alloc (.cells cells T)):=by
 cases dst with
 | none=>cases hdst
 | some d =>
  refine Dt h ((Hw _ _).alloc (An _) _) (fun t ht => .inl (hks d rfl t ht)) (fun _ b hb=>by simp only[Bi,HB,A4,Ay] at hb;omega) (fun X h1 _ => ?_);have hc':=(hc.mono (X':=X) (fun b hb=>(h1 b hb).imp id Aeo)).world (w':=w.alloc (.cells cells T)) (fun b _ hb=>WG _ _ _ hb);refine⟨w.heap.size,rfl,h.below.size,hc.1,cells,T,by show (w.heap.push _)[w.heap.size]?=_;simp,by rw[hc.2.1];omega,fun i hi => ?_⟩;have hs:=hc.2.1;refine⟨cells[i]'(by omega),by rw[Ch,DO],hc'.2.2 i (by omega) hi⟩
theorem Mj{t:TypeId}{z:List AV}(h:Mi P t z=true):∃ v,(∀ w,(zeroValue t).run P w = .ok v w)/\∀ (Y X:Nat->Prop) (w:World),Du Y X w v.cells z:=by
 unfold Mi at h;split at h
 ·rename_i i hi;split at h
  ·rename_i v hv;refine⟨v,fun w=>by simp[zeroValue,typeInfo,program,Fm,hi,hv],fun Y X w => ?_⟩;have:=JL (Y:=Y) (X:=X) (w:=w) h;simpa using this
  ·cases h
 ·cases h
theorem JM{t:TypeId}{n:Nat}(h:II P t n=true):∀ w,(sizeOf t).run P w = .ok n w:=by
 unfold II at h;split at h
 ·rename_i i hi;simp only[beq_iff_eq] at h;intro w;simp[sizeOf,typeInfo,program,Fm,hi,h]
 ·cases h
theorem Nz(h:Rel Y X0 roots w0 s a w){place:Nat->Option (Nat × Nat)}{pl:Nat->Nat->Nat->Bool}(hpl:∀ i off n,pl i off n=true->place i=some (off,n)) :
  ∀ {parts:List (Nat × Operand)} {ps:List (Nat × Nat × Opd)} {cells:Array Value} {cs cs':List AV},LB pl parts ps=true->Du Y (fun b=>X0 b\/XS s a.tmps b) w cells cs->FL s cs ps=some cs' ->
   ∃ cells',Kl place cells (parts.map fun p=>(p.1,a.eval p.2))=some cells'/\Du Y (fun b=>X0 b\/XS s a.tmps b) w cells' cs'
 | [],[],cells,cs,cs',_,hc,hf=>by
  simp only[FL,Ay] at hf;subst hf;exact⟨cells,rfl,hc⟩
 | (i,x)::parts,(off,n,o)::ps,cells,cs,cs',hp,hc,hf=>by
  simp only[LB,Ad] at hp;obtain⟨⟨h1,h2⟩,h3⟩:=hp;simp only[FL] at hf;cases ho:o.av s with
  | none=>rw[ho] at hf;cases hf
  | some y =>
   rw[ho] at hf;dsimp only at hf;cases hy:Gf y n with
   | none=>rw[hy] at hf;cases hf
   | some ys =>
    rw[hy] at hf;dsimp only at hf;cases hl:Cu cs off ys with
    | none=>rw[hl] at hf;cases hf
    | some cs1 =>
     rw[hl] at hf;dsimp only at hf;obtain⟨hn,hyr⟩:=Mh (C5 h h2 ho) hy;obtain⟨cells',e1,e2⟩:=Nz h hpl h3 (iY hc hyr hl) hf;refine⟨cells',?_,e2⟩;simp only[Cw,Kl,hpl i off n h1];have hle:=(L9 hl).1;have hs1:=hc.2.1;have hs2:=hyr.2.1;have hcond:((a.eval x).cells.size ≠ n || off+(a.eval x).cells.size>cells.size)=false:=by
      simp only[ne_eq,SC,decide_eq_false_iff_not,Decidable.not_not,gt_iff_lt,Nat.not_lt];omega
     rw[if_neg (by rw[hcond];simp)];exact e1
 | [],_::_,_,_,_,hp,_,_=>by cases hp
 | _::_,[],_,_,_,hp,_,_=>by cases hp
theorem jA{fs:Array Field}(hall:fs.all (fun f=>(P.info? f.type).isSome)=true):(fs.mapM fun f=>do pure (f.offset,<- sizeOf f.type):Sem (Array (Nat × Nat))).run P w = .ok (fs.map fun f=>(f.offset,P.cellsOf f.type)) w:=by
 have key:∀ (l:List Field),(∀ f∈l,(P.info? f.type).isSome=true)->(l.mapM fun f=>do pure (f.offset,<- sizeOf f.type):Sem (List (Nat × Nat))).run P w = .ok (l.map fun f=>(f.offset,P.cellsOf f.type)) w:=by
  intro l;induction l with
  | nil=>intro _;rfl
  | cons f l ih =>
   intro hl;obtain⟨i,hi⟩:=A_.1 (hl f (AZ ..));have hsz:(sizeOf f.type).run P w = .ok (P.cellsOf f.type) w:=by simp[sizeOf,typeInfo,program,Fm,hi,JD]
   simp only[Ln,AH,hsz,Aw,Bc,ih (fun g hg=>hl g (AS _ hg)),Cw]
 have:=key fs.toList (fun f hf=>by simp only[iQ] at hall;exact hall f (by simpa using hf));rw[R4];simp only[A6d,this,Aw];congr 1;apply Array.ext';simp
theorem N0{fs:Array Field}{i off n:Nat}(hi:Kp P fs i off n=true):(fs.map fun f=>(f.offset,P.cellsOf f.type))[i]?=some (off,n):=by
 unfold Kp at hi;split at hi
 ·rename_i f hf;simp only[Ad,beq_iff_eq] at hi;obtain⟨rfl,hsz⟩:=hi;unfold II at hsz;split at hsz
  ·rename_i ii hii;simp only[beq_iff_eq] at hsz;simp[hf,JD,hii,hsz]
  ·cases hsz
 ·cases hi
theorem tL{vs:Array Value}(h:vs.size=2):∃ x y,vs=#[x,y]:=by
 obtain⟨l⟩:=vs;match l,h with
 | [x,y],_=>exact⟨x,y,rfl⟩
theorem tM{t:TypeId}{parts:List (Nat × Operand)}{o:Opd}{x:Nat}(hk:iZ P t parts o x=true) :
  ∃ a' x',parts=[(0,a'),(1,x')]/\BX a' o=true/\BX x' (.t x)=true /\
   ∀ (b:Bool) (u:Value),u.cells=#[u]->∀ w,(Ui t #[(0,.bool b),(1,u)]).run P w = .ok (.agg #[.bool b,u]) w:=by
 unfold iZ at hk;split at hk
 ·rename_i fs a' x' hfs;simp only[Ad,beq_iff_eq] at hk;obtain⟨⟨⟨⟨⟨⟨h1,h2⟩,h3⟩,h4⟩,h5⟩,h6⟩,h7⟩:=hk;refine⟨a',x',rfl,h1,h2,fun b u hu w => ?_⟩;obtain⟨v,hzv,hc⟩:=Mj h6;obtain⟨z0,z1,hz⟩:=tL (hc (fun _=>False) (fun _=>False) w).2.1;have f0:=N0 h4;have f1:=N0 h5;have hb:(TR b).cells=#[.bool b]:=rfl;simp only[Ui,AH,hzv,Aw,run_underlying hfs,jA h7,hz,Kl,f0,f1,hb,hu];rfl
 ·cases hk
theorem tN{t:TypeId}(hk:(match P.underlying t with | some (.struct fs)=>(match fs[1]? with | some f=>f.offset==1&&Mg P f.type 1 true | none=>false) | _=>false)=true)(b:Bool)(u:Value) :
  ∀ w,(tF t (.agg #[.bool b,u]) 1).run P w = .ok u w:=by
 intro w;split at hk
 ·rename_i fs hfs;split at hk
  ·rename_i f hf;simp only[Ad,beq_iff_eq] at hk;obtain⟨h1,h2⟩:=hk;have hag:=(KF h2).1;simp only[tF,AH,run_underlying hfs,Aw,hf,asAgg,Bc,h1,part,hag];rfl
  ·cases hk
 ·cases hk
end
end Go.Ai
