/- Texts of the proof of EntryWithin: part 2 of 13. -/
import Derived.Laws.Cells
import Derived.Laws.CopyRow
import Derived.Laws.Entries
import Derived.Laws.StructEq
import Derived.Laws.NewFold
import Derived.Test.YtajompaehjkgkaaGreatEwn1
namespace Go.Ai
open Go.RowKit
open And renaming left->X5
open _root_.Array renaming all_eq_true_iff_forall_mem->yY,getElem?_eq_getElem->Ep,getElem?_eq_none->ABq,getElem?_setIfInBounds->Uc,getElem?_toList->ABs,length_toList->DG,mapM_eq_mapM_toList->W0,size_setIfInBounds->SK
open Bool renaming and_eq_true->At,false_eq_true->CI,or_eq_false_iff->QU
open Go renaming undef->BU
open Go.Addr renaming add->AHr
open Go.Builtin renaming max2->Ayf,min2->Ayg
open Go.Instr renaming build->Zk,field->Alp,fill->N3
open Go.Op renaming intArith->Y7,intBits->Als,intCmp->R0,unary->ABy
open Go.Oper renaming upon->Fg,wp->FG
open Go.Program renaming cellsOf->MH
open Go.Result renaming andThen_ok->AQ
open Go.RowKit.Below renaming heap_alloc->eH,refl->Jj
open Go.Sem renaming run->GE,run_bind->Bq,run_map->AJk,run_pure->BV
open Go.Value renaming bool->YI
open Go.World renaming setRow->ABw
open List renaming append_assoc->Iu,drop->AL,foldlM->AHt,foldlM_cons->Axw,foldl_cons->Ayc,getElem?_append_left->B2,getElem?_append_right->BN,getElem?_cons_succ->ABt,getElem?_drop->Cb,getElem?_eq_getElem->Am,getElem?_eq_some_iff->GY,getElem?_take_of_lt->Cr,getElem?_toArray->Wz,getElem_cons_zero->H4,getElem_mem->AP,getElem_of_mem->DK,getElem_toArray->QT,length->F,length_append->B0,length_cons->BM,length_drop->CX,length_take->AX,mapM_cons->OP,map_cons->CW,mem_append->BD,mem_cons_of_mem->Bg,mem_cons_self->Ba,mem_of_mem_drop->E3,mem_of_mem_take->C5,mem_singleton->Dh,range->Ay,size_toArray->KD,take->BF
open Nat renaming add_assoc->E1,add_zero->Gb,le_refl->A2,lt_of_lt_of_le->Dg,lt_of_not_le->Lc,zero_add->Cv
open Option renaming isSome_iff_exists->BA,map_none->Rs,map_some->AY
open Option.some renaming inj->Pj,injEq->AS
theorem M1{Y a:Nat->Prop}{w:World}{v:Value}{x:AV}(h:Rd Y a w v x)(hd:Oo x=true):v.oneCell'=true/\v.cells=#[v]:=by
 cases h <;> first | exact⟨rfl,rfl⟩ | cases hd
theorem Ix(b o j:Nat):(⟨b,o,none⟩:Addr).add j=⟨b,o+j,none⟩:=by
 unfold AHr;split
 next h=>subst h;rfl
 ·rfl
def Aiq:TypeDesc->Bool
 | .struct _ | .array _ _=>true
 | _=>false
def PR(P:Program)(t:TypeId)(n:Nat)(one:Bool):Bool :=
 match P.underlying t,P.info? t with
 | some d,some i=>i.size==n&&one == !(Aiq d)
 | _,_=>false
theorem Ot{P:Program}{t:TypeId}{n:Nat}{one:Bool}(h:PR P t n one=true) :
  (∀ w,(isAgg t).run P w = .ok (!one) w)/\(∀ w,(sizeOf t).run P w = .ok n w):=by
 unfold PR at h;split at h
 ·rename_i d i hd hi;simp only[At,BJ] at h;obtain⟨h1,h2⟩:=h;constructor
  ·intro w;subst h2;simp only[isAgg,Bq,run_underlying hd,AQ,Bool.not_not];cases d <;> rfl
  ·intro w;simp[sizeOf,typeInfo,program,GE,hi,h1]
 ·cases h
theorem rO{P:Program}{Y a:Nat->Prop}{w:World}{t:TypeId}{n b d off:Nat}{one:Bool}{cs:List AV}{x:AV}(l:PR P t n one=true)(e:GX Y a w b d cs)
  (c:BQ cs off n one=some x):∃ v,(loadVar t ⟨b,d+off,none⟩).run P w = .ok v w/\Rd Y a w v x:=by
 obtain⟨h1,h2⟩:=Ot l;obtain⟨hd,e⟩:=e;unfold BQ at c;cases one with
 | true =>
  simp only[if_true] at c;obtain⟨m,hx⟩:=GY.1 c;obtain⟨v,hc,hr⟩:=e off m;refine⟨v,?_,hx ▸ hr⟩;simp[loadVar,h1,hc]
 | false =>
  simp only[CI,if_false] at c;split at c
  ·rename_i p;cases c;let f:Nat->Value:=fun j=>(w.cell? ⟨b,d+off+j,none⟩).getD BU
   have g:∀ j,j<n->w.cell? ⟨b,d+off+j,none⟩=some (f j)/\∀ h:off+j<F cs,Rd Y a w (f j) cs[off+j]:=by
    intro j hj;obtain⟨v,hc,hr⟩:=e (off+j) (by omega);have k:w.cell? ⟨b,d+off+j,none⟩=some v:=by rw[E1];exact hc
    refine⟨by simp[f,k],fun _ => ?_⟩;have:f j=v:=by simp[f,k]
    rw[this];exact hr
   refine⟨.agg ((Ay n).map f).toArray,?_,?_⟩
   ·have o:=run_loadCells (P:=P) w ⟨b,d+off,none⟩ n f (fun j hj=>by rw[Ix];exact (g j hj).1);simp[loadVar,h1,h2,o]
   ·refine .agg _ _ ?_ (by simp;omega) (fun i h1 h2 => ?_)
    ·intro y hy;exact hd y (E3 (C5 hy))
    ·have hi:i<n:=by simpa using h1
     simpa using (g i hi).2 (by omega)
  ·cases c
def EA(Y X:Nat->Prop)(w:World)(vs:Array Value)(cs:List AV):Prop :=
 Rw cs/\vs.size=F cs/\∀ (i:Nat) (h1:i<vs.size) (h2:i<F cs),Rd Y X w vs[i] cs[i]
section
variable{Y a:Nat->Prop}
theorem EA.oneCell{w:World}{vs:Array Value}{cs:List AV}(h:EA Y a w vs cs):∀ v∈vs.toList,v.oneCell'=true:=by
 obtain⟨hd,hs,hr⟩:=h;intro v hv;obtain⟨i,hi,rfl⟩:=DK hv;have hi':i<vs.size:=by simpa using hi
 have:=hr i hi' (by omega);exact (M1 this (hd _ (AP _))).1
theorem PS{w:World}{v:Value}{x:AV}{n:Nat}{ys:List AV}(h:Rd Y a w v x)(hc:HY x n=some ys):F ys=n/\EA Y a w v.cells ys:=by
 have one:Oo x=true->n=1->ys=[x]->F ys=n/\EA Y a w v.cells ys:=by
  intro hd hn hy;subst hy hn;refine⟨rfl,?_⟩;rw[(M1 h hd).2];refine⟨fun y hy => ?_,rfl,fun i h1 h2 => ?_⟩
  ·simp only[Dh] at hy;subst hy;exact hd
  ·have:i=0:=by simp at h2;exact h2
   subst this;exact h
 cases x with
 | agg cs =>
  simp only[HY] at hc;split at hc
  ·cases hc;cases h with
   | agg vs _ hd hs hr=>exact⟨by assumption,hd,hs,hr⟩
  ·cases hc
 | tup _=>cases hc
 | undef=>cases hc
 | fresh _ _ _=>cases hc
 | frs _ _ _ _=>cases hc
 | pt _=>cases hc
 | fnc _ _=>cases hc
 | int k m=>simp only[HY] at hc;split at hc <;> cases hc;exact one rfl (by assumption) rfl
 | bool b=>simp only[HY] at hc;split at hc <;> cases hc;exact one rfl (by assumption) rfl
 | str b=>simp only[HY] at hc;split at hc <;> cases hc;exact one rfl (by assumption) rfl
 | nil=>simp only[HY] at hc;split at hc <;> cases hc;exact one rfl (by assumption) rfl
 | sl m cs=>simp only[HY] at hc;split at hc <;> cases hc;exact one rfl (by assumption) rfl
theorem EA.world{w w':World}{vs:Array Value}{cs:List AV}(h:EA Y a w vs cs)(c:∀ b,¬ a b->b<w.heap.size->w'.heap[b]? = w.heap[b]?):EA Y a w' vs cs :=
 ⟨h.1,h.2.1,fun i h1 h2=>(h.2.2 i h1 h2).world c⟩
end
theorem EA.mono{Y X X':Nat->Prop}{w:World}{vs:Array Value}{cs:List AV}(h:EA Y X w vs cs)(hX:∀ b,X' b->X b\/w.heap.size<=b):EA Y X' w vs cs :=
 ⟨h.1,h.2.1,fun i h1 h2=>(h.2.2 i h1 h2).mono hX⟩
theorem EA.get{Y a:Nat->Prop}{w:World}{vs:Array Value}{cs:List AV}(h:EA Y a w vs cs){i:Nat}{c:AV}(hc:cs[i]? = some c):∃ v,vs[i]? = some v/\Rd Y a w v c:=by
 obtain⟨b,d⟩:=GY.1 hc;have hs:=h.2.1;refine⟨vs[i]'(by omega),by rw[Ep],?_⟩;subst d;exact h.2.2 i (by omega) b
theorem TH(cs new:List AV)(off i:Nat)(h:off+F new<=F cs) :
  (cs.take off++new++cs.drop (off+F new))[i]? = if i<off then cs[i]? else if i<off+F new then new[i-off]? else cs[i]? := by
 have a:F (cs.take off)=off:=by simp;omega
 by_cases h1:i<off
 ·rw[Ar h1,Iu,B2 (by omega),Cr h1]
 ·rw[Aw h1];by_cases h2:i<off+F new
  ·rw[Ar h2,B2 (by simp;omega),BN (by omega),a]
  ·rw[Aw h2,BN (by simp;omega),Cb];congr 1;simp;omega
section
variable{cs new a:List AV}{off:Nat}
theorem Pp(h:Di cs off new=some a):off+F new<=F cs/\F a=F cs/\a=cs.take off++new++cs.drop (off+F new):=by
 unfold Di at h;split at h
 ·cases h;exact⟨by assumption,by simp;omega,rfl⟩
 ·cases h
theorem gJ(h:Di cs off new=some a)(hc:Rw cs)(hn:Rw new):Rw a:=by
 obtain⟨_,_,rfl⟩:=Pp h;intro x hx;simp only[BD] at hx;rcases hx with (hx | hx) | hx
 ·exact hc x (C5 hx)
 ·exact hn x hx
 ·exact hc x (E3 hx)
end
theorem JK(w:World)(b c:Nat)(cs:Array Value)(h:c ≠ b):(w.setRow b cs).heap[c]? = w.heap[c]? := by
 simp only[ABw,Array.getElem?_modify];rw[Aw (Ne.symm h)]
theorem ML(w:World)(b:Nat)(cs:Array Value):(w.setRow b cs).heap.size=w.heap.size:=by
 simp[ABw]
theorem gK{P:Program}{Y f:Nat->Prop}{w:World}{t:TypeId}{n b off:Nat}{cs h j:List AV}{v:Value}(y:∀ w,(sizeOf t).run P w = .ok n w)
  (hb:HF Y f w b 0 cs) (hX:f b) (hv:EA Y f w v.cells h) (hn:F h=n) (q:Di cs off h=some j) :
  ∃ g,(storeVar t ⟨b,off,none⟩ v).run P w = .ok () g/\g.os=w.os/\g.tape=w.tape/\g.output=w.output/\g.heap.size=w.heap.size/\(∀ c,c ≠ b->g.heap[c]? = w.heap[c]?)/\HF Y f g b 0 j/\∀ m,XA w b m->XA g b m:=by
 obtain⟨z,vs,a,l,A,hcell⟩:=hb;obtain⟨B,H,C⟩:=Pp q;have r:v.cells.size=n:=by rw[hv.2.1,hn]
 have o:=run_storeCells_at (P:=P) b off a v.cells.toList 0 vs w l (by simp only[DG];omega) hv.oneCell;simp only[Gb,DG,Cv] at o A hcell;refine⟨w.setRow b (BF off vs.toList++v.cells.toList++AL (off+v.cells.size) vs.toList).toArray,?_,rfl,rfl,rfl,ML _ _ _,fun c hc=>JK _ _ _ _ hc,⟨gJ q z hv.1,_,a,setRow_heap w b vs _ a (0,0) l,?_,?_⟩,?_⟩
 ·simp only[storeVar,Bq,y,AQ,r,ne_eq,not_true_eq_false,if_false];rw[r] at o;exact o
 ·simp only[KD,B0,AX,CX,DG,Cv];omega
 ·have p:∀ c,¬ f c->c<w.heap.size->(w.setRow b (BF off vs.toList++v.cells.toList++AL (off+v.cells.size) vs.toList).toArray).heap[c]? = w.heap[c]? := fun c hc _=>JK _ _ _ _ (fun e=>hc (e ▸ hX));intro i hi;have D:j[i]? = some j[i]:=Am hi;have d:=TH cs h off i B;rw[<- C,D] at d;have E:F v.cells.toList=F h:=by simp only[DG];omega
  have s:F (vs.toList.take off)=off:=by simp;omega
  simp only[Cv,Wz];by_cases h1:i<off
  ·rw[Ar h1] at d;obtain⟨u,k,hr⟩:=hcell i (by omega);refine⟨u,?_,?_⟩
   ·rw[Iu,B2 (by omega),Cr h1];simpa using k
   ·have:cs[i]=j[i]:=by rw[Am (by omega)] at d;exact (Pj d).symm
    rw[<- this];exact hr.world p
  ·rw[Aw h1] at d;by_cases h2:i<off+F h
   ·rw[Ar h2] at d;obtain⟨u,k,hr⟩:=hv.get d.symm;refine⟨u,?_,hr.world p⟩;rw[B2 (by simp only[B0];omega),BN (by omega),s];simpa using k
   ·rw[Aw h2] at d;obtain⟨u,k,hr⟩:=hcell i (by omega);refine⟨u,?_,?_⟩
    ·rw[BN (by simp only[B0];omega),Cb];have G:off+v.cells.size+(i-F (vs.toList.take off++v.cells.toList))=i:=by simp only[B0,s,E];omega
     rw[G];simpa using k
    ·have:cs[i]=j[i]:=by rw[Am (by omega)] at d;exact (Pj d).symm
     rw[<- this];exact hr.world p
 ·rintro m ⟨I,J,x,K⟩;rw[l] at x;cases x;refine⟨_,a,setRow_heap w b vs _ a (0,0) l,?_⟩;simp only[KD,B0,AX,CX,DG];omega
theorem zH(off:Nat):∀ (l:List Value) (k:Nat) (cells:Array Value) (i:Nat),
  ((l.zipIdx k).foldl (fun (cs:Array Value) (p:Value × Nat)=>cs.setIfInBounds (off+p.2) p.1) cells)[i]? =
   if off+k<=i/\i<off+k+F l/\i<cells.size then l[i-(off+k)]? else cells[i]? := by
 intro l;induction l with
 | nil=>intro k cells i;simp;intro h1 h2;omega
 | cons v l a =>
  intro k cells i;simp only[List.zipIdx_cons,Ayc];rw[a];simp only[SK,Uc,BM];by_cases b:i=off+k
  ·subst b;by_cases hs:off+k<cells.size
   ·rw[Aw (by omega),Ar (by omega),Ar hs,Ar (by omega)];simp
   ·rw[Aw (by omega),Ar (by omega),Aw hs,Aw (by omega),ABq (by omega)]
  ·by_cases h1:off+(k+1)<=i/\i<off+(k+1)+F l/\i<cells.size
   ·rw[Ar h1,Ar (by omega)];have:i-(off+k)=(i-(off+(k+1)))+1:=by omega
    rw[this,ABt]
   ·rw[Aw h1,Aw (by omega),Aw (by omega)]
theorem zI(off:Nat):∀ (l:List (Value × Nat)) (cells:Array Value),(l.foldl (fun (cs:Array Value) (p:Value × Nat)=>cs.setIfInBounds (off+p.2) p.1) cells).size=cells.size:=by
 intro l;induction l with
 | nil=>intro cells;rfl
 | cons p l a=>intro cells;simp only[Ayc];rw[a];simp
theorem zJ{Y a:Nat->Prop}{w:World}{cells c:Array Value}{cs e f:List AV}{off:Nat}(hc:EA Y a w cells cs)(hy:EA Y a w c e)(h:Di cs off e=some f) :
  EA Y a w (c.zipIdx.foldl (fun (cs:Array Value) (p:Value × Nat)=>cs.setIfInBounds (off+p.2) p.1) cells) f:=by
 obtain⟨l,m,n⟩:=Pp h;have o:c.zipIdx.foldl (fun (cs:Array Value) (p:Value × Nat)=>cs.setIfInBounds (off+p.2) p.1) cells=(c.toList.zipIdx 0).foldl (fun (cs:Array Value) (p:Value × Nat)=>cs.setIfInBounds (off+p.2) p.1) cells:=by
  rw[<- Array.foldl_toList,Array.toList_zipIdx]
 rw[o];have q:=zI off (c.toList.zipIdx 0) cells;refine⟨gJ h hc.1 hy.1,by rw[q,m];exact hc.2.1,?_⟩;intro i h1 h2;have b:=zH off c.toList 0 cells i;have d:=TH cs e off i l;rw[<- n,Am h2] at d;rw[Ep h1] at b;have t:=hc.2.1;have v:=hy.2.1;have r:i<cells.size:=by omega
 simp only[Gb,DG] at b;by_cases j:off<=i/\i<off+c.size
 ·rw[Ar ⟨j.1,j.2,r⟩] at b;rw[Aw (by omega),Ar (by omega)] at d;obtain⟨u,g,hr⟩:=hy.get d.symm;simp only[ABs,g,AS] at b;rw[b];exact hr
 ·rw[Aw (by omega)] at b;have s:cs[i]? = some f[i]:=by
   by_cases k:i<off
   ·rw[Ar k] at d;exact d.symm
   ·rw[Aw k,Aw (by omega)] at d;exact d.symm
  obtain⟨u,g,hr⟩:=hc.get s;rw[g] at b;rw[Pj b];exact hr
def Pq:Value->AV->Bool
 | .int k n,.int a c=>k==a&&n==c
 | .bool b,.bool d=>b==d
 | .string s,.str e=>decide (s=e)
 | .slice none 0 0,.nil=>true
 | .slice none 0 0,.sl 0 []=>true
 | _,_=>false
theorem XB{Y X:Nat->Prop}{w:World}{v:Value}{x:AV}(h:Pq v x=true):Rd Y X w v x/\Oo x=true:=by
 unfold Pq at h;split at h
 ·simp only[At,BJ] at h;obtain⟨rfl,rfl⟩:=h;exact⟨.int _ _,rfl⟩
 ·simp only[BJ] at h;subst h;exact⟨.bool _,rfl⟩
 ·simp only[AZ] at h;subst h;exact⟨.str _,rfl⟩
 ·exact⟨.nil,rfl⟩
 ·exact⟨.nil0,rfl⟩
 ·cases h
def Pr:List Value->List AV->Bool
 | [],[]=>true
 | v::vs,x::xs=>Pq v x&&Pr vs xs
 | _,_=>false
theorem MM{Y X:Nat->Prop}{w:World}:∀ {vs:List Value} {cs:List AV},Pr vs cs=true->EA Y X w vs.toArray cs
 | [],[],_=>⟨fun x hx=>(by cases hx),rfl,fun i h1 _=>(by simp at h1)⟩
 | v::vs,x::cs,h=>by
  simp only[Pr,At] at h;obtain⟨h1,h2⟩:=h;obtain⟨hd,hs,hr⟩:=MM (Y:=Y) (X:=X) (w:=w) h2;obtain⟨hv,b⟩:=XB (Y:=Y) (X:=X) (w:=w) h1;refine⟨fun y hy => ?_,by simp at hs |-;exact hs,fun i c d => ?_⟩
  ·cases hy with
   | head=>exact b
   | tail _ hy=>exact hd y hy
  ·cases i with
   | zero=>simpa using hv
   | succ i =>
    have a:=hr i (by simp at c |-;omega) (by simp at d |-;omega);simp only[QT] at a;simpa using a
 | [],_::_,h=>by cases h
 | _::_,[],h=>by cases h
def CS:Operand->Opd->Bool
 | .tmp t,.t n=>t==n
 | .const v,.c x=>Pq v x
 | _,_=>false
def JU:List Operand->List Opd->Bool
 | [],[]=>true
 | x::xs,o::os=>CS x o&&JU xs os
 | _,_=>false
def PT(P:Program)(t:TypeId)(z:List AV):Bool :=
 match P.info? t with
 | some i=>(match i.zero with | some v=>Pr v.cells.toList z | none=>false)
 | none=>false
def LH(P:Program)(t:TypeId)(n:Nat):Bool :=
 match P.info? t with
 | some i=>i.size==n
 | none=>false
def N6(P:Program)(fs:Array Field)(i off n:Nat):Bool :=
 match fs[i]? with
 | some f=>f.offset==off&&LH P f.type n
 | none=>false
def Ps(a:Nat->Nat->Nat->Bool):List (Nat × Operand)->List (Nat × Nat × Opd)->Bool
 | [],[]=>true
 | (i,x)::l,(off,n,o)::m=>a i off n&&CS x o&&Ps a l m
 | _,_=>false
def Ayd(P:Program)(t:TypeId)(a:List (Nat × Operand))(z:List AV)(ps:List (Nat × Nat × Opd)):Bool :=
 PT P t z &&
 match P.underlying t with
 | some (.struct fs)=>fs.all (fun f=>(P.info? f.type).isSome)&&Ps (N6 P fs) a ps
 | some (.array _ e)=>(P.info? e).isSome&&Ps (fun i off n=>off==i*P.cellsOf e&&n==P.cellsOf e) a ps
 | _=>false
def UZ(z:List AV)(zero:List Value):Nat->Bool
 | 0=>z.isEmpty
 | n+1=>Pr zero (z.take (F zero))&&UZ (z.drop (F zero)) zero n
section
variable(P:Program)
def lO(t:TypeId)(len:Nat)(c:List (Nat × Operand))(n:Nat)(z:List AV)(ps:List (Nat × Nat × Opd)):Bool :=
 len==n &&
 match P.underlying t with
 | some (.slice e)=>(match P.info? e with
  | some i=>decide (0<i.size)&&decide (len*i.size<=16777216)&&(match i.zero with | some v=>v.cells.size==i.size&&decide (F z=len*i.size)&&UZ z v.cells.toList len | none=>false) &&
   Ps (fun j off m=>off==j*i.size&&m==i.size) c ps
  | none=>false)
 | _=>false
def lP(t:TypeId):Bool:=match P.underlying t with | some (.int _)=>true | _=>false
def Zu(t:TypeId):Bool:=match P.underlying t with | some .bool=>true | _=>false
def lQ(args:List Operand)(ts:List TypeId)(x:Opd):Bool :=
 match args,ts with
 | [b],[t]=>CS b x&&(match P.underlying t with | some (.slice _)=>true | _=>false)
 | _,_=>false
def GQ(t:TypeId)(k:Nat):Bool :=
 match P.underlying t with
 | some (.slice e)=>(match P.info? e with
  | some i=>i.size==k&&decide (0<i.size)&&decide (i.bytes<=1048576)&&(match i.zero with | some v=>v.cells.size==i.size | none=>false)
  | none=>false)
 | _=>false
def lR(t:TypeId)(z:List AV):Bool :=
 match P.underlying t with
 | some (.slice e)=>PT P e z
 | _=>false
def Iy(t:TypeId):Bool:=match P.underlying t with | some (.slice _)=>true | _=>false
def U_(t:TypeId)(a:Nat):Bool :=
 match P.underlying t with
 | some (.slice e)=>(match P.info? e with
  | some i=>decide (a*i.bytes<=140737488355328)&&decide (a<=140737488355328)
  | none=>false)
 | _=>false
def W3(args:List Operand)(ts:List TypeId)(x y:Opd)(k a:Nat):Bool :=
 match args,ts with
 | [b,d],[t,t']=>CS b x&&CS d y&&GQ P t k&&Iy P t'&&U_ P t a
 | _,_=>false
end
def QW:Option Operand->Option Opd->Bool
 | none,none=>true
 | some x,some o=>CS x o
 | _,_=>false
def YH(P:Program)(f:Nat):Bool:=match P.funcs[f]? with | some fn=>fn.body.isSome && !(fn.name == "runtime.NumGoroutine") | none=>false
def zK(P:Program)(t:TypeId)(b:List (Nat × Operand))(a:Opd)(x:Nat):Bool :=
 match P.underlying t,b with
 | some (.struct fs),[(0,c),(1,d)]=>CS c a&&CS d (.t x)&&fs.size==2&&N6 P fs 0 0 1&&N6 P fs 1 1 1&&PT P t [.bool false,.sl 0 []]&&fs.all (fun f=>(P.info? f.type).isSome)
 | _,_=>false
def W4(op:Op)(x:Nat):Bool:=match op with | .move y=>CS y (.t x) | .assign y=>CS y (.t x) | _=>false
def H6(P:Program)(op:Op)(k:K):Bool :=
 match k with
 | .mov y=>(match op with | .move x=>CS x y | .assign x=>CS x y | _=>false)
 | .pick c a b=>(match op with | .pick s u w=>CS s c&&CS u a&&CS w b | _=>false)
 | .bin o x y=>(match op with | .binOp p _ d q _=>p==o&&CS d x&&CS q y | _=>false)
 | .eqb neg x y=>(match op with | .binOp p t d q _=>p==(if neg then BinOp.neq else BinOp.eql)&&Zu P t&&CS d x&&CS q y | _=>false)
 | .un o x=>(match op with | .unOp p _ d=>p==o&&CS d x | _=>false)
 | .cv k x=>(match op with | .convert src dst d=>lP P src&&(match P.underlying dst with | some (.int A)=>A==k | _=>false)&&CS d x | _=>false)
 | .new z _=>(match op with | .alloc t=>PT P t z | _=>false)
 | .box x _=>(match op with | .box _ d=>CS d x | _=>false)
 | .bld z ps=>(match op with | .build t j=>Ayd P t j.toList z ps | _=>false)
 | .bls n z ps=>(match op with | .buildSlice t len j=>lO P t len j.toList n z ps | _=>false)
 | .adr x _ off=>(match op with | .fieldAddr t d f=>CS d (.t x)&&(match P.underlying t with | some (.struct fs)=>(match fs[f]? with | some f=>f.offset==off && !(LH P f.type 0)&&(P.info? f.type).isSome | none=>false) | _=>false) | _=>false)
 | .ld x _ n one=>(match op with | .load t d=>CS d (.t x)&&PR P t n one | _=>false)
 | .st x _ n v=>(match op with | .store t d r=>CS d (.t x)&&LH P t n&&CS r v | _=>false)
 | .fld x off n one=>(match op with | .field t d f=>CS d x&&(match P.underlying t with | some (.struct fs)=>(match fs[f]? with | some f=>f.offset==off&&PR P f.type n one | none=>false) | _=>false) | _=>false)
 | .ixa x i k=>(match op with | .indexAddr t d m=>CS d (.t x)&&CS m i&&(match P.underlying t with | some (.slice e)=>LH P e k | _=>false) | _=>false)
 | .six x i=>(match op with | .index t d m=>CS d x&&CS m i&&(match P.underlying t with | some .string=>true | _=>false) | _=>false)
 | .ext x i=>(match op with | .extract d m=>CS d x&&m==i | _=>false)
 | .len x=>(match op with | .call { callee := .builtin .len,args:=args,argTypes:=ts }=>lQ P args.toList ts.toList x | _=>false)
 | .mx xs=>(match op with | .call { callee := .builtin .max,args:=args,argTypes:=_ }=>JU args.toList xs | _=>false)
 | .mn xs=>(match op with | .call { callee := .builtin .min,args:=args,argTypes:=_ }=>JU args.toList xs | _=>false)
 | .call f xs=>(match op with | .call { callee := .value (.func h),args:=args,argTypes:=_ }=>h==f&&JU args.toList xs&&(match P.funcs[f]? with | some fn=>fn.body.isSome && !(fn.name == "runtime.NumGoroutine") | none=>false) | _=>false)
 | .clo f xs=>(match op with | .call { callee := .value (.func h),args:=args,argTypes:=_ }=>h==f&&JU args.toList xs&&(match P.funcs[f]? with | some fn=>fn.body.isSome && !(fn.name == "runtime.NumGoroutine") | none=>false) | _=>false)
 | .brw f x _=>(match op with | .call { callee := .value (.func h),args:=args,argTypes:=_ }=>h==f&&JU args.toList [.t x]&&(match P.funcs[f]? with | some fn=>fn.body.isSome && !(fn.name == "runtime.NumGoroutine") | none=>false) | _=>false)
 | .nlo _=>(match op with | .move (.const (.slice none 0 0))=>true | .assign (.const (.slice none 0 0))=>true | _=>false)
 | .cpy x=>W4 op x
 | .cpo x=>W4 op x
 | .tra x=>W4 op x
 | .frz x=>W4 op x
 | .mks z n=>(match op with | .makeSlice t l c=>CS l n&&CS c n&&GQ P t (F z)&&lR P t z | _=>false)
 | .blo k n z ps=>(match op with | .buildSlice t len j=>lO P t len j.toList n z ps&&GQ P t k | _=>false)
 | .apd _ x y k g=>(match op with | .call { callee := .builtin .append,args:=args,argTypes:=ts }=>W3 P args.toList ts.toList x y k g | _=>false)
 | .sli x lo hi mx k=>(match op with | .slice t d lo' hi' B=>CS d x&&QW lo' lo&&QW hi' hi&&QW B mx&&GQ P t k | _=>false)
 | .ixo x _ i k=>(match op with | .indexAddr t d m=>CS d (.t x)&&CS m i&&GQ P t k | _=>false)
 | .lno x _=>(match op with | .call { callee := .builtin .len,args:=args,argTypes:=ts }=>lQ P args.toList ts.toList (.t x) | _=>false)
 | .bdo a x _=>(match op with | .build t j=>zK P t j.toList a x | _=>false)
 | .cln f xs _=>(match op with | .call { callee := .value (.func h),args:=args,argTypes:=_ }=>h==f&&JU args.toList xs&&YH P f | _=>false)
 | .stl x v=>(match op with | .store t d r=>CS d (.t x)&&LH P t 2&&CS r (.t v) | _=>false)
 | .fdo x=>(match op with | .field t d 1=>CS d (.t x)&&(match P.underlying t with | some (.struct fs)=>(match fs[1]? with | some f=>f.offset==1&&PR P f.type 1 true | none=>false) | _=>false) | _=>false)
 | .exo x=>(match op with | .extract d 0=>CS d (.t x) | _=>false)
 | .sub x _ lo hi k=>(match op with | .slice t d lo' hi' none=>CS d (.t x)&&QW lo' lo&&QW hi' hi&&GQ P t k | _=>false)
 | .app _ x _ y k=>(match op with | .call { callee := .builtin .append,args:=args,argTypes:=ts }=>W3 P args.toList ts.toList (.t x) y k 1048576 | _=>false)
 | .apb _ x y _ k=>(match op with | .call { callee := .builtin .append,args:=args,argTypes:=ts }=>W3 P args.toList ts.toList (.t x) (.t y) k 1048576 | _=>false)
 | .slo x hi k=>(match op with | .slice t d none (some hi') none=>CS d (.t x)&&CS hi' hi&&GQ P t k | _=>false)
 | .cao f _ x xs=>(match op with | .call { callee := .value (.func h),args:=args,argTypes:=_ }=>h==f&&JU args.toList (x::xs)&&YH P f | _=>false)
 | .bad=>true
section
variable {P:Program} {Y X0:Nat->Prop} {roots:List (Nat × Nat)} {w0:Base} {w:World} {s:Az} {a:Act} {Q:Exit->Act->World->Prop}
theorem D6(h:Rel Y X0 roots w0 s a w){x:Operand}{o:Opd}{y:AV}(hx:CS x o=true)(d:o.av s=some y):Rd Y (fun b=>X0 b\/XS s a.tmps b) w (a.eval x) y:=by
 cases o with
 | t n =>
  cases x with
  | tmp m =>
   simp only[CS,BJ] at hx;subst hx;simp only[Opd.av,Opd.reg] at d;have e:=h.reg m;cases hr:AR s m with
   | val z =>
    rw[hr] at d e;cases d;exact e
   | box _=>rw[hr] at d;cases d
   | ptr _ _=>rw[hr] at d;cases d
   | mem _=>rw[hr] at d;cases d
   | own _ _ _=>rw[hr] at d;cases d
   | agn _ _ _ _=>rw[hr] at d;cases d
   | bxl _=>rw[hr] at d;cases d
   | dup _=>rw[hr] at d;cases d
   | sub _ _ _ _=>rw[hr] at d;cases d
   | dead=>rw[hr] at d;cases d
  | const v=>cases hx
  | global g=>cases hx
  | func f=>cases hx
 | c z =>
  cases x with
  | const v =>
   simp only[Opd.av,Opd.reg,AS] at d;subst d;exact (XB hx).1
  | tmp m=>cases hx
  | global g=>cases hx
  | func f=>cases hx
theorem N7(h:Rel Y X0 roots w0 s a w):∀ {xs:List Operand} {os:List Opd} {c:List AV},JU xs os=true->avs s os=some c ->
  F xs=F c/\∀ (i:Nat) (h1:i<F xs) (h2:i<F c),Rd Y (fun b=>X0 b\/XS s a.tmps b) w (a.eval xs[i]) c[i]
 | [],[],c,_,hy=>by
  simp only[avs,AS] at hy;subst hy;exact⟨rfl,fun i h1 _=>(by simp at h1)⟩
 | x::xs,o::os,c,hx,hy=>by
  simp only[JU,At] at hx;simp only[avs] at hy;cases h1:o.av s with
  | none=>rw[h1] at hy;cases hy
  | some y =>
   rw[h1] at hy;cases h2:avs s os with
   | none=>rw[h2] at hy;cases hy
   | some j =>
    rw[h2] at hy;cases hy;obtain⟨d,e⟩:=N7 h hx.2 h2;refine⟨by simp[d],fun i f g => ?_⟩;cases i with
    | zero=>exact D6 h hx.1 h1
    | succ i=>exact e i (by simpa using f) (by simpa using g)
 | [],_::_,_,hx,_=>by cases hx
 | _::_,[],_,hx,_=>by cases hx
theorem Rel.lowYw(h:Rel Y X0 roots w0 s a w):∀ b,Y b->b<w.heap.size:=fun b hb=>Dg (Lc fun e=>h.lowY b hb (.inl e)) h.below.size
theorem Rel.lowX(h:Rel Y X0 roots w0 s a w):∀ b,(X0 b\/XS s a.tmps b)->b<w.heap.size:=by
 rintro b (hb | ⟨t,h1,h2⟩)
 ·exact Dg (Lc fun e=>h.low b hb (.inl e)) h.below.size
 ·exact (h.exclLow h1 h2).2
def rP(s:Az)(roots:List (Nat × Nat))(dst:Option Nat):Prop:=∀ d,dst=some d->∀ t,(t,d)∈roots->Fv (AR s t)=false
theorem Rel.put(h:Rel Y X0 roots w0 s a w){dst:Option Nat}{v:Value}{x:AV}(e:rP s roots dst)(hr:Rd Y (fun b=>X0 b\/XS s a.tmps b) w v x):Rel Y X0 roots w0 (EI s dst (.val x)) (a.put dst v) w:=by
 cases dst with
 | none=>exact h
 | some d =>
  refine Es (ks:=[]) h (Jj _ _) (fun t f => .inr (e d rfl t f)) (fun g=>(by cases g)) (fun c _ h2 => ?_);exact hr.mono fun b hb => .inl (h2 rfl b hb)
theorem Rx(h:Rel Y X0 roots w0 s a w){dst:Option Nat}{b off:Nat}{cs:List AV}(e:rP s roots dst)(hX:cs ≠ []->¬ (X0 b\/XS s a.tmps b))(hr:GX Y (fun b=>X0 b\/XS s a.tmps b) w b off cs) :
  Rel Y X0 roots w0 (EI s dst (.mem cs)) (a.put dst (.pointer (some ⟨b,off,none⟩))) w:=by
 cases dst with
 | none=>exact h
 | some d =>
  refine Es (ks:=[]) h (Jj _ _) (fun t f => .inr (e d rfl t f)) (fun g=>(by cases g)) (fun c _ h2 => ?_);exact⟨b,off,rfl,fun i hx=>hX i (h2 rfl b hx),hr.mono fun b hb => .inl (h2 rfl b hb)⟩
theorem Ry(h:Rel Y X0 roots w0 s a w){dst:Option Nat}{d off:Nat}{p:Addr}(e:rP s roots dst)(c:∀ t,dst=some t->(t,d)∈roots/\t ≠ d)(hd:IB (a.tmps.getD d BU)=some p)(hs:p.spot=none) :
  Rel Y X0 roots w0 (EI s dst (.ptr d off)) (a.put dst (.pointer (some ⟨p.block,p.off+off,none⟩))) w:=by
 cases dst with
 | none=>exact h
 | some t =>
  refine Es (ks:=[]) h (Jj _ _) (fun u f => .inr (e t rfl u f)) (fun g=>(by cases g)) (fun b _ _ => ?_);refine⟨(c t rfl).1,p,?_,hs,rfl⟩;rw[Nj,Aw]
  ·exact hd
  ·rintro⟨rfl,_⟩;exact (c t rfl).2 rfl
theorem Rel.putDup(h:Rel Y X0 roots w0 s a w){dst:Option Nat}{d:Nat}(e:rP s roots dst)(c:∀ t,dst=some t->(t,d)∈roots/\t ≠ d) :
  Rel Y X0 roots w0 (EI s dst (.dup d)) (a.put dst (a.tmps.getD d BU)) w:=by
 cases dst with
 | none=>exact h
 | some t =>
  refine Es (ks:=[]) h (Jj _ _) (fun u f => .inr (e t rfl u f)) (fun g=>(by cases g)) (fun b _ _ => ?_);refine⟨(c t rfl).1,?_⟩;rw[Nj,Aw];rintro⟨rfl,_⟩;exact (c t rfl).2 rfl
theorem Ce{o:Oper}{v:Value}{K:Act->World->Prop}(b:(execOp a.eval o).run P w = .ok (.value v) w)(h:K (a.put o.dst v) w):o.wp P a w K Q:=by
 simp only[FG,b,Fg];exact h
def KE(Y e a:Nat->Prop)(d:World)(v:Value):AV->Prop
 | .fresh k n cs=>GD Y (fun c=>e c\/Bp v=some c) a d v k n cs
 | .frs b k n cs=>M0 Y (fun c=>e c\/Bp v=some c) a d v b k n cs
 | x=>Rd Y e d v x
theorem KE.of_rd{Y b:Nat->Prop}{a:Nat->Prop}{c:World}{v:Value}{x:AV}(h:Rd Y b c v x):KE Y b a c v x:=by
 cases h <;> simp only[KE] <;> first | exact .int _ _ | exact .bool _ | exact .str _ | exact .undef | exact .nil | exact .nil0 | exact .e0 _ _ | (apply Rd.agg <;> assumption) | (apply Rd.tup <;> assumption) | (apply Rd.sl <;> assumption) | (apply Rd.pt <;> assumption) | (apply Rd.fnc <;> assumption)
theorem KE.thawed{Y c:Nat->Prop}{a:Nat->Prop}{d:World}{v:Value}{x:AV}(h:KE Y c a d v x)(hX:∀ b,c b->¬ a b)(hY:∀ b,Y b->¬ a b):Rd Y c d v (N5 x):=by
 cases x
 case fresh k n cs =>
  simp only[KE] at h;exact GD.frozen h (fun b hb => .inl (.inl hb)) (fun b hb e=>hX b e (GD.block h hb).1) hY
 case frs g k n cs =>
  simp only[KE] at h;obtain⟨u,rfl,h⟩:=h;have f:Rd Y c d u (.sl n cs):=by
   exact GD.frozen h (fun b hb => .inl (.inl hb)) (fun b hb e=>hX b e (GD.block h hb).1) hY
  cases g with
  | st b=>exact zG f
  | tp b =>
   refine Rd.tup #[u,.bool b] [.sl n cs,.bool b] rfl fun i h1 h2 => ?_;match i,h2 with
   | 0,_=>exact f
   | 1,_=>exact Rd.bool b
 all_goals exact h
theorem KE.lower{Y c:Nat->Prop}{a d:Nat->Prop}{e:World}{v:Value}{x:AV}(h:KE Y c a e v x)(f:∀ b,a b->d b):KE Y c d e v x:=by
 cases x
 case fresh k n cs=>exact GD.lower h f
 case frs g k n cs=>exact M0.lower h f
 all_goals exact h
def zL(Y b a:Nat->Prop)(w:World)(v:Value):AV->Prop
 | .fresh k n cs=>GD Y (fun c=>b c\/a c) a w v k n cs
 | x=>Rd Y (fun c=>b c\/a c) w v x
def HG(a:List AV)(vs:Array Value)(b:Nat):Prop:=(∃ k n cs l,a = .fresh k n cs::l)/\Bp (vs.getD 0 BU)=some b
def Rz:AV->Bool
 | .fresh _ _ _=>true
 | _=>false
def LJ(P:Program)(a:C4):Prop :=
 ∀ (f:Nat) (d:List AV) (x:AV),a f d=some x->∀ (Y c:Nat->Prop) (w:World) (vs:Array Value),(∀ b,c b->b<w.heap.size/\¬ HG d vs b)->(∀ b,Y b->b<w.heap.size/\¬ HG d vs b)->vs.size=F d ->
  (∀ (i:Nat) (h1:i<vs.size) (h2:i<F d),zL Y c (HG d vs) w vs[i] d[i])->(∀ (i:Nat) (h:i<F d),Rz d[i]=true->i=0) ->
  Calls P f vs w fun e g=>∃ v,e = .returned v/\Grown ⟨w,HG d vs⟩ g/\KE Y c (Base.mine ⟨w,HG d vs⟩) g v x
def gL(n b:Nat):Prop:=n<=b
theorem LJ.plain{a:C4}(h:LJ P a)(f:Nat)(d:List AV)(x:AV)(hx:a f d=some x)(Y g:Nat->Prop)(w:World)(vs:Array Value)(hX:∀ b,g b->b<w.heap.size)(hY:∀ b,Y b->b<w.heap.size)(hs:vs.size=F d)
  (hr:∀ (i:Nat) (h1:i<vs.size) (h2:i<F d),Rd Y g w vs[i] d[i]) :
  Calls P f vs w fun e o=>∃ v,e = .returned v/\Below w.heap.size w o/\KE Y g (gL w.heap.size) o v x:=by
 have p:∀ (i:Nat) (h2:i<F d),Rz d[i]=false:=by
  intro i h2;have h1:=hr i (by omega) h2;generalize d[i]=y at h1 |-;generalize vs[i]'(by omega)=u at h1;cases h1 <;> rfl
 have j:∀ b,¬ HG d vs b:=by
  rintro b ⟨⟨k,n,cs,l,rfl⟩,_⟩;cases p 0 (by simp)
 have r:HG d vs=fun _=>False:=funext fun b=>eq_false (j b);refine (h f d x hx Y g w vs (fun b hb=>⟨hX b hb,j b⟩) (fun b hb=>⟨hY b hb,j b⟩) hs (fun i h1 h2 => ?_) (fun i h2 m => ?_)).mono ?_
 ·have q:=hr i h1 h2;have e:=p i h2;rw[r];generalize d[i]=y at q e |-;have m:Rd Y (fun c=>g c\/False) w vs[i] y:=q.mono fun b hb => .inl (hb.elim id False.elim);cases y <;> first | exact m | cases e
 ·rw[p i h2] at m;cases m
 ·rintro e o ⟨v,s,t,z⟩;exact⟨v,s,t.below j,z.lower fun b hb=>hb.elim id fun hb=>(j b hb).elim⟩
end
section
variable {P:Program} {Y X0:Nat->Prop} {roots:List (Nat × Nat)} {w0:Base} {w:World} {s:Az} {a:Act} {Q:Exit->Act->World->Prop}
section
variable(op:BinOp)(t:TypeId)(x y:Operand)
theorem W5(k b:IntKind)(m a:Int):(eqGuard op t x y (.int k m) (.int b a)).run P w = .ok () w:=by
 cases op <;> rfl
theorem Ou(m a:Bool):(eqGuard op t x y (.bool m) (.bool a)).run P w = .ok () w:=by
 cases op <;> rfl
end
theorem Aye{op:BinOp}{t:TypeId}{k b:IntKind}{m c:Int}{z:AV}{Y X:Nat->Prop}(h:Pm op (.int k m) (.int b c)=some z) :
  ∃ v,(binOp op t (.int k m) (.int b c)).run P w = .ok v w/\Rd Y X w v z:=by
 simp only[Pm] at h;split at h
 ·rename_i hs;unfold UY at h;split at h
  ·cases h
  ·rename_i hn;cases op <;> simp only[Mb,CI] at hs <;> simp only[AS] at h <;> subst h
   ·exact⟨_,by simp[binOp,Op.shift,hn],.int _ _⟩
   ·exact⟨_,by simp[binOp,Op.shift,hn],.int _ _⟩
 ·rename_i hs;split at h
  ·rename_i d;subst d;cases op <;> simp only[Mb,not_true_eq_false] at hs <;> simp only[rH,Aya,OR,AY,Rs,AS] at h
   case quo =>
    split at h
    ·cases h
    next a=>cases h;exact⟨_,by simp[binOp,Op.intDiv,a],.int _ _⟩
   case rem =>
    split at h
    ·cases h
    next a=>cases h;exact⟨_,by simp[binOp,Op.intDiv,a],.int _ _⟩
   case andNot=>cases h
   case add=>subst h;exact⟨_,by simp[binOp,Y7],.int _ _⟩
   case sub=>subst h;exact⟨_,by simp[binOp,Y7],.int _ _⟩
   case mul=>subst h;exact⟨_,by simp[binOp,Y7],.int _ _⟩
   case and=>subst h;exact⟨_,by simp only[binOp,Als,ne_eq,not_true_eq_false,if_false];rfl,.int _ _⟩
   case or=>subst h;exact⟨_,by simp only[binOp,Als,ne_eq,not_true_eq_false,if_false];rfl,.int _ _⟩
   case xor=>subst h;exact⟨_,by simp only[binOp,Als,ne_eq,not_true_eq_false,if_false];rfl,.int _ _⟩
   case eql=>subst h;exact⟨_,by simp only[binOp,R0,ne_eq,not_true_eq_false,if_false];rfl,.bool _⟩
   case neq=>subst h;exact⟨_,by simp only[binOp,R0,ne_eq,not_true_eq_false,if_false];rfl,.bool _⟩
   case lss=>subst h;exact⟨_,by simp only[binOp,R0,ne_eq,not_true_eq_false,if_false];rfl,.bool _⟩
   case leq=>subst h;exact⟨_,by simp only[binOp,R0,ne_eq,not_true_eq_false,if_false];rfl,.bool _⟩
   case gtr=>subst h;exact⟨_,by simp only[binOp,R0,ne_eq,not_true_eq_false,if_false];rfl,.bool _⟩
   case geq=>subst h;exact⟨_,by simp only[binOp,R0,ne_eq,not_true_eq_false,if_false];rfl,.bool _⟩
  ·cases h
theorem ABx{op:UnOp}{u:Value}{x z:AV}{Y a:Nat->Prop}(b:Rd Y a w u x)(h:unA op x=some z):∃ v,(ABy op u).run P w = .ok v w/\Rd Y a w v z:=by
 unfold unA at h;split at h
 ·cases b;simp only[AS] at h;subst h;exact⟨_,by simp[ABy,Y7],.int _ _⟩
 ·cases b;simp only[AS] at h;subst h;exact⟨_,by simp[ABy],.bool _⟩
 ·cases h
theorem Alt(k:IntKind)(x y:Int):(Ayf (.int k x) (.int k y)).run P w = .ok (.int k (if y>x then y else x)) w:=rfl
theorem Alu(k:IntKind)(x y:Int):(Ayg (.int k x) (.int k y)).run P w = .ok (.int k (if y<x then y else x)) w:=rfl
theorem rQ{Y X:Nat->Prop}{k:IntKind}:∀ {vs:List Value} {l:List AV} {m r:Int},F vs=F l->(∀ (i:Nat) (h1:i<F vs) (h2:i<F l),Rd Y X w vs[i] l[i])->gC k m l=some r ->
  (AHt Ayf (.int k m) vs:Sem Value).run P w = .ok (.int k r) w
 | [],[],m,r,_,_,h=>by simp only[gC,AS] at h;subst h;rfl
 | v::vs,x::l,m,r,a,hr,h=>by
  have b:=hr 0 (by simp) (by simp);simp only[H4] at b;cases x <;> simp only[gC] at h <;> try cases h
  rename_i e n;split at h
  next c=>subst c;cases b;have d:=rQ (vs:=vs) (l:=l) (by simpa using a) (fun i h1 h2=>hr (i+1) (by simp;omega) (by simp;omega)) h;simp only[Axw,Bq,Alt,AQ];exact d
  ·cases h
 | [],_::_,_,_,a,_,_=>by simp at a
 | _::_,[],_,_,a,_,_=>by simp at a
theorem rR{Y X:Nat->Prop}{k:IntKind}:∀ {vs:List Value} {l:List AV} {m r:Int},F vs=F l->(∀ (i:Nat) (h1:i<F vs) (h2:i<F l),Rd Y X w vs[i] l[i])->gD k m l=some r ->
  (AHt Ayg (.int k m) vs:Sem Value).run P w = .ok (.int k r) w
 | [],[],m,r,_,_,h=>by simp only[gD,AS] at h;subst h;rfl
 | v::vs,x::l,m,r,a,hr,h=>by
  have b:=hr 0 (by simp) (by simp);simp only[H4] at b;cases x <;> simp only[gD] at h <;> try cases h
  rename_i e n;split at h
  next c=>subst c;cases b;have d:=rR (vs:=vs) (l:=l) (by simpa using a) (fun i h1 h2=>hr (i+1) (by simp;omega) (by simp;omega)) h;simp only[Axw,Bq,Alu,AQ];exact d
  ·cases h
 | [],_::_,_,_,a,_,_=>by simp at a
 | _::_,[],_,_,a,_,_=>by simp at a
theorem R1(h:Rel Y X0 roots w0 s a w){dst:Option Nat}{cells:Array Value}{cs:List AV}{c:TypeId}{ks:List Nat}(f:∀ d,dst=some d->∀ t,(t,d)∈roots->t∈ks)
  (g:dst.isSome=true) (hc:EA Y (fun b=>X0 b\/XS s a.tmps b) w cells cs) :
  Rel Y X0 roots w0 (EI (CE s (ks.map fun u=>(u,Reg.dead))) dst (.box cs)) (a.put dst (.pointer (some ⟨w.heap.size,0,none⟩))) (w.alloc (.cells cells c)):=by
 cases dst with
 | none=>cases g
 | some d =>
  refine Es h ((Jj _ _).alloc (A2 _) _) (fun t j => .inl (f d rfl t j)) (fun _ b hb=>by simp only[Bp,IB,AY,AS] at hb;omega) (fun e h1 _ => ?_);have k:=(hc.mono (X':=e) (fun b hb=>(h1 b hb).imp id X5)).world (w':=w.alloc (.cells cells c)) (fun b _ hb=>eH _ _ _ hb);refine⟨w.heap.size,rfl,.inl h.below.size,hc.1,cells,c,by show (w.heap.push _)[w.heap.size]? = _;simp,by rw[hc.2.1];omega,fun i hi => ?_⟩;have hs:=hc.2.1;refine⟨cells[i]'(by omega),by rw[Cv,Ep],k.2.2 i (by omega) hi⟩
theorem PU{t:TypeId}{z:List AV}(h:PT P t z=true):∃ v,(∀ w,(zeroValue t).run P w = .ok v w)/\∀ (Y X:Nat->Prop) (w:World),EA Y X w v.cells z:=by
 unfold PT at h;split at h
 ·rename_i i hi;split at h
  next v hv=>refine⟨v,fun w=>by simp[zeroValue,typeInfo,program,GE,hi,hv],fun Y X w => ?_⟩;have:=MM (Y:=Y) (X:=X) (w:=w) h;simpa using this
  ·cases h
 ·cases h
theorem MN{t:TypeId}{n:Nat}(h:LH P t n=true):∀ w,(sizeOf t).run P w = .ok n w:=by
 unfold LH at h;split at h
 next i hi=>simp only[BJ] at h;intro w;simp[sizeOf,typeInfo,program,GE,hi,h]
 ·cases h
theorem R2(h:Rel Y X0 roots w0 s a w){place:Nat->Option (Nat × Nat)}{pl:Nat->Nat->Nat->Bool}(k:∀ i off n,pl i off n=true->place i=some (off,n)) :
  ∀ {g:List (Nat × Operand)} {ps:List (Nat × Nat × Opd)} {cells:Array Value} {cs d:List AV},Ps pl g ps=true->EA Y (fun b=>X0 b\/XS s a.tmps b) w cells cs->HD s cs ps=some d ->
   ∃ e,N3 place cells (g.map fun p=>(p.1,a.eval p.2))=some e/\EA Y (fun b=>X0 b\/XS s a.tmps b) w e d
 | [],[],cells,cs,d,_,hc,c=>by
  simp only[HD,AS] at c;subst c;exact⟨cells,rfl,hc⟩
 | (i,x)::g,(off,n,o)::ps,cells,cs,d,hp,hc,c=>by
  simp only[Ps,At] at hp;obtain⟨⟨h1,h2⟩,m⟩:=hp;simp only[HD] at c;cases j:o.av s with
  | none=>rw[j] at c;cases c
  | some y =>
   rw[j] at c;dsimp only at c;cases hy:HY y n with
   | none=>rw[hy] at c;cases c
   | some q =>
    rw[hy] at c;dsimp only at c;cases f:Di cs off q with
    | none=>rw[f] at c;cases c
    | some v =>
     rw[f] at c;dsimp only at c;obtain⟨hn,l⟩:=PS (D6 h h2 j) hy;obtain⟨e,r,t⟩:=R2 h k m (zJ hc l f) c;refine⟨e,?_,t⟩;simp only[CW,N3,k i off n h1];have z:=(Pp f).1;have A:=hc.2.1;have B:=l.2.1;have u:((a.eval x).cells.size ≠ n || off+(a.eval x).cells.size>cells.size)=false:=by
      simp only[ne_eq,QU,AW,Decidable.not_not,gt_iff_lt,Nat.not_lt];omega
     rw[Aw (by rw[u];simp)];exact r
 | [],_::_,_,_,_,hp,_,_=>by cases hp
 | _::_,[],_,_,_,hp,_,_=>by cases hp
theorem zM{fs:Array Field}(a:fs.all (fun f=>(P.info? f.type).isSome)=true):(fs.mapM fun f=>do pure (f.offset,<- sizeOf f.type):Sem (Array (Nat × Nat))).run P w = .ok (fs.map fun f=>(f.offset,P.cellsOf f.type)) w:=by
 have c:∀ (l:List Field),(∀ f∈l,(P.info? f.type).isSome=true)->(l.mapM fun f=>do pure (f.offset,<- sizeOf f.type):Sem (List (Nat × Nat))).run P w = .ok (l.map fun f=>(f.offset,P.cellsOf f.type)) w:=by
  intro l;induction l with
  | nil=>intro _;rfl
  | cons f l d =>
   intro b;obtain⟨i,hi⟩:=BA.1 (b f (Ba ..));have e:(sizeOf f.type).run P w = .ok (P.cellsOf f.type) w:=by simp[sizeOf,typeInfo,program,GE,hi,MH]
   simp only[OP,Bq,e,AQ,BV,d (fun g h=>b g (Bg _ h)),CW]
 have:=c fs.toList (fun f j=>by simp only[yY] at a;exact a f (by simpa using j));rw[W0];simp only[AJk,this,AQ];congr 1;apply Array.ext';simp
theorem R4{fs:Array Field}{i off n:Nat}(hi:N6 P fs i off n=true):(fs.map fun f=>(f.offset,P.cellsOf f.type))[i]? = some (off,n):=by
 unfold N6 at hi;split at hi
 ·rename_i f b;simp only[At,BJ] at hi;obtain⟨rfl,a⟩:=hi;unfold LH at a;split at a
  next d c=>simp only[BJ] at a;simp[b,MH,c,a]
  ·cases a
 ·cases hi
theorem Alv{vs:Array Value}(h:vs.size=2):∃ x y,vs=#[x,y]:=by
 obtain⟨l⟩:=vs;match l,h with
 | [x,y],_=>exact⟨x,y,rfl⟩
theorem Alw{t:TypeId}{e:List (Nat × Operand)}{o:Opd}{x:Nat}(a:zK P t e o x=true) :
  ∃ c d,e=[(0,c),(1,d)]/\CS c o=true/\CS d (.t x)=true /\
   ∀ (b:Bool) (u:Value),u.cells=#[u]->∀ w,(Zk t #[(0,.bool b),(1,u)]).run P w = .ok (.agg #[.bool b,u]) w:=by
 unfold zK at a;split at a
 next fs c d f=>simp only[At,BJ] at a;obtain⟨⟨⟨⟨⟨⟨h1,h2⟩,p⟩,g⟩,h⟩,i⟩,j⟩:=a;refine⟨c,d,rfl,h1,h2,fun b u k w => ?_⟩;obtain⟨v,l,hc⟩:=PU i;obtain⟨z0,q,hz⟩:=Alv (hc (fun _=>False) (fun _=>False) w).2.1;have m:=R4 g;have n:=R4 h;have hb:(YI b).cells=#[.bool b]:=rfl;simp only[Zk,Bq,l,AQ,run_underlying f,zM j,hz,N3,m,n,hb,k];rfl
 ·cases a
theorem Alx{t:TypeId}(a:(match P.underlying t with | some (.struct fs)=>(match fs[1]? with | some f=>f.offset==1&&PR P f.type 1 true | none=>false) | _=>false)=true)(b:Bool)(u:Value) :
  ∀ w,(Alp t (.agg #[.bool b,u]) 1).run P w = .ok u w:=by
 intro w;split at a
 ·rename_i fs c;split at a
  next f d=>simp only[At,BJ] at a;obtain⟨h1,h2⟩:=a;have e:=(Ot h2).1;simp only[Alp,Bq,run_underlying c,AQ,d,asAgg,BV,h1,part,e];rfl
  ·cases a
 ·cases a
end
end Go.Ai
