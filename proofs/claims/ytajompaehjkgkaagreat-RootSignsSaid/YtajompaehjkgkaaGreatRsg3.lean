/- Texts of the proof of RootSigns: part 3 of 13. -/
import Derived.ArgAppend
import Derived.Laws.MakeOwn
import Derived.Laws.Slices
import Derived.Laws.Cover3
import Derived.Test.YtajompaehjkgkaaGreatRsg2
namespace Go.Ai
open Go.RowKit
open And renaming left->Aeo
open _root_.Array renaming all_eq_true_iff_forall_mem->iQ,getD_eq_getD_getElem?->CB,getElem?_eq_getElem->DO,getElem?_eq_some_iff->E9,getElem?_setIfInBounds->P1,getElem?_toList->Awh,getElem_map->rC,getElem_range->iN,length_toList->CA,mapM_eq_mapM_toList->R4,range->Hj,replicate->OX,toArray_toList->Ff,toList_inj->tQ,toList_map->Fx
open Bool renaming and_eq_true->Ad,false_eq_true->Ca,not_eq_true'->Em,or_eq_true->ZH
open Go renaming undef->Bw
open Go.Act renaming eval->P6
open Go.Builtin renaming append_->C4,firstCells->ZX,lenOf->JX,len_->Afl
open Go.Code renaming region->A5d
open Go.Deferred renaming ofValue->K8
open Go.Instr renaming build->Ui,buildSlice->Lr,extract->Avx,field->tF,fill->Kl,indexAt->WC,sliceAt->iL,sliceBounds->Qt,storeAt->WB,sureAddr->JF
open Go.Oper renaming upon->Fw,wp->FI
open Go.Program renaming cellsOf->JD
open Go.Region renaming ready->Ph,wanted->Uv
open Go.Result renaming andThen_ok->Aw
open Go.RowKit.Below renaming heap_alloc->WG,refl->Hw
open Go.Sem renaming run->Fm,run_bind->AH,run_map->A6d,run_pure->Bc
open Go.Value renaming bool->TR
open Go.World renaming cell?->Uh
open Int renaming le_refl->Dp,mul_le_mul_of_nonneg_right->Ae
open List renaming all_eq_true->BQ,append_assoc->MZ,append_nil->O_,contains_eq_mem->It,drop->g,eq_nil_of_length_eq_zero->A1,ext_getElem?->FX,filter_eq_self->jE,getD_eq_getElem?_getD->Z,getElem?_append_left->AK,getElem?_append_right->AR,getElem?_cons_succ->Awi,getElem?_cons_zero->Awj,getElem?_eq_getElem->Af,getElem?_eq_none->AB,getElem?_eq_some_iff->Hm,getElem?_take_of_lt->By,getElem?_toArray->R2,getElem_append_left->Pb,getElem_append_right->Oz,getElem_cons_zero->F8,getElem_mem->Ds,getElem_of_mem->A6c,getElem_toArray->YA,length_append->AY,length_cons->Bq,length_drop->Eh,length_nil->Jw,length_take->A7,mapM_cons->Ln,map_append->Ef,map_cons->Cw,map_nil->FK,mem_append->BR,mem_append_left->H7,mem_cons->CS,mem_cons_of_mem->AS,mem_cons_self->AZ,mem_filter->I0,mem_map->DS,mem_of_mem_drop->EK,mem_of_mem_take->Ct,mem_zipIdx_iff_getElem?->Jx,nil_append->Jt,not_mem_nil->TG,pairwise_cons->rG,range->Ao,set_comm->iR,set_set->Rz,size_toArray->Ia,take->B1,take_append_drop->Xn,take_zero->TF
open List.Pairwise renaming filter->A6i
open Nat renaming add_assoc->D6,add_comm->Hn,add_mul->DN,add_zero->FC,eq_zero_or_pos->F4,le_refl->An,le_trans->Bp,lt_irrefl->A2d,lt_of_lt_of_le->EL,lt_or_ge->Ck,mod_eq_of_lt->Fk,mul_le_mul->Bu,mul_le_mul_right->AD,strongRecOn->TD,sub_self->OY,sub_zero->JH,succ_mul->KB,zero_add->Ch,zero_le->Bv,zero_mul->SK
open Option renaming getD_some->G6,isSome_iff_exists->A_,map_eq_some_iff->Ah,map_none->WH,map_some->A4
open Option.some renaming injEq->Ay
section
variable {P:Program} {Y X:Nat->Prop} {w:World}
theorem Er{t:TypeId}{k:Nat}(h:FE P t k=true):∃ e i zv,P.underlying t=some (.slice e)/\P.info? e=some i/\i.size=k/\0<k/\i.bytes<=1048576/\i.zero=some zv/\zv.cells.size=k:=by
 unfold FE at h;split at h
 ·rename_i e hu;split at h
  ·rename_i i hi;simp only[Ad,beq_iff_eq,decide_eq_true_eq] at h;obtain⟨⟨⟨h1,h2⟩,h3⟩,h4⟩:=h;split at h4
   ·rename_i zv hz;simp only[beq_iff_eq] at h4;exact⟨e,i,zv,hu,hi,h1,by omega,h3,hz,by omega⟩
   ·cases h4
  ·cases h
 ·cases h
theorem FP{t:TypeId}(h:G_ P t=true):∃ e,P.underlying t=some (.slice e):=by
 unfold G_ at h;split at h
 ·rename_i e hu;exact⟨e,hu⟩
 ·cases h
theorem Lq(z:List AV)(n:Nat):(Cp z n).length=n*z.length:=by
 induction n with
 | zero=>simp[Cp]
 | succ n ih=>simp only[Cp,AY,ih,KB];omega
theorem jB(z:List AV)(n:Nat):∀ i,i<n*z.length->(Cp z n)[i]?=z[i % z.length]?:=by
 induction n with
 | zero=>intro i h;omega
 | succ n ih =>
  intro i h;rw[KB] at h;simp only[Cp];by_cases hi:i<z.length
  ·rw[AK hi,Fk hi]
  ·rw[AR (by omega),ih _ (by omega)];congr 1;exact (Nat.mod_eq_sub_mod (by omega)).symm
theorem jC(z:List AV)(n:Nat):∀ x∈Cp z n,x∈z:=by
 induction n with
 | zero=>intro x h;cases h
 | succ n ih =>
  intro x h;simp only[Cp,BR] at h;exact h.elim id (ih x)
theorem Afh{t:TypeId}{z:List AV}{kl kc:IntKind}{m:Int}(he:FE P t z.length=true)(hz:YH P t z=true)(h0:0<=m)(h1:m<=1048576) :
  ∃ e cells,(Instr.makeSlice t (.int kl m) (.int kc m)).run P w = .ok (.slice (some ⟨w.heap.size,0,none⟩) m.toNat m.toNat) (w.alloc (.cells cells e))/\Du Y X w cells (Cp z m.toNat):=by
 obtain⟨e,i,zv,hu,hi,hs,hk,hb,hzv,hzs⟩:=Er he;unfold YH at hz;rw[hu] at hz;dsimp only at hz;unfold Mi at hz;rw[hi] at hz;dsimp only at hz;rw[hzv] at hz;dsimp only at hz;have hc:Du Y X w zv.cells z:=by
  have:=JL (Y:=Y) (X:=X) (w:=w) hz;simpa using this
 have hbb:(i.bytes:Int)*m<=281474976710656:=by
  have a1:(i.bytes:Int)*m<=1048576*m:=Ae (by omega) h0;omega
 have hr:=run_make (P:=P) w t e i zv hu hi hzv kl kc m m h0 (Dp _) hbb (by omega);refine⟨e,_,hr,fun x hx=>hc.1 x (jC z _ x hx),?_,fun j g1 g2 => ?_⟩
 ·rw[size_madeCells,Lq,hs]
 ·have hj:j<m.toNat*z.length:=by rw[<- Lq];exact g2
  have e1:=jB z m.toNat j hj;rw[Af g2] at e1;obtain⟨v,hv,hrv⟩:=hc.get e1.symm;have:(madeCells zv.cells (m.toNat*i.size))[j]'g1=v:=by
   have hv':zv.cells[j % zv.cells.size]?=some v:=by rw[hzs];exact hv
   simp[madeCells,getElem!_def,hv']
  rw[this];exact hrv
def Ib(w:World)(b off n:Nat):List Value:=(Ao n).map fun i=>(w.cell? ⟨b,off+i,none⟩).getD Bw
theorem N1{b off:Nat}{cs:List AV}(h:Gg Y X w b off cs) :
  (Ib w b off cs.length).length=cs.length/\(∀ j u,(Ib w b off cs.length)[j]?=some u->w.cell? ((⟨b,off,none⟩:Addr).add j)=some u) /\
  (∀ (i:Nat) (h:i<cs.length),∃ u,(Ib w b off cs.length)[i]?=some u/\Rd Y X w u cs[i])/\∀ u∈Ib w b off cs.length,u.oneCell'=true:=by
 obtain⟨hd,hm⟩:=h;have hg:∀ (i:Nat) (h:i<cs.length),∃ u,(Ib w b off cs.length)[i]?=some u/\w.cell? ⟨b,off+i,none⟩=some u/\Rd Y X w u cs[i]:=by
  intro i hi;obtain⟨v,h1,h2⟩:=hm i hi;exact⟨v,by simp[Ib,hi,h1],h1,h2⟩
 have hl:(Ib w b off cs.length).length=cs.length:=by simp[Ib]
 refine⟨hl,fun j u hu => ?_,fun i hi => ?_,fun u hu => ?_⟩
 ·have hj:j<cs.length:=by
   have:=(Hm.1 hu).1;omega
  obtain⟨v,h1,h2,_⟩:=hg j hj;rw[hu] at h1;cases h1;rw[GZ];exact h2
 ·obtain⟨v,h1,_,h3⟩:=hg i hi;exact⟨v,h1,h3⟩
 ·obtain⟨j,hj,rfl⟩:=A6c hu;obtain⟨v,h1,_,h3⟩:=hg j (by omega);rw[Af hj] at h1;cases h1;exact (Jv h3 (hd _ (Ds _))).1
theorem Gy{t t' ty e e':TypeId}{i:TypeInfo}{args:Array Value}(h:P.underlying t=some (.slice e))(hi:P.info? e=some i)(h':P.underlying t'=some (.slice e')) :
  (C4 #[t,t'] ty args).run P w=(C4 #[t,t] ty args).run P w:=by
 have hsz:(sizeOf e).run P w = .ok i.size w:=by simp[sizeOf,typeInfo,program,Fm,hi]
 simp only[C4,R2,Awj,Awi];cases h0:args[0]? with
 | none=>rfl
 | some s =>
  cases h1:args[1]? with
  | none=>rfl
  | some x =>
   simp only[AH,run_underlying h,Aw];cases s <;> try rfl
   simp only[AH,hsz,run_underlying h,run_underlying h',Aw,Bc]
theorem jD{y:Value}{m:Nat}{ys:List AV}(h:Rd Y X w y (.sl m ys)):(m=0/\ys=[]/\(y = .slice none 0 0\/∃ p c,y = .slice (some p) 0 c))\/∃ b off cap,y = .slice (some ⟨b,off,none⟩) m cap/\Gg Y X w b off ys/\m<=cap/\(ys ≠ []->¬ X b):=by
 cases h with
 | nil0=>exact .inl ⟨rfl,rfl,.inl rfl⟩
 | e0 a c=>exact .inl ⟨rfl,rfl,.inr ⟨a,c,rfl⟩⟩
 | sl b off _ cap _ f hd hn hX hY hcell hr=>exact .inr ⟨b,off,cap,rfl,⟨hd,fun i hi=>⟨f i,hcell i hi,hr i hi⟩⟩,hn,hX⟩
def SlR(Y X:Nat->Prop)(w:World)(y:Value)(m:Nat)(ys:List AV):Prop:=(m=0/\ys=[]/\(y = .slice none 0 0\/∃ p c,y = .slice (some p) 0 c))\/∃ b off cap,y = .slice (some ⟨b,off,none⟩) m cap/\Gg Y X w b off ys/\m<=cap
theorem Awp{y:Value}{m:Nat}{ys:List AV}(h:Rd Y X w y (.sl m ys)):SlR Y X w y m ys:=by
 rcases jD h with h | ⟨b,off,cap,h1,h2,h3,_⟩
 ·exact .inl h
 ·exact .inr ⟨b,off,cap,h1,h2,h3⟩
theorem SI{w':World}{e:TypeId}{k n:Nat}{v:Value}{xs:List Value}{cs:List AV}(hown:w'.ownsRow w.heap.size e k v n xs)(hn:0<n)(hd:Nu cs)(hl:cs.length=n*k)(hx:xs.length=cs.length)
  (hr:∀ (i:Nat) (h:i<cs.length),∃ u,xs[i]?=some u/\Rd Y X w' u cs[i]):FO Y X w.heap.size w' v k n cs:=by
 obtain⟨_,h | ⟨g,cap,cur,rfl,hg,hh,hnc,_,hcs,htake⟩⟩:=hown
 ·omega
 ·have hle:n*k<=cap*k:=AD _ hnc;refine .inr ⟨g,cap,rfl,hnc,hl,hg,⟨hd,cur,e,hh,by omega,fun i hi => ?_⟩,cur,e,hh,by omega⟩;obtain⟨u,h1,h2⟩:=hr i hi;refine⟨u,?_,h2⟩;rw[<- htake,By (by omega)] at h1;simpa using h1
theorem SJ{cs ys:List AV}(h1:Nu cs)(h2:Nu ys):Nu (cs++ys):=fun x hx=>(BR.1 hx).elim (h1 x) (h2 x)
theorem YI{t e:TypeId}{i:TypeInfo}{B:Nat}(h:TQ P t B=true)(hu:P.underlying t=some (.slice e))(hi:P.info? e=some i):B*i.bytes<=140737488355328/\B<=140737488355328:=by
 unfold TQ at h;simp only[hu,hi,Ad,decide_eq_true_eq] at h;exact h
theorem Qy{t t' ty:TypeId}{k n m B:Nat}{cs ys:List AV}{x y:Value}(he:FE P t k=true)(ht':G_ P t'=true)(hB:TQ P t B=true)
  (hx:(x = .slice none 0 0/\n=0/\cs=[]/\0<m)\/∃ b cap,x = .slice (some ⟨b,0,none⟩) n cap/\cap<n+m/\Gg Y X w b 0 cs) (hlen:cs.length=n*k) (hy:SlR Y X w y m ys) (hm0:0<m) (hylen:ys.length=m*k) (hnm:n+m<=B) :
  ∃ v' w',(C4 #[t,t'] ty #[x,y]).run P w = .ok v' w'/\Below w.heap.size w w'/\FO Y (fun c=>X c\/w.heap.size<=c) w.heap.size w' v' k (n+m) (cs++ys):=by
 obtain⟨e,i,zv,hu,hi,hs,hk,hb,hzv,hzs⟩:=Er he;obtain⟨e',hu'⟩:=FP ht';rw[Gy hu hi hu'];obtain⟨by_,boff,bcap,rfl,hmem,_⟩:=hy.resolve_left (fun h=>by have:=h.1;omega);obtain⟨n1,n2,n3,n4⟩:=N1 hmem;obtain⟨hB1,hB2⟩:=YI hB hu hi;have hbytes:(n+m)*i.bytes<=140737488355328:=Bp (Bu hnm (An _)) hB1;have hmax:n+m<=maxLen:=by simp only[maxLen];omega
 rcases hx with ⟨rfl,rfl,rfl,hm⟩ | ⟨b,cap,rfl,hcap,hbm⟩
 ·obtain⟨v',w',hrun,r1,r2,_⟩:=run_append_own (P:=P) w w.heap.size t ty e i zv k i.bytes hu hi hzv hs rfl hzs hk (.slice none 0 0) 0 [] (World.ownsRow_nil w _ e k) ⟨by_,boff,none⟩ m bcap _ (by rw[n1,hylen]) n2 n4 hmax hbytes (An _);have hbel:Below w.heap.size w w':=⟨r2.os,r2.tape,r2.output,r2.size,fun c hc=>r2.block c hc (by simp[Value.ownBlock])⟩;refine⟨v',w',hrun,hbel,?_⟩;simp only[Jt];refine SI r1 (by omega) hmem.1 (by rw[hylen,Ch]) (by simp[n1]) (fun j hj => ?_);obtain⟨u,h1,h2⟩:=n3 j hj;exact⟨u,by simpa using h1,(h2.mono fun b hb=>hb).world fun c _ hc=>hbel.block c hc⟩
 ·obtain⟨S,o2,o3,o4⟩:=N1 hbm;obtain⟨v',w',hrun,r1,r2⟩:=run_append_arg_grows (P:=P) w t ty e i zv k i.bytes hu hi hzv hs rfl hzs hk ⟨b,0,none⟩ n cap _ (by rw[S,hlen]) o2 ⟨by_,boff,none⟩ m bcap _ (by rw[n1,hylen]) n2 hcap hmax hbytes;have hbel:Below w.heap.size w w':=⟨r2.os,r2.tape,r2.output,r2.size,fun c hc=>r2.block c hc (by simp)⟩;refine⟨v',w',hrun,hbel,?_⟩;refine SI r1 (by omega) (SJ hbm.1 hmem.1) (by rw[AY,hlen,hylen,DN]) (by simp[S,n1]) (fun j hj => ?_);by_cases hj1:j<cs.length
  ·obtain⟨u,h1,h2⟩:=o3 j hj1;refine⟨u,by rw[AK (by omega)];exact h1,?_⟩;rw[Pb hj1];exact (h2.mono fun b hb=>hb).world fun c _ hc=>hbel.block c hc
  ·have hj2:j-cs.length<ys.length:=by simp at hj;omega
   obtain⟨u,h1,h2⟩:=n3 _ hj2;refine⟨u,by rw[AR (by omega),S];exact h1,?_⟩;rw[Oz (by omega)];exact (h2.mono fun b hb=>hb).world fun c _ hc=>hbel.block c hc
theorem YJ{t t' ty:TypeId}{k n m b cap:Nat}{cs ys:List AV}{y:Value}(he:FE P t k=true)(ht':G_ P t'=true)(hcap:n+m<=cap)(hX:X b)
  (hblk:FN Y X w b 0 cs) (hroom:SF w b (cap*k)) (hlen:cs.length=n*k) (hy:SlR Y X w y m ys) (hy0:m ≠ 0) (hylen:ys.length=m*k) :
  ∃ w',(C4 #[t,t'] ty #[.slice (some ⟨b,0,none⟩) n cap,y]).run P w = .ok (.slice (some ⟨b,0,none⟩) (n+m) cap) w'/\w'.os=w.os/\w'.tape=w.tape/\w'.output=w.output/\w'.heap.size=w.heap.size /\
   (∀ c,c ≠ b->w'.heap[c]?=w.heap[c]?)/\FN Y X w' b 0 (cs++ys)/\SF w' b (cap*k):=by
 obtain⟨e,i,zv,hu,hi,hs,hk,hb,hzv,hzs⟩:=Er he;obtain⟨e',hu'⟩:=FP ht';rw[Gy hu hi hu'];obtain⟨by_,boff,bcap,rfl,hmem,_⟩:=hy.resolve_left (fun h=>hy0 h.1);obtain⟨n1,n2,n3,n4⟩:=N1 hmem;obtain⟨hdat,vs,T,hh,_,hcell⟩:=hblk;obtain⟨vs',T',hh',hsz⟩:=hroom;rw[hh] at hh';cases hh';have hle:(n+m)*k<=cap*k:=AD _ hcap;rw[DN] at hle;generalize hnews:Ib w by_ boff ys.length=news at *
 have hf:=run_firstCells_some (P:=P) w i.size m ⟨by_,boff,none⟩ m bcap news (by rw[n1,hylen,hs]) n2;have hst:=run_storeCells_at P b (n*i.size) T news 0 vs w hh (by rw[hs,n1,hylen];omega) n4;simp only[FC] at hst;have hext:∀ c,¬ X c->c<w.heap.size->(w.setRow b (B1 (n*i.size) vs.toList++news++g (n*i.size+news.length) vs.toList).toArray).heap[c]?=w.heap[c]?:=fun c hc _=>H1 _ _ _ _ (fun e=>hc (e ▸ hX));have hrow:=setRow_heap w b vs (B1 (n*i.size) vs.toList++news++g (n*i.size+news.length) vs.toList).toArray T (0,0) hh;have hsize:(B1 (n*i.size) vs.toList++news++g (n*i.size+news.length) vs.toList).toArray.size=vs.size:=by
  simp only[Ia,AY,A7,Eh,CA,n1,hylen,hs];omega
 refine⟨w.setRow b (B1 (n*i.size) vs.toList++news++g (n*i.size+news.length) vs.toList).toArray,?_,rfl,rfl,rfl,JK _ _ _,fun c hc=>H1 _ _ _ _ hc,⟨SJ hdat hmem.1,_,T,hrow,?_,fun j hj => ?_⟩,⟨_,T,hrow,by rw[hsize];exact hsz⟩⟩
 ·simp[C4,run_underlying hu,sizeOf,typeInfo,hi,JX,hcap,hf,Addr.add_lit,hst]
 ·rw[hsize,AY,hlen,hylen];omega
 ·have ht:(vs.toList.take (n*i.size)).length=n*k:=by simp only[A7,CA,hs];omega
  simp only[Ch,R2];by_cases hj1:j<cs.length
  ·obtain⟨u,h1,h2⟩:=hcell j hj1;refine⟨u,?_,?_⟩
   ·rw[MZ,AK (by omega),By (by rw[hs];omega)];simpa using h1
   ·rw[Pb hj1];exact h2.world hext
  ·have hj2:j-cs.length<ys.length:=by simp at hj;omega
   obtain⟨u,h1,h2⟩:=n3 _ hj2;refine⟨u,?_,?_⟩
   ·rw[AK (by simp only[AY,ht,n1];simp at hj;omega),AR (by omega),ht,<- hlen];exact h1
   ·rw[Oz (by omega)];exact h2.world hext
theorem append_nil{t t' ty:TypeId}{k:Nat}(he:FE P t k=true)(ht':G_ P t'=true):(C4 #[t,t'] ty #[.slice none 0 0,.slice none 0 0]).run P w = .ok (.slice none 0 0) w:=by
 obtain⟨e,i,zv,hu,hi,hs,hk,hb,hzv,hzs⟩:=Er he;obtain⟨e',hu'⟩:=FP ht';rw[Gy hu hi hu'];simp[C4,run_underlying hu,sizeOf,typeInfo,hi,JX,ZX]
theorem Qz{t t' ty:TypeId}{k c:Nat}{p:Addr}(he:FE P t k=true)(ht':G_ P t'=true):(C4 #[t,t'] ty #[.slice none 0 0,.slice (some p) 0 c]).run P w = .ok (.slice none 0 0) w:=by
 obtain⟨e,i,zv,hu,hi,hs,hk,hb,hzv,hzs⟩:=Er he;obtain⟨e',hu'⟩:=FP ht';rw[Gy hu hi hu'];have hf:=run_firstCells_some (P:=P) w i.size 0 p 0 c [] (by simp) (by simp);simp[C4,run_underlying hu,sizeOf,typeInfo,hi,JX,hf]
theorem Q5{t t' ty:TypeId}{k n b cap:Nat}(he:FE P t k=true)(ht':G_ P t'=true)(hn:n<=cap) :
  (C4 #[t,t'] ty #[.slice (some ⟨b,0,none⟩) n cap,.slice none 0 0]).run P w = .ok (.slice (some ⟨b,0,none⟩) n cap) w:=by
 obtain⟨e,i,zv,hu,hi,hs,hk,hb,hzv,hzs⟩:=Er he;obtain⟨e',hu'⟩:=FP ht';rw[Gy hu hi hu'];simp[C4,run_underlying hu,sizeOf,typeInfo,hi,JX,ZX,hn,storeCells]
theorem Pf{t t' ty:TypeId}{k n b cap c:Nat}{p:Addr}(he:FE P t k=true)(ht':G_ P t'=true)(hn:n<=cap) :
  (C4 #[t,t'] ty #[.slice (some ⟨b,0,none⟩) n cap,.slice (some p) 0 c]).run P w = .ok (.slice (some ⟨b,0,none⟩) n cap) w:=by
 obtain⟨e,i,zv,hu,hi,hs,hk,hb,hzv,hzs⟩:=Er he;obtain⟨e',hu'⟩:=FP ht';rw[Gy hu hi hu'];have hf:=run_firstCells_some (P:=P) w i.size 0 p 0 c [] (by simp) (by simp);simp[C4,run_underlying hu,sizeOf,typeInfo,hi,JX,hf,hn,storeCells]
theorem Mk{len cap m h l:Nat}{lo hi mx:Option Value}(hmx:(mx=none/\m=cap)\/∃ k i,mx=some (.int k i)/\0<=i/\i.toNat=m/\m<=cap)(hhi:(hi=none/\mx=none/\h=len)\/∃ k i,hi=some (.int k i)/\0<=i/\i.toNat=h/\h<=m)
  (hlo:(lo=none/\l=0)\/∃ k i,lo=some (.int k i)/\0<=i/\i.toNat=l/\l<=h):(Qt true len cap lo hi mx).run P w = .ok (l,h,m) w:=by
 have hb:∀ (k:IntKind) (i:Int) (y n:Nat) (IZ:BoundsCode),0<=i->i.toNat=n->n<=y->(Instr.sliceBound (.int k i) y IZ).run P w = .ok n w:=by
  intro k i y n IZ h0 h1 h2;rw[run_sliceBound w k i y IZ h0 (by omega),h1]
 rcases hmx with ⟨rfl,rfl⟩ | ⟨km,im,rfl,m0,m1,m2⟩ <;> rcases hhi with ⟨rfl,hh,rfl⟩ | ⟨kh,ih,rfl,h0,h1,h2⟩ <;> rcases hlo with ⟨rfl,rfl⟩ | ⟨kl,il,rfl,l0,l1,l2⟩;all_goals first
  | cases hh;done
  | simp only[Qt,AH,Bc,Aw]
 all_goals first
  | rfl
  | simp only[hb kl il _ l _ l0 l1 l2,Aw];done
  | simp only[hb kh ih _ h _ h0 h1 h2,Aw];done
  | simp only[hb kh ih _ h _ h0 h1 h2,hb kl il _ l _ l0 l1 l2,Aw];done
  | simp only[hb km im _ m _ m0 m1 m2,hb kh ih _ h _ h0 h1 h2,Aw];done
  | simp only[hb km im _ m _ m0 m1 m2,hb kh ih _ h _ h0 h1 h2,hb kl il _ l _ l0 l1 l2,Aw];done
theorem Ml{t:TypeId}{k len cap m h l:Nat}{a:Option Addr}{lo hi mx:Option Value}(he:FE P t k=true)(hb:(Qt true len cap lo hi mx).run P w = .ok (l,h,m) w) :
  (iL t (.slice a len cap) lo hi mx).run P w = .ok (.slice (if m=l then a else a.map (·.add (l*k))) (h-l) (m-l)) w:=by
 obtain⟨e,i,zv,hu,hi',hs,hk,hb',hzv,hzs⟩:=Er he;have hsz:(sizeOf e).run P w = .ok k w:=by simp[sizeOf,typeInfo,program,Fm,hi',hs]
 simp only[iL,AH,run_underlying hu,Aw,Instr.slice,hb,hsz,Bc]
theorem tP{v:Value}{n l h m k:Nat}{cs:List AV}(hv:Rd Y X w v (.sl n cs))(hlh:l<=h)(hhn:h<=n) :
  ∃ a cap,v = .slice a n cap/\n<=cap/\(h<=m->(a=none->m=0)->Rd Y X w (.slice (if m=l then a else a.map (·.add (l*k))) (h-l) (m-l)) (.sl (h-l) ((cs.drop (l*k)).take ((h-l)*k))))/\(a=none->cap=0):=by
 cases hv with
 | nil0 =>
  refine⟨none,0,rfl,An _,fun _ hm => ?_,fun _=>rfl⟩;have h0:h=0:=by omega
  have l0:l=0:=by omega
  subst h0 l0;rw[hm rfl];simpa using Rd.nil0
 | e0 a c =>
  have h0:h=0:=by omega
  have l0:l=0:=by omega
  subst h0 l0;refine⟨some a,c,rfl,Bv _,fun _ _ => ?_,fun h=>by cases h⟩;simp only[JH,SK,TF];split
  ·exact .e0 _ _
  ·exact .e0 _ _
 | sl b off _ cap _ f hd hn hX hY hcell hr =>
  refine⟨_,cap,rfl,hn,fun hhm _ => ?_,fun h=>by cases h⟩;have hlen:((cs.drop (l*k)).take ((h-l)*k)).length<=cs.length-l*k:=by simp only[A7,Eh];omega
  have hdat:Nu ((cs.drop (l*k)).take ((h-l)*k)):=fun x hx=>hd x (EK (Ct hx));by_cases hml:m=l
  ·have hh:h-l=0:=by omega
   rw[if_pos hml,hh,SK,TF];exact .sl b off 0 (m-l) [] f (fun x hx=>by cases hx) (Bv _) (fun h=>absurd rfl h) (fun ⟨c,hc,_⟩=>by cases hc) (fun i hi=>by simp at hi) (fun i hi=>by simp at hi)
  ·rw[if_neg hml];simp only[A4,GZ];refine .sl b (off+l*k) (h-l) (m-l) _ (fun i=>f (l*k+i)) hdat (by omega) (fun hne=>hX (fun e=>hne (by rw[e];simp))) (fun ⟨c,hc,h1⟩=>hY ⟨c,EK (Ct hc),h1⟩) (fun i hi => ?_) (fun i hi => ?_)
   ·rw[D6];exact hcell _ (by omega)
   ·have:=hr (l*k+i) (by omega);simpa using this
end
def Gh(roots:List (Nat × Nat))(oks:List Nat)(dst:Option Nat):Bool:=roots.all fun p => !(some p.2==dst) || oks.contains p.1
def Ut(roots:List (Nat × Nat))(dst:Option Nat)(d:Nat):Bool :=
 match dst with
 | some t=>roots.contains (t,d) && !(t==d)
 | none=>true
def YK(roots:List (Nat × Nat))(dst:Option Nat)(ks:List Nat):Bool:=dst.isSome&&roots.all fun p => !(some p.2==dst) || ks.contains p.1
def EM(roots:List (Nat × Nat))(oks:List Nat)(dst:Option Nat):K->Bool
 | .new _ ks=>YK roots dst ks
 | .box _ ks=>YK roots dst ks
 | .adr _ d _=>Gh roots oks dst&&Ut roots dst d
 | .ixo _ d _ _=>Gh roots oks dst&&Ut roots dst d
 | .cpy x=>Gh roots oks dst&&Ut roots dst x
 | .st _ _ _ _=>dst.isNone
 | .bls _ _ _=>Gh roots oks dst&&dst.isSome
 | .blo _ _ _ _=>Gh roots oks dst&&dst.isSome
 | .mks _ _=>Gh roots oks dst&&dst.isSome
 | .tra _=>Gh roots oks dst&&dst.isSome
 | .apd _ _ _ _ _=>Gh roots oks dst&&dst.isSome
 | .clo _ _=>Gh roots oks dst&&dst.isSome
 | .nlo _=>Gh roots oks dst&&dst.isSome
 | .bdo _ _ l=>Gh roots (oks++l) dst&&dst.isSome
 | .cln _ _ l=>Gh roots (oks++l) dst&&dst.isSome
 | .stl x v=>dst.isNone&&roots.contains (x,v)
 | .fdo _=>Gh roots oks dst&&dst.isSome
 | .exo _=>Gh roots oks dst&&dst.isSome
 | .slo _ _ _=>Gh roots oks dst&&dst.isSome
 | _=>Gh roots oks dst
theorem AF{s:Ak}{roots:List (Nat × Nat)}{oks:List Nat}{dst:Option Nat}(hkd:∀ t∈oks,Fl (A2 s t)=false)(h:Gh roots oks dst=true):ZU s roots dst:=by
 intro d hd t ht;simp only[Gh,BQ,ZH,Em,beq_eq_false_iff_ne,ne_eq,It,decide_eq_true_eq] at h;rcases h (t,d) ht with h1 | h1
 ·exact absurd hd.symm h1
 ·exact hkd t h1
theorem SL{s:Ak}{oks ls:List Nat}(hkd:∀ t∈oks,Fl (A2 s t)=false)(hls:(ls.all fun t=>Ge (A2 s t))=true):∀ t∈oks++ls,Fl (A2 s t)=false:=by
 intro t ht;rcases BR.1 ht with ht | ht
 ·exact hkd t ht
 ·exact YB (BQ.1 hls t ht)
theorem KI{roots:List (Nat × Nat)}{dst:Option Nat}{d:Nat}(h:Ut roots dst d=true):∀ t,dst=some t->(t,d)∈roots/\t ≠ d:=by
 intro t ht;subst ht;simpa [Ut] using h
theorem SM{roots:List (Nat × Nat)}{dst:Option Nat}{ks:List Nat}(h:YK roots dst ks=true):dst.isSome=true/\∀ d,dst=some d->∀ t,(t,d)∈roots->t∈ks:=by
 simp only[YK,Ad,BQ,ZH,Em,beq_eq_false_iff_ne,ne_eq,It,decide_eq_true_eq] at h;refine⟨h.1,fun d hd t ht => ?_⟩;rcases h.2 (t,d) ht with h1 | h1
 ·exact absurd hd.symm h1
 ·exact h1
section
variable {P:Program} {Y X0:Nat->Prop} {roots:List (Nat × Nat)} {w0 w:World} {s:Ak} {a:Act} {Q:Exit->Act->World->Prop}
theorem N2{w:World}{b off:Nat}{vs:Array Value}{T:TypeId}{fz:Nat × Nat}(h:w.heap[b]?=some (.cells vs T fz)):w.cell? ⟨b,off,none⟩=vs[off]?:=by
 simp only[Uh,h];rfl
theorem Mm{Y X:Nat->Prop}{w:World}{zero:List Value}(hz:0<zero.length):∀ (n:Nat) (z:List AV),Qx z zero n=true->z.length=n*zero.length ->
  Nu z/\∀ (i:Nat) (h:i<z.length),∃ v,zero[i % zero.length]?=some v/\Rd Y X w v z[i]
 | 0,z,_,hl=>by
  have:z=[]:=A1 (by simpa using hl);subst this;exact⟨fun x hx=>(by cases hx),fun i h=>(by simp at h)⟩
 | n+1,z,h,hl=>by
  simp only[Qx,Ad] at h;obtain⟨h1,h2⟩:=h;have hl':z.length=n*zero.length+zero.length:=by rw[hl,KB]
  obtain⟨hd,ih⟩:=Mm (Y:=Y) (X:=X) (w:=w) hz n (z.drop zero.length) h2 (by simp;omega);have hc:=JL (Y:=Y) (X:=X) (w:=w) h1;refine⟨fun x hx => ?_,fun i hi => ?_⟩
  ·rw[<- Xn zero.length z,BR] at hx;rcases hx with hx | hx
   ·exact hc.1 x hx
   ·exact hd x hx
  ·by_cases hlt:i<zero.length
   ·rw[Fk hlt];have e:(z.take zero.length)[i]?=some z[i]:=by rw[By hlt,Af hi]
    obtain⟨v,hv,hr⟩:=hc.get e;exact⟨v,by simpa using hv,hr⟩
   ·have hi2:i-zero.length<(z.drop zero.length).length:=by simp;omega
    obtain⟨v,hv,hr⟩:=ih (i-zero.length) hi2;have e1:(i-zero.length) % zero.length=i % zero.length:=by
     rw[<- Nat.add_mod_right (i-zero.length) zero.length];congr 1;omega
    have e2:(z.drop zero.length)[i-zero.length]=z[i]:=by
     rw[List.getElem_drop];congr 1;omega
    exact⟨v,e1 ▸ hv,e2 ▸ hr⟩
theorem Ko.world{Y X:Nat->Prop}{B:Nat}{tm:Array Value}{w w':World}{t:Nat}{v:Value}{r:Reg}(h:Ko Y X B roots tm w t v r)(hw:Below w.heap.size w w'):Ko Y X B roots tm w' t v r:=by
 cases r with
 | val x=>exact Rd.world h fun b _ hb=>hw.block b hb
 | box cs=>obtain⟨b,e1,e2,e3⟩:=h;exact⟨b,e1,e2,e3.world (fun c _ hc=>hw.block c hc) (hw.block b e3.lt)⟩
 | own k n cs=>exact FO.world h (fun c _ hc=>hw.block c hc) (fun b _ hb=>hw.block b hb)
 | agn b k n cs=>exact Ju.world h (fun c _ hc=>hw.block c hc) (fun b _ hb=>hw.block b hb)
 | bxl d =>
  obtain⟨e1,b,e2,e3,e4,e5⟩:=h;exact⟨e1,b,e2,e3,EL e4 hw.size,fun i hi=>by rw[<- e5 i hi];exact EX (hw.block b e4)⟩
 | mem cs=>obtain⟨b,off,e1,e2,e3⟩:=h;exact⟨b,off,e1,e2,e3.world (fun c _ hc=>hw.block c hc) (fun hb=>hw.block b hb)⟩
 | ptr d off=>exact h
 | dup d=>exact h
 | sub _ _ _ _=>exact h
 | dead=>trivial
theorem Afi{Y X:Nat->Prop}{w:World}{t:TypeId}{n off:Nat}{one:Bool}{vs:Array Value}{cs:List AV}{x:AV}(ho:Mg P t n one=true)(hc:Du Y X w vs cs)(ht:Bm cs off n one=some x) :
  ∃ v,(part t vs off).run P w = .ok v w/\Rd Y X w v x:=by
 obtain⟨h1,h2⟩:=KF ho;obtain⟨hd,hs,hr⟩:=hc;unfold Bm at ht;cases one with
 | true =>
  simp only[if_true] at ht;obtain⟨v,hv,hrv⟩:=Du.get ⟨hd,hs,hr⟩ ht;exact⟨v,by simp[part,h1,hv],hrv⟩
 | false =>
  simp only[Ca,if_false] at ht;split at ht
  ·rename_i hle;cases ht;refine⟨.agg (vs.extract off (off+n)),by simp[part,h1,h2],.agg _ _ (fun y hy=>hd y (EK (Ct hy))) (by simp;omega) (fun i g1 g2 => ?_)⟩;have hi:i<n:=by simp at g2;omega
   have:=hr (off+i) (by omega) (by omega);simpa using this
  ·cases ht
theorem E5{x':Operand}{x:Nat}(h1:BX x' (.t x)=true):a.eval x'=a.tmps.getD x Bw:=by
 cases x' <;> simp only[BX] at h1 <;> try cases h1
 simp only[beq_iff_eq] at h1;subst h1;rfl
theorem N3{o:Oper}{x:Nat}(h:Us o.op x=true):(execOp a.eval o).run P w = .ok (.value (a.tmps.getD x Bw)) w:=by
 unfold Us at h;split at h
 ·rename_i y hop;simp[execOp,hop,E5 (a:=a) h]
 ·rename_i y hop;simp[execOp,hop,E5 (a:=a) h]
 ·cases h
theorem rA{x:Opd}{v:AV}(h:x.reg s = .val v):x.av s=some v:=by simp only [Opd.av,h]
theorem ZY{x:Opd}{k n:Nat}{cs:List AV}(h:x.reg s = .own k n cs):∃ m,x = .t m:=by
 cases x with
 | t m=>exact⟨m,rfl⟩
 | c y=>simp only[Opd.reg] at h;cases h
theorem O1{Y X X':Nat->Prop}{B B':Nat}{w':World}{v:Value}{k n:Nat}{cs:List AV}(hB:B<=B')(h:FO Y (fun c=>X c\/Bi v=some c) B' w' v k n cs)(hX:∀ b,X' b->X b\/(B'<=b/\Bi v=some b)):FO Y X' B w' v k n cs :=
 (h.mono fun c hc => .inl ((hX c hc).imp id And.right)).lower hB
theorem Pg{s:Ak}:∀ {ps:List (Nat × Nat × Opd)} {cs cs':List AV},FL s cs ps=some cs'->cs'.length=cs.length
 | [],cs,cs',h=>by simp only[FL,Ay] at h;rw[h]
 | (off,n,o)::ps,cs,cs',h=>by
  simp only[FL] at h;split at h
  ·cases h
  ·split at h
   ·cases h
   ·split at h
    ·cases h
    ·rename_i hl;rw[Pg h,(L9 hl).2.1]
theorem ZZ(h:Rel Y X0 roots w0 s a w){d k n:Nat}{cells:Array Value}{cs:List AV}{T:TypeId}(hks:∀ t,(t,d)∈roots->Fl (A2 s t)=false)(hc:Du Y (fun b=>X0 b\/XS s a.tmps b) w cells cs)(hl:cs.length=n*k) :
  Rel Y X0 roots w0 (DQ s (some d) (.own k n cs)) (a.put (some d) (.slice (some ⟨w.heap.size,0,none⟩) n n)) (w.alloc (.cells cells T)):=by
 refine Dt (ks:=[]) h ((Hw _ _).alloc (An _) _) (fun t ht => .inr (hks t ht)) (fun _ b hb=>by simp only[Bi,HB,A4,Ay] at hb;omega) (fun X h1 _ => ?_);have hc':=(hc.mono (X':=X) (fun b hb=>(h1 b hb).imp id Aeo)).world (w':=w.alloc (.cells cells T)) (fun b _ hb=>WG _ _ _ hb);have hh:(w.alloc (.cells cells T)).heap[w.heap.size]?=some (.cells cells T (0,0)):=by show (w.heap.push _)[w.heap.size]?=_;simp
 have hs:=hc.2.1;refine .inr ⟨w.heap.size,n,rfl,An _,hl,h.below.size,⟨hc.1,cells,T,hh,by omega,fun i hi => ?_⟩,cells,T,hh,by omega⟩;exact⟨cells[i]'(by omega),by rw[Ch,DO],hc'.2.2 i (by omega) hi⟩
theorem TS{Y X:Nat->Prop}{B d:Nat}{tm:Array Value}{w:World}{v:Value}{k n:Nat}{cs:List AV}{ow:Bool}(h:FO Y X B w v k n cs)(hn:ow=false->∀ b,Bi v=some b->¬ X b)(hY:∀ b,Y b->b<B):Ko Y X B roots tm w d v (if ow then .own k n cs else .val (.sl n cs)):=by
 cases ow with
 | true=>exact h
 | false=>exact FO.frozen h (fun b hb => .inl hb) (hn rfl) hY
def Afj:Value->Nat
 | .slice _ _ c=>c
 | _=>0
theorem O2(h:Rel Y X0 roots w0 s a w){o:Option Opd}{o':Option Operand}{d n:Nat}(ho:Pe o' o=true)(hb:GD s d o=some n):(o=none/\o'=none/\n=d)\/∃ x,o=some x/\∃ k i,o'.map a.eval=some (.int k i)/\0<=i/\i.toNat=n:=by
 cases o with
 | none =>
  cases o' with
  | none=>simp only[GD,Ay] at hb;exact .inl ⟨rfl,rfl,hb.symm⟩
  | some y=>cases ho
 | some x =>
  cases o' with
  | none=>cases ho
  | some y =>
   simp only[Pe] at ho;simp only[GD] at hb;split at hb
   ·rename_i k i hi;split at hb
    ·rename_i h0;cases hb;have:=C5 h ho hi;generalize hv:a.eval y=v at this;cases this;exact .inr ⟨x,rfl,k,i,by simp[hv],h0,rfl⟩
    ·cases hb
   ·cases hb
theorem rB(h:Rel Y X0 roots w0 s a w){o:Option Opd}{o':Option Operand}{l hh:Nat}(ho:Pe o' o=true)(hb:GD s 0 o=some l)(hle:l<=hh):(o'.map a.eval=none/\l=0)\/∃ k i,o'.map a.eval=some (.int k i)/\0<=i/\i.toNat=l/\l<=hh:=by
 rcases O2 h ho hb with ⟨_,rfl,rfl⟩ | ⟨_,_,k,i,h1,h2,h3⟩
 ·exact .inl ⟨rfl,rfl⟩
 ·exact .inr ⟨k,i,h1,h2,h3,hle⟩
theorem Awq(h:Rel Y X0 roots w0 s a w){o:Option Opd}{o':Option Operand}{d m cap:Nat}(ho:Pe o' o=true)(hb:GD s d o=some m)(hd:d=cap)(hle:m<=cap):(o'.map a.eval=none/\m=cap)\/∃ k i,o'.map a.eval=some (.int k i)/\0<=i/\i.toNat=m/\m<=cap:=by
 rcases O2 h ho hb with ⟨_,rfl,rfl⟩ | ⟨_,_,k,i,h1,h2,h3⟩
 ·exact .inl ⟨rfl,hd⟩
 ·exact .inr ⟨k,i,h1,h2,h3,hle⟩
theorem A5c(h:Rel Y X0 roots w0 s a w){o:Option Opd}{o':Option Operand}{d m cap:Nat}(ho:Pe o' o=true)(hb:GD s d o=some m)(hle:m<=cap):(o'.map a.eval=none/\(if o.isSome then m else cap)=cap)\/∃ k i,o'.map a.eval=some (.int k i)/\0<=i/\i.toNat=(if o.isSome then m else cap)/\(if o.isSome then m else cap)<=cap:=by
 rcases O2 h ho hb with ⟨rfl,rfl,rfl⟩ | ⟨x,rfl,k,i,h1,h2,h3⟩
 ·exact .inl ⟨rfl,rfl⟩
 ·exact .inr ⟨k,i,h1,h2,h3,hle⟩
theorem Afk(h:Rel Y X0 roots w0 s a w){o om:Option Opd}{o' om':Option Operand}{n hh mm:Nat}(ho:Pe o' o=true)(R7:Pe om' om=true)(hb:GD s n o=some hh)(hs:om.isSome->o.isSome)(h1:om.isSome=true->hh<=mm)(h2:¬ om.isSome=true->hh<=mm) :
  (o'.map a.eval=none/\om'.map a.eval=none/\hh=n)\/∃ k i,o'.map a.eval=some (.int k i)/\0<=i/\i.toNat=hh/\hh<=mm:=by
 rcases O2 h ho hb with ⟨rfl,rfl,rfl⟩ | ⟨x,rfl,k,i,g1,g2,g3⟩
 ·refine .inl ⟨rfl,?_,rfl⟩;cases om with
  | none=>cases om' with | none=>rfl | some y=>cases R7
  | some z=>have:=hs rfl;cases this
 ·refine .inr ⟨k,i,g1,g2,g3,?_⟩;by_cases hh:om.isSome=true
  ·exact h1 hh
  ·exact h2 hh
theorem P5(h:Rel Y X0 roots w0 s a w){w':World}(hw:Below w.heap.size w w'){d k n:Nat}{v:Value}{cs:List AV}{ow:Bool}{ks:List Nat}(hks:∀ t,(t,d)∈roots->t∈ks\/Fl (A2 s t)=false)
  (hown:FO Y (fun c=>(X0 c\/XS s a.tmps c)\/w.heap.size<=c) w.heap.size w' v k n cs) :
  Rel Y X0 roots w0 (DQ (BS s (ks.map fun u=>(u,Reg.dead))) (some d) (if ow then .own k n cs else .val (.sl n cs))) (a.put (some d) v) w':=by
 refine Dt h hw hks (fun _ b hb=>(FO.block hown hb).1) (fun X g1 g2 => ?_);have hown':FO Y X w0.heap.size w' v k n cs:=(hown.mono fun c hc => .inl ((g1 c hc).imp id Aeo)).lower h.below.size;refine TS hown' (fun he c hc hXc => ?_) h.lowY;subst he;have h1:=(FO.block hown hc).1;have:=h.lowX c (g2 rfl c hXc);omega
theorem LD(h:Rel Y X0 roots w0 s a w){d k:Nat}{ow:Bool}{ks:List Nat}(hks:∀ t,(t,d)∈roots->t∈ks\/Fl (A2 s t)=false) :
  Rel Y X0 roots w0 (DQ (BS s (ks.map fun u=>(u,Reg.dead))) (some d) (if ow then .own k 0 [] else .val (.sl 0 []))) (a.put (some d) (.slice none 0 0)) w :=
 P5 h (Hw _ _) hks (.inl ⟨rfl,rfl,rfl⟩)
set_option maxHeartbeats 4000000 in
theorem simK{o : Oper}{k : K}{oks : List Nat}{F : BA}{r : Reg}{l : List (Nat × Reg)}{K' : Act → World → Prop}(h : Rel Y X0 roots w0 s a w)(hF : KG P F)(hk : Gu P o.op k = true)(hkd : ∀ t ∈ oks, Fl (A2 s t) = false)(hro : EM roots oks o.dst k = true)
  (hev : B7 F s k = some (r, l)) (hK : ∀ a' w', Rel Y X0 roots w0 (DQ (BS s l) o.dst r) a' w' → K' a' w') : o.wp P a w K' Q := by
 cases k
 case bad => cases hev
 case mov y =>
  simp only[B7, Ah] at hev;obtain⟨x, hx, he⟩ := hev;cases he;simp only[Gu] at hk;split at hk
  ·rename_i z hop;exact Bx (v := a.eval z) (by simp[execOp, hop]) (hK _ _ (h.put (AF hkd hro) (C5 h hk hx)))
  ·rename_i z hop;exact Bx (v := a.eval z) (by simp[execOp, hop]) (hK _ _ (h.put (AF hkd hro) (C5 h hk hx)))
  ·cases hk
 case pick c x y =>
  simp only[Gu] at hk;split at hk
  ·rename_i c' x' y' hop;simp only[Ad] at hk;obtain⟨⟨h1, h2⟩, h3⟩ := hk;simp only[B7] at hev;split at hev
   ·rename_i hc;simp only[Ah] at hev;obtain⟨v, hv, he⟩ := hev;cases he;have hcr := C5 h h1 hc;generalize hcv : a.eval c' = cv at hcr;cases hcr;exact Bx (v := a.eval x') (by simp[execOp, hop, hcv, asBool]) (hK _ _ (h.put (AF hkd hro) (C5 h h2 hv)))
   ·rename_i hc;simp only[Ah] at hev;obtain⟨v, hv, he⟩ := hev;cases he;have hcr := C5 h h1 hc;generalize hcv : a.eval c' = cv at hcr;cases hcr;exact Bx (v := a.eval y') (by simp[execOp, hop, hcv, asBool]) (hK _ _ (h.put (AF hkd hro) (C5 h h3 hv)))
   ·cases hev
  ·cases hk
 case bin op x y =>
  simp only[Gu] at hk;split at hk
  ·rename_i op' t x' y' t' hop;simp only[Ad, beq_iff_eq] at hk;obtain⟨⟨rfl, h1⟩, h2⟩ := hk;simp only[B7] at hev;split at hev
   ·rename_i xa ya hx hy;simp only[Ah] at hev;obtain⟨z, hz, he⟩ := hev;cases he;have hxr := C5 h h1 hx;have hyr := C5 h h2 hy;generalize hxv : a.eval x' = xv at hxr;generalize hyv : a.eval y' = yv at hyr;cases xa <;> cases ya <;> simp only[L6] at hz <;> try cases hz
    cases hxr;cases hyr;obtain⟨v, hrun, hr⟩ := Afe (P := P) (w := w) (t := t) (Y := Y) (X := fun b => X0 b ∨ XS s a.tmps b) (by simpa only [L6] using hz);exact Bx (v := v) (by simp[execOp, hop, hxv, hyv, R6, hrun]) (hK _ _ (h.put (AF hkd hro) hr))
   ·cases hev
  ·cases hk
 case eqb neg x y =>
  simp only[Gu] at hk;split at hk
  ·rename_i op' t x' y' t' hop;simp only[Ad, beq_iff_eq] at hk;obtain⟨⟨⟨rfl, h0⟩, h1⟩, h2⟩ := hk;simp only[B7] at hev;split at hev
   ·rename_i xa ya hx hy;cases hev;have hxr := C5 h h1 hx;have hyr := C5 h h2 hy;generalize hxv : a.eval x' = xv at hxr;generalize hyv : a.eval y' = yv at hyr;cases hxr;cases hyr;have ht : P.underlying t = some .bool := by
     unfold ZT at h0;split at h0
     ·assumption
     ·cases h0
    have heq : (Op.equal t (.bool xa) (.bool ya)).run P w = .ok (xa == ya) w := run_equalIn_bool' w 9999 t xa ya ht;refine Bx (v := .bool (if neg then !(xa == ya) else xa == ya)) ?_ (hK _ _ (h.put (AF hkd hro) (.bool _)));cases neg
    ·simp only[Ca, if_false, execOp, hop, hxv, hyv, AH, KH, Aw, binOp, heq, Bc]
    ·simp only[if_true, execOp, hop, hxv, hyv, AH, KH, Aw, binOp, heq, Bc]
   ·cases hev
  ·cases hk
 case un op x =>
  simp only[Gu] at hk;split at hk
  ·rename_i op' t x' hop;simp only[Ad, beq_iff_eq] at hk;obtain⟨rfl, h1⟩ := hk;simp only[B7] at hev;split at hev
   ·rename_i xa hx;simp only[Ah] at hev;obtain⟨z, hz, he⟩ := hev;cases he;obtain⟨v, hrun, hr⟩ := Awn (P := P) (C5 h h1 hx) hz;exact Bx (v := v) (by simp[execOp, hop, hrun]) (hK _ _ (h.put (AF hkd hro) hr))
   ·cases hev
  ·cases hk
 case cv k x =>
  simp only[Gu] at hk;split at hk
  ·rename_i src dst x' hop;simp only[Ad] at hk;obtain⟨⟨h0, h1⟩, h2⟩ := hk;simp only[B7] at hev;split at hev
   ·rename_i k' n hx;cases hev;have hxr := C5 h h2 hx;generalize hxv : a.eval x' = xv at hxr;cases hxr;split at h1
    ·rename_i k'' hd;simp only[beq_iff_eq] at h1;subst h1;unfold qY at h0;split at h0
     ·rename_i ks hs;exact Bx (v := .int k'' (k''.wrap n)) (by simp[execOp, hop, hxv, convert, run_underlying hs, run_underlying hd, Conv.intToInt]) (hK _ _ (h.put (AF hkd hro) (.int _ _)))
     ·cases h0
    ·cases h1
   ·cases hev
  ·cases hk
 case new z ks =>
  simp only[Gu] at hk;split at hk
  ·rename_i t hop;cases hev;obtain⟨v, hz, hc⟩ := Mj hk;obtain⟨h1, h2⟩ := SM hro;simp only[FI];have hrun : (execOp a.eval o).run P w = .ok (.value (.pointer (some ⟨w.heap.size, 0, none⟩))) (w.alloc (.cells v.cells t)) := by
    simp[execOp, hop, Instr.alloc, hz, newVar, newRow]
   rw[hrun];exact hK _ _ (Ny h h2 h1 (hc _ _ _))
  ·cases hk
 case box x ks =>
  simp only[Gu] at hk;split at hk
  ·rename_i t x' hop;obtain⟨h1, h2⟩ := SM hro;have hrun : (execOp a.eval o).run P w = .ok (.value (.pointer (some ⟨w.heap.size, 0, none⟩))) (w.alloc (.cells (a.eval x').cells t)) := by
    simp[execOp, hop, Instr.box, newVar, newRow]
   simp only[FI, hrun];simp only[B7] at hev;split at hev
   ·rename_i cs hx;cases hev;have hc := (Mh (n := cs.length) (ys := cs) (C5 h hk hx) (by simp[Gf])).2;exact hK _ _ (Ny h h2 h1 hc)
   ·rename_i y hy hx;split at hev
    ·rename_i hd;cases hev;have hc := (Mh (n := 1) (ys := [y]) (C5 h hk hx) (by cases y <;> first | rfl | cases hd)).2
     exact hK _ _ (Ny h h2 h1 hc)
    ·cases hev
   ·cases hev
  ·cases hk
 case bld z ps =>
  simp only[Gu] at hk;split at hk
  ·rename_i t parts hop;simp only[B7, Ah] at hev;obtain⟨cs, hcs, he⟩ := hev;cases he;simp only[Afc, Ad] at hk;obtain⟨hz, hk⟩ := hk;obtain⟨v, hzv, hc⟩ := Mj hz;split at hk
   ·rename_i fs hfs;simp only[Ad] at hk;obtain⟨hall, hp⟩ := hk;have hplaces : (fs.mapM fun f => do pure (f.offset, ← sizeOf f.type) : Sem (Array (Nat × Nat))).run P w = .ok (fs.map fun f => (f.offset, P.cellsOf f.type)) w := by
     have key : ∀ (l : List Field), (∀ f ∈ l, (P.info? f.type).isSome = true) → (l.mapM fun f => do pure (f.offset, ← sizeOf f.type) : Sem (List (Nat × Nat))).run P w = .ok (l.map fun f => (f.offset, P.cellsOf f.type)) w := by
      intro l;induction l with
      | nil => intro _; rfl
      | cons f l ih =>
       intro hl;obtain⟨i, hi⟩ := A_.1 (hl f (AZ ..));have hsz : (sizeOf f.type).run P w = .ok (P.cellsOf f.type) w := by simp[sizeOf, typeInfo, program, Fm, hi, JD]
       simp only[Ln, AH, hsz, Aw, Bc, ih (fun g hg => hl g (AS _ hg)), Cw]
     have := key fs.toList (fun f hf => by simp only[iQ] at hall; exact hall f (by simpa using hf));rw[R4];simp only[A6d, this, Aw];congr 1;apply Array.ext';simp
    obtain⟨cells', e1, e2⟩ := Nz h (place := fun i => (fs.map fun f => (f.offset, P.cellsOf f.type))[i]?) (pl := Kp P fs) (fun i off n hi => by
     unfold Kp at hi;split at hi
     ·rename_i f hf;simp only[Ad, beq_iff_eq] at hi;obtain⟨rfl, hsz⟩ := hi;unfold II at hsz;split at hsz
      ·rename_i ii hii;simp only[beq_iff_eq] at hsz;simp[hf, JD, hii, hsz]
      ·cases hsz
     ·cases hi) hp (hc _ _ w) hcs
    have e1' : Kl (fun i => (fs.map fun f => (f.offset, P.cellsOf f.type))[i]?) v.cells (parts.map fun p => (p.1, a.eval p.2)).toList = some cells' := by rw[Fx]; exact e1
    refine Bx (v := .agg cells') ?_ (hK _ _ (h.put (AF hkd hro) (.agg cells' cs e2.1 e2.2.1 e2.2.2)));simp only[execOp, hop, Ui, AH, hzv, Aw, run_underlying hfs, hplaces, e1', Bc]
   ·rename_i ln e hfs;simp only[Ad] at hk;obtain⟨hall, hp⟩ := hk;obtain⟨ii, hii⟩ := A_.1 hall;have hsz : (sizeOf e).run P w = .ok (P.cellsOf e) w := by simp[sizeOf, typeInfo, program, Fm, hii, JD]
    obtain⟨cells', e1, e2⟩ := Nz h (place := fun i => some (i * P.cellsOf e, P.cellsOf e)) (fun i off n hi => by
     simp only[Ad, beq_iff_eq] at hi;rw[hi.1, hi.2]) hp (hc _ _ w) hcs
    have e1' : Kl (fun i => some (i * P.cellsOf e, P.cellsOf e)) v.cells (parts.map fun p => (p.1, a.eval p.2)).toList = some cells' := by rw[Fx]; exact e1
    refine Bx (v := .agg cells') ?_ (hK _ _ (h.put (AF hkd hro) (.agg cells' cs e2.1 e2.2.1 e2.2.2)));simp only[execOp, hop, Ui, AH, hzv, Aw, run_underlying hfs, hsz, e1', Bc]
   ·cases hk
  ·cases hk
 case bls n z ps =>
  simp only[Gu] at hk;split at hk
  ·rename_i t len parts hop;simp only[B7, Ah] at hev;obtain⟨cs, hcs, he⟩ := hev;cases he;simp only[YF, Ad, beq_iff_eq] at hk;obtain⟨rfl, hk⟩ := hk;split at hk
   ·rename_i e hu;split at hk
    ·rename_i ii hii;simp only[Ad, decide_eq_true_eq] at hk;obtain⟨⟨⟨h1, h2⟩, h3⟩, hp⟩ := hk;split at h3
     ·rename_i zv hzv;simp only[Ad, decide_eq_true_eq, beq_iff_eq] at h3;obtain⟨⟨h3, h4⟩, h5⟩ := h3;have hz0 : 0 < zv.cells.toList.length := by simp only[CA]; omega
      have hzl : zv.cells.toList.length = ii.size := by simp only[CA]; exact h3
      obtain⟨hd, hg⟩ := Mm (Y := Y) (X := fun b => X0 b ∨ XS s a.tmps b) (w := w) hz0 len z h5 (by rw[h4, hzl]);have hszr : (sizeOf e).run P w = .ok ii.size w := by simp[sizeOf, typeInfo, program, Fm, hii]
      have hzr : (zeroValue e).run P w = .ok zv w := by simp[zeroValue, typeInfo, program, Fm, hii, hzv]
      have hc0 : Du Y (fun b => X0 b ∨ XS s a.tmps b) w ((Hj (len * ii.size)).map fun j => zv.cells[j % zv.cells.size]!) z := by
       refine⟨hd, by simp[h4], fun i g1 g2 => ?_⟩;obtain⟨u, hu1, hu2⟩ := hg i g2;have e1 : zv.cells[i % zv.cells.size]! = u := by
        have : zv.cells[i % zv.cells.size]? = some u := by simpa using hu1
        simp[getElem!_def, this]
       simp only[rC, iN, e1];exact hu2
      obtain⟨cells', e1, e2⟩ := Nz h (place := fun i => some (i * ii.size, ii.size)) (fun i off n hi => by
       simp only[Ad, beq_iff_eq] at hi;rw[hi.1, hi.2]) hp hc0 hcs
      have e1' : Kl (fun i => some (i * ii.size, ii.size)) ((Hj (len * ii.size)).map fun j => zv.cells[j % zv.cells.size]!) (parts.map fun p => (p.1, a.eval p.2)).toList = some cells' := by rw[Fx]; exact e1
      have e3 : len * ii.size = 0 → (Hj (len * ii.size)).map (fun j => (#[] : Array Value)[j % (#[] : Array Value).size]!) = (Hj (len * ii.size)).map fun j => zv.cells[j % zv.cells.size]! := fun hh => by rw[hh]; simp
      have hl1 : ¬ len * ii.size > 2 ^ 24 := by omega
      simp only[EM, Ad] at hro;obtain⟨d, hdst⟩ := A_.1 hro.2;have hrun : (execOp a.eval o).run P w = .ok (.value (.slice (some ⟨w.heap.size, 0, none⟩) len len)) (w.alloc (.cells cells' e)) := by
       by_cases hl0 : len * ii.size = 0
       ·simp only[execOp, hop, Lr, AH, run_underlying hu, Aw, hszr, hl1, if_false, if_pos hl0, Bc, e3 hl0, e1', newRow, run_newObj_alloc]
       ·simp only[execOp, hop, Lr, AH, run_underlying hu, Aw, hszr, hl1, if_false, hl0, Bc, hzr, e1', newRow, run_newObj_alloc]
      simp only[FI, hrun];refine hK _ _ ?_;rw[hdst];refine Dt (ks := []) h ((Hw _ _).alloc (An _) _) (fun u hu => .inr (AF hkd hro.1 d hdst u hu)) (fun he => (by cases he)) (fun X g1 g2 => ?_);have hc' := (e2.mono (X' := X) (fun b hb => (g1 b hb).imp id Aeo)).world (w' := w.alloc (.cells cells' e)) (fun b _ hb => WG _ _ _ hb);refine .sl w.heap.size 0 len len cs (fun i => cells'.getD i Bw) hc'.1 (An _) (fun _ hx => ?_) (fun _ hy => A2d _ (h.lowYw _ hy)) (fun i hi => ?_) (fun i hi => ?_)
      ·exact A2d _ (h.lowX _ (g2 rfl _ hx))
      ·have hi2 : i < cells'.size := by rw[hc'.2.1]; exact hi
       have hb : (w.alloc (.cells cells' e)).heap[w.heap.size]? = some (.cells cells' e) := by show (w.heap.push _)[w.heap.size]? = _; simp
       rw[N2 hb];simp[hi2]
      ·have hi2 : i < cells'.size := by rw[hc'.2.1]; exact hi
       have := hc'.2.2 i hi2 hi;simpa [hi2] using this
     ·cases h3
    ·cases hk
   ·cases hk
  ·cases hk
 case adr x d off =>
  simp only[Gu] at hk;split at hk
  ·rename_i t x' fi hop;simp only[Ad] at hk;obtain⟨h1, hk⟩ := hk;split at hk
   ·rename_i fs hfs;split at hk
    ·rename_i f hf;simp only[Ad, beq_iff_eq, Em] at hk;obtain⟨⟨rfl, h2⟩, h3⟩ := hk;simp only[EM, Ad] at hro;obtain⟨ii, hii⟩ := A_.1 h3;have hsz : ∀ w, (sizeOf f.type).run P w = .ok ii.size w := fun w => by simp[sizeOf, typeInfo, program, Fm, hii]
     have hne : ¬ ii.size = 0 := by
      intro e0;simp[II, hii, e0] at h2
     have hx' : a.eval x' = a.tmps.getD x Bw := by
      cases x' <;> simp only[BX] at h1 <;> try cases h1
      simp only[beq_iff_eq] at h1;subst h1;rfl
     have hrun : ∀ b o0, a.eval x' = .pointer (some ⟨b, o0, none⟩) → (execOp a.eval o).run P w = .ok (.value (.pointer (some ⟨b, o0 + f.offset, none⟩))) w := by
      intro b o0 he;simp only[execOp, hop, Instr.fieldAt, AH, run_underlying hfs, Aw, hf, he, JF, Bc, fieldPlace, hsz, hne, if_false, GZ]
     have h0 := h.reg x;simp only[B7] at hev;cases hr : A2 s x with
     | box cs =>
      rw[hr] at h0 hev;dsimp only at hev;split at hev
      ·rename_i hxd;subst hxd;cases hev;obtain⟨b, e1, _, _⟩ := h0;have := hrun b 0 (by rw[hx', e1]);refine Bx this (hK _ _ ?_);exact Nw (p := ⟨b, 0, none⟩) h (AF hkd hro.1) (KI hro.2) (by rw[e1]; rfl) rfl
      ·cases hev
     | ptr d' o0 =>
      rw[hr] at h0 hev;dsimp only at hev;split at hev
      ·rename_i hxd;subst hxd;cases hev;obtain⟨_, p, e1, e2, e3⟩ := h0;have := hrun p.block (p.off + o0) (by rw[hx', e3]);refine Bx this (hK _ _ ?_);have hp := Nw (off := o0 + f.offset) h (AF hkd hro.1) (KI hro.2) e1 e2;rw[← D6] at hp;exact hp
      ·cases hev
     | mem cs =>
      rw[hr] at h0 hev;cases hev;obtain⟨b, o0, e1, e2, e3⟩ := h0;have := hrun b o0 (by rw[hx', e1]);refine Bx this (hK _ _ ?_);refine Nv h (AF hkd hro.1) (fun hne => e2 (fun hn => hne (by rw[hn]; simp))) (e3.drop _)
     | val x => rw[hr] at hev; cases hev
     | own _ _ _ => rw[hr] at hev; cases hev
     | agn _ _ _ _ => rw[hr] at hev; cases hev
     | bxl _ => rw[hr] at hev; cases hev
     | dup d => rw[hr] at hev; cases hev
     | sub _ _ _ _ => rw[hr] at hev; cases hev
     | dead => rw[hr] at hev; cases hev
    ·cases hk
   ·cases hk
  ·cases hk
 case ld x d n one =>
  simp only[Gu] at hk;split at hk
  ·rename_i t x' hop;simp only[Ad] at hk;obtain⟨h1, h2⟩ := hk;have hx' : a.eval x' = a.tmps.getD x Bw := by
    cases x' <;> simp only[BX] at h1 <;> try cases h1
    simp only[beq_iff_eq] at h1;subst h1;rfl
   have h0 := h.reg x;have fin : ∀ (b base off : Nat) (cs : List AV) (y : AV), a.eval x' = .pointer (some ⟨b, base + off, none⟩) → Gg Y (fun b => X0 b ∨ XS s a.tmps b) w b base cs → Bm cs off n one = some y →
     (∀ a' w', Rel Y X0 roots w0 (DQ s o.dst (.val y)) a' w' → K' a' w') → o.wp P a w K' Q := by
    intro b base off cs y he hm ht hK';obtain⟨v, hrun, hr⟩ := ZS (P := P) h2 hm ht;refine Bx (v := v) ?_ (hK' _ _ (h.put (AF hkd hro) hr));simp only[execOp, hop, Instr.loadAt, he, JF, AH, Bc, Aw, hrun]
   simp only[B7] at hev;cases hr : A2 s x with
   | box cs =>
    rw[hr] at h0 hev;dsimp only at hev;split at hev
    ·simp only[Ah] at hev;obtain⟨y, hy, he⟩ := hev;cases he;obtain⟨b, e1, _, e3⟩ := h0;exact fin b 0 0 cs y (by rw[hx', e1]) e3.mem hy hK
    ·cases hev
   | ptr d' off =>
    rw[hr] at h0 hev;dsimp only at hev;split at hev
    ·rename_i hd;subst hd;have h3 := h.reg d';cases hr2 : A2 s d' with
     | box cs =>
      rw[hr2] at h3 hev;simp only[Ah] at hev;obtain⟨y, hy, he⟩ := hev;cases he;obtain⟨b, e1, _, e3⟩ := h3;obtain⟨_, p, g1, g2, g3⟩ := h0;rw[e1] at g1;cases g1;exact fin b 0 off cs y (by rw[hx', g3]) e3.mem hy hK
     | val x => rw[hr2] at hev; cases hev
     | ptr _ _ => rw[hr2] at hev; cases hev
     | mem _ => rw[hr2] at hev; cases hev
     | own k n cs =>
      rw[hr2] at h3 hev;simp only[Ah] at hev;obtain⟨y, hy, he⟩ := hev;cases he;obtain⟨_, p, g1, g2, g3⟩ := h0;rcases h3 with ⟨e1, _⟩ | ⟨b, cap, e1, _, _, _, e3, _⟩
      ·rw[e1] at g1; cases g1
      ·rw[e1] at g1;cases g1;exact fin b 0 off cs y (by rw[hx', g3]) e3.mem hy hK
     | agn _ _ _ _ => rw[hr2] at hev; cases hev
     | bxl _ => rw[hr2] at hev; cases hev
     | dup d => rw[hr2] at hev; cases hev
     | sub _ _ _ _ => rw[hr2] at hev; cases hev
     | dead => rw[hr2] at hev; cases hev
    ·cases hev
   | mem cs =>
    rw[hr] at h0 hev;simp only[Ah] at hev;obtain⟨y, hy, he⟩ := hev;cases he;obtain⟨b, off, e1, _, e3⟩ := h0;exact fin b off 0 cs y (by simp[hx', e1]) e3 hy hK
   | val x => rw[hr] at hev; cases hev
   | own _ _ _ => rw[hr] at hev; cases hev
   | agn _ _ _ _ => rw[hr] at hev; cases hev
   | bxl _ => rw[hr] at hev; cases hev
   | dup d => rw[hr] at hev; cases hev
   | sub _ _ _ _ => rw[hr] at hev; cases hev
   | dead => rw[hr] at hev; cases hev
  ·cases hk
 case st x d n v =>
  simp only[Gu] at hk;split at hk
  ·rename_i t x' v' hop;simp only[Ad] at hk;obtain⟨⟨h1, h2⟩, h3⟩ := hk;have hx' : a.eval x' = a.tmps.getD x Bw := by
    cases x' <;> simp only[BX] at h1 <;> try cases h1
    simp only[beq_iff_eq] at h1;subst h1;rfl
   have hdst : o.dst = none := by simpa [EM] using hro
   have h0 := h.reg x;simp only[B7] at hev;split at hev
   ·cases hev
   ·rename_i va hva;split at hev
    ·cases hev
    ·rename_i ys hys;obtain⟨hn, hc⟩ := Mh (C5 h h3 hva) hys;have fin : ∀ (b off : Nat) (cs cs' : List AV), A2 s d = .box cs → a.tmps.getD d Bw = .pointer (some ⟨b, 0, none⟩) → a.eval x' = .pointer (some ⟨b, off, none⟩) → Cu cs off ys = some cs' →
       (∀ a' w', Rel Y X0 roots w0 (s.set d (.box cs')) a' w' → K' a' w') → o.wp P a w K' Q := by
      intro b off cs cs' hrd hvd he hl hK';have h4 := h.reg d;rw[hrd] at h4;obtain⟨b', e1, hB, e3⟩ := h4;rw[hvd] at e1;cases e1;have hX : (fun b => X0 b ∨ XS s a.tmps b) b := .inr ⟨d, by rw[hrd]; rfl, by rw[hvd]; rfl⟩;obtain⟨w', hrun, g1, g2, g3, g4, g5, g6, g7⟩ := Xv (P := P) (JM h2) e3 hX hc hn hl;have hrun' : (execOp a.eval o).run P w = .ok .skip w' := by
       simp only[execOp, hop, WB, he, JF, AH, Bc, Aw, hrun]
      simp only[FI, hrun', Fw];rw[hdst];refine hK' _ _ (Rel.store h hrd rfl rfl (by rw[hvd]; rfl) hB g1 g2 g3 g4 g5 (fun X hX => ?_));exact⟨b, hvd, hB, g6.mono fun c hc => .inl ((hX c).1 hc)⟩
     have finO : ∀ (b off k m : Nat) (cs cs' : List AV), A2 s d = .own k m cs → Bi (a.tmps.getD d Bw) = some b → a.eval x' = .pointer (some ⟨b, off, none⟩) → Cu cs off ys = some cs' →
       (∀ a' w', Rel Y X0 roots w0 (s.set d (.own k m cs')) a' w' → K' a' w') → o.wp P a w K' Q := by
      intro b off k m cs cs' hrd hvd he hl hK';obtain⟨b', cap, e1, e2, e3, e4, e5, e6, hXb⟩ := (h.ownLow hrd).resolve_left (fun hh => by rw[hh.1] at hvd; cases hvd);have hbb : b' = b := by rw[e1] at hvd; simpa [Bi, HB] using hvd
      subst hbb;obtain⟨w', hrun, g1, g2, g3, g4, g5, g6, g7⟩ := Xv (P := P) (JM h2) e5 (.inr hXb) hc hn hl;have hrun' : (execOp a.eval o).run P w = .ok .skip w' := by
       simp only[execOp, hop, WB, he, JF, AH, Bc, Aw, hrun]
      simp only[FI, hrun', Fw];rw[hdst];refine hK' _ _ (Rel.store h hrd rfl rfl hvd e4 g1 g2 g3 g4 g5 (fun X hX => ?_));refine .inr ⟨b', cap, e1, e2, by rw[(L9 hl).2.1]; exact e3, e4, g6.mono fun c hc => .inl ((hX c).1 hc), g7 _ e6⟩
     rw[hdst] at hK;cases hr : A2 s x with
     | box cs =>
      rw[hr] at h0 hev;dsimp only at hev;split at hev
      ·rename_i hxd;subst hxd;simp only[Ah] at hev;obtain⟨cs', hl, he⟩ := hev;cases he;obtain⟨b, e1, _, _⟩ := h0;exact fin b 0 cs cs' hr e1 (by rw[hx', e1]) hl hK
      ·cases hev
     | ptr d' off =>
      rw[hr] at h0 hev;dsimp only at hev;split at hev
      ·rename_i hd;subst hd;have h5 := h.reg d';cases hr2 : A2 s d' with
       | box cs =>
        rw[hr2] at h5 hev;simp only[Ah] at hev;obtain⟨cs', hl, he⟩ := hev;cases he;obtain⟨b, e1, _, e3⟩ := h5;obtain⟨_, p, g1, g2, g3⟩ := h0;rw[e1] at g1;cases g1;exact fin b off cs cs' hr2 e1 (by rw[hx', g3]; simp) hl hK
       | val x => rw[hr2] at hev; cases hev
       | ptr _ _ => rw[hr2] at hev; cases hev
       | mem _ => rw[hr2] at hev; cases hev
       | own k m cs =>
        rw[hr2] at h5 hev;simp only[Ah] at hev;obtain⟨cs', hl, he⟩ := hev;cases he;obtain⟨_, p, g1, g2, g3⟩ := h0;rcases h5 with ⟨e1, _⟩ | ⟨b, cap, e1, _, _, _, e3, _⟩
        ·rw[e1] at g1; cases g1
        ·rw[e1] at g1;cases g1;exact finO b off k m cs cs' hr2 (by rw[e1]; rfl) (by rw[hx', g3]; simp) hl hK
       | agn _ _ _ _ => rw[hr2] at hev; cases hev
       | bxl _ => rw[hr2] at hev; cases hev
       | dup d => rw[hr2] at hev; cases hev
       | sub _ _ _ _ => rw[hr2] at hev; cases hev
       | dead => rw[hr2] at hev; cases hev
      ·cases hev
     | val x => rw[hr] at hev; cases hev
     | mem _ => rw[hr] at hev; cases hev
     | own _ _ _ => rw[hr] at hev; cases hev
     | agn _ _ _ _ => rw[hr] at hev; cases hev
     | bxl _ => rw[hr] at hev; cases hev
     | dup d => rw[hr] at hev; cases hev
     | sub _ _ _ _ => rw[hr] at hev; cases hev
     | dead => rw[hr] at hev; cases hev
  ·cases hk
 case fld x off n one =>
  simp only[Gu] at hk;split at hk
  ·rename_i t x' fi hop;simp only[Ad] at hk;obtain⟨h1, hk⟩ := hk;split at hk
   ·rename_i fs hfs;split at hk
    ·rename_i f hf;simp only[Ad, beq_iff_eq] at hk;obtain⟨rfl, h2⟩ := hk;simp only[B7] at hev;split at hev
     ·rename_i cs hx;simp only[Ah] at hev;obtain⟨y, hy, he⟩ := hev;cases he;have hxr := C5 h h1 hx;generalize hxv : a.eval x' = xv at hxr;cases hxr with
      | agg vs _ hd hs hr =>
       obtain⟨v, hrun, hr⟩ := Afi (P := P) h2 ⟨hd, hs, hr⟩ hy;refine Bx (v := v) ?_ (hK _ _ (h.put (AF hkd hro) hr));simp only[execOp, hop, tF, AH, run_underlying hfs, Aw, hf, hxv, asAgg, Bc, hrun]
     ·cases hev
    ·cases hk
   ·cases hk
  ·cases hk
 case ixa x i k =>
  simp only[Gu] at hk;split at hk
  ·rename_i t x' i' hop;simp only[Ad] at hk;obtain⟨⟨h1, h2⟩, hk⟩ := hk;split at hk
   ·rename_i e hu;simp only[B7] at hev;split at hev
    ·rename_i ki iv hi;have hir := C5 h h2 hi;generalize hiv : a.eval i' = ivv at hir;cases hir;have hx' : a.eval x' = a.tmps.getD x Bw := by
      cases x' <;> simp only[BX] at h1 <;> try cases h1
      simp only[beq_iff_eq] at h1;subst h1;rfl
     have h0 := h.reg x;split at hev
     ·rename_i n cs hr;rw[hr] at h0;split at hev
      ·rename_i hb;cases hev;rw[← hx'] at h0;generalize hxv : a.eval x' = xv at h0;cases h0 with
       | nil0 => exact absurd hb (by omega)
       | e0 _ _ => exact absurd hb (by omega)
       | sl b off _ cap _ f hd hn hX hY hcell hrr =>
        have hmem : Gg Y (fun b => X0 b ∨ XS s a.tmps b) w b off cs := ⟨hd, fun j hj => ⟨f j, hcell j hj, hrr j hj⟩⟩;refine Bx (v := .pointer (some ⟨b, off + iv.toNat * k, none⟩)) ?_ (hK _ _ ?_)
        ·simp only[execOp, hop, WC, AH, hiv, asIntOf, Bc, Aw, run_underlying hu, hxv, hb, and_self, if_true, JM hk, GZ]
        ·refine Nv h (AF hkd hro) (fun hne => hX (fun hn => hne (by rw[hn]; simp))) (hmem.drop _)
      ·cases hev
     ·cases hev
    ·cases hev
   ·cases hk
  ·cases hk
 case six x i =>
  simp only[Gu] at hk;split at hk
  ·rename_i t x' i' hop;simp only[Ad] at hk;obtain⟨⟨h1, h2⟩, hk⟩ := hk;split at hk
   ·rename_i hu;simp only[B7] at hev;split at hev
    ·rename_i bs ki iv hx hi;simp only[Ah] at hev;obtain⟨c, hc, he⟩ := hev;cases he;have hir := C5 h h2 hi;generalize hiv : a.eval i' = ivv at hir;cases hir;have hxr := C5 h h1 hx;generalize hxv : a.eval x' = xv at hxr;cases hxr;refine Bx (v := .int .u8 c.toNat) ?_ (hK _ _ (h.put (AF hkd hro) (.int _ _)));simp only[execOp, hop, Instr.index, AH, hiv, asIntOf, Bc, Aw, run_underlying hu, hxv, hc]
    ·cases hev
   ·cases hk
  ·cases hk
 case ext x i =>
  simp only[Gu] at hk;split at hk
  ·rename_i x' i' hop;simp only[Ad, beq_iff_eq] at hk;obtain⟨h1, rfl⟩ := hk;simp only[B7] at hev;split at hev
   ·rename_i vs hx;simp only[Ah] at hev;obtain⟨y, hy, he⟩ := hev;cases he;have hxr := C5 h h1 hx;generalize hxv : a.eval x' = xv at hxr;cases hxr with
    | tup us _ hs hr =>
     obtain⟨hlt, hyy⟩ := Hm.1 hy;have hlt2 : i' < us.size := by omega
     refine Bx (v := us[i']) ?_ (hK _ _ (h.put (AF hkd hro) (hyy ▸ hr i' hlt2 hlt)));simp only[execOp, hop, Avx, hxv, DO hlt2, AH, Bc, Aw]
   ·cases hev
  ·cases hk
 case len x =>
  simp only[Gu] at hk;split at hk
  ·rename_i args ts hop;unfold YG at hk;split at hk
   ·rename_i x' t hargs hts;simp only[Ad] at hk;obtain⟨h1, h2⟩ := hk;have e1 : args = #[x'] := by rw[← Ff (xs := args), hargs]
    have e2 : ts = #[t] := by rw[← Ff (xs := ts), hts]
    subst e1 e2;split at h2
    ·rename_i e hu;simp only[B7] at hev;have fin : ∀ (base : Option Addr) (n c : Nat), a.eval x' = .slice base n c → (∀ a' w', Rel Y X0 roots w0 (DQ s o.dst (.val (.int .i64 n))) a' w' → K' a' w') → o.wp P a w K' Q := by
      intro base n c he hK';refine Bx (v := .int .i64 n) ?_ (hK' _ _ (h.put (AF hkd hro) (.int _ _)));simp[execOp, hop, resolve, invoke, builtin, Afl, he, run_underlying hu, goInt]
     split at hev
     ·rename_i hx;cases hev;have hxr := C5 h h1 hx;generalize hxv : a.eval x' = xv at hxr;cases hxr;exact fin _ _ _ hxv hK
     ·rename_i n cs hx;cases hev;have hxr := C5 h h1 hx;generalize hxv : a.eval x' = xv at hxr;cases hxr <;> exact fin _ _ _ hxv hK
     ·cases hev
    ·cases h2
   ·cases hk
  ·cases hk
 case mx xs =>
  simp only[Gu] at hk;split at hk
  ·rename_i args ts hop;simp only[B7] at hev;split at hev
   ·rename_i k n l hx;simp only[Ah] at hev;obtain⟨m, hm, he⟩ := hev;cases he;obtain⟨e1, e2⟩ := LC h hk hx;cases hal : args.toList with
    | nil => rw[hal] at e1; simp at e1
    | cons x0 rest =>
     have e1' : rest.length = l.length := by rw[hal] at e1; simpa using e1
     have h0 := e2 0 (by rw[hal]; simp) (by simp);simp only[hal, F8] at h0;generalize hxv : a.eval x0 = xv at h0;cases h0;have hfold := ZV (P := P) (Y := Y) (X := fun b => X0 b ∨ XS s a.tmps b) (w := w) (vs := rest.map a.eval) (l := l) (by simpa using e1') (fun i g1 g2 => by
      have := e2 (i + 1) (by rw[hal]; simp at g1 ⊢; omega) (by simp; omega);simpa [hal] using this) hm
     refine Bx (v := .int k m) ?_ (hK _ _ (h.put (AF hkd hro) (.int _ _)));have hmap : (args.map a.eval).toList = .int k n :: rest.map a.eval := by rw[Fx, hal, Cw, hxv]
     simp only[execOp, hop, resolve, invoke, builtin, Builtin.max_, AH, Bc, Aw, hmap, hfold]
   ·cases hev
  ·cases hk
 case mn xs =>
  simp only[Gu] at hk;split at hk
  ·rename_i args ts hop;simp only[B7] at hev;split at hev
   ·rename_i k n l hx;simp only[Ah] at hev;obtain⟨m, hm, he⟩ := hev;cases he;obtain⟨e1, e2⟩ := LC h hk hx;cases hal : args.toList with
    | nil => rw[hal] at e1; simp at e1
    | cons x0 rest =>
     have e1' : rest.length = l.length := by rw[hal] at e1; simpa using e1
     have h0 := e2 0 (by rw[hal]; simp) (by simp);simp only[hal, F8] at h0;generalize hxv : a.eval x0 = xv at h0;cases h0;have hfold := ZW (P := P) (Y := Y) (X := fun b => X0 b ∨ XS s a.tmps b) (w := w) (vs := rest.map a.eval) (l := l) (by simpa using e1') (fun i g1 g2 => by
      have := e2 (i + 1) (by rw[hal]; simp at g1 ⊢; omega) (by simp; omega);simpa [hal] using this) hm
     refine Bx (v := .int k m) ?_ (hK _ _ (h.put (AF hkd hro) (.int _ _)));have hmap : (args.map a.eval).toList = .int k n :: rest.map a.eval := by rw[Fx, hal, Cw, hxv]
     simp only[execOp, hop, resolve, invoke, builtin, Builtin.min_, AH, Bc, Aw, hmap, hfold]
   ·cases hev
  ·cases hk
 case call f xs =>
  simp only[Gu] at hk;split at hk
  ·rename_i f' args ts hop;simp only[Ad, beq_iff_eq] at hk;obtain⟨⟨rfl, h1⟩, h2⟩ := hk;simp only[B7] at hev;split at hev
   ·rename_i vs hx;simp only[Ah] at hev;obtain⟨y, hy, he⟩ := hev;cases he;obtain⟨e1, e2⟩ := LC h h1 hx;split at h2
    ·rename_i fn hfn;simp only[Ad, Em] at h2;obtain⟨hbody, hname⟩ := h2;have hbn : ¬ fn.body = none := by intro e0; rw[e0] at hbody; cases hbody
     have hnm : ¬ fn.name = "runtime.NumGoroutine" := by simpa using hname
     have hrun : (execOp a.eval o).run P w = .ok (.enter f' (args.map a.eval)) w := by
      simp[execOp, hop, resolve, K8, P6, invoke, callFunc, program, Fm, hfn, hnm, hbn]
     have hcall := hF f' vs y hy Y (fun b => X0 b ∨ XS s a.tmps b) w (args.map a.eval) h.lowX h.lowYw (by simpa using e1) (fun i g1 g2 => by
      have := e2 i (by simpa using g1) g2;simpa using this)
     simp only[FI, hrun, Fw];refine hcall.mono fun e w' ⟨v, he, hb, hr⟩ => ?_;subst he;refine hK _ _ ?_;cases hdst : o.dst with
     | none =>
      refine⟨h.dfr, h.size, h.below.trans (hb.mono h.below.size), h.low, h.lowY, fun t => ?_, h.inj⟩;exact Ko.world (h.reg t) hb
     | some d =>
      refine Dt (ks := []) h hb (fun u hu => .inr (AF hkd hro d hdst u hu)) (fun he => (by cases he)) (fun X _ g2 => ?_);exact (hr.thawed h.lowX h.lowYw).mono fun b hb => .inl (g2 rfl b hb)
    ·cases h2
   ·cases hev
  ·cases hk
 case clo f xs =>
  simp only[Gu] at hk;split at hk
  ·rename_i f' args ts hop;simp only[Ad, beq_iff_eq] at hk;obtain⟨⟨rfl, h1⟩, h2⟩ := hk;simp only[B7] at hev;split at hev
   ·rename_i vs hx;simp only[Ah] at hev;obtain⟨y, hy, he⟩ := hev;cases he;obtain⟨e1, e2⟩ := LC h h1 hx;split at h2
    ·rename_i fn hfn;simp only[Ad, Em] at h2;obtain⟨hbody, hname⟩ := h2;have hbn : ¬ fn.body = none := by intro e0; rw[e0] at hbody; cases hbody
     have hnm : ¬ fn.name = "runtime.NumGoroutine" := by simpa using hname
     have hrun : (execOp a.eval o).run P w = .ok (.enter f' (args.map a.eval)) w := by
      simp[execOp, hop, resolve, K8, P6, invoke, callFunc, program, Fm, hfn, hnm, hbn]
     have hcall := hF f' vs y hy Y (fun b => X0 b ∨ XS s a.tmps b) w (args.map a.eval) h.lowX h.lowYw (by simpa using e1) (fun i g1 g2 => by
      have := e2 i (by simpa using g1) g2;simpa using this)
     simp only[FI, hrun, Fw];refine hcall.mono fun e w' ⟨v, he, hb, hr⟩ => ?_;subst he;refine hK _ _ ?_;simp only[EM, Ad] at hro;obtain⟨d, hdst⟩ := A_.1 hro.2;rw[hdst];cases y
     case fresh k n cs =>
      simp only[Kr] at hr;refine Dt (ks := []) h hb (fun u hu => .inr (AF hkd hro.1 d hdst u hu)) (fun _ b hb => (FO.block hr hb).1) (fun X g1 _ => ?_);exact O1 h.below.size hr g1
     case frs bb k n cs =>
      simp only[Kr] at hr;refine Dt (ks := []) h hb (fun u hu => .inr (AF hkd hro.1 d hdst u hu)) (fun _ b hb => (Ju.block hr hb).1) (fun X g1 _ => ?_);obtain⟨u, rfl, hr⟩ := hr;rw[F1 _ hr] at g1;refine⟨u, rfl, O1 h.below.size ?_ g1⟩;rw[F1 _ hr] at hr;exact hr
     all_goals
      refine Dt (ks := []) h hb (fun u hu => .inr (AF hkd hro.1 d hdst u hu)) (fun he => (by cases he)) (fun X _ g2 => ?_);exact Rd.mono hr fun b hb => .inl (g2 rfl b hb)
    ·cases h2
   ·cases hev
  ·cases hk
 case brw f x d =>
  simp only[Gu] at hk;split at hk
  ·rename_i f' args ts hop;simp only[Ad, beq_iff_eq] at hk;obtain⟨⟨rfl, h1⟩, h2⟩ := hk;simp only[B7] at hev;split at hev
   ·rename_i d' hrx;split at hev
    ·rename_i hdd;subst hdd;split at hev
     ·rename_i k n cs hrd;split at hev
      ·rename_i hni;split at hev
       ·rename_i y hy;split at hev
        ·rename_i hio;cases hev;have hvx := h.reg x;rw[hrx] at hvx;have hev : a.tmps.getD x Bw = a.tmps.getD d' Bw := hvx.2;have hown := h.reg d';rw[hrd] at hown;have hXd : ∀ b, Bi (a.tmps.getD d' Bw) = some b → (X0 b ∨ XS s a.tmps b) := fun b hb => .inr ⟨d', by rw[hrd]; rfl, hb⟩;obtain⟨S, ho1, hox⟩ : ∃ S, args.toList = [S] ∧ BX S (.t x) = true := by
          cases hal : args.toList with
          | nil => rw[hal] at h1; cases h1
          | cons S l =>
           rw[hal] at h1;simp only[IH, Ad] at h1;cases l with
           | nil => exact⟨S, rfl, h1.1⟩
           | cons _ _ => cases h1.2
         have hoe : a.eval S = a.tmps.getD d' Bw := by
          cases S <;> first | (cases hox; done) | skip
          rename_i m;simp only[BX, beq_iff_eq] at hox;subst hox;rw[← hev]; rfl
         split at h2
         ·rename_i fn hfn;simp only[Ad, Em] at h2;obtain⟨hbody, hname⟩ := h2;have hbn : ¬ fn.body = none := by intro e0; rw[e0] at hbody; cases hbody
          have hnm : ¬ fn.name = "runtime.NumGoroutine" := by simpa using hname
          have hrun : (execOp a.eval o).run P w = .ok (.enter f' (args.map a.eval)) w := by
           simp[execOp, hop, resolve, K8, P6, invoke, callFunc, program, Fm, hfn, hnm, hbn]
          have hargs : args = #[S] := by
           apply tQ.1;rw[ho1]
          have hlent : Rd (fun c => Y c ∨ Bi (a.tmps.getD d' Bw) = some c) (fun c => (X0 c ∨ XS s a.tmps c) ∧ ¬ Bi (a.tmps.getD d' Bw) = some c) w (a.tmps.getD d' Bw) (.sl n cs) :=
           ZQ hown (fun b hb => hb.1) (fun b hb => hb.imp id (hXd b)) (fun b hb hx => hx.2 hb) hni
          have hcall := hF f' [.sl n cs] y hy (fun c => Y c ∨ Bi (a.tmps.getD d' Bw) = some c) (fun c => (X0 c ∨ XS s a.tmps c) ∧ ¬ Bi (a.tmps.getD d' Bw) = some c) w (args.map a.eval)
           (fun b hb => h.lowX b hb.1) (fun b hb => hb.elim (h.lowYw b) (fun hb => h.lowX b (hXd b hb))) (by rw[hargs]; simp) (fun i g1 g2 => by
            have hi : i = 0 := by simp at g2; exact g2
            subst hi;subst hargs;simp only[List.map_toArray, Cw, FK, YA, F8];rw[hoe];exact hlent)
          simp only[FI, hrun, Fw];refine hcall.mono fun e w' ⟨v, he, hb, hr⟩ => ?_;subst he;refine hK _ _ ?_;have hback : Rd Y (fun b => X0 b ∨ XS s a.tmps b) w' v (Kn y) := by
           refine (hr.thawed (fun b hb => h.lowX b hb.1) (fun b hb => hb.elim (h.lowYw b) (fun hb => h.lowX b (hXd b hb)))).back hio (fun b hb => ?_) (fun b hb => .inl hb);by_cases hq : Bi (a.tmps.getD d' Bw) = some b
           ·exact .inr (.inr hq)
           ·exact .inl ⟨hb, hq⟩
          cases hdst : o.dst with
          | none =>
           refine⟨h.dfr, h.size, h.below.trans (hb.mono h.below.size), h.low, h.lowY, fun t => ?_, h.inj⟩;exact Ko.world (h.reg t) hb
          | some d =>
           refine Dt (ks := []) h hb (fun u hu => .inr (AF hkd hro d hdst u hu)) (fun he => (by cases he)) (fun X _ g2 => ?_);exact hback.mono fun b hb => .inl (g2 rfl b hb)
         ·cases h2
        ·cases hev
       ·cases hev
      ·cases hev
     ·cases hev
    ·cases hev
   ·cases hev
  ·cases hk
 case cpy x =>
  have hx := N3 (a := a) (P := P) (w := w) hk;simp only[EM, Ad] at hro;simp only[B7] at hev;have h0 := h.reg x;split at hev
  ·rename_i v hr;cases hev;rw[hr] at h0;exact Bx hx (hK _ _ (h.put (AF hkd hro.1) h0))
  ·cases hev;exact Bx hx (hK _ _ (h.putDup (AF hkd hro.1) (KI hro.2)))
  ·cases hev
 case tra x =>
  have hx := N3 (a := a) (P := P) (w := w) hk;simp only[EM, Ad] at hro;simp only[B7] at hev;have h0 := h.reg x;split at hev
  ·rename_i v hr;cases hev;rw[hr] at h0;exact Bx hx (hK _ _ (h.put (AF hkd hro.1) h0))
  ·rename_i k n cs hr;cases hev;obtain⟨d, hdst⟩ := A_.1 hro.2;refine Bx hx (hK _ _ ?_);rw[hdst];rcases h.ownLow hr with ⟨e1, rfl, rfl⟩ | ⟨b, cap, e1, e2, e3, e4, e5, e6, hXb⟩
   ·rw[e1];exact LD (ow := true) (ks := [x]) h (fun u hu => .inr (AF hkd hro.1 d hdst u hu))
   refine Rel.shift h hr (b := b) (by rw[e1]; rfl) (fun u hu => AF hkd hro.1 d hdst u hu) rfl rfl rfl rfl (fun _ _ => rfl) (fun _ => by rw[e1]; rfl) (fun X g1 _ => ?_);exact .inr ⟨b, cap, e1, e2, e3, e4, e5.mono fun c hc => .inl (g1 c hc), e6⟩
  ·rename_i b k n cs hr;cases hev;obtain⟨d, hdst⟩ := A_.1 hro.2;rw[hr] at h0;refine Bx hx (hK _ _ ?_);rw[hdst];exact h.pass (by rw[hr]; rfl) rfl (fun u hu => AF hkd hro.1 d hdst u hu) (fun X g1 => Ju.mono h0 fun c hc => .inl (g1 c hc))
  ·cases hev
 case frz x =>
  have hx := N3 (a := a) (P := P) (w := w) hk;simp only[B7] at hev;have h0 := h.reg x;split at hev
  ·rename_i v hr;cases hev;rw[hr] at h0;exact Bx hx (hK _ _ (h.put (AF hkd hro) h0))
  ·rename_i k n cs hr;cases hev;have hf := h.freeze hr;have h1 := hf.reg x;have hlt : x < s.length := by
    rcases Ck x s.length with hlt | hge
    ·exact hlt
    ·simp only[A2, Z, AB hge] at hr; cases hr
   rw[Dn, if_pos ⟨rfl, hlt⟩] at h1;refine Bx hx (hK _ _ (hf.put (fun d hd t ht => ?_) h1));have hfree := AF hkd hro d hd t ht;rw[Dn];split
   ·rfl
   ·exact hfree
  ·cases hev
 case mks z n =>
  simp only[Gu] at hk;split at hk
  ·rename_i t l c hop;simp only[Ad] at hk;obtain⟨⟨⟨h1, h2⟩, h3⟩, h4⟩ := hk;simp only[EM, Ad] at hro;obtain⟨d, hdst⟩ := A_.1 hro.2;simp only[B7] at hev;split at hev
   ·rename_i kk m hn;split at hev
    ·rename_i hb;cases hev;have hl := C5 h h1 hn;have hc := C5 h h2 hn;generalize hlv : a.eval l = lv at hl;generalize hcv : a.eval c = cv at hc;cases hl;cases hc;obtain⟨e, cells, hrun, hcells⟩ := Afh (P := P) (Y := Y) (X := fun b => X0 b ∨ XS s a.tmps b) (w := w) (kl := kk) (kc := kk) h3 h4 hb.1 hb.2;have hrun' : (execOp a.eval o).run P w = .ok (.value (.slice (some ⟨w.heap.size, 0, none⟩) m.toNat m.toNat)) (w.alloc (.cells cells e)) := by
      simp only[execOp, hop, hlv, hcv, AH, hrun, Aw, Bc]
     simp only[FI, hrun', Fw];refine hK _ _ ?_;rw[hdst];exact ZZ h (fun u hu => AF hkd hro.1 d hdst u hu) hcells (Lq z m.toNat)
    ·cases hev
   ·cases hev
  ·cases hk
 case blo k n z ps =>
  simp only[Gu] at hk;split at hk
  ·rename_i t len parts hop;simp only[Ad] at hk;obtain⟨hk, hel⟩ := hk;simp only[B7, Ah] at hev;obtain⟨cs, hcs, he⟩ := hev;cases he;simp only[YF, Ad, beq_iff_eq] at hk;obtain⟨rfl, hk⟩ := hk;obtain⟨e', i', zv', hu', hi', hs', hk', _, _, _⟩ := Er hel;split at hk
   ·rename_i e hu;split at hk
    ·rename_i ii hii;obtain rfl : e = e' := by rw[hu] at hu'; cases hu'; rfl
     obtain rfl : ii = i' := by rw[hii] at hi'; cases hi'; rfl
     simp only[Ad, decide_eq_true_eq] at hk;obtain⟨⟨⟨h1, h2⟩, h3⟩, hp⟩ := hk;split at h3
     ·rename_i zv hzv;simp only[Ad, decide_eq_true_eq, beq_iff_eq] at h3;obtain⟨⟨h3, h4⟩, h5⟩ := h3;have hz0 : 0 < zv.cells.toList.length := by simp only[CA]; omega
      have hzl : zv.cells.toList.length = ii.size := by simp only[CA]; exact h3
      obtain⟨hd, hg⟩ := Mm (Y := Y) (X := fun b => X0 b ∨ XS s a.tmps b) (w := w) hz0 len z h5 (by rw[h4, hzl]);have hszr : (sizeOf e).run P w = .ok ii.size w := by simp[sizeOf, typeInfo, program, Fm, hii]
      have hzr : (zeroValue e).run P w = .ok zv w := by simp[zeroValue, typeInfo, program, Fm, hii, hzv]
      have hc0 : Du Y (fun b => X0 b ∨ XS s a.tmps b) w ((Hj (len * ii.size)).map fun j => zv.cells[j % zv.cells.size]!) z := by
       refine⟨hd, by simp[h4], fun i g1 g2 => ?_⟩;obtain⟨u, hu1, hu2⟩ := hg i g2;have e1 : zv.cells[i % zv.cells.size]! = u := by
        have : zv.cells[i % zv.cells.size]? = some u := by simpa using hu1
        simp[getElem!_def, this]
       simp only[rC, iN, e1];exact hu2
      obtain⟨cells', e1, e2⟩ := Nz h (place := fun i => some (i * ii.size, ii.size)) (fun i off n hi => by
       simp only[Ad, beq_iff_eq] at hi;rw[hi.1, hi.2]) hp hc0 hcs
      have e1' : Kl (fun i => some (i * ii.size, ii.size)) ((Hj (len * ii.size)).map fun j => zv.cells[j % zv.cells.size]!) (parts.map fun p => (p.1, a.eval p.2)).toList = some cells' := by rw[Fx]; exact e1
      have e3 : len * ii.size = 0 → (Hj (len * ii.size)).map (fun j => (#[] : Array Value)[j % (#[] : Array Value).size]!) = (Hj (len * ii.size)).map fun j => zv.cells[j % zv.cells.size]! := fun hh => by rw[hh]; simp
      have hl1 : ¬ len * ii.size > 2 ^ 24 := by omega
      simp only[EM, Ad] at hro;obtain⟨d, hdst⟩ := A_.1 hro.2;have hrun : (execOp a.eval o).run P w = .ok (.value (.slice (some ⟨w.heap.size, 0, none⟩) len len)) (w.alloc (.cells cells' e)) := by
       by_cases hl0 : len * ii.size = 0
       ·simp only[execOp, hop, Lr, AH, run_underlying hu, Aw, hszr, hl1, if_false, if_pos hl0, Bc, e3 hl0, e1', newRow, run_newObj_alloc]
       ·simp only[execOp, hop, Lr, AH, run_underlying hu, Aw, hszr, hl1, if_false, hl0, Bc, hzr, e1', newRow, run_newObj_alloc]
      simp only[FI, hrun, Fw];refine hK _ _ ?_;rw[hdst];refine ZZ h (fun u hu => AF hkd hro.1 d hdst u hu) e2 ?_;rw[Pg hcs, h4, hs']
     ·cases h3
    ·cases hk
   ·cases hk
  ·cases hk
 case apd ow x y k B =>
  simp only[Gu] at hk;split at hk
  ·rename_i args ts hop;unfold Afd at hk;split at hk
   ·rename_i x' y' t t' hargs hts;simp only[Ad] at hk;obtain⟨⟨⟨⟨h1, h2⟩, h3⟩, h4⟩, h5⟩ := hk;have e1 : args = #[x', y'] := by rw[← Ff (xs := args), hargs]
    have e2 : ts = #[t, t'] := by rw[← Ff (xs := ts), hts]
    subst e1 e2;simp only[EM, Ad] at hro;obtain⟨d, hdst⟩ := A_.1 hro.2;have hfr : ∀ u, (u, d) ∈ roots → Fl (A2 s u) = false := fun u hu => AF hkd hro.1 d hdst u hu;have hrunO : ∀ {v : Value} {w' : World}, (C4 #[t, t'] o.type #[a.eval x', a.eval y']).run P w = .ok v w' → (execOp a.eval o).run P w = .ok (.value v) w' := by
     intro v w' hh;simp[execOp, hop, resolve, invoke, builtin, hh]
    simp only[B7] at hev;split at hev
    ·-- nothing to append
     rename_i hy;have hyr := C5 h h2 hy;generalize hyv : a.eval y' = yv at hyr hrunO;cases hyr;split at hev
     ·rename_i hxr;cases hev;have hxx := C5 h h1 (rA hxr);generalize hxv : a.eval x' = xv at hxx hrunO;cases hxx;have hr := hrunO (append_nil (P := P) (w := w) (ty := o.type) h3 h4);exact Bx hr (hK _ _ (h.put (AF hkd hro.1) .nil))
     ·rename_i k' n cs hxr;obtain⟨nx, rfl⟩ := ZY hxr;simp only[Opd.reg] at hxr;split at hev
      ·rename_i hkk;subst hkk;cases hev;rcases h.ownLow hxr with ⟨e1, rfl, rfl⟩ | ⟨b, cap, e1, e2, e3, e4, e5, e6, hXb⟩
       ·have hxv : a.eval x' = .slice none 0 0 := by rw[E5 h1, e1]
        rw[hxv] at hrunO;have hr := hrunO (append_nil (P := P) (w := w) (ty := o.type) h3 h4);refine Bx hr (hK _ _ ?_);rw[hdst];exact LD (ks := [nx]) h (fun u hu => .inr (hfr u hu))
       have hxv : a.eval x' = .slice (some ⟨b, 0, none⟩) n cap := by rw[E5 h1, e1]
       rw[hxv] at hrunO;have hr := hrunO (Q5 (P := P) (w := w) (ty := o.type) h3 h4 e2);refine Bx hr (hK _ _ ?_);rw[hdst];refine Rel.shift h hxr (b := b) (by rw[e1]; rfl) hfr rfl rfl rfl rfl (fun _ _ => rfl) (fun _ => rfl) (fun X g1 g2 => ?_);exact TS (.inr ⟨b, cap, rfl, e2, e3, e4, e5.mono fun c hc => .inl (g1 c hc), e6⟩) (fun he => by subst he; exact fun c hc => by cases hc; exact g2 rfl) h.lowY
      ·cases hev
     ·cases hev
    ·rename_i m ys hy;have hyr := Awp (C5 h h2 hy);split at hev
     ·rename_i hylen;have fromNil : a.eval x' = .slice none 0 0 → m ≤ B → ∀ ks : List Nat, (∀ a' w', Rel Y X0 roots w0 (DQ (BS s (ks.map fun u => (u, Reg.dead))) (some d) (if ow then .own k m ys else .val (.sl m ys))) a' w' → K' a' w') → o.wp P a w K' Q := by
       intro hxv hm2 ks hK';rw[hxv] at hrunO;rcases F4 m with hm | hm
       ·subst hm;have hy0 : ys = [] := A1 (by simpa using hylen);subst hy0;have hr : (execOp a.eval o).run P w = .ok (.value (.slice none 0 0)) w := by
         rcases hyr with ⟨_, _, hyv | ⟨p, c, hyv⟩⟩ | ⟨b, off, cap, hyv, _⟩
         ·rw[hyv] at hrunO;exact hrunO (append_nil (P := P) (w := w) (ty := o.type) h3 h4)
         ·rw[hyv] at hrunO;exact hrunO (Qz (P := P) (w := w) (ty := o.type) h3 h4)
         ·rw[hyv] at hrunO;exact hrunO (Qz (P := P) (w := w) (ty := o.type) h3 h4)
        refine Bx hr (hK' _ _ ?_);rw[hdst];exact LD (ks := ks) h (fun u hu => .inr (hfr u hu))
       ·obtain⟨v', w', hrun, hbel, hown⟩ := Qy (P := P) (ty := o.type) (n := 0) (cs := []) h3 h4 h5 (.inl ⟨rfl, rfl, rfl, hm⟩) (by simp) hyr hm hylen (by omega);have hr := hrunO hrun;simp only[FI, hr, Fw];refine hK' _ _ ?_;rw[hdst];simp only[Ch, Jt] at hown;exact P5 (ks := ks) h hbel (fun u hu => .inr (hfr u hu)) hown
      split at hev
      ·rename_i hxr;have hxx := C5 h h1 (rA hxr);generalize hxv : a.eval x' = xv at hxx;cases hxx;split at hev
       ·rename_i hm2;cases hev;rw[hdst] at hK;exact fromNil hxv hm2 [] hK
       ·cases hev
      ·rename_i k' n cs hxr;obtain⟨nx, rfl⟩ := ZY hxr;simp only[Opd.reg] at hxr;split at hev
       ·rename_i hkk;obtain⟨rfl, hnm⟩ := hkk;cases hev;rcases h.ownLow hxr with ⟨e1, rfl, rfl⟩ | ⟨b, cap, e1, e2, e3, e4, e5, e6, hXb⟩
        ·rw[hdst] at hK;simp only[Ch, Jt] at hK;exact fromNil (by rw[E5 h1, e1]) (by omega) [nx] hK
        have hxv : a.eval x' = .slice (some ⟨b, 0, none⟩) n cap := by rw[E5 h1, e1]
        rw[hxv] at hrunO;by_cases hyn : m = 0
        ·subst hyn;have hy0 : ys = [] := A1 (by simpa using hylen);subst hy0;have hr : (execOp a.eval o).run P w = .ok (.value (.slice (some ⟨b, 0, none⟩) n cap)) w := by
          rcases hyr with ⟨_, _, hyv | ⟨p, c, hyv⟩⟩ | ⟨b', off', cap', hyv, _⟩
          ·rw[hyv] at hrunO;exact hrunO (Q5 (P := P) (w := w) (ty := o.type) h3 h4 e2)
          ·rw[hyv] at hrunO;exact hrunO (Pf (P := P) (w := w) (ty := o.type) h3 h4 e2)
          ·rw[hyv] at hrunO;exact hrunO (Pf (P := P) (w := w) (ty := o.type) h3 h4 e2)
         refine Bx hr (hK _ _ ?_);rw[hdst];refine Rel.shift h hxr (b := b) (by rw[e1]; rfl) hfr rfl rfl rfl rfl (fun _ _ => rfl) (fun _ => rfl) (fun X g1 g2 => ?_);simp only[FC, O_] at g2 ⊢;exact TS (.inr ⟨b, cap, rfl, e2, e3, e4, e5.mono fun c hc => .inl (g1 c hc), e6⟩) (fun he => by subst he; exact fun c hc => by cases hc; exact g2 rfl) h.lowY
        by_cases hroom : n + m ≤ cap
        ·obtain⟨w', hrun, g1, g2, g3, g4, g5, g6, g7⟩ := YJ (P := P) (ty := o.type) h3 h4 hroom (Y := Y) (X := fun b => X0 b ∨ XS s a.tmps b) (.inr hXb) e5 e6 e3 hyr hyn hylen;have hr := hrunO hrun;simp only[FI, hr, Fw];refine hK _ _ ?_;rw[hdst];refine Rel.shift h hxr (b := b) (by rw[e1]; rfl) hfr g1 g2 g3 g4 g5 (fun _ => rfl) (fun X q1 q2 => ?_);exact TS (.inr ⟨b, cap, rfl, hroom, by rw[AY, e3, hylen, DN], e4, g6.mono fun c hc => .inl (q1 c hc), g7⟩) (fun he => by subst he; exact fun c hc => by cases hc; exact q2 rfl) h.lowY
        ·obtain⟨v', w', hrun, hbel, hown⟩ := Qy (P := P) (ty := o.type) h3 h4 h5 (.inr ⟨b, cap, rfl, by omega, e5.mem⟩) e3 hyr (by omega) hylen hnm;have hr := hrunO hrun;simp only[FI, hr, Fw];refine hK _ _ ?_;rw[hdst];exact P5 (ks := [nx]) h hbel (fun u hu => .inr (hfr u hu)) hown
       ·cases hev
      ·cases hev
     ·cases hev
    ·cases hev
   ·cases hk
  ·cases hk
 case sli x lo hi mx k =>
  simp only[Gu] at hk;split at hk
  ·rename_i t x' lo' hi' mx' hop;simp only[Ad] at hk;obtain⟨⟨⟨⟨h1, h2⟩, h3⟩, h4⟩, h5⟩ := hk;have hrunO : ∀ {v : Value}, (iL t (a.eval x') (lo'.map a.eval) (hi'.map a.eval) (mx'.map a.eval)).run P w = .ok v w → (execOp a.eval o).run P w = .ok (.value v) w := by
    intro v hh;simp only[execOp, hop, AH, hh, Aw, Bc]
   simp only[B7] at hev;split at hev
   ·rename_i hx;have hxr := C5 h h1 hx;generalize hxv : a.eval x' = xv at hxr hrunO;cases hxr;split at hev
    ·rename_i b1 b2 b3;split at hev
     ·rename_i c4;cases hev;have hb := Mk (P := P) (w := w) (len := 0) (cap := 0) (m := 0) (h := 0) (l := 0) (Awq h h4 b1 rfl (An _)) (Afk h h3 h4 b2 c4 (fun _ => An _) (fun _ => An _)) (rB h h2 b3 (An _));have hr := hrunO (Ml h5 hb);exact Bx hr (hK _ _ (h.put (AF hkd hro) .nil))
     ·cases hev
    ·cases hev
   ·rename_i n cs hx;have hxr := C5 h h1 hx;split at hev
    ·rename_i m hh l b1 b2 b3;split at hev
     ·rename_i hc;cases hev;obtain⟨c1, c2, c3, c4⟩ := hc;obtain⟨ad, cap, hv, hcap, hres, hnone⟩ := tP (k := k) (m := if mx.isSome then m else Afj (a.eval x')) hxr c1 (by omega);rw[hv] at hrunO hres;have hb := Mk (P := P) (w := w) (len := n) (cap := cap) (m := if mx.isSome then m else cap) (h := hh) (l := l) (A5c h h4 b1 (by omega)) (Afk h h3 h4 b2 c4 (fun hs => by rw[if_pos hs]; exact c2) (fun hs => by rw[if_neg hs]; omega)) (rB h h2 b3 c1);have hr := hrunO (Ml h5 hb);refine Bx hr (hK _ _ (h.put (AF hkd hro) (hres ?_ (fun hn => ?_))))
      ·simp only[Afj];split
       ·exact c2
       ·omega
      ·have h0 := hnone hn;simp only[Afj];split
       ·omega
       ·exact h0
     ·cases hev
    ·cases hev
   ·cases hev
  ·cases hk
 case nlo k =>
  simp only[Gu] at hk;simp only[B7] at hev;cases hev;simp only[EM, Ad] at hro;obtain⟨d, hdst⟩ := A_.1 hro.2;have hr : (execOp a.eval o).run P w = .ok (.value (.slice none 0 0)) w := by
   split at hk
   ·rename_i hop; simp[execOp, hop, P6]
   ·rename_i hop; simp[execOp, hop, P6]
   ·cases hk
  refine Bx hr (hK _ _ ?_);rw[hdst];exact LD (ow := true) (ks := []) h (fun u hu => .inr (AF hkd hro.1 d hdst u hu))
 case bdo y x ls =>
  simp only[Gu] at hk;split at hk
  ·rename_i t parts hop;obtain⟨a', x', hparts, h1, h2, hrun⟩ := tM hk;simp only[EM, Ad] at hro;obtain⟨d, hdst⟩ := A_.1 hro.2;simp only[B7] at hev;split at hev
   ·rename_i b hb;split at hev
    ·rename_i k n cs hr;split at hev
     case isFalse => cases hev
     rename_i hls;cases hev;have hkd' : ∀ t ∈ oks ++ ls, Fl (A2 s t) = false := SL hkd hls;have hbr := C5 h h1 hb;generalize hbv : a.eval a' = bv at hbr;cases hbr;have hx' := E5 (a := a) h2;have h0 := h.reg x;rw[hr] at h0;have hcell : (a.tmps.getD x Bw).cells = #[a.tmps.getD x Bw] := by
      rcases h0 with ⟨e, _⟩ | ⟨_, _, e, _⟩ <;> rw[e] <;> rfl
     have hpe : (parts.map fun p => (p.1, a.eval p.2)) = #[(0, .bool b), (1, a.tmps.getD x Bw)] := by
      apply tQ.1;rw[Fx, hparts];simp[hbv, hx']
     refine Bx (v := .agg #[.bool b, a.tmps.getD x Bw]) ?_ (hK _ _ ?_)
     ·simp only[execOp, hop, AH];rw[show (parts.map fun x : Nat × Operand => match x with | (i, x) => (i, a.eval x)) = (parts.map fun p => (p.1, a.eval p.2)) from rfl, hpe, hrun b _ hcell w]
      rfl
     ·rw[hdst];exact h.pass (by rw[hr]; rfl) (F1 (.st b) h0) (fun u hu => AF hkd' hro.1 d hdst u hu) (fun X g1 => ⟨_, rfl, FO.mono h0 fun c hc => .inl (g1 c hc)⟩)
    ·cases hev
   ·cases hev
  ·cases hk
 case stl x v =>
  simp only[Gu] at hk;split at hk
  ·rename_i t x' v' hop;simp only[Ad] at hk;obtain⟨⟨h1, h2⟩, h3⟩ := hk;simp only[EM, Ad, Option.isNone_iff_eq_none, It, decide_eq_true_eq] at hro;obtain⟨hdst, hroot⟩ := hro;simp only[B7] at hev;split at hev
   ·rename_i cs hr;split at hev
    ·rename_i bb k n ds hrv;split at hev
     ·rename_i hcs;cases hev;have hx' := E5 (a := a) h1;have hv' := E5 (a := a) h3;have h0 := h.reg x;rw[hr] at h0;obtain⟨b, e1, hB, hd, vs, T, e2, e3, _⟩ := h0;have h5 := h.reg v;rw[hrv] at h5;obtain⟨u, hu, h5⟩ := h5;have hcell : u.oneCell' = true := by
       rcases h5 with ⟨e, _⟩ | ⟨_, _, e, _⟩ <;> rw[e] <;> rfl
      have hsz := JM h2;have hrow := run_storeCells_at (P := P) b 0 T [.bool bb, u] 0 vs w e2 (by simp; omega) (by
       intro y hy;simp only[CS, TG, or_false] at hy;rcases hy with rfl | rfl
       ·rfl
       ·exact hcell)
      have hrun' : (execOp a.eval o).run P w = .ok .skip (w.setRow b (vs.toList.take (0 + 0) ++ [.bool bb, u] ++ vs.toList.drop (0 + 0 + [TR bb, u].length)).toArray) := by
       have hcells : (Value.agg #[.bool bb, u]).cells = #[.bool bb, u] := rfl;simp only[execOp, hop, WB, hx', e1, hv', hu, ZR, JF, AH, Bc, Aw, storeVar, hsz, hcells];simp only[Ia, Bq, Jw, ne_eq, not_true_eq_false, if_false];rw[hrow];rfl
      simp only[FI, hrun', Fw];rw[hdst] at hK ⊢;refine hK _ _ (Rel.store (w' := w.setRow b _) h hr rfl rfl (by rw[e1]; rfl) hB rfl rfl rfl (JK _ _ _) (fun c hc => H1 _ _ _ _ hc) (fun X hX => ?_));have hlt : b < w.heap.size := (E9.1 e2).1;refine⟨hroot, b, e1, hB, by rw[JK]; exact hlt, fun i hi => ?_⟩;rw[N2 (setRow_heap w b vs _ T (0, 0) e2), hu];match i, hi with
      | 0, _ => rfl
      | 1, _ => rfl
     ·cases hev
    ·cases hev
   ·cases hev
  ·cases hk
 case cln f xs ls =>
  simp only[Gu] at hk;split at hk
  ·rename_i f' args ts hop;simp only[Ad, beq_iff_eq] at hk;obtain⟨⟨rfl, h1⟩, h2⟩ := hk;simp only[B7] at hev;split at hev
   ·rename_i vs hx;split at hev
    case isFalse => cases hev
    rename_i hls;have hkd' : ∀ t ∈ oks ++ ls, Fl (A2 s t) = false := SL hkd hls;simp only[Ah] at hev;obtain⟨y, hy, he⟩ := hev;cases he;obtain⟨e1, e2⟩ := LC h h1 hx;unfold qZ at h2;split at h2
    ·rename_i fn hfn;simp only[Ad, Em] at h2;obtain⟨hbody, hname⟩ := h2;have hbn : ¬ fn.body = none := by intro e0; rw[e0] at hbody; cases hbody
     have hnm : ¬ fn.name = "runtime.NumGoroutine" := by simpa using hname
     have hrun : (execOp a.eval o).run P w = .ok (.enter f' (args.map a.eval)) w := by
      simp[execOp, hop, resolve, K8, P6, invoke, callFunc, program, Fm, hfn, hnm, hbn]
     have hcall := hF f' vs y hy Y (fun b => X0 b ∨ XS s a.tmps b) w (args.map a.eval) h.lowX h.lowYw (by simpa using e1) (fun i g1 g2 => by
      have := e2 i (by simpa using g1) g2;simpa using this)
     simp only[FI, hrun, Fw];refine hcall.mono fun e w' ⟨v, he, hb, hr⟩ => ?_;subst he;refine hK _ _ ?_;simp only[EM, Ad] at hro;obtain⟨d, hdst⟩ := A_.1 hro.2;rw[hdst];cases y
     case fresh k n cs =>
      simp only[Kr] at hr;refine Dt (ks := []) h hb (fun u hu => .inr (AF hkd' hro.1 d hdst u hu)) (fun _ b hb => (FO.block hr hb).1) (fun X g1 _ => ?_);exact O1 h.below.size hr g1
     case frs bb k n cs =>
      simp only[Kr] at hr;refine Dt (ks := []) h hb (fun u hu => .inr (AF hkd' hro.1 d hdst u hu)) (fun _ b hb => (Ju.block hr hb).1) (fun X g1 _ => ?_);obtain⟨u, rfl, hr⟩ := hr;rw[F1 _ hr] at g1;refine⟨u, rfl, O1 h.below.size ?_ g1⟩;rw[F1 _ hr] at hr;exact hr
     all_goals
      refine Dt (ks := []) h hb (fun u hu => .inr (AF hkd' hro.1 d hdst u hu)) (fun he => (by cases he)) (fun X _ g2 => ?_);exact Rd.mono hr fun b hb => .inl (g2 rfl b hb)
    ·cases h2
   ·cases hev
  ·cases hk
 case fdo x =>
  simp only[Gu] at hk;split at hk
  ·rename_i t x' hop;simp only[Ad] at hk;obtain⟨h1, h2⟩ := hk;simp only[EM, Ad] at hro;obtain⟨d, hdst⟩ := A_.1 hro.2;simp only[B7] at hev;split at hev
   ·rename_i b k n cs hr;cases hev;have hx' := E5 (a := a) h1;have h0 := h.reg x;rw[hr] at h0;obtain⟨u, hu, h0⟩ := h0;refine Bx (v := u) ?_ (hK _ _ ?_)
    ·simp only[execOp, hop, AH, hx', hu, ZR, tN h2 b u w];rfl
    ·rw[hdst];exact h.pass (by rw[hr]; rfl) (by rw[hu]; exact (F1 (.st b) h0).symm) (fun u hu => AF hkd hro.1 d hdst u hu) (fun X g1 => FO.mono h0 fun c hc => .inl (g1 c hc))
   ·cases hev
  ·cases hk
 case exo x =>
  simp only[Gu] at hk;split at hk
  ·rename_i x' hop;simp only[EM, Ad] at hro;obtain⟨d, hdst⟩ := A_.1 hro.2;simp only[B7] at hev;split at hev
   ·rename_i b k n cs hr;cases hev;have hx' := E5 (a := a) hk;have h0 := h.reg x;rw[hr] at h0;obtain⟨u, hu, h0⟩ := h0;have hrd : ∀ X, Rd Y X w u (.sl n []) := by
     intro X;rcases h0 with ⟨rfl, rfl, _⟩ | ⟨c, cap, rfl, hle, _⟩
     ·exact .nil0
     ·exact .sl c 0 n cap [] (fun _ => Bw) (by intro y hy; cases hy) hle (fun hne => absurd rfl hne) (fun ⟨y, hy, _⟩ => by cases hy) (fun i hi => by simp at hi) (fun i hi => by simp at hi)
    refine Bx (v := u) ?_ (hK _ _ ?_)
    ·simp only[execOp, hop, Avx, hx', hu, ZR, AH, Bc];rfl
    ·rw[hdst];have hp := h.pass (r := .own k n cs) (v := u) (by rw[hr]; rfl) (by rw[hu]; exact (F1 (.tp b) h0).symm) (fun u hu => AF hkd hro.1 d hdst u hu) (fun X g1 => FO.mono h0 fun c hc => .inl (g1 c hc));by_cases hxd : x = d
     ·subst hxd;simp only[DQ, BS, Rz] at hp ⊢;exact hp
     ·simp only[DQ, BS] at hp ⊢;have e1 : ((s.set x (.val (.tup [.sl n [], .bool b]))).set d (.own k n cs)) = (((s.set x .dead).set d (.own k n cs)).set x (.val (.tup [.sl n [], .bool b]))) := by
       rw[iR (i := x) (j := d) _ _ hxd, iR (i := x) (j := d) _ _ hxd, Rz]
      rw[e1];refine hp.wake ?_ ?_
      ·rw[Dn, if_neg (fun g => hxd g.1.symm), Dn];split
       ·rfl
       ·rename_i g;simp only[true_and, Nat.not_lt] at g;simp only[A2, Z, AB g];rfl
      ·have e2 : (a.put (some d) u).tmps.getD x Bw = .tuple #[u, .bool b] := by
        show (a.tmps.setIfInBounds d u).getD x Bw = _;rw[L8, if_neg (fun g => hxd g.1.symm)];exact hu
       rw[e2];refine Rd.tup #[u, .bool b] [.sl n [], .bool b] rfl fun i h1 h2 => ?_;match i, h2 with
       | 0, _ => exact hrd _
       | 1, _ => exact Rd.bool b
   ·cases hev
  ·cases hk
 case slo x hi k =>
  simp only[Gu] at hk;split at hk
  ·rename_i t x' hi' hop;simp only[Ad] at hk;obtain⟨⟨h1, h2⟩, h5⟩ := hk;simp only[EM, Ad] at hro;obtain⟨d, hdst⟩ := A_.1 hro.2;simp only[B7] at hev;split at hev
   ·rename_i ki iv hiv;split at hev
    ·rename_i k' n cs hr;split at hev
     ·rename_i hc;obtain⟨rfl, c1, c2⟩ := hc;cases hev;have hbr := C5 h h2 hiv;generalize hbv : a.eval hi' = bv at hbr;cases hbr;have hx' := E5 (a := a) h1;have h0 := h.reg x;rw[hr] at h0;have hle : iv.toNat ≤ n := by omega
      rcases h0 with ⟨e, rfl, rfl⟩ | ⟨b, cap, e, e2, e3, e4, e5, e6⟩
      ·have hb := Mk (P := P) (w := w) (len := 0) (cap := 0) (m := 0) (h := iv.toNat) (l := 0) (lo := none) (hi := some (.int ki iv)) (mx := none) (.inl ⟨rfl, rfl⟩) (.inr ⟨ki, iv, rfl, c1, rfl, hle⟩) (.inl ⟨rfl, rfl⟩);have hz : iv.toNat = 0 := by omega
       refine Bx (v := .slice none 0 0) ?_ (hK _ _ ?_)
       ·simp only[execOp, hop, AH, hx', e, WH, A4, hbv, Ml h5 hb, hz];rfl
       ·rw[hdst, hz];simpa using LD (ow := true) (ks := [x]) h (fun u hu => .inr (AF hkd hro.1 d hdst u hu))
      ·have hb := Mk (P := P) (w := w) (len := n) (cap := cap) (m := cap) (h := iv.toNat) (l := 0) (lo := none) (hi := some (.int ki iv)) (mx := none) (.inl ⟨rfl, rfl⟩) (.inr ⟨ki, iv, rfl, c1, rfl, by omega⟩) (.inl ⟨rfl, rfl⟩);refine Bx (v := .slice (some ⟨b, 0, none⟩) iv.toNat cap) ?_ (hK _ _ ?_)
       ·simp only[execOp, hop, AH, hx', e, WH, A4, hbv, Ml h5 hb, SK, JH, GZ, ite_self];rfl
       ·rw[hdst];refine h.pass (by rw[hr]; rfl) (by rw[e]; rfl) (fun u hu => AF hkd hro.1 d hdst u hu) (fun X g1 => .inr ⟨b, cap, rfl, by omega, ?_, e4, ?_, e6⟩)
        ·rw[A7, e3, Nat.min_eq_left (AD _ hle)]
        ·obtain⟨q1, vs, T, q2, q3, q4⟩ := e5.mono (X' := X) fun c hc => .inl (g1 c hc);refine⟨fun y hy => q1 y (Ct hy), vs, T, q2, ?_, fun i hi => ?_⟩
         ·have : (cs.take (iv.toNat * k')).length ≤ cs.length := by rw[A7]; exact Nat.min_le_right _ _
          omega
         ·obtain⟨v, r1, r2⟩ := q4 i (by simp at hi; omega);exact⟨v, r1, by simpa using r2⟩
     ·cases hev
    ·cases hev
   ·cases hev
  ·cases hk
 case ixo x d i k =>
  simp only[Gu] at hk;split at hk
  ·rename_i t x' i' hop;simp only[Ad] at hk;obtain⟨⟨h1, h2⟩, hk⟩ := hk;obtain⟨e, ii, zv, hu, hii, hs, hk0, _, _, _⟩ := Er hk;have hsz : (sizeOf e).run P w = .ok k w := by simp[sizeOf, typeInfo, program, Fm, hii, hs]
   simp only[EM, Ad] at hro;simp only[B7] at hev;split at hev
   ·rename_i ki iv hi;have hir := C5 h h2 hi;generalize hiv : a.eval i' = ivv at hir;cases hir;have hx' := E5 (a := a) h1;have h0 := h.reg x;split at hev
    ·rename_i n cs hr;rw[hr] at h0;split at hev
     ·rename_i hb;cases hev;rw[← hx'] at h0;generalize hxv : a.eval x' = xv at h0;cases h0 with
      | nil0 => exact absurd hb (by omega)
      | e0 _ _ => exact absurd hb (by omega)
      | sl b off _ cap _ f hd hn hX hY hcell hrr =>
       have hmem : Gg Y (fun b => X0 b ∨ XS s a.tmps b) w b off cs := ⟨hd, fun j hj => ⟨f j, hcell j hj, hrr j hj⟩⟩;refine Bx (v := .pointer (some ⟨b, off + iv.toNat * k, none⟩)) ?_ (hK _ _ ?_)
       ·simp only[execOp, hop, WC, AH, hiv, asIntOf, Bc, Aw, run_underlying hu, hxv, hb, and_self, if_true, hsz, GZ]
       ·refine Nv h (AF hkd hro.1) (fun hne => hX (fun hn => hne (by rw[hn]; simp))) (hmem.drop _)
     ·cases hev
    ·rename_i d' hr;split at hev
     ·rename_i hd;subst hd;split at hev
      ·rename_i k' n cs hr2;split at hev
       ·rename_i hb;obtain⟨rfl, hb⟩ := hb;cases hev;rw[hr] at h0;obtain⟨b, cap, e1, _⟩ := (h.ownLow hr2).resolve_left (fun hh => by omega);have hxv : a.eval x' = .slice (some ⟨b, 0, none⟩) n cap := by rw[hx', h0.2, e1]
        refine Bx (v := .pointer (some ⟨b, 0 + iv.toNat * k', none⟩)) ?_ (hK _ _ ?_)
        ·simp only[execOp, hop, WC, AH, hiv, asIntOf, Bc, Aw, run_underlying hu, hxv, hb, and_self, if_true, hsz, GZ]
        ·exact Nw (p := ⟨b, 0, none⟩) h (AF hkd hro.1) (KI hro.2) (by rw[e1]; rfl) rfl
       ·cases hev
      ·cases hev
     ·cases hev
    ·cases hev
   ·cases hev
  ·cases hk
 case lno x d =>
  simp only[Gu] at hk;split at hk
  ·rename_i args ts hop;unfold YG at hk;split at hk
   ·rename_i x' t hargs hts;simp only[Ad] at hk;obtain⟨h1, h2⟩ := hk;have e1 : args = #[x'] := by rw[← Ff (xs := args), hargs]
    have e2 : ts = #[t] := by rw[← Ff (xs := ts), hts]
    subst e1 e2;split at h2
    ·rename_i e hu;simp only[B7] at hev;have fin : ∀ (base : Option Addr) (n c : Nat), a.eval x' = .slice base n c → (∀ a' w', Rel Y X0 roots w0 (DQ s o.dst (.val (.int .i64 n))) a' w' → K' a' w') → o.wp P a w K' Q := by
      intro base n c he hK';refine Bx (v := .int .i64 n) ?_ (hK' _ _ (h.put (AF hkd hro) (.int _ _)));simp[execOp, hop, resolve, invoke, builtin, Afl, he, run_underlying hu, goInt]
     have hx' := E5 (a := a) h1;have h0 := h.reg x;split at hev
     ·rename_i hr;cases hev;rw[hr, ← hx'] at h0;generalize hxv : a.eval x' = xv at h0;cases h0;exact fin _ _ _ hxv hK
     ·rename_i n cs hr;cases hev;rw[hr, ← hx'] at h0;generalize hxv : a.eval x' = xv at h0;cases h0 <;> exact fin _ _ _ hxv hK
     ·rename_i d' hr;split at hev
      ·rename_i hd;subst hd;split at hev
       ·rename_i k n cs hr2;cases hev;rw[hr] at h0;rcases h.ownLow hr2 with ⟨e1, rfl, _⟩ | ⟨b, cap, e1, _⟩
        ·exact fin _ _ _ (by rw[hx', h0.2, e1]) hK
        ·exact fin _ _ _ (by rw[hx', h0.2, e1]) hK
       ·cases hev
      ·cases hev
     ·cases hev
    ·cases h2
   ·cases hk
  ·cases hk
end
def Uu(ops:Array Oper):Option (Nat × Bool)->Option (Nat × Bool)->Bool
 | none,none=>true
 | some (j,b),some (t,b')=>(ops[j]?).bind (·.dst)==some t&&b==b'
 | _,_=>false
def rD(roots:List (Nat × Nat))(io:IOp):Bool:=io.g.isNone || Gh roots io.ks io.dst
def oOk(P:Program)(roots:List (Nat × Nat))(ops:Array Oper)(o:Oper)(io:IOp):Bool :=
 Gu P o.op io.k&&o.dst==io.dst&&EM roots io.ks io.dst io.k&&Uu ops o.guard io.g&&rD roots io
section
variable {P:Program} {Y X0:Nat->Prop} {roots:List (Nat × Nat)} {w0 w:World} {s:Ak} {a:Act} {Q:Exit->Act->World->Prop}
theorem Xw(h:Rel Y X0 roots w0 s a w){ops:Array Oper}{o:Oper}{g:Option (Nat × Bool)}{b:Bool}(hg:Uu ops o.guard g=true)(hw:GE s g=some b):Uv o (yielded ops a.tmps)=b:=by
 unfold Uu at hg;split at hg
 ·rename_i h1;simp only[GE,Ay] at hw;subst hw;simp[Uv,h1]
 ·rename_i j b1 t b2 h1;simp only[Ad,beq_iff_eq] at hg;obtain⟨h2,rfl⟩:=hg;have h0:=h.reg t;simp only[GE] at hw;simp only[Uv,h1,yielded,h2,Option.bind_some];have hlt:∀ v,a.tmps.getD t Bw=v->v ≠ Bw->a.tmps[t]?=some v:=by
   intro v hv hne;rw[CB] at hv;cases hh:a.tmps[t]? with
   | none=>rw[hh] at hv;exact absurd hv.symm hne
   | some u=>rw[hh] at hv;simp at hv;rw[hv]
  cases hr:A2 s t with
  | val x =>
   rw[hr] at hw h0;generalize hv:a.tmps.getD t Bw=v at h0;cases h0 with
   | bool c =>
    dsimp only at hw;rw[hlt _ hv (by nofun)];simp only[Ay] at hw;rw[<- hw];cases c <;> cases b1 <;> rfl
   | undef =>
    dsimp only at hw;simp only[Ay] at hw;rw[<- hw];rw[CB] at hv;cases hh:a.tmps[t]? with
    | none=>simp
    | some u=>rw[hh] at hv;simp at hv;rw[hv];simp[Bw]
   | int _ _=>cases hw
   | str _=>cases hw
   | agg _ _ _ _ _=>cases hw
   | tup _ _ _ _=>cases hw
   | nil=>cases hw
   | nil0=>cases hw
   | e0 _ _=>cases hw
   | sl _ _ _ _ _ _ _ _ _ _ _=>cases hw
   | pt _ _ _ _ _ _ _ _=>cases hw
   | fnc _ _ _ _=>cases hw
  | box _=>rw[hr] at hw;cases hw
  | ptr _ _=>rw[hr] at hw;cases hw
  | mem _=>rw[hr] at hw;cases hw
  | own _ _ _=>rw[hr] at hw;cases hw
  | agn _ _ _ _=>rw[hr] at hw;cases hw
  | bxl _=>rw[hr] at hw;cases hw
  | dup _=>rw[hr] at hw;cases hw
  | sub _ _ _ _=>rw[hr] at hw;cases hw
  | dead=>rw[hr] at hw;cases hw
 ·cases hg
theorem Afm{ops:Array Oper}{i:Nat}{o:Oper}{io:IOp}{F:BA}{s':Ak}{K':Act->World->Prop}(h:Rel Y X0 roots w0 s a w)(hF:KG P F)(hi:ops[i]?=some o)(ho:oOk P roots ops o io=true)
  (hev:FM F io s=some s') (hK:∀ a' w',Rel Y X0 roots w0 s' a' w'->K' a' w'):wpOp P ops Q i K' a w:=by
 simp only[oOk,Ad,beq_iff_eq] at ho;obtain⟨⟨⟨⟨h1,h2⟩,h3⟩,h4⟩,h5⟩:=ho;simp only[FM,H_] at hev;have hkd:∀ t∈io.ks,Fl (A2 (kill s io.ks) t)=false:=fun t ht=>by rw[Fz,if_pos ht];rfl
 have h:=h.kill io.ks;generalize kill s io.ks=s at *
 simp only[wpOp,hi];split at hev
 ·cases hev
 ·rename_i hw;cases hev;rw[Xw h h4 hw];simp only[Ca,if_false];rw[h2];refine hK _ _ (h.put ?_ .undef);simp only[rD,ZH] at h5;rcases h5 with h5 | h5
  ·cases hg:io.g with
   | none=>rw[hg] at hw;cases hw
   | some p=>rw[hg] at h5;cases h5
  ·exact AF hkd h5
 ·rename_i hw;rw[Xw h h4 hw];simp only[if_true];split at hev
  ·cases hev
  ·rename_i r l hk;cases hev;rw[<- h2] at hK h3;exact .inl (simK h hF h1 hkd h3 hk hK)
def Mn(P:Program)(roots:List (Nat × Nat))(ops:Array Oper):List Oper->List IOp->Bool
 | [],[]=>true
 | o::l,io::m=>oOk P roots ops o io&&Mn P roots ops l m
 | _,_=>false
theorem P7{ops:Array Oper}:∀ {l:List Oper} {m:List IOp},Mn P roots ops l m=true->l.length=m.length/\∀ (i:Nat) (o:Oper) (io:IOp),l[i]?=some o->m[i]?=some io->oOk P roots ops o io=true
 | [],[],_=>⟨rfl,fun i o io h=>(by simp at h)⟩
 | o::l,io::m,h=>by
  simp only[Mn,Ad] at h;obtain⟨e1,e2⟩:=P7 h.2;refine⟨by simp[e1],fun i o' io' h1 h2 => ?_⟩;cases i with
  | zero=>simp at h1 h2;subst h1 h2;exact h.1
  | succ i=>simp at h1 h2;exact e2 i o' io' h1 h2
 | [],_::_,h=>by cases h
 | _::_,[],h=>by cases h
theorem rE{ops:Array Oper}{F:BA}(hF:KG P F):∀ {l:List Oper} {m:List IOp} {k:Nat} {s s':Ak} {a:Act} {w:World},(∀ j,l[j]?=ops[k+j]?)->Mn P roots ops l m=true->Rel Y X0 roots w0 s a w ->
  D_ F m s=some s'->(∀ a' w',Rel Y X0 roots w0 s' a' w'->Q .normal a' w')->wpOps P ops Q (List.range' k l.length) a w
 | [],[],k,s,s',a,w,_,_,h,hev,hQ=>by
  simp only[D_,Ay] at hev;subst hev;exact hQ _ _ h
 | o::l,io::m,k,s,s',a,w,hl,hok,h,hev,hQ=>by
  simp only[Mn,Ad] at hok;simp only[D_] at hev;cases h1:FM F io s with
  | none=>rw[h1] at hev;cases hev
  | some s1 =>
   rw[h1] at hev;have hi:ops[k]?=some o:=by simpa using (hl 0).symm
   rw[Bq,List.range'_succ,wpOps_cons];exact Afm h hF hi hok.1 h1 fun a' w' h'=>rE hF (fun j=>by have:=hl (j+1);simpa [D6,Hn 1 j] using this) hok.2 h' hev hQ
 | [],_::_,_,_,_,_,_,_,hok,_,_,_=>by cases hok
 | _::_,[],_,_,_,_,_,_,hok,_,_,_=>by cases hok
def Ho(o:Oper):List Nat:=(o.after.toList.filter (Region.binds .any)).map (·.on)
def N4:List Oper->List (List Nat)->List (List Nat)
 | [],acc=>acc
 | o::l,acc=>N4 l (acc++[((Ho o)++(Ho o).flatMap fun p=>acc.getD p []).eraseDups])
theorem Z':∀ (l done:List Oper) (acc:List (List Nat)),acc.length=done.length ->
  (∀ (i j:Nat),j∈acc.getD i []->∃ o,done[i]?=some o/\∃ p∈Ho o,j=p\/(p<i/\j∈acc.getD p [])) ->
  ∀ (i j:Nat),j∈(N4 l acc).getD i []->∃ o,(done++l)[i]?=some o/\∃ p∈Ho o,j=p\/(p<i/\j∈(N4 l acc).getD p []):=by
 intro l;induction l with
 | nil=>intro done acc _ h i j hj;simpa [N4] using h i j hj
 | cons o l ih =>
  intro done acc hlen h i j hj;simp only[N4] at hj |-;have:=ih (done++[o]) (acc++[((Ho o)++(Ho o).flatMap fun p=>acc.getD p []).eraseDups]) (by simp[hlen]) (fun i j hj => ?_) i j hj
  ·simpa using this
  ·have lt_of:∀ (q x:Nat),x∈acc.getD q []->q<acc.length:=by
    intro q x hx;rcases Ck q acc.length with h1 | h1
    ·exact h1
    ·rw[Z,AB h1] at hx;cases hx
   have keep:∀ (q x:Nat),x∈acc.getD q []->x∈(acc++[((Ho o)++(Ho o).flatMap fun p=>acc.getD p []).eraseDups]).getD q []:=by
    intro q x hx;rw[Z,AK (lt_of q x hx),<- Z];exact hx
   rcases Ck i acc.length with h1 | h1
   ·rw[Z,AK h1,<- Z] at hj;obtain⟨o',e1,p,hp,e2⟩:=h i j hj;refine⟨o',by rw[AK (by omega)];exact e1,p,hp,?_⟩;rcases e2 with e2 | ⟨e2,e3⟩
    ·exact .inl e2
    ·exact .inr ⟨e2,keep p j e3⟩
   ·have hi:i=acc.length:=by
     rcases Ck acc.length i with h2 | h2
     ·rw[Z,AB (by simp;omega)] at hj;cases hj
     ·omega
    subst hi;rw[Z,AR (An _)] at hj;simp only[OY,Awj,G6,List.mem_eraseDups,BR,List.mem_flatMap] at hj;refine⟨o,by rw[hlen,AR (An _)];simp,?_⟩;rcases hj with hj | ⟨p,hp,hj⟩
    ·exact⟨j,hj,.inl rfl⟩
    ·exact⟨p,hp,.inr ⟨lt_of p j hj,keep p j hj⟩⟩
def Z_(anc:List (List Nat))(io:List IOp):Bool :=
 io.zipIdx.all fun (b,i)=>(io.take i).zipIdx.all fun (a,j)=>P4 a b || (anc.getD i []).contains j
def rF(ops:List Oper):Bool:=ops.zipIdx.all fun (o,i)=>(Ho o).all fun p=>decide (p<i)
def Q6(ops:Array Oper)(io:List IOp):Bool:=rF ops.toList&&Z_ (N4 ops.toList []) io
theorem YL{ops:Array Oper}{io:List IOp}(h:Q6 ops io=true) :
  (∀ (i:Nat) (o:Oper),ops[i]?=some o->∀ p∈Ho o,p<i) /\
  ∀ (i j:Nat) (a b:IOp),j<i->io[j]?=some a->io[i]?=some b->P4 a b=true\/j∈(N4 ops.toList []).getD i []:=by
 simp only[Q6,Ad] at h;constructor
 ·intro i o ho p hp;have h1:=h.1;simp only[rF,BQ,Prod.forall] at h1;have:=h1 o i (by rw[Jx];simpa using ho) p hp;simpa using this
 ·intro i j x b hji hj hi;have h1:=h.2;simp only[Z_,BQ,Prod.forall] at h1;have h2:=h1 b i (by rw[Jx];simpa using hi);have:=h2 x j (by rw[Jx,By hji];simpa using hj);simpa using this
end
section
variable {P:Program} {Y X0:Nat->Prop} {roots:List (Nat × Nat)} {w0:World} {Q:Exit->Act->World->Prop}
def Fb(n:Nat)(listed:Array Bool):List Nat:=(Ao n).filter fun i => !listed.getD i true
theorem I'{n i:Nat}{listed:Array Bool}:i∈Fb n listed↔i<n/\listed.getD i true=false:=by
 simp[Fb]
theorem P8(listed:Array Bool)(i j:Nat)(d:Bool):(listed.setIfInBounds i true).getD j d=if i=j/\i<listed.size then true else listed.getD j d:=by
 simp only[CB,P1];by_cases h:i=j
 ·subst h;by_cases h2:i<listed.size <;> simp[h2]
 ·simp[h]
theorem WI{l:List Nat}(hs:l.Pairwise (·<·)){i:Nat}(hi:i∈l):∃ pre post,l=pre++i::post/\(∀ j∈pre,j<i)/\l.filter (fun j=>decide (j ≠ i))=pre++post:=by
 induction l with
 | nil=>cases hi
 | cons k l ih =>
  rw[rG] at hs;by_cases hk:k=i
  ·subst hk;refine⟨[],l,rfl,fun j hj=>(by cases hj),?_⟩;simp only[Jt];rw[List.filter_cons_of_neg (by simp)];refine jE.2 fun j hj => ?_;have:=hs.1 j hj;simp;omega
  ·have hi':i∈l:=by
    cases hi with
    | head=>exact absurd rfl hk
    | tail _ h=>exact h
   obtain⟨pre,post,e1,e2,e3⟩:=ih hs.2 hi';refine⟨k::pre,post,by rw[e1];rfl,fun j hj => ?_,?_⟩
   ·cases hj with
    | head=>exact hs.1 i hi'
    | tail _ h=>exact e2 j h
   ·rw[List.filter_cons_of_pos (by simp[hk]),e3];rfl
theorem N5(n:Nat)(listed:Array Bool):(Fb n listed).Pairwise (·<·):=A6i _ List.pairwise_lt_range
theorem SN{n i:Nat}{listed:Array Bool}(hi:i<listed.size):Fb n (listed.setIfInBounds i true)=(Fb n listed).filter fun j=>decide (j ≠ i):=by
 unfold Fb;rw[List.filter_filter];apply List.filter_congr;intro j _;rw[P8];by_cases h:i=j
 ·subst h;simp[hi]
 ·have h':¬ j=i:=fun e=>h e.symm;simp[h,h']
def Q7(io:List IOp)(i:Nat):IOp:=io.getD i ⟨none,.mov (.c .undef),none,[]⟩
def rH(ops:Array Oper)(listed:Array Bool):Prop:=∀ (i:Nat) (o:Oper),ops[i]?=some o->listed.getD i false=true->∀ p∈Ho o,listed.getD p false=true
theorem aA{ops:Array Oper}{listed:Array Bool}(hc:rH ops listed):∀ (i:Nat) (o:Oper),ops[i]?=some o->(∀ p∈Ho o,listed.getD p false=true)->∀ j∈(N4 ops.toList []).getD i [],listed.getD j false=true:=by
 intro i;induction i using TD with
 | _ i ih =>
  intro o ho hp j hj;obtain⟨o',e1,p,hpp,e2⟩:=Z' ops.toList [] [] rfl (fun i j h=>(by simp at h)) i j hj;simp only[Jt,Awh] at e1;rw[ho] at e1;cases e1;rcases e2 with rfl | ⟨hlt,e3⟩
  ·exact hp _ hpp
  ·have hl:=hp p hpp;have hps:p<ops.size:=by
    have:=(E9.1 ho).1;omega
   exact ih p hlt ops[p] (by simp[hps]) (hc p ops[p] (by simp[hps]) hl) j e3
theorem Awr{ops:Array Oper}{io:List IOp}{F:BA}{sf:Ak}(hF:KG P F)(hok:Mn P roots ops ops.toList io=true)(hdr:Q6 ops io=true)(hQ:∀ a' w',Rel Y X0 roots w0 sf a' w'->Q .normal a' w') :
  ∀ (fuel:Nat) (listed:Array Bool) (s:Ak) (a:Act) (w:World),listed.size=ops.size->rH ops listed->(Fb ops.size listed).length<=fuel->Rel Y X0 roots w0 s a w ->
   D_ F ((Fb ops.size listed).map (Q7 io)) s=some sf->wpAny P .any ops Q fuel listed a w:=by
 obtain⟨hback,hpairs⟩:=YL hdr;obtain⟨hlen,hget⟩:=P7 hok;have hlen':io.length=ops.size:=by simpa using hlen.symm
 have stop:∀ (listed:Array Bool),listed.size=ops.size->Ph .any ops listed=[]->Fb ops.size listed=[]:=by
  intro listed hsz hr;cases hop:Fb ops.size listed with
  | nil=>rfl
  | cons i rest =>
   exfalso;have hi:=I'.1 (hop ▸ AZ:i∈Fb ops.size listed);have hs:=N5 ops.size listed;rw[hop,rG] at hs;have hready:i∈Ph .any ops listed:=by
    rw[mem_ready];refine⟨hi.2,ops[i],by simp[hi.1],fun e he hb => ?_⟩;have hp:e.on∈Ho ops[i]:=by
     simp only[Ho,DS,I0];exact⟨e,⟨by simpa using he,hb⟩,rfl⟩
    have hlt:=hback i ops[i] (by simp[hi.1]) e.on hp;cases hh:listed.getD e.on true with
    | false =>
     have:e.on∈Fb ops.size listed:=I'.2 ⟨by omega,hh⟩;rw[hop] at this;cases this with
     | head=>omega
     | tail _ h=>have:=hs.1 _ h;omega
    | true =>
     have hsz':e.on<listed.size:=by omega
     simp only[CB,DO hsz',G6] at hh |-;exact hh
   rw[hr] at hready;cases hready
 intro fuel;induction fuel with
 | zero =>
  intro listed s a w hsz hc hl h hev;have h0:Fb ops.size listed=[]:=A1 (by omega);rw[h0] at hev;simp only[FK,D_,Ay] at hev;subst hev;refine⟨?_,hQ _ _ h⟩;cases hr:Ph .any ops listed with
  | nil=>rfl
  | cons i rest =>
   have hi:i∈Ph .any ops listed:=by rw[hr];exact AZ
   rw[mem_ready] at hi;obtain⟨h1,o,h2,_⟩:=hi;have:i∈Fb ops.size listed:=I'.2 ⟨(E9.1 h2).1,h1⟩;rw[h0] at this;cases this
 | succ fuel ih =>
  intro listed s a w hsz hc hl h hev;refine⟨fun hr => ?_,fun i hi => ?_⟩
  ·rw[stop listed hsz hr] at hev;simp only[FK,D_,Ay] at hev;subst hev;exact hQ _ _ h
  ·rw[mem_ready] at hi;obtain⟨h1,o,h2,h3⟩:=hi;have hin:i<ops.size:=(E9.1 h2).1;have hmem:i∈Fb ops.size listed:=I'.2 ⟨hin,h1⟩;obtain⟨pre,post,e1,e2,e3⟩:=WI (N5 _ _) hmem;have hpr:∀ p∈Ho o,listed.getD p false=true:=by
    intro p hp;simp only[Ho,DS,I0] at hp;obtain⟨e,⟨he,hb⟩,rfl⟩:=hp;exact h3 e (by simpa using he) hb
   have hioi:io[i]?=some (Q7 io i):=by
    simp only[Q7,Z,Af (hlen' ▸ hin),G6]
   have hind:∀ q∈pre.map (Q7 io),P4 q (Q7 io i)=true:=by
    intro q hq;rw[DS] at hq;obtain⟨j,hj,rfl⟩:=hq;have hjlt:=e2 j hj;have hjop:j∈Fb ops.size listed:=by rw[e1];exact H7 _ hj
    have hj2:=I'.1 hjop;have hioj:io[j]?=some (Q7 io j):=by
     simp only[Q7,Z,Af (hlen' ▸ hj2.1),G6]
    rcases hpairs i j _ _ hjlt hioj hioi with hh | hh
    ·exact hh
    ·have hlj:=aA hc i o h2 hpr j hh;have hsz':j<listed.size:=by omega
     simp only[CB,DO hsz',G6] at hlj hj2;rw[hlj] at hj2;cases hj2.2
   rw[e1,Ef,Cw] at hev;obtain⟨s1,hs1,hs2⟩:=YE hind hev;rw[<- Ef,<- e3,<- SN (by omega)] at hs2;refine Afm h hF h2 (hget i o _ (by simpa using h2) hioi) hs1 fun a' w' h' => ?_;refine ih (listed.setIfInBounds i true) s1 a' w' (by simpa using hsz) ?_ ?_ h' hs2
   ·intro k ok hk hkl p hp;rw[P8] at hkl;rw[P8];split
    ·rfl
    ·split at hkl
     ·rename_i hik;obtain⟨rfl,_⟩:=hik;rw[h2] at hk;cases hk;exact hpr p hp
     ·exact hc k ok hk hkl p hp
   ·rw[SN (by omega),e3];rw[e1] at hl;simp at hl |-;omega
theorem tR{ops:Array Oper}{io:List IOp}{F:BA}{s sf:Ak}{a:Act}{w:World}{id:Nat}(hm:P.follows .mixedOrders=true)(hF:KG P F)(hok:Mn P roots ops ops.toList io=true)(hdr:Q6 ops io=true)
  (h:Rel Y X0 roots w0 s a w) (hev:D_ F io s=some sf) (hQ:∀ a' w',Rel Y X0 roots w0 sf a' w'->Q .normal a' w'):(A5d id ops true).wp P Q a w:=by
 have hlen:=(P7 hok).1;refine wp_region_any hm ?_;have hall:Fb ops.size (OX ops.size false)=Ao ops.size:=by
  unfold Fb;refine jE.2 fun i hi => ?_;have:i<ops.size:=by simpa using hi
  simp[CB,this]
 refine Awr hF hok hdr hQ ops.size _ s a _ (by simp) ?_ (by rw[hall];simp) ⟨h.dfr,h.size,⟨h.below.os,h.below.tape,h.below.output,h.below.size,h.below.block⟩,h.low,h.lowY,fun t=>Ko.world (h.reg t) ⟨rfl,rfl,rfl,An _,fun _ _=>rfl⟩,h.inj⟩ ?_
 ·intro i o ho hl;have hi:=(E9.1 ho).1;simp[CB,hi] at hl
 ·rw[hall];have:(Ao ops.size).map (Q7 io)=io:=by
   apply FX;intro i;have hl':io.length=ops.size:=by simpa using hlen.symm
   by_cases hi:i<ops.size
   ·simp[hi,Q7,Z,Af (hl' ▸ hi)]
   ·rw[AB (by simp;omega),AB (by omega)]
  rw[this];exact hev
theorem tS{ops:Array Oper}{io:List IOp}{F:BA}{s sf:Ak}{a:Act}{w:World}{id:Nat}(hF:KG P F)(hok:Mn P roots ops ops.toList io=true)
  (h:Rel Y X0 roots w0 s a w) (hev:D_ F io s=some sf) (hQ:∀ a' w',Rel Y X0 roots w0 sf a' w'->Q .normal a' w'):(A5d id ops false).wp P Q a w:=by
 refine wp_region ?_;have:=rE (Q:=Q) hF (k:=0) (fun j=>by simp) hok h hev hQ;rw[List.range_eq_range'];simpa using this
end
end Go.Ai
