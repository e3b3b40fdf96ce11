/- Texts of the proof of EntryOrder: part 3 of 14. -/
import Derived.ArgAppend
import Derived.Laws.MakeOwn
import Derived.Laws.Slices
import Derived.Laws.Cover3
import Derived.Test.YtajompaehjkgkaaGreatEor2
namespace Go.Ai
open Go.RowKit
open And renaming left->Anq
open _root_.Array renaming all_eq_true_iff_forall_mem->sC,getD_eq_getD_getElem?->CB,getElem?_eq_getElem->D8,getElem?_eq_some_iff->Fl,getElem?_setIfInBounds->SK,getElem?_toList->A3z,getElem_map->Abe,getElem_range->rY,length_toList->CW,mapM_eq_mapM_toList->UW,range->Ip,replicate->Jm,toArray_toList->Di,toList_inj->Adu,toList_map->Gl
open Bool renaming and_eq_true->Af,false_eq_true->B_,not_eq_true'->F1,or_eq_true->UX
open Go renaming undef->Bq
open Go.Act renaming eval->SP
open Go.Builtin renaming append_->CC,firstCells->kG,lenOf->LW,len_->Aol
open Go.Code renaming region->ACq
open Go.Deferred renaming ofValue->MK
open Go.Instr renaming build->X1,buildSlice->N8,extract->A3r,field->Adj,fill->Mn,indexAt->ZI,sliceAt->O6,sliceBounds->TN,storeAt->ZH,sureAddr->L6
open Go.Oper renaming upon->ET,wp->Fz
open Go.Program renaming cellsOf->L5
open Go.Region renaming ready->Ss,wanted->XE
open Go.Result renaming andThen_ok->A3
open Go.RowKit.Below renaming heap_alloc->ZM,refl->If
open Go.Sem renaming run->Ge,run_bind->AQ,run_map->AEf,run_pure->Br
open Go.Value renaming bool->Xl
open Go.World renaming cell?->Xz
open Int renaming le_refl->Dg,mul_le_mul_of_nonneg_right->Ac
open List renaming all_eq_true->Cf,append_assoc->L0,append_nil->Mp,contains_eq_mem->JI,drop->g,eq_nil_of_length_eq_zero->A5,ext_getElem?->GI,filter_eq_self->sT,getD_eq_getElem?_getD->Z,getElem?_append_left->AZ,getElem?_append_right->Bk,getElem?_cons_succ->A4a,getElem?_cons_zero->A4b,getElem?_eq_getElem->Ad,getElem?_eq_none->AI,getElem?_eq_some_iff->FY,getElem?_take_of_lt->B8,getElem?_toArray->UV,getElem_append_left->So,getElem_append_right->R2,getElem_cons_zero->Gy,getElem_mem->AM,getElem_of_mem->Hq,getElem_toArray->fD,length_append->AY,length_cons->B0,length_drop->CV,length_nil->HI,length_set->Ba,length_take->AD,mapM_cons->N5,map_append->Ez,map_cons->Cx,map_nil->FW,mem_append->Bn,mem_append_left->Ff,mem_cons->BD,mem_cons_of_mem->AT,mem_cons_self->AO,mem_filter->ES,mem_map->Cn,mem_of_mem_drop->Eh,mem_of_mem_take->BT,mem_zipIdx_iff_getElem?->Lk,nil_append->GV,not_mem_nil->WZ,pairwise_cons->Gz,range->Aq,set_comm->sE,set_set->SL,size_toArray->Jr,take->Bx,take_append_drop->JR,take_zero->R5
open List.Pairwise renaming filter->AEk
open Nat renaming add_assoc->DW,add_comm->Gt,add_mul->DE,add_zero->EJ,eq_zero_or_pos->Fo,le_refl->Ao,le_trans->Bm,lt_irrefl->WW,lt_of_lt_of_le->CG,lt_or_ge->Ct,min_eq_left->rT,min_le_right->Aok,mod_eq_of_lt->EK,mul_le_mul->BG,mul_le_mul_right->AJ,not_le_of_lt->HF,strongRecOn->WX,sub_self->Wh,sub_zero->NQ,succ_mul->MO,zero_add->Cb,zero_le->AN,zero_mul->LX
open Option renaming getD_some->H7,isSome_iff_exists->Bf,map_eq_some_iff->Am,map_none->Qd,map_some->AF
open Option.some renaming injEq->A9
section
variable {P:Program} {Y X:Nat->Prop} {w:World}
theorem EZ{t:TypeId}{k:Nat}(h:FS P t k=true):∃ e i zv,P.underlying t=some (.slice e)/\P.info? e=some i/\i.size=k/\0<k/\i.bytes<=1048576/\i.zero=some zv/\zv.cells.size=k:=by
 unfold FS at h;split at h
 ·rename_i e hu;split at h
  ·rename_i i hi;simp only[Af,beq_iff_eq,decide_eq_true_eq] at h;obtain⟨⟨⟨h1,h2⟩,h3⟩,h4⟩:=h;split at h4
   ·rename_i zv hz;simp only[beq_iff_eq] at h4;exact⟨e,i,zv,hu,hi,h1,by omega,h3,hz,by omega⟩
   ·cases h4
  ·cases h
 ·cases h
theorem GC{t:TypeId}(h:Ht P t=true):∃ e,P.underlying t=some (.slice e):=by
 unfold Ht at h;split at h
 ·rename_i e hu;exact⟨e,hu⟩
 ·cases h
theorem N7(z:List AV)(n:Nat):(CD z n).length=n*z.length:=by
 induction n with
 | zero=>simp[CD]
 | succ n ih=>simp only[CD,AY,ih,MO];omega
theorem sQ(z:List AV)(n:Nat):∀ i,i<n*z.length->(CD z n)[i]? = z[i % z.length]? := by
 induction n with
 | zero=>intro i h;omega
 | succ n ih =>
  intro i h;rw[MO] at h;simp only[CD];by_cases hi:i<z.length
  ·rw[AZ hi,EK hi]
  ·rw[Bk (by omega),ih _ (by omega)];congr 1;exact (Nat.mod_eq_sub_mod (by omega)).symm
theorem sR(z:List AV)(n:Nat):∀ x∈CD z n,x∈z:=by
 induction n with
 | zero=>intro x h;cases h
 | succ n ih =>
  intro x h;simp only[CD,Bn] at h;exact h.elim id (ih x)
theorem Aoh{t:TypeId}{z:List AV}{kl kc:IntKind}{m:Int}(he:FS P t z.length=true)(hz:fM P t z=true)(h0:0<=m)(h1:m<=1048576) :
  ∃ e cells,(Instr.makeSlice t (.int kl m) (.int kc m)).run P w = .ok (.slice (some ⟨w.heap.size,0,none⟩) m.toNat m.toNat) (w.alloc (.cells cells e))/\DN Y X w cells (CD z m.toNat):=by
 obtain⟨e,i,zv,hu,hi,hs,hk,hb,hzv,hzs⟩:=EZ he;unfold fM at hz;rw[hu] at hz;dsimp only at hz;unfold OD at hz;rw[hi] at hz;dsimp only at hz;rw[hzv] at hz;dsimp only at hz;have hc:DN Y X w zv.cells z:=by
  have:=LB (Y:=Y) (X:=X) (w:=w) hz;simpa using this
 have hbb:(i.bytes:Int)*m<=281474976710656:=by
  have a1:(i.bytes:Int)*m<=1048576*m:=Ac (by omega) h0;omega
 have hr:=run_make (P:=P) w t e i zv hu hi hzv kl kc m m h0 (Dg _) hbb (by omega);refine⟨e,_,hr,fun x hx=>hc.1 x (sR z _ x hx),?_,fun j g1 g2 => ?_⟩
 ·rw[size_madeCells,N7,hs]
 ·have hj:j<m.toNat*z.length:=by rw[<- N7];exact g2
  have e1:=sQ z m.toNat j hj;rw[Ad g2] at e1;obtain⟨v,hv,hrv⟩:=hc.get e1.symm;have:(madeCells zv.cells (m.toNat*i.size))[j]'g1=v:=by
   have hv':zv.cells[j % zv.cells.size]? = some v:=by rw[hzs];exact hv
   simp[madeCells,getElem!_def,hv']
  rw[this];exact hrv
def Jt(w:World)(b off n:Nat):List Value:=(Aq n).map fun i=>(w.cell? ⟨b,off+i,none⟩).getD Bq
theorem Qo{b off:Nat}{cs:List AV}(h:FX Y X w b off cs) :
  (Jt w b off cs.length).length=cs.length/\(∀ j u,(Jt w b off cs.length)[j]? = some u->w.cell? ((⟨b,off,none⟩:Addr).add j)=some u) /\
  (∀ (i:Nat) (h:i<cs.length),∃ u,(Jt w b off cs.length)[i]? = some u/\Rd Y X w u cs[i])/\∀ u∈Jt w b off cs.length,u.oneCell'=true:=by
 obtain⟨hd,hm⟩:=h;have hg:∀ (i:Nat) (h:i<cs.length),∃ u,(Jt w b off cs.length)[i]? = some u/\w.cell? ⟨b,off+i,none⟩=some u/\Rd Y X w u cs[i]:=by
  intro i hi;obtain⟨v,h1,h2⟩:=hm i hi;exact⟨v,by simp[Jt,hi,h1],h1,h2⟩
 have hl:(Jt w b off cs.length).length=cs.length:=by simp[Jt]
 refine⟨hl,fun j u hu => ?_,fun i hi => ?_,fun u hu => ?_⟩
 ·have hj:j<cs.length:=by
   have:=(FY.1 hu).1;omega
  obtain⟨v,h1,h2,_⟩:=hg j hj;rw[hu] at h1;cases h1;rw[Hs];exact h2
 ·obtain⟨v,h1,_,h3⟩:=hg i hi;exact⟨v,h1,h3⟩
 ·obtain⟨j,hj,rfl⟩:=Hq hu;obtain⟨v,h1,_,h3⟩:=hg j (by omega);rw[Ad hj] at h1;cases h1;exact (Lj h3 (hd _ (AM _))).1
theorem Hu{t t' ty e e':TypeId}{i:TypeInfo}{args:Array Value}(h:P.underlying t=some (.slice e))(hi:P.info? e=some i)(h':P.underlying t'=some (.slice e')) :
  (CC #[t,t'] ty args).run P w=(CC #[t,t] ty args).run P w:=by
 have hsz:(sizeOf e).run P w = .ok i.size w:=by simp[sizeOf,typeInfo,program,Ge,hi]
 simp only[CC,UV,A4b,A4a];cases h0:args[0]? with
 | none=>rfl
 | some s =>
  cases h1:args[1]? with
  | none=>rfl
  | some x =>
   simp only[AQ,run_underlying h,A3];cases s <;> try rfl
   simp only[AQ,hsz,run_underlying h,run_underlying h',A3,Br]
theorem sS{y:Value}{m:Nat}{ys:List AV}(h:Rd Y X w y (.sl m ys)):(m=0/\ys=[]/\(y = .slice none 0 0\/∃ p c,y = .slice (some p) 0 c))\/∃ b off cap,y = .slice (some ⟨b,off,none⟩) m cap/\FX Y X w b off ys/\m<=cap/\(ys ≠ []->¬ X b):=by
 cases h with
 | nil0=>exact .inl ⟨rfl,rfl,.inl rfl⟩
 | e0 a c=>exact .inl ⟨rfl,rfl,.inr ⟨a,c,rfl⟩⟩
 | sl b off _ cap _ f hd hn hX hY hcell hr=>exact .inr ⟨b,off,cap,rfl,⟨hd,fun i hi=>⟨f i,hcell i hi,hr i hi⟩⟩,hn,hX⟩
def IT(Y X:Nat->Prop)(w:World)(y:Value)(m:Nat)(ys:List AV):Prop:=(m=0/\ys=[]/\(y = .slice none 0 0\/∃ p c,y = .slice (some p) 0 c))\/∃ b off cap,y = .slice (some ⟨b,off,none⟩) m cap/\FX Y X w b off ys/\m<=cap
theorem Abc{y:Value}{m:Nat}{ys:List AV}(h:Rd Y X w y (.sl m ys)):IT Y X w y m ys:=by
 rcases sS h with h | ⟨b,off,cap,h1,h2,h3,_⟩
 ·exact .inl h
 ·exact .inr ⟨b,off,cap,h1,h2,h3⟩
theorem Wd{w':World}{e:TypeId}{k n:Nat}{v:Value}{xs:List Value}{cs:List AV}(hown:w'.ownsRow w.heap.size e k v n xs)(hn:0<n)(hd:Qg cs)(hl:cs.length=n*k)(hx:xs.length=cs.length)
  (hr:∀ (i:Nat) (h:i<cs.length),∃ u,xs[i]? = some u/\Rd Y X w' u cs[i]):Gp Y X (bA w.heap.size) w' v k n cs:=by
 obtain⟨_,h | ⟨g,cap,cur,rfl,hg,hh,hnc,_,hcs,htake⟩⟩:=hown
 ·omega
 ·have hle:n*k<=cap*k:=AJ _ hnc;refine .inr ⟨g,cap,rfl,hnc,hl,hg,⟨hd,cur,e,hh,by omega,fun i hi => ?_⟩,cur,e,hh,by omega⟩;obtain⟨u,h1,h2⟩:=hr i hi;refine⟨u,?_,h2⟩;rw[<- htake,B8 (by omega)] at h1;simpa using h1
theorem We{cs ys:List AV}(h1:Qg cs)(h2:Qg ys):Qg (cs++ys):=fun x hx=>(Bn.1 hx).elim (h1 x) (h2 x)
theorem fN{t e:TypeId}{i:TypeInfo}{B:Nat}(h:TR P t B=true)(hu:P.underlying t=some (.slice e))(hi:P.info? e=some i):B*i.bytes<=140737488355328/\B<=140737488355328:=by
 unfold TR at h;simp only[hu,hi,Af,decide_eq_true_eq] at h;exact h
theorem LF{t t' ty:TypeId}{k n m B:Nat}{cs ys:List AV}{x y:Value}(he:FS P t k=true)(ht':Ht P t'=true)(hB:TR P t B=true)
  (hx:(x = .slice none 0 0/\n=0/\cs=[]/\0<m)\/∃ b cap,x = .slice (some ⟨b,0,none⟩) n cap/\cap<n+m/\FX Y X w b 0 cs) (hlen:cs.length=n*k) (hy:IT Y X w y m ys) (hm0:0<m) (hylen:ys.length=m*k) (hnm:n+m<=B) :
  ∃ v' w',(CC #[t,t'] ty #[x,y]).run P w = .ok v' w'/\Below w.heap.size w w'/\Gp Y (fun c=>X c\/w.heap.size<=c) (bA w.heap.size) w' v' k (n+m) (cs++ys):=by
 obtain⟨e,i,zv,hu,hi,hs,hk,hb,hzv,hzs⟩:=EZ he;obtain⟨e',hu'⟩:=GC ht';rw[Hu hu hi hu'];obtain⟨by_,boff,bcap,rfl,hmem,_⟩:=hy.resolve_left (fun h=>by have:=h.1;omega);obtain⟨n1,n2,n3,n4⟩:=Qo hmem;obtain⟨hB1,hB2⟩:=fN hB hu hi;have hbytes:(n+m)*i.bytes<=140737488355328:=Bm (BG hnm (Ao _)) hB1;have hmax:n+m<=maxLen:=by simp only[maxLen];omega
 rcases hx with ⟨rfl,rfl,rfl,hm⟩ | ⟨b,cap,rfl,hcap,hbm⟩
 ·obtain⟨v',w',hrun,r1,r2,_⟩:=run_append_own (P:=P) w w.heap.size t ty e i zv k i.bytes hu hi hzv hs rfl hzs hk (.slice none 0 0) 0 [] (World.ownsRow_nil w _ e k) ⟨by_,boff,none⟩ m bcap _ (by rw[n1,hylen]) n2 n4 hmax hbytes (Ao _);have hbel:Below w.heap.size w w':=⟨r2.os,r2.tape,r2.output,r2.size,fun c hc=>r2.block c hc (by simp[Value.ownBlock])⟩;refine⟨v',w',hrun,hbel,?_⟩;simp only[GV];refine Wd r1 (by omega) hmem.1 (by rw[hylen,Cb]) (by simp[n1]) (fun j hj => ?_);obtain⟨u,h1,h2⟩:=n3 j hj;exact⟨u,by simpa using h1,(h2.mono fun b hb=>hb).world fun c _ hc=>hbel.block c hc⟩
 ·obtain⟨o1,o2,o3,o4⟩:=Qo hbm;obtain⟨v',w',hrun,r1,r2⟩:=run_append_arg_grows (P:=P) w t ty e i zv k i.bytes hu hi hzv hs rfl hzs hk ⟨b,0,none⟩ n cap _ (by rw[o1,hlen]) o2 ⟨by_,boff,none⟩ m bcap _ (by rw[n1,hylen]) n2 hcap hmax hbytes;have hbel:Below w.heap.size w w':=⟨r2.os,r2.tape,r2.output,r2.size,fun c hc=>r2.block c hc (by simp)⟩;refine⟨v',w',hrun,hbel,?_⟩;refine Wd r1 (by omega) (We hbm.1 hmem.1) (by rw[AY,hlen,hylen,DE]) (by simp[o1,n1]) (fun j hj => ?_);by_cases hj1:j<cs.length
  ·obtain⟨u,h1,h2⟩:=o3 j hj1;refine⟨u,by rw[AZ (by omega)];exact h1,?_⟩;rw[So hj1];exact (h2.mono fun b hb=>hb).world fun c _ hc=>hbel.block c hc
  ·have hj2:j-cs.length<ys.length:=by simp at hj;omega
   obtain⟨u,h1,h2⟩:=n3 _ hj2;refine⟨u,by rw[Bk (by omega),o1];exact h1,?_⟩;rw[R2 (by omega)];exact (h2.mono fun b hb=>hb).world fun c _ hc=>hbel.block c hc
theorem TS{t t' ty:TypeId}{k n m b cap:Nat}{cs ys:List AV}{y:Value}(he:FS P t k=true)(ht':Ht P t'=true)(hcap:n+m<=cap)(hX:X b)
  (hblk:GA Y X w b 0 cs) (hroom:Wb w b (cap*k)) (hlen:cs.length=n*k) (hy:IT Y X w y m ys) (hy0:m ≠ 0) (hylen:ys.length=m*k) :
  ∃ w',(CC #[t,t'] ty #[.slice (some ⟨b,0,none⟩) n cap,y]).run P w = .ok (.slice (some ⟨b,0,none⟩) (n+m) cap) w'/\w'.os=w.os/\w'.tape=w.tape/\w'.output=w.output/\w'.heap.size=w.heap.size /\
   (∀ c,c ≠ b->w'.heap[c]? = w.heap[c]?)/\GA Y X w' b 0 (cs++ys)/\Wb w' b (cap*k):=by
 obtain⟨e,i,zv,hu,hi,hs,hk,hb,hzv,hzs⟩:=EZ he;obtain⟨e',hu'⟩:=GC ht';rw[Hu hu hi hu'];obtain⟨by_,boff,bcap,rfl,hmem,_⟩:=hy.resolve_left (fun h=>hy0 h.1);obtain⟨n1,n2,n3,n4⟩:=Qo hmem;obtain⟨hdat,vs,T,hh,_,hcell⟩:=hblk;obtain⟨vs',T',hh',hsz⟩:=hroom;rw[hh] at hh';cases hh';have hle:(n+m)*k<=cap*k:=AJ _ hcap;rw[DE] at hle;generalize hnews:Jt w by_ boff ys.length=news at *
 have hf:=run_firstCells_some (P:=P) w i.size m ⟨by_,boff,none⟩ m bcap news (by rw[n1,hylen,hs]) n2;have hst:=run_storeCells_at P b (n*i.size) T news 0 vs w hh (by rw[hs,n1,hylen];omega) n4;simp only[EJ] at hst;have hext:∀ c,¬ X c->c<w.heap.size->(w.setRow b (Bx (n*i.size) vs.toList++news++g (n*i.size+news.length) vs.toList).toArray).heap[c]? = w.heap[c]? := fun c hc _=>IA _ _ _ _ (fun e=>hc (e ▸ hX));have hrow:=setRow_heap w b vs (Bx (n*i.size) vs.toList++news++g (n*i.size+news.length) vs.toList).toArray T (0,0) hh;have hsize:(Bx (n*i.size) vs.toList++news++g (n*i.size+news.length) vs.toList).toArray.size=vs.size:=by
  simp only[Jr,AY,AD,CV,CW,n1,hylen,hs];omega
 refine⟨w.setRow b (Bx (n*i.size) vs.toList++news++g (n*i.size+news.length) vs.toList).toArray,?_,rfl,rfl,rfl,LA _ _ _,fun c hc=>IA _ _ _ _ hc,⟨We hdat hmem.1,_,T,hrow,?_,fun j hj => ?_⟩,⟨_,T,hrow,by rw[hsize];exact hsz⟩⟩
 ·simp[CC,run_underlying hu,sizeOf,typeInfo,hi,LW,hcap,hf,Addr.add_lit,hst]
 ·rw[hsize,AY,hlen,hylen];omega
 ·have ht:(vs.toList.take (n*i.size)).length=n*k:=by simp only[AD,CW,hs];omega
  simp only[Cb,UV];by_cases hj1:j<cs.length
  ·obtain⟨u,h1,h2⟩:=hcell j hj1;refine⟨u,?_,?_⟩
   ·rw[L0,AZ (by omega),B8 (by rw[hs];omega)];simpa using h1
   ·rw[So hj1];exact h2.world hext
  ·have hj2:j-cs.length<ys.length:=by simp at hj;omega
   obtain⟨u,h1,h2⟩:=n3 _ hj2;refine⟨u,?_,?_⟩
   ·rw[AZ (by simp only[AY,ht,n1];simp at hj;omega),Bk (by omega),ht,<- hlen];exact h1
   ·rw[R2 (by omega)];exact h2.world hext
theorem append_nil{t t' ty:TypeId}{k:Nat}(he:FS P t k=true)(ht':Ht P t'=true):(CC #[t,t'] ty #[.slice none 0 0,.slice none 0 0]).run P w = .ok (.slice none 0 0) w:=by
 obtain⟨e,i,zv,hu,hi,hs,hk,hb,hzv,hzs⟩:=EZ he;obtain⟨e',hu'⟩:=GC ht';rw[Hu hu hi hu'];simp[CC,run_underlying hu,sizeOf,typeInfo,hi,LW,kG]
theorem LG{t t' ty:TypeId}{k c:Nat}{p:Addr}(he:FS P t k=true)(ht':Ht P t'=true):(CC #[t,t'] ty #[.slice none 0 0,.slice (some p) 0 c]).run P w = .ok (.slice none 0 0) w:=by
 obtain⟨e,i,zv,hu,hi,hs,hk,hb,hzv,hzs⟩:=EZ he;obtain⟨e',hu'⟩:=GC ht';rw[Hu hu hi hu'];have hf:=run_firstCells_some (P:=P) w i.size 0 p 0 c [] (by simp) (by simp);simp[CC,run_underlying hu,sizeOf,typeInfo,hi,LW,hf]
theorem OF{t t' ty:TypeId}{k n b cap:Nat}(he:FS P t k=true)(ht':Ht P t'=true)(hn:n<=cap) :
  (CC #[t,t'] ty #[.slice (some ⟨b,0,none⟩) n cap,.slice none 0 0]).run P w = .ok (.slice (some ⟨b,0,none⟩) n cap) w:=by
 obtain⟨e,i,zv,hu,hi,hs,hk,hb,hzv,hzs⟩:=EZ he;obtain⟨e',hu'⟩:=GC ht';rw[Hu hu hi hu'];simp[CC,run_underlying hu,sizeOf,typeInfo,hi,LW,kG,hn,storeCells]
theorem Ky{t t' ty:TypeId}{k n b cap c:Nat}{p:Addr}(he:FS P t k=true)(ht':Ht P t'=true)(hn:n<=cap) :
  (CC #[t,t'] ty #[.slice (some ⟨b,0,none⟩) n cap,.slice (some p) 0 c]).run P w = .ok (.slice (some ⟨b,0,none⟩) n cap) w:=by
 obtain⟨e,i,zv,hu,hi,hs,hk,hb,hzv,hzs⟩:=EZ he;obtain⟨e',hu'⟩:=GC ht';rw[Hu hu hi hu'];have hf:=run_firstCells_some (P:=P) w i.size 0 p 0 c [] (by simp) (by simp);simp[CC,run_underlying hu,sizeOf,typeInfo,hi,LW,hf,hn,storeCells]
theorem JP{len cap m h l:Nat}{lo hi mx:Option Value}(hmx:(mx=none/\m=cap)\/∃ k i,mx=some (.int k i)/\0<=i/\i.toNat=m/\m<=cap)(hhi:(hi=none/\mx=none/\h=len)\/∃ k i,hi=some (.int k i)/\0<=i/\i.toNat=h/\h<=m)
  (hlo:(lo=none/\l=0)\/∃ k i,lo=some (.int k i)/\0<=i/\i.toNat=l/\l<=h):(TN true len cap lo hi mx).run P w = .ok (l,h,m) w:=by
 have hb:∀ (k:IntKind) (i:Int) (y n:Nat) (KI:BoundsCode),0<=i->i.toNat=n->n<=y->(Instr.sliceBound (.int k i) y KI).run P w = .ok n w:=by
  intro k i y n KI h0 h1 h2;rw[run_sliceBound w k i y KI h0 (by omega),h1]
 rcases hmx with ⟨rfl,rfl⟩ | ⟨km,im,rfl,m0,m1,m2⟩ <;> rcases hhi with ⟨rfl,hh,rfl⟩ | ⟨kh,ih,rfl,h0,h1,h2⟩ <;> rcases hlo with ⟨rfl,rfl⟩ | ⟨kl,il,rfl,l0,l1,l2⟩;all_goals first
  | cases hh;done
  | simp only[TN,AQ,Br,A3]
 all_goals first
  | rfl
  | simp only[hb kl il _ l _ l0 l1 l2,A3];done
  | simp only[hb kh ih _ h _ h0 h1 h2,A3];done
  | simp only[hb kh ih _ h _ h0 h1 h2,hb kl il _ l _ l0 l1 l2,A3];done
  | simp only[hb km im _ m _ m0 m1 m2,hb kh ih _ h _ h0 h1 h2,A3];done
  | simp only[hb km im _ m _ m0 m1 m2,hb kh ih _ h _ h0 h1 h2,hb kl il _ l _ l0 l1 l2,A3];done
theorem JQ{t:TypeId}{k len cap m h l:Nat}{a:Option Addr}{lo hi mx:Option Value}(he:FS P t k=true)(hb:(TN true len cap lo hi mx).run P w = .ok (l,h,m) w) :
  (O6 t (.slice a len cap) lo hi mx).run P w = .ok (.slice (if m=l then a else a.map (·.add (l*k))) (h-l) (m-l)) w:=by
 obtain⟨e,i,zv,hu,hi',hs,hk,hb',hzv,hzs⟩:=EZ he;have hsz:(sizeOf e).run P w = .ok k w:=by simp[sizeOf,typeInfo,program,Ge,hi',hs]
 simp only[O6,AQ,run_underlying hu,A3,Instr.slice,hb,hsz,Br]
theorem Ads{v:Value}{n l h m k:Nat}{cs:List AV}(hv:Rd Y X w v (.sl n cs))(hlh:l<=h)(hhn:h<=n) :
  ∃ a cap,v = .slice a n cap/\n<=cap/\(h<=m->(a=none->m=0)->Rd Y X w (.slice (if m=l then a else a.map (·.add (l*k))) (h-l) (m-l)) (.sl (h-l) ((cs.drop (l*k)).take ((h-l)*k))))/\(a=none->cap=0):=by
 cases hv with
 | nil0 =>
  refine⟨none,0,rfl,Ao _,fun _ hm => ?_,fun _=>rfl⟩;have h0:h=0:=by omega
  have l0:l=0:=by omega
  subst h0 l0;rw[hm rfl];simpa using Rd.nil0
 | e0 a c =>
  have h0:h=0:=by omega
  have l0:l=0:=by omega
  subst h0 l0;refine⟨some a,c,rfl,AN _,fun _ _ => ?_,fun h=>by cases h⟩;simp only[NQ,LX,R5];split
  ·exact .e0 _ _
  ·exact .e0 _ _
 | sl b off _ cap _ f hd hn hX hY hcell hr =>
  refine⟨_,cap,rfl,hn,fun hhm _ => ?_,fun h=>by cases h⟩;have hlen:((cs.drop (l*k)).take ((h-l)*k)).length<=cs.length-l*k:=by simp only[AD,CV];omega
  have hdat:Qg ((cs.drop (l*k)).take ((h-l)*k)):=fun x hx=>hd x (Eh (BT hx));by_cases hml:m=l
  ·have hh:h-l=0:=by omega
   rw[if_pos hml,hh,LX,R5];exact .sl b off 0 (m-l) [] f (fun x hx=>by cases hx) (AN _) (fun h=>absurd rfl h) (fun ⟨c,hc,_⟩=>by cases hc) (fun i hi=>by simp at hi) (fun i hi=>by simp at hi)
  ·rw[if_neg hml];simp only[AF,Hs];refine .sl b (off+l*k) (h-l) (m-l) _ (fun i=>f (l*k+i)) hdat (by omega) (fun hne=>hX (fun e=>hne (by rw[e];simp))) (fun ⟨c,hc,h1⟩=>hY ⟨c,Eh (BT hc),h1⟩) (fun i hi => ?_) (fun i hi => ?_)
   ·rw[DW];exact hcell _ (by omega)
   ·have:=hr (l*k+i) (by omega);simpa using this
end
def FA(roots:List (Nat × Nat))(oks:List Nat)(dst:Option Nat):Bool:=roots.all fun p => !(some p.2==dst) || oks.contains p.1
def SO(roots:List (Nat × Nat))(dst:Option Nat)(d:Nat):Bool :=
 match dst with
 | some t=>roots.contains (t,d) && !(t==d)
 | none=>true
def fO(roots:List (Nat × Nat))(dst:Option Nat)(ks:List Nat):Bool:=dst.isSome&&roots.all fun p => !(some p.2==dst) || ks.contains p.1
def EB(roots:List (Nat × Nat))(oks:List Nat)(dst:Option Nat):K->Bool
 | .new _ ks=>fO roots dst ks
 | .box _ ks=>fO roots dst ks
 | .adr _ d _=>FA roots oks dst&&SO roots dst d
 | .ixo _ d _ _=>FA roots oks dst&&SO roots dst d
 | .cpy x=>FA roots oks dst&&SO roots dst x
 | .cpo x=>FA roots oks dst&&SO roots dst x
 | .st _ _ _ _=>dst.isNone
 | .bls _ _ _=>FA roots oks dst&&dst.isSome
 | .blo _ _ _ _=>FA roots oks dst&&dst.isSome
 | .mks _ _=>FA roots oks dst&&dst.isSome
 | .tra _=>FA roots oks dst&&dst.isSome
 | .apd _ _ _ _ _=>FA roots oks dst&&dst.isSome
 | .clo _ _=>FA roots oks dst&&dst.isSome
 | .nlo _=>FA roots oks dst&&dst.isSome
 | .bdo _ _ l=>FA roots (oks++l) dst&&dst.isSome
 | .cln _ _ l=>FA roots (oks++l) dst&&dst.isSome
 | .stl x v=>dst.isNone&&roots.contains (x,v)
 | .fdo _=>FA roots oks dst&&dst.isSome
 | .exo _=>FA roots oks dst&&dst.isSome
 | .sub _ d _ _ _=>FA roots oks dst&&SO roots dst d
 | .app _ x _ _ _=>FA roots oks dst&&dst.isSome&&FA roots oks (some x)
 | .apb _ _ _ _ _=>FA roots oks dst&&dst.isSome
 | .slo _ _ _=>FA roots oks dst&&dst.isSome
 | _=>FA roots oks dst
theorem AH{s:Aj}{roots:List (Nat × Nat)}{oks:List Nat}{dst:Option Nat}(hkd:∀ t∈oks,EP (A8 s t)=false)(h:FA roots oks dst=true):jZ s roots dst:=by
 intro d hd t ht;simp only[FA,Cf,UX,F1,beq_eq_false_iff_ne,ne_eq,JI,decide_eq_true_eq] at h;rcases h (t,d) ht with h1 | h1
 ·exact absurd hd.symm h1
 ·exact hkd t h1
theorem Wf{s:Aj}{oks ls:List Nat}(hkd:∀ t∈oks,EP (A8 s t)=false)(hls:(ls.all fun t=>GT (A8 s t))=true):∀ t∈oks++ls,EP (A8 s t)=false:=by
 intro t ht;rcases Bn.1 ht with ht | ht
 ·exact hkd t ht
 ·exact fE (Cf.1 hls t ht)
theorem Ja{roots:List (Nat × Nat)}{dst:Option Nat}{d:Nat}(h:SO roots dst d=true):∀ t,dst=some t->(t,d)∈roots/\t ≠ d:=by
 intro t ht;subst ht;simpa [SO] using h
theorem Wg{roots:List (Nat × Nat)}{dst:Option Nat}{ks:List Nat}(h:fO roots dst ks=true):dst.isSome=true/\∀ d,dst=some d->∀ t,(t,d)∈roots->t∈ks:=by
 simp only[fO,Af,Cf,UX,F1,beq_eq_false_iff_ne,ne_eq,JI,decide_eq_true_eq] at h;refine⟨h.1,fun d hd t ht => ?_⟩;rcases h.2 (t,d) ht with h1 | h1
 ·exact absurd hd.symm h1
 ·exact h1
section
variable {P:Program} {Y X0:Nat->Prop} {roots:List (Nat × Nat)} {w0:Base} {w:World} {s:Aj} {a:Act} {Q:Exit->Act->World->Prop}
theorem Qp{w:World}{b off:Nat}{vs:Array Value}{T:TypeId}{fz:Nat × Nat}(h:w.heap[b]? = some (.cells vs T fz)):w.cell? ⟨b,off,none⟩=vs[off]? := by
 simp only[Xz,h];rfl
theorem OG{Y X:Nat->Prop}{w:World}{zero:List Value}(hz:0<zero.length):∀ (n:Nat) (z:List AV),TQ z zero n=true->z.length=n*zero.length ->
  Qg z/\∀ (i:Nat) (h:i<z.length),∃ v,zero[i % zero.length]? = some v/\Rd Y X w v z[i]
 | 0,z,_,hl=>by
  have:z=[]:=A5 (by simpa using hl);subst this;exact⟨fun x hx=>(by cases hx),fun i h=>(by simp at h)⟩
 | n+1,z,h,hl=>by
  simp only[TQ,Af] at h;obtain⟨h1,h2⟩:=h;have hl':z.length=n*zero.length+zero.length:=by rw[hl,MO]
  obtain⟨hd,ih⟩:=OG (Y:=Y) (X:=X) (w:=w) hz n (z.drop zero.length) h2 (by simp;omega);have hc:=LB (Y:=Y) (X:=X) (w:=w) h1;refine⟨fun x hx => ?_,fun i hi => ?_⟩
  ·rw[<- JR zero.length z,Bn] at hx;rcases hx with hx | hx
   ·exact hc.1 x hx
   ·exact hd x hx
  ·by_cases hlt:i<zero.length
   ·rw[EK hlt];have e:(z.take zero.length)[i]? = some z[i]:=by rw[B8 hlt,Ad hi]
    obtain⟨v,hv,hr⟩:=hc.get e;exact⟨v,by simpa using hv,hr⟩
   ·have hi2:i-zero.length<(z.drop zero.length).length:=by simp;omega
    obtain⟨v,hv,hr⟩:=ih (i-zero.length) hi2;have e1:(i-zero.length) % zero.length=i % zero.length:=by
     rw[<- Nat.add_mod_right (i-zero.length) zero.length];congr 1;omega
    have e2:(z.drop zero.length)[i-zero.length]=z[i]:=by
     rw[List.getElem_drop];congr 1;omega
    exact⟨v,e1 ▸ hv,e2 ▸ hr⟩
theorem IR.world{Y X:Nat->Prop}{B:Nat->Prop}{tm:Array Value}{w w':World}{t:Nat}{v:Value}{r:Reg}(h:IR Y X B roots tm w t v r)(hw:Below w.heap.size w w'):IR Y X B roots tm w' t v r:=by
 cases r with
 | val x=>exact Rd.world h fun b _ hb=>hw.block b hb
 | box cs=>obtain⟨b,e1,e2,e3⟩:=h;exact⟨b,e1,e2,e3.world (fun c _ hc=>hw.block c hc) (hw.block b e3.lt)⟩
 | own k n cs=>exact Gp.world h (fun c _ hc=>hw.block c hc) (fun b _ hb=>hw.block b hb)
 | agn b k n cs=>exact Li.world h (fun c _ hc=>hw.block c hc) (fun b _ hb=>hw.block b hb)
 | bxl d =>
  obtain⟨e1,b,e2,e3,e4,e5⟩:=h;exact⟨e1,b,e2,e3,CG e4 hw.size,fun i hi=>by rw[<- e5 i hi];exact FO (hw.block b e4)⟩
 | mem cs=>obtain⟨b,off,e1,e2,e3⟩:=h;exact⟨b,off,e1,e2,e3.world (fun c _ hc=>hw.block c hc) (fun hb=>hw.block b hb)⟩
 | ptr d off=>exact h
 | dup d=>exact h
 | sub _ _ _ _=>exact h
 | dead=>trivial
theorem Aoi{Y X:Nat->Prop}{w:World}{t:TypeId}{n off:Nat}{one:Bool}{vs:Array Value}{cs:List AV}{x:AV}(ho:OB P t n one=true)(hc:DN Y X w vs cs)(ht:Bj cs off n one=some x) :
  ∃ v,(part t vs off).run P w = .ok v w/\Rd Y X w v x:=by
 obtain⟨h1,h2⟩:=MS ho;obtain⟨hd,hs,hr⟩:=hc;unfold Bj at ht;cases one with
 | true =>
  simp only[if_true] at ht;obtain⟨v,hv,hrv⟩:=DN.get ⟨hd,hs,hr⟩ ht;exact⟨v,by simp[part,h1,hv],hrv⟩
 | false =>
  simp only[B_,if_false] at ht;split at ht
  ·rename_i hle;cases ht;refine⟨.agg (vs.extract off (off+n)),by simp[part,h1,h2],.agg _ _ (fun y hy=>hd y (Eh (BT hy))) (by simp;omega) (fun i g1 g2 => ?_)⟩;have hi:i<n:=by simp at g2;omega
   have:=hr (off+i) (by omega) (by omega);simpa using this
  ·cases ht
theorem Ei{x':Operand}{x:Nat}(h1:Ck x' (.t x)=true):a.eval x'=a.tmps.getD x Bq:=by
 cases x' <;> simp only[Ck] at h1 <;> try cases h1
 simp only[beq_iff_eq] at h1;subst h1;rfl
theorem MU{o:Oper}{x:Nat}(h:U_ o.op x=true):(execOp a.eval o).run P w = .ok (.value (a.tmps.getD x Bq)) w:=by
 unfold U_ at h;split at h
 ·rename_i y hop;simp[execOp,hop,Ei (a:=a) h]
 ·rename_i y hop;simp[execOp,hop,Ei (a:=a) h]
 ·cases h
theorem Abd{x:Opd}{v:AV}(h:x.reg s = .val v):x.av s=some v:=by simp only [Opd.av,h]
theorem kH{x:Opd}{k n:Nat}{cs:List AV}(h:x.reg s = .own k n cs):∃ m,x = .t m:=by
 cases x with
 | t m=>exact⟨m,rfl⟩
 | c y=>simp only[Opd.reg] at h;cases h
theorem R6{Y X X':Nat->Prop}{B B' U:Nat->Prop}{w':World}{v:Value}{k n:Nat}{cs:List AV}(hB:∀ b,B' b->B b)(h:Gp Y (fun c=>X c\/Bh v=some c) B' w' v k n cs)(hX:∀ b,X' b->X b\/(U b/\Bh v=some b)):Gp Y X' B w' v k n cs :=
 (h.mono fun c hc => .inl ((hX c hc).imp id And.right)).lower hB
theorem Sr{s:Aj}:∀ {ps:List (Nat × Nat × Opd)} {cs cs':List AV},G8 s cs ps=some cs'->cs'.length=cs.length
 | [],cs,cs',h=>by simp only[G8,A9] at h;rw[h]
 | (off,n,o)::ps,cs,cs',h=>by
  simp only[G8] at h;split at h
  ·cases h
  ·split at h
   ·cases h
   ·split at h
    ·cases h
    ·rename_i hl;rw[Sr h,(NU hl).2.1]
theorem kI(h:Rel Y X0 roots w0 s a w){d k n:Nat}{cells:Array Value}{cs:List AV}{T:TypeId}(hks:∀ t,(t,d)∈roots->EP (A8 s t)=false)(hc:DN Y (fun b=>X0 b\/XS s a.tmps b) w cells cs)(hl:cs.length=n*k) :
  Rel Y X0 roots w0 (Ea s (some d) (.own k n cs)) (a.put (some d) (.slice (some ⟨w.heap.size,0,none⟩) n n)) (w.alloc (.cells cells T)):=by
 refine DA (ks:=[]) h ((If _ _).alloc (Ao _) _) (fun t ht => .inr (hks t ht)) (fun _ b hb=>by simp only[Bh,H6,AF,A9] at hb;omega) (fun X h1 _ => ?_);have hc':=(hc.mono (X':=X) (fun b hb=>(h1 b hb).imp id Anq)).world (w':=w.alloc (.cells cells T)) (fun b _ hb=>ZM _ _ _ hb);have hh:(w.alloc (.cells cells T)).heap[w.heap.size]? = some (.cells cells T (0,0)):=by show (w.heap.push _)[w.heap.size]? = _;simp
 have hs:=hc.2.1;refine .inr ⟨w.heap.size,n,rfl,Ao _,hl,.inl h.below.size,⟨hc.1,cells,T,hh,by omega,fun i hi => ?_⟩,cells,T,hh,by omega⟩;exact⟨cells[i]'(by omega),by rw[Cb,D8],hc'.2.2 i (by omega) hi⟩
theorem R7{Y X:Nat->Prop}{B:Nat->Prop}{d:Nat}{tm:Array Value}{w:World}{v:Value}{k n:Nat}{cs:List AV}{ow:Bool}(h:Gp Y X B w v k n cs)(hn:ow=false->∀ b,Bh v=some b->¬ X b)(hY:∀ b,Y b->¬ B b):IR Y X B roots tm w d v (if ow then .own k n cs else .val (.sl n cs)):=by
 cases ow with
 | true=>exact h
 | false=>exact Gp.frozen h (fun b hb => .inl hb) (hn rfl) hY
def Aoj:Value->Nat
 | .slice _ _ c=>c
 | _=>0
theorem R8(h:Rel Y X0 roots w0 s a w){o:Option Opd}{o':Option Operand}{d n:Nat}(ho:PH o' o=true)(hb:Hm s d o=some n):(o=none/\o'=none/\n=d)\/∃ x,o=some x/\∃ k i,o'.map a.eval=some (.int k i)/\0<=i/\i.toNat=n:=by
 cases o with
 | none =>
  cases o' with
  | none=>simp only[Hm,A9] at hb;exact .inl ⟨rfl,rfl,hb.symm⟩
  | some y=>cases ho
 | some x =>
  cases o' with
  | none=>cases ho
  | some y =>
   simp only[PH] at ho;simp only[Hm] at hb;split at hb
   ·rename_i k i hi;split at hb
    ·rename_i h0;cases hb;have:=CN h ho hi;generalize hv:a.eval y=v at this;cases this;exact .inr ⟨x,rfl,k,i,by simp[hv],h0,rfl⟩
    ·cases hb
   ·cases hb
theorem Xm(h:Rel Y X0 roots w0 s a w){o:Option Opd}{o':Option Operand}{l hh:Nat}(ho:PH o' o=true)(hb:Hm s 0 o=some l)(hle:l<=hh):(o'.map a.eval=none/\l=0)\/∃ k i,o'.map a.eval=some (.int k i)/\0<=i/\i.toNat=l/\l<=hh:=by
 rcases R8 h ho hb with ⟨_,rfl,rfl⟩ | ⟨_,_,k,i,h1,h2,h3⟩
 ·exact .inl ⟨rfl,rfl⟩
 ·exact .inr ⟨k,i,h1,h2,h3,hle⟩
theorem A4g(h:Rel Y X0 roots w0 s a w){o:Option Opd}{o':Option Operand}{d m cap:Nat}(ho:PH o' o=true)(hb:Hm s d o=some m)(hd:d=cap)(hle:m<=cap):(o'.map a.eval=none/\m=cap)\/∃ k i,o'.map a.eval=some (.int k i)/\0<=i/\i.toNat=m/\m<=cap:=by
 rcases R8 h ho hb with ⟨_,rfl,rfl⟩ | ⟨_,_,k,i,h1,h2,h3⟩
 ·exact .inl ⟨rfl,hd⟩
 ·exact .inr ⟨k,i,h1,h2,h3,hle⟩
theorem ACp(h:Rel Y X0 roots w0 s a w){o:Option Opd}{o':Option Operand}{d m cap:Nat}(ho:PH o' o=true)(hb:Hm s d o=some m)(hle:m<=cap):(o'.map a.eval=none/\(if o.isSome then m else cap)=cap)\/∃ k i,o'.map a.eval=some (.int k i)/\0<=i/\i.toNat=(if o.isSome then m else cap)/\(if o.isSome then m else cap)<=cap:=by
 rcases R8 h ho hb with ⟨rfl,rfl,rfl⟩ | ⟨x,rfl,k,i,h1,h2,h3⟩
 ·exact .inl ⟨rfl,rfl⟩
 ·exact .inr ⟨k,i,h1,h2,h3,hle⟩
theorem fP(h:Rel Y X0 roots w0 s a w){o om:Option Opd}{o' om':Option Operand}{n hh mm:Nat}(ho:PH o' o=true)(Vb:PH om' om=true)(hb:Hm s n o=some hh)(hs:om.isSome->o.isSome)(h1:om.isSome=true->hh<=mm)(h2:¬ om.isSome=true->hh<=mm) :
  (o'.map a.eval=none/\om'.map a.eval=none/\hh=n)\/∃ k i,o'.map a.eval=some (.int k i)/\0<=i/\i.toNat=hh/\hh<=mm:=by
 rcases R8 h ho hb with ⟨rfl,rfl,rfl⟩ | ⟨x,rfl,k,i,g1,g2,g3⟩
 ·refine .inl ⟨rfl,?_,rfl⟩;cases om with
  | none=>cases om' with | none=>rfl | some y=>cases Vb
  | some z=>have:=hs rfl;cases this
 ·refine .inr ⟨k,i,g1,g2,g3,?_⟩;by_cases hh:om.isSome=true
  ·exact h1 hh
  ·exact h2 hh
theorem Grown.from_{B:Base}{w:World}(h:Grown B w):∀ b,bA w.heap.size b->B.mine b:=fun _ hb => .inl (Bm h.size hb)
theorem Ms(h:Rel Y X0 roots w0 s a w){w':World}(hw:Below w.heap.size w w'){d k n:Nat}{v:Value}{cs:List AV}{ow:Bool}{ks:List Nat}(hks:∀ t,(t,d)∈roots->t∈ks\/EP (A8 s t)=false)
  (hown:Gp Y (fun c=>(X0 c\/XS s a.tmps c)\/w.heap.size<=c) (bA w.heap.size) w' v k n cs) :
  Rel Y X0 roots w0 (Ea (BZ s (ks.map fun u=>(u,Reg.dead))) (some d) (if ow then .own k n cs else .val (.sl n cs))) (a.put (some d) v) w':=by
 refine DA h hw hks (fun _ b hb=>(Gp.block hown hb).1) (fun X g1 g2 => ?_);have hown':Gp Y X w0.mine w' v k n cs:=(hown.mono fun c hc => .inl ((g1 c hc).imp id Anq)).lower h.below.from_;refine R7 hown' (fun he c hc hXc => ?_) h.lowY;subst he;have h1:=(Gp.block hown hc).1;have:=h.lowX c (g2 rfl c hXc);unfold bA at h1;omega
theorem LY(h:Rel Y X0 roots w0 s a w){d k:Nat}{ow:Bool}{ks:List Nat}(hks:∀ t,(t,d)∈roots->t∈ks\/EP (A8 s t)=false) :
  Rel Y X0 roots w0 (Ea (BZ s (ks.map fun u=>(u,Reg.dead))) (some d) (if ow then .own k 0 [] else .val (.sl 0 []))) (a.put (some d) (.slice none 0 0)) w :=
 Ms h (If _ _) hks (.inl ⟨rfl,rfl,rfl⟩)
theorem XC{o:Oper}{x' y':Operand}{t t':TypeId}{nx d k n m B:Nat}{cs ys:List AV}{ow:Bool}{K':Act->World->Prop}(h:Rel Y X0 roots w0 s a w)
  (hop:o.op = .call { callee := .builtin .append,args:=#[x',y'],argTypes:=#[t,t'] }) (h1:Ck x' (.t nx)=true) (h3:FS P t k=true) (h4:Ht P t'=true) (h5:TR P t B=true) (hdst:o.dst=some d)
  (hfr:∀ u,(u,d)∈roots->EP (A8 s u)=false) (hxr:A8 s nx = .own k n cs) (hyr:IT Y (fun b=>X0 b\/XS s a.tmps b) w (a.eval y') m ys) (hylen:ys.length=m*k) (hnm:n+m<=B)
  (hK:∀ a' w',Rel Y X0 roots w0 (Ea (BZ s [(nx,.dead)]) (some d) (if ow then .own k (n+m) (cs++ys) else .val (.sl (n+m) (cs++ys)))) a' w'->K' a' w'):o.wp P a w K' Q:=by
 have hrunO:∀ {v:Value} {w':World},(CC #[t,t'] o.type #[a.eval x',a.eval y']).run P w = .ok v w'->(execOp a.eval o).run P w = .ok (.value v) w':=by
  intro v w' hh;simp[execOp,hop,resolve,invoke,builtin,hh]
 rcases h.ownLow hxr with ⟨e1,rfl,rfl⟩ | ⟨b,cap,e1,e2,e3,e4,e5,e6,hXb⟩
 ·have hxv:a.eval x' = .slice none 0 0:=by rw[Ei h1,e1]
  rw[hxv] at hrunO;simp only[Cb,GV] at hK;rcases Fo m with hm | hm
  ·subst hm;have hy0:ys=[]:=A5 (by simpa using hylen);subst hy0;have hr:(execOp a.eval o).run P w = .ok (.value (.slice none 0 0)) w:=by
    rcases hyr with ⟨_,_,hyv | ⟨p,c,hyv⟩⟩ | ⟨b,off,cap,hyv,_⟩
    ·rw[hyv] at hrunO;exact hrunO (append_nil (P:=P) (w:=w) (ty:=o.type) h3 h4)
    ·rw[hyv] at hrunO;exact hrunO (LG (P:=P) (w:=w) (ty:=o.type) h3 h4)
    ·rw[hyv] at hrunO;exact hrunO (LG (P:=P) (w:=w) (ty:=o.type) h3 h4)
   refine Bz hr (hK _ _ ?_);rw[hdst];exact LY (ks:=[nx]) h (fun u hu => .inr (hfr u hu))
  ·obtain⟨v',w',hrun,hbel,hown⟩:=LF (P:=P) (ty:=o.type) (n:=0) (cs:=[]) h3 h4 h5 (.inl ⟨rfl,rfl,rfl,hm⟩) (by simp) hyr hm hylen (by omega);have hr:=hrunO hrun;simp only[Fz,hr,ET];refine hK _ _ ?_;rw[hdst];simp only[Cb,GV] at hown;exact Ms (ks:=[nx]) h hbel (fun u hu => .inr (hfr u hu)) hown
 have hxv:a.eval x' = .slice (some ⟨b,0,none⟩) n cap:=by rw[Ei h1,e1]
 rw[hxv] at hrunO;by_cases hyn:m=0
 ·subst hyn;have hy0:ys=[]:=A5 (by simpa using hylen);subst hy0;have hr:(execOp a.eval o).run P w = .ok (.value (.slice (some ⟨b,0,none⟩) n cap)) w:=by
   rcases hyr with ⟨_,_,hyv | ⟨p,c,hyv⟩⟩ | ⟨b',off',cap',hyv,_⟩
   ·rw[hyv] at hrunO;exact hrunO (OF (P:=P) (w:=w) (ty:=o.type) h3 h4 e2)
   ·rw[hyv] at hrunO;exact hrunO (Ky (P:=P) (w:=w) (ty:=o.type) h3 h4 e2)
   ·rw[hyv] at hrunO;exact hrunO (Ky (P:=P) (w:=w) (ty:=o.type) h3 h4 e2)
  refine Bz hr (hK _ _ ?_);rw[hdst];refine Rel.shift h hxr (b:=b) (by rw[e1];rfl) hfr rfl rfl rfl rfl (fun _ _=>rfl) (fun _=>rfl) (fun X g1 g2 => ?_);simp only[EJ,Mp] at g2 |-;exact R7 (.inr ⟨b,cap,rfl,e2,e3,e4,e5.mono fun c hc => .inl (g1 c hc),e6⟩) (fun he=>by subst he;exact fun c hc=>by cases hc;exact g2 rfl) h.lowY
 by_cases hroom:n+m<=cap
 ·obtain⟨w',hrun,g1,g2,g3,g4,g5,g6,g7⟩:=TS (P:=P) (ty:=o.type) h3 h4 hroom (Y:=Y) (X:=fun b=>X0 b\/XS s a.tmps b) (.inr hXb) e5 e6 e3 hyr hyn hylen;have hr:=hrunO hrun;simp only[Fz,hr,ET];refine hK _ _ ?_;rw[hdst];refine Rel.shift h hxr (b:=b) (by rw[e1];rfl) hfr g1 g2 g3 g4 g5 (fun _=>rfl) (fun X q1 q2 => ?_);exact R7 (.inr ⟨b,cap,rfl,hroom,by rw[AY,e3,hylen,DE],e4,g6.mono fun c hc => .inl (q1 c hc),g7⟩) (fun he=>by subst he;exact fun c hc=>by cases hc;exact q2 rfl) h.lowY
 ·obtain⟨v',w',hrun,hbel,hown⟩:=LF (P:=P) (ty:=o.type) h3 h4 h5 (.inr ⟨b,cap,rfl,by omega,e5.mem⟩) e3 hyr (by omega) hylen hnm;have hr:=hrunO hrun;simp only[Fz,hr,ET];refine hK _ _ ?_;rw[hdst];exact Ms (ks:=[nx]) h hbel (fun u hu => .inr (hfr u hu)) hown
theorem Adt(a:Act)(x:Nat):a.put (some x) (a.tmps.getD x Bq)=a:=by
 have e:a.tmps.setIfInBounds x (a.tmps.getD x Bq)=a.tmps:=by
  apply Array.ext
  ·simp
  ·intro i h1 h2;rw[Array.getElem_setIfInBounds];split
   ·rename_i g;subst g;simp[Array.getD,h2]
   ·rfl
 show { a with tmps:=a.tmps.setIfInBounds x (a.tmps.getD x Bq) }=a;rw[e]
theorem A4h(h:Rel Y X0 roots w0 s a w){x d k n hh:Nat}{cs:List AV}(hx:A8 s x = .sub d k 0 hh)(hd:A8 s d = .own k n cs)(hle:hh<=n)(hks:∀ t,(t,x)∈roots->EP (A8 s t)=false) :
  Rel Y X0 roots w0 ((s.set d .dead).set x (.own k hh (cs.take (hh*k)))) a w:=by
 have h0:=h.reg x;rw[hx] at h0;obtain⟨_,hv⟩:=h0;have hd0:=h.reg d;rw[hd] at hd0;have hp:=h.pass (x:=d) (d:=x) (r := .own k hh (cs.take (hh*k))) (v:=a.tmps.getD x Bq) (by rw[hd];rfl) ?_ hks ?_
 ·rw[Adt] at hp;exact hp
 ·rcases hv with ⟨e1,e2,_⟩ | ⟨b,n',cap,e1,_,_,_,e2⟩
  ·rw[e1,e2]
  ·rw[e1,e2,LX];split <;> rfl
 ·intro X g1;rcases hv with ⟨e1,e2,_,rfl⟩ | ⟨b,n',cap,e1,_,hl2,hl3,e2⟩
  ·refine .inl ⟨e2,rfl,by simp⟩
  ·have e3:a.tmps.getD x Bq = .slice (some ⟨b,0,none⟩) hh cap:=by
    rw[e2,LX];split <;> rfl
   rcases hd0 with ⟨q1,_⟩ | ⟨b',cap',q1,q2,q3,q4,q5,q6⟩
   ·rw[e1] at q1;cases q1
   ·rw[e1] at q1;cases q1;refine .inr ⟨b,cap,e3,by omega,?_,q4,?_,q6⟩
    ·rw[AD,q3,rT (AJ _ hle)]
    ·obtain⟨p1,vs,T,p2,p3,p4⟩:=q5.mono (X':=X) fun c hc => .inl (g1 c hc);refine⟨fun y hy=>p1 y (BT hy),vs,T,p2,?_,fun i hi => ?_⟩
     ·have:(cs.take (hh*k)).length<=cs.length:=by rw[AD];exact Aok _ _
      omega
     ·obtain⟨v,r1,r2⟩:=p4 i (by simp at hi;omega);exact⟨v,r1,by simpa using r2⟩
theorem kJ{Y X:Nat->Prop}{w:World}{b off:Nat}{cs:List AV}(h:FX Y X w b off cs)(k:Nat):FX Y X w b off (cs.take k) :=
 ⟨fun y hy=>h.1 y (BT hy),fun i hi=>by
  obtain⟨v,r1,r2⟩:=h.2 i (by simp at hi;omega);exact⟨v,r1,by simpa using r2⟩⟩
set_option maxHeartbeats 4000000 in
theorem simK{o:Oper}{k:K}{oks:List Nat}{F:BL}{r:Reg}{l:List (Nat × Reg)}{K':Act->World->Prop}(h:Rel Y X0 roots w0 s a w)(hF:LC P F)(hk:GB P o.op k=true)(hkd:∀ t∈oks,EP (A8 s t)=false)(hro:EB roots oks o.dst k=true)
  (hev:B7 F s k=some (r,l)) (hK:∀ a' w',Rel Y X0 roots w0 (Ea (BZ s l) o.dst r) a' w'->K' a' w'):o.wp P a w K' Q:=by
 cases k
 case bad=>cases hev
 case mov y =>
  simp only[B7,Am] at hev;obtain⟨x,hx,he⟩:=hev;cases he;simp only[GB] at hk;split at hk
  ·rename_i z hop;exact Bz (v:=a.eval z) (by simp[execOp,hop]) (hK _ _ (h.put (AH hkd hro) (CN h hk hx)))
  ·rename_i z hop;exact Bz (v:=a.eval z) (by simp[execOp,hop]) (hK _ _ (h.put (AH hkd hro) (CN h hk hx)))
  ·cases hk
 case pick c x y =>
  simp only[GB] at hk;split at hk
  ·rename_i c' x' y' hop;simp only[Af] at hk;obtain⟨⟨h1,h2⟩,h3⟩:=hk;simp only[B7] at hev;split at hev
   ·rename_i hc;simp only[Am] at hev;obtain⟨v,hv,he⟩:=hev;cases he;have hcr:=CN h h1 hc;generalize hcv:a.eval c'=cv at hcr;cases hcr;exact Bz (v:=a.eval x') (by simp[execOp,hop,hcv,asBool]) (hK _ _ (h.put (AH hkd hro) (CN h h2 hv)))
   ·rename_i hc;simp only[Am] at hev;obtain⟨v,hv,he⟩:=hev;cases he;have hcr:=CN h h1 hc;generalize hcv:a.eval c'=cv at hcr;cases hcr;exact Bz (v:=a.eval y') (by simp[execOp,hop,hcv,asBool]) (hK _ _ (h.put (AH hkd hro) (CN h h3 hv)))
   ·cases hev
  ·cases hk
 case bin op x y =>
  simp only[GB] at hk;split at hk
  ·rename_i op' t x' y' t' hop;simp only[Af,beq_iff_eq] at hk;obtain⟨⟨rfl,h1⟩,h2⟩:=hk;simp only[B7] at hev;split at hev
   ·rename_i xa ya hx hy;simp only[Am] at hev;obtain⟨z,hz,he⟩:=hev;cases he;have hxr:=CN h h1 hx;have hyr:=CN h h2 hy;generalize hxv:a.eval x'=xv at hxr;generalize hyv:a.eval y'=yv at hyr;cases xa <;> cases ya <;> simp only[NS] at hz <;> try cases hz
    cases hxr;cases hyr;obtain⟨v,hrun,hr⟩:=Aoe (P:=P) (w:=w) (t:=t) (Y:=Y) (X:=fun b=>X0 b\/XS s a.tmps b) (by simpa only [NS] using hz);exact Bz (v:=v) (by simp[execOp,hop,hxv,hyv,Va,hrun]) (hK _ _ (h.put (AH hkd hro) hr))
   ·cases hev
  ·cases hk
 case eqb neg x y =>
  simp only[GB] at hk;split at hk
  ·rename_i op' t x' y' t' hop;simp only[Af,beq_iff_eq] at hk;obtain⟨⟨⟨rfl,h0⟩,h1⟩,h2⟩:=hk;simp only[B7] at hev;split at hev
   ·rename_i xa ya hx hy;cases hev;have hxr:=CN h h1 hx;have hyr:=CN h h2 hy;generalize hxv:a.eval x'=xv at hxr;generalize hyv:a.eval y'=yv at hyr;cases hxr;cases hyr;have ht:P.underlying t=some .bool:=by
     unfold XB at h0;split at h0
     ·assumption
     ·cases h0
    have heq:(Op.equal t (.bool xa) (.bool ya)).run P w = .ok (xa==ya) w:=run_equalIn_bool' w 9999 t xa ya ht;refine Bz (v := .bool (if neg then !(xa==ya) else xa==ya)) ?_ (hK _ _ (h.put (AH hkd hro) (.bool _)));cases neg
    ·simp only[B_,if_false,execOp,hop,hxv,hyv,AQ,MT,A3,binOp,heq,Br]
    ·simp only[if_true,execOp,hop,hxv,hyv,AQ,MT,A3,binOp,heq,Br]
   ·cases hev
  ·cases hk
 case un op x =>
  simp only[GB] at hk;split at hk
  ·rename_i op' t x' hop;simp only[Af,beq_iff_eq] at hk;obtain⟨rfl,h1⟩:=hk;simp only[B7] at hev;split at hev
   ·rename_i xa hx;simp only[Am] at hev;obtain⟨z,hz,he⟩:=hev;cases he;obtain⟨v,hrun,hr⟩:=A4e (P:=P) (CN h h1 hx) hz;exact Bz (v:=v) (by simp[execOp,hop,hrun]) (hK _ _ (h.put (AH hkd hro) hr))
   ·cases hev
  ·cases hk
 case cv k x =>
  simp only[GB] at hk;split at hk
  ·rename_i src dst x' hop;simp only[Af] at hk;obtain⟨⟨h0,h1⟩,h2⟩:=hk;simp only[B7] at hev;split at hev
   ·rename_i k' n hx;cases hev;have hxr:=CN h h2 hx;generalize hxv:a.eval x'=xv at hxr;cases hxr;split at h1
    ·rename_i k'' hd;simp only[beq_iff_eq] at h1;subst h1;unfold fK at h0;split at h0
     ·rename_i ks hs;exact Bz (v := .int k'' (k''.wrap n)) (by simp[execOp,hop,hxv,convert,run_underlying hs,run_underlying hd,Conv.intToInt]) (hK _ _ (h.put (AH hkd hro) (.int _ _)))
     ·cases h0
    ·cases h1
   ·cases hev
  ·cases hk
 case new z ks =>
  simp only[GB] at hk;split at hk
  ·rename_i t hop;cases hev;obtain⟨v,hz,hc⟩:=OE hk;obtain⟨h1,h2⟩:=Wg hro;simp only[Fz];have hrun:(execOp a.eval o).run P w = .ok (.value (.pointer (some ⟨w.heap.size,0,none⟩))) (w.alloc (.cells v.cells t)):=by
    simp[execOp,hop,Instr.alloc,hz,newVar,newRow]
   rw[hrun];exact hK _ _ (Ql h h2 h1 (hc _ _ _))
  ·cases hk
 case box x ks =>
  simp only[GB] at hk;split at hk
  ·rename_i t x' hop;obtain⟨h1,h2⟩:=Wg hro;have hrun:(execOp a.eval o).run P w = .ok (.value (.pointer (some ⟨w.heap.size,0,none⟩))) (w.alloc (.cells (a.eval x').cells t)):=by
    simp[execOp,hop,Instr.box,newVar,newRow]
   simp only[Fz,hrun];simp only[B7] at hev;split at hev
   ·rename_i cs hx;cases hev;have hc:=(OC (n:=cs.length) (ys:=cs) (CN h hk hx) (by simp[GU])).2;exact hK _ _ (Ql h h2 h1 hc)
   ·rename_i y hy hx;split at hev
    ·rename_i hd;cases hev;have hc:=(OC (n:=1) (ys:=[y]) (CN h hk hx) (by cases y <;> first | rfl | cases hd)).2
     exact hK _ _ (Ql h h2 h1 hc)
    ·cases hev
   ·cases hev
  ·cases hk
 case bld z ps =>
  simp only[GB] at hk;split at hk
  ·rename_i t parts hop;simp only[B7,Am] at hev;obtain⟨cs,hcs,he⟩:=hev;cases he;simp only[Aod,Af] at hk;obtain⟨hz,hk⟩:=hk;obtain⟨v,hzv,hc⟩:=OE hz;split at hk
   ·rename_i fs hfs;simp only[Af] at hk;obtain⟨hall,hp⟩:=hk;have hplaces:(fs.mapM fun f=>do pure (f.offset,<- sizeOf f.type):Sem (Array (Nat × Nat))).run P w = .ok (fs.map fun f=>(f.offset,P.cellsOf f.type)) w:=by
     have key:∀ (l:List Field),(∀ f∈l,(P.info? f.type).isSome=true)->(l.mapM fun f=>do pure (f.offset,<- sizeOf f.type):Sem (List (Nat × Nat))).run P w = .ok (l.map fun f=>(f.offset,P.cellsOf f.type)) w:=by
      intro l;induction l with
      | nil=>intro _;rfl
      | cons f l ih =>
       intro hl;obtain⟨i,hi⟩:=Bf.1 (hl f (AO ..));have hsz:(sizeOf f.type).run P w = .ok (P.cellsOf f.type) w:=by simp[sizeOf,typeInfo,program,Ge,hi,L5]
       simp only[N5,AQ,hsz,A3,Br,ih (fun g hg=>hl g (AT _ hg)),Cx]
     have:=key fs.toList (fun f hf=>by simp only[sC] at hall;exact hall f (by simpa using hf));rw[UW];simp only[AEf,this,A3];congr 1;apply Array.ext';simp
    obtain⟨cells',e1,e2⟩:=Qm h (place:=fun i=>(fs.map fun f=>(f.offset,P.cellsOf f.type))[i]?) (pl:=Mr P fs) (fun i off n hi=>by
     unfold Mr at hi;split at hi
     ·rename_i f hf;simp only[Af,beq_iff_eq] at hi;obtain⟨rfl,hsz⟩:=hi;unfold Kx at hsz;split at hsz
      ·rename_i ii hii;simp only[beq_iff_eq] at hsz;simp[hf,L5,hii,hsz]
      ·cases hsz
     ·cases hi) hp (hc _ _ w) hcs
    have e1':Mn (fun i=>(fs.map fun f=>(f.offset,P.cellsOf f.type))[i]?) v.cells (parts.map fun p=>(p.1,a.eval p.2)).toList=some cells':=by rw[Gl];exact e1
    refine Bz (v := .agg cells') ?_ (hK _ _ (h.put (AH hkd hro) (.agg cells' cs e2.1 e2.2.1 e2.2.2)));simp only[execOp,hop,X1,AQ,hzv,A3,run_underlying hfs,hplaces,e1',Br]
   ·rename_i ln e hfs;simp only[Af] at hk;obtain⟨hall,hp⟩:=hk;obtain⟨ii,hii⟩:=Bf.1 hall;have hsz:(sizeOf e).run P w = .ok (P.cellsOf e) w:=by simp[sizeOf,typeInfo,program,Ge,hii,L5]
    obtain⟨cells',e1,e2⟩:=Qm h (place:=fun i=>some (i*P.cellsOf e,P.cellsOf e)) (fun i off n hi=>by
     simp only[Af,beq_iff_eq] at hi;rw[hi.1,hi.2]) hp (hc _ _ w) hcs
    have e1':Mn (fun i=>some (i*P.cellsOf e,P.cellsOf e)) v.cells (parts.map fun p=>(p.1,a.eval p.2)).toList=some cells':=by rw[Gl];exact e1
    refine Bz (v := .agg cells') ?_ (hK _ _ (h.put (AH hkd hro) (.agg cells' cs e2.1 e2.2.1 e2.2.2)));simp only[execOp,hop,X1,AQ,hzv,A3,run_underlying hfs,hsz,e1',Br]
   ·cases hk
  ·cases hk
 case bls n z ps =>
  simp only[GB] at hk;split at hk
  ·rename_i t len parts hop;simp only[B7,Am] at hev;obtain⟨cs,hcs,he⟩:=hev;cases he;simp only[fJ,Af,beq_iff_eq] at hk;obtain⟨rfl,hk⟩:=hk;split at hk
   ·rename_i e hu;split at hk
    ·rename_i ii hii;simp only[Af,decide_eq_true_eq] at hk;obtain⟨⟨⟨h1,h2⟩,h3⟩,hp⟩:=hk;split at h3
     ·rename_i zv hzv;simp only[Af,decide_eq_true_eq,beq_iff_eq] at h3;obtain⟨⟨h3,h4⟩,h5⟩:=h3;have hz0:0<zv.cells.toList.length:=by simp only[CW];omega
      have hzl:zv.cells.toList.length=ii.size:=by simp only[CW];exact h3
      obtain⟨hd,hg⟩:=OG (Y:=Y) (X:=fun b=>X0 b\/XS s a.tmps b) (w:=w) hz0 len z h5 (by rw[h4,hzl]);have hszr:(sizeOf e).run P w = .ok ii.size w:=by simp[sizeOf,typeInfo,program,Ge,hii]
      have hzr:(zeroValue e).run P w = .ok zv w:=by simp[zeroValue,typeInfo,program,Ge,hii,hzv]
      have hc0:DN Y (fun b=>X0 b\/XS s a.tmps b) w ((Ip (len*ii.size)).map fun j=>zv.cells[j % zv.cells.size]!) z:=by
       refine⟨hd,by simp[h4],fun i g1 g2 => ?_⟩;obtain⟨u,hu1,hu2⟩:=hg i g2;have e1:zv.cells[i % zv.cells.size]! = u:=by
        have:zv.cells[i % zv.cells.size]? = some u:=by simpa using hu1
        simp[getElem!_def,this]
       simp only[Abe,rY,e1];exact hu2
      obtain⟨cells',e1,e2⟩:=Qm h (place:=fun i=>some (i*ii.size,ii.size)) (fun i off n hi=>by
       simp only[Af,beq_iff_eq] at hi;rw[hi.1,hi.2]) hp hc0 hcs
      have e1':Mn (fun i=>some (i*ii.size,ii.size)) ((Ip (len*ii.size)).map fun j=>zv.cells[j % zv.cells.size]!) (parts.map fun p=>(p.1,a.eval p.2)).toList=some cells':=by rw[Gl];exact e1
      have e3:len*ii.size=0->(Ip (len*ii.size)).map (fun j=>(#[]:Array Value)[j % (#[]:Array Value).size]!)=(Ip (len*ii.size)).map fun j=>zv.cells[j % zv.cells.size]! := fun hh=>by rw[hh];simp
      have hl1:¬ len*ii.size>2^24:=by omega
      simp only[EB,Af] at hro;obtain⟨d,hdst⟩:=Bf.1 hro.2;have hrun:(execOp a.eval o).run P w = .ok (.value (.slice (some ⟨w.heap.size,0,none⟩) len len)) (w.alloc (.cells cells' e)):=by
       by_cases hl0:len*ii.size=0
       ·simp only[execOp,hop,N8,AQ,run_underlying hu,A3,hszr,hl1,if_false,if_pos hl0,Br,e3 hl0,e1',newRow,run_newObj_alloc]
       ·simp only[execOp,hop,N8,AQ,run_underlying hu,A3,hszr,hl1,if_false,hl0,Br,hzr,e1',newRow,run_newObj_alloc]
      simp only[Fz,hrun];refine hK _ _ ?_;rw[hdst];refine DA (ks:=[]) h ((If _ _).alloc (Ao _) _) (fun u hu => .inr (AH hkd hro.1 d hdst u hu)) (fun he=>(by cases he)) (fun X g1 g2 => ?_);have hc':=(e2.mono (X':=X) (fun b hb=>(g1 b hb).imp id Anq)).world (w':=w.alloc (.cells cells' e)) (fun b _ hb=>ZM _ _ _ hb);refine .sl w.heap.size 0 len len cs (fun i=>cells'.getD i Bq) hc'.1 (Ao _) (fun _ hx => ?_) (fun _ hy=>WW _ (h.lowYw _ hy)) (fun i hi => ?_) (fun i hi => ?_)
      ·exact WW _ (h.lowX _ (g2 rfl _ hx))
      ·have hi2:i<cells'.size:=by rw[hc'.2.1];exact hi
       have hb:(w.alloc (.cells cells' e)).heap[w.heap.size]? = some (.cells cells' e):=by show (w.heap.push _)[w.heap.size]? = _;simp
       rw[Qp hb];simp[hi2]
      ·have hi2:i<cells'.size:=by rw[hc'.2.1];exact hi
       have:=hc'.2.2 i hi2 hi;simpa [hi2] using this
     ·cases h3
    ·cases hk
   ·cases hk
  ·cases hk
 case adr x d off =>
  simp only[GB] at hk;split at hk
  ·rename_i t x' fi hop;simp only[Af] at hk;obtain⟨h1,hk⟩:=hk;split at hk
   ·rename_i fs hfs;split at hk
    ·rename_i f hf;simp only[Af,beq_iff_eq,F1] at hk;obtain⟨⟨rfl,h2⟩,h3⟩:=hk;simp only[EB,Af] at hro;obtain⟨ii,hii⟩:=Bf.1 h3;have hsz:∀ w,(sizeOf f.type).run P w = .ok ii.size w:=fun w=>by simp[sizeOf,typeInfo,program,Ge,hii]
     have hne:¬ ii.size=0:=by
      intro e0;simp[Kx,hii,e0] at h2
     have hx':a.eval x'=a.tmps.getD x Bq:=by
      cases x' <;> simp only[Ck] at h1 <;> try cases h1
      simp only[beq_iff_eq] at h1;subst h1;rfl
     have hrun:∀ b o0,a.eval x' = .pointer (some ⟨b,o0,none⟩)->(execOp a.eval o).run P w = .ok (.value (.pointer (some ⟨b,o0+f.offset,none⟩))) w:=by
      intro b o0 he;simp only[execOp,hop,Instr.fieldAt,AQ,run_underlying hfs,A3,hf,he,L6,Br,fieldPlace,hsz,hne,if_false,Hs]
     have h0:=h.reg x;simp only[B7] at hev;cases hr:A8 s x with
     | box cs =>
      rw[hr] at h0 hev;dsimp only at hev;split at hev
      ·rename_i hxd;subst hxd;cases hev;obtain⟨b,e1,_,_⟩:=h0;have:=hrun b 0 (by rw[hx',e1]);refine Bz this (hK _ _ ?_);exact Qi (p:=⟨b,0,none⟩) h (AH hkd hro.1) (Ja hro.2) (by rw[e1];rfl) rfl
      ·cases hev
     | ptr d' o0 =>
      rw[hr] at h0 hev;dsimp only at hev;split at hev
      ·rename_i hxd;subst hxd;cases hev;obtain⟨_,p,e1,e2,e3⟩:=h0;have:=hrun p.block (p.off+o0) (by rw[hx',e3]);refine Bz this (hK _ _ ?_);have hp:=Qi (off:=o0+f.offset) h (AH hkd hro.1) (Ja hro.2) e1 e2;rw[<- DW] at hp;exact hp
      ·cases hev
     | mem cs =>
      rw[hr] at h0 hev;cases hev;obtain⟨b,o0,e1,e2,e3⟩:=h0;have:=hrun b o0 (by rw[hx',e1]);refine Bz this (hK _ _ ?_);refine Qh h (AH hkd hro.1) (fun hne=>e2 (fun hn=>hne (by rw[hn];simp))) (e3.drop _)
     | val x=>rw[hr] at hev;cases hev
     | own _ _ _=>rw[hr] at hev;cases hev
     | agn _ _ _ _=>rw[hr] at hev;cases hev
     | bxl _=>rw[hr] at hev;cases hev
     | dup d=>rw[hr] at hev;cases hev
     | sub _ _ _ _=>rw[hr] at hev;cases hev
     | dead=>rw[hr] at hev;cases hev
    ·cases hk
   ·cases hk
  ·cases hk
 case ld x d n one =>
  simp only[GB] at hk;split at hk
  ·rename_i t x' hop;simp only[Af] at hk;obtain⟨h1,h2⟩:=hk;have hx':a.eval x'=a.tmps.getD x Bq:=by
    cases x' <;> simp only[Ck] at h1 <;> try cases h1
    simp only[beq_iff_eq] at h1;subst h1;rfl
   have h0:=h.reg x;have fin:∀ (b base off:Nat) (cs:List AV) (y:AV),a.eval x' = .pointer (some ⟨b,base+off,none⟩)->FX Y (fun b=>X0 b\/XS s a.tmps b) w b base cs->Bj cs off n one=some y ->
     (∀ a' w',Rel Y X0 roots w0 (Ea s o.dst (.val y)) a' w'->K' a' w')->o.wp P a w K' Q:=by
    intro b base off cs y he hm ht hK';obtain⟨v,hrun,hr⟩:=jY (P:=P) h2 hm ht;refine Bz (v:=v) ?_ (hK' _ _ (h.put (AH hkd hro) hr));simp only[execOp,hop,Instr.loadAt,he,L6,AQ,Br,A3,hrun]
   simp only[B7] at hev;cases hr:A8 s x with
   | box cs =>
    rw[hr] at h0 hev;dsimp only at hev;split at hev
    ·simp only[Am] at hev;obtain⟨y,hy,he⟩:=hev;cases he;obtain⟨b,e1,_,e3⟩:=h0;exact fin b 0 0 cs y (by rw[hx',e1]) e3.mem hy hK
    ·cases hev
   | ptr d' off =>
    rw[hr] at h0 hev;dsimp only at hev;split at hev
    ·rename_i hd;subst hd;have h3:=h.reg d';cases hr2:A8 s d' with
     | box cs =>
      rw[hr2] at h3 hev;simp only[Am] at hev;obtain⟨y,hy,he⟩:=hev;cases he;obtain⟨b,e1,_,e3⟩:=h3;obtain⟨_,p,g1,g2,g3⟩:=h0;rw[e1] at g1;cases g1;exact fin b 0 off cs y (by rw[hx',g3]) e3.mem hy hK
     | val x=>rw[hr2] at hev;cases hev
     | ptr _ _=>rw[hr2] at hev;cases hev
     | mem _=>rw[hr2] at hev;cases hev
     | own k n cs =>
      rw[hr2] at h3 hev;simp only[Am] at hev;obtain⟨y,hy,he⟩:=hev;cases he;obtain⟨_,p,g1,g2,g3⟩:=h0;rcases h3 with ⟨e1,_⟩ | ⟨b,cap,e1,_,_,_,e3,_⟩
      ·rw[e1] at g1;cases g1
      ·rw[e1] at g1;cases g1;exact fin b 0 off cs y (by rw[hx',g3]) e3.mem hy hK
     | agn _ _ _ _=>rw[hr2] at hev;cases hev
     | bxl _=>rw[hr2] at hev;cases hev
     | dup d=>rw[hr2] at hev;cases hev
     | sub _ _ _ _=>rw[hr2] at hev;cases hev
     | dead=>rw[hr2] at hev;cases hev
    ·cases hev
   | mem cs =>
    rw[hr] at h0 hev;simp only[Am] at hev;obtain⟨y,hy,he⟩:=hev;cases he;obtain⟨b,off,e1,_,e3⟩:=h0;exact fin b off 0 cs y (by simp[hx',e1]) e3 hy hK
   | val x=>rw[hr] at hev;cases hev
   | own _ _ _=>rw[hr] at hev;cases hev
   | agn _ _ _ _=>rw[hr] at hev;cases hev
   | bxl _=>rw[hr] at hev;cases hev
   | dup d=>rw[hr] at hev;cases hev
   | sub _ _ _ _=>rw[hr] at hev;cases hev
   | dead=>rw[hr] at hev;cases hev
  ·cases hk
 case st x d n v =>
  simp only[GB] at hk;split at hk
  ·rename_i t x' v' hop;simp only[Af] at hk;obtain⟨⟨h1,h2⟩,h3⟩:=hk;have hx':a.eval x'=a.tmps.getD x Bq:=by
    cases x' <;> simp only[Ck] at h1 <;> try cases h1
    simp only[beq_iff_eq] at h1;subst h1;rfl
   have hdst:o.dst=none:=by simpa [EB] using hro
   have h0:=h.reg x;simp only[B7] at hev;split at hev
   ·cases hev
   ·rename_i va hva;split at hev
    ·cases hev
    ·rename_i ys hys;obtain⟨hn,hc⟩:=OC (CN h h3 hva) hys;have fin:∀ (b off:Nat) (cs cs':List AV),A8 s d = .box cs->a.tmps.getD d Bq = .pointer (some ⟨b,0,none⟩)->a.eval x' = .pointer (some ⟨b,off,none⟩)->C5 cs off ys=some cs' ->
       (∀ a' w',Rel Y X0 roots w0 (s.set d (.box cs')) a' w'->K' a' w')->o.wp P a w K' Q:=by
      intro b off cs cs' hrd hvd he hl hK';have h4:=h.reg d;rw[hrd] at h4;obtain⟨b',e1,hB,e3⟩:=h4;rw[hvd] at e1;cases e1;have hX:(fun b=>X0 b\/XS s a.tmps b) b := .inr ⟨d,by rw[hrd];rfl,by rw[hvd];rfl⟩;obtain⟨w',hrun,g1,g2,g3,g4,g5,g6,g7⟩:=aZ (P:=P) (LD h2) e3 hX hc hn hl;have hrun':(execOp a.eval o).run P w = .ok .skip w':=by
       simp only[execOp,hop,ZH,he,L6,AQ,Br,A3,hrun]
      simp only[Fz,hrun',ET];rw[hdst];refine hK' _ _ (Rel.store h hrd rfl rfl (by rw[hvd];rfl) hB g1 g2 g3 g4 g5 (fun X hX => ?_));exact⟨b,hvd,hB,g6.mono fun c hc => .inl ((hX c).1 hc)⟩
     have finO:∀ (b off k m:Nat) (cs cs':List AV),A8 s d = .own k m cs->Bh (a.tmps.getD d Bq)=some b->a.eval x' = .pointer (some ⟨b,off,none⟩)->C5 cs off ys=some cs' ->
       (∀ a' w',Rel Y X0 roots w0 (s.set d (.own k m cs')) a' w'->K' a' w')->o.wp P a w K' Q:=by
      intro b off k m cs cs' hrd hvd he hl hK';obtain⟨b',cap,e1,e2,e3,e4,e5,e6,hXb⟩:=(h.ownLow hrd).resolve_left (fun hh=>by rw[hh.1] at hvd;cases hvd);have hbb:b'=b:=by rw[e1] at hvd;simpa [Bh,H6] using hvd
      subst hbb;obtain⟨w',hrun,g1,g2,g3,g4,g5,g6,g7⟩:=aZ (P:=P) (LD h2) e5 (.inr hXb) hc hn hl;have hrun':(execOp a.eval o).run P w = .ok .skip w':=by
       simp only[execOp,hop,ZH,he,L6,AQ,Br,A3,hrun]
      simp only[Fz,hrun',ET];rw[hdst];refine hK' _ _ (Rel.store h hrd rfl rfl hvd e4 g1 g2 g3 g4 g5 (fun X hX => ?_));refine .inr ⟨b',cap,e1,e2,by rw[(NU hl).2.1];exact e3,e4,g6.mono fun c hc => .inl ((hX c).1 hc),g7 _ e6⟩
     rw[hdst] at hK;cases hr:A8 s x with
     | box cs =>
      rw[hr] at h0 hev;dsimp only at hev;split at hev
      ·rename_i hxd;subst hxd;simp only[Am] at hev;obtain⟨cs',hl,he⟩:=hev;cases he;obtain⟨b,e1,_,_⟩:=h0;exact fin b 0 cs cs' hr e1 (by rw[hx',e1]) hl hK
      ·cases hev
     | ptr d' off =>
      rw[hr] at h0 hev;dsimp only at hev;split at hev
      ·rename_i hd;subst hd;have h5:=h.reg d';cases hr2:A8 s d' with
       | box cs =>
        rw[hr2] at h5 hev;simp only[Am] at hev;obtain⟨cs',hl,he⟩:=hev;cases he;obtain⟨b,e1,_,e3⟩:=h5;obtain⟨_,p,g1,g2,g3⟩:=h0;rw[e1] at g1;cases g1;exact fin b off cs cs' hr2 e1 (by rw[hx',g3];simp) hl hK
       | val x=>rw[hr2] at hev;cases hev
       | ptr _ _=>rw[hr2] at hev;cases hev
       | mem _=>rw[hr2] at hev;cases hev
       | own k m cs =>
        rw[hr2] at h5 hev;simp only[Am] at hev;obtain⟨cs',hl,he⟩:=hev;cases he;obtain⟨_,p,g1,g2,g3⟩:=h0;rcases h5 with ⟨e1,_⟩ | ⟨b,cap,e1,_,_,_,e3,_⟩
        ·rw[e1] at g1;cases g1
        ·rw[e1] at g1;cases g1;exact finO b off k m cs cs' hr2 (by rw[e1];rfl) (by rw[hx',g3];simp) hl hK
       | agn _ _ _ _=>rw[hr2] at hev;cases hev
       | bxl _=>rw[hr2] at hev;cases hev
       | dup d=>rw[hr2] at hev;cases hev
       | sub _ _ _ _=>rw[hr2] at hev;cases hev
       | dead=>rw[hr2] at hev;cases hev
      ·cases hev
     | val x=>rw[hr] at hev;cases hev
     | mem _=>rw[hr] at hev;cases hev
     | own _ _ _=>rw[hr] at hev;cases hev
     | agn _ _ _ _=>rw[hr] at hev;cases hev
     | bxl _=>rw[hr] at hev;cases hev
     | dup d=>rw[hr] at hev;cases hev
     | sub _ _ _ _=>rw[hr] at hev;cases hev
     | dead=>rw[hr] at hev;cases hev
  ·cases hk
 case fld x off n one =>
  simp only[GB] at hk;split at hk
  ·rename_i t x' fi hop;simp only[Af] at hk;obtain⟨h1,hk⟩:=hk;split at hk
   ·rename_i fs hfs;split at hk
    ·rename_i f hf;simp only[Af,beq_iff_eq] at hk;obtain⟨rfl,h2⟩:=hk;simp only[B7] at hev;split at hev
     ·rename_i cs hx;simp only[Am] at hev;obtain⟨y,hy,he⟩:=hev;cases he;have hxr:=CN h h1 hx;generalize hxv:a.eval x'=xv at hxr;cases hxr with
      | agg vs _ hd hs hr =>
       obtain⟨v,hrun,hr⟩:=Aoi (P:=P) h2 ⟨hd,hs,hr⟩ hy;refine Bz (v:=v) ?_ (hK _ _ (h.put (AH hkd hro) hr));simp only[execOp,hop,Adj,AQ,run_underlying hfs,A3,hf,hxv,asAgg,Br,hrun]
     ·cases hev
    ·cases hk
   ·cases hk
  ·cases hk
 case ixa x i k =>
  simp only[GB] at hk;split at hk
  ·rename_i t x' i' hop;simp only[Af] at hk;obtain⟨⟨h1,h2⟩,hk⟩:=hk;split at hk
   ·rename_i e hu;simp only[B7] at hev;split at hev
    ·rename_i ki iv hi;have hir:=CN h h2 hi;generalize hiv:a.eval i'=ivv at hir;cases hir;have hx':a.eval x'=a.tmps.getD x Bq:=by
      cases x' <;> simp only[Ck] at h1 <;> try cases h1
      simp only[beq_iff_eq] at h1;subst h1;rfl
     have h0:=h.reg x;split at hev
     ·rename_i n cs hr;rw[hr] at h0;split at hev
      ·rename_i hb;cases hev;rw[<- hx'] at h0;generalize hxv:a.eval x'=xv at h0;cases h0 with
       | nil0=>exact absurd hb (by omega)
       | e0 _ _=>exact absurd hb (by omega)
       | sl b off _ cap _ f hd hn hX hY hcell hrr =>
        have hmem:FX Y (fun b=>X0 b\/XS s a.tmps b) w b off cs:=⟨hd,fun j hj=>⟨f j,hcell j hj,hrr j hj⟩⟩;refine Bz (v := .pointer (some ⟨b,off+iv.toNat*k,none⟩)) ?_ (hK _ _ ?_)
        ·simp only[execOp,hop,ZI,AQ,hiv,asIntOf,Br,A3,run_underlying hu,hxv,hb,and_self,if_true,LD hk,Hs]
        ·refine Qh h (AH hkd hro) (fun hne=>hX (fun hn=>hne (by rw[hn];simp))) (hmem.drop _)
      ·cases hev
     ·cases hev
    ·cases hev
   ·cases hk
  ·cases hk
 case six x i =>
  simp only[GB] at hk;split at hk
  ·rename_i t x' i' hop;simp only[Af] at hk;obtain⟨⟨h1,h2⟩,hk⟩:=hk;split at hk
   ·rename_i hu;simp only[B7] at hev;split at hev
    ·rename_i bs ki iv hx hi;simp only[Am] at hev;obtain⟨c,hc,he⟩:=hev;cases he;have hir:=CN h h2 hi;generalize hiv:a.eval i'=ivv at hir;cases hir;have hxr:=CN h h1 hx;generalize hxv:a.eval x'=xv at hxr;cases hxr;refine Bz (v := .int .u8 c.toNat) ?_ (hK _ _ (h.put (AH hkd hro) (.int _ _)));simp only[execOp,hop,Instr.index,AQ,hiv,asIntOf,Br,A3,run_underlying hu,hxv,hc]
    ·cases hev
   ·cases hk
  ·cases hk
 case ext x i =>
  simp only[GB] at hk;split at hk
  ·rename_i x' i' hop;simp only[Af,beq_iff_eq] at hk;obtain⟨h1,rfl⟩:=hk;simp only[B7] at hev;split at hev
   ·rename_i vs hx;simp only[Am] at hev;obtain⟨y,hy,he⟩:=hev;cases he;have hxr:=CN h h1 hx;generalize hxv:a.eval x'=xv at hxr;cases hxr with
    | tup us _ hs hr =>
     obtain⟨hlt,hyy⟩:=FY.1 hy;have hlt2:i'<us.size:=by omega
     refine Bz (v:=us[i']) ?_ (hK _ _ (h.put (AH hkd hro) (hyy ▸ hr i' hlt2 hlt)));simp only[execOp,hop,A3r,hxv,D8 hlt2,AQ,Br,A3]
   ·cases hev
  ·cases hk
 case len x =>
  simp only[GB] at hk;split at hk
  ·rename_i args ts hop;unfold fL at hk;split at hk
   ·rename_i x' t hargs hts;simp only[Af] at hk;obtain⟨h1,h2⟩:=hk;have e1:args=#[x']:=by rw[<- Di (xs:=args),hargs]
    have e2:ts=#[t]:=by rw[<- Di (xs:=ts),hts]
    subst e1 e2;split at h2
    ·rename_i e hu;simp only[B7] at hev;have fin:∀ (base:Option Addr) (n c:Nat),a.eval x' = .slice base n c->(∀ a' w',Rel Y X0 roots w0 (Ea s o.dst (.val (.int .i64 n))) a' w'->K' a' w')->o.wp P a w K' Q:=by
      intro base n c he hK';refine Bz (v := .int .i64 n) ?_ (hK' _ _ (h.put (AH hkd hro) (.int _ _)));simp[execOp,hop,resolve,invoke,builtin,Aol,he,run_underlying hu,goInt]
     split at hev
     ·rename_i hx;cases hev;have hxr:=CN h h1 hx;generalize hxv:a.eval x'=xv at hxr;cases hxr;exact fin _ _ _ hxv hK
     ·rename_i n cs hx;cases hev;have hxr:=CN h h1 hx;generalize hxv:a.eval x'=xv at hxr;cases hxr <;> exact fin _ _ _ hxv hK
     ·cases hev
    ·cases h2
   ·cases hk
  ·cases hk
 case mx xs =>
  simp only[GB] at hk;split at hk
  ·rename_i args ts hop;simp only[B7] at hev;split at hev
   ·rename_i k n l hx;simp only[Am] at hev;obtain⟨m,hm,he⟩:=hev;cases he;obtain⟨e1,e2⟩:=NX h hk hx;cases hal:args.toList with
    | nil=>rw[hal] at e1;simp at e1
    | cons x0 rest =>
     have e1':rest.length=l.length:=by rw[hal] at e1;simpa using e1
     have h0:=e2 0 (by rw[hal];simp) (by simp);simp only[hal,Gy] at h0;generalize hxv:a.eval x0=xv at h0;cases h0;have hfold:=kD (P:=P) (Y:=Y) (X:=fun b=>X0 b\/XS s a.tmps b) (w:=w) (vs:=rest.map a.eval) (l:=l) (by simpa using e1') (fun i g1 g2=>by
      have:=e2 (i+1) (by rw[hal];simp at g1 |-;omega) (by simp;omega);simpa [hal] using this) hm
     refine Bz (v := .int k m) ?_ (hK _ _ (h.put (AH hkd hro) (.int _ _)));have hmap:(args.map a.eval).toList = .int k n::rest.map a.eval:=by rw[Gl,hal,Cx,hxv]
     simp only[execOp,hop,resolve,invoke,builtin,Builtin.max_,AQ,Br,A3,hmap,hfold]
   ·cases hev
  ·cases hk
 case mn xs =>
  simp only[GB] at hk;split at hk
  ·rename_i args ts hop;simp only[B7] at hev;split at hev
   ·rename_i k n l hx;simp only[Am] at hev;obtain⟨m,hm,he⟩:=hev;cases he;obtain⟨e1,e2⟩:=NX h hk hx;cases hal:args.toList with
    | nil=>rw[hal] at e1;simp at e1
    | cons x0 rest =>
     have e1':rest.length=l.length:=by rw[hal] at e1;simpa using e1
     have h0:=e2 0 (by rw[hal];simp) (by simp);simp only[hal,Gy] at h0;generalize hxv:a.eval x0=xv at h0;cases h0;have hfold:=kF (P:=P) (Y:=Y) (X:=fun b=>X0 b\/XS s a.tmps b) (w:=w) (vs:=rest.map a.eval) (l:=l) (by simpa using e1') (fun i g1 g2=>by
      have:=e2 (i+1) (by rw[hal];simp at g1 |-;omega) (by simp;omega);simpa [hal] using this) hm
     refine Bz (v := .int k m) ?_ (hK _ _ (h.put (AH hkd hro) (.int _ _)));have hmap:(args.map a.eval).toList = .int k n::rest.map a.eval:=by rw[Gl,hal,Cx,hxv]
     simp only[execOp,hop,resolve,invoke,builtin,Builtin.min_,AQ,Br,A3,hmap,hfold]
   ·cases hev
  ·cases hk
 case call f xs =>
  simp only[GB] at hk;split at hk
  ·rename_i f' args ts hop;simp only[Af,beq_iff_eq] at hk;obtain⟨⟨rfl,h1⟩,h2⟩:=hk;simp only[B7] at hev;split at hev
   ·rename_i vs hx;simp only[Am] at hev;obtain⟨y,hy,he⟩:=hev;cases he;obtain⟨e1,e2⟩:=NX h h1 hx;split at h2
    ·rename_i fn hfn;simp only[Af,F1] at h2;obtain⟨hbody,hname⟩:=h2;have hbn:¬ fn.body=none:=by intro e0;rw[e0] at hbody;cases hbody
     have hnm:¬ fn.name = "runtime.NumGoroutine" := by simpa using hname
     have hrun:(execOp a.eval o).run P w = .ok (.enter f' (args.map a.eval)) w:=by
      simp[execOp,hop,resolve,MK,SP,invoke,callFunc,program,Ge,hfn,hnm,hbn]
     have hcall:=hF.plain f' vs y hy Y (fun b=>X0 b\/XS s a.tmps b) w (args.map a.eval) h.lowX h.lowYw (by simpa using e1) (fun i g1 g2=>by
      have:=e2 i (by simpa using g1) g2;simpa using this)
     simp only[Fz,hrun,ET];refine hcall.mono fun e w' ⟨v,he,hb,hr⟩ => ?_;subst he;refine hK _ _ ?_;cases hdst:o.dst with
     | none =>
      refine⟨h.dfr,h.size,h.below.trans hb,h.low,h.lowY,fun t => ?_,h.inj⟩;exact IR.world (h.reg t) hb
     | some d =>
      refine DA (ks:=[]) h hb (fun u hu => .inr (AH hkd hro d hdst u hu)) (fun he=>(by cases he)) (fun X _ g2 => ?_);exact (hr.thawed (fun b hb=>HF (h.lowX b hb)) (fun b hb=>HF (h.lowYw b hb))).mono fun b hb => .inl (g2 rfl b hb)
    ·cases h2
   ·cases hev
  ·cases hk
 case clo f xs =>
  simp only[GB] at hk;split at hk
  ·rename_i f' args ts hop;simp only[Af,beq_iff_eq] at hk;obtain⟨⟨rfl,h1⟩,h2⟩:=hk;simp only[B7] at hev;split at hev
   ·rename_i vs hx;simp only[Am] at hev;obtain⟨y,hy,he⟩:=hev;cases he;obtain⟨e1,e2⟩:=NX h h1 hx;split at h2
    ·rename_i fn hfn;simp only[Af,F1] at h2;obtain⟨hbody,hname⟩:=h2;have hbn:¬ fn.body=none:=by intro e0;rw[e0] at hbody;cases hbody
     have hnm:¬ fn.name = "runtime.NumGoroutine" := by simpa using hname
     have hrun:(execOp a.eval o).run P w = .ok (.enter f' (args.map a.eval)) w:=by
      simp[execOp,hop,resolve,MK,SP,invoke,callFunc,program,Ge,hfn,hnm,hbn]
     have hcall:=hF.plain f' vs y hy Y (fun b=>X0 b\/XS s a.tmps b) w (args.map a.eval) h.lowX h.lowYw (by simpa using e1) (fun i g1 g2=>by
      have:=e2 i (by simpa using g1) g2;simpa using this)
     simp only[Fz,hrun,ET];refine hcall.mono fun e w' ⟨v,he,hb,hr⟩ => ?_;subst he;refine hK _ _ ?_;simp only[EB,Af] at hro;obtain⟨d,hdst⟩:=Bf.1 hro.2;rw[hdst];cases y
     case fresh k n cs =>
      simp only[Js] at hr;refine DA (ks:=[]) h hb (fun u hu => .inr (AH hkd hro.1 d hdst u hu)) (fun _ b hb=>(Gp.block hr hb).1) (fun X g1 _ => ?_);exact R6 h.below.from_ hr g1
     case frs bb k n cs =>
      simp only[Js] at hr;refine DA (ks:=[]) h hb (fun u hu => .inr (AH hkd hro.1 d hdst u hu)) (fun _ b hb=>(Li.block hr hb).1) (fun X g1 _ => ?_);obtain⟨u,rfl,hr⟩:=hr;rw[Gq _ hr] at g1;refine⟨u,rfl,R6 h.below.from_ ?_ g1⟩;rw[Gq _ hr] at hr;exact hr
     all_goals
      refine DA (ks:=[]) h hb (fun u hu => .inr (AH hkd hro.1 d hdst u hu)) (fun he=>(by cases he)) (fun X _ g2 => ?_);exact Rd.mono hr fun b hb => .inl (g2 rfl b hb)
    ·cases h2
   ·cases hev
  ·cases hk
 case brw f x d =>
  simp only[GB] at hk;split at hk
  ·rename_i f' args ts hop;simp only[Af,beq_iff_eq] at hk;obtain⟨⟨rfl,h1⟩,h2⟩:=hk;simp only[B7] at hev;split at hev
   ·rename_i d' hrx;split at hev
    ·rename_i hdd;subst hdd;split at hev
     ·rename_i k n cs hrd;split at hev
      ·rename_i hni;split at hev
       ·rename_i y hy;split at hev
        ·rename_i hio;cases hev;have hvx:=h.reg x;rw[hrx] at hvx;have hev:a.tmps.getD x Bq=a.tmps.getD d' Bq:=hvx.2;have hown:=h.reg d';rw[hrd] at hown;have hXd:∀ b,Bh (a.tmps.getD d' Bq)=some b->(X0 b\/XS s a.tmps b):=fun b hb => .inr ⟨d',by rw[hrd];rfl,hb⟩;obtain⟨o1,ho1,hox⟩:∃ o1,args.toList=[o1]/\Ck o1 (.t x)=true:=by
          cases hal:args.toList with
          | nil=>rw[hal] at h1;cases h1
          | cons o1 l =>
           rw[hal] at h1;simp only[Kw,Af] at h1;cases l with
           | nil=>exact⟨o1,rfl,h1.1⟩
           | cons _ _=>cases h1.2
         have hoe:a.eval o1=a.tmps.getD d' Bq:=by
          cases o1 <;> first | (cases hox;done) | skip
          rename_i m;simp only[Ck,beq_iff_eq] at hox;subst hox;rw[<- hev];rfl
         split at h2
         ·rename_i fn hfn;simp only[Af,F1] at h2;obtain⟨hbody,hname⟩:=h2;have hbn:¬ fn.body=none:=by intro e0;rw[e0] at hbody;cases hbody
          have hnm:¬ fn.name = "runtime.NumGoroutine" := by simpa using hname
          have hrun:(execOp a.eval o).run P w = .ok (.enter f' (args.map a.eval)) w:=by
           simp[execOp,hop,resolve,MK,SP,invoke,callFunc,program,Ge,hfn,hnm,hbn]
          have hargs:args=#[o1]:=by
           apply Adu.1;rw[ho1]
          have hlent:Rd (fun c=>Y c\/Bh (a.tmps.getD d' Bq)=some c) (fun c=>(X0 c\/XS s a.tmps c)/\¬ Bh (a.tmps.getD d' Bq)=some c) w (a.tmps.getD d' Bq) (.sl n cs) :=
           jW hown (fun b hb=>hb.1) (fun b hb=>hb.imp id (hXd b)) (fun b hb hx=>hx.2 hb) hni
          have hcall:=hF.plain f' [.sl n cs] y hy (fun c=>Y c\/Bh (a.tmps.getD d' Bq)=some c) (fun c=>(X0 c\/XS s a.tmps c)/\¬ Bh (a.tmps.getD d' Bq)=some c) w (args.map a.eval)
           (fun b hb=>h.lowX b hb.1) (fun b hb=>hb.elim (h.lowYw b) (fun hb=>h.lowX b (hXd b hb))) (by rw[hargs];simp) (fun i g1 g2=>by
            have hi:i=0:=by simp at g2;exact g2
            subst hi;subst hargs;simp only[List.map_toArray,Cx,FW,fD,Gy];rw[hoe];exact hlent)
          simp only[Fz,hrun,ET];refine hcall.mono fun e w' ⟨v,he,hb,hr⟩ => ?_;subst he;refine hK _ _ ?_;have hback:Rd Y (fun b=>X0 b\/XS s a.tmps b) w' v (Mq y):=by
           refine (hr.thawed (fun b hb=>HF (h.lowX b hb.1)) (fun b hb=>HF (hb.elim (h.lowYw b) (fun hb=>h.lowX b (hXd b hb))))).back hio (fun b hb => ?_) (fun b hb => .inl hb);by_cases hq:Bh (a.tmps.getD d' Bq)=some b
           ·exact .inr (.inr hq)
           ·exact .inl ⟨hb,hq⟩
          cases hdst:o.dst with
          | none =>
           refine⟨h.dfr,h.size,h.below.trans hb,h.low,h.lowY,fun t => ?_,h.inj⟩;exact IR.world (h.reg t) hb
          | some d =>
           refine DA (ks:=[]) h hb (fun u hu => .inr (AH hkd hro d hdst u hu)) (fun he=>(by cases he)) (fun X _ g2 => ?_);exact hback.mono fun b hb => .inl (g2 rfl b hb)
         ·cases h2
        ·cases hev
       ·cases hev
      ·cases hev
     ·cases hev
    ·cases hev
   ·cases hev
  ·cases hk
 case cpy x =>
  have hx:=MU (a:=a) (P:=P) (w:=w) hk;simp only[EB,Af] at hro;simp only[B7] at hev;have h0:=h.reg x;split at hev
  ·rename_i v hr;cases hev;rw[hr] at h0;exact Bz hx (hK _ _ (h.put (AH hkd hro.1) h0))
  ·cases hev;exact Bz hx (hK _ _ (h.putDup (AH hkd hro.1) (Ja hro.2)))
  ·cases hev
 case cpo x =>
  have hx:=MU (a:=a) (P:=P) (w:=w) hk;simp only[EB,Af] at hro;simp only[B7] at hev;cases hev;exact Bz hx (hK _ _ (h.putDup (AH hkd hro.1) (Ja hro.2)))
 case tra x =>
  have hx:=MU (a:=a) (P:=P) (w:=w) hk;simp only[EB,Af] at hro;simp only[B7] at hev;have h0:=h.reg x;split at hev
  ·rename_i v hr;cases hev;rw[hr] at h0;exact Bz hx (hK _ _ (h.put (AH hkd hro.1) h0))
  ·rename_i k n cs hr;cases hev;obtain⟨d,hdst⟩:=Bf.1 hro.2;refine Bz hx (hK _ _ ?_);rw[hdst];rcases h.ownLow hr with ⟨e1,rfl,rfl⟩ | ⟨b,cap,e1,e2,e3,e4,e5,e6,hXb⟩
   ·rw[e1];exact LY (ow:=true) (ks:=[x]) h (fun u hu => .inr (AH hkd hro.1 d hdst u hu))
   refine Rel.shift h hr (b:=b) (by rw[e1];rfl) (fun u hu=>AH hkd hro.1 d hdst u hu) rfl rfl rfl rfl (fun _ _=>rfl) (fun _=>by rw[e1];rfl) (fun X g1 _ => ?_);exact .inr ⟨b,cap,e1,e2,e3,e4,e5.mono fun c hc => .inl (g1 c hc),e6⟩
  ·rename_i b k n cs hr;cases hev;obtain⟨d,hdst⟩:=Bf.1 hro.2;rw[hr] at h0;refine Bz hx (hK _ _ ?_);rw[hdst];exact h.pass (by rw[hr];rfl) rfl (fun u hu=>AH hkd hro.1 d hdst u hu) (fun X g1=>Li.mono h0 fun c hc => .inl (g1 c hc))
  ·cases hev
 case frz x =>
  have hx:=MU (a:=a) (P:=P) (w:=w) hk;simp only[B7] at hev;have h0:=h.reg x;split at hev
  ·rename_i v hr;cases hev;rw[hr] at h0;exact Bz hx (hK _ _ (h.put (AH hkd hro) h0))
  ·rename_i k n cs hr;cases hev;have hf:=h.freeze hr;have h1:=hf.reg x;have hlt:x<s.length:=by
    rcases Ct x s.length with hlt | hge
    ·exact hlt
    ·simp only[A8,Z,AI hge] at hr;cases hr
   rw[Du,if_pos ⟨rfl,hlt⟩] at h1;refine Bz hx (hK _ _ (hf.put (fun d hd t ht => ?_) h1));have hfree:=AH hkd hro d hd t ht;rw[Du];split
   ·rfl
   ·exact hfree
  ·cases hev
 case mks z n =>
  simp only[GB] at hk;split at hk
  ·rename_i t l c hop;simp only[Af] at hk;obtain⟨⟨⟨h1,h2⟩,h3⟩,h4⟩:=hk;simp only[EB,Af] at hro;obtain⟨d,hdst⟩:=Bf.1 hro.2;simp only[B7] at hev;split at hev
   ·rename_i kk m hn;split at hev
    ·rename_i hb;cases hev;have hl:=CN h h1 hn;have hc:=CN h h2 hn;generalize hlv:a.eval l=lv at hl;generalize hcv:a.eval c=cv at hc;cases hl;cases hc;obtain⟨e,cells,hrun,hcells⟩:=Aoh (P:=P) (Y:=Y) (X:=fun b=>X0 b\/XS s a.tmps b) (w:=w) (kl:=kk) (kc:=kk) h3 h4 hb.1 hb.2;have hrun':(execOp a.eval o).run P w = .ok (.value (.slice (some ⟨w.heap.size,0,none⟩) m.toNat m.toNat)) (w.alloc (.cells cells e)):=by
      simp only[execOp,hop,hlv,hcv,AQ,hrun,A3,Br]
     simp only[Fz,hrun',ET];refine hK _ _ ?_;rw[hdst];exact kI h (fun u hu=>AH hkd hro.1 d hdst u hu) hcells (N7 z m.toNat)
    ·cases hev
   ·cases hev
  ·cases hk
 case blo k n z ps =>
  simp only[GB] at hk;split at hk
  ·rename_i t len parts hop;simp only[Af] at hk;obtain⟨hk,hel⟩:=hk;simp only[B7,Am] at hev;obtain⟨cs,hcs,he⟩:=hev;cases he;simp only[fJ,Af,beq_iff_eq] at hk;obtain⟨rfl,hk⟩:=hk;obtain⟨e',i',zv',hu',hi',hs',hk',_,_,_⟩:=EZ hel;split at hk
   ·rename_i e hu;split at hk
    ·rename_i ii hii;obtain rfl:e=e':=by rw[hu] at hu';cases hu';rfl
     obtain rfl:ii=i':=by rw[hii] at hi';cases hi';rfl
     simp only[Af,decide_eq_true_eq] at hk;obtain⟨⟨⟨h1,h2⟩,h3⟩,hp⟩:=hk;split at h3
     ·rename_i zv hzv;simp only[Af,decide_eq_true_eq,beq_iff_eq] at h3;obtain⟨⟨h3,h4⟩,h5⟩:=h3;have hz0:0<zv.cells.toList.length:=by simp only[CW];omega
      have hzl:zv.cells.toList.length=ii.size:=by simp only[CW];exact h3
      obtain⟨hd,hg⟩:=OG (Y:=Y) (X:=fun b=>X0 b\/XS s a.tmps b) (w:=w) hz0 len z h5 (by rw[h4,hzl]);have hszr:(sizeOf e).run P w = .ok ii.size w:=by simp[sizeOf,typeInfo,program,Ge,hii]
      have hzr:(zeroValue e).run P w = .ok zv w:=by simp[zeroValue,typeInfo,program,Ge,hii,hzv]
      have hc0:DN Y (fun b=>X0 b\/XS s a.tmps b) w ((Ip (len*ii.size)).map fun j=>zv.cells[j % zv.cells.size]!) z:=by
       refine⟨hd,by simp[h4],fun i g1 g2 => ?_⟩;obtain⟨u,hu1,hu2⟩:=hg i g2;have e1:zv.cells[i % zv.cells.size]! = u:=by
        have:zv.cells[i % zv.cells.size]? = some u:=by simpa using hu1
        simp[getElem!_def,this]
       simp only[Abe,rY,e1];exact hu2
      obtain⟨cells',e1,e2⟩:=Qm h (place:=fun i=>some (i*ii.size,ii.size)) (fun i off n hi=>by
       simp only[Af,beq_iff_eq] at hi;rw[hi.1,hi.2]) hp hc0 hcs
      have e1':Mn (fun i=>some (i*ii.size,ii.size)) ((Ip (len*ii.size)).map fun j=>zv.cells[j % zv.cells.size]!) (parts.map fun p=>(p.1,a.eval p.2)).toList=some cells':=by rw[Gl];exact e1
      have e3:len*ii.size=0->(Ip (len*ii.size)).map (fun j=>(#[]:Array Value)[j % (#[]:Array Value).size]!)=(Ip (len*ii.size)).map fun j=>zv.cells[j % zv.cells.size]! := fun hh=>by rw[hh];simp
      have hl1:¬ len*ii.size>2^24:=by omega
      simp only[EB,Af] at hro;obtain⟨d,hdst⟩:=Bf.1 hro.2;have hrun:(execOp a.eval o).run P w = .ok (.value (.slice (some ⟨w.heap.size,0,none⟩) len len)) (w.alloc (.cells cells' e)):=by
       by_cases hl0:len*ii.size=0
       ·simp only[execOp,hop,N8,AQ,run_underlying hu,A3,hszr,hl1,if_false,if_pos hl0,Br,e3 hl0,e1',newRow,run_newObj_alloc]
       ·simp only[execOp,hop,N8,AQ,run_underlying hu,A3,hszr,hl1,if_false,hl0,Br,hzr,e1',newRow,run_newObj_alloc]
      simp only[Fz,hrun,ET];refine hK _ _ ?_;rw[hdst];refine kI h (fun u hu=>AH hkd hro.1 d hdst u hu) e2 ?_;rw[Sr hcs,h4,hs']
     ·cases h3
    ·cases hk
   ·cases hk
  ·cases hk
 case apd ow x y k B =>
  simp only[GB] at hk;split at hk
  ·rename_i args ts hop;unfold UZ at hk;split at hk
   ·rename_i x' y' t t' hargs hts;simp only[Af] at hk;obtain⟨⟨⟨⟨h1,h2⟩,h3⟩,h4⟩,h5⟩:=hk;have e1:args=#[x',y']:=by rw[<- Di (xs:=args),hargs]
    have e2:ts=#[t,t']:=by rw[<- Di (xs:=ts),hts]
    subst e1 e2;simp only[EB,Af] at hro;obtain⟨d,hdst⟩:=Bf.1 hro.2;have hfr:∀ u,(u,d)∈roots->EP (A8 s u)=false:=fun u hu=>AH hkd hro.1 d hdst u hu;have hrunO:∀ {v:Value} {w':World},(CC #[t,t'] o.type #[a.eval x',a.eval y']).run P w = .ok v w'->(execOp a.eval o).run P w = .ok (.value v) w':=by
     intro v w' hh;simp[execOp,hop,resolve,invoke,builtin,hh]
    simp only[B7] at hev;split at hev
    ·-- nothing to append
     rename_i hy;have hyr:=CN h h2 hy;generalize hyv:a.eval y'=yv at hyr hrunO;cases hyr;split at hev
     ·rename_i hxr;cases hev;have hxx:=CN h h1 (Abd hxr);generalize hxv:a.eval x'=xv at hxx hrunO;cases hxx;have hr:=hrunO (append_nil (P:=P) (w:=w) (ty:=o.type) h3 h4);exact Bz hr (hK _ _ (h.put (AH hkd hro.1) .nil))
     ·rename_i k' n cs hxr;obtain⟨nx,rfl⟩:=kH hxr;simp only[Opd.reg] at hxr;split at hev
      ·rename_i hkk;subst hkk;cases hev;rcases h.ownLow hxr with ⟨e1,rfl,rfl⟩ | ⟨b,cap,e1,e2,e3,e4,e5,e6,hXb⟩
       ·have hxv:a.eval x' = .slice none 0 0:=by rw[Ei h1,e1]
        rw[hxv] at hrunO;have hr:=hrunO (append_nil (P:=P) (w:=w) (ty:=o.type) h3 h4);refine Bz hr (hK _ _ ?_);rw[hdst];exact LY (ks:=[nx]) h (fun u hu => .inr (hfr u hu))
       have hxv:a.eval x' = .slice (some ⟨b,0,none⟩) n cap:=by rw[Ei h1,e1]
       rw[hxv] at hrunO;have hr:=hrunO (OF (P:=P) (w:=w) (ty:=o.type) h3 h4 e2);refine Bz hr (hK _ _ ?_);rw[hdst];refine Rel.shift h hxr (b:=b) (by rw[e1];rfl) hfr rfl rfl rfl rfl (fun _ _=>rfl) (fun _=>rfl) (fun X g1 g2 => ?_);exact R7 (.inr ⟨b,cap,rfl,e2,e3,e4,e5.mono fun c hc => .inl (g1 c hc),e6⟩) (fun he=>by subst he;exact fun c hc=>by cases hc;exact g2 rfl) h.lowY
      ·cases hev
     ·cases hev
    ·rename_i m ys hy;have hyr:=Abc (CN h h2 hy);split at hev
     ·rename_i hylen;have fromNil:a.eval x' = .slice none 0 0->m<=B->∀ ks:List Nat,(∀ a' w',Rel Y X0 roots w0 (Ea (BZ s (ks.map fun u=>(u,Reg.dead))) (some d) (if ow then .own k m ys else .val (.sl m ys))) a' w'->K' a' w')->o.wp P a w K' Q:=by
       intro hxv hm2 ks hK';rw[hxv] at hrunO;rcases Fo m with hm | hm
       ·subst hm;have hy0:ys=[]:=A5 (by simpa using hylen);subst hy0;have hr:(execOp a.eval o).run P w = .ok (.value (.slice none 0 0)) w:=by
         rcases hyr with ⟨_,_,hyv | ⟨p,c,hyv⟩⟩ | ⟨b,off,cap,hyv,_⟩
         ·rw[hyv] at hrunO;exact hrunO (append_nil (P:=P) (w:=w) (ty:=o.type) h3 h4)
         ·rw[hyv] at hrunO;exact hrunO (LG (P:=P) (w:=w) (ty:=o.type) h3 h4)
         ·rw[hyv] at hrunO;exact hrunO (LG (P:=P) (w:=w) (ty:=o.type) h3 h4)
        refine Bz hr (hK' _ _ ?_);rw[hdst];exact LY (ks:=ks) h (fun u hu => .inr (hfr u hu))
       ·obtain⟨v',w',hrun,hbel,hown⟩:=LF (P:=P) (ty:=o.type) (n:=0) (cs:=[]) h3 h4 h5 (.inl ⟨rfl,rfl,rfl,hm⟩) (by simp) hyr hm hylen (by omega);have hr:=hrunO hrun;simp only[Fz,hr,ET];refine hK' _ _ ?_;rw[hdst];simp only[Cb,GV] at hown;exact Ms (ks:=ks) h hbel (fun u hu => .inr (hfr u hu)) hown
      split at hev
      ·rename_i hxr;have hxx:=CN h h1 (Abd hxr);generalize hxv:a.eval x'=xv at hxx;cases hxx;split at hev
       ·rename_i hm2;cases hev;rw[hdst] at hK;exact fromNil hxv hm2 [] hK
       ·cases hev
      ·rename_i k' n cs hxr;obtain⟨nx,rfl⟩:=kH hxr;simp only[Opd.reg] at hxr;split at hev
       ·rename_i hkk;obtain⟨rfl,hnm⟩:=hkk;cases hev;rcases h.ownLow hxr with ⟨e1,rfl,rfl⟩ | ⟨b,cap,e1,e2,e3,e4,e5,e6,hXb⟩
        ·rw[hdst] at hK;simp only[Cb,GV] at hK;exact fromNil (by rw[Ei h1,e1]) (by omega) [nx] hK
        have hxv:a.eval x' = .slice (some ⟨b,0,none⟩) n cap:=by rw[Ei h1,e1]
        rw[hxv] at hrunO;by_cases hyn:m=0
        ·subst hyn;have hy0:ys=[]:=A5 (by simpa using hylen);subst hy0;have hr:(execOp a.eval o).run P w = .ok (.value (.slice (some ⟨b,0,none⟩) n cap)) w:=by
          rcases hyr with ⟨_,_,hyv | ⟨p,c,hyv⟩⟩ | ⟨b',off',cap',hyv,_⟩
          ·rw[hyv] at hrunO;exact hrunO (OF (P:=P) (w:=w) (ty:=o.type) h3 h4 e2)
          ·rw[hyv] at hrunO;exact hrunO (Ky (P:=P) (w:=w) (ty:=o.type) h3 h4 e2)
          ·rw[hyv] at hrunO;exact hrunO (Ky (P:=P) (w:=w) (ty:=o.type) h3 h4 e2)
         refine Bz hr (hK _ _ ?_);rw[hdst];refine Rel.shift h hxr (b:=b) (by rw[e1];rfl) hfr rfl rfl rfl rfl (fun _ _=>rfl) (fun _=>rfl) (fun X g1 g2 => ?_);simp only[EJ,Mp] at g2 |-;exact R7 (.inr ⟨b,cap,rfl,e2,e3,e4,e5.mono fun c hc => .inl (g1 c hc),e6⟩) (fun he=>by subst he;exact fun c hc=>by cases hc;exact g2 rfl) h.lowY
        by_cases hroom:n+m<=cap
        ·obtain⟨w',hrun,g1,g2,g3,g4,g5,g6,g7⟩:=TS (P:=P) (ty:=o.type) h3 h4 hroom (Y:=Y) (X:=fun b=>X0 b\/XS s a.tmps b) (.inr hXb) e5 e6 e3 hyr hyn hylen;have hr:=hrunO hrun;simp only[Fz,hr,ET];refine hK _ _ ?_;rw[hdst];refine Rel.shift h hxr (b:=b) (by rw[e1];rfl) hfr g1 g2 g3 g4 g5 (fun _=>rfl) (fun X q1 q2 => ?_);exact R7 (.inr ⟨b,cap,rfl,hroom,by rw[AY,e3,hylen,DE],e4,g6.mono fun c hc => .inl (q1 c hc),g7⟩) (fun he=>by subst he;exact fun c hc=>by cases hc;exact q2 rfl) h.lowY
        ·obtain⟨v',w',hrun,hbel,hown⟩:=LF (P:=P) (ty:=o.type) h3 h4 h5 (.inr ⟨b,cap,rfl,by omega,e5.mem⟩) e3 hyr (by omega) hylen hnm;have hr:=hrunO hrun;simp only[Fz,hr,ET];refine hK _ _ ?_;rw[hdst];exact Ms (ks:=[nx]) h hbel (fun u hu => .inr (hfr u hu)) hown
       ·cases hev
      ·cases hev
     ·cases hev
    ·cases hev
   ·cases hk
  ·cases hk
 case sli x lo hi mx k =>
  simp only[GB] at hk;split at hk
  ·rename_i t x' lo' hi' mx' hop;simp only[Af] at hk;obtain⟨⟨⟨⟨h1,h2⟩,h3⟩,h4⟩,h5⟩:=hk;have hrunO:∀ {v:Value},(O6 t (a.eval x') (lo'.map a.eval) (hi'.map a.eval) (mx'.map a.eval)).run P w = .ok v w->(execOp a.eval o).run P w = .ok (.value v) w:=by
    intro v hh;simp only[execOp,hop,AQ,hh,A3,Br]
   simp only[B7] at hev;split at hev
   ·rename_i hx;have hxr:=CN h h1 hx;generalize hxv:a.eval x'=xv at hxr hrunO;cases hxr;split at hev
    ·rename_i b1 b2 b3;split at hev
     ·rename_i c4;cases hev;have hb:=JP (P:=P) (w:=w) (len:=0) (cap:=0) (m:=0) (h:=0) (l:=0) (A4g h h4 b1 rfl (Ao _)) (fP h h3 h4 b2 c4 (fun _=>Ao _) (fun _=>Ao _)) (Xm h h2 b3 (Ao _));have hr:=hrunO (JQ h5 hb);exact Bz hr (hK _ _ (h.put (AH hkd hro) .nil))
     ·cases hev
    ·cases hev
   ·rename_i n cs hx;have hxr:=CN h h1 hx;split at hev
    ·rename_i m hh l b1 b2 b3;split at hev
     ·rename_i hc;cases hev;obtain⟨c1,c2,c3,c4⟩:=hc;obtain⟨ad,cap,hv,hcap,hres,hnone⟩:=Ads (k:=k) (m:=if mx.isSome then m else Aoj (a.eval x')) hxr c1 (by omega);rw[hv] at hrunO hres;have hb:=JP (P:=P) (w:=w) (len:=n) (cap:=cap) (m:=if mx.isSome then m else cap) (h:=hh) (l:=l) (ACp h h4 b1 (by omega)) (fP h h3 h4 b2 c4 (fun hs=>by rw[if_pos hs];exact c2) (fun hs=>by rw[if_neg hs];omega)) (Xm h h2 b3 c1);have hr:=hrunO (JQ h5 hb);refine Bz hr (hK _ _ (h.put (AH hkd hro) (hres ?_ (fun hn => ?_))))
      ·simp only[Aoj];split
       ·exact c2
       ·omega
      ·have h0:=hnone hn;simp only[Aoj];split
       ·omega
       ·exact h0
     ·cases hev
    ·cases hev
   ·cases hev
  ·cases hk
 case nlo k =>
  simp only[GB] at hk;simp only[B7] at hev;cases hev;simp only[EB,Af] at hro;obtain⟨d,hdst⟩:=Bf.1 hro.2;have hr:(execOp a.eval o).run P w = .ok (.value (.slice none 0 0)) w:=by
   split at hk
   ·rename_i hop;simp[execOp,hop,SP]
   ·rename_i hop;simp[execOp,hop,SP]
   ·cases hk
  refine Bz hr (hK _ _ ?_);rw[hdst];exact LY (ow:=true) (ks:=[]) h (fun u hu => .inr (AH hkd hro.1 d hdst u hu))
 case bdo y x ls =>
  simp only[GB] at hk;split at hk
  ·rename_i t parts hop;obtain⟨a',x',hparts,h1,h2,hrun⟩:=Adq hk;simp only[EB,Af] at hro;obtain⟨d,hdst⟩:=Bf.1 hro.2;simp only[B7] at hev;split at hev
   ·rename_i b hb;split at hev
    ·rename_i k n cs hr;split at hev
     case isFalse=>cases hev
     rename_i hls;cases hev;have hkd':∀ t∈oks++ls,EP (A8 s t)=false:=Wf hkd hls;have hbr:=CN h h1 hb;generalize hbv:a.eval a'=bv at hbr;cases hbr;have hx':=Ei (a:=a) h2;have h0:=h.reg x;rw[hr] at h0;have hcell:(a.tmps.getD x Bq).cells=#[a.tmps.getD x Bq]:=by
      rcases h0 with ⟨e,_⟩ | ⟨_,_,e,_⟩ <;> rw[e] <;> rfl
     have hpe:(parts.map fun p=>(p.1,a.eval p.2))=#[(0,.bool b),(1,a.tmps.getD x Bq)]:=by
      apply Adu.1;rw[Gl,hparts];simp[hbv,hx']
     refine Bz (v := .agg #[.bool b,a.tmps.getD x Bq]) ?_ (hK _ _ ?_)
     ·simp only[execOp,hop,AQ];rw[show (parts.map fun x:Nat × Operand=>match x with | (i,x)=>(i,a.eval x))=(parts.map fun p=>(p.1,a.eval p.2)) from rfl,hpe,hrun b _ hcell w]
      rfl
     ·rw[hdst];exact h.pass (by rw[hr];rfl) (Gq (.st b) h0) (fun u hu=>AH hkd' hro.1 d hdst u hu) (fun X g1=>⟨_,rfl,Gp.mono h0 fun c hc => .inl (g1 c hc)⟩)
    ·cases hev
   ·cases hev
  ·cases hk
 case stl x v =>
  simp only[GB] at hk;split at hk
  ·rename_i t x' v' hop;simp only[Af] at hk;obtain⟨⟨h1,h2⟩,h3⟩:=hk;simp only[EB,Af,Option.isNone_iff_eq_none,JI,decide_eq_true_eq] at hro;obtain⟨hdst,hroot⟩:=hro;simp only[B7] at hev;split at hev
   ·rename_i cs hr;split at hev
    ·rename_i bb k n ds hrv;split at hev
     ·rename_i hcs;cases hev;have hx':=Ei (a:=a) h1;have hv':=Ei (a:=a) h3;have h0:=h.reg x;rw[hr] at h0;obtain⟨b,e1,hB,hd,vs,T,e2,e3,_⟩:=h0;have h5:=h.reg v;rw[hrv] at h5;obtain⟨u,hu,h5⟩:=h5;have hcell:u.oneCell'=true:=by
       rcases h5 with ⟨e,_⟩ | ⟨_,_,e,_⟩ <;> rw[e] <;> rfl
      have hsz:=LD h2;have hrow:=run_storeCells_at (P:=P) b 0 T [.bool bb,u] 0 vs w e2 (by simp;omega) (by
       intro y hy;simp only[BD,WZ,or_false] at hy;rcases hy with rfl | rfl
       ·rfl
       ·exact hcell)
      have hrun':(execOp a.eval o).run P w = .ok .skip (w.setRow b (vs.toList.take (0+0)++[.bool bb,u]++vs.toList.drop (0+0+[Xl bb,u].length)).toArray):=by
       have hcells:(Value.agg #[.bool bb,u]).cells=#[.bool bb,u]:=rfl;simp only[execOp,hop,ZH,hx',e1,hv',hu,jX,L6,AQ,Br,A3,storeVar,hsz,hcells];simp only[Jr,B0,HI,ne_eq,not_true_eq_false,if_false];rw[hrow];rfl
      simp only[Fz,hrun',ET];rw[hdst] at hK |-;refine hK _ _ (Rel.store (w':=w.setRow b _) h hr rfl rfl (by rw[e1];rfl) hB rfl rfl rfl (LA _ _ _) (fun c hc=>IA _ _ _ _ hc) (fun X hX => ?_));have hlt:b<w.heap.size:=(Fl.1 e2).1;refine⟨hroot,b,e1,hB,by rw[LA];exact hlt,fun i hi => ?_⟩;rw[Qp (setRow_heap w b vs _ T (0,0) e2),hu];match i,hi with
      | 0,_=>rfl
      | 1,_=>rfl
     ·cases hev
    ·cases hev
   ·cases hev
  ·cases hk
 case cln f xs ls =>
  simp only[GB] at hk;split at hk
  ·rename_i f' args ts hop;simp only[Af,beq_iff_eq] at hk;obtain⟨⟨rfl,h1⟩,h2⟩:=hk;simp only[B7] at hev;split at hev
   ·rename_i vs hx;split at hev
    case isFalse=>cases hev
    rename_i hls;have hkd':∀ t∈oks++ls,EP (A8 s t)=false:=Wf hkd hls;simp only[Am] at hev;obtain⟨y,hy,he⟩:=hev;cases he;obtain⟨e1,e2⟩:=NX h h1 hx;unfold Abb at h2;split at h2
    ·rename_i fn hfn;simp only[Af,F1] at h2;obtain⟨hbody,hname⟩:=h2;have hbn:¬ fn.body=none:=by intro e0;rw[e0] at hbody;cases hbody
     have hnm:¬ fn.name = "runtime.NumGoroutine" := by simpa using hname
     have hrun:(execOp a.eval o).run P w = .ok (.enter f' (args.map a.eval)) w:=by
      simp[execOp,hop,resolve,MK,SP,invoke,callFunc,program,Ge,hfn,hnm,hbn]
     have hcall:=hF.plain f' vs y hy Y (fun b=>X0 b\/XS s a.tmps b) w (args.map a.eval) h.lowX h.lowYw (by simpa using e1) (fun i g1 g2=>by
      have:=e2 i (by simpa using g1) g2;simpa using this)
     simp only[Fz,hrun,ET];refine hcall.mono fun e w' ⟨v,he,hb,hr⟩ => ?_;subst he;refine hK _ _ ?_;simp only[EB,Af] at hro;obtain⟨d,hdst⟩:=Bf.1 hro.2;rw[hdst];cases y
     case fresh k n cs =>
      simp only[Js] at hr;refine DA (ks:=[]) h hb (fun u hu => .inr (AH hkd' hro.1 d hdst u hu)) (fun _ b hb=>(Gp.block hr hb).1) (fun X g1 _ => ?_);exact R6 h.below.from_ hr g1
     case frs bb k n cs =>
      simp only[Js] at hr;refine DA (ks:=[]) h hb (fun u hu => .inr (AH hkd' hro.1 d hdst u hu)) (fun _ b hb=>(Li.block hr hb).1) (fun X g1 _ => ?_);obtain⟨u,rfl,hr⟩:=hr;rw[Gq _ hr] at g1;refine⟨u,rfl,R6 h.below.from_ ?_ g1⟩;rw[Gq _ hr] at hr;exact hr
     all_goals
      refine DA (ks:=[]) h hb (fun u hu => .inr (AH hkd' hro.1 d hdst u hu)) (fun he=>(by cases he)) (fun X _ g2 => ?_);exact Rd.mono hr fun b hb => .inl (g2 rfl b hb)
    ·cases h2
   ·cases hev
  ·cases hk
 case fdo x =>
  simp only[GB] at hk;split at hk
  ·rename_i t x' hop;simp only[Af] at hk;obtain⟨h1,h2⟩:=hk;simp only[EB,Af] at hro;obtain⟨d,hdst⟩:=Bf.1 hro.2;simp only[B7] at hev;split at hev
   ·rename_i b k n cs hr;cases hev;have hx':=Ei (a:=a) h1;have h0:=h.reg x;rw[hr] at h0;obtain⟨u,hu,h0⟩:=h0;refine Bz (v:=u) ?_ (hK _ _ ?_)
    ·simp only[execOp,hop,AQ,hx',hu,jX,Adr h2 b u w];rfl
    ·rw[hdst];exact h.pass (by rw[hr];rfl) (by rw[hu];exact (Gq (.st b) h0).symm) (fun u hu=>AH hkd hro.1 d hdst u hu) (fun X g1=>Gp.mono h0 fun c hc => .inl (g1 c hc))
   ·cases hev
  ·cases hk
 case exo x =>
  simp only[GB] at hk;split at hk
  ·rename_i x' hop;simp only[EB,Af] at hro;obtain⟨d,hdst⟩:=Bf.1 hro.2;simp only[B7] at hev;split at hev
   ·rename_i b k n cs hr;cases hev;have hx':=Ei (a:=a) hk;have h0:=h.reg x;rw[hr] at h0;obtain⟨u,hu,h0⟩:=h0;have hrd:∀ X,Rd Y X w u (.sl n []):=by
     intro X;rcases h0 with ⟨rfl,rfl,_⟩ | ⟨c,cap,rfl,hle,_⟩
     ·exact .nil0
     ·exact .sl c 0 n cap [] (fun _=>Bq) (by intro y hy;cases hy) hle (fun hne=>absurd rfl hne) (fun ⟨y,hy,_⟩=>by cases hy) (fun i hi=>by simp at hi) (fun i hi=>by simp at hi)
    refine Bz (v:=u) ?_ (hK _ _ ?_)
    ·simp only[execOp,hop,A3r,hx',hu,jX,AQ,Br];rfl
    ·rw[hdst];have hp:=h.pass (r := .own k n cs) (v:=u) (by rw[hr];rfl) (by rw[hu];exact (Gq (.tp b) h0).symm) (fun u hu=>AH hkd hro.1 d hdst u hu) (fun X g1=>Gp.mono h0 fun c hc => .inl (g1 c hc));by_cases hxd:x=d
     ·subst hxd;simp only[Ea,BZ,SL] at hp |-;exact hp
     ·simp only[Ea,BZ] at hp |-;have e1:((s.set x (.val (.tup [.sl n [],.bool b]))).set d (.own k n cs))=(((s.set x .dead).set d (.own k n cs)).set x (.val (.tup [.sl n [],.bool b]))):=by
       rw[sE (i:=x) (j:=d) _ _ hxd,sE (i:=x) (j:=d) _ _ hxd,SL]
      rw[e1];refine hp.wake ?_ ?_
      ·rw[Du,if_neg (fun g=>hxd g.1.symm),Du];split
       ·rfl
       ·rename_i g;simp only[true_and,Nat.not_lt] at g;simp only[A8,Z,AI g];rfl
      ·have e2:(a.put (some d) u).tmps.getD x Bq = .tuple #[u,.bool b]:=by
        show (a.tmps.setIfInBounds d u).getD x Bq=_;rw[LV,if_neg (fun g=>hxd g.1.symm)];exact hu
       rw[e2];refine Rd.tup #[u,.bool b] [.sl n [],.bool b] rfl fun i h1 h2 => ?_;match i,h2 with
       | 0,_=>exact hrd _
       | 1,_=>exact Rd.bool b
   ·cases hev
  ·cases hk
 case sub x d lo hi k =>
  simp only[GB] at hk;split at hk
  ·rename_i t x' lo' hi' hop;simp only[Af] at hk;obtain⟨⟨⟨h1,h2⟩,h3⟩,h5⟩:=hk;simp only[EB,Af] at hro;simp only[B7] at hev;split at hev
   ·rename_i d' hxr;split at hev
    ·rename_i hdd;subst hdd;split at hev
     ·rename_i k' n cs hdr;split at hev
      ·rename_i hh l b2 b3;split at hev
       ·rename_i hc;obtain⟨rfl,c1,c2⟩:=hc;cases hev;have h0:=h.reg x;rw[hxr] at h0;obtain⟨hrt,hv⟩:=h0;have hd0:=h.reg d';rw[hdr] at hd0;have hxv:a.eval x'=a.tmps.getD d' Bq:=by rw[Ei h1,hv]
        have hrunO:∀ {v:Value},(O6 t (a.eval x') (lo'.map a.eval) (hi'.map a.eval) none).run P w = .ok v w->(execOp a.eval o).run P w = .ok (.value v) w:=by
         intro v hv;simp only[execOp,hop,AQ,Qd,hv,A3,Br]
        have key:∀ {len cap:Nat} {v:Value},n=len->n<=cap->(O6 t (a.eval x') (lo'.map a.eval) (hi'.map a.eval) none).run P w = .ok v w->A8f k' l hh (a.tmps.getD d' Bq) v->o.wp P a w K' Q:=by
         intro len cap v _ _ hrun hsv;refine Bz (hrunO hrun) (hK _ _ ?_);have hroot:=Ja hro.2;have hfree:=AH hkd hro.1;cases hdst:o.dst with
         | none=>exact h
         | some t1 =>
          rw[hdst] at hroot hfree;refine DA (ks:=[]) h (If _ _) (fun u hu => .inr (hfree t1 rfl u hu)) (fun he=>(by cases he)) (fun X _ _ => ?_);refine⟨(hroot t1 rfl).1,?_⟩;rw[LV,if_neg]
          ·exact hsv
          ·rintro⟨g,_⟩;exact (hroot t1 rfl).2 g
        rcases hd0 with ⟨e,rfl,rfl⟩ | ⟨b,cap,e,e2,e3,e4,e5,e6⟩
        ·have hb:=JP (P:=P) (w:=w) (len:=0) (cap:=0) (m:=0) (h:=hh) (l:=l) (mx:=none) (.inl ⟨rfl,rfl⟩) (fP (om:=none) (om':=none) h h3 rfl b2 (fun g=>by cases g) (fun g=>by cases g) (fun _=>c2)) (Xm h h2 b3 c1);have hz:hh=0:=by omega
         have lz:l=0:=by omega
         subst hz lz;refine key rfl (Ao _) (v := .slice none 0 0) ?_ (.inl ⟨e,rfl,rfl,rfl⟩);rw[hxv,e,JQ h5 hb];rfl
        ·have hb:=JP (P:=P) (w:=w) (len:=n) (cap:=cap) (m:=cap) (h:=hh) (l:=l) (mx:=none) (.inl ⟨rfl,rfl⟩) (fP (om:=none) (om':=none) h h3 rfl b2 (fun g=>by cases g) (fun g=>by cases g) (fun _=>by omega)) (Xm h h2 b3 c1);refine key rfl e2 (v := .slice (if cap=l then some ⟨b,0,none⟩ else some ⟨b,l*k',none⟩) (hh-l) (cap-l)) ?_ (.inr ⟨b,n,cap,e,c1,c2,e2,rfl⟩);rw[hxv,e,JQ h5 hb];simp only[AF,Hs,Cb]
       ·cases hev
      ·cases hev
     ·cases hev
    ·cases hev
   ·cases hev
  ·cases hk
 case app ow x d y k =>
  simp only[GB] at hk;split at hk
  ·rename_i args ts hop;unfold UZ at hk;split at hk
   ·rename_i x' y' t t' hargs hts;simp only[Af] at hk;obtain⟨⟨⟨⟨h1,h2⟩,h3⟩,h4⟩,h5⟩:=hk;have e1:args=#[x',y']:=by rw[<- Di (xs:=args),hargs]
    have e2:ts=#[t,t']:=by rw[<- Di (xs:=ts),hts]
    subst e1 e2;simp only[EB,Af] at hro;obtain⟨dd,hdst⟩:=Bf.1 hro.1.2;have hfr:∀ u,(u,dd)∈roots->EP (A8 s u)=false:=fun u hu=>AH hkd hro.1.1 dd hdst u hu;simp only[B7] at hev;split at hev
    ·rename_i d' k' l hh hxr;split at hev
     ·rename_i hc;obtain⟨rfl,rfl,rfl⟩:=hc;split at hev
      ·rename_i k'' n cs hdr;split at hev
       ·rename_i hc2;obtain⟨rfl,hle⟩:=hc2;split at hev
        ·rename_i m ys hy;split at hev
         ·rename_i hc3;cases hev;have hs1:=A4h h hxr hdr hle (fun t ht=>AH hkd hro.2 x rfl t ht);have hxd:x ≠ d':=by intro g;rw[g,hdr] at hxr;cases hxr
          have hlx:x<s.length:=by
           rcases Ct x s.length with hlt | hge
           ·exact hlt
           ·simp only[A8,Z,AI hge] at hxr;cases hxr
          have hget:∀ u,A8 ((s.set d' .dead).set x (.own k'' hh (cs.take (hh*k'')))) u=if x=u then .own k'' hh (cs.take (hh*k'')) else if d'=u/\u<s.length then .dead else A8 s u:=by
           intro u;rw[Du,Ba,Du];by_cases g:x=u
           ·subst g;rw[if_pos ⟨rfl,hlx⟩,if_pos rfl]
           ·rw[if_neg (fun q=>g q.1),if_neg g];by_cases g2:d'=u
            ·subst g2;rfl
            ·rw[if_neg (fun q=>g2 q.1),if_neg (fun q=>g2 q.1)]
          have hy1:y.av ((s.set d' .dead).set x (.own k'' hh (cs.take (hh*k''))))=some (.sl m ys):=by
           cases y with
           | c v=>exact hy
           | t u =>
            simp only[Opd.av,Opd.reg] at hy |-;have hux:x ≠ u:=by intro g;rw[<- g,hxr] at hy;cases hy
            have hud:d' ≠ u:=by intro g;rw[<- g,hdr] at hy;cases hy
            rw[hget,if_neg hux,if_neg (fun q=>hud q.1)];exact hy
          have hK2:∀ a' w',Rel Y X0 roots w0 (Ea (BZ ((s.set d' .dead).set x (.own k'' hh (cs.take (hh*k'')))) [(x,.dead)]) (some dd) (if ow then .own k'' (hh+m) (cs.take (hh*k'')++ys) else .val (.sl (hh+m) (cs.take (hh*k'')++ys)))) a' w'->K' a' w':=by
           intro a' w' hrel;refine hK a' w' ?_;rw[hdst];simp only[BZ,SL] at hrel |-;exact hrel
          refine XC hs1 hop h1 h3 h4 h5 hdst (fun u hu => ?_) (by rw[hget,if_pos rfl]) (Abc (CN hs1 h2 hy1)) hc3.1 hc3.2 hK2;rw[hget];split
          ·rfl
          ·split
           ·rfl
           ·exact hfr u hu
         ·cases hev
        ·cases hev
       ·cases hev
      ·cases hev
     ·cases hev
    ·cases hev
   ·cases hk
  ·cases hk
 case apb ow x y d k =>
  simp only[GB] at hk;split at hk
  ·rename_i args ts hop;unfold UZ at hk;split at hk
   ·rename_i x' y' t t' hargs hts;simp only[Af] at hk;obtain⟨⟨⟨⟨h1,h2⟩,h3⟩,h4⟩,h5⟩:=hk;have e1:args=#[x',y']:=by rw[<- Di (xs:=args),hargs]
    have e2:ts=#[t,t']:=by rw[<- Di (xs:=ts),hts]
    subst e1 e2;simp only[EB,Af] at hro;obtain⟨dd,hdst⟩:=Bf.1 hro.2;have hfr:∀ u,(u,dd)∈roots->EP (A8 s u)=false:=fun u hu=>AH hkd hro.1 dd hdst u hu;simp only[B7] at hev;split at hev
    ·rename_i k0 n cs hxr;split at hev
     ·rename_i d' k' l hh hyr;split at hev
      ·rename_i hc;obtain⟨rfl,rfl,rfl⟩:=hc;split at hev
       ·rename_i k'' n' cs' hdr;split at hev
        ·rename_i hc2;obtain⟨rfl,hle,hnm⟩:=hc2;cases hev;have h0:=h.reg y;rw[hyr] at h0;obtain⟨_,hv⟩:=h0;have hd0:=h.reg d';rw[hdr] at hd0;have hyv:a.eval y'=a.tmps.getD y Bq:=Ei h2;rcases hv with ⟨q1,q2,rfl,rfl⟩ | ⟨b,n2,cap,q1,ql,ql2,ql3,q2⟩
         ·refine XC (ow:=ow) (m:=0-0) (ys:=(cs'.drop (0*k'')).take ((0-0)*k'')) h hop h1 h3 h4 h5 hdst hfr hxr (.inl ⟨rfl,by simp,.inl (by rw[hyv,q2])⟩) (by simp) hnm ?_;rw[<- hdst];exact hK
         ·rcases hd0 with ⟨p1,_⟩ | ⟨b',cap',p1,p2,p3,p4,p5,p6⟩
          ·rw[q1] at p1;cases p1
          ·rw[q1] at p1;cases p1;have hmem:FX Y (fun b=>X0 b\/XS s a.tmps b) w b (0+l*k'') ((cs'.drop (l*k'')).take ((hh-l)*k'')):=kJ (p5.mem.drop (l*k'')) _;rw[Cb] at hmem;have hlen:((cs'.drop (l*k'')).take ((hh-l)*k'')).length=(hh-l)*k'':=by
            rw[AD,CV,p3];have:l*k''+(hh-l)*k''<=n'*k'':=by rw[<- DE];exact AJ _ (by omega)
            omega
           refine XC (ow:=ow) (m:=hh-l) h hop h1 h3 h4 h5 hdst hfr hxr ?_ hlen hnm ?_
           ·by_cases hcl:cap=l
            ·have hz:hh-l=0:=by omega
             rw[if_pos hcl] at q2;refine .inl ⟨hz,by rw[hz];simp,.inr ⟨⟨b,0,none⟩,cap-l,?_⟩⟩;rw[hyv,q2,hz]
            ·rw[if_neg hcl] at q2;exact .inr ⟨b,l*k'',cap-l,by rw[hyv,q2],hmem,by omega⟩
           ·rw[<- hdst];exact hK
        ·cases hev
       ·cases hev
      ·cases hev
     ·cases hev
    ·cases hev
   ·cases hk
  ·cases hk
 case slo x hi k =>
  simp only[GB] at hk;split at hk
  ·rename_i t x' hi' hop;simp only[Af] at hk;obtain⟨⟨h1,h2⟩,h5⟩:=hk;simp only[EB,Af] at hro;obtain⟨d,hdst⟩:=Bf.1 hro.2;simp only[B7] at hev;split at hev
   ·rename_i ki iv hiv;split at hev
    ·rename_i k' n cs hr;split at hev
     ·rename_i hc;obtain⟨rfl,c1,c2⟩:=hc;cases hev;have hbr:=CN h h2 hiv;generalize hbv:a.eval hi'=bv at hbr;cases hbr;have hx':=Ei (a:=a) h1;have h0:=h.reg x;rw[hr] at h0;have hle:iv.toNat<=n:=by omega
      rcases h0 with ⟨e,rfl,rfl⟩ | ⟨b,cap,e,e2,e3,e4,e5,e6⟩
      ·have hb:=JP (P:=P) (w:=w) (len:=0) (cap:=0) (m:=0) (h:=iv.toNat) (l:=0) (lo:=none) (hi:=some (.int ki iv)) (mx:=none) (.inl ⟨rfl,rfl⟩) (.inr ⟨ki,iv,rfl,c1,rfl,hle⟩) (.inl ⟨rfl,rfl⟩);have hz:iv.toNat=0:=by omega
       refine Bz (v := .slice none 0 0) ?_ (hK _ _ ?_)
       ·simp only[execOp,hop,AQ,hx',e,Qd,AF,hbv,JQ h5 hb,hz];rfl
       ·rw[hdst,hz];simpa using LY (ow:=true) (ks:=[x]) h (fun u hu => .inr (AH hkd hro.1 d hdst u hu))
      ·have hb:=JP (P:=P) (w:=w) (len:=n) (cap:=cap) (m:=cap) (h:=iv.toNat) (l:=0) (lo:=none) (hi:=some (.int ki iv)) (mx:=none) (.inl ⟨rfl,rfl⟩) (.inr ⟨ki,iv,rfl,c1,rfl,by omega⟩) (.inl ⟨rfl,rfl⟩);refine Bz (v := .slice (some ⟨b,0,none⟩) iv.toNat cap) ?_ (hK _ _ ?_)
       ·simp only[execOp,hop,AQ,hx',e,Qd,AF,hbv,JQ h5 hb,LX,NQ,Hs,ite_self];rfl
       ·rw[hdst];refine h.pass (by rw[hr];rfl) (by rw[e];rfl) (fun u hu=>AH hkd hro.1 d hdst u hu) (fun X g1 => .inr ⟨b,cap,rfl,by omega,?_,e4,?_,e6⟩)
        ·rw[AD,e3,rT (AJ _ hle)]
        ·obtain⟨q1,vs,T,q2,q3,q4⟩:=e5.mono (X':=X) fun c hc => .inl (g1 c hc);refine⟨fun y hy=>q1 y (BT hy),vs,T,q2,?_,fun i hi => ?_⟩
         ·have:(cs.take (iv.toNat*k')).length<=cs.length:=by rw[AD];exact Aok _ _
          omega
         ·obtain⟨v,r1,r2⟩:=q4 i (by simp at hi;omega);exact⟨v,r1,by simpa using r2⟩
     ·cases hev
    ·cases hev
   ·cases hev
  ·cases hk
 case ixo x d i k =>
  simp only[GB] at hk;split at hk
  ·rename_i t x' i' hop;simp only[Af] at hk;obtain⟨⟨h1,h2⟩,hk⟩:=hk;obtain⟨e,ii,zv,hu,hii,hs,hk0,_,_,_⟩:=EZ hk;have hsz:(sizeOf e).run P w = .ok k w:=by simp[sizeOf,typeInfo,program,Ge,hii,hs]
   simp only[EB,Af] at hro;simp only[B7] at hev;split at hev
   ·rename_i ki iv hi;have hir:=CN h h2 hi;generalize hiv:a.eval i'=ivv at hir;cases hir;have hx':=Ei (a:=a) h1;have h0:=h.reg x;split at hev
    ·rename_i n cs hr;rw[hr] at h0;split at hev
     ·rename_i hb;cases hev;rw[<- hx'] at h0;generalize hxv:a.eval x'=xv at h0;cases h0 with
      | nil0=>exact absurd hb (by omega)
      | e0 _ _=>exact absurd hb (by omega)
      | sl b off _ cap _ f hd hn hX hY hcell hrr =>
       have hmem:FX Y (fun b=>X0 b\/XS s a.tmps b) w b off cs:=⟨hd,fun j hj=>⟨f j,hcell j hj,hrr j hj⟩⟩;refine Bz (v := .pointer (some ⟨b,off+iv.toNat*k,none⟩)) ?_ (hK _ _ ?_)
       ·simp only[execOp,hop,ZI,AQ,hiv,asIntOf,Br,A3,run_underlying hu,hxv,hb,and_self,if_true,hsz,Hs]
       ·refine Qh h (AH hkd hro.1) (fun hne=>hX (fun hn=>hne (by rw[hn];simp))) (hmem.drop _)
     ·cases hev
    ·rename_i d' hr;split at hev
     ·rename_i hd;subst hd;split at hev
      ·rename_i k' n cs hr2;split at hev
       ·rename_i hb;obtain⟨rfl,hb⟩:=hb;cases hev;rw[hr] at h0;obtain⟨b,cap,e1,_⟩:=(h.ownLow hr2).resolve_left (fun hh=>by omega);have hxv:a.eval x' = .slice (some ⟨b,0,none⟩) n cap:=by rw[hx',h0.2,e1]
        refine Bz (v := .pointer (some ⟨b,0+iv.toNat*k',none⟩)) ?_ (hK _ _ ?_)
        ·simp only[execOp,hop,ZI,AQ,hiv,asIntOf,Br,A3,run_underlying hu,hxv,hb,and_self,if_true,hsz,Hs]
        ·exact Qi (p:=⟨b,0,none⟩) h (AH hkd hro.1) (Ja hro.2) (by rw[e1];rfl) rfl
       ·cases hev
      ·cases hev
     ·cases hev
    ·cases hev
   ·cases hev
  ·cases hk
 case lno x d =>
  simp only[GB] at hk;split at hk
  ·rename_i args ts hop;unfold fL at hk;split at hk
   ·rename_i x' t hargs hts;simp only[Af] at hk;obtain⟨h1,h2⟩:=hk;have e1:args=#[x']:=by rw[<- Di (xs:=args),hargs]
    have e2:ts=#[t]:=by rw[<- Di (xs:=ts),hts]
    subst e1 e2;split at h2
    ·rename_i e hu;simp only[B7] at hev;have fin:∀ (base:Option Addr) (n c:Nat),a.eval x' = .slice base n c->(∀ a' w',Rel Y X0 roots w0 (Ea s o.dst (.val (.int .i64 n))) a' w'->K' a' w')->o.wp P a w K' Q:=by
      intro base n c he hK';refine Bz (v := .int .i64 n) ?_ (hK' _ _ (h.put (AH hkd hro) (.int _ _)));simp[execOp,hop,resolve,invoke,builtin,Aol,he,run_underlying hu,goInt]
     have hx':=Ei (a:=a) h1;have h0:=h.reg x;split at hev
     ·rename_i hr;cases hev;rw[hr,<- hx'] at h0;generalize hxv:a.eval x'=xv at h0;cases h0;exact fin _ _ _ hxv hK
     ·rename_i n cs hr;cases hev;rw[hr,<- hx'] at h0;generalize hxv:a.eval x'=xv at h0;cases h0 <;> exact fin _ _ _ hxv hK
     ·rename_i d' hr;split at hev
      ·rename_i hd;subst hd;split at hev
       ·rename_i k n cs hr2;cases hev;rw[hr] at h0;rcases h.ownLow hr2 with ⟨e1,rfl,_⟩ | ⟨b,cap,e1,_⟩
        ·exact fin _ _ _ (by rw[hx',h0.2,e1]) hK
        ·exact fin _ _ _ (by rw[hx',h0.2,e1]) hK
       ·cases hev
      ·cases hev
     ·cases hev
    ·cases h2
   ·cases hk
  ·cases hk
end
def XD(ops:Array Oper):Option (Nat × Bool)->Option (Nat × Bool)->Bool
 | none,none=>true
 | some (j,b),some (t,b')=>(ops[j]?).bind (·.dst)==some t&&b==b'
 | _,_=>false
def Abf(roots:List (Nat × Nat))(io:IOp):Bool:=io.g.isNone || FA roots io.ks io.dst
def IU(P:Program)(roots:List (Nat × Nat))(ops:Array Oper)(o:Oper)(io:IOp):Bool :=
 GB P o.op io.k&&o.dst==io.dst&&EB roots io.ks io.dst io.k&&XD ops o.guard io.g&&Abf roots io
section
variable {P:Program} {Y X0:Nat->Prop} {roots:List (Nat × Nat)} {w0:Base} {w:World} {s:Aj} {a:Act} {Q:Exit->Act->World->Prop}
theorem bB(h:Rel Y X0 roots w0 s a w){ops:Array Oper}{o:Oper}{g:Option (Nat × Bool)}{b:Bool}(hg:XD ops o.guard g=true)(hw:HK s g=some b):XE o (yielded ops a.tmps)=b:=by
 unfold XD at hg;split at hg
 ·rename_i h1;simp only[HK,A9] at hw;subst hw;simp[XE,h1]
 ·rename_i j b1 t b2 h1;simp only[Af,beq_iff_eq] at hg;obtain⟨h2,rfl⟩:=hg;have h0:=h.reg t;simp only[HK] at hw;simp only[XE,h1,yielded,h2,Option.bind_some];have hlt:∀ v,a.tmps.getD t Bq=v->v ≠ Bq->a.tmps[t]? = some v:=by
   intro v hv hne;rw[CB] at hv;cases hh:a.tmps[t]? with
   | none=>rw[hh] at hv;exact absurd hv.symm hne
   | some u=>rw[hh] at hv;simp at hv;rw[hv]
  cases hr:A8 s t with
  | val x =>
   rw[hr] at hw h0;generalize hv:a.tmps.getD t Bq=v at h0;cases h0 with
   | bool c =>
    dsimp only at hw;rw[hlt _ hv (by nofun)];simp only[A9] at hw;rw[<- hw];cases c <;> cases b1 <;> rfl
   | undef =>
    dsimp only at hw;simp only[A9] at hw;rw[<- hw];rw[CB] at hv;cases hh:a.tmps[t]? with
    | none=>simp
    | some u=>rw[hh] at hv;simp at hv;rw[hv];simp[Bq]
   | int _ _=>cases hw
   | str _=>cases hw
   | agg _ _ _ _ _=>cases hw
   | tup _ _ _ _=>cases hw
   | nil=>cases hw
   | nil0=>cases hw
   | e0 _ _=>cases hw
   | sl _ _ _ _ _ _ _ _ _ _ _=>cases hw
   | pt _ _ _ _ _ _ _ _=>cases hw
   | fnc _ _ _ _=>cases hw
  | box _=>rw[hr] at hw;cases hw
  | ptr _ _=>rw[hr] at hw;cases hw
  | mem _=>rw[hr] at hw;cases hw
  | own _ _ _=>rw[hr] at hw;cases hw
  | agn _ _ _ _=>rw[hr] at hw;cases hw
  | bxl _=>rw[hr] at hw;cases hw
  | dup _=>rw[hr] at hw;cases hw
  | sub _ _ _ _=>rw[hr] at hw;cases hw
  | dead=>rw[hr] at hw;cases hw
 ·cases hg
theorem Aom{ops:Array Oper}{i:Nat}{o:Oper}{io:IOp}{F:BL}{s':Aj}{K':Act->World->Prop}(h:Rel Y X0 roots w0 s a w)(hF:LC P F)(hi:ops[i]? = some o)(ho:IU P roots ops o io=true)
  (hev:G9 F io s=some s') (hK:∀ a' w',Rel Y X0 roots w0 s' a' w'->K' a' w'):wpOp P ops Q i K' a w:=by
 simp only[IU,Af,beq_iff_eq] at ho;obtain⟨⟨⟨⟨h1,h2⟩,h3⟩,h4⟩,h5⟩:=ho;simp only[G9,Jo] at hev;have hkd:∀ t∈io.ks,EP (A8 (kill s io.ks) t)=false:=fun t ht=>by rw[Gn,if_pos ht];rfl
 have h:=h.kill io.ks;generalize kill s io.ks=s at *
 simp only[wpOp,hi];split at hev
 ·cases hev
 ·rename_i hw;cases hev;rw[bB h h4 hw];simp only[B_,if_false];rw[h2];refine hK _ _ (h.put ?_ .undef);simp only[Abf,UX] at h5;rcases h5 with h5 | h5
  ·cases hg:io.g with
   | none=>rw[hg] at hw;cases hw
   | some p=>rw[hg] at h5;cases h5
  ·exact AH hkd h5
 ·rename_i hw;rw[bB h h4 hw];simp only[if_true];split at hev
  ·cases hev
  ·rename_i r l hk;cases hev;rw[<- h2] at hK h3;exact .inl (simK h hF h1 hkd h3 hk hK)
def OH(P:Program)(roots:List (Nat × Nat))(ops:Array Oper):List Oper->List IOp->Bool
 | [],[]=>true
 | o::l,io::m=>IU P roots ops o io&&OH P roots ops l m
 | _,_=>false
theorem SQ{ops:Array Oper}:∀ {l:List Oper} {m:List IOp},OH P roots ops l m=true->l.length=m.length/\∀ (i:Nat) (o:Oper) (io:IOp),l[i]? = some o->m[i]? = some io->IU P roots ops o io=true
 | [],[],_=>⟨rfl,fun i o io h=>(by simp at h)⟩
 | o::l,io::m,h=>by
  simp only[OH,Af] at h;obtain⟨e1,e2⟩:=SQ h.2;refine⟨by simp[e1],fun i o' io' h1 h2 => ?_⟩;cases i with
  | zero=>simp at h1 h2;subst h1 h2;exact h.1
  | succ i=>simp at h1 h2;exact e2 i o' io' h1 h2
 | [],_::_,h=>by cases h
 | _::_,[],h=>by cases h
theorem Abg{ops:Array Oper}{F:BL}(hF:LC P F):∀ {l:List Oper} {m:List IOp} {k:Nat} {s s':Aj} {a:Act} {w:World},(∀ j,l[j]? = ops[k+j]?)->OH P roots ops l m=true->Rel Y X0 roots w0 s a w ->
  EA F m s=some s'->(∀ a' w',Rel Y X0 roots w0 s' a' w'->Q .normal a' w')->wpOps P ops Q (List.range' k l.length) a w
 | [],[],k,s,s',a,w,_,_,h,hev,hQ=>by
  simp only[EA,A9] at hev;subst hev;exact hQ _ _ h
 | o::l,io::m,k,s,s',a,w,hl,hok,h,hev,hQ=>by
  simp only[OH,Af] at hok;simp only[EA] at hev;cases h1:G9 F io s with
  | none=>rw[h1] at hev;cases hev
  | some s1 =>
   rw[h1] at hev;have hi:ops[k]? = some o:=by simpa using (hl 0).symm
   rw[B0,List.range'_succ,wpOps_cons];exact Aom h hF hi hok.1 h1 fun a' w' h'=>Abg hF (fun j=>by have:=hl (j+1);simpa [DW,Gt 1 j] using this) hok.2 h' hev hQ
 | [],_::_,_,_,_,_,_,_,hok,_,_,_=>by cases hok
 | _::_,[],_,_,_,_,_,_,hok,_,_,_=>by cases hok
def Iw(o:Oper):List Nat:=(o.after.toList.filter (Region.binds .any)).map (·.on)
def Qq:List Oper->List (List Nat)->List (List Nat)
 | [],acc=>acc
 | o::l,acc=>Qq l (acc++[((Iw o)++(Iw o).flatMap fun p=>acc.getD p []).eraseDups])
theorem kK:∀ (l done:List Oper) (acc:List (List Nat)),acc.length=done.length ->
  (∀ (i j:Nat),j∈acc.getD i []->∃ o,done[i]? = some o/\∃ p∈Iw o,j=p\/(p<i/\j∈acc.getD p [])) ->
  ∀ (i j:Nat),j∈(Qq l acc).getD i []->∃ o,(done++l)[i]? = some o/\∃ p∈Iw o,j=p\/(p<i/\j∈(Qq l acc).getD p []):=by
 intro l;induction l with
 | nil=>intro done acc _ h i j hj;simpa [Qq] using h i j hj
 | cons o l ih =>
  intro done acc hlen h i j hj;simp only[Qq] at hj |-;have:=ih (done++[o]) (acc++[((Iw o)++(Iw o).flatMap fun p=>acc.getD p []).eraseDups]) (by simp[hlen]) (fun i j hj => ?_) i j hj
  ·simpa using this
  ·have lt_of:∀ (q x:Nat),x∈acc.getD q []->q<acc.length:=by
    intro q x hx;rcases Ct q acc.length with h1 | h1
    ·exact h1
    ·rw[Z,AI h1] at hx;cases hx
   have keep:∀ (q x:Nat),x∈acc.getD q []->x∈(acc++[((Iw o)++(Iw o).flatMap fun p=>acc.getD p []).eraseDups]).getD q []:=by
    intro q x hx;rw[Z,AZ (lt_of q x hx),<- Z];exact hx
   rcases Ct i acc.length with h1 | h1
   ·rw[Z,AZ h1,<- Z] at hj;obtain⟨o',e1,p,hp,e2⟩:=h i j hj;refine⟨o',by rw[AZ (by omega)];exact e1,p,hp,?_⟩;rcases e2 with e2 | ⟨e2,e3⟩
    ·exact .inl e2
    ·exact .inr ⟨e2,keep p j e3⟩
   ·have hi:i=acc.length:=by
     rcases Ct acc.length i with h2 | h2
     ·rw[Z,AI (by simp;omega)] at hj;cases hj
     ·omega
    subst hi;rw[Z,Bk (Ao _)] at hj;simp only[Wh,A4b,H7,List.mem_eraseDups,Bn,List.mem_flatMap] at hj;refine⟨o,by rw[hlen,Bk (Ao _)];simp,?_⟩;rcases hj with hj | ⟨p,hp,hj⟩
    ·exact⟨j,hj,.inl rfl⟩
    ·exact⟨p,hp,.inr ⟨lt_of p j hj,keep p j hj⟩⟩
def kL(anc:List (List Nat))(io:List IOp):Bool :=
 io.zipIdx.all fun (b,i)=>(io.take i).zipIdx.all fun (a,j)=>SN a b || (anc.getD i []).contains j
def Abh(ops:List Oper):Bool:=ops.zipIdx.all fun (o,i)=>(Iw o).all fun p=>decide (p<i)
def TT(ops:Array Oper)(io:List IOp):Bool:=Abh ops.toList&&kL (Qq ops.toList []) io
theorem fQ{ops:Array Oper}{io:List IOp}(h:TT ops io=true) :
  (∀ (i:Nat) (o:Oper),ops[i]? = some o->∀ p∈Iw o,p<i) /\
  ∀ (i j:Nat) (a b:IOp),j<i->io[j]? = some a->io[i]? = some b->SN a b=true\/j∈(Qq ops.toList []).getD i []:=by
 simp only[TT,Af] at h;constructor
 ·intro i o ho p hp;have h1:=h.1;simp only[Abh,Cf,Prod.forall] at h1;have:=h1 o i (by rw[Lk];simpa using ho) p hp;simpa using this
 ·intro i j x b hji hj hi;have h1:=h.2;simp only[kL,Cf,Prod.forall] at h1;have h2:=h1 b i (by rw[Lk];simpa using hi);have:=h2 x j (by rw[Lk,B8 hji];simpa using hj);simpa using this
end
section
variable {P:Program} {Y X0:Nat->Prop} {roots:List (Nat × Nat)} {w0:Base} {Q:Exit->Act->World->Prop}
def FT(n:Nat)(listed:Array Bool):List Nat:=(Aq n).filter fun i => !listed.getD i true
theorem KJ{n i:Nat}{listed:Array Bool}:i∈FT n listed↔i<n/\listed.getD i true=false:=by
 simp[FT]
theorem SR(listed:Array Bool)(i j:Nat)(d:Bool):(listed.setIfInBounds i true).getD j d=if i=j/\i<listed.size then true else listed.getD j d:=by
 simp only[CB,SK];by_cases h:i=j
 ·subst h;by_cases h2:i<listed.size <;> simp[h2]
 ·simp[h]
theorem ZN{l:List Nat}(hs:l.Pairwise (·<·)){i:Nat}(hi:i∈l):∃ pre post,l=pre++i::post/\(∀ j∈pre,j<i)/\l.filter (fun j=>decide (j ≠ i))=pre++post:=by
 induction l with
 | nil=>cases hi
 | cons k l ih =>
  rw[Gz] at hs;by_cases hk:k=i
  ·subst hk;refine⟨[],l,rfl,fun j hj=>(by cases hj),?_⟩;simp only[GV];rw[List.filter_cons_of_neg (by simp)];refine sT.2 fun j hj => ?_;have:=hs.1 j hj;simp;omega
  ·have hi':i∈l:=by
    cases hi with
    | head=>exact absurd rfl hk
    | tail _ h=>exact h
   obtain⟨pre,post,e1,e2,e3⟩:=ih hs.2 hi';refine⟨k::pre,post,by rw[e1];rfl,fun j hj => ?_,?_⟩
   ·cases hj with
    | head=>exact hs.1 i hi'
    | tail _ h=>exact e2 j h
   ·rw[List.filter_cons_of_pos (by simp[hk]),e3];rfl
theorem Qr(n:Nat)(listed:Array Bool):(FT n listed).Pairwise (·<·):=AEk _ List.pairwise_lt_range
theorem Wi{n i:Nat}{listed:Array Bool}(hi:i<listed.size):FT n (listed.setIfInBounds i true)=(FT n listed).filter fun j=>decide (j ≠ i):=by
 unfold FT;rw[List.filter_filter];apply List.filter_congr;intro j _;rw[SR];by_cases h:i=j
 ·subst h;simp[hi]
 ·have h':¬ j=i:=fun e=>h e.symm;simp[h,h']
def TU(io:List IOp)(i:Nat):IOp:=io.getD i ⟨none,.mov (.c .undef),none,[]⟩
def Abi(ops:Array Oper)(listed:Array Bool):Prop:=∀ (i:Nat) (o:Oper),ops[i]? = some o->listed.getD i false=true->∀ p∈Iw o,listed.getD p false=true
theorem kN{ops:Array Oper}{listed:Array Bool}(hc:Abi ops listed):∀ (i:Nat) (o:Oper),ops[i]? = some o->(∀ p∈Iw o,listed.getD p false=true)->∀ j∈(Qq ops.toList []).getD i [],listed.getD j false=true:=by
 intro i;induction i using WX with
 | _ i ih =>
  intro o ho hp j hj;obtain⟨o',e1,p,hpp,e2⟩:=kK ops.toList [] [] rfl (fun i j h=>(by simp at h)) i j hj;simp only[GV,A3z] at e1;rw[ho] at e1;cases e1;rcases e2 with rfl | ⟨hlt,e3⟩
  ·exact hp _ hpp
  ·have hl:=hp p hpp;have hps:p<ops.size:=by
    have:=(Fl.1 ho).1;omega
   exact ih p hlt ops[p] (by simp[hps]) (hc p ops[p] (by simp[hps]) hl) j e3
theorem A4i{ops:Array Oper}{io:List IOp}{F:BL}{sf:Aj}(hF:LC P F)(hok:OH P roots ops ops.toList io=true)(hdr:TT ops io=true)(hQ:∀ a' w',Rel Y X0 roots w0 sf a' w'->Q .normal a' w') :
  ∀ (fuel:Nat) (listed:Array Bool) (s:Aj) (a:Act) (w:World),listed.size=ops.size->Abi ops listed->(FT ops.size listed).length<=fuel->Rel Y X0 roots w0 s a w ->
   EA F ((FT ops.size listed).map (TU io)) s=some sf->wpAny P .any ops Q fuel listed a w:=by
 obtain⟨hback,hpairs⟩:=fQ hdr;obtain⟨hlen,hget⟩:=SQ hok;have hlen':io.length=ops.size:=by simpa using hlen.symm
 have stop:∀ (listed:Array Bool),listed.size=ops.size->Ss .any ops listed=[]->FT ops.size listed=[]:=by
  intro listed hsz hr;cases hop:FT ops.size listed with
  | nil=>rfl
  | cons i rest =>
   exfalso;have hi:=KJ.1 (hop ▸ AO:i∈FT ops.size listed);have hs:=Qr ops.size listed;rw[hop,Gz] at hs;have hready:i∈Ss .any ops listed:=by
    rw[mem_ready];refine⟨hi.2,ops[i],by simp[hi.1],fun e he hb => ?_⟩;have hp:e.on∈Iw ops[i]:=by
     simp only[Iw,Cn,ES];exact⟨e,⟨by simpa using he,hb⟩,rfl⟩
    have hlt:=hback i ops[i] (by simp[hi.1]) e.on hp;cases hh:listed.getD e.on true with
    | false =>
     have:e.on∈FT ops.size listed:=KJ.2 ⟨by omega,hh⟩;rw[hop] at this;cases this with
     | head=>omega
     | tail _ h=>have:=hs.1 _ h;omega
    | true =>
     have hsz':e.on<listed.size:=by omega
     simp only[CB,D8 hsz',H7] at hh |-;exact hh
   rw[hr] at hready;cases hready
 intro fuel;induction fuel with
 | zero =>
  intro listed s a w hsz hc hl h hev;have h0:FT ops.size listed=[]:=A5 (by omega);rw[h0] at hev;simp only[FW,EA,A9] at hev;subst hev;refine⟨?_,hQ _ _ h⟩;cases hr:Ss .any ops listed with
  | nil=>rfl
  | cons i rest =>
   have hi:i∈Ss .any ops listed:=by rw[hr];exact AO
   rw[mem_ready] at hi;obtain⟨h1,o,h2,_⟩:=hi;have:i∈FT ops.size listed:=KJ.2 ⟨(Fl.1 h2).1,h1⟩;rw[h0] at this;cases this
 | succ fuel ih =>
  intro listed s a w hsz hc hl h hev;refine⟨fun hr => ?_,fun i hi => ?_⟩
  ·rw[stop listed hsz hr] at hev;simp only[FW,EA,A9] at hev;subst hev;exact hQ _ _ h
  ·rw[mem_ready] at hi;obtain⟨h1,o,h2,h3⟩:=hi;have hin:i<ops.size:=(Fl.1 h2).1;have hmem:i∈FT ops.size listed:=KJ.2 ⟨hin,h1⟩;obtain⟨pre,post,e1,e2,e3⟩:=ZN (Qr _ _) hmem;have hpr:∀ p∈Iw o,listed.getD p false=true:=by
    intro p hp;simp only[Iw,Cn,ES] at hp;obtain⟨e,⟨he,hb⟩,rfl⟩:=hp;exact h3 e (by simpa using he) hb
   have hioi:io[i]? = some (TU io i):=by
    simp only[TU,Z,Ad (hlen' ▸ hin),H7]
   have hind:∀ q∈pre.map (TU io),SN q (TU io i)=true:=by
    intro q hq;rw[Cn] at hq;obtain⟨j,hj,rfl⟩:=hq;have hjlt:=e2 j hj;have hjop:j∈FT ops.size listed:=by rw[e1];exact Ff _ hj
    have hj2:=KJ.1 hjop;have hioj:io[j]? = some (TU io j):=by
     simp only[TU,Z,Ad (hlen' ▸ hj2.1),H7]
    rcases hpairs i j _ _ hjlt hioj hioi with hh | hh
    ·exact hh
    ·have hlj:=kN hc i o h2 hpr j hh;have hsz':j<listed.size:=by omega
     simp only[CB,D8 hsz',H7] at hlj hj2;rw[hlj] at hj2;cases hj2.2
   rw[e1,Ez,Cx] at hev;obtain⟨s1,hs1,hs2⟩:=fI hind hev;rw[<- Ez,<- e3,<- Wi (by omega)] at hs2;refine Aom h hF h2 (hget i o _ (by simpa using h2) hioi) hs1 fun a' w' h' => ?_;refine ih (listed.setIfInBounds i true) s1 a' w' (by simpa using hsz) ?_ ?_ h' hs2
   ·intro k ok hk hkl p hp;rw[SR] at hkl;rw[SR];split
    ·rfl
    ·split at hkl
     ·rename_i hik;obtain⟨rfl,_⟩:=hik;rw[h2] at hk;cases hk;exact hpr p hp
     ·exact hc k ok hk hkl p hp
   ·rw[Wi (by omega),e3];rw[e1] at hl;simp at hl |-;omega
theorem Adv{ops:Array Oper}{io:List IOp}{F:BL}{s sf:Aj}{a:Act}{w:World}{id:Nat}(hm:P.follows .mixedOrders=true)(hF:LC P F)(hok:OH P roots ops ops.toList io=true)(hdr:TT ops io=true)
  (h:Rel Y X0 roots w0 s a w) (hev:EA F io s=some sf) (hQ:∀ a' w',Rel Y X0 roots w0 sf a' w'->Q .normal a' w'):(ACq id ops true).wp P Q a w:=by
 have hlen:=(SQ hok).1;refine wp_region_any hm ?_;have hall:FT ops.size (Jm ops.size false)=Aq ops.size:=by
  unfold FT;refine sT.2 fun i hi => ?_;have:i<ops.size:=by simpa using hi
  simp[CB,this]
 refine A4i hF hok hdr hQ ops.size _ s a _ (by simp) ?_ (by rw[hall];simp) ⟨h.dfr,h.size,⟨h.below.os,h.below.tape,h.below.output,h.below.size,h.below.block⟩,h.low,h.lowY,fun t=>IR.world (h.reg t) ⟨rfl,rfl,rfl,Ao _,fun _ _=>rfl⟩,h.inj⟩ ?_
 ·intro i o ho hl;have hi:=(Fl.1 ho).1;simp[CB,hi] at hl
 ·rw[hall];have:(Aq ops.size).map (TU io)=io:=by
   apply GI;intro i;have hl':io.length=ops.size:=by simpa using hlen.symm
   by_cases hi:i<ops.size
   ·simp[hi,TU,Z,Ad (hl' ▸ hi)]
   ·rw[AI (by simp;omega),AI (by omega)]
  rw[this];exact hev
theorem Adw{ops:Array Oper}{io:List IOp}{F:BL}{s sf:Aj}{a:Act}{w:World}{id:Nat}(hF:LC P F)(hok:OH P roots ops ops.toList io=true)
  (h:Rel Y X0 roots w0 s a w) (hev:EA F io s=some sf) (hQ:∀ a' w',Rel Y X0 roots w0 sf a' w'->Q .normal a' w'):(ACq id ops false).wp P Q a w:=by
 refine wp_region ?_;have:=Abg (Q:=Q) hF (k:=0) (fun j=>by simp) hok h hev hQ;rw[List.range_eq_range'];simpa using this
end
end Go.Ai
