/- Texts of the proof of RootIsolates: part 3 of 13. -/
import Derived.ArgAppend
import Derived.Laws.MakeOwn
import Derived.Laws.Slices
import Derived.Laws.Cover3
import Derived.Test.YtajompaehjkgkaaGreatRis2
namespace Go.Ai
open Go.RowKit
open And renaming left->SM
open _root_.Array renaming all_eq_true_iff_forall_mem->iZ,getD_eq_getD_getElem?->Ct,getElem?_eq_getElem->Dm,getElem?_eq_some_iff->EP,getElem?_setIfInBounds->PA,getElem?_toList->Awm,getElem_map->qZ,getElem_range->iW,length_toList->CH,mapM_eq_mapM_toList->RH,range->Hr,replicate->H_,toArray_toList->Fx,toList_inj->tQ,toList_map->FD
open Bool renaming and_eq_true->Ad,false_eq_true->Cf,not_eq_true'->Ea,or_eq_true->aE
open Go renaming undef->Br
open Go.Act renaming eval->No
open Go.Builtin renaming append_->CA,firstCells->aV,lenOf->Kn,len_->Afu
open Go.Code renaming region->A5v
open Go.Deferred renaming ofValue->Ic
open Go.Instr renaming build->Uq,buildSlice->LA,extract->Awb,field->tE,fill->K3,indexAt->WR,sliceAt->iU,sliceBounds->Q6,storeAt->WQ,sureAddr->JT
open Go.Oper renaming upon->EJ,wp->Fl
open Go.Program renaming cellsOf->JR
open Go.Region renaming ready->Pq,wanted->U5
open Go.Result renaming andThen_ok->Az
open Go.RowKit.Below renaming heap_alloc->WU,refl->Ig
open Go.Sem renaming run->Fq,run_bind->AK,run_map->A6v,run_pure->Bk
open Go.Value renaming bool->Ue
open Go.World renaming cell?->Up
open Int renaming le_refl->Dz,mul_le_mul_of_nonneg_right->Ae
open List renaming all_eq_true->BA,append_assoc->JQ,append_nil->L5,contains_eq_mem->I5,drop->p,eq_nil_of_length_eq_zero->A9,ext_getElem?->Gg,filter_eq_self->jQ,getD_eq_getElem?_getD->Z,getElem?_append_left->AN,getElem?_append_right->AT,getElem?_cons_succ->Awn,getElem?_cons_zero->Awo,getElem?_eq_getElem->Af,getElem?_eq_none->AE,getElem?_eq_some_iff->Fz,getElem?_take_of_lt->B1,getElem?_toArray->RG,getElem_append_left->Pj,getElem_append_right->OD,getElem_cons_succ->aG,getElem_cons_zero->FN,getElem_mem->CT,getElem_of_mem->A6u,getElem_toArray->Nn,length_append->AX,length_cons->Bv,length_drop->Ep,length_nil->Ib,length_take->AB,mapM_cons->L6,map_append->D_,map_cons->C2,map_nil->GC,mem_append->BV,mem_append_left->HA,mem_cons->D4,mem_cons_of_mem->Bi,mem_cons_self->By,mem_filter->IE,mem_map->Em,mem_of_mem_drop->E',mem_of_mem_take->C3,mem_zipIdx_iff_getElem?->JA,nil_append->Ia,not_mem_nil->TR,pairwise_cons->rD,range->Aq,set_comm->jB,set_set->RD,size_toArray->Ij,take->B3,take_append_drop->X3,take_zero->TQ
open List.Pairwise renaming filter->A7a
open Nat renaming add_assoc->Dw,add_comm->JW,add_mul->D',add_zero->FR,eq_zero_or_pos->FJ,le_refl->Ap,le_trans->Be,lt_irrefl->TM,lt_of_lt_of_le->Dk,lt_or_ge->Cp,mod_eq_of_lt->F3,mul_le_mul->Bj,mul_le_mul_right->AF,not_le_of_lt->GI,strongRecOn->TN,sub_self->LV,sub_zero->JV,succ_mul->KT,zero_add->B_,zero_le->Ba,zero_mul->SX
open Option renaming getD_some->GE,isSome_iff_exists->A_,map_eq_some_iff->Aj,map_none->WV,map_some->A3
open Option.some renaming injEq->A1
section
variable {P:Program} {Y X:Nat->Prop} {w:World}
theorem E9{t:TypeId}{k:Nat}(h:FT P t k=true):∃ e i zv,P.underlying t=some (.slice e)/\P.info? e=some i/\i.size=k/\0<k/\i.bytes<=1048576/\i.zero=some zv/\zv.cells.size=k:=by
 unfold FT at h;split at h
 ·rename_i e hu;split at h
  ·rename_i i hi;simp only[Ad,beq_iff_eq,decide_eq_true_eq] at h;obtain⟨⟨⟨h1,h2⟩,h3⟩,h4⟩:=h;split at h4
   ·rename_i zv hz;simp only[beq_iff_eq] at h4;exact⟨e,i,zv,hu,hi,h1,by omega,h3,hz,by omega⟩
   ·cases h4
  ·cases h
 ·cases h
theorem F'{t:TypeId}(h:Hk P t=true):∃ e,P.underlying t=some (.slice e):=by
 unfold Hk at h;split at h
 ·rename_i e hu;exact⟨e,hu⟩
 ·cases h
theorem L9(z:List AV)(n:Nat):(Cu z n).length=n*z.length:=by
 induction n with
 | zero=>simp[Cu]
 | succ n ih=>simp only[Cu,AX,ih,KT];omega
theorem jM(z:List AV)(n:Nat):∀ i,i<n*z.length->(Cu z n)[i]? = z[i % z.length]? := by
 induction n with
 | zero=>intro i h;omega
 | succ n ih =>
  intro i h;rw[KT] at h;simp only[Cu];by_cases hi:i<z.length
  ·rw[AN hi,F3 hi]
  ·rw[AT (by omega),ih _ (by omega)];congr 1;exact (Nat.mod_eq_sub_mod (by omega)).symm
theorem jN(z:List AV)(n:Nat):∀ x∈Cu z n,x∈z:=by
 induction n with
 | zero=>intro x h;cases h
 | succ n ih =>
  intro x h;simp only[Cu,BV] at h;exact h.elim id (ih x)
theorem Afq{t:TypeId}{z:List AV}{kl kc:IntKind}{m:Int}(he:FT P t z.length=true)(hz:YX P t z=true)(h0:0<=m)(h1:m<=1048576) :
  ∃ e cells,(Instr.makeSlice t (.int kl m) (.int kc m)).run P w = .ok (.slice (some ⟨w.heap.size,0,none⟩) m.toNat m.toNat) (w.alloc (.cells cells e))/\D8 Y X w cells (Cu z m.toNat):=by
 obtain⟨e,i,zv,hu,hi,hs,hk,hb,hzv,hzs⟩:=E9 he;unfold YX at hz;rw[hu] at hz;dsimp only at hz;unfold M3 at hz;rw[hi] at hz;dsimp only at hz;rw[hzv] at hz;dsimp only at hz;have hc:D8 Y X w zv.cells z:=by
  have:=JZ (Y:=Y) (X:=X) (w:=w) hz;simpa using this
 have hbb:(i.bytes:Int)*m<=281474976710656:=by
  have a1:(i.bytes:Int)*m<=1048576*m:=Ae (by omega) h0;omega
 have hr:=run_make (P:=P) w t e i zv hu hi hzv kl kc m m h0 (Dz _) hbb (by omega);refine⟨e,_,hr,fun x hx=>hc.1 x (jN z _ x hx),?_,fun j g1 g2 => ?_⟩
 ·rw[size_madeCells,L9,hs]
 ·have hj:j<m.toNat*z.length:=by rw[<- L9];exact g2
  have e1:=jM z m.toNat j hj;rw[Af g2] at e1;obtain⟨v,hv,hrv⟩:=hc.get e1.symm;have:(madeCells zv.cells (m.toNat*i.size))[j]'g1=v:=by
   have hv':zv.cells[j % zv.cells.size]? = some v:=by rw[hzs];exact hv
   simp[madeCells,getElem!_def,hv']
  rw[this];exact hrv
def Il(w:World)(b off n:Nat):List Value:=(Aq n).map fun i=>(w.cell? ⟨b,off+i,none⟩).getD Br
theorem NH{b off:Nat}{cs:List AV}(h:Gq Y X w b off cs) :
  (Il w b off cs.length).length=cs.length/\(∀ j u,(Il w b off cs.length)[j]? = some u->w.cell? ((⟨b,off,none⟩:Addr).add j)=some u) /\
  (∀ (i:Nat) (h:i<cs.length),∃ u,(Il w b off cs.length)[i]? = some u/\Rd Y X w u cs[i])/\∀ u∈Il w b off cs.length,u.oneCell'=true:=by
 obtain⟨hd,hm⟩:=h;have hg:∀ (i:Nat) (h:i<cs.length),∃ u,(Il w b off cs.length)[i]? = some u/\w.cell? ⟨b,off+i,none⟩=some u/\Rd Y X w u cs[i]:=by
  intro i hi;obtain⟨v,h1,h2⟩:=hm i hi;exact⟨v,by simp[Il,hi,h1],h1,h2⟩
 have hl:(Il w b off cs.length).length=cs.length:=by simp[Il]
 refine⟨hl,fun j u hu => ?_,fun i hi => ?_,fun u hu => ?_⟩
 ·have hj:j<cs.length:=by
   have:=(Fz.1 hu).1;omega
  obtain⟨v,h1,h2,_⟩:=hg j hj;rw[hu] at h1;cases h1;rw[Hj];exact h2
 ·obtain⟨v,h1,_,h3⟩:=hg i hi;exact⟨v,h1,h3⟩
 ·obtain⟨j,hj,rfl⟩:=A6u hu;obtain⟨v,h1,_,h3⟩:=hg j (by omega);rw[Af hj] at h1;cases h1;exact (J9 h3 (hd _ (CT _))).1
theorem G7{t t' ty e e':TypeId}{i:TypeInfo}{args:Array Value}(h:P.underlying t=some (.slice e))(hi:P.info? e=some i)(h':P.underlying t'=some (.slice e')) :
  (CA #[t,t'] ty args).run P w=(CA #[t,t] ty args).run P w:=by
 have hsz:(sizeOf e).run P w = .ok i.size w:=by simp[sizeOf,typeInfo,program,Fq,hi]
 simp only[CA,RG,Awo,Awn];cases h0:args[0]? with
 | none=>rfl
 | some s =>
  cases h1:args[1]? with
  | none=>rfl
  | some x =>
   simp only[AK,run_underlying h,Az];cases s <;> try rfl
   simp only[AK,hsz,run_underlying h,run_underlying h',Az,Bk]
theorem jO{y:Value}{m:Nat}{ys:List AV}(h:Rd Y X w y (.sl m ys)):(m=0/\ys=[]/\(y = .slice none 0 0\/∃ p c,y = .slice (some p) 0 c))\/∃ b off cap,y = .slice (some ⟨b,off,none⟩) m cap/\Gq Y X w b off ys/\m<=cap/\(ys ≠ []->¬ X b):=by
 cases h with
 | nil0=>exact .inl ⟨rfl,rfl,.inl rfl⟩
 | e0 a c=>exact .inl ⟨rfl,rfl,.inr ⟨a,c,rfl⟩⟩
 | sl b off _ cap _ f hd hn hX hY hcell hr=>exact .inr ⟨b,off,cap,rfl,⟨hd,fun i hi=>⟨f i,hcell i hi,hr i hi⟩⟩,hn,hX⟩
def SlR(Y X:Nat->Prop)(w:World)(y:Value)(m:Nat)(ys:List AV):Prop:=(m=0/\ys=[]/\(y = .slice none 0 0\/∃ p c,y = .slice (some p) 0 c))\/∃ b off cap,y = .slice (some ⟨b,off,none⟩) m cap/\Gq Y X w b off ys/\m<=cap
theorem Awu{y:Value}{m:Nat}{ys:List AV}(h:Rd Y X w y (.sl m ys)):SlR Y X w y m ys:=by
 rcases jO h with h | ⟨b,off,cap,h1,h2,h3,_⟩
 ·exact .inl h
 ·exact .inr ⟨b,off,cap,h1,h2,h3⟩
theorem SV{w':World}{e:TypeId}{k n:Nat}{v:Value}{xs:List Value}{cs:List AV}(hown:w'.ownsRow w.heap.size e k v n xs)(hn:0<n)(hd:N9 cs)(hl:cs.length=n*k)(hx:xs.length=cs.length)
  (hr:∀ (i:Nat) (h:i<cs.length),∃ u,xs[i]? = some u/\Rd Y X w' u cs[i]):Fp Y X (XG w.heap.size) w' v k n cs:=by
 obtain⟨_,h | ⟨g,cap,cur,rfl,hg,hh,hnc,_,hcs,htake⟩⟩:=hown
 ·omega
 ·have hle:n*k<=cap*k:=AF _ hnc;refine .inr ⟨g,cap,rfl,hnc,hl,hg,⟨hd,cur,e,hh,by omega,fun i hi => ?_⟩,cur,e,hh,by omega⟩;obtain⟨u,h1,h2⟩:=hr i hi;refine⟨u,?_,h2⟩;rw[<- htake,B1 (by omega)] at h1;simpa using h1
theorem SW{cs ys:List AV}(h1:N9 cs)(h2:N9 ys):N9 (cs++ys):=fun x hx=>(BV.1 hx).elim (h1 x) (h2 x)
theorem YY{t e:TypeId}{i:TypeInfo}{B:Nat}(h:Ub P t B=true)(hu:P.underlying t=some (.slice e))(hi:P.info? e=some i):B*i.bytes<=140737488355328/\B<=140737488355328:=by
 unfold Ub at h;simp only[hu,hi,Ad,decide_eq_true_eq] at h;exact h
theorem QB{t t' ty:TypeId}{k n m B:Nat}{cs ys:List AV}{x y:Value}(he:FT P t k=true)(ht':Hk P t'=true)(hB:Ub P t B=true)
  (hx:(x = .slice none 0 0/\n=0/\cs=[]/\0<m)\/∃ b cap,x = .slice (some ⟨b,0,none⟩) n cap/\cap<n+m/\Gq Y X w b 0 cs) (hlen:cs.length=n*k) (hy:SlR Y X w y m ys) (hm0:0<m) (hylen:ys.length=m*k) (hnm:n+m<=B) :
  ∃ v' w',(CA #[t,t'] ty #[x,y]).run P w = .ok v' w'/\Below w.heap.size w w'/\Fp Y (fun c=>X c\/w.heap.size<=c) (XG w.heap.size) w' v' k (n+m) (cs++ys):=by
 obtain⟨e,i,zv,hu,hi,hs,hk,hb,hzv,hzs⟩:=E9 he;obtain⟨e',hu'⟩:=F' ht';rw[G7 hu hi hu'];obtain⟨by_,boff,bcap,rfl,hmem,_⟩:=hy.resolve_left (fun h=>by have:=h.1;omega);obtain⟨n1,n2,n3,n4⟩:=NH hmem;obtain⟨hB1,hB2⟩:=YY hB hu hi;have hbytes:(n+m)*i.bytes<=140737488355328:=Be (Bj hnm (Ap _)) hB1;have hmax:n+m<=maxLen:=by simp only[maxLen];omega
 rcases hx with ⟨rfl,rfl,rfl,hm⟩ | ⟨b,cap,rfl,hcap,hbm⟩
 ·obtain⟨v',w',hrun,r1,r2,_⟩:=run_append_own (P:=P) w w.heap.size t ty e i zv k i.bytes hu hi hzv hs rfl hzs hk (.slice none 0 0) 0 [] (World.ownsRow_nil w _ e k) ⟨by_,boff,none⟩ m bcap _ (by rw[n1,hylen]) n2 n4 hmax hbytes (Ap _);have hbel:Below w.heap.size w w':=⟨r2.os,r2.tape,r2.output,r2.size,fun c hc=>r2.block c hc (by simp[Value.ownBlock])⟩;refine⟨v',w',hrun,hbel,?_⟩;simp only[Ia];refine SV r1 (by omega) hmem.1 (by rw[hylen,B_]) (by simp[n1]) (fun j hj => ?_);obtain⟨u,h1,h2⟩:=n3 j hj;exact⟨u,by simpa using h1,(h2.mono fun b hb=>hb).world fun c _ hc=>hbel.block c hc⟩
 ·obtain⟨o1,o2,o3,o4⟩:=NH hbm;obtain⟨v',w',hrun,r1,r2⟩:=run_append_arg_grows (P:=P) w t ty e i zv k i.bytes hu hi hzv hs rfl hzs hk ⟨b,0,none⟩ n cap _ (by rw[o1,hlen]) o2 ⟨by_,boff,none⟩ m bcap _ (by rw[n1,hylen]) n2 hcap hmax hbytes;have hbel:Below w.heap.size w w':=⟨r2.os,r2.tape,r2.output,r2.size,fun c hc=>r2.block c hc (by simp)⟩;refine⟨v',w',hrun,hbel,?_⟩;refine SV r1 (by omega) (SW hbm.1 hmem.1) (by rw[AX,hlen,hylen,D']) (by simp[o1,n1]) (fun j hj => ?_);by_cases hj1:j<cs.length
  ·obtain⟨u,h1,h2⟩:=o3 j hj1;refine⟨u,by rw[AN (by omega)];exact h1,?_⟩;rw[Pj hj1];exact (h2.mono fun b hb=>hb).world fun c _ hc=>hbel.block c hc
  ·have hj2:j-cs.length<ys.length:=by simp at hj;omega
   obtain⟨u,h1,h2⟩:=n3 _ hj2;refine⟨u,by rw[AT (by omega),o1];exact h1,?_⟩;rw[OD (by omega)];exact (h2.mono fun b hb=>hb).world fun c _ hc=>hbel.block c hc
theorem YZ{t t' ty:TypeId}{k n m b cap:Nat}{cs ys:List AV}{y:Value}(he:FT P t k=true)(ht':Hk P t'=true)(hcap:n+m<=cap)(hX:X b)
  (hblk:FY Y X w b 0 cs) (hroom:SS w b (cap*k)) (hlen:cs.length=n*k) (hy:SlR Y X w y m ys) (hy0:m ≠ 0) (hylen:ys.length=m*k) :
  ∃ w',(CA #[t,t'] ty #[.slice (some ⟨b,0,none⟩) n cap,y]).run P w = .ok (.slice (some ⟨b,0,none⟩) (n+m) cap) w'/\w'.os=w.os/\w'.tape=w.tape/\w'.output=w.output/\w'.heap.size=w.heap.size /\
   (∀ c,c ≠ b->w'.heap[c]? = w.heap[c]?)/\FY Y X w' b 0 (cs++ys)/\SS w' b (cap*k):=by
 obtain⟨e,i,zv,hu,hi,hs,hk,hb,hzv,hzs⟩:=E9 he;obtain⟨e',hu'⟩:=F' ht';rw[G7 hu hi hu'];obtain⟨by_,boff,bcap,rfl,hmem,_⟩:=hy.resolve_left (fun h=>hy0 h.1);obtain⟨n1,n2,n3,n4⟩:=NH hmem;obtain⟨hdat,vs,T,hh,_,hcell⟩:=hblk;obtain⟨vs',T',hh',hsz⟩:=hroom;rw[hh] at hh';cases hh';have hle:(n+m)*k<=cap*k:=AF _ hcap;rw[D'] at hle;generalize hnews:Il w by_ boff ys.length=news at *
 have hf:=run_firstCells_some (P:=P) w i.size m ⟨by_,boff,none⟩ m bcap news (by rw[n1,hylen,hs]) n2;have hst:=run_storeCells_at P b (n*i.size) T news 0 vs w hh (by rw[hs,n1,hylen];omega) n4;simp only[FR] at hst;have hext:∀ c,¬ X c->c<w.heap.size->(w.setRow b (B3 (n*i.size) vs.toList++news++p (n*i.size+news.length) vs.toList).toArray).heap[c]? = w.heap[c]? := fun c hc _=>H5 _ _ _ _ (fun e=>hc (e ▸ hX));have hrow:=setRow_heap w b vs (B3 (n*i.size) vs.toList++news++p (n*i.size+news.length) vs.toList).toArray T (0,0) hh;have hsize:(B3 (n*i.size) vs.toList++news++p (n*i.size+news.length) vs.toList).toArray.size=vs.size:=by
  simp only[Ij,AX,AB,Ep,CH,n1,hylen,hs];omega
 refine⟨w.setRow b (B3 (n*i.size) vs.toList++news++p (n*i.size+news.length) vs.toList).toArray,?_,rfl,rfl,rfl,JY _ _ _,fun c hc=>H5 _ _ _ _ hc,⟨SW hdat hmem.1,_,T,hrow,?_,fun j hj => ?_⟩,⟨_,T,hrow,by rw[hsize];exact hsz⟩⟩
 ·simp[CA,run_underlying hu,sizeOf,typeInfo,hi,Kn,hcap,hf,Addr.add_lit,hst]
 ·rw[hsize,AX,hlen,hylen];omega
 ·have ht:(vs.toList.take (n*i.size)).length=n*k:=by simp only[AB,CH,hs];omega
  simp only[B_,RG];by_cases hj1:j<cs.length
  ·obtain⟨u,h1,h2⟩:=hcell j hj1;refine⟨u,?_,?_⟩
   ·rw[JQ,AN (by omega),B1 (by rw[hs];omega)];simpa using h1
   ·rw[Pj hj1];exact h2.world hext
  ·have hj2:j-cs.length<ys.length:=by simp at hj;omega
   obtain⟨u,h1,h2⟩:=n3 _ hj2;refine⟨u,?_,?_⟩
   ·rw[AN (by simp only[AX,ht,n1];simp at hj;omega),AT (by omega),ht,<- hlen];exact h1
   ·rw[OD (by omega)];exact h2.world hext
theorem append_nil{t t' ty:TypeId}{k:Nat}(he:FT P t k=true)(ht':Hk P t'=true):(CA #[t,t'] ty #[.slice none 0 0,.slice none 0 0]).run P w = .ok (.slice none 0 0) w:=by
 obtain⟨e,i,zv,hu,hi,hs,hk,hb,hzv,hzs⟩:=E9 he;obtain⟨e',hu'⟩:=F' ht';rw[G7 hu hi hu'];simp[CA,run_underlying hu,sizeOf,typeInfo,hi,Kn,aV]
theorem QC{t t' ty:TypeId}{k c:Nat}{p:Addr}(he:FT P t k=true)(ht':Hk P t'=true):(CA #[t,t'] ty #[.slice none 0 0,.slice (some p) 0 c]).run P w = .ok (.slice none 0 0) w:=by
 obtain⟨e,i,zv,hu,hi,hs,hk,hb,hzv,hzs⟩:=E9 he;obtain⟨e',hu'⟩:=F' ht';rw[G7 hu hi hu'];have hf:=run_firstCells_some (P:=P) w i.size 0 p 0 c [] (by simp) (by simp);simp[CA,run_underlying hu,sizeOf,typeInfo,hi,Kn,hf]
theorem QD{t t' ty:TypeId}{k n b cap:Nat}(he:FT P t k=true)(ht':Hk P t'=true)(hn:n<=cap) :
  (CA #[t,t'] ty #[.slice (some ⟨b,0,none⟩) n cap,.slice none 0 0]).run P w = .ok (.slice (some ⟨b,0,none⟩) n cap) w:=by
 obtain⟨e,i,zv,hu,hi,hs,hk,hb,hzv,hzs⟩:=E9 he;obtain⟨e',hu'⟩:=F' ht';rw[G7 hu hi hu'];simp[CA,run_underlying hu,sizeOf,typeInfo,hi,Kn,aV,hn,storeCells]
theorem Po{t t' ty:TypeId}{k n b cap c:Nat}{p:Addr}(he:FT P t k=true)(ht':Hk P t'=true)(hn:n<=cap) :
  (CA #[t,t'] ty #[.slice (some ⟨b,0,none⟩) n cap,.slice (some p) 0 c]).run P w = .ok (.slice (some ⟨b,0,none⟩) n cap) w:=by
 obtain⟨e,i,zv,hu,hi,hs,hk,hb,hzv,hzs⟩:=E9 he;obtain⟨e',hu'⟩:=F' ht';rw[G7 hu hi hu'];have hf:=run_firstCells_some (P:=P) w i.size 0 p 0 c [] (by simp) (by simp);simp[CA,run_underlying hu,sizeOf,typeInfo,hi,Kn,hf,hn,storeCells]
theorem M5{len cap m h l:Nat}{lo hi mx:Option Value}(hmx:(mx=none/\m=cap)\/∃ k i,mx=some (.int k i)/\0<=i/\i.toNat=m/\m<=cap)(hhi:(hi=none/\mx=none/\h=len)\/∃ k i,hi=some (.int k i)/\0<=i/\i.toNat=h/\h<=m)
  (hlo:(lo=none/\l=0)\/∃ k i,lo=some (.int k i)/\0<=i/\i.toNat=l/\l<=h):(Q6 true len cap lo hi mx).run P w = .ok (l,h,m) w:=by
 have hb:∀ (k:IntKind) (i:Int) (y n:Nat) (Jn:BoundsCode),0<=i->i.toNat=n->n<=y->(Instr.sliceBound (.int k i) y Jn).run P w = .ok n w:=by
  intro k i y n Jn h0 h1 h2;rw[run_sliceBound w k i y Jn h0 (by omega),h1]
 rcases hmx with ⟨rfl,rfl⟩ | ⟨km,im,rfl,m0,m1,m2⟩ <;> rcases hhi with ⟨rfl,hh,rfl⟩ | ⟨kh,ih,rfl,h0,h1,h2⟩ <;> rcases hlo with ⟨rfl,rfl⟩ | ⟨kl,il,rfl,l0,l1,l2⟩;all_goals first
  | cases hh;done
  | simp only[Q6,AK,Bk,Az]
 all_goals first
  | rfl
  | simp only[hb kl il _ l _ l0 l1 l2,Az];done
  | simp only[hb kh ih _ h _ h0 h1 h2,Az];done
  | simp only[hb kh ih _ h _ h0 h1 h2,hb kl il _ l _ l0 l1 l2,Az];done
  | simp only[hb km im _ m _ m0 m1 m2,hb kh ih _ h _ h0 h1 h2,Az];done
  | simp only[hb km im _ m _ m0 m1 m2,hb kh ih _ h _ h0 h1 h2,hb kl il _ l _ l0 l1 l2,Az];done
theorem M6{t:TypeId}{k len cap m h l:Nat}{a:Option Addr}{lo hi mx:Option Value}(he:FT P t k=true)(hb:(Q6 true len cap lo hi mx).run P w = .ok (l,h,m) w) :
  (iU t (.slice a len cap) lo hi mx).run P w = .ok (.slice (if m=l then a else a.map (·.add (l*k))) (h-l) (m-l)) w:=by
 obtain⟨e,i,zv,hu,hi',hs,hk,hb',hzv,hzs⟩:=E9 he;have hsz:(sizeOf e).run P w = .ok k w:=by simp[sizeOf,typeInfo,program,Fq,hi',hs]
 simp only[iU,AK,run_underlying hu,Az,Instr.slice,hb,hsz,Bk]
theorem tP{v:Value}{n l h m k:Nat}{cs:List AV}(hv:Rd Y X w v (.sl n cs))(hlh:l<=h)(hhn:h<=n) :
  ∃ a cap,v = .slice a n cap/\n<=cap/\(h<=m->(a=none->m=0)->Rd Y X w (.slice (if m=l then a else a.map (·.add (l*k))) (h-l) (m-l)) (.sl (h-l) ((cs.drop (l*k)).take ((h-l)*k))))/\(a=none->cap=0):=by
 cases hv with
 | nil0 =>
  refine⟨none,0,rfl,Ap _,fun _ hm => ?_,fun _=>rfl⟩;have h0:h=0:=by omega
  have l0:l=0:=by omega
  subst h0 l0;rw[hm rfl];simpa using Rd.nil0
 | e0 a c =>
  have h0:h=0:=by omega
  have l0:l=0:=by omega
  subst h0 l0;refine⟨some a,c,rfl,Ba _,fun _ _ => ?_,fun h=>by cases h⟩;simp only[JV,SX,TQ];split
  ·exact .e0 _ _
  ·exact .e0 _ _
 | sl b off _ cap _ f hd hn hX hY hcell hr =>
  refine⟨_,cap,rfl,hn,fun hhm _ => ?_,fun h=>by cases h⟩;have hlen:((cs.drop (l*k)).take ((h-l)*k)).length<=cs.length-l*k:=by simp only[AB,Ep];omega
  have hdat:N9 ((cs.drop (l*k)).take ((h-l)*k)):=fun x hx=>hd x (E' (C3 hx));by_cases hml:m=l
  ·have hh:h-l=0:=by omega
   rw[if_pos hml,hh,SX,TQ];exact .sl b off 0 (m-l) [] f (fun x hx=>by cases hx) (Ba _) (fun h=>absurd rfl h) (fun ⟨c,hc,_⟩=>by cases hc) (fun i hi=>by simp at hi) (fun i hi=>by simp at hi)
  ·rw[if_neg hml];simp only[A3,Hj];refine .sl b (off+l*k) (h-l) (m-l) _ (fun i=>f (l*k+i)) hdat (by omega) (fun hne=>hX (fun e=>hne (by rw[e];simp))) (fun ⟨c,hc,h1⟩=>hY ⟨c,E' (C3 hc),h1⟩) (fun i hi => ?_) (fun i hi => ?_)
   ·rw[Dw];exact hcell _ (by omega)
   ·have:=hr (l*k+i) (by omega);simpa using this
end
def F_(roots:List (Nat × Nat))(oks:List Nat)(dst:Option Nat):Bool:=roots.all fun p => !(some p.2==dst) || oks.contains p.1
def U2(roots:List (Nat × Nat))(dst:Option Nat)(d:Nat):Bool :=
 match dst with
 | some t=>roots.contains (t,d) && !(t==d)
 | none=>true
def Y_(roots:List (Nat × Nat))(dst:Option Nat)(ks:List Nat):Bool:=dst.isSome&&roots.all fun p => !(some p.2==dst) || ks.contains p.1
def EL(roots:List (Nat × Nat))(oks:List Nat)(dst:Option Nat):K->Bool
 | .new _ ks=>Y_ roots dst ks
 | .box _ ks=>Y_ roots dst ks
 | .adr _ d _=>F_ roots oks dst&&U2 roots dst d
 | .ixo _ d _ _=>F_ roots oks dst&&U2 roots dst d
 | .cpy x=>F_ roots oks dst&&U2 roots dst x
 | .st _ _ _ _=>dst.isNone
 | .bls _ _ _=>F_ roots oks dst&&dst.isSome
 | .blo _ _ _ _=>F_ roots oks dst&&dst.isSome
 | .mks _ _=>F_ roots oks dst&&dst.isSome
 | .tra _=>F_ roots oks dst&&dst.isSome
 | .apd _ _ _ _ _=>F_ roots oks dst&&dst.isSome
 | .clo _ _=>F_ roots oks dst&&dst.isSome
 | .nlo _=>F_ roots oks dst&&dst.isSome
 | .bdo _ _ l=>F_ roots (oks++l) dst&&dst.isSome
 | .cln _ _ l=>F_ roots (oks++l) dst&&dst.isSome
 | .stl x v=>dst.isNone&&roots.contains (x,v)
 | .fdo _=>F_ roots oks dst&&dst.isSome
 | .exo _=>F_ roots oks dst&&dst.isSome
 | .slo _ _ _=>F_ roots oks dst&&dst.isSome
 | .cao _ _ _ _=>F_ roots oks dst&&dst.isSome
 | _=>F_ roots oks dst
theorem AC{s:Al}{roots:List (Nat × Nat)}{oks:List Nat}{dst:Option Nat}(hkd:∀ t∈oks,E_ (A4 s t)=false)(h:F_ roots oks dst=true):aS s roots dst:=by
 intro d hd t ht;simp only[F_,BA,aE,Ea,beq_eq_false_iff_ne,ne_eq,I5,decide_eq_true_eq] at h;rcases h (t,d) ht with h1 | h1
 ·exact absurd hd.symm h1
 ·exact hkd t h1
theorem SY{s:Al}{oks ls:List Nat}(hkd:∀ t∈oks,E_ (A4 s t)=false)(hls:(ls.all fun t=>Gn (A4 s t))=true):∀ t∈oks++ls,E_ (A4 s t)=false:=by
 intro t ht;rcases BV.1 ht with ht | ht
 ·exact hkd t ht
 ·exact YR (BA.1 hls t ht)
theorem KY{roots:List (Nat × Nat)}{dst:Option Nat}{d:Nat}(h:U2 roots dst d=true):∀ t,dst=some t->(t,d)∈roots/\t ≠ d:=by
 intro t ht;subst ht;simpa [U2] using h
theorem SZ{roots:List (Nat × Nat)}{dst:Option Nat}{ks:List Nat}(h:Y_ roots dst ks=true):dst.isSome=true/\∀ d,dst=some d->∀ t,(t,d)∈roots->t∈ks:=by
 simp only[Y_,Ad,BA,aE,Ea,beq_eq_false_iff_ne,ne_eq,I5,decide_eq_true_eq] at h;refine⟨h.1,fun d hd t ht => ?_⟩;rcases h.2 (t,d) ht with h1 | h1
 ·exact absurd hd.symm h1
 ·exact h1
section
variable {P:Program} {Y X0:Nat->Prop} {roots:List (Nat × Nat)} {w0:Base} {w:World} {s:Al} {a:Act} {Q:Exit->Act->World->Prop}
theorem NI{w:World}{b off:Nat}{vs:Array Value}{T:TypeId}{fz:Nat × Nat}(h:w.heap[b]? = some (.cells vs T fz)):w.cell? ⟨b,off,none⟩=vs[off]? := by
 simp only[Up,h];rfl
theorem M7{Y X:Nat->Prop}{w:World}{zero:List Value}(hz:0<zero.length):∀ (n:Nat) (z:List AV),QA z zero n=true->z.length=n*zero.length ->
  N9 z/\∀ (i:Nat) (h:i<z.length),∃ v,zero[i % zero.length]? = some v/\Rd Y X w v z[i]
 | 0,z,_,hl=>by
  have:z=[]:=A9 (by simpa using hl);subst this;exact⟨fun x hx=>(by cases hx),fun i h=>(by simp at h)⟩
 | n+1,z,h,hl=>by
  simp only[QA,Ad] at h;obtain⟨h1,h2⟩:=h;have hl':z.length=n*zero.length+zero.length:=by rw[hl,KT]
  obtain⟨hd,ih⟩:=M7 (Y:=Y) (X:=X) (w:=w) hz n (z.drop zero.length) h2 (by simp;omega);have hc:=JZ (Y:=Y) (X:=X) (w:=w) h1;refine⟨fun x hx => ?_,fun i hi => ?_⟩
  ·rw[<- X3 zero.length z,BV] at hx;rcases hx with hx | hx
   ·exact hc.1 x hx
   ·exact hd x hx
  ·by_cases hlt:i<zero.length
   ·rw[F3 hlt];have e:(z.take zero.length)[i]? = some z[i]:=by rw[B1 hlt,Af hi]
    obtain⟨v,hv,hr⟩:=hc.get e;exact⟨v,by simpa using hv,hr⟩
   ·have hi2:i-zero.length<(z.drop zero.length).length:=by simp;omega
    obtain⟨v,hv,hr⟩:=ih (i-zero.length) hi2;have e1:(i-zero.length) % zero.length=i % zero.length:=by
     rw[<- Nat.add_mod_right (i-zero.length) zero.length];congr 1;omega
    have e2:(z.drop zero.length)[i-zero.length]=z[i]:=by
     rw[List.getElem_drop];congr 1;omega
    exact⟨v,e1 ▸ hv,e2 ▸ hr⟩
theorem HJ.world{Y X:Nat->Prop}{B:Nat->Prop}{tm:Array Value}{w w':World}{t:Nat}{v:Value}{r:Reg}(h:HJ Y X B roots tm w t v r)(hw:Below w.heap.size w w'):HJ Y X B roots tm w' t v r:=by
 cases r with
 | val x=>exact Rd.world h fun b _ hb=>hw.block b hb
 | box cs=>obtain⟨b,e1,e2,e3⟩:=h;exact⟨b,e1,e2,e3.world (fun c _ hc=>hw.block c hc) (hw.block b e3.lt)⟩
 | own k n cs=>exact Fp.world h (fun c _ hc=>hw.block c hc) (fun b _ hb=>hw.block b hb)
 | agn b k n cs=>exact J8.world h (fun c _ hc=>hw.block c hc) (fun b _ hb=>hw.block b hb)
 | bxl d =>
  obtain⟨e1,b,e2,e3,e4,e5⟩:=h;exact⟨e1,b,e2,e3,Dk e4 hw.size,fun i hi=>by rw[<- e5 i hi];exact Fo (hw.block b e4)⟩
 | mem cs=>obtain⟨b,off,e1,e2,e3⟩:=h;exact⟨b,off,e1,e2,e3.world (fun c _ hc=>hw.block c hc) (fun hb=>hw.block b hb)⟩
 | ptr d off=>exact h
 | dup d=>exact h
 | sub _ _ _ _=>exact h
 | dead=>trivial
theorem Afr{Y X:Nat->Prop}{w:World}{t:TypeId}{n off:Nat}{one:Bool}{vs:Array Value}{cs:List AV}{x:AV}(ho:M1 P t n one=true)(hc:D8 Y X w vs cs)(ht:Bn cs off n one=some x) :
  ∃ v,(part t vs off).run P w = .ok v w/\Rd Y X w v x:=by
 obtain⟨h1,h2⟩:=KW ho;obtain⟨hd,hs,hr⟩:=hc;unfold Bn at ht;cases one with
 | true =>
  simp only[if_true] at ht;obtain⟨v,hv,hrv⟩:=D8.get ⟨hd,hs,hr⟩ ht;exact⟨v,by simp[part,h1,hv],hrv⟩
 | false =>
  simp only[Cf,if_false] at ht;split at ht
  ·rename_i hle;cases ht;refine⟨.agg (vs.extract off (off+n)),by simp[part,h1,h2],.agg _ _ (fun y hy=>hd y (E' (C3 hy))) (by simp;omega) (fun i g1 g2 => ?_)⟩;have hi:i<n:=by simp at g2;omega
   have:=hr (off+i) (by omega) (by omega);simpa using this
  ·cases ht
theorem E1{x':Operand}{x:Nat}(h1:Cb x' (.t x)=true):a.eval x'=a.tmps.getD x Br:=by
 cases x' <;> simp only[Cb] at h1 <;> try cases h1
 simp only[beq_iff_eq] at h1;subst h1;rfl
theorem NJ{o:Oper}{x:Nat}(h:U1 o.op x=true):(execOp a.eval o).run P w = .ok (.value (a.tmps.getD x Br)) w:=by
 unfold U1 at h;split at h
 ·rename_i y hop;simp[execOp,hop,E1 (a:=a) h]
 ·rename_i y hop;simp[execOp,hop,E1 (a:=a) h]
 ·cases h
theorem qX{x:Opd}{v:AV}(h:x.reg s = .val v):x.av s=some v:=by simp only [Opd.av,h]
theorem aW{x:Opd}{k n:Nat}{cs:List AV}(h:x.reg s = .own k n cs):∃ m,x = .t m:=by
 cases x with
 | t m=>exact⟨m,rfl⟩
 | c y=>simp only[Opd.reg] at h;cases h
theorem OF{Y X X':Nat->Prop}{B B' U:Nat->Prop}{w':World}{v:Value}{k n:Nat}{cs:List AV}(hB:∀ b,B' b->B b)(h:Fp Y (fun c=>X c\/AI v=some c) B' w' v k n cs)(hX:∀ b,X' b->X b\/(U b/\AI v=some b)):Fp Y X' B w' v k n cs :=
 (h.mono fun c hc => .inl ((hX c hc).imp id And.right)).lower hB
theorem Pp{s:Al}:∀ {ps:List (Nat × Nat × Opd)} {cs cs':List AV},FW s cs ps=some cs'->cs'.length=cs.length
 | [],cs,cs',h=>by simp only[FW,A1] at h;rw[h]
 | (off,n,o)::ps,cs,cs',h=>by
  simp only[FW] at h;split at h
  ·cases h
  ·split at h
   ·cases h
   ·split at h
    ·cases h
    ·rename_i hl;rw[Pp h,(LZ hl).2.1]
theorem aX(h:Rel Y X0 roots w0 s a w){d k n:Nat}{cells:Array Value}{cs:List AV}{T:TypeId}(hks:∀ t,(t,d)∈roots->E_ (A4 s t)=false)(hc:D8 Y (fun b=>X0 b\/XS s a.tmps b) w cells cs)(hl:cs.length=n*k) :
  Rel Y X0 roots w0 (DL s (some d) (.own k n cs)) (a.put (some d) (.slice (some ⟨w.heap.size,0,none⟩) n n)) (w.alloc (.cells cells T)):=by
 refine D7 (ks:=[]) h ((Ig _ _).alloc (Ap _) _) (fun t ht => .inr (hks t ht)) (fun _ b hb=>by simp only[AI,GD,A3,A1] at hb;omega) (fun X h1 _ => ?_);have hc':=(hc.mono (X':=X) (fun b hb=>(h1 b hb).imp id SM)).world (w':=w.alloc (.cells cells T)) (fun b _ hb=>WU _ _ _ hb);have hh:(w.alloc (.cells cells T)).heap[w.heap.size]? = some (.cells cells T (0,0)):=by show (w.heap.push _)[w.heap.size]? = _;simp
 have hs:=hc.2.1;refine .inr ⟨w.heap.size,n,rfl,Ap _,hl,.inl h.below.size,⟨hc.1,cells,T,hh,by omega,fun i hi => ?_⟩,cells,T,hh,by omega⟩;exact⟨cells[i]'(by omega),by rw[B_,Dm],hc'.2.2 i (by omega) hi⟩
theorem Uf{Y X:Nat->Prop}{B:Nat->Prop}{d:Nat}{tm:Array Value}{w:World}{v:Value}{k n:Nat}{cs:List AV}{ow:Bool}(h:Fp Y X B w v k n cs)(hn:ow=false->∀ b,AI v=some b->¬ X b)(hY:∀ b,Y b->¬ B b):HJ Y X B roots tm w d v (if ow then .own k n cs else .val (.sl n cs)):=by
 cases ow with
 | true=>exact h
 | false=>exact Fp.frozen h (fun b hb => .inl hb) (hn rfl) hY
def Afs:Value->Nat
 | .slice _ _ c=>c
 | _=>0
theorem OG(h:Rel Y X0 roots w0 s a w){o:Option Opd}{o':Option Operand}{d n:Nat}(ho:Pn o' o=true)(hb:GL s d o=some n):(o=none/\o'=none/\n=d)\/∃ x,o=some x/\∃ k i,o'.map a.eval=some (.int k i)/\0<=i/\i.toNat=n:=by
 cases o with
 | none =>
  cases o' with
  | none=>simp only[GL,A1] at hb;exact .inl ⟨rfl,rfl,hb.symm⟩
  | some y=>cases ho
 | some x =>
  cases o' with
  | none=>cases ho
  | some y =>
   simp only[Pn] at ho;simp only[GL] at hb;split at hb
   ·rename_i k i hi;split at hb
    ·rename_i h0;cases hb;have:=CB h ho hi;generalize hv:a.eval y=v at this;cases this;exact .inr ⟨x,rfl,k,i,by simp[hv],h0,rfl⟩
    ·cases hb
   ·cases hb
theorem qY(h:Rel Y X0 roots w0 s a w){o:Option Opd}{o':Option Operand}{l hh:Nat}(ho:Pn o' o=true)(hb:GL s 0 o=some l)(hle:l<=hh):(o'.map a.eval=none/\l=0)\/∃ k i,o'.map a.eval=some (.int k i)/\0<=i/\i.toNat=l/\l<=hh:=by
 rcases OG h ho hb with ⟨_,rfl,rfl⟩ | ⟨_,_,k,i,h1,h2,h3⟩
 ·exact .inl ⟨rfl,rfl⟩
 ·exact .inr ⟨k,i,h1,h2,h3,hle⟩
theorem Awv(h:Rel Y X0 roots w0 s a w){o:Option Opd}{o':Option Operand}{d m cap:Nat}(ho:Pn o' o=true)(hb:GL s d o=some m)(hd:d=cap)(hle:m<=cap):(o'.map a.eval=none/\m=cap)\/∃ k i,o'.map a.eval=some (.int k i)/\0<=i/\i.toNat=m/\m<=cap:=by
 rcases OG h ho hb with ⟨_,rfl,rfl⟩ | ⟨_,_,k,i,h1,h2,h3⟩
 ·exact .inl ⟨rfl,hd⟩
 ·exact .inr ⟨k,i,h1,h2,h3,hle⟩
theorem A5u(h:Rel Y X0 roots w0 s a w){o:Option Opd}{o':Option Operand}{d m cap:Nat}(ho:Pn o' o=true)(hb:GL s d o=some m)(hle:m<=cap):(o'.map a.eval=none/\(if o.isSome then m else cap)=cap)\/∃ k i,o'.map a.eval=some (.int k i)/\0<=i/\i.toNat=(if o.isSome then m else cap)/\(if o.isSome then m else cap)<=cap:=by
 rcases OG h ho hb with ⟨rfl,rfl,rfl⟩ | ⟨x,rfl,k,i,h1,h2,h3⟩
 ·exact .inl ⟨rfl,rfl⟩
 ·exact .inr ⟨k,i,h1,h2,h3,hle⟩
theorem Aft(h:Rel Y X0 roots w0 s a w){o om:Option Opd}{o' om':Option Operand}{n hh mm:Nat}(ho:Pn o' o=true)(QE:Pn om' om=true)(hb:GL s n o=some hh)(hs:om.isSome->o.isSome)(h1:om.isSome=true->hh<=mm)(h2:¬ om.isSome=true->hh<=mm) :
  (o'.map a.eval=none/\om'.map a.eval=none/\hh=n)\/∃ k i,o'.map a.eval=some (.int k i)/\0<=i/\i.toNat=hh/\hh<=mm:=by
 rcases OG h ho hb with ⟨rfl,rfl,rfl⟩ | ⟨x,rfl,k,i,g1,g2,g3⟩
 ·refine .inl ⟨rfl,?_,rfl⟩;cases om with
  | none=>cases om' with | none=>rfl | some y=>cases QE
  | some z=>have:=hs rfl;cases this
 ·refine .inr ⟨k,i,g1,g2,g3,?_⟩;by_cases hh:om.isSome=true
  ·exact h1 hh
  ·exact h2 hh
theorem jP{v:Value}(h:L' v (.sl 0 [])=true):v = .slice none 0 0:=by
 unfold L' at h;split at h <;> first | rfl | (rename_i e;cases e;done) | (rename_i e _;cases e;done) | cases h
theorem Grown.from_{B:Base}{w:World}(h:Grown B w):∀ b,XG w.heap.size b->B.mine b:=fun _ hb => .inl (Be h.size hb)
theorem U3(h:Rel Y X0 roots w0 s a w){F:B7}(hF:Ja P F){f k n:Nat}{cs:List AV}{vs:List AV}{y:AV}(hy:F f (.fresh k n cs::vs)=some y){o1:Operand}{rest:List Operand}(e1:rest.length=vs.length)
  (e2:∀ (i:Nat) (h1:i<rest.length) (h2:i<vs.length),Rd Y (fun b=>X0 b\/XS s a.tmps b) w (a.eval rest[i]) vs[i]) (h0:Fp Y (fun b=>X0 b\/XS s a.tmps b) w0.mine w (a.eval o1) k n cs)
  {ks:List Nat} (hO:∀ b,AI (a.eval o1)=some b->∃ x,x∈ks/\DU (A4 s x)=true/\AI (a.tmps.getD x Br)=some b) {d:Nat} (hks:∀ t,(t,d)∈roots->t∈ks\/E_ (A4 s t)=false) :
  Calls P f ((o1::rest).map a.eval).toArray w fun e w'=>∃ v,e = .returned v/\Rel Y X0 roots w0 (DL (BO s (ks.map fun u=>(u,Reg.dead))) (some d) (F4 y)) (a.put (some d) v) w':=by
 have hG:∀ b,FZ (.fresh k n cs::vs) ((o1::rest).map a.eval).toArray b↔AI (a.eval o1)=some b:=fun b=>⟨fun hb=>hb.2,fun hb=>⟨⟨k,n,cs,vs,rfl⟩,hb⟩⟩;have hXS:∀ b,AI (a.eval o1)=some b->XS s a.tmps b:=fun b hb=>let ⟨x,_,h2,h3⟩:=hO b hb; ⟨x,h2,h3⟩
 have hmine:∀ b,AI (a.eval o1)=some b->w0.mine b:=fun b hb=>let ⟨x,_,h2,h3⟩:=hO b hb; (h.exclLow h2 h3).1
 have hG':FZ (.fresh k n cs::vs) ((o1::rest).map a.eval).toArray=fun b=>AI (a.eval o1)=some b:=funext fun b=>propext (hG b);refine (hF f (.fresh k n cs::vs) y hy Y (fun b=>(X0 b\/XS s a.tmps b)/\¬ AI (a.eval o1)=some b) w ((o1::rest).map a.eval).toArray (fun b hb=>⟨h.lowX b hb.1,fun e=>hb.2 ((hG b).1 e)⟩)
  (fun b hb=>⟨h.lowYw b hb,fun e=>h.lowY b hb (hmine b ((hG b).1 e))⟩) (by simp[e1]) (fun i h1 h2 => ?_) (fun i h2 h3 => ?_)).mono ?_
 ·cases i with
  | zero =>
   rw[hG'];show Fp _ _ _ w (a.eval o1) k n cs;have h0':=Fp.mono (X':=fun c=>((X0 c\/XS s a.tmps c)/\¬ AI (a.eval o1)=some c)\/AI (a.eval o1)=some c) h0 fun c hc => .inl (hc.elim SM fun e => .inr (hXS c e));rcases h0' with g | ⟨b,cap,g1,g2,g3,_,g5,g6⟩
   ·exact .inl g
   ·exact .inr ⟨b,cap,g1,g2,g3,by rw[g1];rfl,g5,g6⟩
  | succ i =>
   rw[hG'];have j1:i<rest.length:=by simpa using h1
   have j2:i<vs.length:=by simpa using h2
   have g:=e2 i j1 j2;have g':Rd Y (fun c=>((X0 c\/XS s a.tmps c)/\¬ AI (a.eval o1)=some c)\/AI (a.eval o1)=some c) w (a.eval rest[i]) vs[i]:=g.mono fun c hc => .inl (hc.elim SM fun e => .inr (hXS c e));simp only[C2,Nn,aG,List.getElem_map];generalize vs[i]=z at g' |-;generalize a.eval rest[i]=u at g' |-;cases z <;> first | exact g' | (exfalso;revert g';intro g';cases g')
 ·cases i with
  | zero=>rfl
  | succ i =>
   have h2':i<vs.length:=by simpa using h2
   have g:=e2 i (by omega) h2';simp only[aG] at h3;generalize vs[i]=z at g h3;generalize a.eval (rest[i]'(by omega))=u at g;cases g <;> cases h3
 ·rw[hG'];rintro e w' ⟨v,e1,e2,e3⟩;refine⟨v,e1,h.give e2 hO hks (fun he b hb => ?_) (fun X h1 h2 h3 => ?_)⟩
  ·cases y
   case fresh k n cs=>exact (Fp.block e3 hb).1
   case frs bb k n cs=>exact (J8.block e3 hb).1
   all_goals cases he
  ·have hlow:∀ b,Base.mine ⟨w,fun b=>AI (a.eval o1)=some b⟩ b->w0.mine b:=fun b hb=>hb.elim (h.below.from_ b) (hmine b);have hXc:∀ c,X c->((X0 c\/XS s a.tmps c)/\¬ AI (a.eval o1)=some c)\/AI v=some c:=by
    intro c hc;by_cases ho:AI (a.eval o1)=some c
    ·exact .inr (h2 c hc ho).2
    ·rcases h1 c hc with g | g
     ·exact .inl ⟨g,ho⟩
     ·exact .inr g.2
   cases y
   case fresh k n cs=>exact (Fp.mono e3 fun c hc => .inl (hXc c hc)).lower hlow
   case frs bb k n cs=>exact (J8.mono e3 fun c hc => .inl (hXc c hc)).lower hlow
   all_goals exact Rd.mono e3 fun c hc => .inl ⟨h3 rfl c hc,fun ho=>by cases (h2 c hc ho).1⟩
theorem PD(h:Rel Y X0 roots w0 s a w){w':World}(hw:Below w.heap.size w w'){d k n:Nat}{v:Value}{cs:List AV}{ow:Bool}{ks:List Nat}(hks:∀ t,(t,d)∈roots->t∈ks\/E_ (A4 s t)=false)
  (hown:Fp Y (fun c=>(X0 c\/XS s a.tmps c)\/w.heap.size<=c) (XG w.heap.size) w' v k n cs) :
  Rel Y X0 roots w0 (DL (BO s (ks.map fun u=>(u,Reg.dead))) (some d) (if ow then .own k n cs else .val (.sl n cs))) (a.put (some d) v) w':=by
 refine D7 h hw hks (fun _ b hb=>(Fp.block hown hb).1) (fun X g1 g2 => ?_);have hown':Fp Y X w0.mine w' v k n cs:=(hown.mono fun c hc => .inl ((g1 c hc).imp id SM)).lower h.below.from_;refine Uf hown' (fun he c hc hXc => ?_) h.lowY;subst he;have h1:=(Fp.block hown hc).1;have:=h.lowX c (g2 rfl c hXc);unfold XG at h1;omega
theorem Mb(h:Rel Y X0 roots w0 s a w){d k:Nat}{ow:Bool}{ks:List Nat}(hks:∀ t,(t,d)∈roots->t∈ks\/E_ (A4 s t)=false) :
  Rel Y X0 roots w0 (DL (BO s (ks.map fun u=>(u,Reg.dead))) (some d) (if ow then .own k 0 [] else .val (.sl 0 []))) (a.put (some d) (.slice none 0 0)) w :=
 PD h (Ig _ _) hks (.inl ⟨rfl,rfl,rfl⟩)
set_option maxHeartbeats 4000000 in
theorem simK{o:Oper}{k:K}{oks:List Nat}{F:B7}{r:Reg}{l:List (Nat × Reg)}{K':Act->World->Prop}(h:Rel Y X0 roots w0 s a w)(hF:Ja P F)(hk:Gr P o.op k=true)(hkd:∀ t∈oks,E_ (A4 s t)=false)(hro:EL roots oks o.dst k=true)
  (hev:B4 F s k=some (r,l)) (hK:∀ a' w',Rel Y X0 roots w0 (DL (BO s l) o.dst r) a' w'->K' a' w'):o.wp P a w K' Q:=by
 cases k
 case bad=>cases hev
 case mov y =>
  simp only[B4,Aj] at hev;obtain⟨x,hx,he⟩:=hev;cases he;simp only[Gr] at hk;split at hk
  ·rename_i z hop;exact Bz (v:=a.eval z) (by simp[execOp,hop]) (hK _ _ (h.put (AC hkd hro) (CB h hk hx)))
  ·rename_i z hop;exact Bz (v:=a.eval z) (by simp[execOp,hop]) (hK _ _ (h.put (AC hkd hro) (CB h hk hx)))
  ·cases hk
 case pick c x y =>
  simp only[Gr] at hk;split at hk
  ·rename_i c' x' y' hop;simp only[Ad] at hk;obtain⟨⟨h1,h2⟩,h3⟩:=hk;simp only[B4] at hev;split at hev
   ·rename_i hc;simp only[Aj] at hev;obtain⟨v,hv,he⟩:=hev;cases he;have hcr:=CB h h1 hc;generalize hcv:a.eval c'=cv at hcr;cases hcr;exact Bz (v:=a.eval x') (by simp[execOp,hop,hcv,asBool]) (hK _ _ (h.put (AC hkd hro) (CB h h2 hv)))
   ·rename_i hc;simp only[Aj] at hev;obtain⟨v,hv,he⟩:=hev;cases he;have hcr:=CB h h1 hc;generalize hcv:a.eval c'=cv at hcr;cases hcr;exact Bz (v:=a.eval y') (by simp[execOp,hop,hcv,asBool]) (hK _ _ (h.put (AC hkd hro) (CB h h3 hv)))
   ·cases hev
  ·cases hk
 case bin op x y =>
  simp only[Gr] at hk;split at hk
  ·rename_i op' t x' y' t' hop;simp only[Ad,beq_iff_eq] at hk;obtain⟨⟨rfl,h1⟩,h2⟩:=hk;simp only[B4] at hev;split at hev
   ·rename_i xa ya hx hy;simp only[Aj] at hev;obtain⟨z,hz,he⟩:=hev;cases he;have hxr:=CB h h1 hx;have hyr:=CB h h2 hy;generalize hxv:a.eval x'=xv at hxr;generalize hyv:a.eval y'=yv at hyr;cases xa <;> cases ya <;> simp only[LW] at hz <;> try cases hz
    cases hxr;cases hyr;obtain⟨v,hrun,hr⟩:=Afn (P:=P) (w:=w) (t:=t) (Y:=Y) (X:=fun b=>X0 b\/XS s a.tmps b) (by simpa only [LW] using hz);exact Bz (v:=v) (by simp[execOp,hop,hxv,hyv,RJ,hrun]) (hK _ _ (h.put (AC hkd hro) hr))
   ·cases hev
  ·cases hk
 case eqb neg x y =>
  simp only[Gr] at hk;split at hk
  ·rename_i op' t x' y' t' hop;simp only[Ad,beq_iff_eq] at hk;obtain⟨⟨⟨rfl,h0⟩,h1⟩,h2⟩:=hk;simp only[B4] at hev;split at hev
   ·rename_i xa ya hx hy;cases hev;have hxr:=CB h h1 hx;have hyr:=CB h h2 hy;generalize hxv:a.eval x'=xv at hxr;generalize hyv:a.eval y'=yv at hyr;cases hxr;cases hyr;have ht:P.underlying t=some .bool:=by
     unfold aR at h0;split at h0
     ·assumption
     ·cases h0
    have heq:(Op.equal t (.bool xa) (.bool ya)).run P w = .ok (xa==ya) w:=run_equalIn_bool' w 9999 t xa ya ht;refine Bz (v := .bool (if neg then !(xa==ya) else xa==ya)) ?_ (hK _ _ (h.put (AC hkd hro) (.bool _)));cases neg
    ·simp only[Cf,if_false,execOp,hop,hxv,hyv,AK,KX,Az,binOp,heq,Bk]
    ·simp only[if_true,execOp,hop,hxv,hyv,AK,KX,Az,binOp,heq,Bk]
   ·cases hev
  ·cases hk
 case un op x =>
  simp only[Gr] at hk;split at hk
  ·rename_i op' t x' hop;simp only[Ad,beq_iff_eq] at hk;obtain⟨rfl,h1⟩:=hk;simp only[B4] at hev;split at hev
   ·rename_i xa hx;simp only[Aj] at hev;obtain⟨z,hz,he⟩:=hev;cases he;obtain⟨v,hrun,hr⟩:=Aws (P:=P) (CB h h1 hx) hz;exact Bz (v:=v) (by simp[execOp,hop,hrun]) (hK _ _ (h.put (AC hkd hro) hr))
   ·cases hev
  ·cases hk
 case cv k x =>
  simp only[Gr] at hk;split at hk
  ·rename_i src dst x' hop;simp only[Ad] at hk;obtain⟨⟨h0,h1⟩,h2⟩:=hk;simp only[B4] at hev;split at hev
   ·rename_i k' n hx;cases hev;have hxr:=CB h h2 hx;generalize hxv:a.eval x'=xv at hxr;cases hxr;split at h1
    ·rename_i k'' hd;simp only[beq_iff_eq] at h1;subst h1;unfold qW at h0;split at h0
     ·rename_i ks hs;exact Bz (v := .int k'' (k''.wrap n)) (by simp[execOp,hop,hxv,convert,run_underlying hs,run_underlying hd,Conv.intToInt]) (hK _ _ (h.put (AC hkd hro) (.int _ _)))
     ·cases h0
    ·cases h1
   ·cases hev
  ·cases hk
 case new z ks =>
  simp only[Gr] at hk;split at hk
  ·rename_i t hop;cases hev;obtain⟨v,hz,hc⟩:=M4 hk;obtain⟨h1,h2⟩:=SZ hro;simp only[Fl];have hrun:(execOp a.eval o).run P w = .ok (.value (.pointer (some ⟨w.heap.size,0,none⟩))) (w.alloc (.cells v.cells t)):=by
    simp[execOp,hop,Instr.alloc,hz,newVar,newRow]
   rw[hrun];exact hK _ _ (NE h h2 h1 (hc _ _ _))
  ·cases hk
 case box x ks =>
  simp only[Gr] at hk;split at hk
  ·rename_i t x' hop;obtain⟨h1,h2⟩:=SZ hro;have hrun:(execOp a.eval o).run P w = .ok (.value (.pointer (some ⟨w.heap.size,0,none⟩))) (w.alloc (.cells (a.eval x').cells t)):=by
    simp[execOp,hop,Instr.box,newVar,newRow]
   simp only[Fl,hrun];simp only[B4] at hev;split at hev
   ·rename_i cs hx;cases hev;have hc:=(M2 (n:=cs.length) (ys:=cs) (CB h hk hx) (by simp[Gp])).2;exact hK _ _ (NE h h2 h1 hc)
   ·rename_i y hy hx;split at hev
    ·rename_i hd;cases hev;have hc:=(M2 (n:=1) (ys:=[y]) (CB h hk hx) (by cases y <;> first | rfl | cases hd)).2
     exact hK _ _ (NE h h2 h1 hc)
    ·cases hev
   ·cases hev
  ·cases hk
 case bld z ps =>
  simp only[Gr] at hk;split at hk
  ·rename_i t parts hop;simp only[B4,Aj] at hev;obtain⟨cs,hcs,he⟩:=hev;cases he;simp only[Afl,Ad] at hk;obtain⟨hz,hk⟩:=hk;obtain⟨v,hzv,hc⟩:=M4 hz;split at hk
   ·rename_i fs hfs;simp only[Ad] at hk;obtain⟨hall,hp⟩:=hk;have hplaces:(fs.mapM fun f=>do pure (f.offset,<- sizeOf f.type):Sem (Array (Nat × Nat))).run P w = .ok (fs.map fun f=>(f.offset,P.cellsOf f.type)) w:=by
     have key:∀ (l:List Field),(∀ f∈l,(P.info? f.type).isSome=true)->(l.mapM fun f=>do pure (f.offset,<- sizeOf f.type):Sem (List (Nat × Nat))).run P w = .ok (l.map fun f=>(f.offset,P.cellsOf f.type)) w:=by
      intro l;induction l with
      | nil=>intro _;rfl
      | cons f l ih =>
       intro hl;obtain⟨i,hi⟩:=A_.1 (hl f (By ..));have hsz:(sizeOf f.type).run P w = .ok (P.cellsOf f.type) w:=by simp[sizeOf,typeInfo,program,Fq,hi,JR]
       simp only[L6,AK,hsz,Az,Bk,ih (fun g hg=>hl g (Bi _ hg)),C2]
     have:=key fs.toList (fun f hf=>by simp only[iZ] at hall;exact hall f (by simpa using hf));rw[RH];simp only[A6v,this,Az];congr 1;apply Array.ext';simp
    obtain⟨cells',e1,e2⟩:=NF h (place:=fun i=>(fs.map fun f=>(f.offset,P.cellsOf f.type))[i]?) (pl:=K6 P fs) (fun i off n hi=>by
     unfold K6 at hi;split at hi
     ·rename_i f hf;simp only[Ad,beq_iff_eq] at hi;obtain⟨rfl,hsz⟩:=hi;unfold I_ at hsz;split at hsz
      ·rename_i ii hii;simp only[beq_iff_eq] at hsz;simp[hf,JR,hii,hsz]
      ·cases hsz
     ·cases hi) hp (hc _ _ w) hcs
    have e1':K3 (fun i=>(fs.map fun f=>(f.offset,P.cellsOf f.type))[i]?) v.cells (parts.map fun p=>(p.1,a.eval p.2)).toList=some cells':=by rw[FD];exact e1
    refine Bz (v := .agg cells') ?_ (hK _ _ (h.put (AC hkd hro) (.agg cells' cs e2.1 e2.2.1 e2.2.2)));simp only[execOp,hop,Uq,AK,hzv,Az,run_underlying hfs,hplaces,e1',Bk]
   ·rename_i ln e hfs;simp only[Ad] at hk;obtain⟨hall,hp⟩:=hk;obtain⟨ii,hii⟩:=A_.1 hall;have hsz:(sizeOf e).run P w = .ok (P.cellsOf e) w:=by simp[sizeOf,typeInfo,program,Fq,hii,JR]
    obtain⟨cells',e1,e2⟩:=NF h (place:=fun i=>some (i*P.cellsOf e,P.cellsOf e)) (fun i off n hi=>by
     simp only[Ad,beq_iff_eq] at hi;rw[hi.1,hi.2]) hp (hc _ _ w) hcs
    have e1':K3 (fun i=>some (i*P.cellsOf e,P.cellsOf e)) v.cells (parts.map fun p=>(p.1,a.eval p.2)).toList=some cells':=by rw[FD];exact e1
    refine Bz (v := .agg cells') ?_ (hK _ _ (h.put (AC hkd hro) (.agg cells' cs e2.1 e2.2.1 e2.2.2)));simp only[execOp,hop,Uq,AK,hzv,Az,run_underlying hfs,hsz,e1',Bk]
   ·cases hk
  ·cases hk
 case bls n z ps =>
  simp only[Gr] at hk;split at hk
  ·rename_i t len parts hop;simp only[B4,Aj] at hev;obtain⟨cs,hcs,he⟩:=hev;cases he;simp only[YV,Ad,beq_iff_eq] at hk;obtain⟨rfl,hk⟩:=hk;split at hk
   ·rename_i e hu;split at hk
    ·rename_i ii hii;simp only[Ad,decide_eq_true_eq] at hk;obtain⟨⟨⟨h1,h2⟩,h3⟩,hp⟩:=hk;split at h3
     ·rename_i zv hzv;simp only[Ad,decide_eq_true_eq,beq_iff_eq] at h3;obtain⟨⟨h3,h4⟩,h5⟩:=h3;have hz0:0<zv.cells.toList.length:=by simp only[CH];omega
      have hzl:zv.cells.toList.length=ii.size:=by simp only[CH];exact h3
      obtain⟨hd,hg⟩:=M7 (Y:=Y) (X:=fun b=>X0 b\/XS s a.tmps b) (w:=w) hz0 len z h5 (by rw[h4,hzl]);have hszr:(sizeOf e).run P w = .ok ii.size w:=by simp[sizeOf,typeInfo,program,Fq,hii]
      have hzr:(zeroValue e).run P w = .ok zv w:=by simp[zeroValue,typeInfo,program,Fq,hii,hzv]
      have hc0:D8 Y (fun b=>X0 b\/XS s a.tmps b) w ((Hr (len*ii.size)).map fun j=>zv.cells[j % zv.cells.size]!) z:=by
       refine⟨hd,by simp[h4],fun i g1 g2 => ?_⟩;obtain⟨u,hu1,hu2⟩:=hg i g2;have e1:zv.cells[i % zv.cells.size]! = u:=by
        have:zv.cells[i % zv.cells.size]? = some u:=by simpa using hu1
        simp[getElem!_def,this]
       simp only[qZ,iW,e1];exact hu2
      obtain⟨cells',e1,e2⟩:=NF h (place:=fun i=>some (i*ii.size,ii.size)) (fun i off n hi=>by
       simp only[Ad,beq_iff_eq] at hi;rw[hi.1,hi.2]) hp hc0 hcs
      have e1':K3 (fun i=>some (i*ii.size,ii.size)) ((Hr (len*ii.size)).map fun j=>zv.cells[j % zv.cells.size]!) (parts.map fun p=>(p.1,a.eval p.2)).toList=some cells':=by rw[FD];exact e1
      have e3:len*ii.size=0->(Hr (len*ii.size)).map (fun j=>(#[]:Array Value)[j % (#[]:Array Value).size]!)=(Hr (len*ii.size)).map fun j=>zv.cells[j % zv.cells.size]! := fun hh=>by rw[hh];simp
      have hl1:¬ len*ii.size>2^24:=by omega
      simp only[EL,Ad] at hro;obtain⟨d,hdst⟩:=A_.1 hro.2;have hrun:(execOp a.eval o).run P w = .ok (.value (.slice (some ⟨w.heap.size,0,none⟩) len len)) (w.alloc (.cells cells' e)):=by
       by_cases hl0:len*ii.size=0
       ·simp only[execOp,hop,LA,AK,run_underlying hu,Az,hszr,hl1,if_false,if_pos hl0,Bk,e3 hl0,e1',newRow,run_newObj_alloc]
       ·simp only[execOp,hop,LA,AK,run_underlying hu,Az,hszr,hl1,if_false,hl0,Bk,hzr,e1',newRow,run_newObj_alloc]
      simp only[Fl,hrun];refine hK _ _ ?_;rw[hdst];refine D7 (ks:=[]) h ((Ig _ _).alloc (Ap _) _) (fun u hu => .inr (AC hkd hro.1 d hdst u hu)) (fun he=>(by cases he)) (fun X g1 g2 => ?_);have hc':=(e2.mono (X':=X) (fun b hb=>(g1 b hb).imp id SM)).world (w':=w.alloc (.cells cells' e)) (fun b _ hb=>WU _ _ _ hb);refine .sl w.heap.size 0 len len cs (fun i=>cells'.getD i Br) hc'.1 (Ap _) (fun _ hx => ?_) (fun _ hy=>TM _ (h.lowYw _ hy)) (fun i hi => ?_) (fun i hi => ?_)
      ·exact TM _ (h.lowX _ (g2 rfl _ hx))
      ·have hi2:i<cells'.size:=by rw[hc'.2.1];exact hi
       have hb:(w.alloc (.cells cells' e)).heap[w.heap.size]? = some (.cells cells' e):=by show (w.heap.push _)[w.heap.size]? = _;simp
       rw[NI hb];simp[hi2]
      ·have hi2:i<cells'.size:=by rw[hc'.2.1];exact hi
       have:=hc'.2.2 i hi2 hi;simpa [hi2] using this
     ·cases h3
    ·cases hk
   ·cases hk
  ·cases hk
 case adr x d off =>
  simp only[Gr] at hk;split at hk
  ·rename_i t x' fi hop;simp only[Ad] at hk;obtain⟨h1,hk⟩:=hk;split at hk
   ·rename_i fs hfs;split at hk
    ·rename_i f hf;simp only[Ad,beq_iff_eq,Ea] at hk;obtain⟨⟨rfl,h2⟩,h3⟩:=hk;simp only[EL,Ad] at hro;obtain⟨ii,hii⟩:=A_.1 h3;have hsz:∀ w,(sizeOf f.type).run P w = .ok ii.size w:=fun w=>by simp[sizeOf,typeInfo,program,Fq,hii]
     have hne:¬ ii.size=0:=by
      intro e0;simp[I_,hii,e0] at h2
     have hx':a.eval x'=a.tmps.getD x Br:=by
      cases x' <;> simp only[Cb] at h1 <;> try cases h1
      simp only[beq_iff_eq] at h1;subst h1;rfl
     have hrun:∀ b o0,a.eval x' = .pointer (some ⟨b,o0,none⟩)->(execOp a.eval o).run P w = .ok (.value (.pointer (some ⟨b,o0+f.offset,none⟩))) w:=by
      intro b o0 he;simp only[execOp,hop,Instr.fieldAt,AK,run_underlying hfs,Az,hf,he,JT,Bk,fieldPlace,hsz,hne,if_false,Hj]
     have h0:=h.reg x;simp only[B4] at hev;cases hr:A4 s x with
     | box cs =>
      rw[hr] at h0 hev;dsimp only at hev;split at hev
      ·rename_i hxd;subst hxd;cases hev;obtain⟨b,e1,_,_⟩:=h0;have:=hrun b 0 (by rw[hx',e1]);refine Bz this (hK _ _ ?_);exact NB (p:=⟨b,0,none⟩) h (AC hkd hro.1) (KY hro.2) (by rw[e1];rfl) rfl
      ·cases hev
     | ptr d' o0 =>
      rw[hr] at h0 hev;dsimp only at hev;split at hev
      ·rename_i hxd;subst hxd;cases hev;obtain⟨_,p,e1,e2,e3⟩:=h0;have:=hrun p.block (p.off+o0) (by rw[hx',e3]);refine Bz this (hK _ _ ?_);have hp:=NB (off:=o0+f.offset) h (AC hkd hro.1) (KY hro.2) e1 e2;rw[<- Dw] at hp;exact hp
      ·cases hev
     | mem cs =>
      rw[hr] at h0 hev;cases hev;obtain⟨b,o0,e1,e2,e3⟩:=h0;have:=hrun b o0 (by rw[hx',e1]);refine Bz this (hK _ _ ?_);refine NA h (AC hkd hro.1) (fun hne=>e2 (fun hn=>hne (by rw[hn];simp))) (e3.drop _)
     | val x=>rw[hr] at hev;cases hev
     | own _ _ _=>rw[hr] at hev;cases hev
     | agn _ _ _ _=>rw[hr] at hev;cases hev
     | bxl _=>rw[hr] at hev;cases hev
     | dup d=>rw[hr] at hev;cases hev
     | sub _ _ _ _=>rw[hr] at hev;cases hev
     | dead=>rw[hr] at hev;cases hev
    ·cases hk
   ·cases hk
  ·cases hk
 case ld x d n one =>
  simp only[Gr] at hk;split at hk
  ·rename_i t x' hop;simp only[Ad] at hk;obtain⟨h1,h2⟩:=hk;have hx':a.eval x'=a.tmps.getD x Br:=by
    cases x' <;> simp only[Cb] at h1 <;> try cases h1
    simp only[beq_iff_eq] at h1;subst h1;rfl
   have h0:=h.reg x;have fin:∀ (b base off:Nat) (cs:List AV) (y:AV),a.eval x' = .pointer (some ⟨b,base+off,none⟩)->Gq Y (fun b=>X0 b\/XS s a.tmps b) w b base cs->Bn cs off n one=some y ->
     (∀ a' w',Rel Y X0 roots w0 (DL s o.dst (.val y)) a' w'->K' a' w')->o.wp P a w K' Q:=by
    intro b base off cs y he hm ht hK';obtain⟨v,hrun,hr⟩:=aQ (P:=P) h2 hm ht;refine Bz (v:=v) ?_ (hK' _ _ (h.put (AC hkd hro) hr));simp only[execOp,hop,Instr.loadAt,he,JT,AK,Bk,Az,hrun]
   simp only[B4] at hev;cases hr:A4 s x with
   | box cs =>
    rw[hr] at h0 hev;dsimp only at hev;split at hev
    ·simp only[Aj] at hev;obtain⟨y,hy,he⟩:=hev;cases he;obtain⟨b,e1,_,e3⟩:=h0;exact fin b 0 0 cs y (by rw[hx',e1]) e3.mem hy hK
    ·cases hev
   | ptr d' off =>
    rw[hr] at h0 hev;dsimp only at hev;split at hev
    ·rename_i hd;subst hd;have h3:=h.reg d';cases hr2:A4 s d' with
     | box cs =>
      rw[hr2] at h3 hev;simp only[Aj] at hev;obtain⟨y,hy,he⟩:=hev;cases he;obtain⟨b,e1,_,e3⟩:=h3;obtain⟨_,p,g1,g2,g3⟩:=h0;rw[e1] at g1;cases g1;exact fin b 0 off cs y (by rw[hx',g3]) e3.mem hy hK
     | val x=>rw[hr2] at hev;cases hev
     | ptr _ _=>rw[hr2] at hev;cases hev
     | mem _=>rw[hr2] at hev;cases hev
     | own k n cs =>
      rw[hr2] at h3 hev;simp only[Aj] at hev;obtain⟨y,hy,he⟩:=hev;cases he;obtain⟨_,p,g1,g2,g3⟩:=h0;rcases h3 with ⟨e1,_⟩ | ⟨b,cap,e1,_,_,_,e3,_⟩
      ·rw[e1] at g1;cases g1
      ·rw[e1] at g1;cases g1;exact fin b 0 off cs y (by rw[hx',g3]) e3.mem hy hK
     | agn _ _ _ _=>rw[hr2] at hev;cases hev
     | bxl _=>rw[hr2] at hev;cases hev
     | dup d=>rw[hr2] at hev;cases hev
     | sub _ _ _ _=>rw[hr2] at hev;cases hev
     | dead=>rw[hr2] at hev;cases hev
    ·cases hev
   | mem cs =>
    rw[hr] at h0 hev;simp only[Aj] at hev;obtain⟨y,hy,he⟩:=hev;cases he;obtain⟨b,off,e1,_,e3⟩:=h0;exact fin b off 0 cs y (by simp[hx',e1]) e3 hy hK
   | val x=>rw[hr] at hev;cases hev
   | own _ _ _=>rw[hr] at hev;cases hev
   | agn _ _ _ _=>rw[hr] at hev;cases hev
   | bxl _=>rw[hr] at hev;cases hev
   | dup d=>rw[hr] at hev;cases hev
   | sub _ _ _ _=>rw[hr] at hev;cases hev
   | dead=>rw[hr] at hev;cases hev
  ·cases hk
 case st x d n v =>
  simp only[Gr] at hk;split at hk
  ·rename_i t x' v' hop;simp only[Ad] at hk;obtain⟨⟨h1,h2⟩,h3⟩:=hk;have hx':a.eval x'=a.tmps.getD x Br:=by
    cases x' <;> simp only[Cb] at h1 <;> try cases h1
    simp only[beq_iff_eq] at h1;subst h1;rfl
   have hdst:o.dst=none:=by simpa [EL] using hro
   have h0:=h.reg x;simp only[B4] at hev;split at hev
   ·cases hev
   ·rename_i va hva;split at hev
    ·cases hev
    ·rename_i ys hys;obtain⟨hn,hc⟩:=M2 (CB h h3 hva) hys;have fin:∀ (b off:Nat) (cs cs':List AV),A4 s d = .box cs->a.tmps.getD d Br = .pointer (some ⟨b,0,none⟩)->a.eval x' = .pointer (some ⟨b,off,none⟩)->C4 cs off ys=some cs' ->
       (∀ a' w',Rel Y X0 roots w0 (s.set d (.box cs')) a' w'->K' a' w')->o.wp P a w K' Q:=by
      intro b off cs cs' hrd hvd he hl hK';have h4:=h.reg d;rw[hrd] at h4;obtain⟨b',e1,hB,e3⟩:=h4;rw[hvd] at e1;cases e1;have hX:(fun b=>X0 b\/XS s a.tmps b) b := .inr ⟨d,by rw[hrd];rfl,by rw[hvd];rfl⟩;obtain⟨w',hrun,g1,g2,g3,g4,g5,g6,g7⟩:=XF (P:=P) (J' h2) e3 hX hc hn hl;have hrun':(execOp a.eval o).run P w = .ok .skip w':=by
       simp only[execOp,hop,WQ,he,JT,AK,Bk,Az,hrun]
      simp only[Fl,hrun',EJ];rw[hdst];refine hK' _ _ (Rel.store h hrd rfl rfl (by rw[hvd];rfl) hB g1 g2 g3 g4 g5 (fun X hX => ?_));exact⟨b,hvd,hB,g6.mono fun c hc => .inl ((hX c).1 hc)⟩
     have finO:∀ (b off k m:Nat) (cs cs':List AV),A4 s d = .own k m cs->AI (a.tmps.getD d Br)=some b->a.eval x' = .pointer (some ⟨b,off,none⟩)->C4 cs off ys=some cs' ->
       (∀ a' w',Rel Y X0 roots w0 (s.set d (.own k m cs')) a' w'->K' a' w')->o.wp P a w K' Q:=by
      intro b off k m cs cs' hrd hvd he hl hK';obtain⟨b',cap,e1,e2,e3,e4,e5,e6,hXb⟩:=(h.ownLow hrd).resolve_left (fun hh=>by rw[hh.1] at hvd;cases hvd);have hbb:b'=b:=by rw[e1] at hvd;simpa [AI,GD] using hvd
      subst hbb;obtain⟨w',hrun,g1,g2,g3,g4,g5,g6,g7⟩:=XF (P:=P) (J' h2) e5 (.inr hXb) hc hn hl;have hrun':(execOp a.eval o).run P w = .ok .skip w':=by
       simp only[execOp,hop,WQ,he,JT,AK,Bk,Az,hrun]
      simp only[Fl,hrun',EJ];rw[hdst];refine hK' _ _ (Rel.store h hrd rfl rfl hvd e4 g1 g2 g3 g4 g5 (fun X hX => ?_));refine .inr ⟨b',cap,e1,e2,by rw[(LZ hl).2.1];exact e3,e4,g6.mono fun c hc => .inl ((hX c).1 hc),g7 _ e6⟩
     rw[hdst] at hK;cases hr:A4 s x with
     | box cs =>
      rw[hr] at h0 hev;dsimp only at hev;split at hev
      ·rename_i hxd;subst hxd;simp only[Aj] at hev;obtain⟨cs',hl,he⟩:=hev;cases he;obtain⟨b,e1,_,_⟩:=h0;exact fin b 0 cs cs' hr e1 (by rw[hx',e1]) hl hK
      ·cases hev
     | ptr d' off =>
      rw[hr] at h0 hev;dsimp only at hev;split at hev
      ·rename_i hd;subst hd;have h5:=h.reg d';cases hr2:A4 s d' with
       | box cs =>
        rw[hr2] at h5 hev;simp only[Aj] at hev;obtain⟨cs',hl,he⟩:=hev;cases he;obtain⟨b,e1,_,e3⟩:=h5;obtain⟨_,p,g1,g2,g3⟩:=h0;rw[e1] at g1;cases g1;exact fin b off cs cs' hr2 e1 (by rw[hx',g3];simp) hl hK
       | val x=>rw[hr2] at hev;cases hev
       | ptr _ _=>rw[hr2] at hev;cases hev
       | mem _=>rw[hr2] at hev;cases hev
       | own k m cs =>
        rw[hr2] at h5 hev;simp only[Aj] at hev;obtain⟨cs',hl,he⟩:=hev;cases he;obtain⟨_,p,g1,g2,g3⟩:=h0;rcases h5 with ⟨e1,_⟩ | ⟨b,cap,e1,_,_,_,e3,_⟩
        ·rw[e1] at g1;cases g1
        ·rw[e1] at g1;cases g1;exact finO b off k m cs cs' hr2 (by rw[e1];rfl) (by rw[hx',g3];simp) hl hK
       | agn _ _ _ _=>rw[hr2] at hev;cases hev
       | bxl _=>rw[hr2] at hev;cases hev
       | dup d=>rw[hr2] at hev;cases hev
       | sub _ _ _ _=>rw[hr2] at hev;cases hev
       | dead=>rw[hr2] at hev;cases hev
      ·cases hev
     | val x=>rw[hr] at hev;cases hev
     | mem _=>rw[hr] at hev;cases hev
     | own _ _ _=>rw[hr] at hev;cases hev
     | agn _ _ _ _=>rw[hr] at hev;cases hev
     | bxl _=>rw[hr] at hev;cases hev
     | dup d=>rw[hr] at hev;cases hev
     | sub _ _ _ _=>rw[hr] at hev;cases hev
     | dead=>rw[hr] at hev;cases hev
  ·cases hk
 case fld x off n one =>
  simp only[Gr] at hk;split at hk
  ·rename_i t x' fi hop;simp only[Ad] at hk;obtain⟨h1,hk⟩:=hk;split at hk
   ·rename_i fs hfs;split at hk
    ·rename_i f hf;simp only[Ad,beq_iff_eq] at hk;obtain⟨rfl,h2⟩:=hk;simp only[B4] at hev;split at hev
     ·rename_i cs hx;simp only[Aj] at hev;obtain⟨y,hy,he⟩:=hev;cases he;have hxr:=CB h h1 hx;generalize hxv:a.eval x'=xv at hxr;cases hxr with
      | agg vs _ hd hs hr =>
       obtain⟨v,hrun,hr⟩:=Afr (P:=P) h2 ⟨hd,hs,hr⟩ hy;refine Bz (v:=v) ?_ (hK _ _ (h.put (AC hkd hro) hr));simp only[execOp,hop,tE,AK,run_underlying hfs,Az,hf,hxv,asAgg,Bk,hrun]
     ·cases hev
    ·cases hk
   ·cases hk
  ·cases hk
 case ixa x i k =>
  simp only[Gr] at hk;split at hk
  ·rename_i t x' i' hop;simp only[Ad] at hk;obtain⟨⟨h1,h2⟩,hk⟩:=hk;split at hk
   ·rename_i e hu;simp only[B4] at hev;split at hev
    ·rename_i ki iv hi;have hir:=CB h h2 hi;generalize hiv:a.eval i'=ivv at hir;cases hir;have hx':a.eval x'=a.tmps.getD x Br:=by
      cases x' <;> simp only[Cb] at h1 <;> try cases h1
      simp only[beq_iff_eq] at h1;subst h1;rfl
     have h0:=h.reg x;split at hev
     ·rename_i n cs hr;rw[hr] at h0;split at hev
      ·rename_i hb;cases hev;rw[<- hx'] at h0;generalize hxv:a.eval x'=xv at h0;cases h0 with
       | nil0=>exact absurd hb (by omega)
       | e0 _ _=>exact absurd hb (by omega)
       | sl b off _ cap _ f hd hn hX hY hcell hrr =>
        have hmem:Gq Y (fun b=>X0 b\/XS s a.tmps b) w b off cs:=⟨hd,fun j hj=>⟨f j,hcell j hj,hrr j hj⟩⟩;refine Bz (v := .pointer (some ⟨b,off+iv.toNat*k,none⟩)) ?_ (hK _ _ ?_)
        ·simp only[execOp,hop,WR,AK,hiv,asIntOf,Bk,Az,run_underlying hu,hxv,hb,and_self,if_true,J' hk,Hj]
        ·refine NA h (AC hkd hro) (fun hne=>hX (fun hn=>hne (by rw[hn];simp))) (hmem.drop _)
      ·cases hev
     ·cases hev
    ·cases hev
   ·cases hk
  ·cases hk
 case six x i =>
  simp only[Gr] at hk;split at hk
  ·rename_i t x' i' hop;simp only[Ad] at hk;obtain⟨⟨h1,h2⟩,hk⟩:=hk;split at hk
   ·rename_i hu;simp only[B4] at hev;split at hev
    ·rename_i bs ki iv hx hi;simp only[Aj] at hev;obtain⟨c,hc,he⟩:=hev;cases he;have hir:=CB h h2 hi;generalize hiv:a.eval i'=ivv at hir;cases hir;have hxr:=CB h h1 hx;generalize hxv:a.eval x'=xv at hxr;cases hxr;refine Bz (v := .int .u8 c.toNat) ?_ (hK _ _ (h.put (AC hkd hro) (.int _ _)));simp only[execOp,hop,Instr.index,AK,hiv,asIntOf,Bk,Az,run_underlying hu,hxv,hc]
    ·cases hev
   ·cases hk
  ·cases hk
 case ext x i =>
  simp only[Gr] at hk;split at hk
  ·rename_i x' i' hop;simp only[Ad,beq_iff_eq] at hk;obtain⟨h1,rfl⟩:=hk;simp only[B4] at hev;split at hev
   ·rename_i vs hx;simp only[Aj] at hev;obtain⟨y,hy,he⟩:=hev;cases he;have hxr:=CB h h1 hx;generalize hxv:a.eval x'=xv at hxr;cases hxr with
    | tup us _ hs hr =>
     obtain⟨hlt,hyy⟩:=Fz.1 hy;have hlt2:i'<us.size:=by omega
     refine Bz (v:=us[i']) ?_ (hK _ _ (h.put (AC hkd hro) (hyy ▸ hr i' hlt2 hlt)));simp only[execOp,hop,Awb,hxv,Dm hlt2,AK,Bk,Az]
   ·cases hev
  ·cases hk
 case len x =>
  simp only[Gr] at hk;split at hk
  ·rename_i args ts hop;unfold YW at hk;split at hk
   ·rename_i x' t hargs hts;simp only[Ad] at hk;obtain⟨h1,h2⟩:=hk;have e1:args=#[x']:=by rw[<- Fx (xs:=args),hargs]
    have e2:ts=#[t]:=by rw[<- Fx (xs:=ts),hts]
    subst e1 e2;split at h2
    ·rename_i e hu;simp only[B4] at hev;have fin:∀ (base:Option Addr) (n c:Nat),a.eval x' = .slice base n c->(∀ a' w',Rel Y X0 roots w0 (DL s o.dst (.val (.int .i64 n))) a' w'->K' a' w')->o.wp P a w K' Q:=by
      intro base n c he hK';refine Bz (v := .int .i64 n) ?_ (hK' _ _ (h.put (AC hkd hro) (.int _ _)));simp[execOp,hop,resolve,invoke,builtin,Afu,he,run_underlying hu,goInt]
     split at hev
     ·rename_i hx;cases hev;have hxr:=CB h h1 hx;generalize hxv:a.eval x'=xv at hxr;cases hxr;exact fin _ _ _ hxv hK
     ·rename_i n cs hx;cases hev;have hxr:=CB h h1 hx;generalize hxv:a.eval x'=xv at hxr;cases hxr <;> exact fin _ _ _ hxv hK
     ·cases hev
    ·cases h2
   ·cases hk
  ·cases hk
 case mx xs =>
  simp only[Gr] at hk;split at hk
  ·rename_i args ts hop;simp only[B4] at hev;split at hev
   ·rename_i k n l hx;simp only[Aj] at hev;obtain⟨m,hm,he⟩:=hev;cases he;obtain⟨e1,e2⟩:=K7 h hk hx;cases hal:args.toList with
    | nil=>rw[hal] at e1;simp at e1
    | cons x0 rest =>
     have e1':rest.length=l.length:=by rw[hal] at e1;simpa using e1
     have h0:=e2 0 (by rw[hal];simp) (by simp);simp only[hal,FN] at h0;generalize hxv:a.eval x0=xv at h0;cases h0;have hfold:=aT (P:=P) (Y:=Y) (X:=fun b=>X0 b\/XS s a.tmps b) (w:=w) (vs:=rest.map a.eval) (l:=l) (by simpa using e1') (fun i g1 g2=>by
      have:=e2 (i+1) (by rw[hal];simp at g1 |-;omega) (by simp;omega);simpa [hal] using this) hm
     refine Bz (v := .int k m) ?_ (hK _ _ (h.put (AC hkd hro) (.int _ _)));have hmap:(args.map a.eval).toList = .int k n::rest.map a.eval:=by rw[FD,hal,C2,hxv]
     simp only[execOp,hop,resolve,invoke,builtin,Builtin.max_,AK,Bk,Az,hmap,hfold]
   ·cases hev
  ·cases hk
 case mn xs =>
  simp only[Gr] at hk;split at hk
  ·rename_i args ts hop;simp only[B4] at hev;split at hev
   ·rename_i k n l hx;simp only[Aj] at hev;obtain⟨m,hm,he⟩:=hev;cases he;obtain⟨e1,e2⟩:=K7 h hk hx;cases hal:args.toList with
    | nil=>rw[hal] at e1;simp at e1
    | cons x0 rest =>
     have e1':rest.length=l.length:=by rw[hal] at e1;simpa using e1
     have h0:=e2 0 (by rw[hal];simp) (by simp);simp only[hal,FN] at h0;generalize hxv:a.eval x0=xv at h0;cases h0;have hfold:=aU (P:=P) (Y:=Y) (X:=fun b=>X0 b\/XS s a.tmps b) (w:=w) (vs:=rest.map a.eval) (l:=l) (by simpa using e1') (fun i g1 g2=>by
      have:=e2 (i+1) (by rw[hal];simp at g1 |-;omega) (by simp;omega);simpa [hal] using this) hm
     refine Bz (v := .int k m) ?_ (hK _ _ (h.put (AC hkd hro) (.int _ _)));have hmap:(args.map a.eval).toList = .int k n::rest.map a.eval:=by rw[FD,hal,C2,hxv]
     simp only[execOp,hop,resolve,invoke,builtin,Builtin.min_,AK,Bk,Az,hmap,hfold]
   ·cases hev
  ·cases hk
 case call f xs =>
  simp only[Gr] at hk;split at hk
  ·rename_i f' args ts hop;simp only[Ad,beq_iff_eq] at hk;obtain⟨⟨rfl,h1⟩,h2⟩:=hk;simp only[B4] at hev;split at hev
   ·rename_i vs hx;simp only[Aj] at hev;obtain⟨y,hy,he⟩:=hev;cases he;obtain⟨e1,e2⟩:=K7 h h1 hx;split at h2
    ·rename_i fn hfn;simp only[Ad,Ea] at h2;obtain⟨hbody,hname⟩:=h2;have hbn:¬ fn.body=none:=by intro e0;rw[e0] at hbody;cases hbody
     have hnm:¬ fn.name = "runtime.NumGoroutine" := by simpa using hname
     have hrun:(execOp a.eval o).run P w = .ok (.enter f' (args.map a.eval)) w:=by
      simp[execOp,hop,resolve,Ic,No,invoke,callFunc,program,Fq,hfn,hnm,hbn]
     have hcall:=hF.plain f' vs y hy Y (fun b=>X0 b\/XS s a.tmps b) w (args.map a.eval) h.lowX h.lowYw (by simpa using e1) (fun i g1 g2=>by
      have:=e2 i (by simpa using g1) g2;simpa using this)
     simp only[Fl,hrun,EJ];refine hcall.mono fun e w' ⟨v,he,hb,hr⟩ => ?_;subst he;refine hK _ _ ?_;cases hdst:o.dst with
     | none =>
      refine⟨h.dfr,h.size,h.below.trans hb,h.low,h.lowY,fun t => ?_,h.inj⟩;exact HJ.world (h.reg t) hb
     | some d =>
      refine D7 (ks:=[]) h hb (fun u hu => .inr (AC hkd hro d hdst u hu)) (fun he=>(by cases he)) (fun X _ g2 => ?_);exact (hr.thawed (fun b hb=>GI (h.lowX b hb)) (fun b hb=>GI (h.lowYw b hb))).mono fun b hb => .inl (g2 rfl b hb)
    ·cases h2
   ·cases hev
  ·cases hk
 case clo f xs =>
  simp only[Gr] at hk;split at hk
  ·rename_i f' args ts hop;simp only[Ad,beq_iff_eq] at hk;obtain⟨⟨rfl,h1⟩,h2⟩:=hk;simp only[B4] at hev;split at hev
   ·rename_i vs hx;simp only[Aj] at hev;obtain⟨y,hy,he⟩:=hev;cases he;obtain⟨e1,e2⟩:=K7 h h1 hx;split at h2
    ·rename_i fn hfn;simp only[Ad,Ea] at h2;obtain⟨hbody,hname⟩:=h2;have hbn:¬ fn.body=none:=by intro e0;rw[e0] at hbody;cases hbody
     have hnm:¬ fn.name = "runtime.NumGoroutine" := by simpa using hname
     have hrun:(execOp a.eval o).run P w = .ok (.enter f' (args.map a.eval)) w:=by
      simp[execOp,hop,resolve,Ic,No,invoke,callFunc,program,Fq,hfn,hnm,hbn]
     have hcall:=hF.plain f' vs y hy Y (fun b=>X0 b\/XS s a.tmps b) w (args.map a.eval) h.lowX h.lowYw (by simpa using e1) (fun i g1 g2=>by
      have:=e2 i (by simpa using g1) g2;simpa using this)
     simp only[Fl,hrun,EJ];refine hcall.mono fun e w' ⟨v,he,hb,hr⟩ => ?_;subst he;refine hK _ _ ?_;simp only[EL,Ad] at hro;obtain⟨d,hdst⟩:=A_.1 hro.2;rw[hdst];cases y
     case fresh k n cs =>
      simp only[Ik] at hr;refine D7 (ks:=[]) h hb (fun u hu => .inr (AC hkd hro.1 d hdst u hu)) (fun _ b hb=>(Fp.block hr hb).1) (fun X g1 _ => ?_);exact OF h.below.from_ hr g1
     case frs bb k n cs =>
      simp only[Ik] at hr;refine D7 (ks:=[]) h hb (fun u hu => .inr (AC hkd hro.1 d hdst u hu)) (fun _ b hb=>(J8.block hr hb).1) (fun X g1 _ => ?_);obtain⟨u,rfl,hr⟩:=hr;rw[FG _ hr] at g1;refine⟨u,rfl,OF h.below.from_ ?_ g1⟩;rw[FG _ hr] at hr;exact hr
     all_goals
      refine D7 (ks:=[]) h hb (fun u hu => .inr (AC hkd hro.1 d hdst u hu)) (fun he=>(by cases he)) (fun X _ g2 => ?_);exact Rd.mono hr fun b hb => .inl (g2 rfl b hb)
    ·cases h2
   ·cases hev
  ·cases hk
 case brw f x d =>
  simp only[Gr] at hk;split at hk
  ·rename_i f' args ts hop;simp only[Ad,beq_iff_eq] at hk;obtain⟨⟨rfl,h1⟩,h2⟩:=hk;simp only[B4] at hev;split at hev
   ·rename_i d' hrx;split at hev
    ·rename_i hdd;subst hdd;split at hev
     ·rename_i k n cs hrd;split at hev
      ·rename_i hni;split at hev
       ·rename_i y hy;split at hev
        ·rename_i hio;cases hev;have hvx:=h.reg x;rw[hrx] at hvx;have hev:a.tmps.getD x Br=a.tmps.getD d' Br:=hvx.2;have hown:=h.reg d';rw[hrd] at hown;have hXd:∀ b,AI (a.tmps.getD d' Br)=some b->(X0 b\/XS s a.tmps b):=fun b hb => .inr ⟨d',by rw[hrd];rfl,hb⟩;obtain⟨o1,ho1,hox⟩:∃ o1,args.toList=[o1]/\Cb o1 (.t x)=true:=by
          cases hal:args.toList with
          | nil=>rw[hal] at h1;cases h1
          | cons o1 l =>
           rw[hal] at h1;simp only[HD,Ad] at h1;cases l with
           | nil=>exact⟨o1,rfl,h1.1⟩
           | cons _ _=>cases h1.2
         have hoe:a.eval o1=a.tmps.getD d' Br:=by
          cases o1 <;> first | (cases hox;done) | skip
          rename_i m;simp only[Cb,beq_iff_eq] at hox;subst hox;rw[<- hev];rfl
         split at h2
         ·rename_i fn hfn;simp only[Ad,Ea] at h2;obtain⟨hbody,hname⟩:=h2;have hbn:¬ fn.body=none:=by intro e0;rw[e0] at hbody;cases hbody
          have hnm:¬ fn.name = "runtime.NumGoroutine" := by simpa using hname
          have hrun:(execOp a.eval o).run P w = .ok (.enter f' (args.map a.eval)) w:=by
           simp[execOp,hop,resolve,Ic,No,invoke,callFunc,program,Fq,hfn,hnm,hbn]
          have hargs:args=#[o1]:=by
           apply tQ.1;rw[ho1]
          have hlent:Rd (fun c=>Y c\/AI (a.tmps.getD d' Br)=some c) (fun c=>(X0 c\/XS s a.tmps c)/\¬ AI (a.tmps.getD d' Br)=some c) w (a.tmps.getD d' Br) (.sl n cs) :=
           aO hown (fun b hb=>hb.1) (fun b hb=>hb.imp id (hXd b)) (fun b hb hx=>hx.2 hb) hni
          have hcall:=hF.plain f' [.sl n cs] y hy (fun c=>Y c\/AI (a.tmps.getD d' Br)=some c) (fun c=>(X0 c\/XS s a.tmps c)/\¬ AI (a.tmps.getD d' Br)=some c) w (args.map a.eval)
           (fun b hb=>h.lowX b hb.1) (fun b hb=>hb.elim (h.lowYw b) (fun hb=>h.lowX b (hXd b hb))) (by rw[hargs];simp) (fun i g1 g2=>by
            have hi:i=0:=by simp at g2;exact g2
            subst hi;subst hargs;simp only[List.map_toArray,C2,GC,Nn,FN];rw[hoe];exact hlent)
          simp only[Fl,hrun,EJ];refine hcall.mono fun e w' ⟨v,he,hb,hr⟩ => ?_;subst he;refine hK _ _ ?_;have hback:Rd Y (fun b=>X0 b\/XS s a.tmps b) w' v (K5 y):=by
           refine (hr.thawed (fun b hb=>GI (h.lowX b hb.1)) (fun b hb=>GI (hb.elim (h.lowYw b) (fun hb=>h.lowX b (hXd b hb))))).back hio (fun b hb => ?_) (fun b hb => .inl hb);by_cases hq:AI (a.tmps.getD d' Br)=some b
           ·exact .inr (.inr hq)
           ·exact .inl ⟨hb,hq⟩
          cases hdst:o.dst with
          | none =>
           refine⟨h.dfr,h.size,h.below.trans hb,h.low,h.lowY,fun t => ?_,h.inj⟩;exact HJ.world (h.reg t) hb
          | some d =>
           refine D7 (ks:=[]) h hb (fun u hu => .inr (AC hkd hro d hdst u hu)) (fun he=>(by cases he)) (fun X _ g2 => ?_);exact hback.mono fun b hb => .inl (g2 rfl b hb)
         ·cases h2
        ·cases hev
       ·cases hev
      ·cases hev
     ·cases hev
    ·cases hev
   ·cases hev
  ·cases hk
 case cpy x =>
  have hx:=NJ (a:=a) (P:=P) (w:=w) hk;simp only[EL,Ad] at hro;simp only[B4] at hev;have h0:=h.reg x;split at hev
  ·rename_i v hr;cases hev;rw[hr] at h0;exact Bz hx (hK _ _ (h.put (AC hkd hro.1) h0))
  ·cases hev;exact Bz hx (hK _ _ (h.putDup (AC hkd hro.1) (KY hro.2)))
  ·cases hev
 case tra x =>
  have hx:=NJ (a:=a) (P:=P) (w:=w) hk;simp only[EL,Ad] at hro;simp only[B4] at hev;have h0:=h.reg x;split at hev
  ·rename_i v hr;cases hev;rw[hr] at h0;exact Bz hx (hK _ _ (h.put (AC hkd hro.1) h0))
  ·rename_i k n cs hr;cases hev;obtain⟨d,hdst⟩:=A_.1 hro.2;refine Bz hx (hK _ _ ?_);rw[hdst];rcases h.ownLow hr with ⟨e1,rfl,rfl⟩ | ⟨b,cap,e1,e2,e3,e4,e5,e6,hXb⟩
   ·rw[e1];exact Mb (ow:=true) (ks:=[x]) h (fun u hu => .inr (AC hkd hro.1 d hdst u hu))
   refine Rel.shift h hr (b:=b) (by rw[e1];rfl) (fun u hu=>AC hkd hro.1 d hdst u hu) rfl rfl rfl rfl (fun _ _=>rfl) (fun _=>by rw[e1];rfl) (fun X g1 _ => ?_);exact .inr ⟨b,cap,e1,e2,e3,e4,e5.mono fun c hc => .inl (g1 c hc),e6⟩
  ·rename_i b k n cs hr;cases hev;obtain⟨d,hdst⟩:=A_.1 hro.2;rw[hr] at h0;refine Bz hx (hK _ _ ?_);rw[hdst];exact h.pass (by rw[hr];rfl) rfl (fun u hu=>AC hkd hro.1 d hdst u hu) (fun X g1=>J8.mono h0 fun c hc => .inl (g1 c hc))
  ·cases hev
 case frz x =>
  have hx:=NJ (a:=a) (P:=P) (w:=w) hk;simp only[B4] at hev;have h0:=h.reg x;split at hev
  ·rename_i v hr;cases hev;rw[hr] at h0;exact Bz hx (hK _ _ (h.put (AC hkd hro) h0))
  ·rename_i k n cs hr;cases hev;have hf:=h.freeze hr;have h1:=hf.reg x;have hlt:x<s.length:=by
    rcases Cp x s.length with hlt | hge
    ·exact hlt
    ·simp only[A4,Z,AE hge] at hr;cases hr
   rw[Dx,if_pos ⟨rfl,hlt⟩] at h1;refine Bz hx (hK _ _ (hf.put (fun d hd t ht => ?_) h1));have hfree:=AC hkd hro d hd t ht;rw[Dx];split
   ·rfl
   ·exact hfree
  ·cases hev
 case mks z n =>
  simp only[Gr] at hk;split at hk
  ·rename_i t l c hop;simp only[Ad] at hk;obtain⟨⟨⟨h1,h2⟩,h3⟩,h4⟩:=hk;simp only[EL,Ad] at hro;obtain⟨d,hdst⟩:=A_.1 hro.2;simp only[B4] at hev;split at hev
   ·rename_i kk m hn;split at hev
    ·rename_i hb;cases hev;have hl:=CB h h1 hn;have hc:=CB h h2 hn;generalize hlv:a.eval l=lv at hl;generalize hcv:a.eval c=cv at hc;cases hl;cases hc;obtain⟨e,cells,hrun,hcells⟩:=Afq (P:=P) (Y:=Y) (X:=fun b=>X0 b\/XS s a.tmps b) (w:=w) (kl:=kk) (kc:=kk) h3 h4 hb.1 hb.2;have hrun':(execOp a.eval o).run P w = .ok (.value (.slice (some ⟨w.heap.size,0,none⟩) m.toNat m.toNat)) (w.alloc (.cells cells e)):=by
      simp only[execOp,hop,hlv,hcv,AK,hrun,Az,Bk]
     simp only[Fl,hrun',EJ];refine hK _ _ ?_;rw[hdst];exact aX h (fun u hu=>AC hkd hro.1 d hdst u hu) hcells (L9 z m.toNat)
    ·cases hev
   ·cases hev
  ·cases hk
 case blo k n z ps =>
  simp only[Gr] at hk;split at hk
  ·rename_i t len parts hop;simp only[Ad] at hk;obtain⟨hk,hel⟩:=hk;simp only[B4,Aj] at hev;obtain⟨cs,hcs,he⟩:=hev;cases he;simp only[YV,Ad,beq_iff_eq] at hk;obtain⟨rfl,hk⟩:=hk;obtain⟨e',i',zv',hu',hi',hs',hk',_,_,_⟩:=E9 hel;split at hk
   ·rename_i e hu;split at hk
    ·rename_i ii hii;obtain rfl:e=e':=by rw[hu] at hu';cases hu';rfl
     obtain rfl:ii=i':=by rw[hii] at hi';cases hi';rfl
     simp only[Ad,decide_eq_true_eq] at hk;obtain⟨⟨⟨h1,h2⟩,h3⟩,hp⟩:=hk;split at h3
     ·rename_i zv hzv;simp only[Ad,decide_eq_true_eq,beq_iff_eq] at h3;obtain⟨⟨h3,h4⟩,h5⟩:=h3;have hz0:0<zv.cells.toList.length:=by simp only[CH];omega
      have hzl:zv.cells.toList.length=ii.size:=by simp only[CH];exact h3
      obtain⟨hd,hg⟩:=M7 (Y:=Y) (X:=fun b=>X0 b\/XS s a.tmps b) (w:=w) hz0 len z h5 (by rw[h4,hzl]);have hszr:(sizeOf e).run P w = .ok ii.size w:=by simp[sizeOf,typeInfo,program,Fq,hii]
      have hzr:(zeroValue e).run P w = .ok zv w:=by simp[zeroValue,typeInfo,program,Fq,hii,hzv]
      have hc0:D8 Y (fun b=>X0 b\/XS s a.tmps b) w ((Hr (len*ii.size)).map fun j=>zv.cells[j % zv.cells.size]!) z:=by
       refine⟨hd,by simp[h4],fun i g1 g2 => ?_⟩;obtain⟨u,hu1,hu2⟩:=hg i g2;have e1:zv.cells[i % zv.cells.size]! = u:=by
        have:zv.cells[i % zv.cells.size]? = some u:=by simpa using hu1
        simp[getElem!_def,this]
       simp only[qZ,iW,e1];exact hu2
      obtain⟨cells',e1,e2⟩:=NF h (place:=fun i=>some (i*ii.size,ii.size)) (fun i off n hi=>by
       simp only[Ad,beq_iff_eq] at hi;rw[hi.1,hi.2]) hp hc0 hcs
      have e1':K3 (fun i=>some (i*ii.size,ii.size)) ((Hr (len*ii.size)).map fun j=>zv.cells[j % zv.cells.size]!) (parts.map fun p=>(p.1,a.eval p.2)).toList=some cells':=by rw[FD];exact e1
      have e3:len*ii.size=0->(Hr (len*ii.size)).map (fun j=>(#[]:Array Value)[j % (#[]:Array Value).size]!)=(Hr (len*ii.size)).map fun j=>zv.cells[j % zv.cells.size]! := fun hh=>by rw[hh];simp
      have hl1:¬ len*ii.size>2^24:=by omega
      simp only[EL,Ad] at hro;obtain⟨d,hdst⟩:=A_.1 hro.2;have hrun:(execOp a.eval o).run P w = .ok (.value (.slice (some ⟨w.heap.size,0,none⟩) len len)) (w.alloc (.cells cells' e)):=by
       by_cases hl0:len*ii.size=0
       ·simp only[execOp,hop,LA,AK,run_underlying hu,Az,hszr,hl1,if_false,if_pos hl0,Bk,e3 hl0,e1',newRow,run_newObj_alloc]
       ·simp only[execOp,hop,LA,AK,run_underlying hu,Az,hszr,hl1,if_false,hl0,Bk,hzr,e1',newRow,run_newObj_alloc]
      simp only[Fl,hrun,EJ];refine hK _ _ ?_;rw[hdst];refine aX h (fun u hu=>AC hkd hro.1 d hdst u hu) e2 ?_;rw[Pp hcs,h4,hs']
     ·cases h3
    ·cases hk
   ·cases hk
  ·cases hk
 case apd ow x y k B =>
  simp only[Gr] at hk;split at hk
  ·rename_i args ts hop;unfold Afm at hk;split at hk
   ·rename_i x' y' t t' hargs hts;simp only[Ad] at hk;obtain⟨⟨⟨⟨h1,h2⟩,h3⟩,h4⟩,h5⟩:=hk;have e1:args=#[x',y']:=by rw[<- Fx (xs:=args),hargs]
    have e2:ts=#[t,t']:=by rw[<- Fx (xs:=ts),hts]
    subst e1 e2;simp only[EL,Ad] at hro;obtain⟨d,hdst⟩:=A_.1 hro.2;have hfr:∀ u,(u,d)∈roots->E_ (A4 s u)=false:=fun u hu=>AC hkd hro.1 d hdst u hu;have hrunO:∀ {v:Value} {w':World},(CA #[t,t'] o.type #[a.eval x',a.eval y']).run P w = .ok v w'->(execOp a.eval o).run P w = .ok (.value v) w':=by
     intro v w' hh;simp[execOp,hop,resolve,invoke,builtin,hh]
    simp only[B4] at hev;split at hev
    ·-- nothing to append
     rename_i hy;have hyr:=CB h h2 hy;generalize hyv:a.eval y'=yv at hyr hrunO;cases hyr;split at hev
     ·rename_i hxr;cases hev;have hxx:=CB h h1 (qX hxr);generalize hxv:a.eval x'=xv at hxx hrunO;cases hxx;have hr:=hrunO (append_nil (P:=P) (w:=w) (ty:=o.type) h3 h4);exact Bz hr (hK _ _ (h.put (AC hkd hro.1) .nil))
     ·rename_i k' n cs hxr;obtain⟨nx,rfl⟩:=aW hxr;simp only[Opd.reg] at hxr;split at hev
      ·rename_i hkk;subst hkk;cases hev;rcases h.ownLow hxr with ⟨e1,rfl,rfl⟩ | ⟨b,cap,e1,e2,e3,e4,e5,e6,hXb⟩
       ·have hxv:a.eval x' = .slice none 0 0:=by rw[E1 h1,e1]
        rw[hxv] at hrunO;have hr:=hrunO (append_nil (P:=P) (w:=w) (ty:=o.type) h3 h4);refine Bz hr (hK _ _ ?_);rw[hdst];exact Mb (ks:=[nx]) h (fun u hu => .inr (hfr u hu))
       have hxv:a.eval x' = .slice (some ⟨b,0,none⟩) n cap:=by rw[E1 h1,e1]
       rw[hxv] at hrunO;have hr:=hrunO (QD (P:=P) (w:=w) (ty:=o.type) h3 h4 e2);refine Bz hr (hK _ _ ?_);rw[hdst];refine Rel.shift h hxr (b:=b) (by rw[e1];rfl) hfr rfl rfl rfl rfl (fun _ _=>rfl) (fun _=>rfl) (fun X g1 g2 => ?_);exact Uf (.inr ⟨b,cap,rfl,e2,e3,e4,e5.mono fun c hc => .inl (g1 c hc),e6⟩) (fun he=>by subst he;exact fun c hc=>by cases hc;exact g2 rfl) h.lowY
      ·cases hev
     ·cases hev
    ·rename_i m ys hy;have hyr:=Awu (CB h h2 hy);split at hev
     ·rename_i hylen;have fromNil:a.eval x' = .slice none 0 0->m<=B->∀ ks:List Nat,(∀ a' w',Rel Y X0 roots w0 (DL (BO s (ks.map fun u=>(u,Reg.dead))) (some d) (if ow then .own k m ys else .val (.sl m ys))) a' w'->K' a' w')->o.wp P a w K' Q:=by
       intro hxv hm2 ks hK';rw[hxv] at hrunO;rcases FJ m with hm | hm
       ·subst hm;have hy0:ys=[]:=A9 (by simpa using hylen);subst hy0;have hr:(execOp a.eval o).run P w = .ok (.value (.slice none 0 0)) w:=by
         rcases hyr with ⟨_,_,hyv | ⟨p,c,hyv⟩⟩ | ⟨b,off,cap,hyv,_⟩
         ·rw[hyv] at hrunO;exact hrunO (append_nil (P:=P) (w:=w) (ty:=o.type) h3 h4)
         ·rw[hyv] at hrunO;exact hrunO (QC (P:=P) (w:=w) (ty:=o.type) h3 h4)
         ·rw[hyv] at hrunO;exact hrunO (QC (P:=P) (w:=w) (ty:=o.type) h3 h4)
        refine Bz hr (hK' _ _ ?_);rw[hdst];exact Mb (ks:=ks) h (fun u hu => .inr (hfr u hu))
       ·obtain⟨v',w',hrun,hbel,hown⟩:=QB (P:=P) (ty:=o.type) (n:=0) (cs:=[]) h3 h4 h5 (.inl ⟨rfl,rfl,rfl,hm⟩) (by simp) hyr hm hylen (by omega);have hr:=hrunO hrun;simp only[Fl,hr,EJ];refine hK' _ _ ?_;rw[hdst];simp only[B_,Ia] at hown;exact PD (ks:=ks) h hbel (fun u hu => .inr (hfr u hu)) hown
      split at hev
      ·rename_i hxr;have hxx:=CB h h1 (qX hxr);generalize hxv:a.eval x'=xv at hxx;cases hxx;split at hev
       ·rename_i hm2;cases hev;rw[hdst] at hK;exact fromNil hxv hm2 [] hK
       ·cases hev
      ·rename_i k' n cs hxr;obtain⟨nx,rfl⟩:=aW hxr;simp only[Opd.reg] at hxr;split at hev
       ·rename_i hkk;obtain⟨rfl,hnm⟩:=hkk;cases hev;rcases h.ownLow hxr with ⟨e1,rfl,rfl⟩ | ⟨b,cap,e1,e2,e3,e4,e5,e6,hXb⟩
        ·rw[hdst] at hK;simp only[B_,Ia] at hK;exact fromNil (by rw[E1 h1,e1]) (by omega) [nx] hK
        have hxv:a.eval x' = .slice (some ⟨b,0,none⟩) n cap:=by rw[E1 h1,e1]
        rw[hxv] at hrunO;by_cases hyn:m=0
        ·subst hyn;have hy0:ys=[]:=A9 (by simpa using hylen);subst hy0;have hr:(execOp a.eval o).run P w = .ok (.value (.slice (some ⟨b,0,none⟩) n cap)) w:=by
          rcases hyr with ⟨_,_,hyv | ⟨p,c,hyv⟩⟩ | ⟨b',off',cap',hyv,_⟩
          ·rw[hyv] at hrunO;exact hrunO (QD (P:=P) (w:=w) (ty:=o.type) h3 h4 e2)
          ·rw[hyv] at hrunO;exact hrunO (Po (P:=P) (w:=w) (ty:=o.type) h3 h4 e2)
          ·rw[hyv] at hrunO;exact hrunO (Po (P:=P) (w:=w) (ty:=o.type) h3 h4 e2)
         refine Bz hr (hK _ _ ?_);rw[hdst];refine Rel.shift h hxr (b:=b) (by rw[e1];rfl) hfr rfl rfl rfl rfl (fun _ _=>rfl) (fun _=>rfl) (fun X g1 g2 => ?_);simp only[FR,L5] at g2 |-;exact Uf (.inr ⟨b,cap,rfl,e2,e3,e4,e5.mono fun c hc => .inl (g1 c hc),e6⟩) (fun he=>by subst he;exact fun c hc=>by cases hc;exact g2 rfl) h.lowY
        by_cases hroom:n+m<=cap
        ·obtain⟨w',hrun,g1,g2,g3,g4,g5,g6,g7⟩:=YZ (P:=P) (ty:=o.type) h3 h4 hroom (Y:=Y) (X:=fun b=>X0 b\/XS s a.tmps b) (.inr hXb) e5 e6 e3 hyr hyn hylen;have hr:=hrunO hrun;simp only[Fl,hr,EJ];refine hK _ _ ?_;rw[hdst];refine Rel.shift h hxr (b:=b) (by rw[e1];rfl) hfr g1 g2 g3 g4 g5 (fun _=>rfl) (fun X q1 q2 => ?_);exact Uf (.inr ⟨b,cap,rfl,hroom,by rw[AX,e3,hylen,D'],e4,g6.mono fun c hc => .inl (q1 c hc),g7⟩) (fun he=>by subst he;exact fun c hc=>by cases hc;exact q2 rfl) h.lowY
        ·obtain⟨v',w',hrun,hbel,hown⟩:=QB (P:=P) (ty:=o.type) h3 h4 h5 (.inr ⟨b,cap,rfl,by omega,e5.mem⟩) e3 hyr (by omega) hylen hnm;have hr:=hrunO hrun;simp only[Fl,hr,EJ];refine hK _ _ ?_;rw[hdst];exact PD (ks:=[nx]) h hbel (fun u hu => .inr (hfr u hu)) hown
       ·cases hev
      ·cases hev
     ·cases hev
    ·cases hev
   ·cases hk
  ·cases hk
 case sli x lo hi mx k =>
  simp only[Gr] at hk;split at hk
  ·rename_i t x' lo' hi' mx' hop;simp only[Ad] at hk;obtain⟨⟨⟨⟨h1,h2⟩,h3⟩,h4⟩,h5⟩:=hk;have hrunO:∀ {v:Value},(iU t (a.eval x') (lo'.map a.eval) (hi'.map a.eval) (mx'.map a.eval)).run P w = .ok v w->(execOp a.eval o).run P w = .ok (.value v) w:=by
    intro v hh;simp only[execOp,hop,AK,hh,Az,Bk]
   simp only[B4] at hev;split at hev
   ·rename_i hx;have hxr:=CB h h1 hx;generalize hxv:a.eval x'=xv at hxr hrunO;cases hxr;split at hev
    ·rename_i b1 b2 b3;split at hev
     ·rename_i c4;cases hev;have hb:=M5 (P:=P) (w:=w) (len:=0) (cap:=0) (m:=0) (h:=0) (l:=0) (Awv h h4 b1 rfl (Ap _)) (Aft h h3 h4 b2 c4 (fun _=>Ap _) (fun _=>Ap _)) (qY h h2 b3 (Ap _));have hr:=hrunO (M6 h5 hb);exact Bz hr (hK _ _ (h.put (AC hkd hro) .nil))
     ·cases hev
    ·cases hev
   ·rename_i n cs hx;have hxr:=CB h h1 hx;split at hev
    ·rename_i m hh l b1 b2 b3;split at hev
     ·rename_i hc;cases hev;obtain⟨c1,c2,c3,c4⟩:=hc;obtain⟨ad,cap,hv,hcap,hres,hnone⟩:=tP (k:=k) (m:=if mx.isSome then m else Afs (a.eval x')) hxr c1 (by omega);rw[hv] at hrunO hres;have hb:=M5 (P:=P) (w:=w) (len:=n) (cap:=cap) (m:=if mx.isSome then m else cap) (h:=hh) (l:=l) (A5u h h4 b1 (by omega)) (Aft h h3 h4 b2 c4 (fun hs=>by rw[if_pos hs];exact c2) (fun hs=>by rw[if_neg hs];omega)) (qY h h2 b3 c1);have hr:=hrunO (M6 h5 hb);refine Bz hr (hK _ _ (h.put (AC hkd hro) (hres ?_ (fun hn => ?_))))
      ·simp only[Afs];split
       ·exact c2
       ·omega
      ·have h0:=hnone hn;simp only[Afs];split
       ·omega
       ·exact h0
     ·cases hev
    ·cases hev
   ·cases hev
  ·cases hk
 case nlo k =>
  simp only[Gr] at hk;simp only[B4] at hev;cases hev;simp only[EL,Ad] at hro;obtain⟨d,hdst⟩:=A_.1 hro.2;have hr:(execOp a.eval o).run P w = .ok (.value (.slice none 0 0)) w:=by
   split at hk
   ·rename_i hop;simp[execOp,hop,No]
   ·rename_i hop;simp[execOp,hop,No]
   ·cases hk
  refine Bz hr (hK _ _ ?_);rw[hdst];exact Mb (ow:=true) (ks:=[]) h (fun u hu => .inr (AC hkd hro.1 d hdst u hu))
 case bdo y x ls =>
  simp only[Gr] at hk;split at hk
  ·rename_i t parts hop;obtain⟨a',x',hparts,h1,h2,hrun⟩:=tM hk;simp only[EL,Ad] at hro;obtain⟨d,hdst⟩:=A_.1 hro.2;simp only[B4] at hev;split at hev
   ·rename_i b hb;split at hev
    ·rename_i k n cs hr;split at hev
     case isFalse=>cases hev
     rename_i hls;cases hev;have hkd':∀ t∈oks++ls,E_ (A4 s t)=false:=SY hkd hls;have hbr:=CB h h1 hb;generalize hbv:a.eval a'=bv at hbr;cases hbr;have hx':=E1 (a:=a) h2;have h0:=h.reg x;rw[hr] at h0;have hcell:(a.tmps.getD x Br).cells=#[a.tmps.getD x Br]:=by
      rcases h0 with ⟨e,_⟩ | ⟨_,_,e,_⟩ <;> rw[e] <;> rfl
     have hpe:(parts.map fun p=>(p.1,a.eval p.2))=#[(0,.bool b),(1,a.tmps.getD x Br)]:=by
      apply tQ.1;rw[FD,hparts];simp[hbv,hx']
     refine Bz (v := .agg #[.bool b,a.tmps.getD x Br]) ?_ (hK _ _ ?_)
     ·simp only[execOp,hop,AK];rw[show (parts.map fun x:Nat × Operand=>match x with | (i,x)=>(i,a.eval x))=(parts.map fun p=>(p.1,a.eval p.2)) from rfl,hpe,hrun b _ hcell w]
      rfl
     ·rw[hdst];exact h.pass (by rw[hr];rfl) (FG (.st b) h0) (fun u hu=>AC hkd' hro.1 d hdst u hu) (fun X g1=>⟨_,rfl,Fp.mono h0 fun c hc => .inl (g1 c hc)⟩)
    ·cases hev
   ·cases hev
  ·cases hk
 case stl x v =>
  simp only[Gr] at hk;split at hk
  ·rename_i t x' v' hop;simp only[Ad] at hk;obtain⟨⟨h1,h2⟩,h3⟩:=hk;simp only[EL,Ad,Option.isNone_iff_eq_none,I5,decide_eq_true_eq] at hro;obtain⟨hdst,hroot⟩:=hro;simp only[B4] at hev;split at hev
   ·rename_i cs hr;split at hev
    ·rename_i bb k n ds hrv;split at hev
     ·rename_i hcs;cases hev;have hx':=E1 (a:=a) h1;have hv':=E1 (a:=a) h3;have h0:=h.reg x;rw[hr] at h0;obtain⟨b,e1,hB,hd,vs,T,e2,e3,_⟩:=h0;have h5:=h.reg v;rw[hrv] at h5;obtain⟨u,hu,h5⟩:=h5;have hcell:u.oneCell'=true:=by
       rcases h5 with ⟨e,_⟩ | ⟨_,_,e,_⟩ <;> rw[e] <;> rfl
      have hsz:=J' h2;have hrow:=run_storeCells_at (P:=P) b 0 T [.bool bb,u] 0 vs w e2 (by simp;omega) (by
       intro y hy;simp only[D4,TR,or_false] at hy;rcases hy with rfl | rfl
       ·rfl
       ·exact hcell)
      have hrun':(execOp a.eval o).run P w = .ok .skip (w.setRow b (vs.toList.take (0+0)++[.bool bb,u]++vs.toList.drop (0+0+[Ue bb,u].length)).toArray):=by
       have hcells:(Value.agg #[.bool bb,u]).cells=#[.bool bb,u]:=rfl;simp only[execOp,hop,WQ,hx',e1,hv',hu,aP,JT,AK,Bk,Az,storeVar,hsz,hcells];simp only[Ij,Bv,Ib,ne_eq,not_true_eq_false,if_false];rw[hrow];rfl
      simp only[Fl,hrun',EJ];rw[hdst] at hK |-;refine hK _ _ (Rel.store (w':=w.setRow b _) h hr rfl rfl (by rw[e1];rfl) hB rfl rfl rfl (JY _ _ _) (fun c hc=>H5 _ _ _ _ hc) (fun X hX => ?_));have hlt:b<w.heap.size:=(EP.1 e2).1;refine⟨hroot,b,e1,hB,by rw[JY];exact hlt,fun i hi => ?_⟩;rw[NI (setRow_heap w b vs _ T (0,0) e2),hu];match i,hi with
      | 0,_=>rfl
      | 1,_=>rfl
     ·cases hev
    ·cases hev
   ·cases hev
  ·cases hk
 case cln f xs ls =>
  simp only[Gr] at hk;split at hk
  ·rename_i f' args ts hop;simp only[Ad,beq_iff_eq] at hk;obtain⟨⟨rfl,h1⟩,h2⟩:=hk;simp only[B4] at hev;split at hev
   ·rename_i vs hx;split at hev
    case isFalse=>cases hev
    rename_i hls;have hkd':∀ t∈oks++ls,E_ (A4 s t)=false:=SY hkd hls;simp only[Aj] at hev;obtain⟨y,hy,he⟩:=hev;cases he;obtain⟨e1,e2⟩:=K7 h h1 hx;unfold Uc at h2;split at h2
    ·rename_i fn hfn;simp only[Ad,Ea] at h2;obtain⟨hbody,hname⟩:=h2;have hbn:¬ fn.body=none:=by intro e0;rw[e0] at hbody;cases hbody
     have hnm:¬ fn.name = "runtime.NumGoroutine" := by simpa using hname
     have hrun:(execOp a.eval o).run P w = .ok (.enter f' (args.map a.eval)) w:=by
      simp[execOp,hop,resolve,Ic,No,invoke,callFunc,program,Fq,hfn,hnm,hbn]
     have hcall:=hF.plain f' vs y hy Y (fun b=>X0 b\/XS s a.tmps b) w (args.map a.eval) h.lowX h.lowYw (by simpa using e1) (fun i g1 g2=>by
      have:=e2 i (by simpa using g1) g2;simpa using this)
     simp only[Fl,hrun,EJ];refine hcall.mono fun e w' ⟨v,he,hb,hr⟩ => ?_;subst he;refine hK _ _ ?_;simp only[EL,Ad] at hro;obtain⟨d,hdst⟩:=A_.1 hro.2;rw[hdst];cases y
     case fresh k n cs =>
      simp only[Ik] at hr;refine D7 (ks:=[]) h hb (fun u hu => .inr (AC hkd' hro.1 d hdst u hu)) (fun _ b hb=>(Fp.block hr hb).1) (fun X g1 _ => ?_);exact OF h.below.from_ hr g1
     case frs bb k n cs =>
      simp only[Ik] at hr;refine D7 (ks:=[]) h hb (fun u hu => .inr (AC hkd' hro.1 d hdst u hu)) (fun _ b hb=>(J8.block hr hb).1) (fun X g1 _ => ?_);obtain⟨u,rfl,hr⟩:=hr;rw[FG _ hr] at g1;refine⟨u,rfl,OF h.below.from_ ?_ g1⟩;rw[FG _ hr] at hr;exact hr
     all_goals
      refine D7 (ks:=[]) h hb (fun u hu => .inr (AC hkd' hro.1 d hdst u hu)) (fun he=>(by cases he)) (fun X _ g2 => ?_);exact Rd.mono hr fun b hb => .inl (g2 rfl b hb)
    ·cases h2
   ·cases hev
  ·cases hk
 case fdo x =>
  simp only[Gr] at hk;split at hk
  ·rename_i t x' hop;simp only[Ad] at hk;obtain⟨h1,h2⟩:=hk;simp only[EL,Ad] at hro;obtain⟨d,hdst⟩:=A_.1 hro.2;simp only[B4] at hev;split at hev
   ·rename_i b k n cs hr;cases hev;have hx':=E1 (a:=a) h1;have h0:=h.reg x;rw[hr] at h0;obtain⟨u,hu,h0⟩:=h0;refine Bz (v:=u) ?_ (hK _ _ ?_)
    ·simp only[execOp,hop,AK,hx',hu,aP,tN h2 b u w];rfl
    ·rw[hdst];exact h.pass (by rw[hr];rfl) (by rw[hu];exact (FG (.st b) h0).symm) (fun u hu=>AC hkd hro.1 d hdst u hu) (fun X g1=>Fp.mono h0 fun c hc => .inl (g1 c hc))
   ·cases hev
  ·cases hk
 case exo x =>
  simp only[Gr] at hk;split at hk
  ·rename_i x' hop;simp only[EL,Ad] at hro;obtain⟨d,hdst⟩:=A_.1 hro.2;simp only[B4] at hev;split at hev
   ·rename_i b k n cs hr;cases hev;have hx':=E1 (a:=a) hk;have h0:=h.reg x;rw[hr] at h0;obtain⟨u,hu,h0⟩:=h0;have hrd:∀ X,Rd Y X w u (.sl n []):=by
     intro X;rcases h0 with ⟨rfl,rfl,_⟩ | ⟨c,cap,rfl,hle,_⟩
     ·exact .nil0
     ·exact .sl c 0 n cap [] (fun _=>Br) (by intro y hy;cases hy) hle (fun hne=>absurd rfl hne) (fun ⟨y,hy,_⟩=>by cases hy) (fun i hi=>by simp at hi) (fun i hi=>by simp at hi)
    refine Bz (v:=u) ?_ (hK _ _ ?_)
    ·simp only[execOp,hop,Awb,hx',hu,aP,AK,Bk];rfl
    ·rw[hdst];have hp:=h.pass (r := .own k n cs) (v:=u) (by rw[hr];rfl) (by rw[hu];exact (FG (.tp b) h0).symm) (fun u hu=>AC hkd hro.1 d hdst u hu) (fun X g1=>Fp.mono h0 fun c hc => .inl (g1 c hc));by_cases hxd:x=d
     ·subst hxd;simp only[DL,BO,RD] at hp |-;exact hp
     ·simp only[DL,BO] at hp |-;have e1:((s.set x (.val (.tup [.sl n [],.bool b]))).set d (.own k n cs))=(((s.set x .dead).set d (.own k n cs)).set x (.val (.tup [.sl n [],.bool b]))):=by
       rw[jB (i:=x) (j:=d) _ _ hxd,jB (i:=x) (j:=d) _ _ hxd,RD]
      rw[e1];refine hp.wake ?_ ?_
      ·rw[Dx,if_neg (fun g=>hxd g.1.symm),Dx];split
       ·rfl
       ·rename_i g;simp only[true_and,Nat.not_lt] at g;simp only[A4,Z,AE g];rfl
      ·have e2:(a.put (some d) u).tmps.getD x Br = .tuple #[u,.bool b]:=by
        show (a.tmps.setIfInBounds d u).getD x Br=_;rw[LY,if_neg (fun g=>hxd g.1.symm)];exact hu
       rw[e2];refine Rd.tup #[u,.bool b] [.sl n [],.bool b] rfl fun i h1 h2 => ?_;match i,h2 with
       | 0,_=>exact hrd _
       | 1,_=>exact Rd.bool b
   ·cases hev
  ·cases hk
 case slo x hi k =>
  simp only[Gr] at hk;split at hk
  ·rename_i t x' hi' hop;simp only[Ad] at hk;obtain⟨⟨h1,h2⟩,h5⟩:=hk;simp only[EL,Ad] at hro;obtain⟨d,hdst⟩:=A_.1 hro.2;simp only[B4] at hev;split at hev
   ·rename_i ki iv hiv;split at hev
    ·rename_i k' n cs hr;split at hev
     ·rename_i hc;obtain⟨rfl,c1,c2⟩:=hc;cases hev;have hbr:=CB h h2 hiv;generalize hbv:a.eval hi'=bv at hbr;cases hbr;have hx':=E1 (a:=a) h1;have h0:=h.reg x;rw[hr] at h0;have hle:iv.toNat<=n:=by omega
      rcases h0 with ⟨e,rfl,rfl⟩ | ⟨b,cap,e,e2,e3,e4,e5,e6⟩
      ·have hb:=M5 (P:=P) (w:=w) (len:=0) (cap:=0) (m:=0) (h:=iv.toNat) (l:=0) (lo:=none) (hi:=some (.int ki iv)) (mx:=none) (.inl ⟨rfl,rfl⟩) (.inr ⟨ki,iv,rfl,c1,rfl,hle⟩) (.inl ⟨rfl,rfl⟩);have hz:iv.toNat=0:=by omega
       refine Bz (v := .slice none 0 0) ?_ (hK _ _ ?_)
       ·simp only[execOp,hop,AK,hx',e,WV,A3,hbv,M6 h5 hb,hz];rfl
       ·rw[hdst,hz];simpa using Mb (ow:=true) (ks:=[x]) h (fun u hu => .inr (AC hkd hro.1 d hdst u hu))
      ·have hb:=M5 (P:=P) (w:=w) (len:=n) (cap:=cap) (m:=cap) (h:=iv.toNat) (l:=0) (lo:=none) (hi:=some (.int ki iv)) (mx:=none) (.inl ⟨rfl,rfl⟩) (.inr ⟨ki,iv,rfl,c1,rfl,by omega⟩) (.inl ⟨rfl,rfl⟩);refine Bz (v := .slice (some ⟨b,0,none⟩) iv.toNat cap) ?_ (hK _ _ ?_)
       ·simp only[execOp,hop,AK,hx',e,WV,A3,hbv,M6 h5 hb,SX,JV,Hj,ite_self];rfl
       ·rw[hdst];refine h.pass (by rw[hr];rfl) (by rw[e];rfl) (fun u hu=>AC hkd hro.1 d hdst u hu) (fun X g1 => .inr ⟨b,cap,rfl,by omega,?_,e4,?_,e6⟩)
        ·rw[AB,e3,Nat.min_eq_left (AF _ hle)]
        ·obtain⟨q1,vs,T,q2,q3,q4⟩:=e5.mono (X':=X) fun c hc => .inl (g1 c hc);refine⟨fun y hy=>q1 y (C3 hy),vs,T,q2,?_,fun i hi => ?_⟩
         ·have:(cs.take (iv.toNat*k')).length<=cs.length:=by rw[AB];exact Nat.min_le_right _ _
          omega
         ·obtain⟨v,r1,r2⟩:=q4 i (by simp at hi;omega);exact⟨v,r1,by simpa using r2⟩
     ·cases hev
    ·cases hev
   ·cases hev
  ·cases hk
 case cao f k x xs =>
  simp only[Gr] at hk;split at hk
  ·rename_i f' args ts hop;simp only[Ad,beq_iff_eq] at hk;obtain⟨⟨rfl,h1⟩,h2⟩:=hk;simp only[EL,Ad] at hro;obtain⟨d,hdst⟩:=A_.1 hro.2;obtain⟨args⟩:=args;cases args with
   | nil=>cases h1
   | cons o1 rest =>
    simp only[HD,Ad] at h1;unfold Uc at h2;split at h2
    ·rename_i fn hfn;simp only[Ad,Ea] at h2;obtain⟨hbody,hname⟩:=h2;have hbn:¬ fn.body=none:=by intro e0;rw[e0] at hbody;cases hbody
     have hnm:¬ fn.name = "runtime.NumGoroutine" := by simpa using hname
     have hrun:(execOp a.eval o).run P w = .ok (.enter f' ((o1::rest).map a.eval).toArray) w:=by
      simp[execOp,hop,resolve,Ic,No,invoke,callFunc,program,Fq,hfn,hnm,hbn]
     simp only[B4] at hev;split at hev
     ·rename_i vs hx;obtain⟨e1,e2⟩:=K7 h h1.2 hx;split at hev
      ·rename_i m;split at hev
       case h_2=>cases hev
       rename_i k' n cs hxr';simp only[Aj] at hev;obtain⟨y,hy,he⟩:=hev;cases he;have ho:=E1 (a:=a) h1.1;have h0:=h.reg m;rw[hxr'] at h0;simp only[Fl,hrun,EJ];refine (U3 h hF hy (ks:=[m]) e1 e2 (by rw[ho];exact h0) (fun b hb=>⟨m,by simp,by rw[hxr'];rfl,by rw[<- ho];exact hb⟩) (fun u hu => .inr (AC hkd hro.1 d hdst u hu))).mono fun e w' ⟨v,he,hr⟩ => ?_;subst he;refine hK _ _ ?_;rw[hdst];exact hr
      ·simp only[Aj] at hev;obtain⟨y,hy,he⟩:=hev;cases he;have hv0:a.eval o1 = .slice none 0 0:=by
        have h0:=h1.1;cases o1 with
        | const v=>exact jP h0
        | tmp m=>cases h0
        | global g=>cases h0
        | func f=>cases h0
       simp only[Fl,hrun,EJ];refine (U3 h hF hy (ks:=[]) e1 e2 (by rw[hv0];exact .inl ⟨rfl,rfl,rfl⟩) (fun b hb=>by rw[hv0] at hb;cases hb) (fun u hu => .inr (AC hkd hro.1 d hdst u hu))).mono fun e w' ⟨v,he,hr⟩ => ?_;subst he;refine hK _ _ ?_;rw[hdst];exact hr
      ·cases hev
     ·cases hev
    ·cases h2
  ·cases hk
 case ixo x d i k =>
  simp only[Gr] at hk;split at hk
  ·rename_i t x' i' hop;simp only[Ad] at hk;obtain⟨⟨h1,h2⟩,hk⟩:=hk;obtain⟨e,ii,zv,hu,hii,hs,hk0,_,_,_⟩:=E9 hk;have hsz:(sizeOf e).run P w = .ok k w:=by simp[sizeOf,typeInfo,program,Fq,hii,hs]
   simp only[EL,Ad] at hro;simp only[B4] at hev;split at hev
   ·rename_i ki iv hi;have hir:=CB h h2 hi;generalize hiv:a.eval i'=ivv at hir;cases hir;have hx':=E1 (a:=a) h1;have h0:=h.reg x;split at hev
    ·rename_i n cs hr;rw[hr] at h0;split at hev
     ·rename_i hb;cases hev;rw[<- hx'] at h0;generalize hxv:a.eval x'=xv at h0;cases h0 with
      | nil0=>exact absurd hb (by omega)
      | e0 _ _=>exact absurd hb (by omega)
      | sl b off _ cap _ f hd hn hX hY hcell hrr =>
       have hmem:Gq Y (fun b=>X0 b\/XS s a.tmps b) w b off cs:=⟨hd,fun j hj=>⟨f j,hcell j hj,hrr j hj⟩⟩;refine Bz (v := .pointer (some ⟨b,off+iv.toNat*k,none⟩)) ?_ (hK _ _ ?_)
       ·simp only[execOp,hop,WR,AK,hiv,asIntOf,Bk,Az,run_underlying hu,hxv,hb,and_self,if_true,hsz,Hj]
       ·refine NA h (AC hkd hro.1) (fun hne=>hX (fun hn=>hne (by rw[hn];simp))) (hmem.drop _)
     ·cases hev
    ·rename_i d' hr;split at hev
     ·rename_i hd;subst hd;split at hev
      ·rename_i k' n cs hr2;split at hev
       ·rename_i hb;obtain⟨rfl,hb⟩:=hb;cases hev;rw[hr] at h0;obtain⟨b,cap,e1,_⟩:=(h.ownLow hr2).resolve_left (fun hh=>by omega);have hxv:a.eval x' = .slice (some ⟨b,0,none⟩) n cap:=by rw[hx',h0.2,e1]
        refine Bz (v := .pointer (some ⟨b,0+iv.toNat*k',none⟩)) ?_ (hK _ _ ?_)
        ·simp only[execOp,hop,WR,AK,hiv,asIntOf,Bk,Az,run_underlying hu,hxv,hb,and_self,if_true,hsz,Hj]
        ·exact NB (p:=⟨b,0,none⟩) h (AC hkd hro.1) (KY hro.2) (by rw[e1];rfl) rfl
       ·cases hev
      ·cases hev
     ·cases hev
    ·cases hev
   ·cases hev
  ·cases hk
 case lno x d =>
  simp only[Gr] at hk;split at hk
  ·rename_i args ts hop;unfold YW at hk;split at hk
   ·rename_i x' t hargs hts;simp only[Ad] at hk;obtain⟨h1,h2⟩:=hk;have e1:args=#[x']:=by rw[<- Fx (xs:=args),hargs]
    have e2:ts=#[t]:=by rw[<- Fx (xs:=ts),hts]
    subst e1 e2;split at h2
    ·rename_i e hu;simp only[B4] at hev;have fin:∀ (base:Option Addr) (n c:Nat),a.eval x' = .slice base n c->(∀ a' w',Rel Y X0 roots w0 (DL s o.dst (.val (.int .i64 n))) a' w'->K' a' w')->o.wp P a w K' Q:=by
      intro base n c he hK';refine Bz (v := .int .i64 n) ?_ (hK' _ _ (h.put (AC hkd hro) (.int _ _)));simp[execOp,hop,resolve,invoke,builtin,Afu,he,run_underlying hu,goInt]
     have hx':=E1 (a:=a) h1;have h0:=h.reg x;split at hev
     ·rename_i hr;cases hev;rw[hr,<- hx'] at h0;generalize hxv:a.eval x'=xv at h0;cases h0;exact fin _ _ _ hxv hK
     ·rename_i n cs hr;cases hev;rw[hr,<- hx'] at h0;generalize hxv:a.eval x'=xv at h0;cases h0 <;> exact fin _ _ _ hxv hK
     ·rename_i d' hr;split at hev
      ·rename_i hd;subst hd;split at hev
       ·rename_i k n cs hr2;cases hev;rw[hr] at h0;rcases h.ownLow hr2 with ⟨e1,rfl,_⟩ | ⟨b,cap,e1,_⟩
        ·exact fin _ _ _ (by rw[hx',h0.2,e1]) hK
        ·exact fin _ _ _ (by rw[hx',h0.2,e1]) hK
       ·cases hev
      ·cases hev
     ·cases hev
    ·cases h2
   ·cases hk
  ·cases hk
end
def U4(ops:Array Oper):Option (Nat × Bool)->Option (Nat × Bool)->Bool
 | none,none=>true
 | some (j,b),some (t,b')=>(ops[j]?).bind (·.dst)==some t&&b==b'
 | _,_=>false
def rA(roots:List (Nat × Nat))(io:IOp):Bool:=io.g.isNone || F_ roots io.ks io.dst
def oOk(P:Program)(roots:List (Nat × Nat))(ops:Array Oper)(o:Oper)(io:IOp):Bool :=
 Gr P o.op io.k&&o.dst==io.dst&&EL roots io.ks io.dst io.k&&U4 ops o.guard io.g&&rA roots io
section
variable {P:Program} {Y X0:Nat->Prop} {roots:List (Nat × Nat)} {w0:Base} {w:World} {s:Al} {a:Act} {Q:Exit->Act->World->Prop}
theorem XH(h:Rel Y X0 roots w0 s a w){ops:Array Oper}{o:Oper}{g:Option (Nat × Bool)}{b:Bool}(hg:U4 ops o.guard g=true)(hw:GM s g=some b):U5 o (yielded ops a.tmps)=b:=by
 unfold U4 at hg;split at hg
 ·rename_i h1;simp only[GM,A1] at hw;subst hw;simp[U5,h1]
 ·rename_i j b1 t b2 h1;simp only[Ad,beq_iff_eq] at hg;obtain⟨h2,rfl⟩:=hg;have h0:=h.reg t;simp only[GM] at hw;simp only[U5,h1,yielded,h2,Option.bind_some];have hlt:∀ v,a.tmps.getD t Br=v->v ≠ Br->a.tmps[t]? = some v:=by
   intro v hv hne;rw[Ct] at hv;cases hh:a.tmps[t]? with
   | none=>rw[hh] at hv;exact absurd hv.symm hne
   | some u=>rw[hh] at hv;simp at hv;rw[hv]
  cases hr:A4 s t with
  | val x =>
   rw[hr] at hw h0;generalize hv:a.tmps.getD t Br=v at h0;cases h0 with
   | bool c =>
    dsimp only at hw;rw[hlt _ hv (by nofun)];simp only[A1] at hw;rw[<- hw];cases c <;> cases b1 <;> rfl
   | undef =>
    dsimp only at hw;simp only[A1] at hw;rw[<- hw];rw[Ct] at hv;cases hh:a.tmps[t]? with
    | none=>simp
    | some u=>rw[hh] at hv;simp at hv;rw[hv];simp[Br]
   | int _ _=>cases hw
   | str _=>cases hw
   | agg _ _ _ _ _=>cases hw
   | tup _ _ _ _=>cases hw
   | nil=>cases hw
   | nil0=>cases hw
   | e0 _ _=>cases hw
   | sl _ _ _ _ _ _ _ _ _ _ _=>cases hw
   | pt _ _ _ _ _ _ _ _=>cases hw
   | fnc _ _ _ _=>cases hw
  | box _=>rw[hr] at hw;cases hw
  | ptr _ _=>rw[hr] at hw;cases hw
  | mem _=>rw[hr] at hw;cases hw
  | own _ _ _=>rw[hr] at hw;cases hw
  | agn _ _ _ _=>rw[hr] at hw;cases hw
  | bxl _=>rw[hr] at hw;cases hw
  | dup _=>rw[hr] at hw;cases hw
  | sub _ _ _ _=>rw[hr] at hw;cases hw
  | dead=>rw[hr] at hw;cases hw
 ·cases hg
theorem Afv{ops:Array Oper}{i:Nat}{o:Oper}{io:IOp}{F:B7}{s':Al}{K':Act->World->Prop}(h:Rel Y X0 roots w0 s a w)(hF:Ja P F)(hi:ops[i]? = some o)(ho:oOk P roots ops o io=true)
  (hev:FX F io s=some s') (hK:∀ a' w',Rel Y X0 roots w0 s' a' w'->K' a' w'):wpOp P ops Q i K' a w:=by
 simp only[oOk,Ad,beq_iff_eq] at ho;obtain⟨⟨⟨⟨h1,h2⟩,h3⟩,h4⟩,h5⟩:=ho;simp only[FX,Ih] at hev;have hkd:∀ t∈io.ks,E_ (A4 (kill s io.ks) t)=false:=fun t ht=>by rw[FF,if_pos ht];rfl
 have h:=h.kill io.ks;generalize kill s io.ks=s at *
 simp only[wpOp,hi];split at hev
 ·cases hev
 ·rename_i hw;cases hev;rw[XH h h4 hw];simp only[Cf,if_false];rw[h2];refine hK _ _ (h.put ?_ .undef);simp only[rA,aE] at h5;rcases h5 with h5 | h5
  ·cases hg:io.g with
   | none=>rw[hg] at hw;cases hw
   | some p=>rw[hg] at h5;cases h5
  ·exact AC hkd h5
 ·rename_i hw;rw[XH h h4 hw];simp only[if_true];split at hev
  ·cases hev
  ·rename_i r l hk;cases hev;rw[<- h2] at hK h3;exact .inl (simK h hF h1 hkd h3 hk hK)
def M8(P:Program)(roots:List (Nat × Nat))(ops:Array Oper):List Oper->List IOp->Bool
 | [],[]=>true
 | o::l,io::m=>oOk P roots ops o io&&M8 P roots ops l m
 | _,_=>false
theorem PE{ops:Array Oper}:∀ {l:List Oper} {m:List IOp},M8 P roots ops l m=true->l.length=m.length/\∀ (i:Nat) (o:Oper) (io:IOp),l[i]? = some o->m[i]? = some io->oOk P roots ops o io=true
 | [],[],_=>⟨rfl,fun i o io h=>(by simp at h)⟩
 | o::l,io::m,h=>by
  simp only[M8,Ad] at h;obtain⟨e1,e2⟩:=PE h.2;refine⟨by simp[e1],fun i o' io' h1 h2 => ?_⟩;cases i with
  | zero=>simp at h1 h2;subst h1 h2;exact h.1
  | succ i=>simp at h1 h2;exact e2 i o' io' h1 h2
 | [],_::_,h=>by cases h
 | _::_,[],h=>by cases h
theorem rB{ops:Array Oper}{F:B7}(hF:Ja P F):∀ {l:List Oper} {m:List IOp} {k:Nat} {s s':Al} {a:Act} {w:World},(∀ j,l[j]? = ops[k+j]?)->M8 P roots ops l m=true->Rel Y X0 roots w0 s a w ->
  Ej F m s=some s'->(∀ a' w',Rel Y X0 roots w0 s' a' w'->Q .normal a' w')->wpOps P ops Q (List.range' k l.length) a w
 | [],[],k,s,s',a,w,_,_,h,hev,hQ=>by
  simp only[Ej,A1] at hev;subst hev;exact hQ _ _ h
 | o::l,io::m,k,s,s',a,w,hl,hok,h,hev,hQ=>by
  simp only[M8,Ad] at hok;simp only[Ej] at hev;cases h1:FX F io s with
  | none=>rw[h1] at hev;cases hev
  | some s1 =>
   rw[h1] at hev;have hi:ops[k]? = some o:=by simpa using (hl 0).symm
   rw[Bv,List.range'_succ,wpOps_cons];exact Afv h hF hi hok.1 h1 fun a' w' h'=>rB hF (fun j=>by have:=hl (j+1);simpa [Dw,JW 1 j] using this) hok.2 h' hev hQ
 | [],_::_,_,_,_,_,_,_,hok,_,_,_=>by cases hok
 | _::_,[],_,_,_,_,_,_,hok,_,_,_=>by cases hok
def Hv(o:Oper):List Nat:=(o.after.toList.filter (Region.binds .any)).map (·.on)
def NK:List Oper->List (List Nat)->List (List Nat)
 | [],acc=>acc
 | o::l,acc=>NK l (acc++[((Hv o)++(Hv o).flatMap fun p=>acc.getD p []).eraseDups])
theorem aY:∀ (l done:List Oper) (acc:List (List Nat)),acc.length=done.length ->
  (∀ (i j:Nat),j∈acc.getD i []->∃ o,done[i]? = some o/\∃ p∈Hv o,j=p\/(p<i/\j∈acc.getD p [])) ->
  ∀ (i j:Nat),j∈(NK l acc).getD i []->∃ o,(done++l)[i]? = some o/\∃ p∈Hv o,j=p\/(p<i/\j∈(NK l acc).getD p []):=by
 intro l;induction l with
 | nil=>intro done acc _ h i j hj;simpa [NK] using h i j hj
 | cons o l ih =>
  intro done acc hlen h i j hj;simp only[NK] at hj |-;have:=ih (done++[o]) (acc++[((Hv o)++(Hv o).flatMap fun p=>acc.getD p []).eraseDups]) (by simp[hlen]) (fun i j hj => ?_) i j hj
  ·simpa using this
  ·have lt_of:∀ (q x:Nat),x∈acc.getD q []->q<acc.length:=by
    intro q x hx;rcases Cp q acc.length with h1 | h1
    ·exact h1
    ·rw[Z,AE h1] at hx;cases hx
   have keep:∀ (q x:Nat),x∈acc.getD q []->x∈(acc++[((Hv o)++(Hv o).flatMap fun p=>acc.getD p []).eraseDups]).getD q []:=by
    intro q x hx;rw[Z,AN (lt_of q x hx),<- Z];exact hx
   rcases Cp i acc.length with h1 | h1
   ·rw[Z,AN h1,<- Z] at hj;obtain⟨o',e1,p,hp,e2⟩:=h i j hj;refine⟨o',by rw[AN (by omega)];exact e1,p,hp,?_⟩;rcases e2 with e2 | ⟨e2,e3⟩
    ·exact .inl e2
    ·exact .inr ⟨e2,keep p j e3⟩
   ·have hi:i=acc.length:=by
     rcases Cp acc.length i with h2 | h2
     ·rw[Z,AE (by simp;omega)] at hj;cases hj
     ·omega
    subst hi;rw[Z,AT (Ap _)] at hj;simp only[LV,Awo,GE,List.mem_eraseDups,BV,List.mem_flatMap] at hj;refine⟨o,by rw[hlen,AT (Ap _)];simp,?_⟩;rcases hj with hj | ⟨p,hp,hj⟩
    ·exact⟨j,hj,.inl rfl⟩
    ·exact⟨p,hp,.inr ⟨lt_of p j hj,keep p j hj⟩⟩
def aZ(anc:List (List Nat))(io:List IOp):Bool :=
 io.zipIdx.all fun (b,i)=>(io.take i).zipIdx.all fun (a,j)=>PC a b || (anc.getD i []).contains j
def rC(ops:List Oper):Bool:=ops.zipIdx.all fun (o,i)=>(Hv o).all fun p=>decide (p<i)
def QF(ops:Array Oper)(io:List IOp):Bool:=rC ops.toList&&aZ (NK ops.toList []) io
theorem Za{ops:Array Oper}{io:List IOp}(h:QF ops io=true) :
  (∀ (i:Nat) (o:Oper),ops[i]? = some o->∀ p∈Hv o,p<i) /\
  ∀ (i j:Nat) (a b:IOp),j<i->io[j]? = some a->io[i]? = some b->PC a b=true\/j∈(NK ops.toList []).getD i []:=by
 simp only[QF,Ad] at h;constructor
 ·intro i o ho p hp;have h1:=h.1;simp only[rC,BA,Prod.forall] at h1;have:=h1 o i (by rw[JA];simpa using ho) p hp;simpa using this
 ·intro i j x b hji hj hi;have h1:=h.2;simp only[aZ,BA,Prod.forall] at h1;have h2:=h1 b i (by rw[JA];simpa using hi);have:=h2 x j (by rw[JA,B1 hji];simpa using hj);simpa using this
end
section
variable {P:Program} {Y X0:Nat->Prop} {roots:List (Nat × Nat)} {w0:Base} {Q:Exit->Act->World->Prop}
def Fu(n:Nat)(listed:Array Bool):List Nat:=(Aq n).filter fun i => !listed.getD i true
theorem Jo{n i:Nat}{listed:Array Bool}:i∈Fu n listed↔i<n/\listed.getD i true=false:=by
 simp[Fu]
theorem PF(listed:Array Bool)(i j:Nat)(d:Bool):(listed.setIfInBounds i true).getD j d=if i=j/\i<listed.size then true else listed.getD j d:=by
 simp only[Ct,PA];by_cases h:i=j
 ·subst h;by_cases h2:i<listed.size <;> simp[h2]
 ·simp[h]
theorem WW{l:List Nat}(hs:l.Pairwise (·<·)){i:Nat}(hi:i∈l):∃ pre post,l=pre++i::post/\(∀ j∈pre,j<i)/\l.filter (fun j=>decide (j ≠ i))=pre++post:=by
 induction l with
 | nil=>cases hi
 | cons k l ih =>
  rw[rD] at hs;by_cases hk:k=i
  ·subst hk;refine⟨[],l,rfl,fun j hj=>(by cases hj),?_⟩;simp only[Ia];rw[List.filter_cons_of_neg (by simp)];refine jQ.2 fun j hj => ?_;have:=hs.1 j hj;simp;omega
  ·have hi':i∈l:=by
    cases hi with
    | head=>exact absurd rfl hk
    | tail _ h=>exact h
   obtain⟨pre,post,e1,e2,e3⟩:=ih hs.2 hi';refine⟨k::pre,post,by rw[e1];rfl,fun j hj => ?_,?_⟩
   ·cases hj with
    | head=>exact hs.1 i hi'
    | tail _ h=>exact e2 j h
   ·rw[List.filter_cons_of_pos (by simp[hk]),e3];rfl
theorem NL(n:Nat)(listed:Array Bool):(Fu n listed).Pairwise (·<·):=A7a _ List.pairwise_lt_range
theorem S'{n i:Nat}{listed:Array Bool}(hi:i<listed.size):Fu n (listed.setIfInBounds i true)=(Fu n listed).filter fun j=>decide (j ≠ i):=by
 unfold Fu;rw[List.filter_filter];apply List.filter_congr;intro j _;rw[PF];by_cases h:i=j
 ·subst h;simp[hi]
 ·have h':¬ j=i:=fun e=>h e.symm;simp[h,h']
def QG(io:List IOp)(i:Nat):IOp:=io.getD i ⟨none,.mov (.c .undef),none,[]⟩
def rE(ops:Array Oper)(listed:Array Bool):Prop:=∀ (i:Nat) (o:Oper),ops[i]? = some o->listed.getD i false=true->∀ p∈Hv o,listed.getD p false=true
theorem bA{ops:Array Oper}{listed:Array Bool}(hc:rE ops listed):∀ (i:Nat) (o:Oper),ops[i]? = some o->(∀ p∈Hv o,listed.getD p false=true)->∀ j∈(NK ops.toList []).getD i [],listed.getD j false=true:=by
 intro i;induction i using TN with
 | _ i ih =>
  intro o ho hp j hj;obtain⟨o',e1,p,hpp,e2⟩:=aY ops.toList [] [] rfl (fun i j h=>(by simp at h)) i j hj;simp only[Ia,Awm] at e1;rw[ho] at e1;cases e1;rcases e2 with rfl | ⟨hlt,e3⟩
  ·exact hp _ hpp
  ·have hl:=hp p hpp;have hps:p<ops.size:=by
    have:=(EP.1 ho).1;omega
   exact ih p hlt ops[p] (by simp[hps]) (hc p ops[p] (by simp[hps]) hl) j e3
theorem Aww{ops:Array Oper}{io:List IOp}{F:B7}{sf:Al}(hF:Ja P F)(hok:M8 P roots ops ops.toList io=true)(hdr:QF ops io=true)(hQ:∀ a' w',Rel Y X0 roots w0 sf a' w'->Q .normal a' w') :
  ∀ (fuel:Nat) (listed:Array Bool) (s:Al) (a:Act) (w:World),listed.size=ops.size->rE ops listed->(Fu ops.size listed).length<=fuel->Rel Y X0 roots w0 s a w ->
   Ej F ((Fu ops.size listed).map (QG io)) s=some sf->wpAny P .any ops Q fuel listed a w:=by
 obtain⟨hback,hpairs⟩:=Za hdr;obtain⟨hlen,hget⟩:=PE hok;have hlen':io.length=ops.size:=by simpa using hlen.symm
 have stop:∀ (listed:Array Bool),listed.size=ops.size->Pq .any ops listed=[]->Fu ops.size listed=[]:=by
  intro listed hsz hr;cases hop:Fu ops.size listed with
  | nil=>rfl
  | cons i rest =>
   exfalso;have hi:=Jo.1 (hop ▸ By:i∈Fu ops.size listed);have hs:=NL ops.size listed;rw[hop,rD] at hs;have hready:i∈Pq .any ops listed:=by
    rw[mem_ready];refine⟨hi.2,ops[i],by simp[hi.1],fun e he hb => ?_⟩;have hp:e.on∈Hv ops[i]:=by
     simp only[Hv,Em,IE];exact⟨e,⟨by simpa using he,hb⟩,rfl⟩
    have hlt:=hback i ops[i] (by simp[hi.1]) e.on hp;cases hh:listed.getD e.on true with
    | false =>
     have:e.on∈Fu ops.size listed:=Jo.2 ⟨by omega,hh⟩;rw[hop] at this;cases this with
     | head=>omega
     | tail _ h=>have:=hs.1 _ h;omega
    | true =>
     have hsz':e.on<listed.size:=by omega
     simp only[Ct,Dm hsz',GE] at hh |-;exact hh
   rw[hr] at hready;cases hready
 intro fuel;induction fuel with
 | zero =>
  intro listed s a w hsz hc hl h hev;have h0:Fu ops.size listed=[]:=A9 (by omega);rw[h0] at hev;simp only[GC,Ej,A1] at hev;subst hev;refine⟨?_,hQ _ _ h⟩;cases hr:Pq .any ops listed with
  | nil=>rfl
  | cons i rest =>
   have hi:i∈Pq .any ops listed:=by rw[hr];exact By
   rw[mem_ready] at hi;obtain⟨h1,o,h2,_⟩:=hi;have:i∈Fu ops.size listed:=Jo.2 ⟨(EP.1 h2).1,h1⟩;rw[h0] at this;cases this
 | succ fuel ih =>
  intro listed s a w hsz hc hl h hev;refine⟨fun hr => ?_,fun i hi => ?_⟩
  ·rw[stop listed hsz hr] at hev;simp only[GC,Ej,A1] at hev;subst hev;exact hQ _ _ h
  ·rw[mem_ready] at hi;obtain⟨h1,o,h2,h3⟩:=hi;have hin:i<ops.size:=(EP.1 h2).1;have hmem:i∈Fu ops.size listed:=Jo.2 ⟨hin,h1⟩;obtain⟨pre,post,e1,e2,e3⟩:=WW (NL _ _) hmem;have hpr:∀ p∈Hv o,listed.getD p false=true:=by
    intro p hp;simp only[Hv,Em,IE] at hp;obtain⟨e,⟨he,hb⟩,rfl⟩:=hp;exact h3 e (by simpa using he) hb
   have hioi:io[i]? = some (QG io i):=by
    simp only[QG,Z,Af (hlen' ▸ hin),GE]
   have hind:∀ q∈pre.map (QG io),PC q (QG io i)=true:=by
    intro q hq;rw[Em] at hq;obtain⟨j,hj,rfl⟩:=hq;have hjlt:=e2 j hj;have hjop:j∈Fu ops.size listed:=by rw[e1];exact HA _ hj
    have hj2:=Jo.1 hjop;have hioj:io[j]? = some (QG io j):=by
     simp only[QG,Z,Af (hlen' ▸ hj2.1),GE]
    rcases hpairs i j _ _ hjlt hioj hioi with hh | hh
    ·exact hh
    ·have hlj:=bA hc i o h2 hpr j hh;have hsz':j<listed.size:=by omega
     simp only[Ct,Dm hsz',GE] at hlj hj2;rw[hlj] at hj2;cases hj2.2
   rw[e1,D_,C2] at hev;obtain⟨s1,hs1,hs2⟩:=YU hind hev;rw[<- D_,<- e3,<- S' (by omega)] at hs2;refine Afv h hF h2 (hget i o _ (by simpa using h2) hioi) hs1 fun a' w' h' => ?_;refine ih (listed.setIfInBounds i true) s1 a' w' (by simpa using hsz) ?_ ?_ h' hs2
   ·intro k ok hk hkl p hp;rw[PF] at hkl;rw[PF];split
    ·rfl
    ·split at hkl
     ·rename_i hik;obtain⟨rfl,_⟩:=hik;rw[h2] at hk;cases hk;exact hpr p hp
     ·exact hc k ok hk hkl p hp
   ·rw[S' (by omega),e3];rw[e1] at hl;simp at hl |-;omega
theorem tR{ops:Array Oper}{io:List IOp}{F:B7}{s sf:Al}{a:Act}{w:World}{id:Nat}(hm:P.follows .mixedOrders=true)(hF:Ja P F)(hok:M8 P roots ops ops.toList io=true)(hdr:QF ops io=true)
  (h:Rel Y X0 roots w0 s a w) (hev:Ej F io s=some sf) (hQ:∀ a' w',Rel Y X0 roots w0 sf a' w'->Q .normal a' w'):(A5v id ops true).wp P Q a w:=by
 have hlen:=(PE hok).1;refine wp_region_any hm ?_;have hall:Fu ops.size (H_ ops.size false)=Aq ops.size:=by
  unfold Fu;refine jQ.2 fun i hi => ?_;have:i<ops.size:=by simpa using hi
  simp[Ct,this]
 refine Aww hF hok hdr hQ ops.size _ s a _ (by simp) ?_ (by rw[hall];simp) ⟨h.dfr,h.size,⟨h.below.os,h.below.tape,h.below.output,h.below.size,h.below.block⟩,h.low,h.lowY,fun t=>HJ.world (h.reg t) ⟨rfl,rfl,rfl,Ap _,fun _ _=>rfl⟩,h.inj⟩ ?_
 ·intro i o ho hl;have hi:=(EP.1 ho).1;simp[Ct,hi] at hl
 ·rw[hall];have:(Aq ops.size).map (QG io)=io:=by
   apply Gg;intro i;have hl':io.length=ops.size:=by simpa using hlen.symm
   by_cases hi:i<ops.size
   ·simp[hi,QG,Z,Af (hl' ▸ hi)]
   ·rw[AE (by simp;omega),AE (by omega)]
  rw[this];exact hev
theorem tS{ops:Array Oper}{io:List IOp}{F:B7}{s sf:Al}{a:Act}{w:World}{id:Nat}(hF:Ja P F)(hok:M8 P roots ops ops.toList io=true)
  (h:Rel Y X0 roots w0 s a w) (hev:Ej F io s=some sf) (hQ:∀ a' w',Rel Y X0 roots w0 sf a' w'->Q .normal a' w'):(A5v id ops false).wp P Q a w:=by
 refine wp_region ?_;have:=rB (Q:=Q) hF (k:=0) (fun j=>by simp) hok h hev hQ;rw[List.range_eq_range'];simpa using this
end
end Go.Ai
