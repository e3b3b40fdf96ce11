/- Texts of the proof of RootOrder: part 3 of 13. -/
import Derived.ArgAppend
import Derived.Laws.MakeOwn
import Derived.Laws.Slices
import Derived.Laws.Cover3
import Derived.Test.YtajompaehjkgkaaGreatRod2
namespace Go.Ai
open Go.RowKit
open And renaming left->Ahh
open _root_.Array renaming all_eq_true_iff_forall_mem->lD,getD_eq_getD_getElem?->CS,getElem?_eq_getElem->DZ,getElem?_eq_some_iff->EK,getElem?_setIfInBounds->Qf,getElem?_toList->Azb,getElem_map->tK,getElem_range->kY,length_toList->CQ,mapM_eq_mapM_toList->Sg,range->H4,replicate->P7,toArray_toList->Fs,toList_inj->vV,toList_map->FE
open Bool renaming and_eq_true->Af,false_eq_true->Cj,not_eq_true'->Ey,or_eq_true->HL
open Go renaming undef->B5
open Go.Act renaming eval->Qk
open Go.Builtin renaming append_->CE,firstCells->cD,lenOf->K4,len_->Aie
open Go.Code renaming region->A8b
open Go.Deferred renaming ofValue->Li
open Go.Instr renaming build->UG,buildSlice->LR,extract->Ayr,field->vM,fill->KI,indexAt->Xx,sliceAt->kW,sliceBounds->QZ,storeAt->Xw,sureAddr->Ki
open Go.Oper renaming upon->FD,wp->FT
open Go.Program renaming cellsOf->Kh
open Go.Region renaming ready->PK,wanted->UT
open Go.Result renaming andThen_ok->A1
open Go.RowKit.Below renaming heap_alloc->X2,refl->HF
open Go.Sem renaming run->F4,run_bind->AL,run_map->A8y,run_pure->Bj
open Go.Value renaming bool->Uz
open Go.World renaming cell?->UF
open Int renaming le_refl->C',mul_le_mul_of_nonneg_right->Ae
open List renaming all_eq_true->BY,append_assoc->N6,append_nil->PC,contains_eq_mem->IG,drop->A9v,eq_nil_of_length_eq_zero->A7,ext_getElem?->Ge,filter_eq_self->lT,getD_eq_getElem?_getD->Z,getElem?_append_left->AN,getElem?_append_right->AT,getElem?_cons_succ->Azc,getElem?_cons_zero->Azd,getElem?_eq_getElem->Ah,getElem?_eq_none->AD,getElem?_eq_some_iff->H7,getElem?_take_of_lt->B9,getElem?_toArray->Sf,getElem_append_left->PE,getElem_append_right->OX,getElem_cons_zero->FM,getElem_mem->CY,getElem_of_mem->A8x,getElem_toArray->Zy,length_append->Bf,length_cons->Bz,length_drop->Es,length_nil->JQ,length_take->AB,mapM_cons->LN,map_append->Ep,map_cons->C8,map_nil->FU,mem_append->Cc,mem_append_left->HQ,mem_cons->D4,mem_cons_of_mem->Bh,mem_cons_self->B4,mem_filter->IQ,mem_map->Ec,mem_of_mem_drop->EV,mem_of_mem_take->C5,mem_zipIdx_iff_getElem?->JR,nil_append->JN,not_mem_nil->Uo,pairwise_cons->tP,range->Aq,set_comm->lE,set_set->Sb,size_toArray->Ix,take->BD,take_append_drop->XZ,take_zero->Un
open List.Pairwise renaming filter->A9d
open Nat renaming add_assoc->DE,add_comm->GF,add_mul->DY,add_zero->FP,eq_zero_or_pos->FJ,le_refl->Ap,le_trans->Bx,lt_irrefl->A5c,lt_of_lt_of_le->EW,lt_or_ge->Cn,mod_eq_of_lt->F1,mul_le_mul->B2,mul_le_mul_right->AE,strongRecOn->Ul,sub_self->P8,sub_zero->Kk,succ_mul->Ll,zero_add->Cs,zero_le->By,zero_mul->Tx
open Option renaming getD_some->GJ,isSome_iff_exists->Bi,map_eq_some_iff->Ak,map_none->X3,map_some->A9
open Option.some renaming injEq->A3
section
variable {P:Program} {Y X:Nat->Prop} {w:World}
theorem E6{t:TypeId}{k:Nat}(h:FQ P t k=true):∃ e i zv,P.underlying t=some (.slice e)/\P.info? e=some i/\i.size=k/\0<k/\i.bytes<=1048576/\i.zero=some zv/\zv.cells.size=k:=by
 unfold FQ at h;split at h
 ·rename_i e hu;split at h
  ·rename_i i hi;simp only[Af,beq_iff_eq,decide_eq_true_eq] at h;obtain⟨⟨⟨h1,h2⟩,h3⟩,h4⟩:=h;split at h4
   ·rename_i zv hz;simp only[beq_iff_eq] at h4;exact⟨e,i,zv,hu,hi,h1,by omega,h3,hz,by omega⟩
   ·cases h4
  ·cases h
 ·cases h
theorem FZ{t:TypeId}(h:Hu P t=true):∃ e,P.underlying t=some (.slice e):=by
 unfold Hu at h;split at h
 ·rename_i e hu;exact⟨e,hu⟩
 ·cases h
theorem LQ(z:List AV)(n:Nat):(Cz z n).length=n*z.length:=by
 induction n with
 | zero=>simp[Cz]
 | succ n ih=>simp only[Cz,Bf,ih,Ll];omega
theorem lQ(z:List AV)(n:Nat):∀ i,i<n*z.length->(Cz z n)[i]? = z[i % z.length]? := by
 induction n with
 | zero=>intro i h;omega
 | succ n ih =>
  intro i h;rw[Ll] at h;simp only[Cz];by_cases hi:i<z.length
  ·rw[AN hi,F1 hi]
  ·rw[AT (by omega),ih _ (by omega)];congr 1;exact (Nat.mod_eq_sub_mod (by omega)).symm
theorem lR(z:List AV)(n:Nat):∀ x∈Cz z n,x∈z:=by
 induction n with
 | zero=>intro x h;cases h
 | succ n ih =>
  intro x h;simp only[Cz,Cc] at h;exact h.elim id (ih x)
theorem Aia{t:TypeId}{z:List AV}{kl kc:IntKind}{m:Int}(he:FQ P t z.length=true)(hz:Z5 P t z=true)(h0:0<=m)(h1:m<=1048576) :
  ∃ e cells,(Instr.makeSlice t (.int kl m) (.int kc m)).run P w = .ok (.slice (some ⟨w.heap.size,0,none⟩) m.toNat m.toNat) (w.alloc (.cells cells e))/\D8 Y X w cells (Cz z m.toNat):=by
 obtain⟨e,i,zv,hu,hi,hs,hk,hb,hzv,hzs⟩:=E6 he;unfold Z5 at hz;rw[hu] at hz;dsimp only at hz;unfold MH at hz;rw[hi] at hz;dsimp only at hz;rw[hzv] at hz;dsimp only at hz;have hc:D8 Y X w zv.cells z:=by
  have:=Ko (Y:=Y) (X:=X) (w:=w) hz;simpa using this
 have hbb:(i.bytes:Int)*m<=281474976710656:=by
  have a1:(i.bytes:Int)*m<=1048576*m:=Ae (by omega) h0;omega
 have hr:=run_make (P:=P) w t e i zv hu hi hzv kl kc m m h0 (C' _) hbb (by omega);refine⟨e,_,hr,fun x hx=>hc.1 x (lR z _ x hx),?_,fun j g1 g2 => ?_⟩
 ·rw[size_madeCells,LQ,hs]
 ·have hj:j<m.toNat*z.length:=by rw[<- LQ];exact g2
  have e1:=lQ z m.toNat j hj;rw[Ah g2] at e1;obtain⟨v,hv,hrv⟩:=hc.get e1.symm;have:(madeCells zv.cells (m.toNat*i.size))[j]'g1=v:=by
   have hv':zv.cells[j % zv.cells.size]? = some v:=by rw[hzs];exact hv
   simp[madeCells,getElem!_def,hv']
  rw[this];exact hrv
def Iy(w:World)(b off n:Nat):List Value:=(Aq n).map fun i=>(w.cell? ⟨b,off+i,none⟩).getD B5
theorem NY{b off:Nat}{cs:List AV}(h:Gp Y X w b off cs) :
  (Iy w b off cs.length).length=cs.length/\(∀ j u,(Iy w b off cs.length)[j]? = some u->w.cell? ((⟨b,off,none⟩:Addr).add j)=some u) /\
  (∀ (i:Nat) (h:i<cs.length),∃ u,(Iy w b off cs.length)[i]? = some u/\Rd Y X w u cs[i])/\∀ u∈Iy w b off cs.length,u.oneCell'=true:=by
 obtain⟨hd,hm⟩:=h;have hg:∀ (i:Nat) (h:i<cs.length),∃ u,(Iy w b off cs.length)[i]? = some u/\w.cell? ⟨b,off+i,none⟩=some u/\Rd Y X w u cs[i]:=by
  intro i hi;obtain⟨v,h1,h2⟩:=hm i hi;exact⟨v,by simp[Iy,hi,h1],h1,h2⟩
 have hl:(Iy w b off cs.length).length=cs.length:=by simp[Iy]
 refine⟨hl,fun j u hu => ?_,fun i hi => ?_,fun u hu => ?_⟩
 ·have hj:j<cs.length:=by
   have:=(H7.1 hu).1;omega
  obtain⟨v,h1,h2,_⟩:=hg j hj;rw[hu] at h1;cases h1;rw[Ht];exact h2
 ·obtain⟨v,h1,_,h3⟩:=hg i hi;exact⟨v,h1,h3⟩
 ·obtain⟨j,hj,rfl⟩:=A8x hu;obtain⟨v,h1,_,h3⟩:=hg j (by omega);rw[Ah hj] at h1;cases h1;exact (JP h3 (hd _ (CY _))).1
theorem GA{t t' ty e e':TypeId}{i:TypeInfo}{args:Array Value}(h:P.underlying t=some (.slice e))(hi:P.info? e=some i)(h':P.underlying t'=some (.slice e')) :
  (CE #[t,t'] ty args).run P w=(CE #[t,t] ty args).run P w:=by
 have hsz:(sizeOf e).run P w = .ok i.size w:=by simp[sizeOf,typeInfo,program,F4,hi]
 simp only[CE,Sf,Azd,Azc];cases h0:args[0]? with
 | none=>rfl
 | some s =>
  cases h1:args[1]? with
  | none=>rfl
  | some x =>
   simp only[AL,run_underlying h,A1];cases s <;> try rfl
   simp only[AL,hsz,run_underlying h,run_underlying h',A1,Bj]
theorem lS{y:Value}{m:Nat}{ys:List AV}(h:Rd Y X w y (.sl m ys)):(m=0/\ys=[]/\(y = .slice none 0 0\/∃ p c,y = .slice (some p) 0 c))\/∃ b off cap,y = .slice (some ⟨b,off,none⟩) m cap/\Gp Y X w b off ys/\m<=cap/\(ys ≠ []->¬ X b):=by
 cases h with
 | nil0=>exact .inl ⟨rfl,rfl,.inl rfl⟩
 | e0 a c=>exact .inl ⟨rfl,rfl,.inr ⟨a,c,rfl⟩⟩
 | sl b off _ cap _ f hd hn hX hY hcell hr=>exact .inr ⟨b,off,cap,rfl,⟨hd,fun i hi=>⟨f i,hcell i hi,hr i hi⟩⟩,hn,hX⟩
def SlR(Y X:Nat->Prop)(w:World)(y:Value)(m:Nat)(ys:List AV):Prop:=(m=0/\ys=[]/\(y = .slice none 0 0\/∃ p c,y = .slice (some p) 0 c))\/∃ b off cap,y = .slice (some ⟨b,off,none⟩) m cap/\Gp Y X w b off ys/\m<=cap
theorem Azj{y:Value}{m:Nat}{ys:List AV}(h:Rd Y X w y (.sl m ys)):SlR Y X w y m ys:=by
 rcases lS h with h | ⟨b,off,cap,h1,h2,h3,_⟩
 ·exact .inl h
 ·exact .inr ⟨b,off,cap,h1,h2,h3⟩
theorem Tv{w':World}{e:TypeId}{k n:Nat}{v:Value}{xs:List Value}{cs:List AV}(hown:w'.ownsRow w.heap.size e k v n xs)(hn:0<n)(hd:NR cs)(hl:cs.length=n*k)(hx:xs.length=cs.length)
  (hr:∀ (i:Nat) (h:i<cs.length),∃ u,xs[i]? = some u/\Rd Y X w' u cs[i]):FY Y X w.heap.size w' v k n cs:=by
 obtain⟨_,h | ⟨g,cap,cur,rfl,hg,hh,hnc,_,hcs,htake⟩⟩:=hown
 ·omega
 ·have hle:n*k<=cap*k:=AE _ hnc;refine .inr ⟨g,cap,rfl,hnc,hl,hg,⟨hd,cur,e,hh,by omega,fun i hi => ?_⟩,cur,e,hh,by omega⟩;obtain⟨u,h1,h2⟩:=hr i hi;refine⟨u,?_,h2⟩;rw[<- htake,B9 (by omega)] at h1;simpa using h1
theorem Tw{cs ys:List AV}(h1:NR cs)(h2:NR ys):NR (cs++ys):=fun x hx=>(Cc.1 hx).elim (h1 x) (h2 x)
theorem Z6{t e:TypeId}{i:TypeInfo}{B:Nat}(h:Uy P t B=true)(hu:P.underlying t=some (.slice e))(hi:P.info? e=some i):B*i.bytes<=140737488355328/\B<=140737488355328:=by
 unfold Uy at h;simp only[hu,hi,Af,decide_eq_true_eq] at h;exact h
theorem Rc{t t' ty:TypeId}{k n m B:Nat}{cs ys:List AV}{x y:Value}(he:FQ P t k=true)(ht':Hu P t'=true)(hB:Uy P t B=true)
  (hx:(x = .slice none 0 0/\n=0/\cs=[]/\0<m)\/∃ b cap,x = .slice (some ⟨b,0,none⟩) n cap/\cap<n+m/\Gp Y X w b 0 cs) (hlen:cs.length=n*k) (hy:SlR Y X w y m ys) (hm0:0<m) (hylen:ys.length=m*k) (hnm:n+m<=B) :
  ∃ v' w',(CE #[t,t'] ty #[x,y]).run P w = .ok v' w'/\Below w.heap.size w w'/\FY Y (fun c=>X c\/w.heap.size<=c) w.heap.size w' v' k (n+m) (cs++ys):=by
 obtain⟨e,i,zv,hu,hi,hs,hk,hb,hzv,hzs⟩:=E6 he;obtain⟨e',hu'⟩:=FZ ht';rw[GA hu hi hu'];obtain⟨by_,boff,bcap,rfl,hmem,_⟩:=hy.resolve_left (fun h=>by have:=h.1;omega);obtain⟨n1,n2,n3,n4⟩:=NY hmem;obtain⟨hB1,hB2⟩:=Z6 hB hu hi;have hbytes:(n+m)*i.bytes<=140737488355328:=Bx (B2 hnm (Ap _)) hB1;have hmax:n+m<=maxLen:=by simp only[maxLen];omega
 rcases hx with ⟨rfl,rfl,rfl,hm⟩ | ⟨b,cap,rfl,hcap,hbm⟩
 ·obtain⟨v',w',hrun,r1,r2,_⟩:=run_append_own (P:=P) w w.heap.size t ty e i zv k i.bytes hu hi hzv hs rfl hzs hk (.slice none 0 0) 0 [] (World.ownsRow_nil w _ e k) ⟨by_,boff,none⟩ m bcap _ (by rw[n1,hylen]) n2 n4 hmax hbytes (Ap _);have hbel:Below w.heap.size w w':=⟨r2.os,r2.tape,r2.output,r2.size,fun c hc=>r2.block c hc (by simp[Value.ownBlock])⟩;refine⟨v',w',hrun,hbel,?_⟩;simp only[JN];refine Tv r1 (by omega) hmem.1 (by rw[hylen,Cs]) (by simp[n1]) (fun j hj => ?_);obtain⟨u,h1,h2⟩:=n3 j hj;exact⟨u,by simpa using h1,(h2.mono fun b hb=>hb).world fun c _ hc=>hbel.block c hc⟩
 ·obtain⟨S,o2,o3,o4⟩:=NY hbm;obtain⟨v',w',hrun,r1,r2⟩:=run_append_arg_grows (P:=P) w t ty e i zv k i.bytes hu hi hzv hs rfl hzs hk ⟨b,0,none⟩ n cap _ (by rw[S,hlen]) o2 ⟨by_,boff,none⟩ m bcap _ (by rw[n1,hylen]) n2 hcap hmax hbytes;have hbel:Below w.heap.size w w':=⟨r2.os,r2.tape,r2.output,r2.size,fun c hc=>r2.block c hc (by simp)⟩;refine⟨v',w',hrun,hbel,?_⟩;refine Tv r1 (by omega) (Tw hbm.1 hmem.1) (by rw[Bf,hlen,hylen,DY]) (by simp[S,n1]) (fun j hj => ?_);by_cases hj1:j<cs.length
  ·obtain⟨u,h1,h2⟩:=o3 j hj1;refine⟨u,by rw[AN (by omega)];exact h1,?_⟩;rw[PE hj1];exact (h2.mono fun b hb=>hb).world fun c _ hc=>hbel.block c hc
  ·have hj2:j-cs.length<ys.length:=by simp at hj;omega
   obtain⟨u,h1,h2⟩:=n3 _ hj2;refine⟨u,by rw[AT (by omega),S];exact h1,?_⟩;rw[OX (by omega)];exact (h2.mono fun b hb=>hb).world fun c _ hc=>hbel.block c hc
theorem Z7{t t' ty:TypeId}{k n m b cap:Nat}{cs ys:List AV}{y:Value}(he:FQ P t k=true)(ht':Hu P t'=true)(hcap:n+m<=cap)(hX:X b)
  (hblk:FX Y X w b 0 cs) (hroom:Tt w b (cap*k)) (hlen:cs.length=n*k) (hy:SlR Y X w y m ys) (hy0:m ≠ 0) (hylen:ys.length=m*k) :
  ∃ w',(CE #[t,t'] ty #[.slice (some ⟨b,0,none⟩) n cap,y]).run P w = .ok (.slice (some ⟨b,0,none⟩) (n+m) cap) w'/\w'.os=w.os/\w'.tape=w.tape/\w'.output=w.output/\w'.heap.size=w.heap.size /\
   (∀ c,c ≠ b->w'.heap[c]? = w.heap[c]?)/\FX Y X w' b 0 (cs++ys)/\Tt w' b (cap*k):=by
 obtain⟨e,i,zv,hu,hi,hs,hk,hb,hzv,hzs⟩:=E6 he;obtain⟨e',hu'⟩:=FZ ht';rw[GA hu hi hu'];obtain⟨by_,boff,bcap,rfl,hmem,_⟩:=hy.resolve_left (fun h=>hy0 h.1);obtain⟨n1,n2,n3,n4⟩:=NY hmem;obtain⟨hdat,vs,T,hh,_,hcell⟩:=hblk;obtain⟨vs',T',hh',hsz⟩:=hroom;rw[hh] at hh';cases hh';have hle:(n+m)*k<=cap*k:=AE _ hcap;rw[DY] at hle;generalize hnews:Iy w by_ boff ys.length=news at *
 have hf:=run_firstCells_some (P:=P) w i.size m ⟨by_,boff,none⟩ m bcap news (by rw[n1,hylen,hs]) n2;have hst:=run_storeCells_at P b (n*i.size) T news 0 vs w hh (by rw[hs,n1,hylen];omega) n4;simp only[FP] at hst;have hext:∀ c,¬ X c->c<w.heap.size->(w.setRow b (BD (n*i.size) vs.toList++news++A9v (n*i.size+news.length) vs.toList).toArray).heap[c]? = w.heap[c]? := fun c hc _=>HK _ _ _ _ (fun e=>hc (e ▸ hX));have hrow:=setRow_heap w b vs (BD (n*i.size) vs.toList++news++A9v (n*i.size+news.length) vs.toList).toArray T (0,0) hh;have hsize:(BD (n*i.size) vs.toList++news++A9v (n*i.size+news.length) vs.toList).toArray.size=vs.size:=by
  simp only[Ix,Bf,AB,Es,CQ,n1,hylen,hs];omega
 refine⟨w.setRow b (BD (n*i.size) vs.toList++news++A9v (n*i.size+news.length) vs.toList).toArray,?_,rfl,rfl,rfl,Kn _ _ _,fun c hc=>HK _ _ _ _ hc,⟨Tw hdat hmem.1,_,T,hrow,?_,fun j hj => ?_⟩,⟨_,T,hrow,by rw[hsize];exact hsz⟩⟩
 ·simp[CE,run_underlying hu,sizeOf,typeInfo,hi,K4,hcap,hf,Addr.add_lit,hst]
 ·rw[hsize,Bf,hlen,hylen];omega
 ·have ht:(vs.toList.take (n*i.size)).length=n*k:=by simp only[AB,CQ,hs];omega
  simp only[Cs,Sf];by_cases hj1:j<cs.length
  ·obtain⟨u,h1,h2⟩:=hcell j hj1;refine⟨u,?_,?_⟩
   ·rw[N6,AN (by omega),B9 (by rw[hs];omega)];simpa using h1
   ·rw[PE hj1];exact h2.world hext
  ·have hj2:j-cs.length<ys.length:=by simp at hj;omega
   obtain⟨u,h1,h2⟩:=n3 _ hj2;refine⟨u,?_,?_⟩
   ·rw[AN (by simp only[Bf,ht,n1];simp at hj;omega),AT (by omega),ht,<- hlen];exact h1
   ·rw[OX (by omega)];exact h2.world hext
theorem append_nil{t t' ty:TypeId}{k:Nat}(he:FQ P t k=true)(ht':Hu P t'=true):(CE #[t,t'] ty #[.slice none 0 0,.slice none 0 0]).run P w = .ok (.slice none 0 0) w:=by
 obtain⟨e,i,zv,hu,hi,hs,hk,hb,hzv,hzs⟩:=E6 he;obtain⟨e',hu'⟩:=FZ ht';rw[GA hu hi hu'];simp[CE,run_underlying hu,sizeOf,typeInfo,hi,K4,cD]
theorem Re{t t' ty:TypeId}{k c:Nat}{p:Addr}(he:FQ P t k=true)(ht':Hu P t'=true):(CE #[t,t'] ty #[.slice none 0 0,.slice (some p) 0 c]).run P w = .ok (.slice none 0 0) w:=by
 obtain⟨e,i,zv,hu,hi,hs,hk,hb,hzv,hzs⟩:=E6 he;obtain⟨e',hu'⟩:=FZ ht';rw[GA hu hi hu'];have hf:=run_firstCells_some (P:=P) w i.size 0 p 0 c [] (by simp) (by simp);simp[CE,run_underlying hu,sizeOf,typeInfo,hi,K4,hf]
theorem Rf{t t' ty:TypeId}{k n b cap:Nat}(he:FQ P t k=true)(ht':Hu P t'=true)(hn:n<=cap) :
  (CE #[t,t'] ty #[.slice (some ⟨b,0,none⟩) n cap,.slice none 0 0]).run P w = .ok (.slice (some ⟨b,0,none⟩) n cap) w:=by
 obtain⟨e,i,zv,hu,hi,hs,hk,hb,hzv,hzs⟩:=E6 he;obtain⟨e',hu'⟩:=FZ ht';rw[GA hu hi hu'];simp[CE,run_underlying hu,sizeOf,typeInfo,hi,K4,cD,hn,storeCells]
theorem PI{t t' ty:TypeId}{k n b cap c:Nat}{p:Addr}(he:FQ P t k=true)(ht':Hu P t'=true)(hn:n<=cap) :
  (CE #[t,t'] ty #[.slice (some ⟨b,0,none⟩) n cap,.slice (some p) 0 c]).run P w = .ok (.slice (some ⟨b,0,none⟩) n cap) w:=by
 obtain⟨e,i,zv,hu,hi,hs,hk,hb,hzv,hzs⟩:=E6 he;obtain⟨e',hu'⟩:=FZ ht';rw[GA hu hi hu'];have hf:=run_firstCells_some (P:=P) w i.size 0 p 0 c [] (by simp) (by simp);simp[CE,run_underlying hu,sizeOf,typeInfo,hi,K4,hf,hn,storeCells]
theorem MJ{len cap m h l:Nat}{lo hi mx:Option Value}(hmx:(mx=none/\m=cap)\/∃ k i,mx=some (.int k i)/\0<=i/\i.toNat=m/\m<=cap)(hhi:(hi=none/\mx=none/\h=len)\/∃ k i,hi=some (.int k i)/\0<=i/\i.toNat=h/\h<=m)
  (hlo:(lo=none/\l=0)\/∃ k i,lo=some (.int k i)/\0<=i/\i.toNat=l/\l<=h):(QZ true len cap lo hi mx).run P w = .ok (l,h,m) w:=by
 have hb:∀ (k:IntKind) (i:Int) (y n:Nat) (J2:BoundsCode),0<=i->i.toNat=n->n<=y->(Instr.sliceBound (.int k i) y J2).run P w = .ok n w:=by
  intro k i y n J2 h0 h1 h2;rw[run_sliceBound w k i y J2 h0 (by omega),h1]
 rcases hmx with ⟨rfl,rfl⟩ | ⟨km,im,rfl,m0,m1,m2⟩ <;> rcases hhi with ⟨rfl,hh,rfl⟩ | ⟨kh,ih,rfl,h0,h1,h2⟩ <;> rcases hlo with ⟨rfl,rfl⟩ | ⟨kl,il,rfl,l0,l1,l2⟩;all_goals first
  | cases hh;done
  | simp only[QZ,AL,Bj,A1]
 all_goals first
  | rfl
  | simp only[hb kl il _ l _ l0 l1 l2,A1];done
  | simp only[hb kh ih _ h _ h0 h1 h2,A1];done
  | simp only[hb kh ih _ h _ h0 h1 h2,hb kl il _ l _ l0 l1 l2,A1];done
  | simp only[hb km im _ m _ m0 m1 m2,hb kh ih _ h _ h0 h1 h2,A1];done
  | simp only[hb km im _ m _ m0 m1 m2,hb kh ih _ h _ h0 h1 h2,hb kl il _ l _ l0 l1 l2,A1];done
theorem MK{t:TypeId}{k len cap m h l:Nat}{a:Option Addr}{lo hi mx:Option Value}(he:FQ P t k=true)(hb:(QZ true len cap lo hi mx).run P w = .ok (l,h,m) w) :
  (kW t (.slice a len cap) lo hi mx).run P w = .ok (.slice (if m=l then a else a.map (·.add (l*k))) (h-l) (m-l)) w:=by
 obtain⟨e,i,zv,hu,hi',hs,hk,hb',hzv,hzs⟩:=E6 he;have hsz:(sizeOf e).run P w = .ok k w:=by simp[sizeOf,typeInfo,program,F4,hi',hs]
 simp only[kW,AL,run_underlying hu,A1,Instr.slice,hb,hsz,Bj]
theorem vU{v:Value}{n l h m k:Nat}{cs:List AV}(hv:Rd Y X w v (.sl n cs))(hlh:l<=h)(hhn:h<=n) :
  ∃ a cap,v = .slice a n cap/\n<=cap/\(h<=m->(a=none->m=0)->Rd Y X w (.slice (if m=l then a else a.map (·.add (l*k))) (h-l) (m-l)) (.sl (h-l) ((cs.drop (l*k)).take ((h-l)*k))))/\(a=none->cap=0):=by
 cases hv with
 | nil0 =>
  refine⟨none,0,rfl,Ap _,fun _ hm => ?_,fun _=>rfl⟩;have h0:h=0:=by omega
  have l0:l=0:=by omega
  subst h0 l0;rw[hm rfl];simpa using Rd.nil0
 | e0 a c =>
  have h0:h=0:=by omega
  have l0:l=0:=by omega
  subst h0 l0;refine⟨some a,c,rfl,By _,fun _ _ => ?_,fun h=>by cases h⟩;simp only[Kk,Tx,Un];split
  ·exact .e0 _ _
  ·exact .e0 _ _
 | sl b off _ cap _ f hd hn hX hY hcell hr =>
  refine⟨_,cap,rfl,hn,fun hhm _ => ?_,fun h=>by cases h⟩;have hlen:((cs.drop (l*k)).take ((h-l)*k)).length<=cs.length-l*k:=by simp only[AB,Es];omega
  have hdat:NR ((cs.drop (l*k)).take ((h-l)*k)):=fun x hx=>hd x (EV (C5 hx));by_cases hml:m=l
  ·have hh:h-l=0:=by omega
   rw[if_pos hml,hh,Tx,Un];exact .sl b off 0 (m-l) [] f (fun x hx=>by cases hx) (By _) (fun h=>absurd rfl h) (fun ⟨c,hc,_⟩=>by cases hc) (fun i hi=>by simp at hi) (fun i hi=>by simp at hi)
  ·rw[if_neg hml];simp only[A9,Ht];refine .sl b (off+l*k) (h-l) (m-l) _ (fun i=>f (l*k+i)) hdat (by omega) (fun hne=>hX (fun e=>hne (by rw[e];simp))) (fun ⟨c,hc,h1⟩=>hY ⟨c,EV (C5 hc),h1⟩) (fun i hi => ?_) (fun i hi => ?_)
   ·rw[DE];exact hcell _ (by omega)
   ·have:=hr (l*k+i) (by omega);simpa using this
end
def Gq(roots:List (Nat × Nat))(oks:List Nat)(dst:Option Nat):Bool:=roots.all fun p => !(some p.2==dst) || oks.contains p.1
def UR(roots:List (Nat × Nat))(dst:Option Nat)(d:Nat):Bool :=
 match dst with
 | some t=>roots.contains (t,d) && !(t==d)
 | none=>true
def Z8(roots:List (Nat × Nat))(dst:Option Nat)(ks:List Nat):Bool:=dst.isSome&&roots.all fun p => !(some p.2==dst) || ks.contains p.1
def EX(roots:List (Nat × Nat))(oks:List Nat)(dst:Option Nat):K->Bool
 | .new _ ks=>Z8 roots dst ks
 | .box _ ks=>Z8 roots dst ks
 | .adr _ d _=>Gq roots oks dst&&UR roots dst d
 | .ixo _ d _ _=>Gq roots oks dst&&UR roots dst d
 | .cpy x=>Gq roots oks dst&&UR roots dst x
 | .st _ _ _ _=>dst.isNone
 | .bls _ _ _=>Gq roots oks dst&&dst.isSome
 | .blo _ _ _ _=>Gq roots oks dst&&dst.isSome
 | .mks _ _=>Gq roots oks dst&&dst.isSome
 | .tra _=>Gq roots oks dst&&dst.isSome
 | .apd _ _ _ _ _=>Gq roots oks dst&&dst.isSome
 | .clo _ _=>Gq roots oks dst&&dst.isSome
 | .nlo _=>Gq roots oks dst&&dst.isSome
 | .bdo _ _ l=>Gq roots (oks++l) dst&&dst.isSome
 | .cln _ _ l=>Gq roots (oks++l) dst&&dst.isSome
 | .stl x v=>dst.isNone&&roots.contains (x,v)
 | .fdo _=>Gq roots oks dst&&dst.isSome
 | .exo _=>Gq roots oks dst&&dst.isSome
 | .slo _ _ _=>Gq roots oks dst&&dst.isSome
 | _=>Gq roots oks dst
theorem AH{s:Al}{roots:List (Nat × Nat)}{oks:List Nat}{dst:Option Nat}(hkd:∀ t∈oks,F3 (A5 s t)=false)(h:Gq roots oks dst=true):cA s roots dst:=by
 intro d hd t ht;simp only[Gq,BY,HL,Ey,beq_eq_false_iff_ne,ne_eq,IG,decide_eq_true_eq] at h;rcases h (t,d) ht with h1 | h1
 ·exact absurd hd.symm h1
 ·exact hkd t h1
theorem Ty{s:Al}{oks ls:List Nat}(hkd:∀ t∈oks,F3 (A5 s t)=false)(hls:(ls.all fun t=>Gm (A5 s t))=true):∀ t∈oks++ls,F3 (A5 s t)=false:=by
 intro t ht;rcases Cc.1 ht with ht | ht
 ·exact hkd t ht
 ·exact Zz (BY.1 hls t ht)
theorem Ls{roots:List (Nat × Nat)}{dst:Option Nat}{d:Nat}(h:UR roots dst d=true):∀ t,dst=some t->(t,d)∈roots/\t ≠ d:=by
 intro t ht;subst ht;simpa [UR] using h
theorem Tz{roots:List (Nat × Nat)}{dst:Option Nat}{ks:List Nat}(h:Z8 roots dst ks=true):dst.isSome=true/\∀ d,dst=some d->∀ t,(t,d)∈roots->t∈ks:=by
 simp only[Z8,Af,BY,HL,Ey,beq_eq_false_iff_ne,ne_eq,IG,decide_eq_true_eq] at h;refine⟨h.1,fun d hd t ht => ?_⟩;rcases h.2 (t,d) ht with h1 | h1
 ·exact absurd hd.symm h1
 ·exact h1
section
variable {P:Program} {Y X0:Nat->Prop} {roots:List (Nat × Nat)} {w0 w:World} {s:Al} {a:Act} {Q:Exit->Act->World->Prop}
theorem NZ{w:World}{b off:Nat}{vs:Array Value}{T:TypeId}{fz:Nat × Nat}(h:w.heap[b]? = some (.cells vs T fz)):w.cell? ⟨b,off,none⟩=vs[off]? := by
 simp only[UF,h];rfl
theorem ML{Y X:Nat->Prop}{w:World}{zero:List Value}(hz:0<zero.length):∀ (n:Nat) (z:List AV),Rb z zero n=true->z.length=n*zero.length ->
  NR z/\∀ (i:Nat) (h:i<z.length),∃ v,zero[i % zero.length]? = some v/\Rd Y X w v z[i]
 | 0,z,_,hl=>by
  have:z=[]:=A7 (by simpa using hl);subst this;exact⟨fun x hx=>(by cases hx),fun i h=>(by simp at h)⟩
 | n+1,z,h,hl=>by
  simp only[Rb,Af] at h;obtain⟨h1,h2⟩:=h;have hl':z.length=n*zero.length+zero.length:=by rw[hl,Ll]
  obtain⟨hd,ih⟩:=ML (Y:=Y) (X:=X) (w:=w) hz n (z.drop zero.length) h2 (by simp;omega);have hc:=Ko (Y:=Y) (X:=X) (w:=w) h1;refine⟨fun x hx => ?_,fun i hi => ?_⟩
  ·rw[<- XZ zero.length z,Cc] at hx;rcases hx with hx | hx
   ·exact hc.1 x hx
   ·exact hd x hx
  ·by_cases hlt:i<zero.length
   ·rw[F1 hlt];have e:(z.take zero.length)[i]? = some z[i]:=by rw[B9 hlt,Ah hi]
    obtain⟨v,hv,hr⟩:=hc.get e;exact⟨v,by simpa using hv,hr⟩
   ·have hi2:i-zero.length<(z.drop zero.length).length:=by simp;omega
    obtain⟨v,hv,hr⟩:=ih (i-zero.length) hi2;have e1:(i-zero.length) % zero.length=i % zero.length:=by
     rw[<- Nat.add_mod_right (i-zero.length) zero.length];congr 1;omega
    have e2:(z.drop zero.length)[i-zero.length]=z[i]:=by
     rw[List.getElem_drop];congr 1;omega
    exact⟨v,e1 ▸ hv,e2 ▸ hr⟩
theorem KL.world{Y X:Nat->Prop}{B:Nat}{tm:Array Value}{w w':World}{t:Nat}{v:Value}{r:Reg}(h:KL Y X B roots tm w t v r)(hw:Below w.heap.size w w'):KL Y X B roots tm w' t v r:=by
 cases r with
 | val x=>exact Rd.world h fun b _ hb=>hw.block b hb
 | box cs=>obtain⟨b,e1,e2,e3⟩:=h;exact⟨b,e1,e2,e3.world (fun c _ hc=>hw.block c hc) (hw.block b e3.lt)⟩
 | own k n cs=>exact FY.world h (fun c _ hc=>hw.block c hc) (fun b _ hb=>hw.block b hb)
 | agn b k n cs=>exact JO.world h (fun c _ hc=>hw.block c hc) (fun b _ hb=>hw.block b hb)
 | bxl d =>
  obtain⟨e1,b,e2,e3,e4,e5⟩:=h;exact⟨e1,b,e2,e3,EW e4 hw.size,fun i hi=>by rw[<- e5 i hi];exact Fg (hw.block b e4)⟩
 | mem cs=>obtain⟨b,off,e1,e2,e3⟩:=h;exact⟨b,off,e1,e2,e3.world (fun c _ hc=>hw.block c hc) (fun hb=>hw.block b hb)⟩
 | ptr d off=>exact h
 | dup d=>exact h
 | sub _ _ _ _=>exact h
 | dead=>trivial
theorem Aib{Y X:Nat->Prop}{w:World}{t:TypeId}{n off:Nat}{one:Bool}{vs:Array Value}{cs:List AV}{x:AV}(ho:MF P t n one=true)(hc:D8 Y X w vs cs)(ht:Bv cs off n one=some x) :
  ∃ v,(part t vs off).run P w = .ok v w/\Rd Y X w v x:=by
 obtain⟨h1,h2⟩:=Lp ho;obtain⟨hd,hs,hr⟩:=hc;unfold Bv at ht;cases one with
 | true =>
  simp only[if_true] at ht;obtain⟨v,hv,hrv⟩:=D8.get ⟨hd,hs,hr⟩ ht;exact⟨v,by simp[part,h1,hv],hrv⟩
 | false =>
  simp only[Cj,if_false] at ht;split at ht
  ·rename_i hle;cases ht;refine⟨.agg (vs.extract off (off+n)),by simp[part,h1,h2],.agg _ _ (fun y hy=>hd y (EV (C5 hy))) (by simp;omega) (fun i g1 g2 => ?_)⟩;have hi:i<n:=by simp at g2;omega
   have:=hr (off+i) (by omega) (by omega);simpa using this
  ·cases ht
theorem EF{x':Operand}{x:Nat}(h1:Cg x' (.t x)=true):a.eval x'=a.tmps.getD x B5:=by
 cases x' <;> simp only[Cg] at h1 <;> try cases h1
 simp only[beq_iff_eq] at h1;subst h1;rfl
theorem N'{o:Oper}{x:Nat}(h:UQ o.op x=true):(execOp a.eval o).run P w = .ok (.value (a.tmps.getD x B5)) w:=by
 unfold UQ at h;split at h
 ·rename_i y hop;simp[execOp,hop,EF (a:=a) h]
 ·rename_i y hop;simp[execOp,hop,EF (a:=a) h]
 ·cases h
theorem tI{x:Opd}{v:AV}(h:x.reg s = .val v):x.av s=some v:=by simp only [Opd.av,h]
theorem cE{x:Opd}{k n:Nat}{cs:List AV}(h:x.reg s = .own k n cs):∃ m,x = .t m:=by
 cases x with
 | t m=>exact⟨m,rfl⟩
 | c y=>simp only[Opd.reg] at h;cases h
theorem OZ{Y X X':Nat->Prop}{B B':Nat}{w':World}{v:Value}{k n:Nat}{cs:List AV}(hB:B<=B')(h:FY Y (fun c=>X c\/Bq v=some c) B' w' v k n cs)(hX:∀ b,X' b->X b\/(B'<=b/\Bq v=some b)):FY Y X' B w' v k n cs :=
 (h.mono fun c hc => .inl ((hX c hc).imp id And.right)).lower hB
theorem PJ{s:Al}:∀ {ps:List (Nat × Nat × Opd)} {cs cs':List AV},FV s cs ps=some cs'->cs'.length=cs.length
 | [],cs,cs',h=>by simp only[FV,A3] at h;rw[h]
 | (off,n,o)::ps,cs,cs',h=>by
  simp only[FV] at h;split at h
  ·cases h
  ·split at h
   ·cases h
   ·split at h
    ·cases h
    ·rename_i hl;rw[PJ h,(Mg hl).2.1]
theorem cF(h:Rel Y X0 roots w0 s a w){d k n:Nat}{cells:Array Value}{cs:List AV}{T:TypeId}(hks:∀ t,(t,d)∈roots->F3 (A5 s t)=false)(hc:D8 Y (fun b=>X0 b\/XS s a.tmps b) w cells cs)(hl:cs.length=n*k) :
  Rel Y X0 roots w0 (Ea s (some d) (.own k n cs)) (a.put (some d) (.slice (some ⟨w.heap.size,0,none⟩) n n)) (w.alloc (.cells cells T)):=by
 refine D7 (ks:=[]) h ((HF _ _).alloc (Ap _) _) (fun t ht => .inr (hks t ht)) (fun _ b hb=>by simp only[Bq,HT,A9,A3] at hb;omega) (fun X h1 _ => ?_);have hc':=(hc.mono (X':=X) (fun b hb=>(h1 b hb).imp id Ahh)).world (w':=w.alloc (.cells cells T)) (fun b _ hb=>X2 _ _ _ hb);have hh:(w.alloc (.cells cells T)).heap[w.heap.size]? = some (.cells cells T (0,0)):=by show (w.heap.push _)[w.heap.size]? = _;simp
 have hs:=hc.2.1;refine .inr ⟨w.heap.size,n,rfl,Ap _,hl,h.below.size,⟨hc.1,cells,T,hh,by omega,fun i hi => ?_⟩,cells,T,hh,by omega⟩;exact⟨cells[i]'(by omega),by rw[Cs,DZ],hc'.2.2 i (by omega) hi⟩
theorem U0{Y X:Nat->Prop}{B d:Nat}{tm:Array Value}{w:World}{v:Value}{k n:Nat}{cs:List AV}{ow:Bool}(h:FY Y X B w v k n cs)(hn:ow=false->∀ b,Bq v=some b->¬ X b)(hY:∀ b,Y b->b<B):KL Y X B roots tm w d v (if ow then .own k n cs else .val (.sl n cs)):=by
 cases ow with
 | true=>exact h
 | false=>exact FY.frozen h (fun b hb => .inl hb) (hn rfl) hY
def Aic:Value->Nat
 | .slice _ _ c=>c
 | _=>0
theorem O'(h:Rel Y X0 roots w0 s a w){o:Option Opd}{o':Option Operand}{d n:Nat}(ho:PH o' o=true)(hb:GR s d o=some n):(o=none/\o'=none/\n=d)\/∃ x,o=some x/\∃ k i,o'.map a.eval=some (.int k i)/\0<=i/\i.toNat=n:=by
 cases o with
 | none =>
  cases o' with
  | none=>simp only[GR,A3] at hb;exact .inl ⟨rfl,rfl,hb.symm⟩
  | some y=>cases ho
 | some x =>
  cases o' with
  | none=>cases ho
  | some y =>
   simp only[PH] at ho;simp only[GR] at hb;split at hb
   ·rename_i k i hi;split at hb
    ·rename_i h0;cases hb;have:=CF h ho hi;generalize hv:a.eval y=v at this;cases this;exact .inr ⟨x,rfl,k,i,by simp[hv],h0,rfl⟩
    ·cases hb
   ·cases hb
theorem tJ(h:Rel Y X0 roots w0 s a w){o:Option Opd}{o':Option Operand}{l hh:Nat}(ho:PH o' o=true)(hb:GR s 0 o=some l)(hle:l<=hh):(o'.map a.eval=none/\l=0)\/∃ k i,o'.map a.eval=some (.int k i)/\0<=i/\i.toNat=l/\l<=hh:=by
 rcases O' h ho hb with ⟨_,rfl,rfl⟩ | ⟨_,_,k,i,h1,h2,h3⟩
 ·exact .inl ⟨rfl,rfl⟩
 ·exact .inr ⟨k,i,h1,h2,h3,hle⟩
theorem Azk(h:Rel Y X0 roots w0 s a w){o:Option Opd}{o':Option Operand}{d m cap:Nat}(ho:PH o' o=true)(hb:GR s d o=some m)(hd:d=cap)(hle:m<=cap):(o'.map a.eval=none/\m=cap)\/∃ k i,o'.map a.eval=some (.int k i)/\0<=i/\i.toNat=m/\m<=cap:=by
 rcases O' h ho hb with ⟨_,rfl,rfl⟩ | ⟨_,_,k,i,h1,h2,h3⟩
 ·exact .inl ⟨rfl,hd⟩
 ·exact .inr ⟨k,i,h1,h2,h3,hle⟩
theorem A8a(h:Rel Y X0 roots w0 s a w){o:Option Opd}{o':Option Operand}{d m cap:Nat}(ho:PH o' o=true)(hb:GR s d o=some m)(hle:m<=cap):(o'.map a.eval=none/\(if o.isSome then m else cap)=cap)\/∃ k i,o'.map a.eval=some (.int k i)/\0<=i/\i.toNat=(if o.isSome then m else cap)/\(if o.isSome then m else cap)<=cap:=by
 rcases O' h ho hb with ⟨rfl,rfl,rfl⟩ | ⟨x,rfl,k,i,h1,h2,h3⟩
 ·exact .inl ⟨rfl,rfl⟩
 ·exact .inr ⟨k,i,h1,h2,h3,hle⟩
theorem Aid(h:Rel Y X0 roots w0 s a w){o om:Option Opd}{o' om':Option Operand}{n hh mm:Nat}(ho:PH o' o=true)(Sj:PH om' om=true)(hb:GR s n o=some hh)(hs:om.isSome->o.isSome)(h1:om.isSome=true->hh<=mm)(h2:¬ om.isSome=true->hh<=mm) :
  (o'.map a.eval=none/\om'.map a.eval=none/\hh=n)\/∃ k i,o'.map a.eval=some (.int k i)/\0<=i/\i.toNat=hh/\hh<=mm:=by
 rcases O' h ho hb with ⟨rfl,rfl,rfl⟩ | ⟨x,rfl,k,i,g1,g2,g3⟩
 ·refine .inl ⟨rfl,?_,rfl⟩;cases om with
  | none=>cases om' with | none=>rfl | some y=>cases Sj
  | some z=>have:=hs rfl;cases this
 ·refine .inr ⟨k,i,g1,g2,g3,?_⟩;by_cases hh:om.isSome=true
  ·exact h1 hh
  ·exact h2 hh
theorem Qj(h:Rel Y X0 roots w0 s a w){w':World}(hw:Below w.heap.size w w'){d k n:Nat}{v:Value}{cs:List AV}{ow:Bool}{ks:List Nat}(hks:∀ t,(t,d)∈roots->t∈ks\/F3 (A5 s t)=false)
  (hown:FY Y (fun c=>(X0 c\/XS s a.tmps c)\/w.heap.size<=c) w.heap.size w' v k n cs) :
  Rel Y X0 roots w0 (Ea (Cd s (ks.map fun u=>(u,Reg.dead))) (some d) (if ow then .own k n cs else .val (.sl n cs))) (a.put (some d) v) w':=by
 refine D7 h hw hks (fun _ b hb=>(FY.block hown hb).1) (fun X g1 g2 => ?_);have hown':FY Y X w0.heap.size w' v k n cs:=(hown.mono fun c hc => .inl ((g1 c hc).imp id Ahh)).lower h.below.size;refine U0 hown' (fun he c hc hXc => ?_) h.lowY;subst he;have h1:=(FY.block hown hc).1;have:=h.lowX c (g2 rfl c hXc);omega
theorem Mk(h:Rel Y X0 roots w0 s a w){d k:Nat}{ow:Bool}{ks:List Nat}(hks:∀ t,(t,d)∈roots->t∈ks\/F3 (A5 s t)=false) :
  Rel Y X0 roots w0 (Ea (Cd s (ks.map fun u=>(u,Reg.dead))) (some d) (if ow then .own k 0 [] else .val (.sl 0 []))) (a.put (some d) (.slice none 0 0)) w :=
 Qj h (HF _ _) hks (.inl ⟨rfl,rfl,rfl⟩)
set_option maxHeartbeats 4000000 in
theorem simK{o:Oper}{k:K}{oks:List Nat}{F:BM}{r:Reg}{l:List (Nat × Reg)}{K':Act->World->Prop}(h:Rel Y X0 roots w0 s a w)(hF:Lq P F)(hk:G5 P o.op k=true)(hkd:∀ t∈oks,F3 (A5 s t)=false)(hro:EX roots oks o.dst k=true)
  (hev:BJ F s k=some (r,l)) (hK:∀ a' w',Rel Y X0 roots w0 (Ea (Cd s l) o.dst r) a' w'->K' a' w'):o.wp P a w K' Q:=by
 cases k
 case bad=>cases hev
 case mov y =>
  simp only[BJ,Ak] at hev;obtain⟨x,hx,he⟩:=hev;cases he;simp only[G5] at hk;split at hk
  ·rename_i z hop;exact B6 (v:=a.eval z) (by simp[execOp,hop]) (hK _ _ (h.put (AH hkd hro) (CF h hk hx)))
  ·rename_i z hop;exact B6 (v:=a.eval z) (by simp[execOp,hop]) (hK _ _ (h.put (AH hkd hro) (CF h hk hx)))
  ·cases hk
 case pick c x y =>
  simp only[G5] at hk;split at hk
  ·rename_i c' x' y' hop;simp only[Af] at hk;obtain⟨⟨h1,h2⟩,h3⟩:=hk;simp only[BJ] at hev;split at hev
   ·rename_i hc;simp only[Ak] at hev;obtain⟨v,hv,he⟩:=hev;cases he;have hcr:=CF h h1 hc;generalize hcv:a.eval c'=cv at hcr;cases hcr;exact B6 (v:=a.eval x') (by simp[execOp,hop,hcv,asBool]) (hK _ _ (h.put (AH hkd hro) (CF h h2 hv)))
   ·rename_i hc;simp only[Ak] at hev;obtain⟨v,hv,he⟩:=hev;cases he;have hcr:=CF h h1 hc;generalize hcv:a.eval c'=cv at hcr;cases hcr;exact B6 (v:=a.eval y') (by simp[execOp,hop,hcv,asBool]) (hK _ _ (h.put (AH hkd hro) (CF h h3 hv)))
   ·cases hev
  ·cases hk
 case bin op x y =>
  simp only[G5] at hk;split at hk
  ·rename_i op' t x' y' t' hop;simp only[Af,beq_iff_eq] at hk;obtain⟨⟨rfl,h1⟩,h2⟩:=hk;simp only[BJ] at hev;split at hev
   ·rename_i xa ya hx hy;simp only[Ak] at hev;obtain⟨z,hz,he⟩:=hev;cases he;have hxr:=CF h h1 hx;have hyr:=CF h h2 hy;generalize hxv:a.eval x'=xv at hxr;generalize hyv:a.eval y'=yv at hyr;cases xa <;> cases ya <;> simp only[Md] at hz <;> try cases hz
    cases hxr;cases hyr;obtain⟨v,hrun,hr⟩:=Ahx (P:=P) (w:=w) (t:=t) (Y:=Y) (X:=fun b=>X0 b\/XS s a.tmps b) (by simpa only [Md] using hz);exact B6 (v:=v) (by simp[execOp,hop,hxv,hyv,Si,hrun]) (hK _ _ (h.put (AH hkd hro) hr))
   ·cases hev
  ·cases hk
 case eqb neg x y =>
  simp only[G5] at hk;split at hk
  ·rename_i op' t x' y' t' hop;simp only[Af,beq_iff_eq] at hk;obtain⟨⟨⟨rfl,h0⟩,h1⟩,h2⟩:=hk;simp only[BJ] at hev;split at hev
   ·rename_i xa ya hx hy;cases hev;have hxr:=CF h h1 hx;have hyr:=CF h h2 hy;generalize hxv:a.eval x'=xv at hxr;generalize hyv:a.eval y'=yv at hyr;cases hxr;cases hyr;have ht:P.underlying t=some .bool:=by
     unfold bZ at h0;split at h0
     ·assumption
     ·cases h0
    have heq:(Op.equal t (.bool xa) (.bool ya)).run P w = .ok (xa==ya) w:=run_equalIn_bool' w 9999 t xa ya ht;refine B6 (v := .bool (if neg then !(xa==ya) else xa==ya)) ?_ (hK _ _ (h.put (AH hkd hro) (.bool _)));cases neg
    ·simp only[Cj,if_false,execOp,hop,hxv,hyv,AL,Lr,A1,binOp,heq,Bj]
    ·simp only[if_true,execOp,hop,hxv,hyv,AL,Lr,A1,binOp,heq,Bj]
   ·cases hev
  ·cases hk
 case un op x =>
  simp only[G5] at hk;split at hk
  ·rename_i op' t x' hop;simp only[Af,beq_iff_eq] at hk;obtain⟨rfl,h1⟩:=hk;simp only[BJ] at hev;split at hev
   ·rename_i xa hx;simp only[Ak] at hev;obtain⟨z,hz,he⟩:=hev;cases he;obtain⟨v,hrun,hr⟩:=Azh (P:=P) (CF h h1 hx) hz;exact B6 (v:=v) (by simp[execOp,hop,hrun]) (hK _ _ (h.put (AH hkd hro) hr))
   ·cases hev
  ·cases hk
 case cv k x =>
  simp only[G5] at hk;split at hk
  ·rename_i src dst x' hop;simp only[Af] at hk;obtain⟨⟨h0,h1⟩,h2⟩:=hk;simp only[BJ] at hev;split at hev
   ·rename_i k' n hx;cases hev;have hxr:=CF h h2 hx;generalize hxv:a.eval x'=xv at hxr;cases hxr;split at h1
    ·rename_i k'' hd;simp only[beq_iff_eq] at h1;subst h1;unfold tF at h0;split at h0
     ·rename_i ks hs;exact B6 (v := .int k'' (k''.wrap n)) (by simp[execOp,hop,hxv,convert,run_underlying hs,run_underlying hd,Conv.intToInt]) (hK _ _ (h.put (AH hkd hro) (.int _ _)))
     ·cases h0
    ·cases h1
   ·cases hev
  ·cases hk
 case new z ks =>
  simp only[G5] at hk;split at hk
  ·rename_i t hop;cases hev;obtain⟨v,hz,hc⟩:=MI hk;obtain⟨h1,h2⟩:=Tz hro;simp only[FT];have hrun:(execOp a.eval o).run P w = .ok (.value (.pointer (some ⟨w.heap.size,0,none⟩))) (w.alloc (.cells v.cells t)):=by
    simp[execOp,hop,Instr.alloc,hz,newVar,newRow]
   rw[hrun];exact hK _ _ (NV h h2 h1 (hc _ _ _))
  ·cases hk
 case box x ks =>
  simp only[G5] at hk;split at hk
  ·rename_i t x' hop;obtain⟨h1,h2⟩:=Tz hro;have hrun:(execOp a.eval o).run P w = .ok (.value (.pointer (some ⟨w.heap.size,0,none⟩))) (w.alloc (.cells (a.eval x').cells t)):=by
    simp[execOp,hop,Instr.box,newVar,newRow]
   simp only[FT,hrun];simp only[BJ] at hev;split at hev
   ·rename_i cs hx;cases hev;have hc:=(MG (n:=cs.length) (ys:=cs) (CF h hk hx) (by simp[Gn])).2;exact hK _ _ (NV h h2 h1 hc)
   ·rename_i y hy hx;split at hev
    ·rename_i hd;cases hev;have hc:=(MG (n:=1) (ys:=[y]) (CF h hk hx) (by cases y <;> first | rfl | cases hd)).2
     exact hK _ _ (NV h h2 h1 hc)
    ·cases hev
   ·cases hev
  ·cases hk
 case bld z ps =>
  simp only[G5] at hk;split at hk
  ·rename_i t parts hop;simp only[BJ,Ak] at hev;obtain⟨cs,hcs,he⟩:=hev;cases he;simp only[Ahv,Af] at hk;obtain⟨hz,hk⟩:=hk;obtain⟨v,hzv,hc⟩:=MI hz;split at hk
   ·rename_i fs hfs;simp only[Af] at hk;obtain⟨hall,hp⟩:=hk;have hplaces:(fs.mapM fun f=>do pure (f.offset,<- sizeOf f.type):Sem (Array (Nat × Nat))).run P w = .ok (fs.map fun f=>(f.offset,P.cellsOf f.type)) w:=by
     have key:∀ (l:List Field),(∀ f∈l,(P.info? f.type).isSome=true)->(l.mapM fun f=>do pure (f.offset,<- sizeOf f.type):Sem (List (Nat × Nat))).run P w = .ok (l.map fun f=>(f.offset,P.cellsOf f.type)) w:=by
      intro l;induction l with
      | nil=>intro _;rfl
      | cons f l ih =>
       intro hl;obtain⟨i,hi⟩:=Bi.1 (hl f (B4 ..));have hsz:(sizeOf f.type).run P w = .ok (P.cellsOf f.type) w:=by simp[sizeOf,typeInfo,program,F4,hi,Kh]
       simp only[LN,AL,hsz,A1,Bj,ih (fun g hg=>hl g (Bh _ hg)),C8]
     have:=key fs.toList (fun f hf=>by simp only[lD] at hall;exact hall f (by simpa using hf));rw[Sg];simp only[A8y,this,A1];congr 1;apply Array.ext';simp
    obtain⟨cells',e1,e2⟩:=NW h (place:=fun i=>(fs.map fun f=>(f.offset,P.cellsOf f.type))[i]?) (pl:=KM P fs) (fun i off n hi=>by
     unfold KM at hi;split at hi
     ·rename_i f hf;simp only[Af,beq_iff_eq] at hi;obtain⟨rfl,hsz⟩:=hi;unfold Jl at hsz;split at hsz
      ·rename_i ii hii;simp only[beq_iff_eq] at hsz;simp[hf,Kh,hii,hsz]
      ·cases hsz
     ·cases hi) hp (hc _ _ w) hcs
    have e1':KI (fun i=>(fs.map fun f=>(f.offset,P.cellsOf f.type))[i]?) v.cells (parts.map fun p=>(p.1,a.eval p.2)).toList=some cells':=by rw[FE];exact e1
    refine B6 (v := .agg cells') ?_ (hK _ _ (h.put (AH hkd hro) (.agg cells' cs e2.1 e2.2.1 e2.2.2)));simp only[execOp,hop,UG,AL,hzv,A1,run_underlying hfs,hplaces,e1',Bj]
   ·rename_i ln e hfs;simp only[Af] at hk;obtain⟨hall,hp⟩:=hk;obtain⟨ii,hii⟩:=Bi.1 hall;have hsz:(sizeOf e).run P w = .ok (P.cellsOf e) w:=by simp[sizeOf,typeInfo,program,F4,hii,Kh]
    obtain⟨cells',e1,e2⟩:=NW h (place:=fun i=>some (i*P.cellsOf e,P.cellsOf e)) (fun i off n hi=>by
     simp only[Af,beq_iff_eq] at hi;rw[hi.1,hi.2]) hp (hc _ _ w) hcs
    have e1':KI (fun i=>some (i*P.cellsOf e,P.cellsOf e)) v.cells (parts.map fun p=>(p.1,a.eval p.2)).toList=some cells':=by rw[FE];exact e1
    refine B6 (v := .agg cells') ?_ (hK _ _ (h.put (AH hkd hro) (.agg cells' cs e2.1 e2.2.1 e2.2.2)));simp only[execOp,hop,UG,AL,hzv,A1,run_underlying hfs,hsz,e1',Bj]
   ·cases hk
  ·cases hk
 case bls n z ps =>
  simp only[G5] at hk;split at hk
  ·rename_i t len parts hop;simp only[BJ,Ak] at hev;obtain⟨cs,hcs,he⟩:=hev;cases he;simp only[Z3,Af,beq_iff_eq] at hk;obtain⟨rfl,hk⟩:=hk;split at hk
   ·rename_i e hu;split at hk
    ·rename_i ii hii;simp only[Af,decide_eq_true_eq] at hk;obtain⟨⟨⟨h1,h2⟩,h3⟩,hp⟩:=hk;split at h3
     ·rename_i zv hzv;simp only[Af,decide_eq_true_eq,beq_iff_eq] at h3;obtain⟨⟨h3,h4⟩,h5⟩:=h3;have hz0:0<zv.cells.toList.length:=by simp only[CQ];omega
      have hzl:zv.cells.toList.length=ii.size:=by simp only[CQ];exact h3
      obtain⟨hd,hg⟩:=ML (Y:=Y) (X:=fun b=>X0 b\/XS s a.tmps b) (w:=w) hz0 len z h5 (by rw[h4,hzl]);have hszr:(sizeOf e).run P w = .ok ii.size w:=by simp[sizeOf,typeInfo,program,F4,hii]
      have hzr:(zeroValue e).run P w = .ok zv w:=by simp[zeroValue,typeInfo,program,F4,hii,hzv]
      have hc0:D8 Y (fun b=>X0 b\/XS s a.tmps b) w ((H4 (len*ii.size)).map fun j=>zv.cells[j % zv.cells.size]!) z:=by
       refine⟨hd,by simp[h4],fun i g1 g2 => ?_⟩;obtain⟨u,hu1,hu2⟩:=hg i g2;have e1:zv.cells[i % zv.cells.size]! = u:=by
        have:zv.cells[i % zv.cells.size]? = some u:=by simpa using hu1
        simp[getElem!_def,this]
       simp only[tK,kY,e1];exact hu2
      obtain⟨cells',e1,e2⟩:=NW h (place:=fun i=>some (i*ii.size,ii.size)) (fun i off n hi=>by
       simp only[Af,beq_iff_eq] at hi;rw[hi.1,hi.2]) hp hc0 hcs
      have e1':KI (fun i=>some (i*ii.size,ii.size)) ((H4 (len*ii.size)).map fun j=>zv.cells[j % zv.cells.size]!) (parts.map fun p=>(p.1,a.eval p.2)).toList=some cells':=by rw[FE];exact e1
      have e3:len*ii.size=0->(H4 (len*ii.size)).map (fun j=>(#[]:Array Value)[j % (#[]:Array Value).size]!)=(H4 (len*ii.size)).map fun j=>zv.cells[j % zv.cells.size]! := fun hh=>by rw[hh];simp
      have hl1:¬ len*ii.size>2^24:=by omega
      simp only[EX,Af] at hro;obtain⟨d,hdst⟩:=Bi.1 hro.2;have hrun:(execOp a.eval o).run P w = .ok (.value (.slice (some ⟨w.heap.size,0,none⟩) len len)) (w.alloc (.cells cells' e)):=by
       by_cases hl0:len*ii.size=0
       ·simp only[execOp,hop,LR,AL,run_underlying hu,A1,hszr,hl1,if_false,if_pos hl0,Bj,e3 hl0,e1',newRow,run_newObj_alloc]
       ·simp only[execOp,hop,LR,AL,run_underlying hu,A1,hszr,hl1,if_false,hl0,Bj,hzr,e1',newRow,run_newObj_alloc]
      simp only[FT,hrun];refine hK _ _ ?_;rw[hdst];refine D7 (ks:=[]) h ((HF _ _).alloc (Ap _) _) (fun u hu => .inr (AH hkd hro.1 d hdst u hu)) (fun he=>(by cases he)) (fun X g1 g2 => ?_);have hc':=(e2.mono (X':=X) (fun b hb=>(g1 b hb).imp id Ahh)).world (w':=w.alloc (.cells cells' e)) (fun b _ hb=>X2 _ _ _ hb);refine .sl w.heap.size 0 len len cs (fun i=>cells'.getD i B5) hc'.1 (Ap _) (fun _ hx => ?_) (fun _ hy=>A5c _ (h.lowYw _ hy)) (fun i hi => ?_) (fun i hi => ?_)
      ·exact A5c _ (h.lowX _ (g2 rfl _ hx))
      ·have hi2:i<cells'.size:=by rw[hc'.2.1];exact hi
       have hb:(w.alloc (.cells cells' e)).heap[w.heap.size]? = some (.cells cells' e):=by show (w.heap.push _)[w.heap.size]? = _;simp
       rw[NZ hb];simp[hi2]
      ·have hi2:i<cells'.size:=by rw[hc'.2.1];exact hi
       have:=hc'.2.2 i hi2 hi;simpa [hi2] using this
     ·cases h3
    ·cases hk
   ·cases hk
  ·cases hk
 case adr x d off =>
  simp only[G5] at hk;split at hk
  ·rename_i t x' fi hop;simp only[Af] at hk;obtain⟨h1,hk⟩:=hk;split at hk
   ·rename_i fs hfs;split at hk
    ·rename_i f hf;simp only[Af,beq_iff_eq,Ey] at hk;obtain⟨⟨rfl,h2⟩,h3⟩:=hk;simp only[EX,Af] at hro;obtain⟨ii,hii⟩:=Bi.1 h3;have hsz:∀ w,(sizeOf f.type).run P w = .ok ii.size w:=fun w=>by simp[sizeOf,typeInfo,program,F4,hii]
     have hne:¬ ii.size=0:=by
      intro e0;simp[Jl,hii,e0] at h2
     have hx':a.eval x'=a.tmps.getD x B5:=by
      cases x' <;> simp only[Cg] at h1 <;> try cases h1
      simp only[beq_iff_eq] at h1;subst h1;rfl
     have hrun:∀ b o0,a.eval x' = .pointer (some ⟨b,o0,none⟩)->(execOp a.eval o).run P w = .ok (.value (.pointer (some ⟨b,o0+f.offset,none⟩))) w:=by
      intro b o0 he;simp only[execOp,hop,Instr.fieldAt,AL,run_underlying hfs,A1,hf,he,Ki,Bj,fieldPlace,hsz,hne,if_false,Ht]
     have h0:=h.reg x;simp only[BJ] at hev;cases hr:A5 s x with
     | box cs =>
      rw[hr] at h0 hev;dsimp only at hev;split at hev
      ·rename_i hxd;subst hxd;cases hev;obtain⟨b,e1,_,_⟩:=h0;have:=hrun b 0 (by rw[hx',e1]);refine B6 this (hK _ _ ?_);exact NT (p:=⟨b,0,none⟩) h (AH hkd hro.1) (Ls hro.2) (by rw[e1];rfl) rfl
      ·cases hev
     | ptr d' o0 =>
      rw[hr] at h0 hev;dsimp only at hev;split at hev
      ·rename_i hxd;subst hxd;cases hev;obtain⟨_,p,e1,e2,e3⟩:=h0;have:=hrun p.block (p.off+o0) (by rw[hx',e3]);refine B6 this (hK _ _ ?_);have hp:=NT (off:=o0+f.offset) h (AH hkd hro.1) (Ls hro.2) e1 e2;rw[<- DE] at hp;exact hp
      ·cases hev
     | mem cs =>
      rw[hr] at h0 hev;cases hev;obtain⟨b,o0,e1,e2,e3⟩:=h0;have:=hrun b o0 (by rw[hx',e1]);refine B6 this (hK _ _ ?_);refine NS h (AH hkd hro.1) (fun hne=>e2 (fun hn=>hne (by rw[hn];simp))) (e3.drop _)
     | val x=>rw[hr] at hev;cases hev
     | own _ _ _=>rw[hr] at hev;cases hev
     | agn _ _ _ _=>rw[hr] at hev;cases hev
     | bxl _=>rw[hr] at hev;cases hev
     | dup d=>rw[hr] at hev;cases hev
     | sub _ _ _ _=>rw[hr] at hev;cases hev
     | dead=>rw[hr] at hev;cases hev
    ·cases hk
   ·cases hk
  ·cases hk
 case ld x d n one =>
  simp only[G5] at hk;split at hk
  ·rename_i t x' hop;simp only[Af] at hk;obtain⟨h1,h2⟩:=hk;have hx':a.eval x'=a.tmps.getD x B5:=by
    cases x' <;> simp only[Cg] at h1 <;> try cases h1
    simp only[beq_iff_eq] at h1;subst h1;rfl
   have h0:=h.reg x;have fin:∀ (b base off:Nat) (cs:List AV) (y:AV),a.eval x' = .pointer (some ⟨b,base+off,none⟩)->Gp Y (fun b=>X0 b\/XS s a.tmps b) w b base cs->Bv cs off n one=some y ->
     (∀ a' w',Rel Y X0 roots w0 (Ea s o.dst (.val y)) a' w'->K' a' w')->o.wp P a w K' Q:=by
    intro b base off cs y he hm ht hK';obtain⟨v,hrun,hr⟩:=bY (P:=P) h2 hm ht;refine B6 (v:=v) ?_ (hK' _ _ (h.put (AH hkd hro) hr));simp only[execOp,hop,Instr.loadAt,he,Ki,AL,Bj,A1,hrun]
   simp only[BJ] at hev;cases hr:A5 s x with
   | box cs =>
    rw[hr] at h0 hev;dsimp only at hev;split at hev
    ·simp only[Ak] at hev;obtain⟨y,hy,he⟩:=hev;cases he;obtain⟨b,e1,_,e3⟩:=h0;exact fin b 0 0 cs y (by rw[hx',e1]) e3.mem hy hK
    ·cases hev
   | ptr d' off =>
    rw[hr] at h0 hev;dsimp only at hev;split at hev
    ·rename_i hd;subst hd;have h3:=h.reg d';cases hr2:A5 s d' with
     | box cs =>
      rw[hr2] at h3 hev;simp only[Ak] at hev;obtain⟨y,hy,he⟩:=hev;cases he;obtain⟨b,e1,_,e3⟩:=h3;obtain⟨_,p,g1,g2,g3⟩:=h0;rw[e1] at g1;cases g1;exact fin b 0 off cs y (by rw[hx',g3]) e3.mem hy hK
     | val x=>rw[hr2] at hev;cases hev
     | ptr _ _=>rw[hr2] at hev;cases hev
     | mem _=>rw[hr2] at hev;cases hev
     | own k n cs =>
      rw[hr2] at h3 hev;simp only[Ak] at hev;obtain⟨y,hy,he⟩:=hev;cases he;obtain⟨_,p,g1,g2,g3⟩:=h0;rcases h3 with ⟨e1,_⟩ | ⟨b,cap,e1,_,_,_,e3,_⟩
      ·rw[e1] at g1;cases g1
      ·rw[e1] at g1;cases g1;exact fin b 0 off cs y (by rw[hx',g3]) e3.mem hy hK
     | agn _ _ _ _=>rw[hr2] at hev;cases hev
     | bxl _=>rw[hr2] at hev;cases hev
     | dup d=>rw[hr2] at hev;cases hev
     | sub _ _ _ _=>rw[hr2] at hev;cases hev
     | dead=>rw[hr2] at hev;cases hev
    ·cases hev
   | mem cs =>
    rw[hr] at h0 hev;simp only[Ak] at hev;obtain⟨y,hy,he⟩:=hev;cases he;obtain⟨b,off,e1,_,e3⟩:=h0;exact fin b off 0 cs y (by simp[hx',e1]) e3 hy hK
   | val x=>rw[hr] at hev;cases hev
   | own _ _ _=>rw[hr] at hev;cases hev
   | agn _ _ _ _=>rw[hr] at hev;cases hev
   | bxl _=>rw[hr] at hev;cases hev
   | dup d=>rw[hr] at hev;cases hev
   | sub _ _ _ _=>rw[hr] at hev;cases hev
   | dead=>rw[hr] at hev;cases hev
  ·cases hk
 case st x d n v =>
  simp only[G5] at hk;split at hk
  ·rename_i t x' v' hop;simp only[Af] at hk;obtain⟨⟨h1,h2⟩,h3⟩:=hk;have hx':a.eval x'=a.tmps.getD x B5:=by
    cases x' <;> simp only[Cg] at h1 <;> try cases h1
    simp only[beq_iff_eq] at h1;subst h1;rfl
   have hdst:o.dst=none:=by simpa [EX] using hro
   have h0:=h.reg x;simp only[BJ] at hev;split at hev
   ·cases hev
   ·rename_i va hva;split at hev
    ·cases hev
    ·rename_i ys hys;obtain⟨hn,hc⟩:=MG (CF h h3 hva) hys;have fin:∀ (b off:Nat) (cs cs':List AV),A5 s d = .box cs->a.tmps.getD d B5 = .pointer (some ⟨b,0,none⟩)->a.eval x' = .pointer (some ⟨b,off,none⟩)->C6 cs off ys=some cs' ->
       (∀ a' w',Rel Y X0 roots w0 (s.set d (.box cs')) a' w'->K' a' w')->o.wp P a w K' Q:=by
      intro b off cs cs' hrd hvd he hl hK';have h4:=h.reg d;rw[hrd] at h4;obtain⟨b',e1,hB,e3⟩:=h4;rw[hvd] at e1;cases e1;have hX:(fun b=>X0 b\/XS s a.tmps b) b := .inr ⟨d,by rw[hrd];rfl,by rw[hvd];rfl⟩;obtain⟨w',hrun,g1,g2,g3,g4,g5,g6,g7⟩:=Yg (P:=P) (Kp h2) e3 hX hc hn hl;have hrun':(execOp a.eval o).run P w = .ok .skip w':=by
       simp only[execOp,hop,Xw,he,Ki,AL,Bj,A1,hrun]
      simp only[FT,hrun',FD];rw[hdst];refine hK' _ _ (Rel.store h hrd rfl rfl (by rw[hvd];rfl) hB g1 g2 g3 g4 g5 (fun X hX => ?_));exact⟨b,hvd,hB,g6.mono fun c hc => .inl ((hX c).1 hc)⟩
     have finO:∀ (b off k m:Nat) (cs cs':List AV),A5 s d = .own k m cs->Bq (a.tmps.getD d B5)=some b->a.eval x' = .pointer (some ⟨b,off,none⟩)->C6 cs off ys=some cs' ->
       (∀ a' w',Rel Y X0 roots w0 (s.set d (.own k m cs')) a' w'->K' a' w')->o.wp P a w K' Q:=by
      intro b off k m cs cs' hrd hvd he hl hK';obtain⟨b',cap,e1,e2,e3,e4,e5,e6,hXb⟩:=(h.ownLow hrd).resolve_left (fun hh=>by rw[hh.1] at hvd;cases hvd);have hbb:b'=b:=by rw[e1] at hvd;simpa [Bq,HT] using hvd
      subst hbb;obtain⟨w',hrun,g1,g2,g3,g4,g5,g6,g7⟩:=Yg (P:=P) (Kp h2) e5 (.inr hXb) hc hn hl;have hrun':(execOp a.eval o).run P w = .ok .skip w':=by
       simp only[execOp,hop,Xw,he,Ki,AL,Bj,A1,hrun]
      simp only[FT,hrun',FD];rw[hdst];refine hK' _ _ (Rel.store h hrd rfl rfl hvd e4 g1 g2 g3 g4 g5 (fun X hX => ?_));refine .inr ⟨b',cap,e1,e2,by rw[(Mg hl).2.1];exact e3,e4,g6.mono fun c hc => .inl ((hX c).1 hc),g7 _ e6⟩
     rw[hdst] at hK;cases hr:A5 s x with
     | box cs =>
      rw[hr] at h0 hev;dsimp only at hev;split at hev
      ·rename_i hxd;subst hxd;simp only[Ak] at hev;obtain⟨cs',hl,he⟩:=hev;cases he;obtain⟨b,e1,_,_⟩:=h0;exact fin b 0 cs cs' hr e1 (by rw[hx',e1]) hl hK
      ·cases hev
     | ptr d' off =>
      rw[hr] at h0 hev;dsimp only at hev;split at hev
      ·rename_i hd;subst hd;have h5:=h.reg d';cases hr2:A5 s d' with
       | box cs =>
        rw[hr2] at h5 hev;simp only[Ak] at hev;obtain⟨cs',hl,he⟩:=hev;cases he;obtain⟨b,e1,_,e3⟩:=h5;obtain⟨_,p,g1,g2,g3⟩:=h0;rw[e1] at g1;cases g1;exact fin b off cs cs' hr2 e1 (by rw[hx',g3];simp) hl hK
       | val x=>rw[hr2] at hev;cases hev
       | ptr _ _=>rw[hr2] at hev;cases hev
       | mem _=>rw[hr2] at hev;cases hev
       | own k m cs =>
        rw[hr2] at h5 hev;simp only[Ak] at hev;obtain⟨cs',hl,he⟩:=hev;cases he;obtain⟨_,p,g1,g2,g3⟩:=h0;rcases h5 with ⟨e1,_⟩ | ⟨b,cap,e1,_,_,_,e3,_⟩
        ·rw[e1] at g1;cases g1
        ·rw[e1] at g1;cases g1;exact finO b off k m cs cs' hr2 (by rw[e1];rfl) (by rw[hx',g3];simp) hl hK
       | agn _ _ _ _=>rw[hr2] at hev;cases hev
       | bxl _=>rw[hr2] at hev;cases hev
       | dup d=>rw[hr2] at hev;cases hev
       | sub _ _ _ _=>rw[hr2] at hev;cases hev
       | dead=>rw[hr2] at hev;cases hev
      ·cases hev
     | val x=>rw[hr] at hev;cases hev
     | mem _=>rw[hr] at hev;cases hev
     | own _ _ _=>rw[hr] at hev;cases hev
     | agn _ _ _ _=>rw[hr] at hev;cases hev
     | bxl _=>rw[hr] at hev;cases hev
     | dup d=>rw[hr] at hev;cases hev
     | sub _ _ _ _=>rw[hr] at hev;cases hev
     | dead=>rw[hr] at hev;cases hev
  ·cases hk
 case fld x off n one =>
  simp only[G5] at hk;split at hk
  ·rename_i t x' fi hop;simp only[Af] at hk;obtain⟨h1,hk⟩:=hk;split at hk
   ·rename_i fs hfs;split at hk
    ·rename_i f hf;simp only[Af,beq_iff_eq] at hk;obtain⟨rfl,h2⟩:=hk;simp only[BJ] at hev;split at hev
     ·rename_i cs hx;simp only[Ak] at hev;obtain⟨y,hy,he⟩:=hev;cases he;have hxr:=CF h h1 hx;generalize hxv:a.eval x'=xv at hxr;cases hxr with
      | agg vs _ hd hs hr =>
       obtain⟨v,hrun,hr⟩:=Aib (P:=P) h2 ⟨hd,hs,hr⟩ hy;refine B6 (v:=v) ?_ (hK _ _ (h.put (AH hkd hro) hr));simp only[execOp,hop,vM,AL,run_underlying hfs,A1,hf,hxv,asAgg,Bj,hrun]
     ·cases hev
    ·cases hk
   ·cases hk
  ·cases hk
 case ixa x i k =>
  simp only[G5] at hk;split at hk
  ·rename_i t x' i' hop;simp only[Af] at hk;obtain⟨⟨h1,h2⟩,hk⟩:=hk;split at hk
   ·rename_i e hu;simp only[BJ] at hev;split at hev
    ·rename_i ki iv hi;have hir:=CF h h2 hi;generalize hiv:a.eval i'=ivv at hir;cases hir;have hx':a.eval x'=a.tmps.getD x B5:=by
      cases x' <;> simp only[Cg] at h1 <;> try cases h1
      simp only[beq_iff_eq] at h1;subst h1;rfl
     have h0:=h.reg x;split at hev
     ·rename_i n cs hr;rw[hr] at h0;split at hev
      ·rename_i hb;cases hev;rw[<- hx'] at h0;generalize hxv:a.eval x'=xv at h0;cases h0 with
       | nil0=>exact absurd hb (by omega)
       | e0 _ _=>exact absurd hb (by omega)
       | sl b off _ cap _ f hd hn hX hY hcell hrr =>
        have hmem:Gp Y (fun b=>X0 b\/XS s a.tmps b) w b off cs:=⟨hd,fun j hj=>⟨f j,hcell j hj,hrr j hj⟩⟩;refine B6 (v := .pointer (some ⟨b,off+iv.toNat*k,none⟩)) ?_ (hK _ _ ?_)
        ·simp only[execOp,hop,Xx,AL,hiv,asIntOf,Bj,A1,run_underlying hu,hxv,hb,and_self,if_true,Kp hk,Ht]
        ·refine NS h (AH hkd hro) (fun hne=>hX (fun hn=>hne (by rw[hn];simp))) (hmem.drop _)
      ·cases hev
     ·cases hev
    ·cases hev
   ·cases hk
  ·cases hk
 case six x i =>
  simp only[G5] at hk;split at hk
  ·rename_i t x' i' hop;simp only[Af] at hk;obtain⟨⟨h1,h2⟩,hk⟩:=hk;split at hk
   ·rename_i hu;simp only[BJ] at hev;split at hev
    ·rename_i bs ki iv hx hi;simp only[Ak] at hev;obtain⟨c,hc,he⟩:=hev;cases he;have hir:=CF h h2 hi;generalize hiv:a.eval i'=ivv at hir;cases hir;have hxr:=CF h h1 hx;generalize hxv:a.eval x'=xv at hxr;cases hxr;refine B6 (v := .int .u8 c.toNat) ?_ (hK _ _ (h.put (AH hkd hro) (.int _ _)));simp only[execOp,hop,Instr.index,AL,hiv,asIntOf,Bj,A1,run_underlying hu,hxv,hc]
    ·cases hev
   ·cases hk
  ·cases hk
 case ext x i =>
  simp only[G5] at hk;split at hk
  ·rename_i x' i' hop;simp only[Af,beq_iff_eq] at hk;obtain⟨h1,rfl⟩:=hk;simp only[BJ] at hev;split at hev
   ·rename_i vs hx;simp only[Ak] at hev;obtain⟨y,hy,he⟩:=hev;cases he;have hxr:=CF h h1 hx;generalize hxv:a.eval x'=xv at hxr;cases hxr with
    | tup us _ hs hr =>
     obtain⟨hlt,hyy⟩:=H7.1 hy;have hlt2:i'<us.size:=by omega
     refine B6 (v:=us[i']) ?_ (hK _ _ (h.put (AH hkd hro) (hyy ▸ hr i' hlt2 hlt)));simp only[execOp,hop,Ayr,hxv,DZ hlt2,AL,Bj,A1]
   ·cases hev
  ·cases hk
 case len x =>
  simp only[G5] at hk;split at hk
  ·rename_i args ts hop;unfold Z4 at hk;split at hk
   ·rename_i x' t hargs hts;simp only[Af] at hk;obtain⟨h1,h2⟩:=hk;have e1:args=#[x']:=by rw[<- Fs (xs:=args),hargs]
    have e2:ts=#[t]:=by rw[<- Fs (xs:=ts),hts]
    subst e1 e2;split at h2
    ·rename_i e hu;simp only[BJ] at hev;have fin:∀ (base:Option Addr) (n c:Nat),a.eval x' = .slice base n c->(∀ a' w',Rel Y X0 roots w0 (Ea s o.dst (.val (.int .i64 n))) a' w'->K' a' w')->o.wp P a w K' Q:=by
      intro base n c he hK';refine B6 (v := .int .i64 n) ?_ (hK' _ _ (h.put (AH hkd hro) (.int _ _)));simp[execOp,hop,resolve,invoke,builtin,Aie,he,run_underlying hu,goInt]
     split at hev
     ·rename_i hx;cases hev;have hxr:=CF h h1 hx;generalize hxv:a.eval x'=xv at hxr;cases hxr;exact fin _ _ _ hxv hK
     ·rename_i n cs hx;cases hev;have hxr:=CF h h1 hx;generalize hxv:a.eval x'=xv at hxr;cases hxr <;> exact fin _ _ _ hxv hK
     ·cases hev
    ·cases h2
   ·cases hk
  ·cases hk
 case mx xs =>
  simp only[G5] at hk;split at hk
  ·rename_i args ts hop;simp only[BJ] at hev;split at hev
   ·rename_i k n l hx;simp only[Ak] at hev;obtain⟨m,hm,he⟩:=hev;cases he;obtain⟨e1,e2⟩:=Mj h hk hx;cases hal:args.toList with
    | nil=>rw[hal] at e1;simp at e1
    | cons x0 rest =>
     have e1':rest.length=l.length:=by rw[hal] at e1;simpa using e1
     have h0:=e2 0 (by rw[hal];simp) (by simp);simp only[hal,FM] at h0;generalize hxv:a.eval x0=xv at h0;cases h0;have hfold:=cB (P:=P) (Y:=Y) (X:=fun b=>X0 b\/XS s a.tmps b) (w:=w) (vs:=rest.map a.eval) (l:=l) (by simpa using e1') (fun i g1 g2=>by
      have:=e2 (i+1) (by rw[hal];simp at g1 |-;omega) (by simp;omega);simpa [hal] using this) hm
     refine B6 (v := .int k m) ?_ (hK _ _ (h.put (AH hkd hro) (.int _ _)));have hmap:(args.map a.eval).toList = .int k n::rest.map a.eval:=by rw[FE,hal,C8,hxv]
     simp only[execOp,hop,resolve,invoke,builtin,Builtin.max_,AL,Bj,A1,hmap,hfold]
   ·cases hev
  ·cases hk
 case mn xs =>
  simp only[G5] at hk;split at hk
  ·rename_i args ts hop;simp only[BJ] at hev;split at hev
   ·rename_i k n l hx;simp only[Ak] at hev;obtain⟨m,hm,he⟩:=hev;cases he;obtain⟨e1,e2⟩:=Mj h hk hx;cases hal:args.toList with
    | nil=>rw[hal] at e1;simp at e1
    | cons x0 rest =>
     have e1':rest.length=l.length:=by rw[hal] at e1;simpa using e1
     have h0:=e2 0 (by rw[hal];simp) (by simp);simp only[hal,FM] at h0;generalize hxv:a.eval x0=xv at h0;cases h0;have hfold:=cC (P:=P) (Y:=Y) (X:=fun b=>X0 b\/XS s a.tmps b) (w:=w) (vs:=rest.map a.eval) (l:=l) (by simpa using e1') (fun i g1 g2=>by
      have:=e2 (i+1) (by rw[hal];simp at g1 |-;omega) (by simp;omega);simpa [hal] using this) hm
     refine B6 (v := .int k m) ?_ (hK _ _ (h.put (AH hkd hro) (.int _ _)));have hmap:(args.map a.eval).toList = .int k n::rest.map a.eval:=by rw[FE,hal,C8,hxv]
     simp only[execOp,hop,resolve,invoke,builtin,Builtin.min_,AL,Bj,A1,hmap,hfold]
   ·cases hev
  ·cases hk
 case call f xs =>
  simp only[G5] at hk;split at hk
  ·rename_i f' args ts hop;simp only[Af,beq_iff_eq] at hk;obtain⟨⟨rfl,h1⟩,h2⟩:=hk;simp only[BJ] at hev;split at hev
   ·rename_i vs hx;simp only[Ak] at hev;obtain⟨y,hy,he⟩:=hev;cases he;obtain⟨e1,e2⟩:=Mj h h1 hx;split at h2
    ·rename_i fn hfn;simp only[Af,Ey] at h2;obtain⟨hbody,hname⟩:=h2;have hbn:¬ fn.body=none:=by intro e0;rw[e0] at hbody;cases hbody
     have hnm:¬ fn.name = "runtime.NumGoroutine" := by simpa using hname
     have hrun:(execOp a.eval o).run P w = .ok (.enter f' (args.map a.eval)) w:=by
      simp[execOp,hop,resolve,Li,Qk,invoke,callFunc,program,F4,hfn,hnm,hbn]
     have hcall:=hF f' vs y hy Y (fun b=>X0 b\/XS s a.tmps b) w (args.map a.eval) h.lowX h.lowYw (by simpa using e1) (fun i g1 g2=>by
      have:=e2 i (by simpa using g1) g2;simpa using this)
     simp only[FT,hrun,FD];refine hcall.mono fun e w' ⟨v,he,hb,hr⟩ => ?_;subst he;refine hK _ _ ?_;cases hdst:o.dst with
     | none =>
      refine⟨h.dfr,h.size,h.below.trans (hb.mono h.below.size),h.low,h.lowY,fun t => ?_,h.inj⟩;exact KL.world (h.reg t) hb
     | some d =>
      refine D7 (ks:=[]) h hb (fun u hu => .inr (AH hkd hro d hdst u hu)) (fun he=>(by cases he)) (fun X _ g2 => ?_);exact (hr.thawed h.lowX h.lowYw).mono fun b hb => .inl (g2 rfl b hb)
    ·cases h2
   ·cases hev
  ·cases hk
 case clo f xs =>
  simp only[G5] at hk;split at hk
  ·rename_i f' args ts hop;simp only[Af,beq_iff_eq] at hk;obtain⟨⟨rfl,h1⟩,h2⟩:=hk;simp only[BJ] at hev;split at hev
   ·rename_i vs hx;simp only[Ak] at hev;obtain⟨y,hy,he⟩:=hev;cases he;obtain⟨e1,e2⟩:=Mj h h1 hx;split at h2
    ·rename_i fn hfn;simp only[Af,Ey] at h2;obtain⟨hbody,hname⟩:=h2;have hbn:¬ fn.body=none:=by intro e0;rw[e0] at hbody;cases hbody
     have hnm:¬ fn.name = "runtime.NumGoroutine" := by simpa using hname
     have hrun:(execOp a.eval o).run P w = .ok (.enter f' (args.map a.eval)) w:=by
      simp[execOp,hop,resolve,Li,Qk,invoke,callFunc,program,F4,hfn,hnm,hbn]
     have hcall:=hF f' vs y hy Y (fun b=>X0 b\/XS s a.tmps b) w (args.map a.eval) h.lowX h.lowYw (by simpa using e1) (fun i g1 g2=>by
      have:=e2 i (by simpa using g1) g2;simpa using this)
     simp only[FT,hrun,FD];refine hcall.mono fun e w' ⟨v,he,hb,hr⟩ => ?_;subst he;refine hK _ _ ?_;simp only[EX,Af] at hro;obtain⟨d,hdst⟩:=Bi.1 hro.2;rw[hdst];cases y
     case fresh k n cs =>
      simp only[KN] at hr;refine D7 (ks:=[]) h hb (fun u hu => .inr (AH hkd hro.1 d hdst u hu)) (fun _ b hb=>(FY.block hr hb).1) (fun X g1 _ => ?_);exact OZ h.below.size hr g1
     case frs bb k n cs =>
      simp only[KN] at hr;refine D7 (ks:=[]) h hb (fun u hu => .inr (AH hkd hro.1 d hdst u hu)) (fun _ b hb=>(JO.block hr hb).1) (fun X g1 _ => ?_);obtain⟨u,rfl,hr⟩:=hr;rw[FH _ hr] at g1;refine⟨u,rfl,OZ h.below.size ?_ g1⟩;rw[FH _ hr] at hr;exact hr
     all_goals
      refine D7 (ks:=[]) h hb (fun u hu => .inr (AH hkd hro.1 d hdst u hu)) (fun he=>(by cases he)) (fun X _ g2 => ?_);exact Rd.mono hr fun b hb => .inl (g2 rfl b hb)
    ·cases h2
   ·cases hev
  ·cases hk
 case brw f x d =>
  simp only[G5] at hk;split at hk
  ·rename_i f' args ts hop;simp only[Af,beq_iff_eq] at hk;obtain⟨⟨rfl,h1⟩,h2⟩:=hk;simp only[BJ] at hev;split at hev
   ·rename_i d' hrx;split at hev
    ·rename_i hdd;subst hdd;split at hev
     ·rename_i k n cs hrd;split at hev
      ·rename_i hni;split at hev
       ·rename_i y hy;split at hev
        ·rename_i hio;cases hev;have hvx:=h.reg x;rw[hrx] at hvx;have hev:a.tmps.getD x B5=a.tmps.getD d' B5:=hvx.2;have hown:=h.reg d';rw[hrd] at hown;have hXd:∀ b,Bq (a.tmps.getD d' B5)=some b->(X0 b\/XS s a.tmps b):=fun b hb => .inr ⟨d',by rw[hrd];rfl,hb⟩;obtain⟨S,ho1,hox⟩:∃ S,args.toList=[S]/\Cg S (.t x)=true:=by
          cases hal:args.toList with
          | nil=>rw[hal] at h1;cases h1
          | cons S l =>
           rw[hal] at h1;simp only[Jk,Af] at h1;cases l with
           | nil=>exact⟨S,rfl,h1.1⟩
           | cons _ _=>cases h1.2
         have hoe:a.eval S=a.tmps.getD d' B5:=by
          cases S <;> first | (cases hox;done) | skip
          rename_i m;simp only[Cg,beq_iff_eq] at hox;subst hox;rw[<- hev];rfl
         split at h2
         ·rename_i fn hfn;simp only[Af,Ey] at h2;obtain⟨hbody,hname⟩:=h2;have hbn:¬ fn.body=none:=by intro e0;rw[e0] at hbody;cases hbody
          have hnm:¬ fn.name = "runtime.NumGoroutine" := by simpa using hname
          have hrun:(execOp a.eval o).run P w = .ok (.enter f' (args.map a.eval)) w:=by
           simp[execOp,hop,resolve,Li,Qk,invoke,callFunc,program,F4,hfn,hnm,hbn]
          have hargs:args=#[S]:=by
           apply vV.1;rw[ho1]
          have hlent:Rd (fun c=>Y c\/Bq (a.tmps.getD d' B5)=some c) (fun c=>(X0 c\/XS s a.tmps c)/\¬ Bq (a.tmps.getD d' B5)=some c) w (a.tmps.getD d' B5) (.sl n cs) :=
           bW hown (fun b hb=>hb.1) (fun b hb=>hb.imp id (hXd b)) (fun b hb hx=>hx.2 hb) hni
          have hcall:=hF f' [.sl n cs] y hy (fun c=>Y c\/Bq (a.tmps.getD d' B5)=some c) (fun c=>(X0 c\/XS s a.tmps c)/\¬ Bq (a.tmps.getD d' B5)=some c) w (args.map a.eval)
           (fun b hb=>h.lowX b hb.1) (fun b hb=>hb.elim (h.lowYw b) (fun hb=>h.lowX b (hXd b hb))) (by rw[hargs];simp) (fun i g1 g2=>by
            have hi:i=0:=by simp at g2;exact g2
            subst hi;subst hargs;simp only[List.map_toArray,C8,FU,Zy,FM];rw[hoe];exact hlent)
          simp only[FT,hrun,FD];refine hcall.mono fun e w' ⟨v,he,hb,hr⟩ => ?_;subst he;refine hK _ _ ?_;have hback:Rd Y (fun b=>X0 b\/XS s a.tmps b) w' v (KK y):=by
           refine (hr.thawed (fun b hb=>h.lowX b hb.1) (fun b hb=>hb.elim (h.lowYw b) (fun hb=>h.lowX b (hXd b hb)))).back hio (fun b hb => ?_) (fun b hb => .inl hb);by_cases hq:Bq (a.tmps.getD d' B5)=some b
           ·exact .inr (.inr hq)
           ·exact .inl ⟨hb,hq⟩
          cases hdst:o.dst with
          | none =>
           refine⟨h.dfr,h.size,h.below.trans (hb.mono h.below.size),h.low,h.lowY,fun t => ?_,h.inj⟩;exact KL.world (h.reg t) hb
          | some d =>
           refine D7 (ks:=[]) h hb (fun u hu => .inr (AH hkd hro d hdst u hu)) (fun he=>(by cases he)) (fun X _ g2 => ?_);exact hback.mono fun b hb => .inl (g2 rfl b hb)
         ·cases h2
        ·cases hev
       ·cases hev
      ·cases hev
     ·cases hev
    ·cases hev
   ·cases hev
  ·cases hk
 case cpy x =>
  have hx:=N' (a:=a) (P:=P) (w:=w) hk;simp only[EX,Af] at hro;simp only[BJ] at hev;have h0:=h.reg x;split at hev
  ·rename_i v hr;cases hev;rw[hr] at h0;exact B6 hx (hK _ _ (h.put (AH hkd hro.1) h0))
  ·cases hev;exact B6 hx (hK _ _ (h.putDup (AH hkd hro.1) (Ls hro.2)))
  ·cases hev
 case tra x =>
  have hx:=N' (a:=a) (P:=P) (w:=w) hk;simp only[EX,Af] at hro;simp only[BJ] at hev;have h0:=h.reg x;split at hev
  ·rename_i v hr;cases hev;rw[hr] at h0;exact B6 hx (hK _ _ (h.put (AH hkd hro.1) h0))
  ·rename_i k n cs hr;cases hev;obtain⟨d,hdst⟩:=Bi.1 hro.2;refine B6 hx (hK _ _ ?_);rw[hdst];rcases h.ownLow hr with ⟨e1,rfl,rfl⟩ | ⟨b,cap,e1,e2,e3,e4,e5,e6,hXb⟩
   ·rw[e1];exact Mk (ow:=true) (ks:=[x]) h (fun u hu => .inr (AH hkd hro.1 d hdst u hu))
   refine Rel.shift h hr (b:=b) (by rw[e1];rfl) (fun u hu=>AH hkd hro.1 d hdst u hu) rfl rfl rfl rfl (fun _ _=>rfl) (fun _=>by rw[e1];rfl) (fun X g1 _ => ?_);exact .inr ⟨b,cap,e1,e2,e3,e4,e5.mono fun c hc => .inl (g1 c hc),e6⟩
  ·rename_i b k n cs hr;cases hev;obtain⟨d,hdst⟩:=Bi.1 hro.2;rw[hr] at h0;refine B6 hx (hK _ _ ?_);rw[hdst];exact h.pass (by rw[hr];rfl) rfl (fun u hu=>AH hkd hro.1 d hdst u hu) (fun X g1=>JO.mono h0 fun c hc => .inl (g1 c hc))
  ·cases hev
 case frz x =>
  have hx:=N' (a:=a) (P:=P) (w:=w) hk;simp only[BJ] at hev;have h0:=h.reg x;split at hev
  ·rename_i v hr;cases hev;rw[hr] at h0;exact B6 hx (hK _ _ (h.put (AH hkd hro) h0))
  ·rename_i k n cs hr;cases hev;have hf:=h.freeze hr;have h1:=hf.reg x;have hlt:x<s.length:=by
    rcases Cn x s.length with hlt | hge
    ·exact hlt
    ·simp only[A5,Z,AD hge] at hr;cases hr
   rw[D0,if_pos ⟨rfl,hlt⟩] at h1;refine B6 hx (hK _ _ (hf.put (fun d hd t ht => ?_) h1));have hfree:=AH hkd hro d hd t ht;rw[D0];split
   ·rfl
   ·exact hfree
  ·cases hev
 case mks z n =>
  simp only[G5] at hk;split at hk
  ·rename_i t l c hop;simp only[Af] at hk;obtain⟨⟨⟨h1,h2⟩,h3⟩,h4⟩:=hk;simp only[EX,Af] at hro;obtain⟨d,hdst⟩:=Bi.1 hro.2;simp only[BJ] at hev;split at hev
   ·rename_i kk m hn;split at hev
    ·rename_i hb;cases hev;have hl:=CF h h1 hn;have hc:=CF h h2 hn;generalize hlv:a.eval l=lv at hl;generalize hcv:a.eval c=cv at hc;cases hl;cases hc;obtain⟨e,cells,hrun,hcells⟩:=Aia (P:=P) (Y:=Y) (X:=fun b=>X0 b\/XS s a.tmps b) (w:=w) (kl:=kk) (kc:=kk) h3 h4 hb.1 hb.2;have hrun':(execOp a.eval o).run P w = .ok (.value (.slice (some ⟨w.heap.size,0,none⟩) m.toNat m.toNat)) (w.alloc (.cells cells e)):=by
      simp only[execOp,hop,hlv,hcv,AL,hrun,A1,Bj]
     simp only[FT,hrun',FD];refine hK _ _ ?_;rw[hdst];exact cF h (fun u hu=>AH hkd hro.1 d hdst u hu) hcells (LQ z m.toNat)
    ·cases hev
   ·cases hev
  ·cases hk
 case blo k n z ps =>
  simp only[G5] at hk;split at hk
  ·rename_i t len parts hop;simp only[Af] at hk;obtain⟨hk,hel⟩:=hk;simp only[BJ,Ak] at hev;obtain⟨cs,hcs,he⟩:=hev;cases he;simp only[Z3,Af,beq_iff_eq] at hk;obtain⟨rfl,hk⟩:=hk;obtain⟨e',i',zv',hu',hi',hs',hk',_,_,_⟩:=E6 hel;split at hk
   ·rename_i e hu;split at hk
    ·rename_i ii hii;obtain rfl:e=e':=by rw[hu] at hu';cases hu';rfl
     obtain rfl:ii=i':=by rw[hii] at hi';cases hi';rfl
     simp only[Af,decide_eq_true_eq] at hk;obtain⟨⟨⟨h1,h2⟩,h3⟩,hp⟩:=hk;split at h3
     ·rename_i zv hzv;simp only[Af,decide_eq_true_eq,beq_iff_eq] at h3;obtain⟨⟨h3,h4⟩,h5⟩:=h3;have hz0:0<zv.cells.toList.length:=by simp only[CQ];omega
      have hzl:zv.cells.toList.length=ii.size:=by simp only[CQ];exact h3
      obtain⟨hd,hg⟩:=ML (Y:=Y) (X:=fun b=>X0 b\/XS s a.tmps b) (w:=w) hz0 len z h5 (by rw[h4,hzl]);have hszr:(sizeOf e).run P w = .ok ii.size w:=by simp[sizeOf,typeInfo,program,F4,hii]
      have hzr:(zeroValue e).run P w = .ok zv w:=by simp[zeroValue,typeInfo,program,F4,hii,hzv]
      have hc0:D8 Y (fun b=>X0 b\/XS s a.tmps b) w ((H4 (len*ii.size)).map fun j=>zv.cells[j % zv.cells.size]!) z:=by
       refine⟨hd,by simp[h4],fun i g1 g2 => ?_⟩;obtain⟨u,hu1,hu2⟩:=hg i g2;have e1:zv.cells[i % zv.cells.size]! = u:=by
        have:zv.cells[i % zv.cells.size]? = some u:=by simpa using hu1
        simp[getElem!_def,this]
       simp only[tK,kY,e1];exact hu2
      obtain⟨cells',e1,e2⟩:=NW h (place:=fun i=>some (i*ii.size,ii.size)) (fun i off n hi=>by
       simp only[Af,beq_iff_eq] at hi;rw[hi.1,hi.2]) hp hc0 hcs
      have e1':KI (fun i=>some (i*ii.size,ii.size)) ((H4 (len*ii.size)).map fun j=>zv.cells[j % zv.cells.size]!) (parts.map fun p=>(p.1,a.eval p.2)).toList=some cells':=by rw[FE];exact e1
      have e3:len*ii.size=0->(H4 (len*ii.size)).map (fun j=>(#[]:Array Value)[j % (#[]:Array Value).size]!)=(H4 (len*ii.size)).map fun j=>zv.cells[j % zv.cells.size]! := fun hh=>by rw[hh];simp
      have hl1:¬ len*ii.size>2^24:=by omega
      simp only[EX,Af] at hro;obtain⟨d,hdst⟩:=Bi.1 hro.2;have hrun:(execOp a.eval o).run P w = .ok (.value (.slice (some ⟨w.heap.size,0,none⟩) len len)) (w.alloc (.cells cells' e)):=by
       by_cases hl0:len*ii.size=0
       ·simp only[execOp,hop,LR,AL,run_underlying hu,A1,hszr,hl1,if_false,if_pos hl0,Bj,e3 hl0,e1',newRow,run_newObj_alloc]
       ·simp only[execOp,hop,LR,AL,run_underlying hu,A1,hszr,hl1,if_false,hl0,Bj,hzr,e1',newRow,run_newObj_alloc]
      simp only[FT,hrun,FD];refine hK _ _ ?_;rw[hdst];refine cF h (fun u hu=>AH hkd hro.1 d hdst u hu) e2 ?_;rw[PJ hcs,h4,hs']
     ·cases h3
    ·cases hk
   ·cases hk
  ·cases hk
 case apd ow x y k B =>
  simp only[G5] at hk;split at hk
  ·rename_i args ts hop;unfold Ahw at hk;split at hk
   ·rename_i x' y' t t' hargs hts;simp only[Af] at hk;obtain⟨⟨⟨⟨h1,h2⟩,h3⟩,h4⟩,h5⟩:=hk;have e1:args=#[x',y']:=by rw[<- Fs (xs:=args),hargs]
    have e2:ts=#[t,t']:=by rw[<- Fs (xs:=ts),hts]
    subst e1 e2;simp only[EX,Af] at hro;obtain⟨d,hdst⟩:=Bi.1 hro.2;have hfr:∀ u,(u,d)∈roots->F3 (A5 s u)=false:=fun u hu=>AH hkd hro.1 d hdst u hu;have hrunO:∀ {v:Value} {w':World},(CE #[t,t'] o.type #[a.eval x',a.eval y']).run P w = .ok v w'->(execOp a.eval o).run P w = .ok (.value v) w':=by
     intro v w' hh;simp[execOp,hop,resolve,invoke,builtin,hh]
    simp only[BJ] at hev;split at hev
    ·-- nothing to append
     rename_i hy;have hyr:=CF h h2 hy;generalize hyv:a.eval y'=yv at hyr hrunO;cases hyr;split at hev
     ·rename_i hxr;cases hev;have hxx:=CF h h1 (tI hxr);generalize hxv:a.eval x'=xv at hxx hrunO;cases hxx;have hr:=hrunO (append_nil (P:=P) (w:=w) (ty:=o.type) h3 h4);exact B6 hr (hK _ _ (h.put (AH hkd hro.1) .nil))
     ·rename_i k' n cs hxr;obtain⟨nx,rfl⟩:=cE hxr;simp only[Opd.reg] at hxr;split at hev
      ·rename_i hkk;subst hkk;cases hev;rcases h.ownLow hxr with ⟨e1,rfl,rfl⟩ | ⟨b,cap,e1,e2,e3,e4,e5,e6,hXb⟩
       ·have hxv:a.eval x' = .slice none 0 0:=by rw[EF h1,e1]
        rw[hxv] at hrunO;have hr:=hrunO (append_nil (P:=P) (w:=w) (ty:=o.type) h3 h4);refine B6 hr (hK _ _ ?_);rw[hdst];exact Mk (ks:=[nx]) h (fun u hu => .inr (hfr u hu))
       have hxv:a.eval x' = .slice (some ⟨b,0,none⟩) n cap:=by rw[EF h1,e1]
       rw[hxv] at hrunO;have hr:=hrunO (Rf (P:=P) (w:=w) (ty:=o.type) h3 h4 e2);refine B6 hr (hK _ _ ?_);rw[hdst];refine Rel.shift h hxr (b:=b) (by rw[e1];rfl) hfr rfl rfl rfl rfl (fun _ _=>rfl) (fun _=>rfl) (fun X g1 g2 => ?_);exact U0 (.inr ⟨b,cap,rfl,e2,e3,e4,e5.mono fun c hc => .inl (g1 c hc),e6⟩) (fun he=>by subst he;exact fun c hc=>by cases hc;exact g2 rfl) h.lowY
      ·cases hev
     ·cases hev
    ·rename_i m ys hy;have hyr:=Azj (CF h h2 hy);split at hev
     ·rename_i hylen;have fromNil:a.eval x' = .slice none 0 0->m<=B->∀ ks:List Nat,(∀ a' w',Rel Y X0 roots w0 (Ea (Cd s (ks.map fun u=>(u,Reg.dead))) (some d) (if ow then .own k m ys else .val (.sl m ys))) a' w'->K' a' w')->o.wp P a w K' Q:=by
       intro hxv hm2 ks hK';rw[hxv] at hrunO;rcases FJ m with hm | hm
       ·subst hm;have hy0:ys=[]:=A7 (by simpa using hylen);subst hy0;have hr:(execOp a.eval o).run P w = .ok (.value (.slice none 0 0)) w:=by
         rcases hyr with ⟨_,_,hyv | ⟨p,c,hyv⟩⟩ | ⟨b,off,cap,hyv,_⟩
         ·rw[hyv] at hrunO;exact hrunO (append_nil (P:=P) (w:=w) (ty:=o.type) h3 h4)
         ·rw[hyv] at hrunO;exact hrunO (Re (P:=P) (w:=w) (ty:=o.type) h3 h4)
         ·rw[hyv] at hrunO;exact hrunO (Re (P:=P) (w:=w) (ty:=o.type) h3 h4)
        refine B6 hr (hK' _ _ ?_);rw[hdst];exact Mk (ks:=ks) h (fun u hu => .inr (hfr u hu))
       ·obtain⟨v',w',hrun,hbel,hown⟩:=Rc (P:=P) (ty:=o.type) (n:=0) (cs:=[]) h3 h4 h5 (.inl ⟨rfl,rfl,rfl,hm⟩) (by simp) hyr hm hylen (by omega);have hr:=hrunO hrun;simp only[FT,hr,FD];refine hK' _ _ ?_;rw[hdst];simp only[Cs,JN] at hown;exact Qj (ks:=ks) h hbel (fun u hu => .inr (hfr u hu)) hown
      split at hev
      ·rename_i hxr;have hxx:=CF h h1 (tI hxr);generalize hxv:a.eval x'=xv at hxx;cases hxx;split at hev
       ·rename_i hm2;cases hev;rw[hdst] at hK;exact fromNil hxv hm2 [] hK
       ·cases hev
      ·rename_i k' n cs hxr;obtain⟨nx,rfl⟩:=cE hxr;simp only[Opd.reg] at hxr;split at hev
       ·rename_i hkk;obtain⟨rfl,hnm⟩:=hkk;cases hev;rcases h.ownLow hxr with ⟨e1,rfl,rfl⟩ | ⟨b,cap,e1,e2,e3,e4,e5,e6,hXb⟩
        ·rw[hdst] at hK;simp only[Cs,JN] at hK;exact fromNil (by rw[EF h1,e1]) (by omega) [nx] hK
        have hxv:a.eval x' = .slice (some ⟨b,0,none⟩) n cap:=by rw[EF h1,e1]
        rw[hxv] at hrunO;by_cases hyn:m=0
        ·subst hyn;have hy0:ys=[]:=A7 (by simpa using hylen);subst hy0;have hr:(execOp a.eval o).run P w = .ok (.value (.slice (some ⟨b,0,none⟩) n cap)) w:=by
          rcases hyr with ⟨_,_,hyv | ⟨p,c,hyv⟩⟩ | ⟨b',off',cap',hyv,_⟩
          ·rw[hyv] at hrunO;exact hrunO (Rf (P:=P) (w:=w) (ty:=o.type) h3 h4 e2)
          ·rw[hyv] at hrunO;exact hrunO (PI (P:=P) (w:=w) (ty:=o.type) h3 h4 e2)
          ·rw[hyv] at hrunO;exact hrunO (PI (P:=P) (w:=w) (ty:=o.type) h3 h4 e2)
         refine B6 hr (hK _ _ ?_);rw[hdst];refine Rel.shift h hxr (b:=b) (by rw[e1];rfl) hfr rfl rfl rfl rfl (fun _ _=>rfl) (fun _=>rfl) (fun X g1 g2 => ?_);simp only[FP,PC] at g2 |-;exact U0 (.inr ⟨b,cap,rfl,e2,e3,e4,e5.mono fun c hc => .inl (g1 c hc),e6⟩) (fun he=>by subst he;exact fun c hc=>by cases hc;exact g2 rfl) h.lowY
        by_cases hroom:n+m<=cap
        ·obtain⟨w',hrun,g1,g2,g3,g4,g5,g6,g7⟩:=Z7 (P:=P) (ty:=o.type) h3 h4 hroom (Y:=Y) (X:=fun b=>X0 b\/XS s a.tmps b) (.inr hXb) e5 e6 e3 hyr hyn hylen;have hr:=hrunO hrun;simp only[FT,hr,FD];refine hK _ _ ?_;rw[hdst];refine Rel.shift h hxr (b:=b) (by rw[e1];rfl) hfr g1 g2 g3 g4 g5 (fun _=>rfl) (fun X q1 q2 => ?_);exact U0 (.inr ⟨b,cap,rfl,hroom,by rw[Bf,e3,hylen,DY],e4,g6.mono fun c hc => .inl (q1 c hc),g7⟩) (fun he=>by subst he;exact fun c hc=>by cases hc;exact q2 rfl) h.lowY
        ·obtain⟨v',w',hrun,hbel,hown⟩:=Rc (P:=P) (ty:=o.type) h3 h4 h5 (.inr ⟨b,cap,rfl,by omega,e5.mem⟩) e3 hyr (by omega) hylen hnm;have hr:=hrunO hrun;simp only[FT,hr,FD];refine hK _ _ ?_;rw[hdst];exact Qj (ks:=[nx]) h hbel (fun u hu => .inr (hfr u hu)) hown
       ·cases hev
      ·cases hev
     ·cases hev
    ·cases hev
   ·cases hk
  ·cases hk
 case sli x lo hi mx k =>
  simp only[G5] at hk;split at hk
  ·rename_i t x' lo' hi' mx' hop;simp only[Af] at hk;obtain⟨⟨⟨⟨h1,h2⟩,h3⟩,h4⟩,h5⟩:=hk;have hrunO:∀ {v:Value},(kW t (a.eval x') (lo'.map a.eval) (hi'.map a.eval) (mx'.map a.eval)).run P w = .ok v w->(execOp a.eval o).run P w = .ok (.value v) w:=by
    intro v hh;simp only[execOp,hop,AL,hh,A1,Bj]
   simp only[BJ] at hev;split at hev
   ·rename_i hx;have hxr:=CF h h1 hx;generalize hxv:a.eval x'=xv at hxr hrunO;cases hxr;split at hev
    ·rename_i b1 b2 b3;split at hev
     ·rename_i c4;cases hev;have hb:=MJ (P:=P) (w:=w) (len:=0) (cap:=0) (m:=0) (h:=0) (l:=0) (Azk h h4 b1 rfl (Ap _)) (Aid h h3 h4 b2 c4 (fun _=>Ap _) (fun _=>Ap _)) (tJ h h2 b3 (Ap _));have hr:=hrunO (MK h5 hb);exact B6 hr (hK _ _ (h.put (AH hkd hro) .nil))
     ·cases hev
    ·cases hev
   ·rename_i n cs hx;have hxr:=CF h h1 hx;split at hev
    ·rename_i m hh l b1 b2 b3;split at hev
     ·rename_i hc;cases hev;obtain⟨c1,c2,c3,c4⟩:=hc;obtain⟨ad,cap,hv,hcap,hres,hnone⟩:=vU (k:=k) (m:=if mx.isSome then m else Aic (a.eval x')) hxr c1 (by omega);rw[hv] at hrunO hres;have hb:=MJ (P:=P) (w:=w) (len:=n) (cap:=cap) (m:=if mx.isSome then m else cap) (h:=hh) (l:=l) (A8a h h4 b1 (by omega)) (Aid h h3 h4 b2 c4 (fun hs=>by rw[if_pos hs];exact c2) (fun hs=>by rw[if_neg hs];omega)) (tJ h h2 b3 c1);have hr:=hrunO (MK h5 hb);refine B6 hr (hK _ _ (h.put (AH hkd hro) (hres ?_ (fun hn => ?_))))
      ·simp only[Aic];split
       ·exact c2
       ·omega
      ·have h0:=hnone hn;simp only[Aic];split
       ·omega
       ·exact h0
     ·cases hev
    ·cases hev
   ·cases hev
  ·cases hk
 case nlo k =>
  simp only[G5] at hk;simp only[BJ] at hev;cases hev;simp only[EX,Af] at hro;obtain⟨d,hdst⟩:=Bi.1 hro.2;have hr:(execOp a.eval o).run P w = .ok (.value (.slice none 0 0)) w:=by
   split at hk
   ·rename_i hop;simp[execOp,hop,Qk]
   ·rename_i hop;simp[execOp,hop,Qk]
   ·cases hk
  refine B6 hr (hK _ _ ?_);rw[hdst];exact Mk (ow:=true) (ks:=[]) h (fun u hu => .inr (AH hkd hro.1 d hdst u hu))
 case bdo y x ls =>
  simp only[G5] at hk;split at hk
  ·rename_i t parts hop;obtain⟨a',x',hparts,h1,h2,hrun⟩:=vS hk;simp only[EX,Af] at hro;obtain⟨d,hdst⟩:=Bi.1 hro.2;simp only[BJ] at hev;split at hev
   ·rename_i b hb;split at hev
    ·rename_i k n cs hr;split at hev
     case isFalse=>cases hev
     rename_i hls;cases hev;have hkd':∀ t∈oks++ls,F3 (A5 s t)=false:=Ty hkd hls;have hbr:=CF h h1 hb;generalize hbv:a.eval a'=bv at hbr;cases hbr;have hx':=EF (a:=a) h2;have h0:=h.reg x;rw[hr] at h0;have hcell:(a.tmps.getD x B5).cells=#[a.tmps.getD x B5]:=by
      rcases h0 with ⟨e,_⟩ | ⟨_,_,e,_⟩ <;> rw[e] <;> rfl
     have hpe:(parts.map fun p=>(p.1,a.eval p.2))=#[(0,.bool b),(1,a.tmps.getD x B5)]:=by
      apply vV.1;rw[FE,hparts];simp[hbv,hx']
     refine B6 (v := .agg #[.bool b,a.tmps.getD x B5]) ?_ (hK _ _ ?_)
     ·simp only[execOp,hop,AL];rw[show (parts.map fun x:Nat × Operand=>match x with | (i,x)=>(i,a.eval x))=(parts.map fun p=>(p.1,a.eval p.2)) from rfl,hpe,hrun b _ hcell w]
      rfl
     ·rw[hdst];exact h.pass (by rw[hr];rfl) (FH (.st b) h0) (fun u hu=>AH hkd' hro.1 d hdst u hu) (fun X g1=>⟨_,rfl,FY.mono h0 fun c hc => .inl (g1 c hc)⟩)
    ·cases hev
   ·cases hev
  ·cases hk
 case stl x v =>
  simp only[G5] at hk;split at hk
  ·rename_i t x' v' hop;simp only[Af] at hk;obtain⟨⟨h1,h2⟩,h3⟩:=hk;simp only[EX,Af,Option.isNone_iff_eq_none,IG,decide_eq_true_eq] at hro;obtain⟨hdst,hroot⟩:=hro;simp only[BJ] at hev;split at hev
   ·rename_i cs hr;split at hev
    ·rename_i bb k n ds hrv;split at hev
     ·rename_i hcs;cases hev;have hx':=EF (a:=a) h1;have hv':=EF (a:=a) h3;have h0:=h.reg x;rw[hr] at h0;obtain⟨b,e1,hB,hd,vs,T,e2,e3,_⟩:=h0;have h5:=h.reg v;rw[hrv] at h5;obtain⟨u,hu,h5⟩:=h5;have hcell:u.oneCell'=true:=by
       rcases h5 with ⟨e,_⟩ | ⟨_,_,e,_⟩ <;> rw[e] <;> rfl
      have hsz:=Kp h2;have hrow:=run_storeCells_at (P:=P) b 0 T [.bool bb,u] 0 vs w e2 (by simp;omega) (by
       intro y hy;simp only[D4,Uo,or_false] at hy;rcases hy with rfl | rfl
       ·rfl
       ·exact hcell)
      have hrun':(execOp a.eval o).run P w = .ok .skip (w.setRow b (vs.toList.take (0+0)++[.bool bb,u]++vs.toList.drop (0+0+[Uz bb,u].length)).toArray):=by
       have hcells:(Value.agg #[.bool bb,u]).cells=#[.bool bb,u]:=rfl;simp only[execOp,hop,Xw,hx',e1,hv',hu,bX,Ki,AL,Bj,A1,storeVar,hsz,hcells];simp only[Ix,Bz,JQ,ne_eq,not_true_eq_false,if_false];rw[hrow];rfl
      simp only[FT,hrun',FD];rw[hdst] at hK |-;refine hK _ _ (Rel.store (w':=w.setRow b _) h hr rfl rfl (by rw[e1];rfl) hB rfl rfl rfl (Kn _ _ _) (fun c hc=>HK _ _ _ _ hc) (fun X hX => ?_));have hlt:b<w.heap.size:=(EK.1 e2).1;refine⟨hroot,b,e1,hB,by rw[Kn];exact hlt,fun i hi => ?_⟩;rw[NZ (setRow_heap w b vs _ T (0,0) e2),hu];match i,hi with
      | 0,_=>rfl
      | 1,_=>rfl
     ·cases hev
    ·cases hev
   ·cases hev
  ·cases hk
 case cln f xs ls =>
  simp only[G5] at hk;split at hk
  ·rename_i f' args ts hop;simp only[Af,beq_iff_eq] at hk;obtain⟨⟨rfl,h1⟩,h2⟩:=hk;simp only[BJ] at hev;split at hev
   ·rename_i vs hx;split at hev
    case isFalse=>cases hev
    rename_i hls;have hkd':∀ t∈oks++ls,F3 (A5 s t)=false:=Ty hkd hls;simp only[Ak] at hev;obtain⟨y,hy,he⟩:=hev;cases he;obtain⟨e1,e2⟩:=Mj h h1 hx;unfold tH at h2;split at h2
    ·rename_i fn hfn;simp only[Af,Ey] at h2;obtain⟨hbody,hname⟩:=h2;have hbn:¬ fn.body=none:=by intro e0;rw[e0] at hbody;cases hbody
     have hnm:¬ fn.name = "runtime.NumGoroutine" := by simpa using hname
     have hrun:(execOp a.eval o).run P w = .ok (.enter f' (args.map a.eval)) w:=by
      simp[execOp,hop,resolve,Li,Qk,invoke,callFunc,program,F4,hfn,hnm,hbn]
     have hcall:=hF f' vs y hy Y (fun b=>X0 b\/XS s a.tmps b) w (args.map a.eval) h.lowX h.lowYw (by simpa using e1) (fun i g1 g2=>by
      have:=e2 i (by simpa using g1) g2;simpa using this)
     simp only[FT,hrun,FD];refine hcall.mono fun e w' ⟨v,he,hb,hr⟩ => ?_;subst he;refine hK _ _ ?_;simp only[EX,Af] at hro;obtain⟨d,hdst⟩:=Bi.1 hro.2;rw[hdst];cases y
     case fresh k n cs =>
      simp only[KN] at hr;refine D7 (ks:=[]) h hb (fun u hu => .inr (AH hkd' hro.1 d hdst u hu)) (fun _ b hb=>(FY.block hr hb).1) (fun X g1 _ => ?_);exact OZ h.below.size hr g1
     case frs bb k n cs =>
      simp only[KN] at hr;refine D7 (ks:=[]) h hb (fun u hu => .inr (AH hkd' hro.1 d hdst u hu)) (fun _ b hb=>(JO.block hr hb).1) (fun X g1 _ => ?_);obtain⟨u,rfl,hr⟩:=hr;rw[FH _ hr] at g1;refine⟨u,rfl,OZ h.below.size ?_ g1⟩;rw[FH _ hr] at hr;exact hr
     all_goals
      refine D7 (ks:=[]) h hb (fun u hu => .inr (AH hkd' hro.1 d hdst u hu)) (fun he=>(by cases he)) (fun X _ g2 => ?_);exact Rd.mono hr fun b hb => .inl (g2 rfl b hb)
    ·cases h2
   ·cases hev
  ·cases hk
 case fdo x =>
  simp only[G5] at hk;split at hk
  ·rename_i t x' hop;simp only[Af] at hk;obtain⟨h1,h2⟩:=hk;simp only[EX,Af] at hro;obtain⟨d,hdst⟩:=Bi.1 hro.2;simp only[BJ] at hev;split at hev
   ·rename_i b k n cs hr;cases hev;have hx':=EF (a:=a) h1;have h0:=h.reg x;rw[hr] at h0;obtain⟨u,hu,h0⟩:=h0;refine B6 (v:=u) ?_ (hK _ _ ?_)
    ·simp only[execOp,hop,AL,hx',hu,bX,vT h2 b u w];rfl
    ·rw[hdst];exact h.pass (by rw[hr];rfl) (by rw[hu];exact (FH (.st b) h0).symm) (fun u hu=>AH hkd hro.1 d hdst u hu) (fun X g1=>FY.mono h0 fun c hc => .inl (g1 c hc))
   ·cases hev
  ·cases hk
 case exo x =>
  simp only[G5] at hk;split at hk
  ·rename_i x' hop;simp only[EX,Af] at hro;obtain⟨d,hdst⟩:=Bi.1 hro.2;simp only[BJ] at hev;split at hev
   ·rename_i b k n cs hr;cases hev;have hx':=EF (a:=a) hk;have h0:=h.reg x;rw[hr] at h0;obtain⟨u,hu,h0⟩:=h0;have hrd:∀ X,Rd Y X w u (.sl n []):=by
     intro X;rcases h0 with ⟨rfl,rfl,_⟩ | ⟨c,cap,rfl,hle,_⟩
     ·exact .nil0
     ·exact .sl c 0 n cap [] (fun _=>B5) (by intro y hy;cases hy) hle (fun hne=>absurd rfl hne) (fun ⟨y,hy,_⟩=>by cases hy) (fun i hi=>by simp at hi) (fun i hi=>by simp at hi)
    refine B6 (v:=u) ?_ (hK _ _ ?_)
    ·simp only[execOp,hop,Ayr,hx',hu,bX,AL,Bj];rfl
    ·rw[hdst];have hp:=h.pass (r := .own k n cs) (v:=u) (by rw[hr];rfl) (by rw[hu];exact (FH (.tp b) h0).symm) (fun u hu=>AH hkd hro.1 d hdst u hu) (fun X g1=>FY.mono h0 fun c hc => .inl (g1 c hc));by_cases hxd:x=d
     ·subst hxd;simp only[Ea,Cd,Sb] at hp |-;exact hp
     ·simp only[Ea,Cd] at hp |-;have e1:((s.set x (.val (.tup [.sl n [],.bool b]))).set d (.own k n cs))=(((s.set x .dead).set d (.own k n cs)).set x (.val (.tup [.sl n [],.bool b]))):=by
       rw[lE (i:=x) (j:=d) _ _ hxd,lE (i:=x) (j:=d) _ _ hxd,Sb]
      rw[e1];refine hp.wake ?_ ?_
      ·rw[D0,if_neg (fun g=>hxd g.1.symm),D0];split
       ·rfl
       ·rename_i g;simp only[true_and,Nat.not_lt] at g;simp only[A5,Z,AD g];rfl
      ·have e2:(a.put (some d) u).tmps.getD x B5 = .tuple #[u,.bool b]:=by
        show (a.tmps.setIfInBounds d u).getD x B5=_;rw[Mf,if_neg (fun g=>hxd g.1.symm)];exact hu
       rw[e2];refine Rd.tup #[u,.bool b] [.sl n [],.bool b] rfl fun i h1 h2 => ?_;match i,h2 with
       | 0,_=>exact hrd _
       | 1,_=>exact Rd.bool b
   ·cases hev
  ·cases hk
 case slo x hi k =>
  simp only[G5] at hk;split at hk
  ·rename_i t x' hi' hop;simp only[Af] at hk;obtain⟨⟨h1,h2⟩,h5⟩:=hk;simp only[EX,Af] at hro;obtain⟨d,hdst⟩:=Bi.1 hro.2;simp only[BJ] at hev;split at hev
   ·rename_i ki iv hiv;split at hev
    ·rename_i k' n cs hr;split at hev
     ·rename_i hc;obtain⟨rfl,c1,c2⟩:=hc;cases hev;have hbr:=CF h h2 hiv;generalize hbv:a.eval hi'=bv at hbr;cases hbr;have hx':=EF (a:=a) h1;have h0:=h.reg x;rw[hr] at h0;have hle:iv.toNat<=n:=by omega
      rcases h0 with ⟨e,rfl,rfl⟩ | ⟨b,cap,e,e2,e3,e4,e5,e6⟩
      ·have hb:=MJ (P:=P) (w:=w) (len:=0) (cap:=0) (m:=0) (h:=iv.toNat) (l:=0) (lo:=none) (hi:=some (.int ki iv)) (mx:=none) (.inl ⟨rfl,rfl⟩) (.inr ⟨ki,iv,rfl,c1,rfl,hle⟩) (.inl ⟨rfl,rfl⟩);have hz:iv.toNat=0:=by omega
       refine B6 (v := .slice none 0 0) ?_ (hK _ _ ?_)
       ·simp only[execOp,hop,AL,hx',e,X3,A9,hbv,MK h5 hb,hz];rfl
       ·rw[hdst,hz];simpa using Mk (ow:=true) (ks:=[x]) h (fun u hu => .inr (AH hkd hro.1 d hdst u hu))
      ·have hb:=MJ (P:=P) (w:=w) (len:=n) (cap:=cap) (m:=cap) (h:=iv.toNat) (l:=0) (lo:=none) (hi:=some (.int ki iv)) (mx:=none) (.inl ⟨rfl,rfl⟩) (.inr ⟨ki,iv,rfl,c1,rfl,by omega⟩) (.inl ⟨rfl,rfl⟩);refine B6 (v := .slice (some ⟨b,0,none⟩) iv.toNat cap) ?_ (hK _ _ ?_)
       ·simp only[execOp,hop,AL,hx',e,X3,A9,hbv,MK h5 hb,Tx,Kk,Ht,ite_self];rfl
       ·rw[hdst];refine h.pass (by rw[hr];rfl) (by rw[e];rfl) (fun u hu=>AH hkd hro.1 d hdst u hu) (fun X g1 => .inr ⟨b,cap,rfl,by omega,?_,e4,?_,e6⟩)
        ·rw[AB,e3,Nat.min_eq_left (AE _ hle)]
        ·obtain⟨q1,vs,T,q2,q3,q4⟩:=e5.mono (X':=X) fun c hc => .inl (g1 c hc);refine⟨fun y hy=>q1 y (C5 hy),vs,T,q2,?_,fun i hi => ?_⟩
         ·have:(cs.take (iv.toNat*k')).length<=cs.length:=by rw[AB];exact Nat.min_le_right _ _
          omega
         ·obtain⟨v,r1,r2⟩:=q4 i (by simp at hi;omega);exact⟨v,r1,by simpa using r2⟩
     ·cases hev
    ·cases hev
   ·cases hev
  ·cases hk
 case ixo x d i k =>
  simp only[G5] at hk;split at hk
  ·rename_i t x' i' hop;simp only[Af] at hk;obtain⟨⟨h1,h2⟩,hk⟩:=hk;obtain⟨e,ii,zv,hu,hii,hs,hk0,_,_,_⟩:=E6 hk;have hsz:(sizeOf e).run P w = .ok k w:=by simp[sizeOf,typeInfo,program,F4,hii,hs]
   simp only[EX,Af] at hro;simp only[BJ] at hev;split at hev
   ·rename_i ki iv hi;have hir:=CF h h2 hi;generalize hiv:a.eval i'=ivv at hir;cases hir;have hx':=EF (a:=a) h1;have h0:=h.reg x;split at hev
    ·rename_i n cs hr;rw[hr] at h0;split at hev
     ·rename_i hb;cases hev;rw[<- hx'] at h0;generalize hxv:a.eval x'=xv at h0;cases h0 with
      | nil0=>exact absurd hb (by omega)
      | e0 _ _=>exact absurd hb (by omega)
      | sl b off _ cap _ f hd hn hX hY hcell hrr =>
       have hmem:Gp Y (fun b=>X0 b\/XS s a.tmps b) w b off cs:=⟨hd,fun j hj=>⟨f j,hcell j hj,hrr j hj⟩⟩;refine B6 (v := .pointer (some ⟨b,off+iv.toNat*k,none⟩)) ?_ (hK _ _ ?_)
       ·simp only[execOp,hop,Xx,AL,hiv,asIntOf,Bj,A1,run_underlying hu,hxv,hb,and_self,if_true,hsz,Ht]
       ·refine NS h (AH hkd hro.1) (fun hne=>hX (fun hn=>hne (by rw[hn];simp))) (hmem.drop _)
     ·cases hev
    ·rename_i d' hr;split at hev
     ·rename_i hd;subst hd;split at hev
      ·rename_i k' n cs hr2;split at hev
       ·rename_i hb;obtain⟨rfl,hb⟩:=hb;cases hev;rw[hr] at h0;obtain⟨b,cap,e1,_⟩:=(h.ownLow hr2).resolve_left (fun hh=>by omega);have hxv:a.eval x' = .slice (some ⟨b,0,none⟩) n cap:=by rw[hx',h0.2,e1]
        refine B6 (v := .pointer (some ⟨b,0+iv.toNat*k',none⟩)) ?_ (hK _ _ ?_)
        ·simp only[execOp,hop,Xx,AL,hiv,asIntOf,Bj,A1,run_underlying hu,hxv,hb,and_self,if_true,hsz,Ht]
        ·exact NT (p:=⟨b,0,none⟩) h (AH hkd hro.1) (Ls hro.2) (by rw[e1];rfl) rfl
       ·cases hev
      ·cases hev
     ·cases hev
    ·cases hev
   ·cases hev
  ·cases hk
 case lno x d =>
  simp only[G5] at hk;split at hk
  ·rename_i args ts hop;unfold Z4 at hk;split at hk
   ·rename_i x' t hargs hts;simp only[Af] at hk;obtain⟨h1,h2⟩:=hk;have e1:args=#[x']:=by rw[<- Fs (xs:=args),hargs]
    have e2:ts=#[t]:=by rw[<- Fs (xs:=ts),hts]
    subst e1 e2;split at h2
    ·rename_i e hu;simp only[BJ] at hev;have fin:∀ (base:Option Addr) (n c:Nat),a.eval x' = .slice base n c->(∀ a' w',Rel Y X0 roots w0 (Ea s o.dst (.val (.int .i64 n))) a' w'->K' a' w')->o.wp P a w K' Q:=by
      intro base n c he hK';refine B6 (v := .int .i64 n) ?_ (hK' _ _ (h.put (AH hkd hro) (.int _ _)));simp[execOp,hop,resolve,invoke,builtin,Aie,he,run_underlying hu,goInt]
     have hx':=EF (a:=a) h1;have h0:=h.reg x;split at hev
     ·rename_i hr;cases hev;rw[hr,<- hx'] at h0;generalize hxv:a.eval x'=xv at h0;cases h0;exact fin _ _ _ hxv hK
     ·rename_i n cs hr;cases hev;rw[hr,<- hx'] at h0;generalize hxv:a.eval x'=xv at h0;cases h0 <;> exact fin _ _ _ hxv hK
     ·rename_i d' hr;split at hev
      ·rename_i hd;subst hd;split at hev
       ·rename_i k n cs hr2;cases hev;rw[hr] at h0;rcases h.ownLow hr2 with ⟨e1,rfl,_⟩ | ⟨b,cap,e1,_⟩
        ·exact fin _ _ _ (by rw[hx',h0.2,e1]) hK
        ·exact fin _ _ _ (by rw[hx',h0.2,e1]) hK
       ·cases hev
      ·cases hev
     ·cases hev
    ·cases h2
   ·cases hk
  ·cases hk
end
def US(ops:Array Oper):Option (Nat × Bool)->Option (Nat × Bool)->Bool
 | none,none=>true
 | some (j,b),some (t,b')=>(ops[j]?).bind (·.dst)==some t&&b==b'
 | _,_=>false
def tL(roots:List (Nat × Nat))(io:IOp):Bool:=io.g.isNone || Gq roots io.ks io.dst
def n(P:Program)(roots:List (Nat × Nat))(ops:Array Oper)(o:Oper)(io:IOp):Bool :=
 G5 P o.op io.k&&o.dst==io.dst&&EX roots io.ks io.dst io.k&&US ops o.guard io.g&&tL roots io
section
variable {P:Program} {Y X0:Nat->Prop} {roots:List (Nat × Nat)} {w0 w:World} {s:Al} {a:Act} {Q:Exit->Act->World->Prop}
theorem Yh(h:Rel Y X0 roots w0 s a w){ops:Array Oper}{o:Oper}{g:Option (Nat × Bool)}{b:Bool}(hg:US ops o.guard g=true)(hw:GS s g=some b):UT o (yielded ops a.tmps)=b:=by
 unfold US at hg;split at hg
 ·rename_i h1;simp only[GS,A3] at hw;subst hw;simp[UT,h1]
 ·rename_i j b1 t b2 h1;simp only[Af,beq_iff_eq] at hg;obtain⟨h2,rfl⟩:=hg;have h0:=h.reg t;simp only[GS] at hw;simp only[UT,h1,yielded,h2,Option.bind_some];have hlt:∀ v,a.tmps.getD t B5=v->v ≠ B5->a.tmps[t]? = some v:=by
   intro v hv hne;rw[CS] at hv;cases hh:a.tmps[t]? with
   | none=>rw[hh] at hv;exact absurd hv.symm hne
   | some u=>rw[hh] at hv;simp at hv;rw[hv]
  cases hr:A5 s t with
  | val x =>
   rw[hr] at hw h0;generalize hv:a.tmps.getD t B5=v at h0;cases h0 with
   | bool c =>
    dsimp only at hw;rw[hlt _ hv (by nofun)];simp only[A3] at hw;rw[<- hw];cases c <;> cases b1 <;> rfl
   | undef =>
    dsimp only at hw;simp only[A3] at hw;rw[<- hw];rw[CS] at hv;cases hh:a.tmps[t]? with
    | none=>simp
    | some u=>rw[hh] at hv;simp at hv;rw[hv];simp[B5]
   | int _ _=>cases hw
   | str _=>cases hw
   | agg _ _ _ _ _=>cases hw
   | tup _ _ _ _=>cases hw
   | nil=>cases hw
   | nil0=>cases hw
   | e0 _ _=>cases hw
   | sl _ _ _ _ _ _ _ _ _ _ _=>cases hw
   | pt _ _ _ _ _ _ _ _=>cases hw
   | fnc _ _ _ _=>cases hw
  | box _=>rw[hr] at hw;cases hw
  | ptr _ _=>rw[hr] at hw;cases hw
  | mem _=>rw[hr] at hw;cases hw
  | own _ _ _=>rw[hr] at hw;cases hw
  | agn _ _ _ _=>rw[hr] at hw;cases hw
  | bxl _=>rw[hr] at hw;cases hw
  | dup _=>rw[hr] at hw;cases hw
  | sub _ _ _ _=>rw[hr] at hw;cases hw
  | dead=>rw[hr] at hw;cases hw
 ·cases hg
theorem Aif{ops:Array Oper}{i:Nat}{o:Oper}{io:IOp}{F:BM}{s':Al}{K':Act->World->Prop}(h:Rel Y X0 roots w0 s a w)(hF:Lq P F)(hi:ops[i]? = some o)(ho:n P roots ops o io=true)
  (hev:FW F io s=some s') (hK:∀ a' w',Rel Y X0 roots w0 s' a' w'->K' a' w'):wpOp P ops Q i K' a w:=by
 simp only[n,Af,beq_iff_eq] at ho;obtain⟨⟨⟨⟨h1,h2⟩,h3⟩,h4⟩,h5⟩:=ho;simp only[FW,Iw] at hev;have hkd:∀ t∈io.ks,F3 (A5 (kill s io.ks) t)=false:=fun t ht=>by rw[FG,if_pos ht];rfl
 have h:=h.kill io.ks;generalize kill s io.ks=s at *
 simp only[wpOp,hi];split at hev
 ·cases hev
 ·rename_i hw;cases hev;rw[Yh h h4 hw];simp only[Cj,if_false];rw[h2];refine hK _ _ (h.put ?_ .undef);simp only[tL,HL] at h5;rcases h5 with h5 | h5
  ·cases hg:io.g with
   | none=>rw[hg] at hw;cases hw
   | some p=>rw[hg] at h5;cases h5
  ·exact AH hkd h5
 ·rename_i hw;rw[Yh h h4 hw];simp only[if_true];split at hev
  ·cases hev
  ·rename_i r l hk;cases hev;rw[<- h2] at hK h3;exact .inl (simK h hF h1 hkd h3 hk hK)
def MM(P:Program)(roots:List (Nat × Nat))(ops:Array Oper):List Oper->List IOp->Bool
 | [],[]=>true
 | o::l,io::m=>n P roots ops o io&&MM P roots ops l m
 | _,_=>false
theorem Ql{ops:Array Oper}:∀ {l:List Oper} {m:List IOp},MM P roots ops l m=true->l.length=m.length/\∀ (i:Nat) (o:Oper) (io:IOp),l[i]? = some o->m[i]? = some io->n P roots ops o io=true
 | [],[],_=>⟨rfl,fun i o io h=>(by simp at h)⟩
 | o::l,io::m,h=>by
  simp only[MM,Af] at h;obtain⟨e1,e2⟩:=Ql h.2;refine⟨by simp[e1],fun i o' io' h1 h2 => ?_⟩;cases i with
  | zero=>simp at h1 h2;subst h1 h2;exact h.1
  | succ i=>simp at h1 h2;exact e2 i o' io' h1 h2
 | [],_::_,h=>by cases h
 | _::_,[],h=>by cases h
theorem tM{ops:Array Oper}{F:BM}(hF:Lq P F):∀ {l:List Oper} {m:List IOp} {k:Nat} {s s':Al} {a:Act} {w:World},(∀ j,l[j]? = ops[k+j]?)->MM P roots ops l m=true->Rel Y X0 roots w0 s a w ->
  Ej F m s=some s'->(∀ a' w',Rel Y X0 roots w0 s' a' w'->Q .normal a' w')->wpOps P ops Q (List.range' k l.length) a w
 | [],[],k,s,s',a,w,_,_,h,hev,hQ=>by
  simp only[Ej,A3] at hev;subst hev;exact hQ _ _ h
 | o::l,io::m,k,s,s',a,w,hl,hok,h,hev,hQ=>by
  simp only[MM,Af] at hok;simp only[Ej] at hev;cases h1:FW F io s with
  | none=>rw[h1] at hev;cases hev
  | some s1 =>
   rw[h1] at hev;have hi:ops[k]? = some o:=by simpa using (hl 0).symm
   rw[Bz,List.range'_succ,wpOps_cons];exact Aif h hF hi hok.1 h1 fun a' w' h'=>tM hF (fun j=>by have:=hl (j+1);simpa [DE,GF 1 j] using this) hok.2 h' hev hQ
 | [],_::_,_,_,_,_,_,_,hok,_,_,_=>by cases hok
 | _::_,[],_,_,_,_,_,_,hok,_,_,_=>by cases hok
def H8(o:Oper):List Nat:=(o.after.toList.filter (Region.binds .any)).map (·.on)
def N_:List Oper->List (List Nat)->List (List Nat)
 | [],acc=>acc
 | o::l,acc=>N_ l (acc++[((H8 o)++(H8 o).flatMap fun p=>acc.getD p []).eraseDups])
theorem cG:∀ (l done:List Oper) (acc:List (List Nat)),acc.length=done.length ->
  (∀ (i j:Nat),j∈acc.getD i []->∃ o,done[i]? = some o/\∃ p∈H8 o,j=p\/(p<i/\j∈acc.getD p [])) ->
  ∀ (i j:Nat),j∈(N_ l acc).getD i []->∃ o,(done++l)[i]? = some o/\∃ p∈H8 o,j=p\/(p<i/\j∈(N_ l acc).getD p []):=by
 intro l;induction l with
 | nil=>intro done acc _ h i j hj;simpa [N_] using h i j hj
 | cons o l ih =>
  intro done acc hlen h i j hj;simp only[N_] at hj |-;have:=ih (done++[o]) (acc++[((H8 o)++(H8 o).flatMap fun p=>acc.getD p []).eraseDups]) (by simp[hlen]) (fun i j hj => ?_) i j hj
  ·simpa using this
  ·have lt_of:∀ (q x:Nat),x∈acc.getD q []->q<acc.length:=by
    intro q x hx;rcases Cn q acc.length with h1 | h1
    ·exact h1
    ·rw[Z,AD h1] at hx;cases hx
   have keep:∀ (q x:Nat),x∈acc.getD q []->x∈(acc++[((H8 o)++(H8 o).flatMap fun p=>acc.getD p []).eraseDups]).getD q []:=by
    intro q x hx;rw[Z,AN (lt_of q x hx),<- Z];exact hx
   rcases Cn i acc.length with h1 | h1
   ·rw[Z,AN h1,<- Z] at hj;obtain⟨o',e1,p,hp,e2⟩:=h i j hj;refine⟨o',by rw[AN (by omega)];exact e1,p,hp,?_⟩;rcases e2 with e2 | ⟨e2,e3⟩
    ·exact .inl e2
    ·exact .inr ⟨e2,keep p j e3⟩
   ·have hi:i=acc.length:=by
     rcases Cn acc.length i with h2 | h2
     ·rw[Z,AD (by simp;omega)] at hj;cases hj
     ·omega
    subst hi;rw[Z,AT (Ap _)] at hj;simp only[P8,Azd,GJ,List.mem_eraseDups,Cc,List.mem_flatMap] at hj;refine⟨o,by rw[hlen,AT (Ap _)];simp,?_⟩;rcases hj with hj | ⟨p,hp,hj⟩
    ·exact⟨j,hj,.inl rfl⟩
    ·exact⟨p,hp,.inr ⟨lt_of p j hj,keep p j hj⟩⟩
def cH(anc:List (List Nat))(io:List IOp):Bool :=
 io.zipIdx.all fun (b,i)=>(io.take i).zipIdx.all fun (a,j)=>Qi a b || (anc.getD i []).contains j
def tN(ops:List Oper):Bool:=ops.zipIdx.all fun (o,i)=>(H8 o).all fun p=>decide (p<i)
def Rg(ops:Array Oper)(io:List IOp):Bool:=tN ops.toList&&cH (N_ ops.toList []) io
theorem Z9{ops:Array Oper}{io:List IOp}(h:Rg ops io=true) :
  (∀ (i:Nat) (o:Oper),ops[i]? = some o->∀ p∈H8 o,p<i) /\
  ∀ (i j:Nat) (a b:IOp),j<i->io[j]? = some a->io[i]? = some b->Qi a b=true\/j∈(N_ ops.toList []).getD i []:=by
 simp only[Rg,Af] at h;constructor
 ·intro i o ho p hp;have h1:=h.1;simp only[tN,BY,Prod.forall] at h1;have:=h1 o i (by rw[JR];simpa using ho) p hp;simpa using this
 ·intro i j x b hji hj hi;have h1:=h.2;simp only[cH,BY,Prod.forall] at h1;have h2:=h1 b i (by rw[JR];simpa using hi);have:=h2 x j (by rw[JR,B9 hji];simpa using hj);simpa using this
end
section
variable {P:Program} {Y X0:Nat->Prop} {roots:List (Nat × Nat)} {w0:World} {Q:Exit->Act->World->Prop}
def Fo(n:Nat)(listed:Array Bool):List Nat:=(Aq n).filter fun i => !listed.getD i true
theorem J3{n i:Nat}{listed:Array Bool}:i∈Fo n listed↔i<n/\listed.getD i true=false:=by
 simp[Fo]
theorem Qm(listed:Array Bool)(i j:Nat)(d:Bool):(listed.setIfInBounds i true).getD j d=if i=j/\i<listed.size then true else listed.getD j d:=by
 simp only[CS,Qf];by_cases h:i=j
 ·subst h;by_cases h2:i<listed.size <;> simp[h2]
 ·simp[h]
theorem X4{l:List Nat}(hs:l.Pairwise (·<·)){i:Nat}(hi:i∈l):∃ pre post,l=pre++i::post/\(∀ j∈pre,j<i)/\l.filter (fun j=>decide (j ≠ i))=pre++post:=by
 induction l with
 | nil=>cases hi
 | cons k l ih =>
  rw[tP] at hs;by_cases hk:k=i
  ·subst hk;refine⟨[],l,rfl,fun j hj=>(by cases hj),?_⟩;simp only[JN];rw[List.filter_cons_of_neg (by simp)];refine lT.2 fun j hj => ?_;have:=hs.1 j hj;simp;omega
  ·have hi':i∈l:=by
    cases hi with
    | head=>exact absurd rfl hk
    | tail _ h=>exact h
   obtain⟨pre,post,e1,e2,e3⟩:=ih hs.2 hi';refine⟨k::pre,post,by rw[e1];rfl,fun j hj => ?_,?_⟩
   ·cases hj with
    | head=>exact hs.1 i hi'
    | tail _ h=>exact e2 j h
   ·rw[List.filter_cons_of_pos (by simp[hk]),e3];rfl
theorem Oa(n:Nat)(listed:Array Bool):(Fo n listed).Pairwise (·<·):=A9d _ List.pairwise_lt_range
theorem T0{n i:Nat}{listed:Array Bool}(hi:i<listed.size):Fo n (listed.setIfInBounds i true)=(Fo n listed).filter fun j=>decide (j ≠ i):=by
 unfold Fo;rw[List.filter_filter];apply List.filter_congr;intro j _;rw[Qm];by_cases h:i=j
 ·subst h;simp[hi]
 ·have h':¬ j=i:=fun e=>h e.symm;simp[h,h']
def Rh(io:List IOp)(i:Nat):IOp:=io.getD i ⟨none,.mov (.c .undef),none,[]⟩
def tQ(ops:Array Oper)(listed:Array Bool):Prop:=∀ (i:Nat) (o:Oper),ops[i]? = some o->listed.getD i false=true->∀ p∈H8 o,listed.getD p false=true
theorem cI{ops:Array Oper}{listed:Array Bool}(hc:tQ ops listed):∀ (i:Nat) (o:Oper),ops[i]? = some o->(∀ p∈H8 o,listed.getD p false=true)->∀ j∈(N_ ops.toList []).getD i [],listed.getD j false=true:=by
 intro i;induction i using Ul with
 | _ i ih =>
  intro o ho hp j hj;obtain⟨o',e1,p,hpp,e2⟩:=cG ops.toList [] [] rfl (fun i j h=>(by simp at h)) i j hj;simp only[JN,Azb] at e1;rw[ho] at e1;cases e1;rcases e2 with rfl | ⟨hlt,e3⟩
  ·exact hp _ hpp
  ·have hl:=hp p hpp;have hps:p<ops.size:=by
    have:=(EK.1 ho).1;omega
   exact ih p hlt ops[p] (by simp[hps]) (hc p ops[p] (by simp[hps]) hl) j e3
theorem Azl{ops:Array Oper}{io:List IOp}{F:BM}{sf:Al}(hF:Lq P F)(hok:MM P roots ops ops.toList io=true)(hdr:Rg ops io=true)(hQ:∀ a' w',Rel Y X0 roots w0 sf a' w'->Q .normal a' w') :
  ∀ (fuel:Nat) (listed:Array Bool) (s:Al) (a:Act) (w:World),listed.size=ops.size->tQ ops listed->(Fo ops.size listed).length<=fuel->Rel Y X0 roots w0 s a w ->
   Ej F ((Fo ops.size listed).map (Rh io)) s=some sf->wpAny P .any ops Q fuel listed a w:=by
 obtain⟨hback,hpairs⟩:=Z9 hdr;obtain⟨hlen,hget⟩:=Ql hok;have hlen':io.length=ops.size:=by simpa using hlen.symm
 have stop:∀ (listed:Array Bool),listed.size=ops.size->PK .any ops listed=[]->Fo ops.size listed=[]:=by
  intro listed hsz hr;cases hop:Fo ops.size listed with
  | nil=>rfl
  | cons i rest =>
   exfalso;have hi:=J3.1 (hop ▸ B4:i∈Fo ops.size listed);have hs:=Oa ops.size listed;rw[hop,tP] at hs;have hready:i∈PK .any ops listed:=by
    rw[mem_ready];refine⟨hi.2,ops[i],by simp[hi.1],fun e he hb => ?_⟩;have hp:e.on∈H8 ops[i]:=by
     simp only[H8,Ec,IQ];exact⟨e,⟨by simpa using he,hb⟩,rfl⟩
    have hlt:=hback i ops[i] (by simp[hi.1]) e.on hp;cases hh:listed.getD e.on true with
    | false =>
     have:e.on∈Fo ops.size listed:=J3.2 ⟨by omega,hh⟩;rw[hop] at this;cases this with
     | head=>omega
     | tail _ h=>have:=hs.1 _ h;omega
    | true =>
     have hsz':e.on<listed.size:=by omega
     simp only[CS,DZ hsz',GJ] at hh |-;exact hh
   rw[hr] at hready;cases hready
 intro fuel;induction fuel with
 | zero =>
  intro listed s a w hsz hc hl h hev;have h0:Fo ops.size listed=[]:=A7 (by omega);rw[h0] at hev;simp only[FU,Ej,A3] at hev;subst hev;refine⟨?_,hQ _ _ h⟩;cases hr:PK .any ops listed with
  | nil=>rfl
  | cons i rest =>
   have hi:i∈PK .any ops listed:=by rw[hr];exact B4
   rw[mem_ready] at hi;obtain⟨h1,o,h2,_⟩:=hi;have:i∈Fo ops.size listed:=J3.2 ⟨(EK.1 h2).1,h1⟩;rw[h0] at this;cases this
 | succ fuel ih =>
  intro listed s a w hsz hc hl h hev;refine⟨fun hr => ?_,fun i hi => ?_⟩
  ·rw[stop listed hsz hr] at hev;simp only[FU,Ej,A3] at hev;subst hev;exact hQ _ _ h
  ·rw[mem_ready] at hi;obtain⟨h1,o,h2,h3⟩:=hi;have hin:i<ops.size:=(EK.1 h2).1;have hmem:i∈Fo ops.size listed:=J3.2 ⟨hin,h1⟩;obtain⟨pre,post,e1,e2,e3⟩:=X4 (Oa _ _) hmem;have hpr:∀ p∈H8 o,listed.getD p false=true:=by
    intro p hp;simp only[H8,Ec,IQ] at hp;obtain⟨e,⟨he,hb⟩,rfl⟩:=hp;exact h3 e (by simpa using he) hb
   have hioi:io[i]? = some (Rh io i):=by
    simp only[Rh,Z,Ah (hlen' ▸ hin),GJ]
   have hind:∀ q∈pre.map (Rh io),Qi q (Rh io i)=true:=by
    intro q hq;rw[Ec] at hq;obtain⟨j,hj,rfl⟩:=hq;have hjlt:=e2 j hj;have hjop:j∈Fo ops.size listed:=by rw[e1];exact HQ _ hj
    have hj2:=J3.1 hjop;have hioj:io[j]? = some (Rh io j):=by
     simp only[Rh,Z,Ah (hlen' ▸ hj2.1),GJ]
    rcases hpairs i j _ _ hjlt hioj hioi with hh | hh
    ·exact hh
    ·have hlj:=cI hc i o h2 hpr j hh;have hsz':j<listed.size:=by omega
     simp only[CS,DZ hsz',GJ] at hlj hj2;rw[hlj] at hj2;cases hj2.2
   rw[e1,Ep,C8] at hev;obtain⟨s1,hs1,hs2⟩:=Z2 hind hev;rw[<- Ep,<- e3,<- T0 (by omega)] at hs2;refine Aif h hF h2 (hget i o _ (by simpa using h2) hioi) hs1 fun a' w' h' => ?_;refine ih (listed.setIfInBounds i true) s1 a' w' (by simpa using hsz) ?_ ?_ h' hs2
   ·intro k ok hk hkl p hp;rw[Qm] at hkl;rw[Qm];split
    ·rfl
    ·split at hkl
     ·rename_i hik;obtain⟨rfl,_⟩:=hik;rw[h2] at hk;cases hk;exact hpr p hp
     ·exact hc k ok hk hkl p hp
   ·rw[T0 (by omega),e3];rw[e1] at hl;simp at hl |-;omega
theorem vW{ops:Array Oper}{io:List IOp}{F:BM}{s sf:Al}{a:Act}{w:World}{id:Nat}(hm:P.follows .mixedOrders=true)(hF:Lq P F)(hok:MM P roots ops ops.toList io=true)(hdr:Rg ops io=true)
  (h:Rel Y X0 roots w0 s a w) (hev:Ej F io s=some sf) (hQ:∀ a' w',Rel Y X0 roots w0 sf a' w'->Q .normal a' w'):(A8b id ops true).wp P Q a w:=by
 have hlen:=(Ql hok).1;refine wp_region_any hm ?_;have hall:Fo ops.size (P7 ops.size false)=Aq ops.size:=by
  unfold Fo;refine lT.2 fun i hi => ?_;have:i<ops.size:=by simpa using hi
  simp[CS,this]
 refine Azl hF hok hdr hQ ops.size _ s a _ (by simp) ?_ (by rw[hall];simp) ⟨h.dfr,h.size,⟨h.below.os,h.below.tape,h.below.output,h.below.size,h.below.block⟩,h.low,h.lowY,fun t=>KL.world (h.reg t) ⟨rfl,rfl,rfl,Ap _,fun _ _=>rfl⟩,h.inj⟩ ?_
 ·intro i o ho hl;have hi:=(EK.1 ho).1;simp[CS,hi] at hl
 ·rw[hall];have:(Aq ops.size).map (Rh io)=io:=by
   apply Ge;intro i;have hl':io.length=ops.size:=by simpa using hlen.symm
   by_cases hi:i<ops.size
   ·simp[hi,Rh,Z,Ah (hl' ▸ hi)]
   ·rw[AD (by simp;omega),AD (by omega)]
  rw[this];exact hev
theorem vX{ops:Array Oper}{io:List IOp}{F:BM}{s sf:Al}{a:Act}{w:World}{id:Nat}(hF:Lq P F)(hok:MM P roots ops ops.toList io=true)
  (h:Rel Y X0 roots w0 s a w) (hev:Ej F io s=some sf) (hQ:∀ a' w',Rel Y X0 roots w0 sf a' w'->Q .normal a' w'):(A8b id ops false).wp P Q a w:=by
 refine wp_region ?_;have:=tM (Q:=Q) hF (k:=0) (fun j=>by simp) hok h hev hQ;rw[List.range_eq_range'];simpa using this
end
end Go.Ai
