/- Texts of the proof of ContactPlaces: part 3 of 17. -/
import Derived.ArgAppend
import Derived.Laws.MakeOwn
import Derived.Laws.Slices
import Derived.Laws.Cover3
import Derived.Test.YtenfgdobfjofkaaGreatCpl2
namespace Go.Ai
open Go.RowKit
open And renaming left->Nk,right->Agn
open _root_.Array renaming all_eq_true_iff_forall_mem->qY,foldl_toList->PK,getD->qV,getD_eq_getD_getElem?->Av,getElem?_eq_getElem->A4,getElem?_eq_some_iff->A8,getElem?_setIfInBounds->IT,getElem?_toList->DI,getElem_map->M6,getElem_range->SS,length_toList->Bt,mapM_eq_mapM_toList->Ke,range->ES,replicate->Dq,toArray_toList->Dt,toList_inj->Abi,toList_map->CW
open Bool renaming and_eq_true->U,false_eq_true->AC,not_eq_true'->BJ,or_eq_true->C7
open Go renaming undef->A0
open Go.Act renaming eval->If
open Go.Ai.Reg renaming val->X
open Go.Builtin renaming append_->AT,firstCells->Ea,lenOf->DS,len_->Gy,max_->A0r,min_->A0s
open Go.Code renaming region->Yv
open Go.Deferred renaming ofValue->D_
open Go.Instr renaming build->JC,buildSlice->GR,extract->qT,field->aI,fill->Dp,index->Aav,indexAt->RJ,loadAt->Lf,slice->Hh,sliceAt->ED,sliceBound->Yy,sliceBounds->Iu,storeAt->Ib,sureAddr->Cl
open Go.IntKind renaming i64->D
open Go.Op renaming equal->wW,stringOp->LJ
open Go.Oper renaming upon->BY,wp->Cw
open Go.Program renaming cellsOf->H6
open Go.Region renaming ready->Gg,wanted->Iv
open Go.Result renaming andThen_ok->Aa
open Go.RowKit.Below renaming heap_alloc->F7,refl->F2
open Go.Sem renaming run->Cn,run_bind->Am,run_map->Abc,run_pure->Ap
open Go.Value renaming bool->TZ
open Go.World renaming cell?->Qo
open Int renaming le_refl->SQ,mul_le_mul_of_nonneg_right->Agp
open List renaming all_eq_true->A6,append_assoc->EU,append_nil->UF,contains_eq_mem->Em,drop->R,eq_nil_of_length_eq_zero->A_,ext_getElem?->A1d,filter_cons_of_neg->Arr,filter_cons_of_pos->Ars,filter_eq_self->rO,getD_eq_getElem?_getD->Z,getElem?_append_left->AA,getElem?_append_right->AO,getElem?_cons_succ->Du,getElem?_cons_zero->Cb,getElem?_drop->C8,getElem?_eq_getElem->Ad,getElem?_eq_none->AS,getElem?_eq_some_iff->AZ,getElem?_map->E5,getElem?_range->A0t,getElem?_set->A1c,getElem?_set_ne->Do,getElem?_set_self->Qr,getElem?_take_of_lt->BO,getElem?_toArray->Cq,getElem_append_left->CD,getElem_append_right->C3,getElem_cons_succ->G',getElem_cons_zero->Bk,getElem_mem->Bl,getElem_of_mem->Hr,getElem_set_ne->MV,getElem_set_self->No,getElem_toArray->DV,length->C,length_append->Ac,length_cons->BF,length_drop->ET,length_nil->Ev,length_set->Az,length_take->EE,mapM_cons->EX,map_append->hU,map_cons->BQ,map_nil->RK,mem_append->AF,mem_append_left->EF,mem_cons->Aw,mem_cons_of_mem->AI,mem_cons_self->A1,mem_filter->H4,mem_map->Dv,mem_of_mem_drop->C1,mem_of_mem_take->B8,mem_singleton->Be,mem_zipIdx_iff_getElem?->GS,nil_append->C',not_mem_nil->AD,pairwise_cons->U1,range->A',range'->TH,range_eq_range'->Aya,set_comm->qZ,set_set->E9,size_toArray->Cr,take->CV,take_append_drop->Axx,take_zero->M8
open List.Pairwise renaming filter->A0x
open Nat renaming add_assoc->Fs,add_comm->S',add_mul->Ek,add_zero->Bn,eq_zero_or_pos->Ic,le_refl->Ar,le_trans->AR,lt_irrefl->MN,lt_of_lt_of_le->Ba,lt_or_ge->C6,mod_eq_of_lt->Hg,mul_le_mul_right->Hf,not_le_of_lt->Ge,not_lt->Agz,strongRecOn->qR,sub_self->Tg,sub_zero->Tc,succ_mul->Kh,zero_add->AJ,zero_le->Cj,zero_mul->Agh
open Ne renaming symm->EG
open Option renaming bind_some->Axy,getD_some->EA,isNone_iff_eq_none->I9,isSome_iff_exists->A5,map_eq_some_iff->S,map_none->Kg,map_some->Al
open Option.some renaming inj->AM,injEq->Ab
section
variable {P:Program} {Y X:Nat->Prop} {w:World}
theorem DY{t:TypeId}{k:Nat}(h:E0 P t k=true):∃ e i a,P.underlying t=some (.slice e)/\P.info? e=some i/\i.size=k/\0<k/\i.bytes<=1048576/\i.zero=some a/\a.cells.size=k:=by
 unfold E0 at h;split at h
 ·rename_i e hu;split at h
  ·rename_i i hi;simp only[U,AW,Dm] at h;obtain⟨⟨⟨h1,h2⟩,c⟩,b⟩:=h;split at b
   next a d=>simp only[AW] at b;exact⟨e,i,a,hu,hi,h1,by omega,c,d,by omega⟩
   ·cases b
  ·cases h
 ·cases h
theorem D3{t:TypeId}(h:Eo P t=true):∃ e,P.underlying t=some (.slice e):=by
 unfold Eo at h;split at h
 next e hu=>exact⟨e,hu⟩
 ·cases h
section
variable(z:List AV)(n:Nat)
theorem Iw:C (CE z n)=n*C z:=by
 induction n with
 | zero=>simp[CE]
 | succ n a=>simp only[CE,Ac,a,Kh];omega
theorem rI:∀ i,i<n*C z->(CE z n)[i]? = z[i % C z]? := by
 induction n with
 | zero=>intro i h;omega
 | succ n a =>
  intro i h;rw[Kh] at h;simp only[CE];by_cases hi:i<C z
  ·rw[AA hi,Hg hi]
  ·rw[AO (by omega),a _ (by omega)];congr 1;exact (Nat.mod_eq_sub_mod (by omega)).symm
theorem rJ:∀ x∈CE z n,x∈z:=by
 induction n with
 | zero=>intro x h;cases h
 | succ n a =>
  intro x h;simp only[CE,AF] at h;exact h.elim id (a x)
end
theorem iR{t:TypeId}{z:List AV}{kl kc:IntKind}{m:Int}(g:E0 P t (C z)=true)(a:TY P t z=true)(h0:0<=m)(h1:m<=1048576) :
  ∃ e cells,(Instr.makeSlice t (.int kl m) (.int kc m)).run P w = .ok (.slice (some ⟨w.heap.size,0,none⟩) m.toNat m.toNat) (w.alloc (.cells cells e))/\CF Y X w cells (CE z m.toNat):=by
 obtain⟨e,i,b,hu,hi,hs,r,hb,c,h⟩:=DY g;unfold TY at a;rw[hu] at a;dsimp only at a;unfold LP at a;rw[hi] at a;dsimp only at a;rw[c] at a;dsimp only at a;have hc:CF Y X w b.cells z:=by
  have:=Ji (Y:=Y) (X:=X) (w:=w) a;simpa using this
 have k:(i.bytes:Int)*m<=281474976710656:=by
  have s:(i.bytes:Int)*m<=1048576*m:=Agp (by omega) h0;omega
 have hr:=run_make (P:=P) w t e i b hu hi c kl kc m m h0 (SQ _) k (by omega);refine⟨e,_,hr,fun x l=>hc.1 x (rJ z _ x l),?_,fun j g1 d => ?_⟩
 ·rw[size_madeCells,Iw,hs]
 ·have n:j<m.toNat*C z:=by rw[<- Iw];exact d
  have f:=rI z m.toNat j n;rw[Ad d] at f;obtain⟨v,o,p⟩:=hc.get f.symm;have:(madeCells b.cells (m.toNat*i.size))[j]'g1=v:=by
   have q:b.cells[j % b.cells.size]? = some v:=by rw[h];exact o
   simp[madeCells,getElem!_def,q]
  rw[this];exact p
def HB(w:World)(b off n:Nat):List Value:=(A' n).map fun i=>(w.cell? ⟨b,off+i,none⟩).getD A0
theorem Nm{b off:Nat}{cs:List AV}(h:F8 Y X w b off cs) :
  C (HB w b off (C cs))=C cs/\(∀ j u,(HB w b off (C cs))[j]? = some u->w.cell? ((⟨b,off,none⟩:Addr).add j)=some u) /\
  (∀ (i:Nat) (h:i<C cs),∃ u,(HB w b off (C cs))[i]? = some u/\Rd Y X w u cs[i])/\∀ u∈HB w b off (C cs),u.oneCell'=true:=by
 obtain⟨hd,e⟩:=h;have a:∀ (i:Nat) (h:i<C cs),∃ u,(HB w b off (C cs))[i]? = some u/\w.cell? ⟨b,off+i,none⟩=some u/\Rd Y X w u cs[i]:=by
  intro i hi;obtain⟨v,h1,h2⟩:=e i hi;exact⟨v,by simp[HB,hi,h1],h1,h2⟩
 have hl:C (HB w b off (C cs))=C cs:=by simp[HB]
 refine⟨hl,fun j u hu => ?_,fun i hi => ?_,fun u hu => ?_⟩
 ·have c:j<C cs:=by
   have:=(AZ.1 hu).1;omega
  obtain⟨v,h1,h2,_⟩:=a j c;rw[hu] at h1;cases h1;rw[Dk];exact h2
 ·obtain⟨v,h1,_,d⟩:=a i hi;exact⟨v,h1,d⟩
 ·obtain⟨j,c,rfl⟩:=Hr hu;obtain⟨v,h1,_,d⟩:=a j (by omega);rw[Ad c] at h1;cases h1;exact (EW d (hd _ (Bl _))).1
theorem Da{t t' ty e a:TypeId}{i:TypeInfo}{args:Array Value}(h:P.underlying t=some (.slice e))(hi:P.info? e=some i)(b:P.underlying t'=some (.slice a)) :
  (AT #[t,t'] ty args).run P w=(AT #[t,t] ty args).run P w:=by
 have c:(sizeOf e).run P w = .ok i.size w:=by simp[sizeOf,typeInfo,program,Cn,hi]
 simp only[AT,Cq,Cb,Du];cases h0:args[0]? with
 | none=>rfl
 | some s =>
  cases h1:args[1]? with
  | none=>rfl
  | some x =>
   simp only[Am,run_underlying h,Aa];cases s <;> try rfl
   simp only[Am,c,run_underlying h,run_underlying b,Aa,Ap]
theorem rK{y:Value}{m:Nat}{d:List AV}(h:Rd Y X w y (.sl m d)):(m=0/\d=[]/\(y = .slice none 0 0\/∃ p c,y = .slice (some p) 0 c))\/∃ b off cap,y = .slice (some ⟨b,off,none⟩) m cap/\F8 Y X w b off d/\m<=cap/\(d ≠ []->¬ X b):=by
 cases h with
 | nil0=>exact .inl ⟨rfl,rfl,.inl rfl⟩
 | e0 a c=>exact .inl ⟨rfl,rfl,.inr ⟨a,c,rfl⟩⟩
 | sl b off _ cap _ f hd hn hX hY hcell hr=>exact .inr ⟨b,off,cap,rfl,⟨hd,fun i hi=>⟨f i,hcell i hi,hr i hi⟩⟩,hn,hX⟩
def SlR(Y X:Nat->Prop)(w:World)(y:Value)(m:Nat)(a:List AV):Prop:=(m=0/\a=[]/\(y = .slice none 0 0\/∃ p c,y = .slice (some p) 0 c))\/∃ b off cap,y = .slice (some ⟨b,off,none⟩) m cap/\F8 Y X w b off a/\m<=cap
theorem aW{y:Value}{m:Nat}{a:List AV}(h:Rd Y X w y (.sl m a)):SlR Y X w y m a:=by
 rcases rK h with h | ⟨b,off,cap,h1,h2,c,_⟩
 ·exact .inl h
 ·exact .inr ⟨b,off,cap,h1,h2,c⟩
theorem Ta{w':World}{e:TypeId}{k n:Nat}{v:Value}{xs:List Value}{cs:List AV}(d:w'.ownsRow w.heap.size e k v n xs)(hn:0<n)(hd:Kd cs)(hl:C cs=n*k)(l:C xs=C cs)
  (hr:∀ (i:Nat) (h:i<C cs),∃ u,xs[i]? = some u/\Rd Y X w' u cs[i]):Ez Y X (Zr w.heap.size) w' v k n cs:=by
 obtain⟨_,h | ⟨g,cap,a,rfl,f,b,c,_,m,j⟩⟩:=d
 ·omega
 ·have o:n*k<=cap*k:=Hf _ c;refine .inr ⟨g,cap,rfl,c,hl,f,⟨hd,a,e,b,by omega,fun i hi => ?_⟩,a,e,b,by omega⟩;obtain⟨u,h1,h2⟩:=hr i hi;refine⟨u,?_,h2⟩;rw[<- j,BO (by omega)] at h1;simpa using h1
theorem Tb{cs a:List AV}(h1:Kd cs)(h2:Kd a):Kd (cs++a):=fun x b=>(AF.1 b).elim (h1 x) (h2 x)
theorem aX{t e:TypeId}{i:TypeInfo}{B:Nat}(h:OD P t B=true)(hu:P.underlying t=some (.slice e))(hi:P.info? e=some i):B*i.bytes<=140737488355328/\B<=140737488355328:=by
 unfold OD at h;simp only[hu,hi,U,Dm] at h;exact h
theorem HC{t t' ty:TypeId}{k n m B:Nat}{cs f:List AV}{x y:Value}(M:E0 P t k=true)(N:Eo P t'=true)(O:OD P t B=true)
  (Q:(x = .slice none 0 0/\n=0/\cs=[]/\0<m)\/∃ b cap,x = .slice (some ⟨b,0,none⟩) n cap/\cap<n+m/\F8 Y X w b 0 cs) (r:C cs=n*k) (R:SlR Y X w y m f) (a2:0<m) (g:C f=m*k) (S:n+m<=B) :
  ∃ a w',(AT #[t,t'] ty #[x,y]).run P w = .ok a w'/\Below w.heap.size w w'/\Ez Y (fun c=>X c\/w.heap.size<=c) (Zr w.heap.size) w' a k (n+m) (cs++f):=by
 obtain⟨e,i,s,hu,hi,hs,v,hb,z,A⟩:=DY M;obtain⟨e',T⟩:=D3 N;rw[Da hu hi T];obtain⟨D,E,F,rfl,o,_⟩:=R.resolve_left (fun h=>by have:=h.1;omega);obtain⟨l,G,H,U⟩:=Nm o;obtain⟨V,a3⟩:=aX O hu hi;have I:(n+m)*i.bytes<=140737488355328:=AR (Nat.mul_le_mul S (Ar _)) V;have J:n+m<=maxLen:=by simp only[maxLen];omega
 rcases Q with ⟨rfl,rfl,rfl,hm⟩ | ⟨b,cap,rfl,W,K⟩
 ·obtain⟨a,w',p,r1,r2,_⟩:=run_append_own (P:=P) w w.heap.size t ty e i s k i.bytes hu hi z hs rfl A v (.slice none 0 0) 0 [] (World.ownsRow_nil w _ e k) ⟨D,E,none⟩ m F _ (by rw[l,g]) G U J I (Ar _);have d:Below w.heap.size w w':=⟨r2.os,r2.tape,r2.output,r2.size,fun c hc=>r2.block c hc (by simp[Value.ownBlock])⟩;refine⟨a,w',p,d,?_⟩;simp only[C'];refine Ta r1 (by omega) o.1 (by rw[g,AJ]) (by simp[l]) (fun j q => ?_);obtain⟨u,h1,h2⟩:=H j q;exact⟨u,by simpa using h1,(h2.mono fun b hb=>hb).world fun c _ hc=>d.block c hc⟩
 ·obtain⟨o1,Z,o3,o4⟩:=Nm K;obtain⟨a,w',p,r1,r2⟩:=run_append_arg_grows (P:=P) w t ty e i s k i.bytes hu hi z hs rfl A v ⟨b,0,none⟩ n cap _ (by rw[o1,r]) Z ⟨D,E,none⟩ m F _ (by rw[l,g]) G W J I;have d:Below w.heap.size w w':=⟨r2.os,r2.tape,r2.output,r2.size,fun c hc=>r2.block c hc (by simp)⟩;refine⟨a,w',p,d,?_⟩;refine Ta r1 (by omega) (Tb K.1 o.1) (by rw[Ac,r,g,Ek]) (by simp[o1,l]) (fun j q => ?_);by_cases L:j<C cs
  ·obtain⟨u,h1,h2⟩:=o3 j L;refine⟨u,by rw[AA (by omega)];exact h1,?_⟩;rw[CD L];exact (h2.mono fun b hb=>hb).world fun c _ hc=>d.block c hc
  ·have a1:j-C cs<C f:=by simp at q;omega
   obtain⟨u,h1,h2⟩:=H _ a1;refine⟨u,by rw[AO (by omega),o1];exact h1,?_⟩;rw[C3 (by omega)];exact (h2.mono fun b hb=>hb).world fun c _ hc=>d.block c hc
theorem Qy{t t' ty:TypeId}{k n m b cap:Nat}{cs d:List AV}{y:Value}(G:E0 P t k=true)(H:Eo P t'=true)(o:n+m<=cap)(hX:X b)
  (I:D0 Y X w b 0 cs) (J:SZ w b (cap*k)) (p:C cs=n*k) (K:SlR Y X w y m d) (L:m ≠ 0) (f:C d=m*k) :
  ∃ w',(AT #[t,t'] ty #[.slice (some ⟨b,0,none⟩) n cap,y]).run P w = .ok (.slice (some ⟨b,0,none⟩) (n+m) cap) w'/\w'.os=w.os/\w'.tape=w.tape/\w'.output=w.output/\w'.heap.size=w.heap.size /\
   (∀ c,c ≠ b->w'.heap[c]? = w.heap[c]?)/\D0 Y X w' b 0 (cs++d)/\SZ w' b (cap*k):=by
 obtain⟨e,i,zv,hu,hi,hs,hk,hb,a1,a2⟩:=DY G;obtain⟨e',M⟩:=D3 H;rw[Da hu hi M];obtain⟨q,r,N,rfl,s,_⟩:=K.resolve_left (fun h=>L h.1);obtain⟨g,O,Q,S⟩:=Nm s;obtain⟨U,vs,T,l,_,hcell⟩:=I;obtain⟨a3,T',v,V⟩:=J;rw[l] at v;cases v;have W:(n+m)*k<=cap*k:=Hf _ o;rw[Ek] at W;generalize a4:HB w q r (C d)=a at *
 have hf:=run_firstCells_some (P:=P) w i.size m ⟨q,r,none⟩ m N a (by rw[g,f,hs]) O;have x:=run_storeCells_at P b (n*i.size) T a 0 vs w l (by rw[hs,g,f];omega) S;simp only[Bn] at x;have z:∀ c,¬ X c->c<w.heap.size->(w.setRow b (CV (n*i.size) vs.toList++a++R (n*i.size+C a) vs.toList).toArray).heap[c]? = w.heap[c]? := fun c hc _=>Dy _ _ _ _ (fun e=>hc (e ▸ hX));have A:=setRow_heap w b vs (CV (n*i.size) vs.toList++a++R (n*i.size+C a) vs.toList).toArray T (0,0) l;have B:(CV (n*i.size) vs.toList++a++R (n*i.size+C a) vs.toList).toArray.size=vs.size:=by
  simp only[Cr,Ac,EE,ET,Bt,g,f,hs];omega
 refine⟨w.setRow b (CV (n*i.size) vs.toList++a++R (n*i.size+C a) vs.toList).toArray,?_,rfl,rfl,rfl,DX _ _ _,fun c hc=>Dy _ _ _ _ hc,⟨Tb U s.1,_,T,A,?_,fun j D => ?_⟩,⟨_,T,A,by rw[B];exact V⟩⟩
 ·simp[AT,run_underlying hu,sizeOf,typeInfo,hi,DS,o,hf,Addr.add_lit,x]
 ·rw[B,Ac,p,f];omega
 ·have E:C (vs.toList.take (n*i.size))=n*k:=by simp only[EE,Bt,hs];omega
  simp only[AJ,Cq];by_cases F:j<C cs
  ·obtain⟨u,h1,h2⟩:=hcell j F;refine⟨u,?_,?_⟩
   ·rw[EU,AA (by omega),BO (by rw[hs];omega)];simpa using h1
   ·rw[CD F];exact h2.world z
  ·have Z:j-C cs<C d:=by simp at D;omega
   obtain⟨u,h1,h2⟩:=Q _ Z;refine⟨u,?_,?_⟩
   ·rw[AA (by simp only[Ac,E,g];simp at D;omega),AO (by omega),E,<- p];exact h1
   ·rw[C3 (by omega)];exact h2.world z
theorem append_nil{t t' ty:TypeId}{k:Nat}(a:E0 P t k=true)(b:Eo P t'=true):(AT #[t,t'] ty #[.slice none 0 0,.slice none 0 0]).run P w = .ok (.slice none 0 0) w:=by
 obtain⟨e,i,d,hu,hi,hs,f,hb,g,h⟩:=DY a;obtain⟨j,c⟩:=D3 b;rw[Da hu hi c];simp[AT,run_underlying hu,sizeOf,typeInfo,hi,DS,Ea]
theorem G2{t t' ty:TypeId}{k c:Nat}{p:Addr}(a:E0 P t k=true)(b:Eo P t'=true):(AT #[t,t'] ty #[.slice none 0 0,.slice (some p) 0 c]).run P w = .ok (.slice none 0 0) w:=by
 obtain⟨e,i,f,hu,hi,hs,g,hb,h,j⟩:=DY a;obtain⟨l,d⟩:=D3 b;rw[Da hu hi d];have hf:=run_firstCells_some (P:=P) w i.size 0 p 0 c [] (by simp) (by simp);simp[AT,run_underlying hu,sizeOf,typeInfo,hi,DS,hf]
theorem LQ{t t' ty:TypeId}{k n b cap:Nat}(a:E0 P t k=true)(c:Eo P t'=true)(hn:n<=cap) :
  (AT #[t,t'] ty #[.slice (some ⟨b,0,none⟩) n cap,.slice none 0 0]).run P w = .ok (.slice (some ⟨b,0,none⟩) n cap) w:=by
 obtain⟨e,i,f,hu,hi,hs,g,hb,h,j⟩:=DY a;obtain⟨l,d⟩:=D3 c;rw[Da hu hi d];simp[AT,run_underlying hu,sizeOf,typeInfo,hi,DS,Ea,hn,storeCells]
theorem Ix{t t' ty:TypeId}{k n b cap c:Nat}{p:Addr}(a:E0 P t k=true)(d:Eo P t'=true)(hn:n<=cap) :
  (AT #[t,t'] ty #[.slice (some ⟨b,0,none⟩) n cap,.slice (some p) 0 c]).run P w = .ok (.slice (some ⟨b,0,none⟩) n cap) w:=by
 obtain⟨e,i,g,hu,hi,hs,h,hb,j,l⟩:=DY a;obtain⟨m,f⟩:=D3 d;rw[Da hu hi f];have hf:=run_firstCells_some (P:=P) w i.size 0 p 0 c [] (by simp) (by simp);simp[AT,run_underlying hu,sizeOf,typeInfo,hi,DS,hf,hn,storeCells]
theorem FD{len cap m h l:Nat}{lo hi mx:Option Value}(p:(mx=none/\m=cap)\/∃ k i,mx=some (.int k i)/\0<=i/\i.toNat=m/\m<=cap)(q:(hi=none/\mx=none/\h=len)\/∃ k i,hi=some (.int k i)/\0<=i/\i.toNat=h/\h<=m)
  (r:(lo=none/\l=0)\/∃ k i,lo=some (.int k i)/\0<=i/\i.toNat=l/\l<=h):(Iu true len cap lo hi mx).run P w = .ok (l,h,m) w:=by
 have hb:∀ (k:IntKind) (i:Int) (y n:Nat) (code:BoundsCode),0<=i->i.toNat=n->n<=y->(Yy (.int k i) y code).run P w = .ok n w:=by
  intro k i y n code h0 h1 h2;rw[run_sliceBound w k i y code h0 (by omega),h1]
 rcases p with ⟨rfl,rfl⟩ | ⟨km,im,rfl,g,j,o⟩ <;> rcases q with ⟨rfl,s,rfl⟩ | ⟨kh,a,rfl,h0,h1,h2⟩ <;> rcases r with ⟨rfl,rfl⟩ | ⟨b,c,rfl,d,e,f⟩;all_goals first
  | cases s;done
  | simp only[Iu,Am,Ap,Aa]
 all_goals first
  | rfl
  | simp only[hb b c _ l _ d e f,Aa];done
  | simp only[hb kh a _ h _ h0 h1 h2,Aa];done
  | simp only[hb kh a _ h _ h0 h1 h2,hb b c _ l _ d e f,Aa];done
  | simp only[hb km im _ m _ g j o,hb kh a _ h _ h0 h1 h2,Aa];done
  | simp only[hb km im _ m _ g j o,hb kh a _ h _ h0 h1 h2,hb b c _ l _ d e f,Aa];done
theorem LR{t:TypeId}{k len cap m h l:Nat}{a:Option Addr}{lo hi mx:Option Value}(b:E0 P t k=true)(hb:(Iu true len cap lo hi mx).run P w = .ok (l,h,m) w) :
  (ED t (.slice a len cap) lo hi mx).run P w = .ok (.slice (if m=l then a else a.map (·.add (l*k))) (h-l) (m-l)) w:=by
 obtain⟨e,i,f,hu,c,hs,g,j,n,o⟩:=DY b;have d:(sizeOf e).run P w = .ok k w:=by simp[sizeOf,typeInfo,program,Cn,c,hs]
 simp only[ED,Am,run_underlying hu,Aa,Hh,hb,d,Ap]
theorem Abg{v:Value}{n l h m k:Nat}{cs:List AV}(o:Rd Y X w v (.sl n cs))(t:l<=h)(u:h<=n) :
  ∃ a cap,v = .slice a n cap/\n<=cap/\(h<=m->(a=none->m=0)->Rd Y X w (.slice (if m=l then a else a.map (·.add (l*k))) (h-l) (m-l)) (.sl (h-l) ((cs.drop (l*k)).take ((h-l)*k))))/\(a=none->cap=0):=by
 cases o with
 | nil0 =>
  refine⟨none,0,rfl,Ar _,fun _ p => ?_,fun _=>rfl⟩;have h0:h=0:=by omega
  have d:l=0:=by omega
  subst h0 d;rw[p rfl];simpa using Rd.nil0
 | e0 a c =>
  have h0:h=0:=by omega
  have d:l=0:=by omega
  subst h0 d;refine⟨some a,c,rfl,Cj _,fun _ _ => ?_,fun h=>by cases h⟩;simp only[Tc,Agh,M8];split
  ·exact .e0 _ _
  ·exact .e0 _ _
 | sl b off _ cap _ f hd hn hX hY hcell hr =>
  refine⟨_,cap,rfl,hn,fun y _ => ?_,fun h=>by cases h⟩;have z:C ((cs.drop (l*k)).take ((h-l)*k))<=C cs-l*k:=by simp only[EE,ET];omega
  have q:Kd ((cs.drop (l*k)).take ((h-l)*k)):=fun x g=>hd x (C1 (B8 g));by_cases j:m=l
  ·have r:h-l=0:=by omega
   rw[Af j,r,Agh,M8];exact .sl b off 0 (m-l) [] f (fun x g=>by cases g) (Cj _) (fun h=>absurd rfl h) (fun ⟨c,hc,_⟩=>by cases hc) (fun i hi=>by simp at hi) (fun i hi=>by simp at hi)
  ·rw[Ak j];simp only[Al,Dk];refine .sl b (off+l*k) (h-l) (m-l) _ (fun i=>f (l*k+i)) q (by omega) (fun s=>hX (fun e=>s (by rw[e];simp))) (fun ⟨c,hc,h1⟩=>hY ⟨c,C1 (B8 hc),h1⟩) (fun i hi => ?_) (fun i hi => ?_)
   ·rw[Fs];exact hcell _ (by omega)
   ·have:=hr (l*k+i) (by omega);simpa using this
end
section
variable(roots:List (Nat × Nat))
def Db(a:List Nat)(dst:Option Nat):Bool:=roots.all fun p => !(some p.2==dst) || a.contains p.1
def KG(dst:Option Nat)(d:Nat):Bool :=
 match dst with
 | some t=>roots.contains (t,d) && !(t==d)
 | none=>true
def aY(dst:Option Nat)(ks:List Nat):Bool:=dst.isSome&&roots.all fun p => !(some p.2==dst) || ks.contains p.1
end
def BH(roots:List (Nat × Nat))(oks:List Nat)(dst:Option Nat):K->Bool
 | .new _ ks=>aY roots dst ks
 | .box _ ks=>aY roots dst ks
 | .adr _ d _=>Db roots oks dst&&KG roots dst d
 | .ixo _ d _ _=>Db roots oks dst&&KG roots dst d
 | .cpy x=>Db roots oks dst&&KG roots dst x
 | .st _ _ _ _=>dst.isNone
 | .bls _ _ _=>Db roots oks dst&&dst.isSome
 | .blo _ _ _ _=>Db roots oks dst&&dst.isSome
 | .mks _ _=>Db roots oks dst&&dst.isSome
 | .tra _=>Db roots oks dst&&dst.isSome
 | .apd _ _ _ _ _=>Db roots oks dst&&dst.isSome
 | .clo _ _=>Db roots oks dst&&dst.isSome
 | .nlo _=>Db roots oks dst&&dst.isSome
 | .bdo _ _ l=>Db roots (oks++l) dst&&dst.isSome
 | .cln _ _ l=>Db roots (oks++l) dst&&dst.isSome
 | .stl x v=>dst.isNone&&roots.contains (x,v)
 | .fdo _=>Db roots oks dst&&dst.isSome
 | .exo _=>Db roots oks dst&&dst.isSome
 | .slo _ _ _=>Db roots oks dst&&dst.isSome
 | .cao _ _ _ _=>Db roots oks dst&&dst.isSome
 | .npt=>Db roots oks dst&&dst.isSome
 | .mvf x _ _ _=>Db roots oks dst&&KG roots dst x
 | .mkw _ _ l=>Db roots (oks++l) dst&&dst.isSome
 | .clw _ _ d l=>Db roots (oks++l) dst&&dst==some d
 | .mvp _ d=>Db roots oks dst&&KG roots dst d
 | .ldh _ _ _ us=>Db roots oks dst&&dst.isSome&&us.all (fun u=>KG roots dst u)
 | .sth _ d v=>dst.isNone&&roots.contains (d,v)
 | .sts _ _ _=>dst.isNone
 | .aph x _ _ _ d _=>dst.isSome&&Db roots (d::x::oks) dst
 | .lda _ _ us=>Db roots oks dst&&dst.isSome&&us.all (fun u=>KG roots dst u)
 | .blh _ qs=>Db roots oks dst&&dst.isSome&&qs.all (fun q=>KG roots dst q.2)
 | .sta x _ _ us=>dst.isNone&&us.all (fun u=>roots.contains (x,u))
 | .cab _ _ d _=>Db roots oks dst && !(dst==some d)
 | _=>Db roots oks dst
theorem Aq{s:V}{roots:List (Nat × Nat)}{oks:List Nat}{dst:Option Nat}(a:∀ t∈oks,BC (Ag s t)=false)(h:Db roots oks dst=true):D1 s roots dst:=by
 intro d hd t b;simp only[Db,A6,C7,BJ,H8,ne_eq,Em,Dm] at h;rcases h (t,d) b with h1 | h1
 ·exact absurd hd.symm h1
 ·exact a t h1
theorem Td{s:V}{b ls:List Nat}(c:∀ t∈b,BC (Ag s t)=false)(d:(ls.all fun t=>Ew (Ag s t))=true):∀ t∈b++ls,BC (Ag s t)=false:=by
 intro t a;rcases AF.1 a with a | a
 ·exact c t a
 ·exact Qs (A6.1 d t a)
section
variable{roots:List (Nat × Nat)}{dst:Option Nat}
theorem Ef{d:Nat}(h:KG roots dst d=true):∀ t,dst=some t->(t,d)∈roots/\t ≠ d:=by
 intro t a;subst a;simpa [KG] using h
theorem Te{ks:List Nat}(h:aY roots dst ks=true):dst.isSome=true/\∀ d,dst=some d->∀ t,(t,d)∈roots->t∈ks:=by
 simp only[aY,U,A6,C7,BJ,H8,ne_eq,Em,Dm] at h;refine⟨h.1,fun d hd t a => ?_⟩;rcases h.2 (t,d) a with h1 | h1
 ·exact absurd hd.symm h1
 ·exact h1
end
section
variable {P:Program} {Y X0:Nat->Prop} {roots:List (Nat × Nat)} {w0:Base} {w:World} {s:V} {a:Act} {Q:Exit->Act->World->Prop}
theorem HD{w:World}{b off:Nat}{vs:Array Value}{T:TypeId}{fz:Nat × Nat}(h:w.heap[b]? = some (.cells vs T fz)):w.cell? ⟨b,off,none⟩=vs[off]? := by
 simp only[Qo,h];rfl
theorem LS{Y X:Nat->Prop}{w:World}{zero:List Value}(d:0<C zero):∀ (n:Nat) (z:List AV),Qv z zero n=true->C z=n*C zero ->
  Kd z/\∀ (i:Nat) (h:i<C z),∃ v,zero[i % C zero]? = some v/\Rd Y X w v z[i]
 | 0,z,_,hl=>by
  have:z=[]:=A_ (by simpa using hl);subst this;exact⟨fun x a=>(by cases a),fun i h=>(by simp at h)⟩
 | n+1,z,h,hl=>by
  simp only[Qv,U] at h;obtain⟨h1,h2⟩:=h;have l:C z=n*C zero+C zero:=by rw[hl,Kh]
  obtain⟨hd,f⟩:=LS (Y:=Y) (X:=X) (w:=w) d n (z.drop (C zero)) h2 (by simp;omega);have hc:=Ji (Y:=Y) (X:=X) (w:=w) h1;refine⟨fun x a => ?_,fun i hi => ?_⟩
  ·rw[<- Axx (C zero) z,AF] at a;rcases a with a | a
   ·exact hc.1 x a
   ·exact hd x a
  ·by_cases c:i<C zero
   ·rw[Hg c];have e:(z.take (C zero))[i]? = some z[i]:=by rw[BO c,Ad hi]
    obtain⟨v,b,hr⟩:=hc.get e;exact⟨v,by simpa using b,hr⟩
   ·have g:i-C zero<C (z.drop (C zero)):=by simp;omega
    obtain⟨v,b,hr⟩:=f (i-C zero) g;have j:(i-C zero) % C zero=i % C zero:=by
     rw[<- Nat.add_mod_right (i-C zero) (C zero)];congr 1;omega
    have k:(z.drop (C zero))[i-C zero]=z[i]:=by
     rw[List.getElem_drop];congr 1;omega
    exact⟨v,j ▸ b,k ▸ hr⟩
theorem F9.world{Y X:Nat->Prop}{B G:Nat->Prop}{tm:Array Value}{w w':World}{t:Nat}{v:Value}{r:Reg}(h:F9 Y X B G roots tm w t v r)(a:Below w.heap.size w w'):F9 Y X B G roots tm w' t v r:=by
 cases r with
 | val x=>exact Rd.world h fun b _ hb=>a.block b hb
 | box cs=>obtain⟨b,f,g,e⟩:=h;exact⟨b,f,g,e.world (fun c _ hc=>a.block c hc) (a.block b e.lt)⟩
 | own k n cs=>exact Ez.world h (fun c _ hc=>a.block c hc) (fun b _ hb=>a.block b hb)
 | agn b k n cs=>exact IS.world h (fun c _ hc=>a.block c hc) (fun b _ hb=>a.block b hb)
 | bxl d =>
  obtain⟨f,b,g,e,j,l⟩:=h;exact⟨f,b,g,e,Ba j a.size,fun i hi=>by rw[<- l i hi];exact Ec (a.block b j)⟩
 | mem cs=>obtain⟨b,off,f,g,e⟩:=h;exact⟨b,off,f,g,e.world (fun c _ hc=>a.block c hc) (fun hb=>a.block b hb)⟩
 | ptr d off=>exact h
 | dup d=>exact h
 | sub _ _ _ _=>exact h
 | bxh cs ls=>obtain⟨b,vs,T,f,g,e,j⟩:=h;exact⟨b,vs,T,f,g,by rw[a.block b (Nf e)];exact e,j.world (fun c _ hc=>a.block c hc)⟩
 | agh cs ls=>obtain⟨vs,f,g,j⟩:=h;exact⟨vs,f,g,j.world (fun c _ hc=>a.block c hc)⟩
 | bxg cs=>obtain⟨b,f,g,e⟩:=h;exact⟨b,f,g,e.world (fun c _ hc=>a.block c hc) (a.block b e.lt)⟩
 | dead=>trivial
theorem Qz{Y X:Nat->Prop}{w:World}{t:TypeId}{n off:Nat}{one:Bool}{vs:Array Value}{cs:List AV}{x:AV}(ho:Gk P t n one=true)(hc:CF Y X w vs cs)(a:Ae cs off n one=some x) :
  ∃ v,(part t vs off).run P w = .ok v w/\Rd Y X w v x:=by
 obtain⟨h1,h2⟩:=Ed ho;obtain⟨hd,hs,hr⟩:=hc;unfold Ae at a;cases one with
 | true =>
  simp only[if_true] at a;obtain⟨v,b,c⟩:=CF.get ⟨hd,hs,hr⟩ a;exact⟨v,by simp[part,h1,b],c⟩
 | false =>
  simp only[AC,if_false] at a;split at a
  ·rename_i f;cases a;refine⟨.agg (vs.extract off (off+n)),by simp[part,h1,h2],.agg _ _ (fun y d=>hd y (C1 (B8 d))) (by simp;omega) (fun i g e => ?_)⟩;have hi:i<n:=by simp at e;omega
   have:=hr (off+i) (by omega) (by omega);simpa using this
  ·cases a
theorem BI{b:Operand}{x:Nat}(h1:Bh b (.t x)=true):a.eval b=a.tmps.getD x A0:=by
 cases b <;> simp only[Bh] at h1 <;> try cases h1
 simp only[AW] at h1;subst h1;rfl
theorem Nn{o:Oper}{x:Nat}(h:UA o.op x=true):(execOp a.eval o).run P w = .ok (.value (a.tmps.getD x A0)) w:=by
 unfold UA at h;split at h
 next y b=>simp[execOp,b,BI (a:=a) h]
 next y b=>simp[execOp,b,BI (a:=a) h]
 ·cases h
theorem aZ{x:Opd}{v:AV}(h:x.reg s = .val v):x.av s=some v:=by simp only [Opd.av,h]
theorem iS{x:Opd}{k n:Nat}{cs:List AV}(h:x.reg s = .own k n cs):∃ m,x = .t m:=by
 cases x with
 | t m=>exact⟨m,rfl⟩
 | c y=>simp only[Opd.reg] at h;cases h
theorem J0{Y X a:Nat->Prop}{B d U:Nat->Prop}{w':World}{v:Value}{k n:Nat}{cs:List AV}(e:∀ b,d b->B b)(h:Ez Y (fun c=>X c\/At v=some c) d w' v k n cs)(hX:∀ b,a b->X b\/(U b/\At v=some b)):Ez Y a B w' v k n cs :=
 (h.mono fun c hc => .inl ((hX c hc).imp id Agn)).lower e
theorem P1{s:V}:∀ {ps:List (Nat × Nat × Opd)} {cs a:List AV},FY s cs ps=some a->C a=C cs
 | [],cs,a,h=>by simp only[FY,Ab] at h;rw[h]
 | (off,n,o)::ps,cs,a,h=>by
  simp only[FY] at h;split at h
  ·cases h
  ·split at h
   ·cases h
   ·split at h
    ·cases h
    next hl=>rw[P1 h,(K_ hl).2.1]
theorem UD(h:Rel Y X0 roots w0 s a w){d k n:Nat}{cells:Array Value}{cs:List AV}{T:TypeId}(e:∀ t,(t,d)∈roots->BC (Ag s t)=false)(hc:CF Y (fun b=>X0 b\/XS s a.tmps b) w cells cs)(hl:C cs=n*k) :
  Rel Y X0 roots w0 (BD s (some d) (.own k n cs)) (a.put (some d) (.slice (some ⟨w.heap.size,0,none⟩) n n)) (w.alloc (.cells cells T)):=by
 refine BK (ks:=[]) h ((F2 _ _).alloc (Ar _) _) (fun t f => .inr (e t f)) (fun _ b hb=>by simp only[At,CN,Al,Ab] at hb;omega) (fun X h1 _ => ?_);have g:=(hc.mono (X':=X) (fun b hb=>(h1 b hb).imp id Nk)).world (w':=w.alloc (.cells cells T)) (fun b _ hb=>F7 _ _ _ hb);have c:(w.alloc (.cells cells T)).heap[w.heap.size]? = some (.cells cells T (0,0)):=by show (w.heap.push _)[w.heap.size]? = _;simp
 have hs:=hc.2.1;refine .inr ⟨w.heap.size,n,rfl,Ar _,hl,.inl h.below.size,⟨hc.1,cells,T,c,by omega,fun i hi => ?_⟩,cells,T,c,by omega⟩;exact⟨cells[i]'(by omega),by rw[AJ,A4],g.2.2 i (by omega) hi⟩
theorem OE{Y X:Nat->Prop}{B G:Nat->Prop}{d:Nat}{tm:Array Value}{w:World}{v:Value}{k n:Nat}{cs:List AV}{ow:Bool}(h:Ez Y X B w v k n cs)(hn:ow=false->∀ b,At v=some b->¬ X b)(hY:∀ b,Y b->¬ B b):F9 Y X B G roots tm w d v (if ow then .own k n cs else .val (.sl n cs)):=by
 cases ow with
 | true=>exact h
 | false=>exact Ez.frozen h (fun b hb => .inl hb) (hn rfl) hY
def Aha:Value->Nat
 | .slice _ _ c=>c
 | _=>0
theorem OF(h:Rel Y X0 roots w0 s a w){o:Option Opd}{o':Option Operand}{d n:Nat}(ho:P0 o' o=true)(hb:GU s d o=some n):(o=none/\o'=none/\n=d)\/∃ x,o=some x/\∃ k i,o'.map a.eval=some (.int k i)/\0<=i/\i.toNat=n:=by
 cases o with
 | none =>
  cases o' with
  | none=>simp only[GU,Ab] at hb;exact .inl ⟨rfl,rfl,hb.symm⟩
  | some y=>cases ho
 | some x =>
  cases o' with
  | none=>cases ho
  | some y =>
   simp only[P0] at ho;simp only[GU] at hb;split at hb
   ·rename_i k i hi;split at hb
    next h0=>cases hb;have:=B2 h ho hi;generalize b:a.eval y=v at this;cases this;exact .inr ⟨x,rfl,k,i,by simp[b],h0,rfl⟩
    ·cases hb
   ·cases hb
theorem xD(h:Rel Y X0 roots w0 s a w){o:Option Opd}{o':Option Operand}{l b:Nat}(ho:P0 o' o=true)(hb:GU s 0 o=some l)(c:l<=b):(o'.map a.eval=none/\l=0)\/∃ k i,o'.map a.eval=some (.int k i)/\0<=i/\i.toNat=l/\l<=b:=by
 rcases OF h ho hb with ⟨_,rfl,rfl⟩ | ⟨_,_,k,i,h1,h2,d⟩
 ·exact .inl ⟨rfl,rfl⟩
 ·exact .inr ⟨k,i,h1,h2,d,c⟩
theorem Arv(h:Rel Y X0 roots w0 s a w){o:Option Opd}{o':Option Operand}{d m cap:Nat}(ho:P0 o' o=true)(hb:GU s d o=some m)(hd:d=cap)(b:m<=cap):(o'.map a.eval=none/\m=cap)\/∃ k i,o'.map a.eval=some (.int k i)/\0<=i/\i.toNat=m/\m<=cap:=by
 rcases OF h ho hb with ⟨_,rfl,rfl⟩ | ⟨_,_,k,i,h1,h2,c⟩
 ·exact .inl ⟨rfl,hd⟩
 ·exact .inr ⟨k,i,h1,h2,c,b⟩
theorem Ayd(h:Rel Y X0 roots w0 s a w){o:Option Opd}{o':Option Operand}{d m cap:Nat}(ho:P0 o' o=true)(hb:GU s d o=some m)(b:m<=cap):(o'.map a.eval=none/\(if o.isSome then m else cap)=cap)\/∃ k i,o'.map a.eval=some (.int k i)/\0<=i/\i.toNat=(if o.isSome then m else cap)/\(if o.isSome then m else cap)<=cap:=by
 rcases OF h ho hb with ⟨rfl,rfl,rfl⟩ | ⟨x,rfl,k,i,h1,h2,c⟩
 ·exact .inl ⟨rfl,rfl⟩
 ·exact .inr ⟨k,i,h1,h2,c,b⟩
theorem Ahb(h:Rel Y X0 roots w0 s a w){o c:Option Opd}{o' d:Option Operand}{n b e:Nat}(ho:P0 o' o=true)(f:P0 d c=true)(hb:GU s n o=some b)(hs:c.isSome->o.isSome)(h1:c.isSome=true->b<=e)(h2:¬ c.isSome=true->b<=e) :
  (o'.map a.eval=none/\d.map a.eval=none/\b=n)\/∃ k i,o'.map a.eval=some (.int k i)/\0<=i/\i.toNat=b/\b<=e:=by
 rcases OF h ho hb with ⟨rfl,rfl,rfl⟩ | ⟨x,rfl,k,i,g,j,l⟩
 ·refine .inl ⟨rfl,?_,rfl⟩;cases c with
  | none=>cases d with | none=>rfl | some y=>cases f
  | some z=>have:=hs rfl;cases this
 ·refine .inr ⟨k,i,g,j,l,?_⟩;by_cases b:c.isSome=true
  ·exact h1 b
  ·exact h2 b
theorem rL{v:Value}(h:La v (.sl 0 [])=true):v = .slice none 0 0:=by
 unfold La at h;split at h <;> first | rfl | (rename_i e;cases e;done) | (rename_i e _;cases e;done) | cases h
theorem Grown.from_{B:Base}{w:World}(h:Grown B w):∀ b,Zr w.heap.size b->B.mine b:=fun _ hb => .inl (AR h.size hb)
theorem UE(h:Rel Y X0 roots w0 s a w){F:Bf}(K:G1 P F){f k n:Nat}{cs:List AV}{vs:List AV}{y:AV}(L:F f (.fresh k n cs::vs)=some y){o1:Operand}{j:List Operand}(q:C j=C vs)
  (p:∀ (i:Nat) (h1:i<C j) (h2:i<C vs),Rd Y (fun b=>X0 b\/XS s a.tmps b) w (a.eval j[i]) vs[i]) (h0:Ez Y (fun b=>X0 b\/XS s a.tmps b) w0.mine w (a.eval o1) k n cs)
  {ks:List Nat} (r:∀ b,At (a.eval o1)=some b->∃ x,x∈ks/\Cd (Ag s x)=true/\At (a.tmps.getD x A0)=some b) {d:Nat} (M:∀ t,(t,d)∈roots->t∈ks\/BC (Ag s t)=false) :
  Calls P f ((o1::j).map a.eval).toArray w fun e w'=>∃ v,e = .returned v/\Rel Y X0 roots w0 (BD (AE s (ks.map fun u=>(u,Reg.dead))) (some d) (Fp y)) (a.put (some d) v) w':=by
 have A:∀ b,D2 (.fresh k n cs::vs) ((o1::j).map a.eval).toArray b↔At (a.eval o1)=some b:=fun b=>⟨fun hb=>hb.2,fun hb=>⟨⟨_,vs,rfl,rfl⟩,hb⟩⟩;have H:∀ b,At (a.eval o1)=some b->XS s a.tmps b:=fun b hb=>let ⟨x,_,h2,l⟩:=r b hb; ⟨x,h2,l⟩
 have I:∀ b,At (a.eval o1)=some b->w0.mine b:=fun b hb=>let ⟨x,_,h2,l⟩:=r b hb; (h.exclLow h2 l).1
 have B:D2 (.fresh k n cs::vs) ((o1::j).map a.eval).toArray=fun b=>At (a.eval o1)=some b:=funext fun b=>propext (A b);refine (K f (.fresh k n cs::vs) y L Y (fun b=>(X0 b\/XS s a.tmps b)/\¬ At (a.eval o1)=some b) w ((o1::j).map a.eval).toArray (fun b hb=>⟨h.lowX b hb.1,fun e=>hb.2 ((A b).1 e)⟩)
  (fun b hb=>⟨h.lowYw b hb,fun e=>h.lowY b hb (I b ((A b).1 e))⟩) (by simp[q]) (fun i h1 h2 => ?_) (fun i h2 l => ?_)).mono ?_
 ·cases i with
  | zero =>
   rw[B];show Ez _ _ _ w (a.eval o1) k n cs;have N:=Ez.mono (X':=fun c=>((X0 c\/XS s a.tmps c)/\¬ At (a.eval o1)=some c)\/At (a.eval o1)=some c) h0 fun c hc => .inl (hc.elim Nk fun e => .inr (H c e));rcases N with g | ⟨b,cap,J,O,Q,_,R,S⟩
   ·exact .inl g
   ·exact .inr ⟨b,cap,J,O,Q,by rw[J];rfl,R,S⟩
  | succ i =>
   rw[B];have T:i<C j:=by simpa using h1
   have U:i<C vs:=by simpa using h2
   have g:=p i T U;have o:Rd Y (fun c=>((X0 c\/XS s a.tmps c)/\¬ At (a.eval o1)=some c)\/At (a.eval o1)=some c) w (a.eval j[i]) vs[i]:=g.mono fun c hc => .inl (hc.elim Nk fun e => .inr (H c e));simp only[BQ,DV,G',List.getElem_map];generalize vs[i]=z at o |-;generalize a.eval j[i]=u at o |-;cases z <;> first | exact o | (exfalso;revert o;intro o;cases o)
 ·cases i with
  | zero=>rfl
  | succ i =>
   have V:i<C vs:=by simpa using h2
   have g:=p i (by omega) V;simp only[G'] at l;generalize vs[i]=z at g l;generalize a.eval (j[i]'(by omega))=u at g;cases g <;> cases l
 ·rw[B];rintro e w' ⟨v,q,p,m,_⟩;refine⟨v,q,h.give p r M (fun W b hb => ?_) (fun X h1 h2 l => ?_)⟩
  ·cases y
   case fresh k n cs=>exact (Ez.block m hb).1
   case frs Z k n cs=>exact (IS.block m hb).1
   case gb cs =>
    obtain⟨b',rfl,D,_⟩:=m;simp only[At,CN,Al,Ab] at hb;exact hb ▸ D
   all_goals cases W
  ·have E:∀ b,Base.mine ⟨w,fun b=>At (a.eval o1)=some b⟩ b->w0.mine b:=fun b hb=>hb.elim (h.below.from_ b) (I b);have G:∀ c,X c->((X0 c\/XS s a.tmps c)/\¬ At (a.eval o1)=some c)\/At v=some c:=by
    intro c hc;by_cases ho:At (a.eval o1)=some c
    ·exact .inr (h2 c hc ho).2
    ·rcases h1 c hc with g | g
     ·exact .inl ⟨g,ho⟩
     ·exact .inr g.2
   cases y
   case fresh k n cs=>exact (Ez.mono m fun c hc => .inl (G c hc)).lower E
   case frs Z k n cs=>exact (IS.mono m fun c hc => .inl (G c hc)).lower E
   case gb cs =>
    obtain⟨b',q1,D,q3⟩:=m;exact⟨b',q1,E _ D,q3.mono fun c hc => .inl (G c hc)⟩
   case io =>
    have e4:Rd Y (fun b=>(X0 b\/XS s a.tmps b)/\¬ At (a.eval o1)=some b) w' v _:=m;exact Rd.io _ _ _ (e4.mono fun c hc => .inl ⟨l rfl c hc,fun ho=>by cases (h2 c hc ho).1⟩)
   all_goals exact Rd.mono m fun c hc => .inl ⟨l rfl c hc,fun ho=>by cases (h2 c hc ho).1⟩
theorem Ij(h:Rel Y X0 roots w0 s a w){w':World}(f:Below w.heap.size w w'){d k n:Nat}{v:Value}{cs:List AV}{ow:Bool}{ks:List Nat}(g:∀ t,(t,d)∈roots->t∈ks\/BC (Ag s t)=false)
  (e:Ez Y (fun c=>(X0 c\/XS s a.tmps c)\/w.heap.size<=c) (Zr w.heap.size) w' v k n cs) :
  Rel Y X0 roots w0 (BD (AE s (ks.map fun u=>(u,Reg.dead))) (some d) (if ow then .own k n cs else .val (.sl n cs))) (a.put (some d) v) w':=by
 refine BK h f g (fun _ b hb=>(Ez.block e hb).1) (fun X i j => ?_);have l:Ez Y X w0.mine w' v k n cs:=(e.mono fun c hc => .inl ((i c hc).imp id Nk)).lower h.below.from_;refine OE l (fun m c hc o => ?_) h.lowY;subst m;have h1:=(Ez.block e hc).1;have:=h.lowX c (j rfl c o);unfold Zr at h1;omega
theorem Ik(h:Rel Y X0 roots w0 s a w){d k:Nat}{ow:Bool}{ks:List Nat}(b:∀ t,(t,d)∈roots->t∈ks\/BC (Ag s t)=false) :
  Rel Y X0 roots w0 (BD (AE s (ks.map fun u=>(u,Reg.dead))) (some d) (if ow then .own k 0 [] else .val (.sl 0 []))) (a.put (some d) (.slice none 0 0)) w :=
 Ij h (F2 _ _) b (.inl ⟨rfl,rfl,rfl⟩)
theorem Ahc{o:Oper}{r J:Operand}{t t':TypeId}{nx d k n m B:Nat}{cs j:List AV}{ow:Bool}{T:Act->World->Prop}(h:Rel Y X0 roots w0 s a w)
  (a2:o.op = .call { callee := .builtin .append,args:=#[r,J],argTypes:=#[t,t'] }) (h1:a.eval r=a.tmps.getD nx A0) (g:E0 P t k=true) (i:Eo P t'=true) (U:OD P t B=true) (x:o.dst=some d)
  (y:∀ u,(u,d)∈roots->BC (Ag s u)=false) (K:Ag s nx = .own k n cs) (z:SlR Y (fun b=>X0 b\/XS s a.tmps b) w (a.eval J) m j) (l:C j=m*k) (a3:n+m<=B)
  (q:∀ a' w',Rel Y X0 roots w0 (BD (AE s [(nx,.dead)]) (some d) (if ow then .own k (n+m) (cs++j) else .val (.sl (n+m) (cs++j)))) a' w'->T a' w'):o.wp P a w T Q:=by
 have e:∀ {v:Value} {w':World},(AT #[t,t'] o.type #[a.eval r,a.eval J]).run P w = .ok v w'->(execOp a.eval o).run P w = .ok (.value v) w':=by
  intro v w' hh;simp[execOp,a2,resolve,invoke,builtin,hh]
 rcases h.ownLow K with ⟨A,rfl,rfl⟩ | ⟨b,cap,A,E,F,V,L,W,a4⟩
 ·have M:a.eval r = .slice none 0 0:=by rw[h1,A]
  rw[M] at e;simp only[AJ,C'] at q;rcases Ic m with G | G
  ·subst G;have N:j=[]:=A_ (by simpa using l);subst N;have hr:(execOp a.eval o).run P w = .ok (.value (.slice none 0 0)) w:=by
    rcases z with ⟨_,_,f | ⟨p,c,f⟩⟩ | ⟨b,off,cap,f,_⟩
    ·rw[f] at e;exact e (append_nil (P:=P) (w:=w) (ty:=o.type) g i)
    ·rw[f] at e;exact e (G2 (P:=P) (w:=w) (ty:=o.type) g i)
    ·rw[f] at e;exact e (G2 (P:=P) (w:=w) (ty:=o.type) g i)
   refine AB hr (q _ _ ?_);rw[x];exact Ik (ks:=[nx]) h (fun u hu => .inr (y u hu))
  ·obtain⟨v',w',D,O,H⟩:=HC (P:=P) (ty:=o.type) (n:=0) (cs:=[]) g i U (.inl ⟨rfl,rfl,rfl,G⟩) (by simp) z G l (by omega);have hr:=e D;simp only[Cw,hr,BY];refine q _ _ ?_;rw[x];simp only[AJ,C'] at H;exact Ij (ks:=[nx]) h O (fun u hu => .inr (y u hu)) H
 have M:a.eval r = .slice (some ⟨b,0,none⟩) n cap:=by rw[h1,A]
 rw[M] at e;by_cases Z:m=0
 ·subst Z;have N:j=[]:=A_ (by simpa using l);subst N;have hr:(execOp a.eval o).run P w = .ok (.value (.slice (some ⟨b,0,none⟩) n cap)) w:=by
   rcases z with ⟨_,_,f | ⟨p,c,f⟩⟩ | ⟨b',a5,a6,f,_⟩
   ·rw[f] at e;exact e (LQ (P:=P) (w:=w) (ty:=o.type) g i E)
   ·rw[f] at e;exact e (Ix (P:=P) (w:=w) (ty:=o.type) g i E)
   ·rw[f] at e;exact e (Ix (P:=P) (w:=w) (ty:=o.type) g i E)
  refine AB hr (q _ _ ?_);rw[x];refine Rel.shift h K (b:=b) (by rw[A];rfl) y rfl rfl rfl rfl (fun _ _=>rfl) (fun _=>rfl) (fun X R I => ?_);simp only[Bn,UF] at I |-;exact OE (.inr ⟨b,cap,rfl,E,F,V,L.mono fun c hc => .inl (R c hc),W⟩) (fun S=>by subst S;exact fun c hc=>by cases hc;exact I rfl) h.lowY
 by_cases a1:n+m<=cap
 ·obtain⟨w',D,R,I,g3,g4,g5,g6,g7⟩:=Qy (P:=P) (ty:=o.type) g i a1 (Y:=Y) (X:=fun b=>X0 b\/XS s a.tmps b) (.inr a4) L W F z Z l;have hr:=e D;simp only[Cw,hr,BY];refine q _ _ ?_;rw[x];refine Rel.shift h K (b:=b) (by rw[A];rfl) y R I g3 g4 g5 (fun _=>rfl) (fun X q1 q2 => ?_);exact OE (.inr ⟨b,cap,rfl,a1,by rw[Ac,F,l,Ek],V,g6.mono fun c hc => .inl (q1 c hc),g7⟩) (fun S=>by subst S;exact fun c hc=>by cases hc;exact q2 rfl) h.lowY
 ·obtain⟨v',w',D,O,H⟩:=HC (P:=P) (ty:=o.type) g i U (.inr ⟨b,cap,rfl,by omega,L.mem⟩) F z (by omega) l a3;have hr:=e D;simp only[Cw,hr,BY];refine q _ _ ?_;rw[x];exact Ij (ks:=[nx]) h O (fun u hu => .inr (y u hu)) H
theorem Ahd{o:Oper}{q r:Operand}{t t':TypeId}{d k m B:Nat}{g:List AV}{x:Act->World->Prop}(h:Rel Y X0 roots w0 s a w)
  (G:o.op = .call { callee := .builtin .append,args:=#[q,r],argTypes:=#[t,t'] }) (i:E0 P t k=true) (j:Eo P t'=true) (H:OD P t B=true) (y:o.dst=some d)
  (z:∀ u,(u,d)∈roots->BC (Ag s u)=false) (I:a.eval q = .slice none 0 0) (A:SlR Y (fun b=>X0 b\/XS s a.tmps b) w (a.eval r) m g) (D:C g=m*k) (N:m<=B)
  (E:∀ a' w',Rel Y X0 roots w0 (BD s (some d) (.own k m g)) a' w'->x a' w'):o.wp P a w x Q:=by
 have e:∀ {v:Value} {w':World},(AT #[t,t'] o.type #[a.eval q,a.eval r]).run P w = .ok v w'->(execOp a.eval o).run P w = .ok (.value v) w':=by
  intro v w' J;simp[execOp,G,resolve,invoke,builtin,J]
 rw[I] at e;rcases Ic m with l | l
 ·subst l;have K:g=[]:=A_ (by simpa using D);subst K;have hr:(execOp a.eval o).run P w = .ok (.value (.slice none 0 0)) w:=by
   rcases A with ⟨_,_,f | ⟨p,c,f⟩⟩ | ⟨b,off,cap,f,_⟩
   ·rw[f] at e;exact e (append_nil (P:=P) (w:=w) (ty:=o.type) i j)
   ·rw[f] at e;exact e (G2 (P:=P) (w:=w) (ty:=o.type) i j)
   ·rw[f] at e;exact e (G2 (P:=P) (w:=w) (ty:=o.type) i j)
  refine AB hr (E _ _ ?_);rw[y];exact Ik (ow:=true) (ks:=[]) h (fun u hu => .inr (z u hu))
 ·obtain⟨O,w',L,M,F⟩:=HC (P:=P) (ty:=o.type) (n:=0) (cs:=[]) i j H (.inl ⟨rfl,rfl,rfl,l⟩) (by simp) A l D (by omega);have hr:=e L;simp only[Cw,hr,BY];refine E _ _ ?_;rw[y];simp only[AJ,C'] at F;exact Ij (ow:=true) (ks:=[]) h M (fun u hu => .inr (z u hu)) F
end
theorem JD{ls:List (Nat × Nat)}{i j:Nat}:Ey (MY ls i) j=if i=j then none else Ey ls j:=by
 induction ls with
 | nil=>simp[MY,Ey]
 | cons p ls b =>
  obtain⟨o,u⟩:=p;unfold MY at b |-;by_cases h:o=i
  ·subst h;rw[Arr (by simp),b];by_cases a:o=j
   ·simp[a]
   ·simp[Ey,a]
  ·rw[Ars (by simp[h])];simp only[Ey];by_cases a:o=j
   ·subst a;simp[EG h]
   ·simp only[a,if_false];exact b
theorem Zs{ls:List (Nat × Nat)}{i:Nat}{p:Nat × Nat}(h:p∈MY ls i):p∈ls:=(H4.1 h).1
theorem LU{s:V}:∀ {ls:List (Nat × Nat)} {cs a:List AV} {l:List (Nat × Reg)},Ie s ls cs=some (a,l) ->
  C a=C cs/\(∀ i,Ey ls i=none->a[i]? = cs[i]?)/\(∀ i u,Ey ls i=some u->∃ k n es,Ag s u = .own k n es/\(u,X (.sl n es))∈l/\(i<C cs->a[i]? = some (.sl n es))) /\
  (∀ p∈l,∃ k n es,Ag s p.1 = .own k n es/\p.2 = .val (.sl n es))
 | [],cs,a,l,h=>by
  cases h;exact⟨rfl,fun i _=>rfl,fun i u hu=>(by cases hu),fun p b=>(by cases b)⟩
 | (o,u)::ls,cs,a,l,h=>by
  simp only[Ie] at h;split at h
  ·rename_i k n es hr;split at h
   ·rename_i y z hf;cases h;obtain⟨h1,h2,g,j⟩:=LU hf;refine⟨by rw[Az,h1],fun i hi => ?_,fun i v c => ?_,fun p b => ?_⟩
    ·simp only[Ey] at hi;split at hi
     ·cases hi
     next d=>rw[Do d];exact h2 i hi
    ·simp only[Ey] at c;split at c
     next e=>cases c;subst e;exact⟨k,n,es,hr,A1,fun f=>by rw[Qr (by omega)]⟩
     next d=>obtain⟨m,q,r,t,w,x⟩:=g i v c;exact⟨m,q,r,t,AI _ w,fun f=>by rw[Do d];exact x f⟩
    ·rcases Aw.1 b with rfl | b
     ·exact⟨k,n,es,hr,rfl⟩
     ·exact j p b
   ·cases h
  ·cases h
theorem UG{s:V}:∀ {ls:List (Nat × Nat)} {cs a:List AV},Kj s ls cs=some a ->
  C a=C cs/\(∀ i,Ey ls i=none->a[i]? = cs[i]?)/\(∀ i u,Ey ls i=some u->∃ k n es,Ag s u = .own k n es/\(i<C cs->a[i]? = some (.sl n es)))
 | [],cs,a,h=>by
  cases h;exact⟨rfl,fun i _=>rfl,fun i u hu=>by cases hu⟩
 | (o,u)::ls,cs,a,h=>by
  simp only[Kj] at h;split at h
  ·rename_i k n es hr;simp only[S] at h;obtain⟨q,hf,rfl⟩:=h;obtain⟨h1,h2,f⟩:=UG hf;refine⟨by rw[Az,h1],fun i hi => ?_,fun i v b => ?_⟩
   ·simp only[Ey] at hi;split at hi
    ·cases hi
    next c=>rw[Do c];exact h2 i hi
   ·simp only[Ey] at b;split at b
    next e=>cases b;subst e;exact⟨k,n,es,hr,fun d=>by rw[Qr (by omega)]⟩
    next c=>obtain⟨g,j,l,m,p⟩:=f i v b;exact⟨g,j,l,m,fun d=>by rw[Do c];exact p d⟩
  ·cases h
def Apt:List (Nat × Nat)->Prop
 | []=>True
 | (o,_)::ls=>Ey ls o=none/\Apt ls
theorem Tf{s:V}:∀ {ls:List (Nat × Nat)} {cs a:List AV},IQ s ls cs=some a ->
  C a=C cs/\(∀ i,Ey ls i=none->a[i]? = cs[i]?)/\(∀ p∈ls,p.1<C cs/\∃ k n es,Ag s p.2 = .own k n es)/\Apt ls
 | [],cs,a,h=>by
  cases h;exact⟨rfl,fun i _=>rfl,fun p b=>(by cases b),trivial⟩
 | (o,u)::ls,cs,a,h=>by
  simp only[IQ] at h;split at h
  ·rename_i k n es hr;split at h
   ·rename_i c;obtain⟨d,e⟩:=c;simp only[S] at h;obtain⟨l,hf,rfl⟩:=h;obtain⟨h1,h2,f,g⟩:=Tf hf;refine⟨by rw[Az,h1],fun i hi => ?_,fun p b => ?_,e,g⟩
    ·simp only[Ey] at hi;split at hi
     ·cases hi
     next j=>rw[Do j];exact h2 i hi
    ·rcases Aw.1 b with rfl | b
     ·exact⟨d,k,n,es,hr⟩
     ·exact f p b
   ·cases h
  ·cases h
theorem Abh{s:V}{t:Nat}{r:Reg}(h:Ag s t=r):s.set t r=s:=by
 apply A1d;intro i;rw[A1c];split
 ·rename_i e;subst e;split
  next a=>simp only[Ag,Z,Ad a,EA] at h;rw[Ad a,h]
  next b=>rw[AS (by omega)]
 ·rfl
section
variable {P:Program} {Y X0:Nat->Prop} {roots:List (Nat × Nat)} {w0:Base} {w:World} {s:V} {a:Act} {Q:Exit->Act->World->Prop}
theorem Jl{s0:V}:∀ (l:List (Nat × Reg)) {s:V},Rel Y X0 roots w0 s a w->(∀ p∈l,∃ k n es,Ag s0 p.1 = .own k n es/\p.2 = .val (.sl n es)) ->
  (∀ t,Ag s t=Ag s0 t\/∃ k n es,Ag s0 t = .own k n es/\Ag s t = .val (.sl n es)) ->
  Rel Y X0 roots w0 (AE s l) a w/\(∀ t,Ag (AE s l) t=Ag s0 t\/∃ k n es,Ag s0 t = .own k n es/\Ag (AE s l) t = .val (.sl n es))/\(∀ t r,Ag s t = .val r->Ag (AE s l) t = .val r)/\∀ p∈l,Ag (AE s l) p.1=p.2
 | [],s,h,_,hs=>⟨h,hs,fun _ _ h=>h,fun p b=>by cases b⟩
 | (u,r)::l,s,h,hl,hs=>by
  obtain⟨k,n,es,h1,h2⟩:=hl (u,r) A1;simp only at h1 h2;subst h2;have m:u<C s:=by
   rcases C6 u (C s) with g | g
   ·exact g
   ·exfalso;have:Ag s u = .dead:=by simp only[Ag,Z,AS g];rfl
    rcases hs u with e | ⟨_,_,_,_,e⟩
    ·rw[h1,this] at e;cases e
    ·rw[this] at e;cases e
  have o:Rel Y X0 roots w0 (s.set u (.val (.sl n es))) a w:=by
   rcases hs u with e | ⟨q,v,x,c,d⟩
   ·exact h.freeze (e.trans h1)
   ·rw[h1] at c;cases c;rw[Abh d];exact h
  have f:∀ t,Ag (s.set u (.val (.sl n es))) t=if u=t then .val (.sl n es) else Ag s t:=by
   intro t;rw[Ci];by_cases e:u=t
   ·rw[Af ⟨e,m⟩,Af e]
   ·rw[Ak (fun g=>e g.1),Ak e]
  obtain⟨y,z,j,A⟩:=Jl l o (fun p b=>hl p (AI _ b)) (fun t=>by
   rw[f];split
   next e=>subst e;exact .inr ⟨k,n,es,h1,rfl⟩
   ·exact hs t)
  refine⟨y,z,fun t r i => ?_,fun p b => ?_⟩
  ·refine j t r ?_;rw[f];split
   ·rename_i e;subst e;rcases hs u with e | ⟨q,v,x,c,d⟩
    ·rw[i,h1] at e;cases e
    ·rw[h1] at c;cases c;rw[i] at d;exact d.symm
   ·exact i
  ·rcases Aw.1 b with rfl | b
   ·exact j u _ (by rw[f,Af rfl])
   ·exact A p b
theorem Rel.hold(h:Rel Y X0 roots w0 s a w){d:Nat}{cs e:List AV}{ls k:List (Nat × Nat)}(hd:Ag s d = .bxh cs ls)(o:C e<=C cs)(q:∀ p∈k,p∈ls)
  (hc:∀ (i:Nat) (h1:i<C e) (h2:i<C cs),match Ey k i with
   | some u=>Ey ls i=some u
   | none=>e[i] = .undef\/(Ey ls i=none/\e[i]=cs[i])\/∃ u,Ey ls i=some u/\Ag s u = .val e[i]/\EM e[i]=true) :
  Rel Y X0 roots w0 (s.set d (.bxh e k)) a w:=by
 have h0:=h.reg d;rw[hd] at h0;obtain⟨b,vs,T,m,n,r,l⟩:=h0;refine Rel.store h hd rfl rfl (b:=b) (by rw[m];rfl) n rfl rfl rfl rfl (fun _ _=>rfl) (fun X hX=>⟨b,vs,T,m,n,r,fun p t=>l.1 p (q p t),AR o l.2.1,fun i hi => ?_⟩);obtain⟨v,x,y,f⟩:=l.2.2 i (by omega);refine⟨v,x,y,?_⟩;have j:=hc i hi (by omega);split
 next u hu=>simp only[hu] at j;simp only[j] at f;exact f
 ·rename_i hu;simp only[hu] at j;rcases j with j | ⟨c1,c2⟩ | ⟨u,c1,c2,c3⟩
  ·exact .inl j
  ·simp only[c1] at f;rw[c2];exact f.imp id fun g=>⟨g.1,g.2.mono fun c hc => .inl ((hX c).1 hc)⟩
  ·simp only[c1] at f;refine .inr ⟨c3,?_⟩;have h1:=h.reg u;rw[c2] at h1;rw[f];exact Rd.mono h1 fun c hc => .inl ((hX c).1 hc)
theorem Rel.holdBox(h:Rel Y X0 roots w0 s a w){d:Nat}{cs:List AV}(hd:Ag s d = .bxh cs [])(l:cs.all EM=true):Rel Y X0 roots w0 (s.set d (.box cs)) a w:=by
 have h0:=h.reg d;rw[hd] at h0;obtain⟨b,vs,T,f,g,m,j⟩:=h0;have k:Kd cs:=fun x n=>A6.1 l x n;refine Rel.store h hd rfl rfl (b:=b) (by rw[f];rfl) g rfl rfl rfl rfl (fun _ _=>rfl) (fun X hX=>⟨b,f,g,k,vs,T,m,by have:=j.2.1;omega,fun i hi => ?_⟩);obtain⟨v,o,p,e⟩:=j.2.2 i hi;simp only[Ey] at e;refine⟨v,by rw[AJ];exact o,?_⟩;rcases e with e | e
 ·have:=k _ (Bl hi);rw[e] at this;cases this
 ·exact e.2.mono fun c hc => .inl ((hX c).1 hc)
theorem Rel.dead(h:Rel Y X0 roots w0 s a w){dst:Option Nat}{v:Value}(hf:D1 s roots dst):Rel Y X0 roots w0 (BD s dst .dead) (a.put dst v) w:=by
 cases dst with
 | none=>exact h
 | some d=>exact BK (ks:=[]) h (F2 _ _) (fun t b => .inr (hf d rfl t b)) (fun c=>(by cases c)) (fun X _ _=>trivial)
theorem Ahe{o:Oper}{d:Act->World->Prop}(h:Rel Y X0 roots w0 s a w)(b:C9 P o.op .npt=true)(hf:D1 s roots o.dst)(e:∀ a' w',Rel Y X0 roots w0 (BD s o.dst .dead) a' w'->d a' w'):o.wp P a w d Q:=by
 simp only[C9] at b;split at b
 next c=>exact AB (v := .pointer none) (by simp[execOp,c,If]) (e _ _ (h.dead hf))
 next c=>exact AB (v := .pointer none) (by simp[execOp,c,If]) (e _ _ (h.dead hf))
 ·cases b
theorem Ahf{o:Oper}{x d:Nat}{r:Reg}{l:List (Nat × Reg)}{F:Bf}{u:Act->World->Prop}(h:Rel Y X0 roots w0 s a w)(g:C9 P o.op (.mvp x d)=true)(hf:D1 s roots o.dst)(v:∀ t,o.dst=some t->(t,d)∈roots/\t ≠ d)
  (c:A2 F s (.mvp x d)=some (r,l)) (i:∀ a' w',Rel Y X0 roots w0 (BD (AE s l) o.dst r) a' w'->u a' w'):o.wp P a w u Q:=by
 have j:∀ b e,a.tmps.getD x A0 = .pointer (some ⟨b,e,none⟩)->(execOp a.eval o).run P w = .ok (.value (.pointer (some ⟨b,e,none⟩))) w:=by
  intro b e z;simp only[C9] at g;split at g
  next y k=>simp[execOp,k,BI (a:=a) g,z]
  next y k=>simp[execOp,k,BI (a:=a) g,z]
  ·cases g
 have h0:=h.reg x;simp only[A2] at c;split at c
 ·rename_i m;subst m;split at c
  case isFalse=>cases c
  rename_i A;cases c;have:∃ b,a.tmps.getD x A0 = .pointer (some ⟨b,0,none⟩):=by
   cases hr:Ag s x <;> rw[hr] at A h0 <;> first | (cases A;done) | (obtain⟨b,f,_⟩:=h0;exact⟨b,f⟩)
  obtain⟨b,f⟩:=this;refine AB (j b 0 f) (i _ _ ?_);exact F4 (off:=0) (p:=⟨b,0,none⟩) h hf v (by rw[f];rfl) rfl
 ·split at c
  ·rename_i B e hr;rw[hr] at h0;split at c
   next m=>subst m;cases c;obtain⟨_,p,f,n,q⟩:=h0;refine AB (j p.block (p.off+e) q) (i _ _ ?_);exact F4 (off:=e) h hf v f n
   ·cases c
  next cs hr=>rw[hr] at h0;cases c;obtain⟨b,e,f,n,q⟩:=h0;refine AB (j b e f) (i _ _ ?_);exact Kl h hf n q
  ·cases c
theorem Ahg{o:Oper}{op:BinOp}{x y:Opd}{r:Reg}{l:List (Nat × Reg)}{F:Bf}{p:Act->World->Prop}(h:Rel Y X0 roots w0 s a w)(c:C9 P o.op (.sbn op x y)=true)(hf:D1 s roots o.dst)
  (d:A2 F s (.sbn op x y)=some (r,l)) (g:∀ a' w',Rel Y X0 roots w0 (BD (AE s l) o.dst r) a' w'->p a' w'):o.wp P a w p Q:=by
 simp only[C9] at c;split at c
 ·rename_i i t q u t' j;simp only[U,AW] at c;obtain⟨⟨⟨rfl,h0⟩,h1⟩,h2⟩:=c;simp only[A2] at d;split at d
  ·rename_i e f C E;simp only[S] at d;obtain⟨z,b,G⟩:=d;cases G;have A:=B2 h h1 C;have B:=B2 h h2 E;generalize k:a.eval q=H at A;generalize m:a.eval u=I at B;cases A;cases B;have n:(eqGuard i t q u (.string e) (.string f)).run P w = .ok () w:=by cases i <;> rfl
   cases i <;> simp only[Zh] at b <;> first | (cases b;done) | skip
   ·split at b
    ·rename_i J;cases b;refine AB (v := .string (e++f)) ?_ (g _ _ (h.put hf (.str _)));have hn:¬ (((e.size+f.size:Nat):Int)>IntKind.max D):=by
      have:IntKind.max D=9223372036854775807:=by decide
      omega
     simp only[execOp,j,k,m,Am,n,Aa,binOp,LJ,hn,if_false,Ap]
    ·cases b
   ·cases b;refine AB (v := .bool (e.toList==f.toList)) ?_ (g _ _ (h.put hf (.bool _)));simp only[execOp,j,k,m,Am,n,Aa,binOp,LJ,Ap]
   ·cases b;refine AB (v := .bool (!(e.toList==f.toList))) ?_ (g _ _ (h.put hf (.bool _)));simp only[execOp,j,k,m,Am,n,Aa,binOp,LJ,Ap]
  ·cases d
 ·cases c
theorem Ahh{o:Oper}{x:Opd}{r:Reg}{l:List (Nat × Reg)}{F:Bf}{e:Act->World->Prop}(h:Rel Y X0 roots w0 s a w)(c:C9 P o.op (.sln x)=true)(hf:D1 s roots o.dst)
  (d:A2 F s (.sln x)=some (r,l)) (k:∀ a' w',Rel Y X0 roots w0 (BD (AE s l) o.dst r) a' w'->e a' w'):o.wp P a w e Q:=by
 simp only[C9] at c;split at c
 ·rename_i args f m;split at c
  ·rename_i n t g i;simp only[U] at c;obtain⟨h1,h2⟩:=c;obtain⟨args⟩:=args;obtain⟨f⟩:=f;simp only at g i;subst g i;simp only[A2] at d;split at d
   ·rename_i b p;cases d;have j:=B2 h h1 p;generalize q:a.eval n=u at j;cases j;refine AB (v := .int .i64 b.size) ?_ (k _ _ (h.put hf (.int _ _)));split at h2
    next hu=>simp[execOp,m,resolve,invoke,builtin,Gy,q,run_underlying hu];rfl
    ·cases h2
   ·cases d
  ·cases c
 ·cases c
end
section
variable {P:Program} {Y X0:Nat->Prop} {roots:List (Nat × Nat)} {w0:Base} {w:World} {s:V} {a:Act} {Q:Exit->Act->World->Prop}
theorem IE{s:V}{t:Nat}{r:Reg}(h:Ag s t=r)(hr:r ≠ .dead):t<C s:=by
 rcases C6 t (C s) with g | g
 ·exact g
 ·exfalso;simp only[Ag,Z,AS g] at h;exact hr h.symm
theorem DT{s:V}{d t:Nat}{r:Reg}(a:d<C s):Ag (s.set d r) t=if d=t then r else Ag s t:=by
 rw[Ci];by_cases e:d=t
 ·rw[Af ⟨e,a⟩,Af e]
 ·rw[Ak (fun g=>e g.1),Ak e]
theorem Q0{a:V}{d t:Nat}{cs g:List AV}{ls b:List (Nat × Nat)}(f:∀ t,Ag a t=Ag s t\/∃ k n es,Ag s t = .own k n es/\Ag a t = .val (.sl n es))(hd:Ag s d = .bxh cs ls)(h:∀ p∈b,p∈ls)
  (c:BC (Ag s t)=false):BC (Ag (a.set d (.bxh g b)) t)=false:=by
 have i:Ag a d = .bxh cs ls:=by
  rcases f d with e | ⟨_,_,_,e,_⟩
  ·rw[e,hd]
  ·rw[hd] at e;cases e
 rw[DT (IE i (by nofun))];split
 ·rename_i e;subst e;rw[hd] at c;cases ls with
  | cons _ _=>cases c
  | nil =>
   cases b with
   | nil=>rfl
   | cons p _=>exact absurd (h p A1) (by simp)
 ·rcases f t with e | ⟨_,_,_,_,e⟩
  ·rw[e];exact c
  ·rw[e];rfl
theorem rM{t:TypeId}{b off:Nat}{v:Value}(ho:Gk P t 1 true=true)(hc:w.cell? ⟨b,off,none⟩=some v):(loadVar t ⟨b,off,none⟩).run P w = .ok v w:=by
 obtain⟨h1,_⟩:=Ed ho;simp[loadVar,h1,hc]
theorem Ahi{o:Oper}{x d:Nat}{fz:Bool}{us Z:List Nat}{r:Reg}{l:List (Nat × Reg)}{F:Bf}{K:Act->World->Prop}(h:Rel Y X0 roots w0 s a w)(B:C9 P o.op (.ldh x d fz us)=true)(D:∀ t∈Z,BC (Ag s t)=false)
  (a1:BH roots Z o.dst (.ldh x d fz us)=true) (f:A2 F s (.ldh x d fz us)=some (r,l)) (E:∀ a' w',Rel Y X0 roots w0 (BD (AE s l) o.dst r) a' w'->K a' w'):o.wp P a w K Q:=by
 simp only[BH,U,A6] at a1;obtain⟨⟨hf,b7⟩,a5⟩:=a1;simp only[C9] at B;split at B
 case h_2=>cases B
 rename_i t x' a6;simp only[U] at B;obtain⟨h1,h2⟩:=B;have a7:=BI (a:=a) h1;have h0:=h.reg x;simp only[A2] at f;split at f
 case h_2=>cases f
 rename_i y off hr;rw[hr] at h0;split at f
 case isFalse=>cases f
 rename_i hd;subst hd;obtain⟨_,p,g1,g2,g3⟩:=h0;have L:=h.reg y;have G:∀ (b:Nat) (v:Value) (a':Act),a'=a->a.tmps.getD y A0 = .pointer (some ⟨b,0,none⟩)->w.cell? ⟨b,off,none⟩=some v->(∀ R:Act->World->Prop,R (a.put o.dst v) w->(∀ a' w',R a' w'->K a' w')->o.wp P a w K Q):=by
  intro b v a' _ he hc R a8 a9;rw[he] at g1;cases g1;have b0:=rM (P:=P) h2 hc;refine AB (v:=v) ?_ (a9 _ _ a8);simp only[execOp,a6,Lf,a7,g3,Cl,Am,Ap,Aa,AJ,b0]
 split at f
 ·-- a plain variable
  rename_i cs q;rw[q] at L;split at f
  case h_2=>cases f
  rename_i c hc;cases f;obtain⟨b,z,_,S⟩:=L;obtain⟨V,j⟩:=AZ.1 hc;obtain⟨v,M,g⟩:=S.mem.2 off V;rw[AJ] at M;refine G b v a rfl z M _ ?_ E;simp only[AE];exact h.put (Aq D hf) (j ▸ g)
 ·rename_i cs ls q;rw[q] at L;obtain⟨b,vs,T,z,e2,S,e4⟩:=L;unfold MZ at f;split at f
  case isFalse=>cases f
  rename_i b1;split at f
  case isFalse=>cases f
  rename_i V;obtain⟨v,M,q0,g⟩:=e4.2.2 off V;have hcell:w.cell? ⟨b,off,none⟩=some v:=by rw[HD S];exact M
  have a2:∀ u,Ey ls off=some u->∀ t,o.dst=some t->(t,u)∈roots/\t ≠ u:=by
   intro u hu;have:=A6.1 b1 _ (JA hu);exact Ef (a5 u (by simpa using this))
  cases fz with
  | false =>
   simp only[AC,if_false] at f;split at f
   next u hu=>cases f;simp only[hu] at g;refine G b v a rfl z hcell _ ?_ E;simp only[AE];rw[g];exact h.putDup (Aq D hf) (a2 u hu)
   ·rename_i hu;simp only[hu] at g;split at f
    ·rename_i c hc;split at f
     ·rename_i H;cases f;obtain⟨_,j⟩:=AZ.1 hc;refine G b v a rfl z hcell _ ?_ E;simp only[AE];rcases g with g | g
      ·rw[j] at g;rw[g] at H;cases H
      ·rw[j] at g;exact h.put (Aq D hf) g.2
     ·cases f
    ·cases f
  | true =>
   simp only[if_true] at f;split at f
   case h_2=>cases f
   rename_i a3 I b2;obtain⟨f1,W,f3,f4⟩:=LU b2;obtain⟨r1,r2,r3,r4⟩:=Jl (s0:=s) I h f4 (fun t => .inl rfl);have a4:Ag (AE s I) y = .bxh cs ls:=by
    rcases r2 y with e | ⟨_,_,_,e,_⟩
    ·rw[e,q]
    ·rw[q] at e;cases e
   have b8:C (AE s I)=C s:=GW _ _;have step:∀ J:List (Nat × Nat),(∀ p∈J,p∈ls)->(∀ i,i ≠ off->Ey J i=none)->(Ey J off=Ey ls off)->Rel Y X0 roots w0 ((AE s I).set y (.bxh a3 J)) a w:=by
    intro J b3 b4 b5;refine r1.hold a4 (by omega) b3 (fun i N O => ?_);by_cases hi:i=off
    ·subst hi;rw[b5];split
     next u hu=>rw[hu]
     next hu=>refine .inr (.inl ⟨hu,?_⟩);have:=W i (by rw[JD,Af rfl]);rw[Ad N,Ad O] at this;exact AM this
    ·rw[b4 i hi];dsimp only;cases hu:Ey ls i with
     | none =>
      refine .inr (.inl ⟨rfl,?_⟩);have:=W i (by rw[JD,Ak (EG hi)];exact hu);rw[Ad N,Ad O] at this;exact AM this
     | some u =>
      obtain⟨k,n,es,p1,p2,p3⟩:=f3 i u (by rw[JD,Ak (EG hi)];exact hu);refine .inr (.inr ⟨u,rfl,?_,?_⟩)
      ·have e:=p3 O;rw[Ad N] at e;rw[AM e];exact r4 _ p2
      ·have e:=p3 O;rw[Ad N] at e;rw[AM e];rfl
   split at f
   next u hu=>cases f;simp only[hu] at g;have hs:=step [(off,u)] (fun p m=>by simp only[Be] at m;subst m;exact JA hu) (fun i hi=>by simp[Ey,EG hi]) (by simp[Ey,hu]);refine G b v a rfl z hcell _ ?_ E;rw[DW];simp only[AE];rw[g];refine hs.putDup (Aq (fun t X => ?_) hf) (a2 u hu);exact Q0 r2 q (fun p m=>by simp only[Be] at m;subst m;exact JA hu) (D t X)
   ·rename_i hu;simp only[hu] at g;split at f
    ·rename_i c hc;split at f
     ·rename_i H;cases f;have hs:=step [] (fun p m=>by cases m) (fun i hi=>rfl) (by rw[hu];rfl);have j:cs[off]? = some c:=by rw[<- W off (by rw[JD,Af rfl])];exact hc
      obtain⟨_,j⟩:=AZ.1 j;refine G b v a rfl z hcell _ ?_ E;rw[DW];simp only[AE];rcases g with g | g
      ·rw[j] at g;rw[g] at H;cases H
      ·rw[j] at g;refine hs.put (Aq (fun t X => ?_) hf) ?_
       ·exact Q0 r2 q (fun p m=>by cases m) (D t X)
       ·have b6:∀ c,XS ((AE s I).set y (.bxh a3 [])) a.tmps c->XS s a.tmps c:=by
         rintro c ⟨t,A,t2⟩;rw[DT (IE a4 (by nofun))] at A;split at A
         next e=>subst e;exact⟨y,by rw[q];rfl,t2⟩
         ·rcases r2 t with e | ⟨_,_,_,_,e⟩
          ·rw[e] at A;exact⟨t,A,t2⟩
          ·rw[e] at A;cases A
        exact g.2.mono fun c hc => .inl (hc.imp id (b6 c))
     ·cases f
    ·cases f
 ·cases f
theorem iT{t:TypeId}{b off:Nat}{v:Value}{vs:Array Value}{T:TypeId}(j:FB P t 1=true)(g:w.heap[b]? = some (.cells vs T (0,0)))(k:v.oneCell'=true)(a:v.cells=#[v])(l:off<vs.size) :
  ∃ w' d,(storeVar t ⟨b,off,none⟩ v).run P w = .ok () w'/\w'.os=w.os/\w'.tape=w.tape/\w'.output=w.output/\w'.heap.size=w.heap.size/\(∀ c,c ≠ b->w'.heap[c]? = w.heap[c]?)/\w'.heap[b]? = some (.cells d T (0,0))/\d.size=vs.size/\∀ i,d[i]? = if i=off then some v else vs[i]? := by
 have e:=run_storeCells_at (P:=P) b off T v.cells.toList 0 vs w g (by rw[a];simp;omega) (by rw[a];intro u hu;simp at hu;rw[hu];exact k);rw[a] at e;simp only[Bn] at e;refine⟨w.setRow b (CV off vs.toList++[v]++R (off+C [v]) vs.toList).toArray,(CV off vs.toList++[v]++R (off+C [v]) vs.toList).toArray,?_,rfl,rfl,rfl,DX _ _ _,fun c hc=>Dy _ _ _ _ hc,setRow_heap w b vs _ T (0,0) g,?_,fun i => ?_⟩
 ·have:=FC j w;simp only[storeVar,Am,this,Aa,a];exact e
 ·simp;omega
 ·have f:C (vs.toList.take off)=off:=by simp;omega
  simp only[Cq];by_cases h1:i<off
  ·rw[Ak (by omega),EU,AA (by omega),BO h1];simp
  ·by_cases h2:i=off
   ·subst h2;rw[Af rfl,AA (by simp;omega),AO (by omega),f];simp
   ·rw[Ak h2,AO (by simp;omega),C8];have h:off+C [v]+(i-C (vs.toList.take off++[v]))=i:=by simp only[Ac,f,BF,Ev];omega
    simp only[BF,Ev,Ac,f] at h |-;rw[h];simp
theorem Rel.cellsOf(h:Rel Y X0 roots w0 s a w){d:Nat}{cs:List AV}{ls:List (Nat × Nat)}(hd:(Ag s d = .box cs/\ls=[])\/Ag s d = .bxh cs ls) :
  ∃ b vs T,a.tmps.getD d A0 = .pointer (some ⟨b,0,none⟩)/\w0.mine b/\w.heap[b]? = some (.cells vs T (0,0))/\Jh Y (fun b=>X0 b\/XS s a.tmps b) roots a.tmps w d vs cs ls:=by
 have h0:=h.reg d;rcases hd with ⟨hd,rfl⟩ | hd
 ·rw[hd] at h0;obtain⟨b,g,j,k,vs,T,l,o,m⟩:=h0;refine⟨b,vs,T,g,j,l,fun p n=>(by cases n),by omega,fun i hi => ?_⟩;obtain⟨v,c,e⟩:=m i hi;rw[AJ] at c;have f:=k _ (Bl hi);exact⟨v,c,(EW e f).1,.inr ⟨f,e⟩⟩
 ·rw[hd] at h0;exact h0
theorem Zt{o:Oper}{x d off:Nat}{cs j:List AV}{ls l:List (Nat × Nat)}{t:TypeId}{z k:Operand}{A:Act->World->Prop}(h:Rel Y X0 roots w0 s a w)(I:o.op = .store t z k)(h1:Bh z (.t x)=true)(h2:FB P t 1=true)
  (hr:Ag s x = .ptr d off) (hd:(Ag s d = .box cs/\ls=[])\/Ag s d = .bxh cs ls) (J:off<C cs) (B:(a.eval k).oneCell'=true) (K:(a.eval k).cells=#[a.eval k]) (L:C j=C cs) (M:∀ p∈l,(d,p.2)∈roots)
  (N:∀ (i:Nat) (q:i<C j) (O:i<C cs),if i=off then (match Ey l off with | some u=>a.eval k=a.tmps.getD u A0 | none=>j[i] = .undef\/(EM j[i]=true/\Rd Y (fun b=>X0 b\/XS s a.tmps b) w (a.eval k) j[i])) else Ey l i=Ey ls i/\j[i]=cs[i])
  (R:o.dst=none) (S:∀ a' w',Rel Y X0 roots w0 (s.set d (.bxh j l)) a' w'->A a' w'):o.wp P a w A Q:=by
 obtain⟨b,vs,T,m,D,U,r⟩:=h.cellsOf hd;have V:=BI (a:=a) h1;have h0:=h.reg x;rw[hr] at h0;obtain⟨_,p,q,O,W⟩:=h0;rw[m] at q;cases q;have E:Cd (Ag s d)=true:=by rcases hd with ⟨hd,_⟩ | hd <;> rw[hd] <;> rfl
 have Z:XS s a.tmps b:=⟨d,E,by rw[m];rfl⟩;obtain⟨w',a1,a2,s1,s2,s3,s4,F,s6,s7,G⟩:=iT (P:=P) h2 U B K (Ba J r.2.1);have a3:(execOp a.eval o).run P w = .ok .skip w':=by
  simp only[execOp,I,Ib,V,W,Cl,Am,Ap,Aa,AJ,a2]
 simp only[Cw,a3,BY];rw[R];refine S _ _ (Rel.store h rfl E rfl (b:=b) (by rw[m];rfl) D s1 s2 s3 s4 F (fun X hX=>⟨b,a1,T,m,D,s6,M,by rw[s7,L];exact r.2.1,fun i hi => ?_⟩));have H:∀ c,¬ X c->c<w.heap.size->w'.heap[c]? = w.heap[c]? := fun c hc _=>F c (fun e=>hc (e ▸ (hX b).2 (.inr Z)));have f:=N i hi (by omega);by_cases y:i=off
 ·subst y;rw[Af rfl] at f;refine⟨a.eval k,by rw[G,Af rfl],B,?_⟩;split
  next u hu=>simp only[hu] at f;exact f
  next hu=>simp only[hu] at f;exact f.imp id fun g=>⟨g.1,(g.2.mono fun c hc => .inl ((hX c).1 hc)).world H⟩
 ·rw[Ak y] at f;obtain⟨v,q1,q0,n⟩:=r.2.2 i (by omega);refine⟨v,by rw[G,Ak y];exact q1,q0,?_⟩;rw[f.1];split
  next u hu=>simp only[hu] at n;exact n
  next hu=>simp only[hu] at n;rw[f.2];exact n.imp id fun g=>⟨g.1,(g.2.mono fun c hc => .inl ((hX c).1 hc)).world H⟩
theorem UH{Y X:Nat->Prop}{B:Nat->Prop}{v:Value}{k n:Nat}{cs:List AV}(h:Ez Y X B w v k n cs):v.oneCell'=true/\v.cells=#[v]:=by
 rcases h with ⟨rfl,_⟩ | ⟨b,cap,rfl,_⟩ <;> exact⟨rfl,rfl⟩
theorem Ahj{o:Oper}{x d v:Nat}{r:Reg}{l:List (Nat × Reg)}{F:Bf}{f:Act->World->Prop}(h:Rel Y X0 roots w0 s a w)(c:C9 P o.op (.sth x d v)=true)
  (y:o.dst=none) (B:(d,v)∈roots) (b:A2 F s (.sth x d v)=some (r,l)) (j:∀ a' w',Rel Y X0 roots w0 (BD (AE s l) o.dst r) a' w'->f a' w'):o.wp P a w f Q:=by
 simp only[C9] at c;split at c
 case h_2=>cases c
 rename_i t M N D;simp only[U] at c;obtain⟨⟨h1,h2⟩,E⟩:=c;simp only[A2] at b;split at b
 case h_2=>cases b
 rename_i g off hr;split at b
 case isFalse=>cases b
 rename_i G;subst G;split at b
 case h_2=>cases b
 rename_i k n es H;have z:=h.reg v;rw[H] at z;have m:=BI (a:=a) E;obtain⟨o1,I⟩:=UH z;rw[y] at j;have A:∀ (cs:List AV) (ls:List (Nat × Nat)),((Ag s g = .box cs/\ls=[])\/Ag s g = .bxh cs ls)->off<C cs->(∀ a' w',Rel Y X0 roots w0 (s.set g (.bxh (cs.set off .undef) ((off,v)::MY ls off))) a' w'->f a' w')->o.wp P a w f Q:=by
  intro cs ls hd e J;have K:∀ p∈ls,(g,p.2)∈roots:=by
   obtain⟨_,_,_,_,_,_,L⟩:=h.cellsOf hd;exact L.1
  refine Zt h D h1 h2 hr hd e (by rw[m];exact o1) (by rw[m];exact I) (Az ..) (fun p q => ?_) (fun i O R => ?_) y J
  ·rcases Aw.1 q with rfl | q
   ·exact B
   ·exact K p (Zs q)
  ·by_cases hi:i=off
   ·subst hi;rw[Af rfl];simp only[Ey,if_true];exact m
   ·rw[Ak hi];refine⟨?_,by rw[MV (EG hi)]⟩;simp only[Ey,EG hi,if_false];rw[JD,Ak (EG hi)]
 split at b
 ·rename_i cs u;split at b
  case isFalse=>cases b
  rename_i e;cases b;exact A cs [] (.inl ⟨u,rfl⟩) e j
 ·rename_i cs ls u;split at b
  case isFalse=>cases b
  rename_i e;cases b;exact A cs ls (.inr u) e j
 ·cases b
theorem Ahk{o:Oper}{x d:Nat}{v:Opd}{r:Reg}{l:List (Nat × Reg)}{F:Bf}{f:Act->World->Prop}(h:Rel Y X0 roots w0 s a w)(e:C9 P o.op (.sts x d v)=true)
  (g:o.dst=none) (b:A2 F s (.sts x d v)=some (r,l)) (j:∀ a' w',Rel Y X0 roots w0 (BD (AE s l) o.dst r) a' w'->f a' w'):o.wp P a w f Q:=by
 simp only[C9] at e;split at e
 case h_2=>cases e
 rename_i t G H q;simp only[U] at e;obtain⟨⟨h1,h2⟩,u⟩:=e;simp only[A2] at b;split at b
 case h_2=>cases b
 rename_i y off c hr hc;split at b
 case isFalse=>cases b
 rename_i z;obtain⟨rfl,k⟩:=z;have m:=B2 h u hc;obtain⟨o1,A⟩:=EW m k;rw[g] at j;split at b
 case h_2=>cases b
 rename_i cs ls n;split at b
 case isFalse=>cases b
 rename_i B;cases b;have C:∀ p∈ls,(y,p.2)∈roots:=by
  obtain⟨_,_,_,_,_,_,D⟩:=h.cellsOf (.inr n);exact D.1
 refine Zt h q h1 h2 hr (.inr n) B o1 A (Az ..) (fun p E=>C p (Zs E)) (fun i I J => ?_) g j;by_cases hi:i=off
 ·subst hi;rw[Af rfl,JD,Af rfl];dsimp only;rw[No];exact .inr ⟨k,m⟩
 ·rw[Ak hi];exact⟨by rw[JD,Ak (EG hi)],by rw[MV (EG hi)]⟩
end
section
variable {P:Program} {Y X0:Nat->Prop} {roots:List (Nat × Nat)} {w0:Base} {w:World} {s:V} {a:Act} {Q:Exit->Act->World->Prop}
theorem xE{s a:V}{tm:Array Value}(h:∀ t,Cd (Ag a t)=true->Cd (Ag s t)=true)(c:Nat)(hc:XS a tm c):XS s tm c:=let ⟨t,h1,h2⟩:=hc; ⟨t,h t h1,h2⟩
theorem Ahl{o:Oper}{x d k B:Nat}{y:Opd}{us oks:List Nat}{r:Reg}{l:List (Nat × Reg)}{F:Bf}{G:Act->World->Prop}(h:Rel Y X0 roots w0 s a w)(g:C9 P o.op (.aph x y k B d us)=true)(K:∀ t∈oks,BC (Ag s t)=false)
  (L:BH roots oks o.dst (.aph x y k B d us)=true) (b:A2 F s (.aph x y k B d us)=some (r,l)) (D:∀ a' w',Rel Y X0 roots w0 (BD (AE s l) o.dst r) a' w'->G a' w'):o.wp P a w G Q:=by
 simp only[BH,U] at L;obtain⟨a4,hf⟩:=L;obtain⟨M,A⟩:=A5.1 a4;have N:∀ q:V,BC (Ag q d)=false->BC (Ag q x)=false->(∀ t∈oks,BC (Ag q t)=false)->∀ u,(u,M)∈roots->BC (Ag q u)=false:=by
  intro q g1 g2 g3 u hu;have:=Aq (s:=q) (oks:=d::x::oks) (fun t f=>by
   rcases Aw.1 f with rfl | f
   ·exact g1
   ·rcases Aw.1 f with rfl | f
    ·exact g2
    ·exact g3 t f) hf
  exact this M A u hu
 simp only[C9] at g;split at g
 case h_2=>cases g
 rename_i args O R;unfold aU at g;split at g
 case h_2=>cases g
 rename_i H y' t t' a5 a6;simp only[U] at g;obtain⟨⟨⟨⟨h1,h2⟩,S⟩,T⟩,W⟩:=g;have e1:args=#[H,y']:=by rw[<- Dt (xs:=args),a5]
 have e2:O=#[t,t']:=by rw[<- Dt (xs:=O),a6]
 subst e1 e2;have X:=BI (a:=a) h1;simp only[A2] at b;split at b
 case h_2=>cases b
 rename_i m ys hy;have Z:=B2 h h2 hy;split at b
 case isFalse=>cases b
 rename_i a1;have nil:aph0 (Ag s x) m ys k B=some (r,l)->BC (Ag s d)=false->o.wp P a w G Q:=by
  intro z a7;unfold aph0 at z;split at z
  case h_2=>cases z
  rename_i j;split at z
  case isFalse=>cases z
  rename_i a8;cases z;have I:=h.reg x;rw[j] at I;have J:a.eval H = .slice none 0 0:=by
   rw[X];generalize a.tmps.getD x A0=v at I;cases I;rfl
  rw[A] at D;exact Ahd h R S T W A (N s a7 (by rw[j];rfl) K) J (aW Z) a1 a8 D
 split at b
 next hd=>exact nil b (by rw[hd];rfl)
 next hd=>exact nil b (by rw[hd];rfl)
 ·rename_i cs off u hd;split at b
  case h_2=>cases b
  rename_i E j;split at b
  case isFalse=>cases b
  rename_i a9;obtain⟨rfl,_⟩:=a9;unfold iG at b;split at b
  case h_2=>cases b
  rename_i k' n es hu;split at b
  case isFalse=>cases b
  rename_i b0;obtain⟨rfl,b1⟩:=b0;cases b;have a2:¬ x=d:=fun e=>by subst e;rw[j] at hd;cases hd
  have b2:¬ x=E:=fun e=>by subst e;rw[j] at hu;cases hu
  have b3:¬ d=E:=fun e=>by subst e;rw[hd] at hu;cases hu
  have a3:=IE j (by nofun);have b4:=IE hd (by nofun);have b5:Rel Y X0 roots w0 (s.set x .dead) a w:=h.kill [x];have b6:Ag (s.set x .dead) d = .bxh cs [(off,E)]:=by rw[DT a3,Ak a2];exact hd
  have b7:Rel Y X0 roots w0 ((s.set x .dead).set d (.bxh (cs.set off .undef) [])) a w:=by
   refine b5.hold b6 (by rw[Az];exact Ar _) (fun p hp=>by cases hp) (fun i i1 i2 => ?_);simp only[Ey];by_cases hi:off=i
   ·subst hi;rw[No];exact .inl rfl
   ·rw[Ak hi,MV hi];exact .inr (.inl ⟨rfl,rfl⟩)
  have C:∀ t,Ag ((s.set x .dead).set d (.bxh (cs.set off .undef) [])) t=if d=t then .bxh (cs.set off .undef) [] else if x=t then .dead else Ag s t:=by
   intro t;rw[DT (by rw[Az];exact b4),DT a3]
  have J:a.eval H=a.tmps.getD E A0:=by
   have:=h.reg x;rw[j] at this;rw[X];exact this.2
  rw[A] at D;have b8:∀ c,XS ((s.set x .dead).set d (.bxh (cs.set off .undef) [])) a.tmps c->XS s a.tmps c:=xE fun t f=>by
   rw[C] at f;split at f
   next e=>subst e;rw[hd];rfl
   ·split at f
    ·cases f
    ·exact f
  refine Ahc (ow:=true) b7 R J S T W A (N _ (by rw[C,Af rfl];rfl) (by rw[C,Ak (EG a2),Af rfl];rfl) (fun t f => ?_)) (by rw[C,Ak b3,Ak b2];exact hu) (aW (Z.mono fun c hc => .inl (hc.imp id (b8 c)))) a1 b1 D;rw[C];split
  ·rfl
  ·split
   ·rfl
   ·exact K t f
 ·cases b
theorem iU{t:TypeId}{b n:Nat}{f:Nat->Value}(ho:Gk P t n false=true)(hc:∀ j,j<n->w.cell? ⟨b,j,none⟩=some (f j)):(loadVar t ⟨b,0,none⟩).run P w = .ok (.agg ((A' n).map f).toArray) w:=by
 obtain⟨h1,h2⟩:=Ed ho;have hl:=run_loadCells (P:=P) w ⟨b,0,none⟩ n f (fun j a=>by rw[Dk,AJ];exact hc j a);simp[loadVar,h1,h2,hl]
theorem Ahm{o:Oper}{x n:Nat}{us E:List Nat}{r:Reg}{l:List (Nat × Reg)}{F:Bf}{G:Act->World->Prop}(h:Rel Y X0 roots w0 s a w)(f:C9 P o.op (.lda x n us)=true)(H:∀ t∈E,BC (Ag s t)=false)
  (I:BH roots E o.dst (.lda x n us)=true) (d:A2 F s (.lda x n us)=some (r,l)) (J:∀ a' w',Rel Y X0 roots w0 (BD (AE s l) o.dst r) a' w'->G a' w'):o.wp P a w G Q:=by
 simp only[BH,U,A6] at I;obtain⟨⟨hf,N⟩,O⟩:=I;obtain⟨k,A⟩:=A5.1 N;simp only[C9] at f;split at f
 case h_2=>cases f
 rename_i t x' K;simp only[U] at f;obtain⟨h1,h2⟩:=f;have L:=BI (a:=a) h1;have h0:=h.reg x;simp only[A2] at d;split at d
 ·rename_i cs hr;rw[hr] at h0;split at d
  case isFalse=>cases d
  rename_i hn;cases d;obtain⟨b,B,_,C⟩:=h0;obtain⟨v,m,R⟩:=Ng (P:=P) (off:=0) (x := .agg cs) h2 C.mem (by simp[Ae,<- hn]);refine AB (v:=v) ?_ (J _ _ (h.put (Aq H hf) R));simp only[Bn] at m;simp only[execOp,K,Lf,L,B,Cl,Am,Ap,Aa,m]
 ·rename_i cs ls hr;rw[hr] at h0;split at d
  case isFalse=>cases d
  rename_i hc;obtain⟨hn,S⟩:=hc;cases d;obtain⟨b,vs,T,B,_,C,M⟩:=h0;have hcell:∀ j,j<n->w.cell? ⟨b,j,none⟩=some (vs.getD j A0):=by
   intro j hj;obtain⟨v,q,_,_⟩:=M.2.2 j (by omega);rw[HD C,q,Av,q];rfl
  have m:=iU (P:=P) h2 hcell;refine AB (v := .agg ((A' n).map fun j=>vs.getD j A0).toArray) ?_ (J _ _ ?_)
  ·simp only[execOp,K,Lf,L,B,Cl,Am,Ap,Aa,m]
  ·rw[A];have hu:∀ p∈ls,(k,p.2)∈roots/\k ≠ p.2:=fun p D=>Ef (O p.2 (by simpa using A6.1 S p D)) k A;refine BK (ks:=[]) h (F2 _ _) (fun t V => .inr (Aq H hf k A t V)) (fun W=>by cases W) (fun X _ Z=>⟨_,rfl,by simp[hn],fun p D=>(hu p D).1,by simp[hn],fun i hi => ?_⟩);obtain⟨v,q,q0,y⟩:=M.2.2 i hi;refine⟨v,?_,q0,?_⟩
   ·simp only[Cq,E5];rw[A0t (by omega)];simp[q]
   ·split
    next u z=>simp only[z] at y;rw[Ii,Ak (fun e=>(hu _ (JA z)).2 e.1)];exact y
    next z=>simp only[z] at y;exact y.imp id fun g=>⟨g.1,g.2.mono fun c hc => .inl (Z rfl c hc)⟩
 ·cases d
theorem Hj:∀ (zs:List Nat) (cs:List AV),C (Hs zs cs)=C cs/\∀ i:Nat,(Hs zs cs)[i]? = cs[i]? \/ (cs[i]? = some .nil/\(Hs zs cs)[i]? = some (.sl 0 []))
 | [],cs=>⟨rfl,fun _ => .inl rfl⟩
 | z::zs,cs=>by
  unfold Hs;split
  ·rename_i b;have a:=Hj zs (cs.set z (.sl 0 []));refine⟨by rw[a.1,Az],fun i => ?_⟩;have hl:=(AZ.1 b).1;by_cases e:z=i
   ·subst e;refine .inr ⟨b,?_⟩;rcases a.2 z with q | q
    ·rw[q,Qr hl]
    ·exact q.2
   ·have:=a.2 i;rw[Do e] at this;exact this
  ·exact Hj zs cs
section
variable{zs:List Nat}{cs:List AV}
theorem Zu{i:Nat}(h1:i<C (Hs zs cs))(h2:i<C cs):(Hs zs cs)[i]=cs[i]\/(cs[i] = .nil/\(Hs zs cs)[i] = .sl 0 []):=by
 have:=(Hj zs cs).2 i;rw[Ad h1,Ad h2] at this;simpa using this
theorem Zv(h:Kd cs):Kd (Hs zs cs):=by
 intro x a;obtain⟨i,hi,rfl⟩:=Hr a;rcases Zu hi (by rw[<- (Hj zs cs).1];exact hi) with e | e
 ·rw[e];exact h _ (Bl _)
 ·rw[e.2];rfl
end
section
variable{Y X:Nat->Prop}{v:Value}{zs:List Nat}{cs:List AV}
theorem UI{i:Nat}(h1:i<C (Hs zs cs))(h2:i<C cs)(h:Rd Y X w v cs[i]):Rd Y X w v (Hs zs cs)[i]:=by
 rcases Zu h1 h2 with e | ⟨b,c⟩
 ·rw[e];exact h
 ·rw[c];rw[b] at h;cases h;exact .nil0
theorem Ahn(h:Rd Y X w v (.agg cs)):Rd Y X w v (.agg (Hs zs cs)):=by
 cases h with
 | agg vs _ hd hs hr=>exact .agg vs _ (Zv hd) (by rw[hs,(Hj zs cs).1]) (fun i a d=>UI d (by rw[<- hs];exact a) (hr i a _))
end
theorem Rel.dnBox(h:Rel Y X0 roots w0 s a w){d:Nat}{cs:List AV}(zs:List Nat)(hd:Ag s d = .box cs):Rel Y X0 roots w0 (s.set d (.box (Hs zs cs))) a w:=by
 have h0:=h.reg d;rw[hd] at h0;obtain⟨b,e,f,g,vs,T,j,k,l⟩:=h0;refine Rel.store h hd rfl rfl (b:=b) (by rw[e];rfl) f rfl rfl rfl rfl (fun _ _=>rfl) (fun X hX=>⟨b,e,f,Zv g,vs,T,j,by rw[(Hj zs cs).1];exact k,fun i hi => ?_⟩);obtain⟨v,m,n⟩:=l i (by rw[<- (Hj zs cs).1];exact hi);exact⟨v,m,(UI hi _ n).mono fun c hc => .inl ((hX c).1 hc)⟩
theorem Aho{o:Oper}{x n:Nat}{us zs q:List Nat}{r:Reg}{l:List (Nat × Reg)}{F:Bf}{j:Act->World->Prop}(h:Rel Y X0 roots w0 s a w)(f:C9 P o.op (.ldz x n us zs)=true)(D:∀ t∈q,BC (Ag s t)=false)
  (hf:Db roots q o.dst=true) (c:A2 F s (.ldz x n us zs)=some (r,l)) (y:∀ a' w',Rel Y X0 roots w0 (BD (AE s l) o.dst r) a' w'->j a' w'):o.wp P a w j Q:=by
 simp only[C9] at f;split at f
 case h_2=>cases f
 rename_i t x' L;simp only[U] at f;obtain⟨h1,h2⟩:=f;have M:=BI (a:=a) h1;have E:∀ (g:V) (cs:List AV),Rel Y X0 roots w0 g a w->Ag g x = .box cs->C cs=n->(∀ t∈q,BC (Ag g t)=false)->(∀ a' w',Rel Y X0 roots w0 (BD g o.dst (.val (.agg (Hs zs cs)))) a' w'->j a' w')->o.wp P a w j Q:=by
  intro g cs G hr hn N O;have h0:=G.reg x;rw[hr] at h0;obtain⟨b,R,_,S⟩:=h0;obtain⟨v,H,T⟩:=Ng (P:=P) (off:=0) (x := .agg cs) h2 S.mem (by simp[Ae,<- hn]);refine AB (v:=v) ?_ (O _ _ (G.put (Aq N hf) (Ahn T)));simp only[Bn] at H;simp only[execOp,L,Lf,M,R,Cl,Am,Ap,Aa,H]
 simp only[A2] at c;split at c
 ·rename_i cs hr;split at c
  case isFalse=>cases c
  rename_i hn;cases c;exact E s cs h hr hn D y
 ·rename_i cs ls hr;unfold M_ at c;split at c
  case isFalse=>cases c
  split at c
  case h_2=>cases c
  rename_i z A W;split at c
  case isFalse=>cases c
  rename_i hc;obtain⟨hn,X⟩:=hc;cases c;obtain⟨f1,Z,f3,f4⟩:=LU W;obtain⟨r1,r2,r3,r4⟩:=Jl (s0:=s) A h f4 (fun t => .inl rfl);have I:Ag (AE s A) x = .bxh cs ls:=by
   rcases r2 x with e | ⟨_,_,_,e,_⟩
   ·rw[e,hr]
   ·rw[hr] at e;cases e
  have B:=IE I (by nofun);have hh:Rel Y X0 roots w0 ((AE s A).set x (.bxh z [])) a w:=by
   refine r1.hold I (by omega) (fun p hp=>by cases hp) (fun i J K => ?_);simp only[Ey];cases hu:Ey ls i with
   | none =>
    refine .inr (.inl ⟨rfl,?_⟩);have:=Z i hu;rw[Ad J,Ad K] at this;exact AM this
   | some u =>
    obtain⟨k,m,es,p1,p2,p3⟩:=f3 i u hu;have e:=p3 K;rw[Ad J] at e;refine .inr (.inr ⟨u,rfl,?_,?_⟩)
    ·rw[AM e];exact r4 _ p2
    ·rw[AM e];rfl
  have hb:=hh.holdBox (d:=x) (cs:=z) (by rw[DT B,Af rfl]) X;rw[E9] at hb;rw[DW] at y;refine E _ z hb (by rw[DT B,Af rfl]) hn (fun t ht => ?_) y;rw[DT B];split
  ·rfl
  ·rcases r2 t with e | ⟨_,_,_,_,e⟩
   ·rw[e];exact D t ht
   ·rw[e];rfl
 ·cases c
theorem Zw{place:Nat->Option (Nat × Nat)}{pl:Nat->Nat->Nat->Bool}(f:∀ i off n,pl i off n=true->place i=some (off,n)) :
  ∀ {d:List (Nat × Operand)} {qs:List (Nat × Nat)} {cells:Array Value},ID pl d (qs.map fun q=>(q.1,1,.t q.2))=true->Apt qs->(∀ q∈qs,q.1<cells.size/\(a.tmps.getD q.2 A0).cells=#[a.tmps.getD q.2 A0]) ->
   ∃ c,Dp place cells (d.map fun p=>(p.1,a.eval p.2))=some c/\c.size=cells.size/\∀ i,c[i]? = match Ey qs i with | some u=>some (a.tmps.getD u A0) | none=>cells[i]?
 | [],[],cells,_,_,_=>⟨cells,rfl,rfl,fun i=>rfl⟩
 | (i,x)::d,(off,u)::qs,cells,b,g,h=>by
  simp only[BQ,ID,U] at b;obtain⟨⟨h1,h2⟩,m⟩:=b;obtain⟨k,l⟩:=h (off,u) A1;simp only at k l;have o:=BI (a:=a) h2;obtain⟨c,r,s,w⟩:=Zw (cells:=cells.setIfInBounds off (a.tmps.getD u A0)) f m g.2 (fun q y=>by
   have:=h q (AI _ y);simpa using this)
  refine⟨c,?_,by simpa using s,fun j => ?_⟩
  ·simp only[BQ,Dp,f i off 1 h1,o,l];rw[Ak (by simp;omega)];have:(#[a.tmps.getD u A0].zipIdx.foldl (fun (cs:Array Value) (p:Value × Nat)=>cs.setIfInBounds (off+p.2) p.1) cells)=cells.setIfInBounds off (a.tmps.getD u A0):=by
    rw[<- PK];simp
   rw[this];exact r
  ·rw[w j];simp only[Ey];by_cases e:off=j
   ·subst e;rw[g.1,Af rfl];simp[k]
   ·rw[Ak e];cases Ey qs j with
    | some v=>rfl
    | none=>simp only[IT,Ak e]
 | [],_::_,_,b,_,_=>by cases b
 | _::_,[],_,b,_,_=>by cases b
theorem Ahp{o:Oper}{z:List AV}{qs:List (Nat × Nat)}{G:List Nat}{r:Reg}{l:List (Nat × Reg)}{F:Bf}{H:Act->World->Prop}(h:Rel Y X0 roots w0 s a w)(d:C9 P o.op (.blh z qs)=true)(R:∀ t∈G,BC (Ag s t)=false)
  (I:BH roots G o.dst (.blh z qs)=true) (J:A2 F s (.blh z qs)=some (r,l)) (T:∀ a' w',Rel Y X0 roots w0 (BD (AE s l) o.dst r) a' w'->H a' w'):o.wp P a w H Q:=by
 simp only[BH,U,A6] at I;obtain⟨⟨hf,V⟩,W⟩:=I;obtain⟨j,y⟩:=A5.1 V;simp only[C9] at d;split at d
 case h_2=>cases d
 rename_i t Z a1;simp only[U] at d;obtain⟨d,K⟩:=d;simp only[A2,S] at J;obtain⟨cs,a2,A⟩:=J;cases A;simp only[aR,U] at d;obtain⟨hz,d⟩:=d;obtain⟨v,a3,hc⟩:=Jk hz;obtain⟨c1,c2,c3⟩:=hc Y (fun b=>X0 b\/XS s a.tmps b) w;obtain⟨f1,f2,L,f4⟩:=Tf a2;split at d
 ·rename_i fs B;simp only[U] at d;obtain⟨a4,g⟩:=d;obtain⟨M,e1,e2,e3⟩:=Zw (a:=a) (place:=fun i=>(fs.map fun f=>(f.offset,P.cellsOf f.type))[i]?) (pl:=IC P fs) (cells:=v.cells) (fun i off n hi=>JB hi) g f4 (fun q hq=>by
   obtain⟨g1,k,n,es,D⟩:=L q hq;have:=h.reg q.2;rw[D] at this;exact⟨by omega,(UH this).2⟩)
  have a5:Dp (fun i=>(fs.map fun f=>(f.offset,P.cellsOf f.type))[i]?) v.cells (Z.map fun p=>(p.1,a.eval p.2)).toList=some M:=by rw[CW];exact e1
  refine AB (v := .agg M) ?_ (T _ _ ?_)
  ·simp only[execOp,a1,JC,Am,a3,Aa,run_underlying B,PL a4,a5,Ap]
  ·rw[y];have hu:∀ p∈qs,(j,p.2)∈roots/\j ≠ p.2:=fun p g=>Ef (W p g) j y;refine BK (ks:=[]) h (F2 _ _) (fun t ht => .inr (Aq R hf j y t ht)) (fun A=>by cases A) (fun X _ D=>⟨_,rfl,by omega,fun p g=>(hu p g).1,by omega,fun i hi => ?_⟩);have m:=e3 i;cases x:Ey qs i with
   | some u =>
    rw[x] at m;have N:=JA x;obtain⟨_,k,n,es,g3⟩:=L _ N;have:=h.reg u;rw[g3] at this;refine⟨_,m,(UH this).1,?_⟩;dsimp only;rw[Ii,Ak (fun e=>(hu _ N).2 e.1)]
   | none =>
    rw[x] at m;have E:i<C z:=by omega
    have q:=c3 i (by omega) E;have a6:cs[i]=z[i]:=by
     have:=f2 i x;rw[Ad hi,Ad E] at this;exact AM this
    have O:=c1 _ (Bl E);refine⟨_,by rw[m,A4 (by omega)],(EW q O).1,?_⟩;dsimp only;rw[a6];exact .inr ⟨O,q.mono fun c hc => .inl (D rfl c hc)⟩
 next ln e B=>rw[B] at K;cases K
 ·cases d
theorem Ahq{o:Oper}{x v n:Nat}{us:List Nat}{r:Reg}{l:List (Nat × Reg)}{F:Bf}{B:Act->World->Prop}(h:Rel Y X0 roots w0 s a w)(f:C9 P o.op (.sta x v n us)=true)
  (J:o.dst=none) (K:∀ u∈us,(x,u)∈roots) (d:A2 F s (.sta x v n us)=some (r,l)) (D:∀ a' w',Rel Y X0 roots w0 (BD (AE s l) o.dst r) a' w'->B a' w'):o.wp P a w B Q:=by
 simp only[C9] at f;split at f
 case h_2=>cases f
 rename_i t x' j L;simp only[U] at f;obtain⟨⟨h1,h2⟩,M⟩:=f;have N:=BI (a:=a) h1;have O:=BI (a:=a) M;simp only[A2] at d;split at d
 case h_2=>cases d
 rename_i a5 cs ls hr S;split at d
 case isFalse=>cases d
 rename_i hc;obtain⟨n0,n1,V⟩:=hc;cases d;have h0:=h.reg x;rw[hr] at h0;have E:=h.reg v;rw[S] at E;obtain⟨b,m,G,_,q,T,H,e4,_⟩:=h0;obtain⟨vs,W,q2,I⟩:=E;have k:(a.eval j).cells=vs:=by rw[O,W];rfl
 have Z:∀ u∈(a.eval j).cells.toList,u.oneCell'=true:=by
  intro u hu;rw[k] at hu;obtain⟨i,hi,rfl⟩:=Hr hu;obtain⟨u',y,A,_⟩:=I.2.2 i (by simp at hi;omega);simp only[Bt] at hi;rw[A4 hi] at y;cases y;simpa using A
 have a1:=run_storeCells_at (P:=P) b 0 T (a.eval j).cells.toList 0 q w H (by rw[k];simp;omega) Z;have a2:=FC h2 w;have a3:XS s a.tmps b:=⟨x,by rw[hr];rfl,by rw[m];rfl⟩;have a4:(execOp a.eval o).run P w = .ok .skip (w.setRow b (CV (0+0) q.toList++(a.eval j).cells.toList++R (0+0+C (a.eval j).cells.toList) q.toList).toArray):=by
  simp only[execOp,L,Ib,N,m,Cl,Am,Ap,Aa,storeVar,a2];rw[Ak (by rw[k];simp;omega)];rw[a1];rfl
 simp only[Cw,a4,BY];rw[J] at D |-;refine D _ _ (Rel.store h hr rfl rfl (b:=b) (by rw[m];rfl) G rfl rfl rfl (DX _ _ _) (fun c hc=>Dy _ _ _ _ hc) (fun X hX=>⟨b,_,T,m,G,setRow_heap w b q _ T (0,0) H,fun p hp=>K _ (by simpa using A6.1 V p hp),by rw[k];simp;omega,fun i hi => ?_⟩));obtain⟨u,y,A,z⟩:=I.2.2 i hi;refine⟨u,?_,A,?_⟩
 ·rw[k];simp only[Cq,Bn,M8,C'];rw[AA (by simp;omega)];simpa using y
 ·split
  next u' hu=>simp only[hu] at z;exact z
  next hu=>simp only[hu] at z;exact z.imp id fun g=>⟨g.1,(g.2.mono fun c hc => .inl ((hX c).1 hc)).world fun c hc _=>Dy _ _ _ _ (fun e=>hc (e ▸ (hX b).2 (.inr a3)))⟩
theorem Arw(h:Rel Y X0 roots w0 s a w){us:List Nat}{x:Operand}{o:Opd}{y:AV}(g:Bh x o=true)(ho:avH s us o=some y):Rd Y (fun _=>False) w (a.eval x) y:=by
 unfold avH at ho;split at ho
 next J hr=>cases ho;exact (B2 h g (aZ hr)).mono fun b hb=>hb.elim
 ·rename_i cs ls hr;split at ho
  case isFalse=>cases ho
  split at ho
  case h_2=>cases ho
  rename_i j hl;split at ho
  case isFalse=>cases ho
  rename_i l;cases ho;cases o with
  | c z=>cases hr
  | t m =>
   have A:=BI (a:=a) g;have h0:=h.reg m;simp only[Opd.reg] at hr;rw[hr] at h0;obtain⟨vs,B,K,C⟩:=h0;obtain⟨L,D,E⟩:=UG hl;rw[A,B];refine .agg vs j (fun z F=>A6.1 l z F) (by omega) (fun i G f => ?_);obtain⟨v,p,M,d⟩:=C.2.2 i (by omega);rw[A4 G] at p;cases p;cases hu:Ey ls i with
   | some u =>
    simp only[hu] at d;obtain⟨k,n,es,H,I⟩:=E i u hu;have e:=I (by omega);rw[Ad f] at e;rw[AM e,d];have hr:=h.reg u;rw[H] at hr;exact Ez.frozen hr (fun b hb=>hb.elim) (fun b _ hb=>hb) h.lowY
   | none =>
    simp only[hu] at d;have e:=D i hu;rw[Ad f,Ad (by omega)] at e;have q:=AM e;rw[q];have r:EM j[i]=true:=A6.1 l _ (Bl f);rcases d with d | d
    ·rw[q,d] at r;cases r
    ·exact d.2.mono fun b hb=>hb.elim
 ·cases ho
theorem iV(h:Rel Y X0 roots w0 s a w){us:List Nat}:∀ {xs:List Operand} {os:List Opd} {d:List AV},EN xs os=true->avsH s us os=some d ->
  C xs=C d/\∀ (i:Nat) (h1:i<C xs) (h2:i<C d),Rd Y (fun _=>False) w (a.eval xs[i]) d[i]
 | [],[],d,_,b=>by
  simp only[avsH,Ab] at b;subst b;exact⟨rfl,fun i h1 _=>(by simp at h1)⟩
 | x::xs,o::os,d,c,b=>by
  simp only[EN,U] at c;simp only[avsH] at b;cases h1:avH s us o with
  | none=>rw[h1] at b;cases b
  | some y =>
   rw[h1] at b;cases h2:avsH s us os with
   | none=>rw[h2] at b;cases b
   | some k =>
    rw[h2] at b;cases b;obtain⟨e,f⟩:=iV h c.2 h2;refine⟨by simp[e],fun i g j => ?_⟩;cases i with
    | zero=>exact Arw h c.1 h1
    | succ i=>exact f i (by simpa using g) (by simpa using j)
 | [],_::_,_,c,_=>by cases c
 | _::_,[],_,c,_=>by cases c
theorem bA{o:Oper}{f b:Nat}{args:Array Operand}{d:Array TypeId}(e:o.op = .call { callee := .value (.func b),args:=args,argTypes:=d })(hf:(b==f)=true)(hb:Jj P f=true) :
  (execOp a.eval o).run P w = .ok (.enter f (args.map a.eval)) w:=by
 simp only[AW] at hf;subst hf;unfold Jj at hb;split at hb
 ·rename_i fn g;simp only[U,BJ] at hb;obtain⟨c,h⟩:=hb;have i:¬ fn.body=none:=by intro e0;rw[e0] at c;cases c
  have j:¬ fn.name = "runtime.NumGoroutine" := by simpa using h
  simp[execOp,e,resolve,D_,If,invoke,callFunc,program,Cn,g,j,i]
 ·cases hb
theorem rN{Y X a b:Nat->Prop}{w w':World}{v:Value}{y:AV}(hs:RM y=true)(h:Rd Y X w v y):Rd a b w' v y:=by
 cases y <;> first | (cases hs;done) | (cases h;first | exact .int _ _ | exact .bool _)
theorem Ahr{o:Oper}{f:Nat}{xs:List Opd}{us:List Nat}{r:Reg}{l:List (Nat × Reg)}{F:Bf}{k:Act->World->Prop}(h:Rel Y X0 roots w0 s a w)(p:G1 P F)(g:C9 P o.op (.bwh f xs us)=true)(hf:D1 s roots o.dst)
  (c:A2 F s (.bwh f xs us)=some (r,l)) (q:∀ a' w',Rel Y X0 roots w0 (BD (AE s l) o.dst r) a' w'->k a' w'):o.wp P a w k Q:=by
 simp only[C9] at g;split at g
 case h_2=>cases g
 rename_i K args L x;simp only[U] at g;obtain⟨⟨z,h1⟩,h2⟩:=g;have A:=bA (P:=P) (a:=a) (w:=w) x z h2;simp only[A2] at c;split at c
 case h_2=>cases c
 rename_i vs B;split at c
 case h_2=>cases c
 rename_i y C;split at c
 case isFalse=>cases c
 rename_i m;cases c;obtain⟨D,E⟩:=iV h h1 B;have G:=p.plain f vs y C Y (fun _=>False) w (args.map a.eval) (fun b hb=>hb.elim) h.lowYw (by simpa using D) (fun i H n=>by
  have:=E i (by simpa using H) n;simpa using this)
 simp only[Cw,A,BY];refine G.mono fun e w' ⟨v,j,hb,hr⟩ => ?_;subst j;refine q _ _ ?_;have I:Rd Y (fun _=>False) w' v y:=by cases y <;> first | exact hr | cases m
 cases J:o.dst with
 | none =>
  refine⟨h.dfr,h.size,h.below.trans hb,h.low,h.lowY,fun t => ?_,h.inj⟩;exact F9.world (h.reg t) hb
 | some d =>
  exact BK (ks:=[]) h hb (fun u hu => .inr (hf d J u hu)) (fun j=>(by cases j)) (fun X _ n=>rN m I)
theorem Ahs{o:Oper}{f x d:Nat}{xs:List Opd}{a1:List Nat}{r:Reg}{l:List (Nat × Reg)}{F:Bf}{N:Act->World->Prop}(h:Rel Y X0 roots w0 s a w)(hF:G1 P F)(I:C9 P o.op (.cab f x d xs)=true)(a7:∀ t∈a1,BC (Ag s t)=false)
  (a2:BH roots a1 o.dst (.cab f x d xs)=true) (j:A2 F s (.cab f x d xs)=some (r,l)) (O:∀ a' w',Rel Y X0 roots w0 (BD (AE s l) o.dst r) a' w'->N a' w'):o.wp P a w N Q:=by
 simp only[BH,U] at a2;obtain⟨hf,_⟩:=a2;simp only[C9] at I;split at I
 case h_2=>cases I
 rename_i f' args ts a8;simp only[U] at I;obtain⟨⟨a9,h1⟩,h2⟩:=I;have b0:=bA (P:=P) (a:=a) (w:=w) a8 a9 h2;obtain⟨args⟩:=args;cases args with
 | nil=>cases h1
 | cons o1 A =>
  simp only[EN,U] at h1;have b1:=BI (a:=a) h1.1;simp only[A2] at j;split at j
  case h_2=>cases j
  rename_i k hr;split at j
  case isFalse=>cases j
  rename_i b2;subst b2;have a3:∀ (cs n:List AV) (vs:List AV) (y:AV) (r1 r2:Reg),Ag s k=r1->Cd r1=true->Cd r2=true->BC r2=false->r1 ≠ .dead->avs s xs=some vs->F f (.gb cs::vs)=some (.io n y) ->
    (∃ b,a.tmps.getD k A0 = .pointer (some ⟨b,0,none⟩)/\w0.mine b/\D0 Y (fun b=>X0 b\/XS s a.tmps b) w b 0 cs) ->
    (∀ (X:Nat->Prop) (b:Nat) (w':World) (tm:Array Value),a.tmps.getD k A0 = .pointer (some ⟨b,0,none⟩)->D0 Y X w' b 0 n->F9 Y X w0.mine w0.own roots tm w' k (a.tmps.getD k A0) r2) ->
    (∀ a' w',Rel Y X0 roots w0 (BD (AE s [(k,r2)]) o.dst (.val y)) a' w'->N a' w')->o.wp P a w N Q:=by
   intro cs n vs y r1 r2 q S b3 b4 b5 J K b6 b7 O;obtain⟨D,E⟩:=H9 h h1.2 J;have h0:=h.reg x;rw[hr] at h0;obtain⟨b,m,B,G⟩:=b6;obtain⟨_,p,g1,g2,g3⟩:=h0;rw[m] at g1;cases g1;have R:a.eval o1 = .pointer (some ⟨b,0,none⟩):=by rw[b1,g3]
   have a4:XS s a.tmps b:=⟨k,by rw[q];exact S,by rw[m];rfl⟩;have T:∀ c,D2 (.gb cs::vs) ((o1::A).map a.eval).toArray c↔c=b:=by
    intro c;constructor
    ·intro hg;have:=hg.2;simp only[BQ,R] at this;simp[qV,At,CN] at this;exact this.symm
    ·rintro rfl;exact⟨⟨_,vs,rfl,rfl⟩,by simp[qV,R,At,CN]⟩
   have V:D2 (.gb cs::vs) ((o1::A).map a.eval).toArray=fun c=>c=b:=funext fun c=>propext (T c);have c1:b<w.heap.size:=G.lt;simp only[Cw,b0,BY];have he:Array.map a.eval (o1::A).toArray=((o1::A).map a.eval).toArray:=by simp
   rw[he];refine (hF f (.gb cs::vs) (.io n y) K Y (fun c=>(X0 c\/XS s a.tmps c)/\¬ c=b) w ((o1::A).map a.eval).toArray (fun c hc=>⟨h.lowX c hc.1,fun e=>hc.2 ((T c).1 e)⟩)
    (fun c hc=>⟨h.lowYw c hc,fun e=>h.lowY c hc (by rw[(T c).1 e];exact B)⟩) (by simp[D]) (fun i i1 W => ?_) (fun i W Z => ?_)).mono ?_
   ·cases i with
    | zero =>
     rw[V];refine⟨b,?_,rfl,G.mono fun c hc => .inl (hc.elim Nk fun e => .inr (e ▸ a4))⟩;simp[R]
    | succ i =>
     rw[V];have j1:i<C A:=by simpa using i1
     have j2:i<C vs:=by simpa using W
     have g:=E i j1 j2;have H:Rd Y (fun c=>((X0 c\/XS s a.tmps c)/\¬ c=b)\/c=b) w (a.eval A[i]) vs[i]:=g.mono fun c hc => .inl (hc.elim Nk fun e => .inr (e ▸ a4));simp only[BQ,DV,G',List.getElem_map];generalize vs[i]=z at H |-;generalize a.eval A[i]=u at H |-;cases z <;> first | exact H | (exfalso;revert H;intro H;cases H)
   ·cases i with
    | zero=>rfl
    | succ i =>
     have b8:i<C vs:=by simpa using W
     have g:=E i (by omega) b8;simp only[G'] at Z;generalize vs[i]=z at g Z;generalize a.eval (A[i]'(by omega))=u at g;cases g <;> cases Z
   ·rw[V];rintro e w' ⟨v,rfl,hgr,c2,b9⟩;obtain⟨b',k1,k2,k3⟩:=b9 cs vs n y rfl rfl;have:b'=b:=by
     simp[qV,R] at k1;exact k1.symm
    subst this;have a5:∀ c,(X0 c\/XS s a.tmps c)->((X0 c\/XS s a.tmps c)/\¬ c=b')\/c=b':=fun c hc=>(Classical.em (c=b')).elim .inr fun e => .inl ⟨hc,e⟩;have c0:Rel Y X0 roots w0 (s.set k r2) a w':=h.turn rfl (by rw[q];exact S) b3 (b:=b') (by rw[m];rfl) B hgr (fun X hX=>b7 X b' w' _ m (k2.mono fun c hc => .inl (a5 c ((hX c).1 hc))));refine O _ _ ?_;have a6:∀ t,Ag (s.set k r2) t=if k=t then r2 else Ag s t:=fun t=>DT (IE q b5);refine c0.put (Aq (fun t L => ?_) hf) (k3.mono fun c hc => .inl (a5 c (hc.imp id (xE (fun t L => ?_) c))))
    ·rw[a6];split
     ·exact b4
     ·exact a7 t L
    ·rw[a6] at L;split at L
     next e=>subst e;rw[q];exact S
     ·exact L
  split at j
  ·rename_i cs vs q J;split at j
   case h_2=>cases j
   rename_i n y K;cases j;have M:=h.reg k;rw[q] at M;obtain⟨b,m,B,G⟩:=M;refine a3 cs n vs y (.box cs) (.box n) q rfl rfl rfl (by nofun) J K ⟨b,m,B,G⟩ (fun X b' w' tm D E => ?_) O;rw[m] at D;cases D;exact⟨b,m,B,E⟩
  ·rename_i cs vs q J;split at j
   case h_2=>cases j
   rename_i n y K;cases j;have M:=h.reg k;rw[q] at M;obtain⟨b,m,B,G⟩:=M;refine a3 cs n vs y (.bxg cs) (.bxg n) q rfl rfl rfl (by nofun) J K ⟨b,m,B.1,G⟩ (fun X b' w' tm D E => ?_) O;rw[m] at D;cases D;exact⟨b,m,B,E⟩
  ·cases j
theorem Aht{o:Oper}{z:List AV}{n:Opd}{ls i:List Nat}{r:Reg}{l:List (Nat × Reg)}{F:Bf}{k:Act->World->Prop}(h:Rel Y X0 roots w0 s a w)(g:C9 P o.op (.mkw z n ls)=true)(v:∀ t∈i,BC (Ag s t)=false)
  (j:BH roots i o.dst (.mkw z n ls)=true) (c:A2 F s (.mkw z n ls)=some (r,l)) (x:∀ a' w',Rel Y X0 roots w0 (BD (AE s l) o.dst r) a' w'->k a' w'):o.wp P a w k Q:=by
 simp only[BH,U] at j;obtain⟨d,p⟩:=A5.1 j.2;simp only[A2] at c;split at c
 case h_2=>cases c
 rename_i q m hn;split at c
 case isFalse=>cases c
 rename_i y;split at c
 case isFalse=>cases c
 rename_i u;cases c;have A:∀ t∈i++ls,BC (Ag s t)=false:=by
  intro t f;rcases AF.1 f with f | f
  ·exact v t f
  ·exact Qs (A6.1 y t f)
 simp only[C9] at g;split at g
 case h_2=>cases g
 rename_i t B C D;simp only[U] at g;obtain⟨⟨⟨h1,h2⟩,E⟩,G⟩:=g;have hl:=B2 h h1 hn;have hc:=B2 h h2 hn;generalize H:a.eval B=L at hl;generalize I:a.eval C=cv at hc;cases hl;cases hc;obtain⟨e,cells,J,K⟩:=iR (P:=P) (Y:=Y) (X:=fun b=>X0 b\/XS s a.tmps b) (w:=w) (kl:=q) (kc:=q) E G u.1 u.2;have hr:(execOp a.eval o).run P w = .ok (.value (.slice (some ⟨w.heap.size,0,none⟩) m.toNat m.toNat)) (w.alloc (.cells cells e)):=by
  simp[execOp,D,H,I,J]
 simp only[Cw,hr,BY];refine x _ _ ?_;rw[p];exact UD h (fun t f=>Aq A j.1 d p t f) K (Iw z m.toNat)
theorem Ahu{o:Oper}{f d:Nat}{xs:List Opd}{ls A:List Nat}{r:Reg}{l:List (Nat × Reg)}{F:Bf}{B:Act->World->Prop}(h:Rel Y X0 roots w0 s a w)(G:G1 P F)(q:C9 P o.op (.clw f xs d ls)=true)(H:∀ t∈A,BC (Ag s t)=false)
  (C:BH roots A o.dst (.clw f xs d ls)=true) (m:A2 F s (.clw f xs d ls)=some (r,l)) (I:∀ a' w',Rel Y X0 roots w0 (BD (AE s l) o.dst r) a' w'->B a' w'):o.wp P a w B Q:=by
 simp only[BH,U,AW] at C;obtain⟨hf,D⟩:=C;simp only[C9] at q;split at q
 case h_2=>cases q
 rename_i Z args ts J;simp only[U] at q;obtain⟨⟨K,h1⟩,h2⟩:=q;have L:=bA (P:=P) (a:=a) (w:=w) J K h2;simp only[A2] at m;split at m
 case h_2=>cases m
 rename_i vs M;split at m
 case isFalse=>cases m
 rename_i N;simp only[S] at m;obtain⟨y,O,p⟩:=m;cases p;obtain⟨R,T⟩:=H9 h h1 M;have x:∀ u,(u,d)∈roots->Gh (Ag s u) d=false:=by
  intro u hu;simp only[Db,A6,C7,BJ,H8,ne_eq,Em,Dm] at hf;rcases hf (u,d) hu with g | g
  ·exact absurd D.symm g
  ·rcases AF.1 g with g | g
   ·exact SU (H u g)
   ·have:=A6.1 N u g;simp only[KX,U,BJ] at this;exact this.2
 have V:=G.plain f vs y O Y (fun b=>X0 b\/XS s a.tmps b) w (args.map a.eval) h.lowX h.lowYw (by simpa using R) (fun i j z=>by
  have:=T i (by simpa using j) z;simpa using this)
 simp only[Cw,L,BY];refine V.mono fun e w' ⟨v,p,hb,hr⟩ => ?_;subst p;refine I _ _ ?_;rw[D];cases y
 case fresh k n cs =>
  simp only[Ee] at hr;refine IB (ks:=[]) h hb (fun u hu => .inr (x u hu)) (fun _ b hb=>(Ez.block hr hb).1) (fun X j _ => ?_);exact J0 h.below.from_ hr j
 case frs bb k n cs =>
  simp only[Ee] at hr;refine IB (ks:=[]) h hb (fun u hu => .inr (x u hu)) (fun _ b hb=>(IS.block hr hb).1) (fun X j _ => ?_);obtain⟨u,rfl,hr⟩:=hr;rw[Er _ hr] at j;refine⟨u,rfl,J0 h.below.from_ ?_ j⟩;rw[Er _ hr] at hr;exact hr
 case gb =>
  simp only[Ee] at hr;obtain⟨b',rfl,E,W⟩:=hr;refine IB (ks:=[]) h hb (fun u hu => .inr (x u hu)) (fun _ b hb=>by simp only[At,CN,Al,Ab] at hb;exact hb ▸ E) (fun X j _ => ?_);exact⟨b',rfl,h.below.from_ _ E,W.mono fun c hc => .inl ((j c hc).imp id Agn)⟩
 case io =>
  simp only[Ee] at hr;refine IB (ks:=[]) h hb (fun u hu => .inr (x u hu)) (fun p=>(by cases p)) (fun X _ z => ?_);exact Rd.io _ _ _ (hr.mono fun b hb => .inl (z rfl b hb))
 all_goals
  refine IB (ks:=[]) h hb (fun u hu => .inr (x u hu)) (fun p=>(by cases p)) (fun X _ z => ?_);exact Rd.mono hr fun b hb => .inl (z rfl b hb)
theorem Ahv{o:Oper}{x y:Nat}{us zs z:List Nat}{r:Reg}{l:List (Nat × Reg)}{F:Bf}{g:Act->World->Prop}(h:Rel Y X0 roots w0 s a w)(j:C9 P o.op (.mvf x y us zs)=true)(G:∀ t∈z,BC (Ag s t)=false)
  (A:BH roots z o.dst (.mvf x y us zs)=true) (c:A2 F s (.mvf x y us zs)=some (r,l)) (B:∀ a' w',Rel Y X0 roots w0 (BD (AE s l) o.dst r) a' w'->g a' w'):o.wp P a w g Q:=by
 simp only[BH,U] at A;simp only[C9] at j;split at j
 case h_2=>cases j
 rename_i y' N;simp only[A2] at c;split at c
 case isFalse=>cases c
 rename_i H;have h0:=h.reg x;have:∃ b,a.tmps.getD x A0 = .pointer (some ⟨b,0,none⟩):=by
  cases hr:Ag s x <;> rw[hr] at H h0 <;> first | (cases H;done) | (obtain⟨b,n,_⟩:=h0;exact⟨b,n⟩)
 obtain⟨b,n⟩:=this;have I:∀ q:V,Rel Y X0 roots w0 q a w->(∀ t∈z,BC (Ag q t)=false)->(∀ a' w',Rel Y X0 roots w0 (BD q o.dst (.ptr x 0)) a' w'->g a' w')->o.wp P a w g Q:=by
  intro q O R S;refine AB (v := .pointer (some ⟨b,0,none⟩)) (by simp[execOp,N,BI (a:=a) j,n]) (S _ _ ?_);exact F4 (off:=0) (p:=⟨b,0,none⟩) O (Aq R A.1) (Ef A.2) (by rw[n];rfl) rfl
 split at c
 ·rename_i cs hr;cases c;have f:=IE hr (by nofun);refine I (s.set y (.box (Hs zs cs))) (h.dnBox zs hr) (fun t C => ?_) B;rw[DT f];split
  ·rfl
  ·exact G t C
 ·rename_i cs ls hr;unfold M' at c;split at c
  case isFalse=>cases c
  split at c
  case h_2=>cases c
  rename_i D E T;split at c
  case isFalse=>cases c
  rename_i W;cases c;obtain⟨f1,X,Z,f4⟩:=LU T;obtain⟨r1,r2,r3,r4⟩:=Jl (s0:=s) E h f4 (fun t => .inl rfl);have J:Ag (AE s E) y = .bxh cs ls:=by
   rcases r2 y with e | ⟨_,_,_,e,_⟩
   ·rw[e,hr]
   ·rw[hr] at e;cases e
  have f:=IE J (by nofun);have hh:Rel Y X0 roots w0 ((AE s E).set y (.bxh D [])) a w:=by
   refine r1.hold J (by omega) (fun p hp=>by cases hp) (fun i K L => ?_);simp only[Ey];cases hu:Ey ls i with
   | none =>
    refine .inr (.inl ⟨rfl,?_⟩);have:=X i hu;rw[Ad K,Ad L] at this;exact AM this
   | some u =>
    obtain⟨k,m,es,p1,p2,p3⟩:=Z i u hu;have e:=p3 L;rw[Ad K] at e;refine .inr (.inr ⟨u,rfl,?_,?_⟩)
    ·rw[AM e];exact r4 _ p2
    ·rw[AM e];rfl
  have M:=hh.holdBox (d:=y) (cs:=D) (by rw[DT f,Af rfl]) W;rw[E9] at M;have hb:=M.dnBox (d:=y) (cs:=D) zs (by rw[DT f,Af rfl]);rw[E9] at hb;rw[DW] at B;refine I _ hb (fun t C => ?_) B;rw[DT f];split
  ·rfl
  ·rcases r2 t with e | ⟨_,_,_,_,e⟩
   ·rw[e];exact G t C
   ·rw[e];rfl
 ·cases c
end
section
variable {P:Program} {Y X0:Nat->Prop} {roots:List (Nat × Nat)} {w0:Base} {w:World} {s:V} {a:Act} {Q:Exit->Act->World->Prop}
set_option maxHeartbeats 4000000 in
theorem simK{o:Oper}{k:K}{h8:List Nat}{F:Bf}{r:Reg}{l:List (Nat × Reg)}{K':Act->World->Prop}(h:Rel Y X0 roots w0 s a w)(hF:G1 P F)(A:C9 P o.op k=true)(M:∀ t∈h8,BC (Ag s t)=false)(D:BH roots h8 o.dst k=true)
  (q:A2 F s k=some (r,l)) (H:∀ a' w',Rel Y X0 roots w0 (BD (AE s l) o.dst r) a' w'->K' a' w'):o.wp P a w K' Q:=by
 cases k
 case bad=>cases q
 case npt =>
  cases q;simp only[BH,U] at D;exact Ahe h A (Aq M D.1) H
 case mvp x d =>
  simp only[BH,U] at D;exact Ahf h A (Aq M D.1) (Ef D.2) q H
 case mvf x y us zs=>exact Ahv h A M D q H
 case ldh x d fz us=>exact Ahi h A M D q H
 case sth x d v =>
  simp only[BH,U] at D;exact Ahj h A (by simpa using D.1) (by simpa using D.2) q H
 case sts x d v=>exact Ahk h A (by simpa [BH] using D) q H
 case aph x y k B d us=>exact Ahl h A M D q H
 case lda x n us=>exact Ahm h A M D q H
 case ldz x n us zs=>exact Aho h A M D q H
 case blh z qs=>exact Ahp h A M D q H
 case sta x v n us =>
  simp only[BH,U,A6] at D;exact Ahq h A (by simpa using D.1) (fun u hu=>by simpa using D.2 u hu) q H
 case bwh f xs us=>exact Ahr h hF A (Aq M D) q H
 case cab f x d xs=>exact Ahs h hF A M D q H
 case mkw z n ls=>exact Aht h A M D q H
 case clw f xs d ls=>exact Ahu h hF A M D q H
 case sbn op x y=>exact Ahg h A (Aq M D) q H
 case sln x=>exact Ahh h A (Aq M D) q H
 case mov y =>
  simp only[A2,S] at q;obtain⟨x,R,G⟩:=q;cases G;simp only[C9] at A;split at A
  ·rename_i z I;exact AB (v:=a.eval z) (by simp[execOp,I]) (H _ _ (h.put (Aq M D) (B2 h A R)))
  ·rename_i z I;exact AB (v:=a.eval z) (by simp[execOp,I]) (H _ _ (h.put (Aq M D) (B2 h A R)))
  ·cases A
 case pick c x y =>
  simp only[C9] at A;split at A
  ·rename_i c' N y' I;simp only[U] at A;obtain⟨⟨h1,h2⟩,h3⟩:=A;simp only[A2] at q;split at q
   ·rename_i hc;simp only[S] at q;obtain⟨v,hv,G⟩:=q;cases G;have f7:=B2 h h1 hc;generalize f8:a.eval c'=cv at f7;cases f7;exact AB (v:=a.eval N) (by simp[execOp,I,f8,asBool]) (H _ _ (h.put (Aq M D) (B2 h h2 hv)))
   ·rename_i hc;simp only[S] at q;obtain⟨v,hv,G⟩:=q;cases G;have f7:=B2 h h1 hc;generalize f8:a.eval c'=cv at f7;cases f7;exact AB (v:=a.eval y') (by simp[execOp,I,f8,asBool]) (H _ _ (h.put (Aq M D) (B2 h h3 hv)))
   ·cases q
  ·cases A
 case bin op x y =>
  simp only[C9] at A;split at A
  ·rename_i i4 t N y' t' I;simp only[U,AW] at A;obtain⟨⟨rfl,h1⟩,h2⟩:=A;simp only[A2] at q;split at q
   ·rename_i xa ya R W;simp only[S] at q;obtain⟨z,hz,G⟩:=q;cases G;have a1:=B2 h h1 R;have b9:=B2 h h2 W;generalize a2:a.eval N=xv at a1;generalize a9:a.eval y'=yv at b9;cases xa <;> cases ya <;> simp only[J7] at hz <;> try cases hz
    cases a1;cases b9;obtain⟨v,V,hr⟩:=iQ (P:=P) (w:=w) (t:=t) (Y:=Y) (X:=fun b=>X0 b\/XS s a.tmps b) (by simpa only [J7] using hz);exact AB (v:=v) (by simp[execOp,I,a2,a9,Ld,V]) (H _ _ (h.put (Aq M D) hr))
   ·cases q
  ·cases A
 case eqb neg x y =>
  simp only[C9] at A;split at A
  ·rename_i i4 t N y' t' I;simp only[U,AW] at A;obtain⟨⟨⟨rfl,h0⟩,h1⟩,h2⟩:=A;simp only[A2] at q;split at q
   ·rename_i xa ya R W;cases q;have a1:=B2 h h1 R;have b9:=B2 h h2 W;generalize a2:a.eval N=xv at a1;generalize a9:a.eval y'=yv at b9;cases a1;cases b9;have ht:P.underlying t=some .bool:=by
     unfold Nh at h0;split at h0
     ·assumption
     ·cases h0
    have heq:(wW t (.bool xa) (.bool ya)).run P w = .ok (xa==ya) w:=run_equalIn_bool' w 9999 t xa ya ht;refine AB (v := .bool (if neg then !(xa==ya) else xa==ya)) ?_ (H _ _ (h.put (Aq M D) (.bool _)));cases neg
    ·simp only[AC,if_false,execOp,I,a2,a9,Am,HA,Aa,binOp,heq,Ap]
    ·simp only[if_true,execOp,I,a2,a9,Am,HA,Aa,binOp,heq,Ap]
   ·cases q
  ·cases A
 case eqv neg n x y =>
  simp only[C9] at A;split at A
  ·rename_i i4 t N y' t' I;simp only[U,AW] at A;obtain⟨⟨⟨rfl,h0⟩,h1⟩,h2⟩:=A;simp only[A2] at q;split at q
   ·rename_i xa ya R W;split at q
    ·rename_i hn;simp only[S] at q;obtain⟨z,hz,G⟩:=q;cases G;obtain⟨xs,ys,E,O,heq,hg⟩:=xB h0 (B2 h h1 R) (B2 h h2 W) hn hz N y';refine AB (v := .bool (if neg then !z else z)) ?_ (H _ _ (h.put (Aq M D) (.bool _)));rw[E,O] at heq hg;cases neg
     ·simp only[AC,if_false,execOp,I,E,O,Am,hg,Aa,binOp,heq,Ap]
     ·simp only[if_true,execOp,I,E,O,Am,hg,Aa,binOp,heq,Ap]
    ·cases q
   ·cases q
  ·cases A
 case un op x =>
  simp only[C9] at A;split at A
  ·rename_i i4 t N I;simp only[U,AW] at A;obtain⟨rfl,h1⟩:=A;simp only[A2] at q;split at q
   ·rename_i xa R;simp only[S] at q;obtain⟨z,hz,G⟩:=q;cases G;obtain⟨v,V,hr⟩:=xC (P:=P) (B2 h h1 R) hz;exact AB (v:=v) (by simp[execOp,I,V]) (H _ _ (h.put (Aq M D) hr))
   ·cases q
  ·cases A
 case cv k x =>
  simp only[C9] at A;split at A
  ·rename_i o4 dst N I;simp only[U] at A;obtain⟨⟨h0,h1⟩,h2⟩:=A;simp only[A2] at q;split at q
   ·rename_i k' n R;cases q;have a1:=B2 h h2 R;generalize a2:a.eval N=xv at a1;cases a1;split at h1
    ·rename_i k2 hd;simp only[AW] at h1;subst h1;unfold Qw at h0;split at h0
     ·rename_i ks hs;exact AB (v := .int k2 (k2.wrap n)) (by simp[execOp,I,a2,convert,run_underlying hs,run_underlying hd,Conv.intToInt]) (H _ _ (h.put (Aq M D) (.int _ _)))
     ·cases h0
    ·cases h1
   ·cases q
  ·cases A
 case new z ks =>
  simp only[C9] at A;split at A
  ·rename_i t I;cases q;obtain⟨v,hz,hc⟩:=Jk A;obtain⟨h1,h2⟩:=Te D;simp only[Cw];have V:(execOp a.eval o).run P w = .ok (.value (.pointer (some ⟨w.heap.size,0,none⟩))) (w.alloc (.cells v.cells t)):=by
    simp[execOp,I,Instr.alloc,hz,newVar,newRow]
   rw[V];exact H _ _ (Nj h h2 h1 (hc _ _ _))
  ·cases A
 case box x ks =>
  simp only[C9] at A;split at A
  ·rename_i t N I;obtain⟨h1,h2⟩:=Te D;have V:(execOp a.eval o).run P w = .ok (.value (.pointer (some ⟨w.heap.size,0,none⟩))) (w.alloc (.cells (a.eval N).cells t)):=by
    simp[execOp,I,Instr.box,newVar,newRow]
   simp only[Cw,V];simp only[A2] at q;split at q
   ·rename_i cs R;cases q;have hc:=(LN (n:=C cs) (ys:=cs) (B2 h A R) (by simp[Gz])).2;exact H _ _ (Nj h h2 h1 hc)
   ·rename_i y W R;split at q
    ·rename_i hd;cases q;have hc:=(LN (n:=1) (ys:=[y]) (B2 h A R) (by cases y <;> first | rfl | cases hd)).2
     exact H _ _ (Nj h h2 h1 hc)
    ·cases q
   ·cases q
  ·cases A
 case bld z ps =>
  simp only[C9] at A;split at A
  ·rename_i t c8 I;simp only[A2,S] at q;obtain⟨cs,d6,G⟩:=q;cases G;simp only[aR,U] at A;obtain⟨hz,A⟩:=A;obtain⟨v,f4,hc⟩:=Jk hz;split at A
   ·rename_i fs e7;simp only[U] at A;obtain⟨h9,hp⟩:=A;have l3:(fs.mapM fun f=>do pure (f.offset,<- sizeOf f.type):Sem (Array (Nat × Nat))).run P w = .ok (fs.map fun f=>(f.offset,P.cellsOf f.type)) w:=by
     have l4:∀ (l:List Field),(∀ f∈l,(P.info? f.type).isSome=true)->(l.mapM fun f=>do pure (f.offset,<- sizeOf f.type):Sem (List (Nat × Nat))).run P w = .ok (l.map fun f=>(f.offset,P.cellsOf f.type)) w:=by
      intro l;induction l with
      | nil=>intro _;rfl
      | cons f l ih =>
       intro hl;obtain⟨i,hi⟩:=A5.1 (hl f (A1 ..));have b0:(sizeOf f.type).run P w = .ok (P.cellsOf f.type) w:=by simp[sizeOf,typeInfo,program,Cn,hi,H6]
       simp only[EX,Am,b0,Aa,Ap,ih (fun g hg=>hl g (AI _ hg)),BQ]
     have:=l4 fs.toList (fun f hf=>by simp only[qY] at h9;exact h9 f (by simpa using hf));rw[Ke];simp only[Abc,this,Aa];congr 1;apply Array.ext';simp
    obtain⟨a6,E,O⟩:=Nl h (place:=fun i=>(fs.map fun f=>(f.offset,P.cellsOf f.type))[i]?) (pl:=IC P fs) (fun i off n hi=>by
     unfold IC at hi;split at hi
     ·rename_i f hf;simp only[U,AW] at hi;obtain⟨rfl,b0⟩:=hi;unfold FB at b0;split at b0
      ·rename_i ii b5;simp only[AW] at b0;simp[hf,H6,b5,b0]
      ·cases b0
     ·cases hi) hp (hc _ _ w) d6
    have c6:Dp (fun i=>(fs.map fun f=>(f.offset,P.cellsOf f.type))[i]?) v.cells (c8.map fun p=>(p.1,a.eval p.2)).toList=some a6:=by rw[CW];exact E
    refine AB (v := .agg a6) ?_ (H _ _ (h.put (Aq M D) (.agg a6 cs O.1 O.2.1 O.2.2)));simp only[execOp,I,JC,Am,f4,Aa,run_underlying e7,l3,c6,Ap]
   ·rename_i ln e e7;simp only[U] at A;obtain⟨h9,hp⟩:=A;obtain⟨ii,b5⟩:=A5.1 h9;have b0:(sizeOf e).run P w = .ok (P.cellsOf e) w:=by simp[sizeOf,typeInfo,program,Cn,b5,H6]
    obtain⟨a6,E,O⟩:=Nl h (place:=fun i=>some (i*P.cellsOf e,P.cellsOf e)) (fun i off n hi=>by
     simp only[U,AW] at hi;rw[hi.1,hi.2]) hp (hc _ _ w) d6
    have c6:Dp (fun i=>some (i*P.cellsOf e,P.cellsOf e)) v.cells (c8.map fun p=>(p.1,a.eval p.2)).toList=some a6:=by rw[CW];exact E
    refine AB (v := .agg a6) ?_ (H _ _ (h.put (Aq M D) (.agg a6 cs O.1 O.2.1 O.2.2)));simp only[execOp,I,JC,Am,f4,Aa,run_underlying e7,b0,c6,Ap]
   ·cases A
  ·cases A
 case bls n z ps =>
  simp only[C9] at A;split at A
  ·rename_i t len c8 I;simp only[A2,S] at q;obtain⟨cs,d6,G⟩:=q;cases G;simp only[aS,U,AW] at A;obtain⟨rfl,A⟩:=A;split at A
   ·rename_i e hu;split at A
    ·rename_i ii b5;simp only[U,Dm] at A;obtain⟨⟨⟨h1,h2⟩,h3⟩,hp⟩:=A;split at h3
     ·rename_i zv f4;simp only[U,Dm,AW] at h3;obtain⟨⟨h3,h4⟩,h5⟩:=h3;have i5:0<C zv.cells.toList:=by simp only[Bt];omega
      have i6:C zv.cells.toList=ii.size:=by simp only[Bt];exact h3
      obtain⟨hd,hg⟩:=LS (Y:=Y) (X:=fun b=>X0 b\/XS s a.tmps b) (w:=w) i5 len z h5 (by rw[h4,i6]);have f9:(sizeOf e).run P w = .ok ii.size w:=by simp[sizeOf,typeInfo,program,Cn,b5]
      have i7:(zeroValue e).run P w = .ok zv w:=by simp[zeroValue,typeInfo,program,Cn,b5,f4]
      have i9:CF Y (fun b=>X0 b\/XS s a.tmps b) w ((ES (len*ii.size)).map fun j=>zv.cells[j % zv.cells.size]!) z:=by
       refine⟨hd,by simp[h4],fun i J g2 => ?_⟩;obtain⟨u,j0,j1⟩:=hg i g2;have E:zv.cells[i % zv.cells.size]! = u:=by
        have:zv.cells[i % zv.cells.size]? = some u:=by simpa using j0
        simp[getElem!_def,this]
       simp only[M6,SS,E];exact j1
      obtain⟨a6,E,O⟩:=Nl h (place:=fun i=>some (i*ii.size,ii.size)) (fun i off n hi=>by
       simp only[U,AW] at hi;rw[hi.1,hi.2]) hp i9 d6
      have c6:Dp (fun i=>some (i*ii.size,ii.size)) ((ES (len*ii.size)).map fun j=>zv.cells[j % zv.cells.size]!) (c8.map fun p=>(p.1,a.eval p.2)).toList=some a6:=by rw[CW];exact E
      have e3:len*ii.size=0->(ES (len*ii.size)).map (fun j=>(#[]:Array Value)[j % (#[]:Array Value).size]!)=(ES (len*ii.size)).map fun j=>zv.cells[j % zv.cells.size]! := fun hh=>by rw[hh];simp
      have g0:¬ len*ii.size>2^24:=by omega
      simp only[BH,U] at D;obtain⟨d,L⟩:=A5.1 D.2;have V:(execOp a.eval o).run P w = .ok (.value (.slice (some ⟨w.heap.size,0,none⟩) len len)) (w.alloc (.cells a6 e)):=by
       by_cases e8:len*ii.size=0
       ·simp only[execOp,I,GR,Am,run_underlying hu,Aa,f9,g0,if_false,Af e8,Ap,e3 e8,c6,newRow,run_newObj_alloc]
       ·simp only[execOp,I,GR,Am,run_underlying hu,Aa,f9,g0,if_false,e8,Ap,i7,c6,newRow,run_newObj_alloc]
      simp only[Cw,V];refine H _ _ ?_;rw[L];refine BK (ks:=[]) h ((F2 _ _).alloc (Ar _) _) (fun u hu => .inr (Aq M D.1 d L u hu)) (fun G=>(by cases G)) (fun X J g2 => ?_);have i0:=(O.mono (X':=X) (fun b hb=>(J b hb).imp id Nk)).world (w':=w.alloc (.cells a6 e)) (fun b _ hb=>F7 _ _ _ hb);refine .sl w.heap.size 0 len len cs (fun i=>a6.getD i A0) i0.1 (Ar _) (fun _ R => ?_) (fun _ W=>MN _ (h.lowYw _ W)) (fun i hi => ?_) (fun i hi => ?_)
      ·exact MN _ (h.lowX _ (g2 rfl _ R))
      ·have i1:i<a6.size:=by rw[i0.2.1];exact hi
       have hb:(w.alloc (.cells a6 e)).heap[w.heap.size]? = some (.cells a6 e):=by show (w.heap.push _)[w.heap.size]? = _;simp
       rw[HD hb];simp[i1]
      ·have i1:i<a6.size:=by rw[i0.2.1];exact hi
       have:=i0.2.2 i i1 hi;simpa [i1] using this
     ·cases h3
    ·cases A
   ·cases A
  ·cases A
 case adr x d off =>
  simp only[C9] at A;split at A
  ·rename_i t N fi I;simp only[U] at A;obtain⟨h1,A⟩:=A;split at A
   ·rename_i fs e7;split at A
    ·rename_i f hf;simp only[U,AW,BJ] at A;obtain⟨⟨rfl,h2⟩,h3⟩:=A;simp only[BH,U] at D;obtain⟨ii,b5⟩:=A5.1 h3;have b0:∀ w,(sizeOf f.type).run P w = .ok ii.size w:=fun w=>by simp[sizeOf,typeInfo,program,Cn,b5]
     have c9:¬ ii.size=0:=by
      intro e0;simp[FB,b5,e0] at h2
     have a3:a.eval N=a.tmps.getD x A0:=by
      cases N <;> simp only[Bh] at h1 <;> try cases h1
      simp only[AW] at h1;subst h1;rfl
     have V:∀ b o0,a.eval N = .pointer (some ⟨b,o0,none⟩)->(execOp a.eval o).run P w = .ok (.value (.pointer (some ⟨b,o0+f.offset,none⟩))) w:=by
      intro b o0 G;simp only[execOp,I,Instr.fieldAt,Am,run_underlying e7,Aa,hf,G,Cl,Ap,fieldPlace,b0,c9,if_false,Dk]
     have h0:=h.reg x;simp only[A2] at q;cases hr:Ag s x with
     | box cs =>
      rw[hr] at h0 q;dsimp only at q;split at q
      ·rename_i b6;subst b6;cases q;obtain⟨b,E,_,_⟩:=h0;have:=V b 0 (by rw[a3,E]);refine AB this (H _ _ ?_);exact F4 (p:=⟨b,0,none⟩) h (Aq M D.1) (Ef D.2) (by rw[E];rfl) rfl
      ·cases q
     | ptr d' o0 =>
      rw[hr] at h0 q;dsimp only at q;split at q
      ·rename_i b6;subst b6;cases q;obtain⟨_,p,E,O,e3⟩:=h0;have:=V p.block (p.off+o0) (by rw[a3,e3]);refine AB this (H _ _ ?_);have hp:=F4 (off:=o0+f.offset) h (Aq M D.1) (Ef D.2) E O;rw[<- Fs] at hp;exact hp
      ·cases q
     | mem cs =>
      rw[hr] at h0 q;cases q;obtain⟨b,o0,E,O,e3⟩:=h0;have:=V b o0 (by rw[a3,E]);refine AB this (H _ _ ?_);refine Kl h (Aq M D.1) (fun c9=>O (fun hn=>c9 (by rw[hn];simp))) (e3.drop _)
     | val x=>rw[hr] at q;cases q
     | own _ _ _=>rw[hr] at q;cases q
     | agn _ _ _ _=>rw[hr] at q;cases q
     | bxl _=>rw[hr] at q;cases q
     | dup d=>rw[hr] at q;cases q
     | sub _ _ _ _=>rw[hr] at q;cases q
     | bxh cs ls =>
      rw[hr] at h0 q;dsimp only at q;split at q
      ·rename_i b6;subst b6;cases q;obtain⟨b,vs,T,E,_⟩:=h0;have:=V b 0 (by rw[a3,E]);refine AB this (H _ _ ?_);exact F4 (p:=⟨b,0,none⟩) h (Aq M D.1) (Ef D.2) (by rw[E];rfl) rfl
      ·cases q
     | agh _ _=>rw[hr] at q;cases q
     | bxg cs =>
      rw[hr] at h0 q;dsimp only at q;split at q
      ·rename_i b6;subst b6;cases q;obtain⟨b,E,_,_⟩:=h0;have:=V b 0 (by rw[a3,E]);refine AB this (H _ _ ?_);exact F4 (p:=⟨b,0,none⟩) h (Aq M D.1) (Ef D.2) (by rw[E];rfl) rfl
      ·cases q
     | dead=>rw[hr] at q;cases q
    ·cases A
   ·cases A
  ·cases A
 case ld x d n one =>
  simp only[C9] at A;split at A
  ·rename_i t N I;simp only[U] at A;obtain⟨h1,h2⟩:=A;have a3:a.eval N=a.tmps.getD x A0:=by
    cases N <;> simp only[Bh] at h1 <;> try cases h1
    simp only[AW] at h1;subst h1;rfl
   have h0:=h.reg x;have b4:∀ (b d0 off:Nat) (cs:List AV) (y:AV),a.eval N = .pointer (some ⟨b,d0+off,none⟩)->F8 Y (fun b=>X0 b\/XS s a.tmps b) w b d0 cs->Ae cs off n one=some y ->
     (∀ a' w',Rel Y X0 roots w0 (BD s o.dst (.val y)) a' w'->K' a' w')->o.wp P a w K' Q:=by
    intro b d0 off cs y G hm ht c0;obtain⟨v,V,hr⟩:=Ng (P:=P) h2 hm ht;refine AB (v:=v) ?_ (c0 _ _ (h.put (Aq M D) hr));simp only[execOp,I,Lf,G,Cl,Am,Ap,Aa,V]
   simp only[A2] at q;cases hr:Ag s x with
   | box cs =>
    rw[hr] at h0 q;dsimp only at q;split at q
    ·simp only[S] at q;obtain⟨y,W,G⟩:=q;cases G;obtain⟨b,E,_,e3⟩:=h0;exact b4 b 0 0 cs y (by rw[a3,E]) e3.mem W H
    ·cases q
   | ptr d' off =>
    rw[hr] at h0 q;dsimp only at q;split at q
    ·rename_i hd;subst hd;have h3:=h.reg d';cases a4:Ag s d' with
     | box cs =>
      rw[a4] at h3 q;simp only[S] at q;obtain⟨y,W,G⟩:=q;cases G;obtain⟨b,E,_,e3⟩:=h3;obtain⟨_,p,J,g2,g3⟩:=h0;rw[E] at J;cases J;exact b4 b 0 off cs y (by rw[a3,g3]) e3.mem W H
     | val x=>rw[a4] at q;cases q
     | ptr _ _=>rw[a4] at q;cases q
     | mem _=>rw[a4] at q;cases q
     | own k n cs =>
      rw[a4] at h3 q;simp only[S] at q;obtain⟨y,W,G⟩:=q;cases G;obtain⟨_,p,J,g2,g3⟩:=h0;rcases h3 with ⟨E,_⟩ | ⟨b,cap,E,_,_,_,e3,_⟩
      ·rw[E] at J;cases J
      ·rw[E] at J;cases J;exact b4 b 0 off cs y (by rw[a3,g3]) e3.mem W H
     | agn _ _ _ _=>rw[a4] at q;cases q
     | bxl _=>rw[a4] at q;cases q
     | dup d=>rw[a4] at q;cases q
     | sub _ _ _ _=>rw[a4] at q;cases q
     | bxh _ _=>rw[a4] at q;cases q
     | agh _ _=>rw[a4] at q;cases q
     | bxg cs =>
      rw[a4] at h3 q;simp only[S] at q;obtain⟨y,W,G⟩:=q;cases G;obtain⟨b,E,_,e3⟩:=h3;obtain⟨_,p,J,g2,g3⟩:=h0;rw[E] at J;cases J;exact b4 b 0 off cs y (by rw[a3,g3]) e3.mem W H
     | dead=>rw[a4] at q;cases q
    ·cases q
   | mem cs =>
    rw[hr] at h0 q;simp only[S] at q;obtain⟨y,W,G⟩:=q;cases G;obtain⟨b,off,E,_,e3⟩:=h0;exact b4 b off 0 cs y (by simp[a3,E]) e3 W H
   | val x=>rw[hr] at q;cases q
   | own _ _ _=>rw[hr] at q;cases q
   | agn _ _ _ _=>rw[hr] at q;cases q
   | bxl _=>rw[hr] at q;cases q
   | dup d=>rw[hr] at q;cases q
   | sub _ _ _ _=>rw[hr] at q;cases q
   | bxh _ _=>rw[hr] at q;cases q
   | agh _ _=>rw[hr] at q;cases q
   | bxg _=>rw[hr] at q;cases q
   | dead=>rw[hr] at q;cases q
  ·cases A
 case st x d n v =>
  simp only[C9] at A;split at A
  ·rename_i t N v' I;simp only[U] at A;obtain⟨⟨h1,h2⟩,h3⟩:=A;have a3:a.eval N=a.tmps.getD x A0:=by
    cases N <;> simp only[Bh] at h1 <;> try cases h1
    simp only[AW] at h1;subst h1;rfl
   have L:o.dst=none:=by simpa [BH] using D
   have h0:=h.reg x;simp only[A2] at q;split at q
   ·cases q
   ·rename_i va l5;split at q
    ·cases q
    ·rename_i ys l6;obtain⟨hn,hc⟩:=LN (B2 h h3 l5) l6;have b4:∀ (b off:Nat) (cs a7:List AV),Ag s d = .box cs->a.tmps.getD d A0 = .pointer (some ⟨b,0,none⟩)->a.eval N = .pointer (some ⟨b,off,none⟩)->BE cs off ys=some a7 ->
       (∀ a' w',Rel Y X0 roots w0 (s.set d (.box a7)) a' w'->K' a' w')->o.wp P a w K' Q:=by
      intro b off cs a7 b7 b8 G hl c0;have h4:=h.reg d;rw[b7] at h4;obtain⟨b',E,hB,e3⟩:=h4;rw[b8] at E;cases E;have hX:(fun b=>X0 b\/XS s a.tmps b) b := .inr ⟨d,by rw[b7];rfl,by rw[b8];rfl⟩;obtain⟨w',V,J,g2,g3,g4,g5,g6,g7⟩:=RO (P:=P) (FC h2) e3 hX hc hn hl;have d1:(execOp a.eval o).run P w = .ok .skip w':=by
       simp only[execOp,I,Ib,G,Cl,Am,Ap,Aa,V]
      simp only[Cw,d1,BY];rw[L];refine c0 _ _ (Rel.store h b7 rfl rfl (by rw[b8];rfl) hB J g2 g3 g4 g5 (fun X hX => ?_));exact⟨b,b8,hB,g6.mono fun c hc => .inl ((hX c).1 hc)⟩
     have l7:∀ (b off:Nat) (cs a7:List AV),Ag s d = .bxg cs->a.tmps.getD d A0 = .pointer (some ⟨b,0,none⟩)->a.eval N = .pointer (some ⟨b,off,none⟩)->BE cs off ys=some a7 ->
       (∀ a' w',Rel Y X0 roots w0 (s.set d (.bxg a7)) a' w'->K' a' w')->o.wp P a w K' Q:=by
      intro b off cs a7 b7 b8 G hl c0;have h4:=h.reg d;rw[b7] at h4;obtain⟨b',E,hB,e3⟩:=h4;rw[b8] at E;cases E;have hX:(fun b=>X0 b\/XS s a.tmps b) b := .inr ⟨d,by rw[b7];rfl,by rw[b8];rfl⟩;obtain⟨w',V,J,g2,g3,g4,g5,g6,g7⟩:=RO (P:=P) (FC h2) e3 hX hc hn hl;have d1:(execOp a.eval o).run P w = .ok .skip w':=by
       simp only[execOp,I,Ib,G,Cl,Am,Ap,Aa,V]
      simp only[Cw,d1,BY];rw[L];refine c0 _ _ (Rel.store h b7 rfl rfl (by rw[b8];rfl) hB.1 J g2 g3 g4 g5 (fun X hX => ?_));exact⟨b,b8,hB,g6.mono fun c hc => .inl ((hX c).1 hc)⟩
     have l8:∀ (b off k m:Nat) (cs a7:List AV),Ag s d = .own k m cs->At (a.tmps.getD d A0)=some b->a.eval N = .pointer (some ⟨b,off,none⟩)->BE cs off ys=some a7 ->
       (∀ a' w',Rel Y X0 roots w0 (s.set d (.own k m a7)) a' w'->K' a' w')->o.wp P a w K' Q:=by
      intro b off k m cs a7 b7 b8 G hl c0;obtain⟨b',cap,E,O,e3,e4,e5,e6,g8⟩:=(h.ownLow b7).resolve_left (fun hh=>by rw[hh.1] at b8;cases b8);have l9:b'=b:=by rw[E] at b8;simpa [At,CN] using b8
      subst l9;obtain⟨w',V,J,g2,g3,g4,g5,g6,g7⟩:=RO (P:=P) (FC h2) e5 (.inr g8) hc hn hl;have d1:(execOp a.eval o).run P w = .ok .skip w':=by
       simp only[execOp,I,Ib,G,Cl,Am,Ap,Aa,V]
      simp only[Cw,d1,BY];rw[L];refine c0 _ _ (Rel.store h b7 rfl rfl b8 e4 J g2 g3 g4 g5 (fun X hX => ?_));refine .inr ⟨b',cap,E,O,by rw[(K_ hl).2.1];exact e3,e4,g6.mono fun c hc => .inl ((hX c).1 hc),g7 _ e6⟩
     rw[L] at H;cases hr:Ag s x with
     | box cs =>
      rw[hr] at h0 q;dsimp only at q;split at q
      ·rename_i b6;subst b6;simp only[S] at q;obtain⟨a7,hl,G⟩:=q;cases G;obtain⟨b,E,_,_⟩:=h0;exact b4 b 0 cs a7 hr E (by rw[a3,E]) hl H
      ·cases q
     | ptr d' off =>
      rw[hr] at h0 q;dsimp only at q;split at q
      ·rename_i hd;subst hd;have h5:=h.reg d';cases a4:Ag s d' with
       | box cs =>
        rw[a4] at h5 q;simp only[S] at q;obtain⟨a7,hl,G⟩:=q;cases G;obtain⟨b,E,_,e3⟩:=h5;obtain⟨_,p,J,g2,g3⟩:=h0;rw[E] at J;cases J;exact b4 b off cs a7 a4 E (by rw[a3,g3];simp) hl H
       | val x=>rw[a4] at q;cases q
       | ptr _ _=>rw[a4] at q;cases q
       | mem _=>rw[a4] at q;cases q
       | own k m cs =>
        rw[a4] at h5 q;simp only[S] at q;obtain⟨a7,hl,G⟩:=q;cases G;obtain⟨_,p,J,g2,g3⟩:=h0;rcases h5 with ⟨E,_⟩ | ⟨b,cap,E,_,_,_,e3,_⟩
        ·rw[E] at J;cases J
        ·rw[E] at J;cases J;exact l8 b off k m cs a7 a4 (by rw[E];rfl) (by rw[a3,g3];simp) hl H
       | agn _ _ _ _=>rw[a4] at q;cases q
       | bxl _=>rw[a4] at q;cases q
       | dup d=>rw[a4] at q;cases q
       | sub _ _ _ _=>rw[a4] at q;cases q
       | bxh _ _=>rw[a4] at q;cases q
       | agh _ _=>rw[a4] at q;cases q
       | bxg cs =>
        rw[a4] at h5 q;simp only[S] at q;obtain⟨a7,hl,G⟩:=q;cases G;obtain⟨b,E,o5,e3⟩:=h5;obtain⟨_,p,J,g2,g3⟩:=h0;rw[E] at J;cases J;exact l7 b off cs a7 a4 E (by rw[a3,g3];simp) hl H
       | dead=>rw[a4] at q;cases q
      ·cases q
     | val x=>rw[hr] at q;cases q
     | mem _=>rw[hr] at q;cases q
     | own _ _ _=>rw[hr] at q;cases q
     | agn _ _ _ _=>rw[hr] at q;cases q
     | bxl _=>rw[hr] at q;cases q
     | dup d=>rw[hr] at q;cases q
     | sub _ _ _ _=>rw[hr] at q;cases q
     | bxh _ _=>rw[hr] at q;cases q
     | agh _ _=>rw[hr] at q;cases q
     | bxg _=>rw[hr] at q;cases q
     | dead=>rw[hr] at q;cases q
  ·cases A
 case fld x off n one =>
  simp only[C9] at A;split at A
  ·rename_i t N fi I;simp only[U] at A;obtain⟨h1,A⟩:=A;split at A
   ·rename_i fs e7;split at A
    ·rename_i f hf;simp only[U,AW] at A;obtain⟨rfl,h2⟩:=A;simp only[A2] at q;split at q
     ·rename_i cs R;simp only[S] at q;obtain⟨y,W,G⟩:=q;cases G;have a1:=B2 h h1 R;generalize a2:a.eval N=xv at a1;cases a1 with
      | agg vs _ hd hs hr =>
       obtain⟨v,V,hr⟩:=Qz (P:=P) h2 ⟨hd,hs,hr⟩ W;refine AB (v:=v) ?_ (H _ _ (h.put (Aq M D) hr));simp only[execOp,I,aI,Am,run_underlying e7,Aa,hf,a2,asAgg,Ap,V]
     ·cases q
    ·cases A
   ·cases A
  ·cases A
 case ixa x i k =>
  simp only[C9] at A;split at A
  ·rename_i t N i' I;simp only[U] at A;obtain⟨⟨h1,h2⟩,A⟩:=A;split at A
   ·rename_i e hu;simp only[A2] at q;split at q
    ·rename_i ki iv hi;have d7:=B2 h h2 hi;generalize d8:a.eval i'=ivv at d7;cases d7;have a3:a.eval N=a.tmps.getD x A0:=by
      cases N <;> simp only[Bh] at h1 <;> try cases h1
      simp only[AW] at h1;subst h1;rfl
     have h0:=h.reg x;split at q
     ·rename_i n cs hr;rw[hr] at h0;split at q
      ·rename_i hb;cases q;rw[<- a3] at h0;generalize a2:a.eval N=xv at h0;cases h0 with
       | nil0=>exact absurd hb (by omega)
       | e0 _ _=>exact absurd hb (by omega)
       | sl b off _ cap _ f hd hn hX hY hcell j2 =>
        have j3:F8 Y (fun b=>X0 b\/XS s a.tmps b) w b off cs:=⟨hd,fun j hj=>⟨f j,hcell j hj,j2 j hj⟩⟩;refine AB (v := .pointer (some ⟨b,off+iv.toNat*k,none⟩)) ?_ (H _ _ ?_)
        ·simp only[execOp,I,RJ,Am,d8,asIntOf,Ap,Aa,run_underlying hu,a2,hb,and_self,if_true,FC A,Dk]
        ·refine Kl h (Aq M D) (fun c9=>hX (fun hn=>c9 (by rw[hn];simp))) (j3.drop _)
      ·cases q
     ·cases q
    ·cases q
   ·cases A
  ·cases A
 case six x i =>
  simp only[C9] at A;split at A
  ·rename_i t N i' I;simp only[U] at A;obtain⟨⟨h1,h2⟩,A⟩:=A;split at A
   ·rename_i hu;simp only[A2] at q;split at q
    ·rename_i bs ki iv R hi;simp only[S] at q;obtain⟨c,hc,G⟩:=q;cases G;have d7:=B2 h h2 hi;generalize d8:a.eval i'=ivv at d7;cases d7;have a1:=B2 h h1 R;generalize a2:a.eval N=xv at a1;cases a1;refine AB (v := .int .u8 c.toNat) ?_ (H _ _ (h.put (Aq M D) (.int _ _)));simp only[execOp,I,Aav,Am,d8,asIntOf,Ap,Aa,run_underlying hu,a2,hc]
    ·cases q
   ·cases A
  ·cases A
 case ext x i =>
  simp only[C9] at A;split at A
  ·rename_i N i' I;simp only[U,AW] at A;obtain⟨h1,rfl⟩:=A;simp only[A2] at q;split at q
   ·rename_i vs R;simp only[S] at q;obtain⟨y,W,G⟩:=q;cases G;have a1:=B2 h h1 R;generalize a2:a.eval N=xv at a1;cases a1 with
    | tup us _ hs hr =>
     obtain⟨e9,m0⟩:=AZ.1 W;have k3:i'<us.size:=by omega
     refine AB (v:=us[i']) ?_ (H _ _ (h.put (Aq M D) (m0 ▸ hr i' k3 e9)));simp only[execOp,I,qT,a2,A4 k3,Am,Ap,Aa]
   ·cases q
  ·cases A
 case len x =>
  simp only[C9] at A;split at A
  ·rename_i args ts I;unfold aT at A;split at A
   ·rename_i N t d9 g9;simp only[U] at A;obtain⟨h1,h2⟩:=A;have E:args=#[N]:=by rw[<- Dt (xs:=args),d9]
    have O:ts=#[t]:=by rw[<- Dt (xs:=ts),g9]
    subst E O;split at h2
    ·rename_i e hu;simp only[A2] at q;have b4:∀ (d0:Option Addr) (n c:Nat),a.eval N = .slice d0 n c->(∀ a' w',Rel Y X0 roots w0 (BD s o.dst (.val (.int .i64 n))) a' w'->K' a' w')->o.wp P a w K' Q:=by
      intro d0 n c G c0;refine AB (v := .int .i64 n) ?_ (c0 _ _ (h.put (Aq M D) (.int _ _)));simp[execOp,I,resolve,invoke,builtin,Gy,G,run_underlying hu,goInt]
     split at q
     ·rename_i R;cases q;have a1:=B2 h h1 R;generalize a2:a.eval N=xv at a1;cases a1;exact b4 _ _ _ a2 H
     ·rename_i n cs R;cases q;have a1:=B2 h h1 R;generalize a2:a.eval N=xv at a1;cases a1 <;> exact b4 _ _ _ a2 H
     ·cases q
    ·cases h2
   ·cases A
  ·cases A
 case mx xs =>
  simp only[C9] at A;split at A
  ·rename_i args ts I;simp only[A2] at q;split at q
   ·rename_i k n l R;simp only[S] at q;obtain⟨m,hm,G⟩:=q;cases G;obtain⟨E,O⟩:=H9 h A R;cases a8:args.toList with
    | nil=>rw[a8] at E;simp at E
    | cons x0 d2 =>
     have c6:C d2=C l:=by rw[a8] at E;simpa using E
     have h0:=O 0 (by rw[a8];simp) (by simp);simp only[a8,Bk] at h0;generalize a2:a.eval x0=xv at h0;cases h0;have j4:=UB (P:=P) (Y:=Y) (X:=fun b=>X0 b\/XS s a.tmps b) (w:=w) (vs:=d2.map a.eval) (l:=l) (by simpa using c6) (fun i J g2=>by
      have:=O (i+1) (by rw[a8];simp at J |-;omega) (by simp;omega);simpa [a8] using this) hm
     refine AB (v := .int k m) ?_ (H _ _ (h.put (Aq M D) (.int _ _)));have j5:(args.map a.eval).toList = .int k n::d2.map a.eval:=by rw[CW,a8,BQ,a2]
     simp only[execOp,I,resolve,invoke,builtin,A0r,Am,Ap,Aa,j5,j4]
   ·cases q
  ·cases A
 case mn xs =>
  simp only[C9] at A;split at A
  ·rename_i args ts I;simp only[A2] at q;split at q
   ·rename_i k n l R;simp only[S] at q;obtain⟨m,hm,G⟩:=q;cases G;obtain⟨E,O⟩:=H9 h A R;cases a8:args.toList with
    | nil=>rw[a8] at E;simp at E
    | cons x0 d2 =>
     have c6:C d2=C l:=by rw[a8] at E;simpa using E
     have h0:=O 0 (by rw[a8];simp) (by simp);simp only[a8,Bk] at h0;generalize a2:a.eval x0=xv at h0;cases h0;have j4:=UC (P:=P) (Y:=Y) (X:=fun b=>X0 b\/XS s a.tmps b) (w:=w) (vs:=d2.map a.eval) (l:=l) (by simpa using c6) (fun i J g2=>by
      have:=O (i+1) (by rw[a8];simp at J |-;omega) (by simp;omega);simpa [a8] using this) hm
     refine AB (v := .int k m) ?_ (H _ _ (h.put (Aq M D) (.int _ _)));have j5:(args.map a.eval).toList = .int k n::d2.map a.eval:=by rw[CW,a8,BQ,a2]
     simp only[execOp,I,resolve,invoke,builtin,A0s,Am,Ap,Aa,j5,j4]
   ·cases q
  ·cases A
 case call f xs =>
  simp only[C9] at A;split at A
  ·rename_i f' args ts I;simp only[U,AW] at A;obtain⟨⟨rfl,h1⟩,h2⟩:=A;simp only[A2] at q;split at q
   ·rename_i vs R;simp only[S] at q;obtain⟨y,W,G⟩:=q;cases G;obtain⟨E,O⟩:=H9 h h1 R;split at h2
    ·rename_i fn d3;simp only[U,BJ] at h2;obtain⟨c5,d4⟩:=h2;have d5:¬ fn.body=none:=by intro e0;rw[e0] at c5;cases c5
     have c7:¬ fn.name = "runtime.NumGoroutine" := by simpa using d4
     have V:(execOp a.eval o).run P w = .ok (.enter f' (args.map a.eval)) w:=by
      simp[execOp,I,resolve,D_,If,invoke,callFunc,program,Cn,d3,c7,d5]
     have f0:=hF.plain f' vs y W Y (fun b=>X0 b\/XS s a.tmps b) w (args.map a.eval) h.lowX h.lowYw (by simpa using E) (fun i J g2=>by
      have:=O i (by simpa using J) g2;simpa using this)
     simp only[Cw,V,BY];refine f0.mono fun e w' ⟨v,G,hb,hr⟩ => ?_;subst G;refine H _ _ ?_;cases L:o.dst with
     | none =>
      refine⟨h.dfr,h.size,h.below.trans hb,h.low,h.lowY,fun t => ?_,h.inj⟩;exact F9.world (h.reg t) hb
     | some d =>
      refine BK (ks:=[]) h hb (fun u hu => .inr (Aq M D d L u hu)) (fun G=>(by cases G)) (fun X _ g2 => ?_);exact (hr.thawed (fun b hb=>Ge (h.lowX b hb)) (fun b hb=>Ge (h.lowYw b hb))).mono fun b hb => .inl (g2 rfl b hb)
    ·cases h2
   ·cases q
  ·cases A
 case clo f xs =>
  simp only[C9] at A;split at A
  ·rename_i f' args ts I;simp only[U,AW] at A;obtain⟨⟨rfl,h1⟩,h2⟩:=A;simp only[A2] at q;split at q
   ·rename_i vs R;simp only[S] at q;obtain⟨y,W,G⟩:=q;cases G;obtain⟨E,O⟩:=H9 h h1 R;split at h2
    ·rename_i fn d3;simp only[U,BJ] at h2;obtain⟨c5,d4⟩:=h2;have d5:¬ fn.body=none:=by intro e0;rw[e0] at c5;cases c5
     have c7:¬ fn.name = "runtime.NumGoroutine" := by simpa using d4
     have V:(execOp a.eval o).run P w = .ok (.enter f' (args.map a.eval)) w:=by
      simp[execOp,I,resolve,D_,If,invoke,callFunc,program,Cn,d3,c7,d5]
     have f0:=hF.plain f' vs y W Y (fun b=>X0 b\/XS s a.tmps b) w (args.map a.eval) h.lowX h.lowYw (by simpa using E) (fun i J g2=>by
      have:=O i (by simpa using J) g2;simpa using this)
     simp only[Cw,V,BY];refine f0.mono fun e w' ⟨v,G,hb,hr⟩ => ?_;subst G;refine H _ _ ?_;simp only[BH,U] at D;obtain⟨d,L⟩:=A5.1 D.2;rw[L];cases y
     case fresh k n cs =>
      simp only[Ee] at hr;refine BK (ks:=[]) h hb (fun u hu => .inr (Aq M D.1 d L u hu)) (fun _ b hb=>(Ez.block hr hb).1) (fun X J _ => ?_);exact J0 h.below.from_ hr J
     case frs bb k n cs =>
      simp only[Ee] at hr;refine BK (ks:=[]) h hb (fun u hu => .inr (Aq M D.1 d L u hu)) (fun _ b hb=>(IS.block hr hb).1) (fun X J _ => ?_);obtain⟨u,rfl,hr⟩:=hr;rw[Er _ hr] at J;refine⟨u,rfl,J0 h.below.from_ ?_ J⟩;rw[Er _ hr] at hr;exact hr
     case gb =>
      simp only[Ee] at hr;obtain⟨b',rfl,q2,q3⟩:=hr;refine BK (ks:=[]) h hb (fun u hu => .inr (Aq M D.1 d L u hu)) (fun _ b hb=>by simp only[At,CN,Al,Ab] at hb;exact hb ▸ q2) (fun X J _ => ?_);exact⟨b',rfl,h.below.from_ _ q2,q3.mono fun c hc => .inl ((J c hc).imp id Agn)⟩
     case io =>
      simp only[Ee] at hr;refine BK (ks:=[]) h hb (fun u hu => .inr (Aq M D.1 d L u hu)) (fun G=>(by cases G)) (fun X _ g2 => ?_);exact Rd.io _ _ _ (hr.mono fun b hb => .inl (g2 rfl b hb))
     all_goals
      refine BK (ks:=[]) h hb (fun u hu => .inr (Aq M D.1 d L u hu)) (fun G=>(by cases G)) (fun X _ g2 => ?_);exact Rd.mono hr fun b hb => .inl (g2 rfl b hb)
    ·cases h2
   ·cases q
  ·cases A
 case brw f x d =>
  simp only[C9] at A;split at A
  ·rename_i f' args ts I;simp only[U,AW] at A;obtain⟨⟨rfl,h1⟩,h2⟩:=A;simp only[A2] at q;split at q
   ·rename_i d' m1;split at q
    ·rename_i m2;subst m2;split at q
     ·rename_i k n cs b7;split at q
      ·rename_i m3;split at q
       ·rename_i y W;split at q
        ·rename_i m4;cases q;have k4:=h.reg x;rw[m1] at k4;have q:a.tmps.getD x A0=a.tmps.getD d' A0:=k4.2;have f1:=h.reg d';rw[b7] at f1;have j6:∀ b,At (a.tmps.getD d' A0)=some b->(X0 b\/XS s a.tmps b):=fun b hb => .inr ⟨d',by rw[b7];rfl,hb⟩;obtain⟨o1,ho1,hox⟩:∃ o1,args.toList=[o1]/\Bh o1 (.t x)=true:=by
          cases a8:args.toList with
          | nil=>rw[a8] at h1;cases h1
          | cons o1 l =>
           rw[a8] at h1;simp only[EN,U] at h1;cases l with
           | nil=>exact⟨o1,rfl,h1.1⟩
           | cons _ _=>cases h1.2
         have m5:a.eval o1=a.tmps.getD d' A0:=by
          cases o1 <;> first | (cases hox;done) | skip
          rename_i m;simp only[Bh,AW] at hox;subst hox;rw[<- q];rfl
         split at h2
         ·rename_i fn d3;simp only[U,BJ] at h2;obtain⟨c5,d4⟩:=h2;have d5:¬ fn.body=none:=by intro e0;rw[e0] at c5;cases c5
          have c7:¬ fn.name = "runtime.NumGoroutine" := by simpa using d4
          have V:(execOp a.eval o).run P w = .ok (.enter f' (args.map a.eval)) w:=by
           simp[execOp,I,resolve,D_,If,invoke,callFunc,program,Cn,d3,c7,d5]
          have d9:args=#[o1]:=by
           apply Abi.1;rw[ho1]
          have m6:Rd (fun c=>Y c\/At (a.tmps.getD d' A0)=some c) (fun c=>(X0 c\/XS s a.tmps c)/\¬ At (a.tmps.getD d' A0)=some c) w (a.tmps.getD d' A0) (.sl n cs) :=
           iO f1 (fun b hb=>hb.1) (fun b hb=>hb.imp id (j6 b)) (fun b hb R=>R.2 hb) m3
          have f0:=hF.plain f' [.sl n cs] y W (fun c=>Y c\/At (a.tmps.getD d' A0)=some c) (fun c=>(X0 c\/XS s a.tmps c)/\¬ At (a.tmps.getD d' A0)=some c) w (args.map a.eval)
           (fun b hb=>h.lowX b hb.1) (fun b hb=>hb.elim (h.lowYw b) (fun hb=>h.lowX b (j6 b hb))) (by rw[d9];simp) (fun i J g2=>by
            have hi:i=0:=by simp at g2;exact g2
            subst hi;subst d9;simp only[List.map_toArray,BQ,RK,DV,Bk];rw[m5];exact m6)
          simp only[Cw,V,BY];refine f0.mono fun e w' ⟨v,G,hb,hr⟩ => ?_;subst G;refine H _ _ ?_;have m7:Rd Y (fun b=>X0 b\/XS s a.tmps b) w' v (KZ y):=by
           refine (hr.thawed (fun b hb=>Ge (h.lowX b hb.1)) (fun b hb=>Ge (hb.elim (h.lowYw b) (fun hb=>h.lowX b (j6 b hb))))).back m4 (fun b hb => ?_) (fun b hb => .inl hb);by_cases hq:At (a.tmps.getD d' A0)=some b
           ·exact .inr (.inr hq)
           ·exact .inl ⟨hb,hq⟩
          cases L:o.dst with
          | none =>
           refine⟨h.dfr,h.size,h.below.trans hb,h.low,h.lowY,fun t => ?_,h.inj⟩;exact F9.world (h.reg t) hb
          | some d =>
           refine BK (ks:=[]) h hb (fun u hu => .inr (Aq M D d L u hu)) (fun G=>(by cases G)) (fun X _ g2 => ?_);exact m7.mono fun b hb => .inl (g2 rfl b hb)
         ·cases h2
        ·cases q
       ·cases q
      ·cases q
     ·cases q
    ·cases q
   ·cases q
  ·cases A
 case cpy x =>
  have R:=Nn (a:=a) (P:=P) (w:=w) A;simp only[BH,U] at D;simp only[A2] at q;have h0:=h.reg x;split at q
  ·rename_i v hr;cases q;rw[hr] at h0;exact AB R (H _ _ (h.put (Aq M D.1) h0))
  ·cases q;exact AB R (H _ _ (h.putDup (Aq M D.1) (Ef D.2)))
  ·cases q
 case tra x =>
  have R:=Nn (a:=a) (P:=P) (w:=w) A;simp only[BH,U] at D;simp only[A2] at q;have h0:=h.reg x;split at q
  ·rename_i v hr;cases q;rw[hr] at h0;exact AB R (H _ _ (h.put (Aq M D.1) h0))
  ·rename_i cs hr;cases q;obtain⟨d,L⟩:=A5.1 D.2;rw[hr] at h0;obtain⟨b,E,O,e3⟩:=h0;refine AB R (H _ _ ?_);rw[L];exact h.pass (by rw[hr];rfl) rfl (fun u hu=>Aq M D.1 d L u hu) (fun X J=>⟨b,E,O,e3.mono fun c hc => .inl (J c hc)⟩)
  ·rename_i k n cs hr;cases q;obtain⟨d,L⟩:=A5.1 D.2;refine AB R (H _ _ ?_);rw[L];rcases h.ownLow hr with ⟨E,rfl,rfl⟩ | ⟨b,cap,E,O,e3,e4,e5,e6,g8⟩
   ·rw[E];exact Ik (ow:=true) (ks:=[x]) h (fun u hu => .inr (Aq M D.1 d L u hu))
   refine Rel.shift h hr (b:=b) (by rw[E];rfl) (fun u hu=>Aq M D.1 d L u hu) rfl rfl rfl rfl (fun _ _=>rfl) (fun _=>by rw[E];rfl) (fun X J _ => ?_);exact .inr ⟨b,cap,E,O,e3,e4,e5.mono fun c hc => .inl (J c hc),e6⟩
  ·rename_i b k n cs hr;cases q;obtain⟨d,L⟩:=A5.1 D.2;rw[hr] at h0;refine AB R (H _ _ ?_);rw[L];exact h.pass (by rw[hr];rfl) rfl (fun u hu=>Aq M D.1 d L u hu) (fun X J=>IS.mono h0 fun c hc => .inl (J c hc))
  ·cases q
 case frz x =>
  have R:=Nn (a:=a) (P:=P) (w:=w) A;simp only[A2] at q;have h0:=h.reg x;split at q
  ·rename_i v hr;cases q;rw[hr] at h0;exact AB R (H _ _ (h.put (Aq M D) h0))
  ·rename_i k n cs hr;cases q;have hf:=h.freeze hr;have h1:=hf.reg x;have e9:x<C s:=by
    rcases C6 x (C s) with e9 | m8
    ·exact e9
    ·simp only[Ag,Z,AS m8] at hr;cases hr
   rw[Ci,Af ⟨rfl,e9⟩] at h1;refine AB R (H _ _ (hf.put (fun d hd t ht => ?_) h1));have m9:=Aq M D d hd t ht;rw[Ci];split
   ·rfl
   ·exact m9
  ·cases q
 case mks z n =>
  simp only[C9] at A;split at A
  ·rename_i t l c I;simp only[U] at A;obtain⟨⟨⟨h1,h2⟩,h3⟩,h4⟩:=A;simp only[BH,U] at D;obtain⟨d,L⟩:=A5.1 D.2;simp only[A2] at q;split at q
   ·rename_i kk m hn;split at q
    ·rename_i hb;cases q;have hl:=B2 h h1 hn;have hc:=B2 h h2 hn;generalize n0:a.eval l=lv at hl;generalize f8:a.eval c=cv at hc;cases hl;cases hc;obtain⟨e,cells,V,j7⟩:=iR (P:=P) (Y:=Y) (X:=fun b=>X0 b\/XS s a.tmps b) (w:=w) (kl:=kk) (kc:=kk) h3 h4 hb.1 hb.2;have d1:(execOp a.eval o).run P w = .ok (.value (.slice (some ⟨w.heap.size,0,none⟩) m.toNat m.toNat)) (w.alloc (.cells cells e)):=by
      simp only[execOp,I,n0,f8,Am,V,Aa,Ap]
     simp only[Cw,d1,BY];refine H _ _ ?_;rw[L];exact UD h (fun u hu=>Aq M D.1 d L u hu) j7 (Iw z m.toNat)
    ·cases q
   ·cases q
  ·cases A
 case blo k n z ps =>
  simp only[C9] at A;split at A
  ·rename_i t len c8 I;simp only[U] at A;obtain⟨A,n1⟩:=A;simp only[A2,S] at q;obtain⟨cs,d6,G⟩:=q;cases G;simp only[aS,U,AW] at A;obtain⟨rfl,A⟩:=A;obtain⟨e',i',o6,k5,f5,n2,o7,_,_,_⟩:=DY n1;split at A
   ·rename_i e hu;split at A
    ·rename_i ii b5;obtain rfl:e=e':=by rw[hu] at k5;cases k5;rfl
     obtain rfl:ii=i':=by rw[b5] at f5;cases f5;rfl
     simp only[U,Dm] at A;obtain⟨⟨⟨h1,h2⟩,h3⟩,hp⟩:=A;split at h3
     ·rename_i zv f4;simp only[U,Dm,AW] at h3;obtain⟨⟨h3,h4⟩,h5⟩:=h3;have i5:0<C zv.cells.toList:=by simp only[Bt];omega
      have i6:C zv.cells.toList=ii.size:=by simp only[Bt];exact h3
      obtain⟨hd,hg⟩:=LS (Y:=Y) (X:=fun b=>X0 b\/XS s a.tmps b) (w:=w) i5 len z h5 (by rw[h4,i6]);have f9:(sizeOf e).run P w = .ok ii.size w:=by simp[sizeOf,typeInfo,program,Cn,b5]
      have i7:(zeroValue e).run P w = .ok zv w:=by simp[zeroValue,typeInfo,program,Cn,b5,f4]
      have i9:CF Y (fun b=>X0 b\/XS s a.tmps b) w ((ES (len*ii.size)).map fun j=>zv.cells[j % zv.cells.size]!) z:=by
       refine⟨hd,by simp[h4],fun i J g2 => ?_⟩;obtain⟨u,j0,j1⟩:=hg i g2;have E:zv.cells[i % zv.cells.size]! = u:=by
        have:zv.cells[i % zv.cells.size]? = some u:=by simpa using j0
        simp[getElem!_def,this]
       simp only[M6,SS,E];exact j1
      obtain⟨a6,E,O⟩:=Nl h (place:=fun i=>some (i*ii.size,ii.size)) (fun i off n hi=>by
       simp only[U,AW] at hi;rw[hi.1,hi.2]) hp i9 d6
      have c6:Dp (fun i=>some (i*ii.size,ii.size)) ((ES (len*ii.size)).map fun j=>zv.cells[j % zv.cells.size]!) (c8.map fun p=>(p.1,a.eval p.2)).toList=some a6:=by rw[CW];exact E
      have e3:len*ii.size=0->(ES (len*ii.size)).map (fun j=>(#[]:Array Value)[j % (#[]:Array Value).size]!)=(ES (len*ii.size)).map fun j=>zv.cells[j % zv.cells.size]! := fun hh=>by rw[hh];simp
      have g0:¬ len*ii.size>2^24:=by omega
      simp only[BH,U] at D;obtain⟨d,L⟩:=A5.1 D.2;have V:(execOp a.eval o).run P w = .ok (.value (.slice (some ⟨w.heap.size,0,none⟩) len len)) (w.alloc (.cells a6 e)):=by
       by_cases e8:len*ii.size=0
       ·simp only[execOp,I,GR,Am,run_underlying hu,Aa,f9,g0,if_false,Af e8,Ap,e3 e8,c6,newRow,run_newObj_alloc]
       ·simp only[execOp,I,GR,Am,run_underlying hu,Aa,f9,g0,if_false,e8,Ap,i7,c6,newRow,run_newObj_alloc]
      simp only[Cw,V,BY];refine H _ _ ?_;rw[L];refine UD h (fun u hu=>Aq M D.1 d L u hu) O ?_;rw[P1 d6,h4,n2]
     ·cases h3
    ·cases A
   ·cases A
  ·cases A
 case apd ow x y k B =>
  simp only[C9] at A;split at A
  ·rename_i args ts I;unfold aU at A;split at A
   ·rename_i N y' t t' d9 g9;simp only[U] at A;obtain⟨⟨⟨⟨h1,h2⟩,h3⟩,h4⟩,h5⟩:=A;have E:args=#[N,y']:=by rw[<- Dt (xs:=args),d9]
    have O:ts=#[t,t']:=by rw[<- Dt (xs:=ts),g9]
    subst E O;simp only[BH,U] at D;obtain⟨d,L⟩:=A5.1 D.2;have f2:∀ u,(u,d)∈roots->BC (Ag s u)=false:=fun u hu=>Aq M D.1 d L u hu;have a5:∀ {v:Value} {w':World},(AT #[t,t'] o.type #[a.eval N,a.eval y']).run P w = .ok v w'->(execOp a.eval o).run P w = .ok (.value v) w':=by
     intro v w' hh;simp[execOp,I,resolve,invoke,builtin,hh]
    simp only[A2] at q;split at q
    ·-- o8 to append
     rename_i W;have b9:=B2 h h2 W;generalize a9:a.eval y'=yv at b9 a5;cases b9;split at q
     ·rename_i a1;cases q;have h6:=B2 h h1 (aZ a1);generalize a2:a.eval N=xv at h6 a5;cases h6;have hr:=a5 (append_nil (P:=P) (w:=w) (ty:=o.type) h3 h4);exact AB hr (H _ _ (h.put (Aq M D.1) .nil))
     ·rename_i k' n cs a1;obtain⟨nx,rfl⟩:=iS a1;simp only[Opd.reg] at a1;split at q
      ·rename_i j8;subst j8;cases q;rcases h.ownLow a1 with ⟨E,rfl,rfl⟩ | ⟨b,cap,E,O,e3,e4,e5,e6,g8⟩
       ·have a2:a.eval N = .slice none 0 0:=by rw[BI h1,E]
        rw[a2] at a5;have hr:=a5 (append_nil (P:=P) (w:=w) (ty:=o.type) h3 h4);refine AB hr (H _ _ ?_);rw[L];exact Ik (ks:=[nx]) h (fun u hu => .inr (f2 u hu))
       have a2:a.eval N = .slice (some ⟨b,0,none⟩) n cap:=by rw[BI h1,E]
       rw[a2] at a5;have hr:=a5 (LQ (P:=P) (w:=w) (ty:=o.type) h3 h4 O);refine AB hr (H _ _ ?_);rw[L];refine Rel.shift h a1 (b:=b) (by rw[E];rfl) f2 rfl rfl rfl rfl (fun _ _=>rfl) (fun _=>rfl) (fun X J g2 => ?_);exact OE (.inr ⟨b,cap,rfl,O,e3,e4,e5.mono fun c hc => .inl (J c hc),e6⟩) (fun G=>by subst G;exact fun c hc=>by cases hc;exact g2 rfl) h.lowY
      ·cases q
     ·cases q
    ·rename_i m ys W;have b9:=aW (B2 h h2 W);split at q
     ·rename_i f6;have k6:a.eval N = .slice none 0 0->m<=B->∀ ks:List Nat,(∀ a' w',Rel Y X0 roots w0 (BD (AE s (ks.map fun u=>(u,Reg.dead))) (some d) (if ow then .own k m ys else .val (.sl m ys))) a' w'->K' a' w')->o.wp P a w K' Q:=by
       intro a2 k7 ks c0;rw[a2] at a5;rcases Ic m with hm | hm
       ·subst hm;have j9:ys=[]:=A_ (by simpa using f6);subst j9;have hr:(execOp a.eval o).run P w = .ok (.value (.slice none 0 0)) w:=by
         rcases b9 with ⟨_,_,a9 | ⟨p,c,a9⟩⟩ | ⟨b,off,cap,a9,_⟩
         ·rw[a9] at a5;exact a5 (append_nil (P:=P) (w:=w) (ty:=o.type) h3 h4)
         ·rw[a9] at a5;exact a5 (G2 (P:=P) (w:=w) (ty:=o.type) h3 h4)
         ·rw[a9] at a5;exact a5 (G2 (P:=P) (w:=w) (ty:=o.type) h3 h4)
        refine AB hr (c0 _ _ ?_);rw[L];exact Ik (ks:=ks) h (fun u hu => .inr (f2 u hu))
       ·obtain⟨v',w',V,k0,f1⟩:=HC (P:=P) (ty:=o.type) (n:=0) (cs:=[]) h3 h4 h5 (.inl ⟨rfl,rfl,rfl,hm⟩) (by simp) b9 hm f6 (by omega);have hr:=a5 V;simp only[Cw,hr,BY];refine c0 _ _ ?_;rw[L];simp only[AJ,C'] at f1;exact Ij (ks:=ks) h k0 (fun u hu => .inr (f2 u hu)) f1
      split at q
      ·rename_i a1;have h6:=B2 h h1 (aZ a1);generalize a2:a.eval N=xv at h6;cases h6;split at q
       ·rename_i k7;cases q;rw[L] at H;exact k6 a2 k7 [] H
       ·cases q
      ·rename_i k' n cs a1;obtain⟨nx,rfl⟩:=iS a1;simp only[Opd.reg] at a1;split at q
       ·rename_i j8;obtain⟨rfl,c7⟩:=j8;cases q;rcases h.ownLow a1 with ⟨E,rfl,rfl⟩ | ⟨b,cap,E,O,e3,e4,e5,e6,g8⟩
        ·rw[L] at H;simp only[AJ,C'] at H;exact k6 (by rw[BI h1,E]) (by omega) [nx] H
        have a2:a.eval N = .slice (some ⟨b,0,none⟩) n cap:=by rw[BI h1,E]
        rw[a2] at a5;by_cases k8:m=0
        ·subst k8;have j9:ys=[]:=A_ (by simpa using f6);subst j9;have hr:(execOp a.eval o).run P w = .ok (.value (.slice (some ⟨b,0,none⟩) n cap)) w:=by
          rcases b9 with ⟨_,_,a9 | ⟨p,c,a9⟩⟩ | ⟨b',o9,p0,a9,_⟩
          ·rw[a9] at a5;exact a5 (LQ (P:=P) (w:=w) (ty:=o.type) h3 h4 O)
          ·rw[a9] at a5;exact a5 (Ix (P:=P) (w:=w) (ty:=o.type) h3 h4 O)
          ·rw[a9] at a5;exact a5 (Ix (P:=P) (w:=w) (ty:=o.type) h3 h4 O)
         refine AB hr (H _ _ ?_);rw[L];refine Rel.shift h a1 (b:=b) (by rw[E];rfl) f2 rfl rfl rfl rfl (fun _ _=>rfl) (fun _=>rfl) (fun X J g2 => ?_);simp only[Bn,UF] at g2 |-;exact OE (.inr ⟨b,cap,rfl,O,e3,e4,e5.mono fun c hc => .inl (J c hc),e6⟩) (fun G=>by subst G;exact fun c hc=>by cases hc;exact g2 rfl) h.lowY
        by_cases k9:n+m<=cap
        ·obtain⟨w',V,J,g2,g3,g4,g5,g6,g7⟩:=Qy (P:=P) (ty:=o.type) h3 h4 k9 (Y:=Y) (X:=fun b=>X0 b\/XS s a.tmps b) (.inr g8) e5 e6 e3 b9 k8 f6;have hr:=a5 V;simp only[Cw,hr,BY];refine H _ _ ?_;rw[L];refine Rel.shift h a1 (b:=b) (by rw[E];rfl) f2 J g2 g3 g4 g5 (fun _=>rfl) (fun X q1 q2 => ?_);exact OE (.inr ⟨b,cap,rfl,k9,by rw[Ac,e3,f6,Ek],e4,g6.mono fun c hc => .inl (q1 c hc),g7⟩) (fun G=>by subst G;exact fun c hc=>by cases hc;exact q2 rfl) h.lowY
        ·obtain⟨v',w',V,k0,f1⟩:=HC (P:=P) (ty:=o.type) h3 h4 h5 (.inr ⟨b,cap,rfl,by omega,e5.mem⟩) e3 b9 (by omega) f6 c7;have hr:=a5 V;simp only[Cw,hr,BY];refine H _ _ ?_;rw[L];exact Ij (ks:=[nx]) h k0 (fun u hu => .inr (f2 u hu)) f1
       ·cases q
      ·cases q
     ·cases q
    ·cases q
   ·cases A
  ·cases A
 case sli x lo hi mx k =>
  simp only[C9] at A;split at A
  ·rename_i t N n3 f5 n4 I;simp only[U] at A;obtain⟨⟨⟨⟨h1,h2⟩,h3⟩,h4⟩,h5⟩:=A;have a5:∀ {v:Value},(ED t (a.eval N) (n3.map a.eval) (f5.map a.eval) (n4.map a.eval)).run P w = .ok v w->(execOp a.eval o).run P w = .ok (.value v) w:=by
    intro v hh;simp only[execOp,I,Am,hh,Aa,Ap]
   simp only[A2] at q;split at q
   ·rename_i R;have a1:=B2 h h1 R;generalize a2:a.eval N=xv at a1 a5;cases a1;split at q
    ·rename_i b1 b2 b3;split at q
     ·rename_i c4;cases q;have hb:=FD (P:=P) (w:=w) (len:=0) (cap:=0) (m:=0) (h:=0) (l:=0) (Arv h h4 b1 rfl (Ar _)) (Ahb h h3 h4 b2 c4 (fun _=>Ar _) (fun _=>Ar _)) (xD h h2 b3 (Ar _));have hr:=a5 (LR h5 hb);exact AB hr (H _ _ (h.put (Aq M D) .nil))
     ·cases q
    ·cases q
   ·rename_i n cs R;have a1:=B2 h h1 R;split at q
    ·rename_i m hh l b1 b2 b3;split at q
     ·rename_i hc;cases q;obtain⟨c1,c2,c3,c4⟩:=hc;obtain⟨ad,cap,hv,p1,l0,n5⟩:=Abg (k:=k) (m:=if mx.isSome then m else Aha (a.eval N)) a1 c1 (by omega);rw[hv] at a5 l0;have hb:=FD (P:=P) (w:=w) (len:=n) (cap:=cap) (m:=if mx.isSome then m else cap) (h:=hh) (l:=l) (Ayd h h4 b1 (by omega)) (Ahb h h3 h4 b2 c4 (fun hs=>by rw[Af hs];exact c2) (fun hs=>by rw[Ak hs];omega)) (xD h h2 b3 c1);have hr:=a5 (LR h5 hb);refine AB hr (H _ _ (h.put (Aq M D) (l0 ?_ (fun hn => ?_))))
      ·simp only[Aha];split
       ·exact c2
       ·omega
      ·have h0:=n5 hn;simp only[Aha];split
       ·omega
       ·exact h0
     ·cases q
    ·cases q
   ·cases q
  ·cases A
 case nlo k =>
  simp only[C9] at A;simp only[A2] at q;cases q;simp only[BH,U] at D;obtain⟨d,L⟩:=A5.1 D.2;have hr:(execOp a.eval o).run P w = .ok (.value (.slice none 0 0)) w:=by
   split at A
   ·rename_i I;simp[execOp,I,If]
   ·rename_i I;simp[execOp,I,If]
   ·cases A
  refine AB hr (H _ _ ?_);rw[L];exact Ik (ow:=true) (ks:=[]) h (fun u hu => .inr (Aq M D.1 d L u hu))
 case bdo y x ls =>
  simp only[C9] at A;split at A
  ·rename_i t c8 I;obtain⟨a',N,n6,h1,h2,V⟩:=Abe A;simp only[BH,U] at D;obtain⟨d,L⟩:=A5.1 D.2;simp only[A2] at q;split at q
   ·rename_i b hb;split at q
    ·rename_i k n cs hr;split at q
     case isFalse=>cases q
     rename_i k1;cases q;have f3:∀ t∈h8++ls,BC (Ag s t)=false:=Td M k1;have h7:=B2 h h1 hb;generalize i2:a.eval a'=bv at h7;cases h7;have a3:=BI (a:=a) h2;have h0:=h.reg x;rw[hr] at h0;have hcell:(a.tmps.getD x A0).cells=#[a.tmps.getD x A0]:=by
      rcases h0 with ⟨e,_⟩ | ⟨_,_,e,_⟩ <;> rw[e] <;> rfl
     have n7:(c8.map fun p=>(p.1,a.eval p.2))=#[(0,.bool b),(1,a.tmps.getD x A0)]:=by
      apply Abi.1;rw[CW,n6];simp[i2,a3]
     refine AB (v := .agg #[.bool b,a.tmps.getD x A0]) ?_ (H _ _ ?_)
     ·simp only[execOp,I,Am];rw[show (c8.map fun x:Nat × Operand=>match x with | (i,x)=>(i,a.eval x))=(c8.map fun p=>(p.1,a.eval p.2)) from rfl,n7,V b _ hcell w]
      rfl
     ·rw[L];exact h.pass (by rw[hr];rfl) (Er (.st b) h0) (fun u hu=>Aq f3 D.1 d L u hu) (fun X J=>⟨_,rfl,Ez.mono h0 fun c hc => .inl (J c hc)⟩)
    ·cases q
   ·cases q
  ·cases A
 case stl x v =>
  simp only[C9] at A;split at A
  ·rename_i t N v' I;simp only[U] at A;obtain⟨⟨h1,h2⟩,h3⟩:=A;simp only[BH,U,I9,Em,Dm] at D;obtain⟨L,n8⟩:=D;simp only[A2] at q;split at q
   ·rename_i cs hr;split at q
    ·rename_i bb k n ds n9;split at q
     ·rename_i d6;cases q;have a3:=BI (a:=a) h1;have o2:=BI (a:=a) h3;have h0:=h.reg x;rw[hr] at h0;obtain⟨b,E,hB,hd,vs,T,O,e3,_⟩:=h0;have h5:=h.reg v;rw[n9] at h5;obtain⟨u,hu,h5⟩:=h5;have hcell:u.oneCell'=true:=by
       rcases h5 with ⟨e,_⟩ | ⟨_,_,e,_⟩ <;> rw[e] <;> rfl
      have b0:=FC h2;have o3:=run_storeCells_at (P:=P) b 0 T [.bool bb,u] 0 vs w O (by simp;omega) (by
       intro y W;simp only[Aw,AD,or_false] at W;rcases W with rfl | rfl
       ·rfl
       ·exact hcell)
      have d1:(execOp a.eval o).run P w = .ok .skip (w.setRow b (vs.toList.take (0+0)++[.bool bb,u]++vs.toList.drop (0+0+C [TZ bb,u])).toArray):=by
       have j7:(Value.agg #[.bool bb,u]).cells=#[.bool bb,u]:=rfl;simp only[execOp,I,Ib,a3,E,o2,hu,iP,Cl,Am,Ap,Aa,storeVar,b0,j7];simp only[Cr,BF,Ev,ne_eq,not_true_eq_false,if_false];rw[o3];rfl
      simp only[Cw,d1,BY];rw[L] at H |-;refine H _ _ (Rel.store (w':=w.setRow b _) h hr rfl rfl (by rw[E];rfl) hB rfl rfl rfl (DX _ _ _) (fun c hc=>Dy _ _ _ _ hc) (fun X hX => ?_));have e9:b<w.heap.size:=(A8.1 O).1;refine⟨n8,b,E,hB,by rw[DX];exact e9,fun i hi => ?_⟩;rw[HD (setRow_heap w b vs _ T (0,0) O),hu];match i,hi with
      | 0,_=>rfl
      | 1,_=>rfl
     ·cases q
    ·cases q
   ·cases q
  ·cases A
 case cln f xs ls =>
  simp only[C9] at A;split at A
  ·rename_i f' args ts I;simp only[U,AW] at A;obtain⟨⟨rfl,h1⟩,h2⟩:=A;simp only[A2] at q;split at q
   ·rename_i vs R;split at q
    case isFalse=>cases q
    rename_i k1;have f3:∀ t∈h8++ls,BC (Ag s t)=false:=Td M k1;simp only[S] at q;obtain⟨y,W,G⟩:=q;cases G;obtain⟨E,O⟩:=H9 h h1 R;unfold Jj at h2;split at h2
    ·rename_i fn d3;simp only[U,BJ] at h2;obtain⟨c5,d4⟩:=h2;have d5:¬ fn.body=none:=by intro e0;rw[e0] at c5;cases c5
     have c7:¬ fn.name = "runtime.NumGoroutine" := by simpa using d4
     have V:(execOp a.eval o).run P w = .ok (.enter f' (args.map a.eval)) w:=by
      simp[execOp,I,resolve,D_,If,invoke,callFunc,program,Cn,d3,c7,d5]
     have f0:=hF.plain f' vs y W Y (fun b=>X0 b\/XS s a.tmps b) w (args.map a.eval) h.lowX h.lowYw (by simpa using E) (fun i J g2=>by
      have:=O i (by simpa using J) g2;simpa using this)
     simp only[Cw,V,BY];refine f0.mono fun e w' ⟨v,G,hb,hr⟩ => ?_;subst G;refine H _ _ ?_;simp only[BH,U] at D;obtain⟨d,L⟩:=A5.1 D.2;rw[L];cases y
     case fresh k n cs =>
      simp only[Ee] at hr;refine BK (ks:=[]) h hb (fun u hu => .inr (Aq f3 D.1 d L u hu)) (fun _ b hb=>(Ez.block hr hb).1) (fun X J _ => ?_);exact J0 h.below.from_ hr J
     case frs bb k n cs =>
      simp only[Ee] at hr;refine BK (ks:=[]) h hb (fun u hu => .inr (Aq f3 D.1 d L u hu)) (fun _ b hb=>(IS.block hr hb).1) (fun X J _ => ?_);obtain⟨u,rfl,hr⟩:=hr;rw[Er _ hr] at J;refine⟨u,rfl,J0 h.below.from_ ?_ J⟩;rw[Er _ hr] at hr;exact hr
     case gb =>
      simp only[Ee] at hr;obtain⟨b',rfl,q2,q3⟩:=hr;refine BK (ks:=[]) h hb (fun u hu => .inr (Aq f3 D.1 d L u hu)) (fun _ b hb=>by simp only[At,CN,Al,Ab] at hb;exact hb ▸ q2) (fun X J _ => ?_);exact⟨b',rfl,h.below.from_ _ q2,q3.mono fun c hc => .inl ((J c hc).imp id Agn)⟩
     case io =>
      simp only[Ee] at hr;refine BK (ks:=[]) h hb (fun u hu => .inr (Aq f3 D.1 d L u hu)) (fun G=>(by cases G)) (fun X _ g2 => ?_);exact Rd.io _ _ _ (hr.mono fun b hb => .inl (g2 rfl b hb))
     all_goals
      refine BK (ks:=[]) h hb (fun u hu => .inr (Aq f3 D.1 d L u hu)) (fun G=>(by cases G)) (fun X _ g2 => ?_);exact Rd.mono hr fun b hb => .inl (g2 rfl b hb)
    ·cases h2
   ·cases q
  ·cases A
 case fdo x =>
  simp only[C9] at A;split at A
  ·rename_i t N I;simp only[U] at A;obtain⟨h1,h2⟩:=A;simp only[BH,U] at D;obtain⟨d,L⟩:=A5.1 D.2;simp only[A2] at q;split at q
   ·rename_i b k n cs hr;cases q;have a3:=BI (a:=a) h1;have h0:=h.reg x;rw[hr] at h0;obtain⟨u,hu,h0⟩:=h0;refine AB (v:=u) ?_ (H _ _ ?_)
    ·simp only[execOp,I,Am,a3,hu,iP,Abf h2 b u w];rfl
    ·rw[L];exact h.pass (by rw[hr];rfl) (by rw[hu];exact (Er (.st b) h0).symm) (fun u hu=>Aq M D.1 d L u hu) (fun X J=>Ez.mono h0 fun c hc => .inl (J c hc))
   ·cases q
  ·cases A
 case exo x =>
  simp only[C9] at A;split at A
  ·rename_i N I;simp only[BH,U] at D;obtain⟨d,L⟩:=A5.1 D.2;simp only[A2] at q;split at q
   ·rename_i b k n cs hr;cases q;have a3:=BI (a:=a) A;have h0:=h.reg x;rw[hr] at h0;obtain⟨u,hu,h0⟩:=h0;have b7:∀ X,Rd Y X w u (.sl n []):=by
     intro X;rcases h0 with ⟨rfl,rfl,_⟩ | ⟨c,cap,rfl,i3,_⟩
     ·exact .nil0
     ·exact .sl c 0 n cap [] (fun _=>A0) (by intro y W;cases W) i3 (fun c9=>absurd rfl c9) (fun ⟨y,W,_⟩=>by cases W) (fun i hi=>by simp at hi) (fun i hi=>by simp at hi)
    refine AB (v:=u) ?_ (H _ _ ?_)
    ·simp only[execOp,I,qT,a3,hu,iP,Am,Ap];rfl
    ·rw[L];have hp:=h.pass (r := .own k n cs) (v:=u) (by rw[hr];rfl) (by rw[hu];exact (Er (.tp b) h0).symm) (fun u hu=>Aq M D.1 d L u hu) (fun X J=>Ez.mono h0 fun c hc => .inl (J c hc));by_cases b6:x=d
     ·subst b6;simp only[BD,AE,E9] at hp |-;exact hp
     ·simp only[BD,AE] at hp |-;have E:((s.set x (.val (.tup [.sl n [],.bool b]))).set d (.own k n cs))=(((s.set x .dead).set d (.own k n cs)).set x (.val (.tup [.sl n [],.bool b]))):=by
       rw[qZ (i:=x) (j:=d) _ _ b6,qZ (i:=x) (j:=d) _ _ b6,E9]
      rw[E];refine hp.wake ?_ ?_
      ·rw[Ci,Ak (fun g=>b6 g.1.symm),Ci];split
       ·rfl
       ·rename_i g;simp only[true_and,Agz] at g;simp only[Ag,Z,AS g];rfl
      ·have O:(a.put (some d) u).tmps.getD x A0 = .tuple #[u,.bool b]:=by
        show (a.tmps.setIfInBounds d u).getD x A0=_;rw[Ii,Ak (fun g=>b6 g.1.symm)];exact hu
       rw[O];refine Rd.tup #[u,.bool b] [.sl n [],.bool b] rfl fun i h1 h2 => ?_;match i,h2 with
       | 0,_=>exact b7 _
       | 1,_=>exact Rd.bool b
   ·cases q
  ·cases A
 case slo x hi k =>
  simp only[C9] at A;split at A
  ·rename_i t N f5 I;simp only[U] at A;obtain⟨⟨h1,h2⟩,h5⟩:=A;simp only[BH,U] at D;obtain⟨d,L⟩:=A5.1 D.2;simp only[A2] at q;split at q
   ·rename_i ki iv d8;split at q
    ·rename_i k' n cs hr;split at q
     ·rename_i hc;obtain⟨rfl,c1,c2⟩:=hc;cases q;have h7:=B2 h h2 d8;generalize i2:a.eval f5=bv at h7;cases h7;have a3:=BI (a:=a) h1;have h0:=h.reg x;rw[hr] at h0;have i3:iv.toNat<=n:=by omega
      rcases h0 with ⟨e,rfl,rfl⟩ | ⟨b,cap,e,O,e3,e4,e5,e6⟩
      ·have hb:=FD (P:=P) (w:=w) (len:=0) (cap:=0) (m:=0) (h:=iv.toNat) (l:=0) (lo:=none) (hi:=some (.int ki iv)) (mx:=none) (.inl ⟨rfl,rfl⟩) (.inr ⟨ki,iv,rfl,c1,rfl,i3⟩) (.inl ⟨rfl,rfl⟩);have hz:iv.toNat=0:=by omega
       refine AB (v := .slice none 0 0) ?_ (H _ _ ?_)
       ·simp only[execOp,I,Am,a3,e,Kg,Al,i2,LR h5 hb,hz];rfl
       ·rw[L,hz];simpa using Ik (ow:=true) (ks:=[x]) h (fun u hu => .inr (Aq M D.1 d L u hu))
      ·have hb:=FD (P:=P) (w:=w) (len:=n) (cap:=cap) (m:=cap) (h:=iv.toNat) (l:=0) (lo:=none) (hi:=some (.int ki iv)) (mx:=none) (.inl ⟨rfl,rfl⟩) (.inr ⟨ki,iv,rfl,c1,rfl,by omega⟩) (.inl ⟨rfl,rfl⟩);refine AB (v := .slice (some ⟨b,0,none⟩) iv.toNat cap) ?_ (H _ _ ?_)
       ·simp only[execOp,I,Am,a3,e,Kg,Al,i2,LR h5 hb,Agh,Tc,Dk,ite_self];rfl
       ·rw[L];refine h.pass (by rw[hr];rfl) (by rw[e];rfl) (fun u hu=>Aq M D.1 d L u hu) (fun X J => .inr ⟨b,cap,rfl,by omega,?_,e4,?_,e6⟩)
        ·rw[EE,e3,Nat.min_eq_left (Hf _ i3)]
        ·obtain⟨q1,vs,T,q2,q3,q4⟩:=e5.mono (X':=X) fun c hc => .inl (J c hc);refine⟨fun y W=>q1 y (B8 W),vs,T,q2,?_,fun i hi => ?_⟩
         ·have:C (cs.take (iv.toNat*k'))<=C cs:=by rw[EE];exact Nat.min_le_right _ _
          omega
         ·obtain⟨v,r1,r2⟩:=q4 i (by simp at hi;omega);exact⟨v,r1,by simpa using r2⟩
     ·cases q
    ·cases q
   ·cases q
  ·cases A
 case cao f k x xs =>
  simp only[C9] at A;split at A
  ·rename_i f' args ts I;simp only[U,AW] at A;obtain⟨⟨rfl,h1⟩,h2⟩:=A;simp only[BH,U] at D;obtain⟨d,L⟩:=A5.1 D.2;obtain⟨args⟩:=args;cases args with
   | nil=>cases h1
   | cons o1 d2 =>
    simp only[EN,U] at h1;unfold Jj at h2;split at h2
    ·rename_i fn d3;simp only[U,BJ] at h2;obtain⟨c5,d4⟩:=h2;have d5:¬ fn.body=none:=by intro e0;rw[e0] at c5;cases c5
     have c7:¬ fn.name = "runtime.NumGoroutine" := by simpa using d4
     have V:(execOp a.eval o).run P w = .ok (.enter f' ((o1::d2).map a.eval).toArray) w:=by
      simp[execOp,I,resolve,D_,If,invoke,callFunc,program,Cn,d3,c7,d5]
     simp only[A2] at q;split at q
     ·rename_i vs R;obtain⟨E,O⟩:=H9 h h1.2 R;split at q
      ·rename_i m;split at q
       case h_2=>cases q
       rename_i k' n cs l1;simp only[S] at q;obtain⟨y,W,G⟩:=q;cases G;have ho:=BI (a:=a) h1.1;have h0:=h.reg m;rw[l1] at h0;simp only[Cw,V,BY];refine (UE h hF W (ks:=[m]) E O (by rw[ho];exact h0) (fun b hb=>⟨m,by simp,by rw[l1];rfl,by rw[<- ho];exact hb⟩) (fun u hu => .inr (Aq M D.1 d L u hu))).mono fun e w' ⟨v,G,hr⟩ => ?_;subst G;refine H _ _ ?_;rw[L];exact hr
      ·simp only[S] at q;obtain⟨y,W,G⟩:=q;cases G;have l2:a.eval o1 = .slice none 0 0:=by
        have h0:=h1.1;cases o1 with
        | const v=>exact rL h0
        | tmp m=>cases h0
        | global g=>cases h0
        | func f=>cases h0
       simp only[Cw,V,BY];refine (UE h hF W (ks:=[]) E O (by rw[l2];exact .inl ⟨rfl,rfl,rfl⟩) (fun b hb=>by rw[l2] at hb;cases hb) (fun u hu => .inr (Aq M D.1 d L u hu))).mono fun e w' ⟨v,G,hr⟩ => ?_;subst G;refine H _ _ ?_;rw[L];exact hr
      ·cases q
     ·cases q
    ·cases h2
  ·cases A
 case ixo x d i k =>
  simp only[C9] at A;split at A
  ·rename_i t N i' I;simp only[U] at A;obtain⟨⟨h1,h2⟩,A⟩:=A;obtain⟨e,ii,zv,hu,b5,hs,p2,_,_,_⟩:=DY A;have b0:(sizeOf e).run P w = .ok k w:=by simp[sizeOf,typeInfo,program,Cn,b5,hs]
   simp only[BH,U] at D;simp only[A2] at q;split at q
   ·rename_i ki iv hi;have d7:=B2 h h2 hi;generalize d8:a.eval i'=ivv at d7;cases d7;have a3:=BI (a:=a) h1;have h0:=h.reg x;split at q
    ·rename_i n cs hr;rw[hr] at h0;split at q
     ·rename_i hb;cases q;rw[<- a3] at h0;generalize a2:a.eval N=xv at h0;cases h0 with
      | nil0=>exact absurd hb (by omega)
      | e0 _ _=>exact absurd hb (by omega)
      | sl b off _ cap _ f hd hn hX hY hcell j2 =>
       have j3:F8 Y (fun b=>X0 b\/XS s a.tmps b) w b off cs:=⟨hd,fun j hj=>⟨f j,hcell j hj,j2 j hj⟩⟩;refine AB (v := .pointer (some ⟨b,off+iv.toNat*k,none⟩)) ?_ (H _ _ ?_)
       ·simp only[execOp,I,RJ,Am,d8,asIntOf,Ap,Aa,run_underlying hu,a2,hb,and_self,if_true,b0,Dk]
       ·refine Kl h (Aq M D.1) (fun c9=>hX (fun hn=>c9 (by rw[hn];simp))) (j3.drop _)
     ·cases q
    ·rename_i d' hr;split at q
     ·rename_i hd;subst hd;split at q
      ·rename_i k' n cs a4;split at q
       ·rename_i hb;obtain⟨rfl,hb⟩:=hb;cases q;rw[hr] at h0;obtain⟨b,cap,E,_⟩:=(h.ownLow a4).resolve_left (fun hh=>by omega);have a2:a.eval N = .slice (some ⟨b,0,none⟩) n cap:=by rw[a3,h0.2,E]
        refine AB (v := .pointer (some ⟨b,0+iv.toNat*k',none⟩)) ?_ (H _ _ ?_)
        ·simp only[execOp,I,RJ,Am,d8,asIntOf,Ap,Aa,run_underlying hu,a2,hb,and_self,if_true,b0,Dk]
        ·exact F4 (p:=⟨b,0,none⟩) h (Aq M D.1) (Ef D.2) (by rw[E];rfl) rfl
       ·cases q
      ·cases q
     ·cases q
    ·cases q
   ·cases q
  ·cases A
 case lno x d =>
  simp only[C9] at A;split at A
  ·rename_i args ts I;unfold aT at A;split at A
   ·rename_i N t d9 g9;simp only[U] at A;obtain⟨h1,h2⟩:=A;have E:args=#[N]:=by rw[<- Dt (xs:=args),d9]
    have O:ts=#[t]:=by rw[<- Dt (xs:=ts),g9]
    subst E O;split at h2
    ·rename_i e hu;simp only[A2] at q;have b4:∀ (d0:Option Addr) (n c:Nat),a.eval N = .slice d0 n c->(∀ a' w',Rel Y X0 roots w0 (BD s o.dst (.val (.int .i64 n))) a' w'->K' a' w')->o.wp P a w K' Q:=by
      intro d0 n c G c0;refine AB (v := .int .i64 n) ?_ (c0 _ _ (h.put (Aq M D) (.int _ _)));simp[execOp,I,resolve,invoke,builtin,Gy,G,run_underlying hu,goInt]
     have a3:=BI (a:=a) h1;have h0:=h.reg x;split at q
     ·rename_i hr;cases q;rw[hr,<- a3] at h0;generalize a2:a.eval N=xv at h0;cases h0;exact b4 _ _ _ a2 H
     ·rename_i n cs hr;cases q;rw[hr,<- a3] at h0;generalize a2:a.eval N=xv at h0;cases h0 <;> exact b4 _ _ _ a2 H
     ·rename_i d' hr;split at q
      ·rename_i hd;subst hd;split at q
       ·rename_i k n cs a4;cases q;rw[hr] at h0;rcases h.ownLow a4 with ⟨E,rfl,_⟩ | ⟨b,cap,E,_⟩
        ·exact b4 _ _ _ (by rw[a3,h0.2,E]) H
        ·exact b4 _ _ _ (by rw[a3,h0.2,E]) H
       ·cases q
      ·cases q
     ·cases q
    ·cases h2
   ·cases A
  ·cases A
end
def UJ(ops:Array Oper):Option (Nat × Bool)->Option (Nat × Bool)->Bool
 | none,none=>true
 | some (j,b),some (t,b')=>(ops[j]?).bind (·.dst)==some t&&b==b'
 | _,_=>false
def xF(roots:List (Nat × Nat))(io:IOp):Bool:=io.g.isNone || Db roots io.ks io.dst
def oOk(P:Program)(roots:List (Nat × Nat))(ops:Array Oper)(o:Oper)(io:IOp):Bool :=
 C9 P o.op io.k&&o.dst==io.dst&&BH roots io.ks io.dst io.k&&UJ ops o.guard io.g&&xF roots io
section
variable {P:Program} {Y X0:Nat->Prop} {roots:List (Nat × Nat)} {w0:Base} {w:World} {s:V} {a:Act} {Q:Exit->Act->World->Prop}
theorem Zx(h:Rel Y X0 roots w0 s a w){ops:Array Oper}{o:Oper}{g:Option (Nat × Bool)}{b:Bool}(f:UJ ops o.guard g=true)(d:Eb s g=some b):Iv o (yielded ops a.tmps)=b:=by
 unfold UJ at f;split at f
 next h1=>simp only[Eb,Ab] at d;subst d;simp[Iv,h1]
 ·rename_i j k t n h1;simp only[U,AW] at f;obtain⟨h2,rfl⟩:=f;have h0:=h.reg t;simp only[Eb] at d;simp only[Iv,h1,yielded,h2,Axy];have l:∀ v,a.tmps.getD t A0=v->v ≠ A0->a.tmps[t]? = some v:=by
   intro v e m;rw[Av] at e;cases i:a.tmps[t]? with
   | none=>rw[i] at e;exact absurd e.symm m
   | some u=>rw[i] at e;simp at e;rw[e]
  cases hr:Ag s t with
  | val x =>
   rw[hr] at d h0;generalize e:a.tmps.getD t A0=v at h0;cases h0 with
   | bool c =>
    dsimp only at d;rw[l _ e (by nofun)];simp only[Ab] at d;rw[<- d];cases c <;> cases k <;> rfl
   | undef =>
    dsimp only at d;simp only[Ab] at d;rw[<- d];rw[Av] at e;cases i:a.tmps[t]? with
    | none=>simp
    | some u=>rw[i] at e;simp at e;rw[e];simp[A0]
   | int _ _=>cases d
   | str _=>cases d
   | agg _ _ _ _ _=>cases d
   | tup _ _ _ _=>cases d
   | nil=>cases d
   | nil0=>cases d
   | e0 _ _=>cases d
   | sl _ _ _ _ _ _ _ _ _ _ _=>cases d
   | pt _ _ _ _ _ _ _ _=>cases d
   | fnc _ _ _ _=>cases d
   | io _ _ _ _=>cases d
  | box _=>rw[hr] at d;cases d
  | ptr _ _=>rw[hr] at d;cases d
  | mem _=>rw[hr] at d;cases d
  | own _ _ _=>rw[hr] at d;cases d
  | agn _ _ _ _=>rw[hr] at d;cases d
  | bxl _=>rw[hr] at d;cases d
  | dup _=>rw[hr] at d;cases d
  | sub _ _ _ _=>rw[hr] at d;cases d
  | bxh _ _=>rw[hr] at d;cases d
  | agh _ _=>rw[hr] at d;cases d
  | bxg _=>rw[hr] at d;cases d
  | dead=>rw[hr] at d;cases d
 ·cases f
theorem Ahw{ops:Array Oper}{i:Nat}{o:Oper}{io:IOp}{F:Bf}{s':V}{f:Act->World->Prop}(h:Rel Y X0 roots w0 s a w)(q:G1 P F)(hi:ops[i]? = some o)(ho:oOk P roots ops o io=true)
  (b:Dz F io s=some s') (e:∀ a' w',Rel Y X0 roots w0 s' a' w'->f a' w'):wpOp P ops Q i f a w:=by
 simp only[oOk,U,AW] at ho;obtain⟨⟨⟨⟨h1,h2⟩,j⟩,k⟩,c⟩:=ho;simp only[Dz,Gi] at b;have m:∀ t∈io.ks,BC (Ag (kill s io.ks) t)=false:=fun t u=>by rw[Dx,Af u];rfl
 have h:=h.kill io.ks;generalize kill s io.ks=s at *
 simp only[wpOp,hi];split at b
 ·cases b
 ·rename_i d;cases b;rw[Zx h k d];simp only[AC,if_false];rw[h2];refine e _ _ (h.put ?_ .undef);simp only[xF,C7] at c;rcases c with c | c
  ·cases n:io.g with
   | none=>rw[n] at d;cases d
   | some p=>rw[n] at c;cases c
  ·exact Aq m c
 ·rename_i d;rw[Zx h k d];simp only[if_true];split at b
  ·cases b
  next r l v=>cases b;rw[<- h2] at e j;exact .inl (simK h q h1 m j v e)
def LV(P:Program)(roots:List (Nat × Nat))(ops:Array Oper):List Oper->List IOp->Bool
 | [],[]=>true
 | o::l,io::m=>oOk P roots ops o io&&LV P roots ops l m
 | _,_=>false
theorem PM{ops:Array Oper}:∀ {l:List Oper} {m:List IOp},LV P roots ops l m=true->C l=C m/\∀ (i:Nat) (o:Oper) (io:IOp),l[i]? = some o->m[i]? = some io->oOk P roots ops o io=true
 | [],[],_=>⟨rfl,fun i o io h=>(by simp at h)⟩
 | o::l,io::m,h=>by
  simp only[LV,U] at h;obtain⟨a,b⟩:=PM h.2;refine⟨by simp[a],fun i o' c h1 h2 => ?_⟩;cases i with
  | zero=>simp at h1 h2;subst h1 h2;exact h.1
  | succ i=>simp at h1 h2;exact b i o' c h1 h2
 | [],_::_,h=>by cases h
 | _::_,[],h=>by cases h
theorem xG{ops:Array Oper}{F:Bf}(e:G1 P F):∀ {l:List Oper} {m:List IOp} {k:Nat} {s s':V} {a:Act} {w:World},(∀ j,l[j]? = ops[k+j]?)->LV P roots ops l m=true->Rel Y X0 roots w0 s a w ->
  Cx F m s=some s'->(∀ a' w',Rel Y X0 roots w0 s' a' w'->Q .normal a' w')->wpOps P ops Q (TH k (C l)) a w
 | [],[],k,s,s',a,w,_,_,h,b,d=>by
  simp only[Cx,Ab] at b;subst b;exact d _ _ h
 | o::l,io::m,k,s,s',a,w,hl,c,h,b,d=>by
  simp only[LV,U] at c;simp only[Cx] at b;cases h1:Dz F io s with
  | none=>rw[h1] at b;cases b
  | some g =>
   rw[h1] at b;have hi:ops[k]? = some o:=by simpa using (hl 0).symm
   rw[BF,List.range'_succ,wpOps_cons];exact Ahw h e hi c.1 h1 fun a' w' f=>xG e (fun j=>by have:=hl (j+1);simpa [Fs,S' 1 j] using this) c.2 f b d
 | [],_::_,_,_,_,_,_,_,c,_,_,_=>by cases c
 | _::_,[],_,_,_,_,_,_,c,_,_,_=>by cases c
def E1(o:Oper):List Nat:=(o.after.toList.filter (Region.binds .any)).map (·.on)
def Gl:List Oper->List (List Nat)->List (List Nat)
 | [],a=>a
 | o::l,a=>Gl l (a++[(E1 o++(E1 o).flatMap fun p=>a.getD p []).eraseDups])
theorem iW:∀ (l done:List Oper) (a:List (List Nat)),C a=C done ->
  (∀ (i j:Nat),j∈a.getD i []->∃ o,done[i]? = some o/\∃ p∈E1 o,j=p\/(p<i/\j∈a.getD p [])) ->
  ∀ (i j:Nat),j∈(Gl l a).getD i []->∃ o,(done++l)[i]? = some o/\∃ p∈E1 o,j=p\/(p<i/\j∈(Gl l a).getD p []):=by
 intro l;induction l with
 | nil=>intro done a _ h i j b;simpa [Gl] using h i j b
 | cons o l k =>
  intro done a f h i j b;simp only[Gl] at b |-;have:=k (done++[o]) (a++[(E1 o++(E1 o).flatMap fun p=>a.getD p []).eraseDups]) (by simp[f]) (fun i j b => ?_) i j b
  ·simpa using this
  ·have g:∀ (q x:Nat),x∈a.getD q []->q<C a:=by
    intro q x c;rcases C6 q (C a) with h1 | h1
    ·exact h1
    ·rw[Z,AS h1] at c;cases c
   have keep:∀ (q x:Nat),x∈a.getD q []->x∈(a++[(E1 o++(E1 o).flatMap fun p=>a.getD p []).eraseDups]).getD q []:=by
    intro q x c;rw[Z,AA (g q x c),<- Z];exact c
   rcases C6 i (C a) with h1 | h1
   ·rw[Z,AA h1,<- Z] at b;obtain⟨o',m,p,e,d⟩:=h i j b;refine⟨o',by rw[AA (by omega)];exact m,p,e,?_⟩;rcases d with d | ⟨d,n⟩
    ·exact .inl d
    ·exact .inr ⟨d,keep p j n⟩
   ·have hi:i=C a:=by
     rcases C6 (C a) i with h2 | h2
     ·rw[Z,AS (by simp;omega)] at b;cases b
     ·omega
    subst hi;rw[Z,AO (Ar _)] at b;simp only[Tg,Cb,EA,List.mem_eraseDups,AF,List.mem_flatMap] at b;refine⟨o,by rw[f,AO (Ar _)];simp,?_⟩;rcases b with b | ⟨p,e,b⟩
    ·exact⟨j,b,.inl rfl⟩
    ·exact⟨p,e,.inr ⟨g p j b,keep p j b⟩⟩
def iX(anc:List (List Nat))(io:List IOp):Bool :=
 io.zipIdx.all fun (b,i)=>(io.take i).zipIdx.all fun (a,j)=>PJ a b || (anc.getD i []).contains j
def OG(ops:List Oper):Bool:=ops.zipIdx.all fun (o,i)=>(E1 o).all fun p=>decide (p<i)
def Q1(ops:Array Oper)(io:List IOp):Bool:=OG ops.toList&&iX (Gl ops.toList []) io
theorem bB{ops:Array Oper}{io:List IOp}(h:Q1 ops io=true) :
  (∀ (i:Nat) (o:Oper),ops[i]? = some o->∀ p∈E1 o,p<i) /\
  ∀ (i j:Nat) (a b:IOp),j<i->io[j]? = some a->io[i]? = some b->PJ a b=true\/j∈(Gl ops.toList []).getD i []:=by
 simp only[Q1,U] at h;constructor
 ·intro i o ho p c;have h1:=h.1;simp only[OG,A6,Prod.forall] at h1;have:=h1 o i (by rw[GS];simpa using ho) p c;simpa using this
 ·intro i j x b d e hi;have h1:=h.2;simp only[iX,A6,Prod.forall] at h1;have h2:=h1 b i (by rw[GS];simpa using hi);have:=h2 x j (by rw[GS,BO d];simpa using e);simpa using this
end
section
variable {P:Program} {Y X0:Nat->Prop} {roots:List (Nat × Nat)} {w0:Base} {Q:Exit->Act->World->Prop}
def CA(n:Nat)(a:Array Bool):List Nat:=(A' n).filter fun i => !a.getD i true
theorem E6{n i:Nat}{a:Array Bool}:i∈CA n a↔i<n/\a.getD i true=false:=by
 simp[CA]
theorem Il(a:Array Bool)(i j:Nat)(d:Bool):(a.setIfInBounds i true).getD j d=if i=j/\i<a.size then true else a.getD j d:=by
 simp only[Av,IT];by_cases h:i=j
 ·subst h;by_cases h2:i<a.size <;> simp[h2]
 ·simp[h]
theorem P2{l:List Nat}(hs:l.Pairwise (·<·)){i:Nat}(hi:i∈l):∃ a c,l=a++i::c/\(∀ j∈a,j<i)/\l.filter (fun j=>decide (j ≠ i))=a++c:=by
 induction l with
 | nil=>cases hi
 | cons k l f =>
  rw[U1] at hs;by_cases d:k=i
  ·subst d;refine⟨[],l,rfl,fun j b=>(by cases b),?_⟩;simp only[C'];rw[Arr (by simp)];refine rO.2 fun j b => ?_;have:=hs.1 j b;simp;omega
  ·have e:i∈l:=by
    cases hi with
    | head=>exact absurd rfl d
    | tail _ h=>exact h
   obtain⟨a,c,g,m,n⟩:=f hs.2 e;refine⟨k::a,c,by rw[g];rfl,fun j b => ?_,?_⟩
   ·cases b with
    | head=>exact hs.1 i e
    | tail _ h=>exact m j h
   ·rw[Ars (by simp[d]),n];rfl
theorem HE(n:Nat)(a:Array Bool):(CA n a).Pairwise (·<·):=A0x _ List.pairwise_lt_range
theorem Np{n i:Nat}{a:Array Bool}(hi:i<a.size):CA n (a.setIfInBounds i true)=(CA n a).filter fun j=>decide (j ≠ i):=by
 unfold CA;rw[List.filter_filter];apply List.filter_congr;intro j _;rw[Il];by_cases h:i=j
 ·subst h;simp[hi]
 ·have b:¬ j=i:=fun e=>h e.symm;simp[h,b]
def Q2(io:List IOp)(i:Nat):IOp:=io.getD i ⟨none,.mov (.c .undef),none,[]⟩
def Q3(ops:Array Oper)(a:Array Bool):Prop:=∀ (i:Nat) (o:Oper),ops[i]? = some o->a.getD i false=true->∀ p∈E1 o,a.getD p false=true
theorem Nq{ops:Array Oper}{a:Array Bool}(hc:Q3 ops a):∀ (i:Nat) (o:Oper),ops[i]? = some o->(∀ p∈E1 o,a.getD p false=true)->∀ j∈(Gl ops.toList []).getD i [],a.getD j false=true:=by
 intro i;induction i using qR with
 | _ i f =>
  intro o ho c j g;obtain⟨o',b,p,d,k⟩:=iW ops.toList [] [] rfl (fun i j h=>(by simp at h)) i j g;simp only[C',DI] at b;rw[ho] at b;cases b;rcases k with rfl | ⟨l,m⟩
  ·exact c _ d
  ·have hl:=c p d;have e:p<ops.size:=by
    have:=(A8.1 ho).1;omega
   exact f p l ops[p] (by simp[e]) (hc p ops[p] (by simp[e]) hl) j m
theorem Arx{ops:Array Oper}{io:List IOp}{F:Bf}{y:V}(L:G1 P F)(M:LV P roots ops ops.toList io=true)(N:Q1 ops io=true)(z:∀ a' w',Rel Y X0 roots w0 y a' w'->Q .normal a' w') :
  ∀ (g:Nat) (b:Array Bool) (s:V) (a:Act) (w:World),b.size=ops.size->Q3 ops b->C (CA ops.size b)<=g->Rel Y X0 roots w0 s a w ->
   Cx F ((CA ops.size b).map (Q2 io)) s=some y->wpAny P .any ops Q g b a w:=by
 obtain⟨O,R⟩:=bB N;obtain⟨S,T⟩:=PM M;have A:C io=ops.size:=by simpa using S.symm
 have U:∀ (b:Array Bool),b.size=ops.size->Gg .any ops b=[]->CA ops.size b=[]:=by
  intro b l hr;cases n:CA ops.size b with
  | nil=>rfl
  | cons i W =>
   exfalso;have hi:=E6.1 (n ▸ A1:i∈CA ops.size b);have hs:=HE ops.size b;rw[n,U1] at hs;have B:i∈Gg .any ops b:=by
    rw[mem_ready];refine⟨hi.2,ops[i],by simp[hi.1],fun e r hb => ?_⟩;have d:e.on∈E1 ops[i]:=by
     simp only[E1,Dv,H4];exact⟨e,⟨by simpa using r,hb⟩,rfl⟩
    have a9:=O i ops[i] (by simp[hi.1]) e.on d;cases f:b.getD e.on true with
    | false =>
     have:e.on∈CA ops.size b:=E6.2 ⟨by omega,f⟩;rw[n] at this;cases this with
     | head=>omega
     | tail _ h=>have:=hs.1 _ h;omega
    | true =>
     have t:e.on<b.size:=by omega
     simp only[Av,A4 t,EA] at f |-;exact f
   rw[hr] at B;cases B
 intro g;induction g with
 | zero =>
  intro b s a w l hc hl h c;have h0:CA ops.size b=[]:=A_ (by omega);rw[h0] at c;simp only[RK,Cx,Ab] at c;subst c;refine⟨?_,z _ _ h⟩;cases hr:Gg .any ops b with
  | nil=>rfl
  | cons i W =>
   have hi:i∈Gg .any ops b:=by rw[hr];exact A1
   rw[mem_ready] at hi;obtain⟨h1,o,h2,_⟩:=hi;have:i∈CA ops.size b:=E6.2 ⟨(A8.1 h2).1,h1⟩;rw[h0] at this;cases this
 | succ g X =>
  intro b s a w l hc hl h c;refine⟨fun hr => ?_,fun i hi => ?_⟩
  ·rw[U b l hr] at c;simp only[RK,Cx,Ab] at c;subst c;exact z _ _ h
  ·rw[mem_ready] at hi;obtain⟨h1,o,h2,h3⟩:=hi;have hin:i<ops.size:=(A8.1 h2).1;have a1:i∈CA ops.size b:=E6.2 ⟨hin,h1⟩;obtain⟨a2,b0,u,e2,D⟩:=P2 (HE _ _) a1;have E:∀ p∈E1 o,b.getD p false=true:=by
    intro p d;simp only[E1,Dv,H4] at d;obtain⟨e,⟨r,hb⟩,rfl⟩:=d;exact h3 e (by simpa using r) hb
   have G:io[i]? = some (Q2 io i):=by
    simp only[Q2,Z,Ad (A ▸ hin),EA]
   have a3:∀ q∈a2.map (Q2 io),PJ q (Q2 io i)=true:=by
    intro q H;rw[Dv] at H;obtain⟨j,I,rfl⟩:=H;have a4:=e2 j I;have a5:j∈CA ops.size b:=by rw[u];exact EF _ I
    have m:=E6.1 a5;have a6:io[j]? = some (Q2 io j):=by
     simp only[Q2,Z,Ad (A ▸ m.1),EA]
    rcases R i j _ _ a4 a6 G with f | f
    ·exact f
    ·have J:=Nq hc i o h2 E j f;have t:j<b.size:=by omega
     simp only[Av,A4 t,EA] at J m;rw[J] at m;cases m.2
   rw[u,hU,BQ] at c;obtain⟨s1,a7,K⟩:=aO a3 c;rw[<- hU,<- D,<- Np (by omega)] at K;refine Ahw h L h2 (T i o _ (by simpa using h2) G) a7 fun a' w' h' => ?_;refine X (b.setIfInBounds i true) s1 a' w' (by simpa using l) ?_ ?_ h' K
   ·intro k ok v x p d;rw[Il] at x;rw[Il];split
    ·rfl
    ·split at x
     next a8=>obtain⟨rfl,_⟩:=a8;rw[h2] at v;cases v;exact E p d
     ·exact hc k ok v x p d
   ·rw[Np (by omega),D];rw[u] at hl;simp at hl |-;omega
theorem Abj{ops:Array Oper}{io:List IOp}{F:Bf}{s b:V}{a:Act}{w:World}{id:Nat}(e:P.follows .mixedOrders=true)(f:G1 P F)(c:LV P roots ops ops.toList io=true)(g:Q1 ops io=true)
  (h:Rel Y X0 roots w0 s a w) (j:Cx F io s=some b) (k:∀ a' w',Rel Y X0 roots w0 b a' w'->Q .normal a' w'):(Yv id ops true).wp P Q a w:=by
 have l:=(PM c).1;refine wp_region_any e ?_;have d:CA ops.size (Dq ops.size false)=A' ops.size:=by
  unfold CA;refine rO.2 fun i hi => ?_;have:i<ops.size:=by simpa using hi
  simp[Av,this]
 refine Arx f c g k ops.size _ s a _ (by simp) ?_ (by rw[d];simp) ⟨h.dfr,h.size,⟨h.below.os,h.below.tape,h.below.output,h.below.size,h.below.block⟩,h.low,h.lowY,fun t=>F9.world (h.reg t) ⟨rfl,rfl,rfl,Ar _,fun _ _=>rfl⟩,h.inj⟩ ?_
 ·intro i o ho hl;have hi:=(A8.1 ho).1;simp[Av,hi] at hl
 ·rw[d];have:(A' ops.size).map (Q2 io)=io:=by
   apply A1d;intro i;have m:C io=ops.size:=by simpa using l.symm
   by_cases hi:i<ops.size
   ·simp[hi,Q2,Z,Ad (m ▸ hi)]
   ·rw[AS (by simp;omega),AS (by omega)]
  rw[this];exact j
theorem Abk{ops:Array Oper}{io:List IOp}{F:Bf}{s b:V}{a:Act}{w:World}{id:Nat}(c:G1 P F)(d:LV P roots ops ops.toList io=true)
  (h:Rel Y X0 roots w0 s a w) (e:Cx F io s=some b) (f:∀ a' w',Rel Y X0 roots w0 b a' w'->Q .normal a' w'):(Yv id ops false).wp P Q a w:=by
 refine wp_region ?_;have:=xG (Q:=Q) c (k:=0) (fun j=>by simp) d h e f;rw[Aya];simpa using this
end
end Go.Ai
