/- Texts of the proof of EntryWithin: part 3 of 13. -/
import Derived.ArgAppend
import Derived.Laws.MakeOwn
import Derived.Laws.Slices
import Derived.Laws.Cover3
import Derived.Test.YtajompaehjkgkaaGreatEwn2
namespace Go.Ai
open Go.RowKit
open And renaming left->X5
open _root_.Array renaming all_eq_true_iff_forall_mem->yY,getD_eq_getD_getElem?->Dq,getElem?_eq_getElem->Ep,getElem?_eq_some_iff->Gh,getElem?_setIfInBounds->Uc,getElem?_toList->ABs,getElem_map->Ait,getElem_range->yU,length_toList->DG,mapM_eq_mapM_toList->W0,range->Jx,replicate->K7,toArray_toList->DS,toList_inj->Ama,toList_map->Ht
open Bool renaming and_eq_true->At,false_eq_true->CI,not_eq_true'->Fh,or_eq_true->I4
open Go renaming undef->BU
open Go.Act renaming eval->QX
open Go.Builtin renaming append_->Dr,firstCells->rS,lenOf->Nk,len_->Ayl
open Go.Code renaming region->AHv
open Go.Deferred renaming ofValue->K8
open Go.Instr renaming build->Zk,buildSlice->OU,extract->ABk,field->Alp,fill->N3,indexAt->eB,sliceAt->PN,sliceBounds->UX,storeAt->eA,sureAddr->MI
open Go.Oper renaming upon->Fg,wp->FG
open Go.Program renaming cellsOf->MH
open Go.Region renaming ready->TJ,wanted->Zy
open Go.Result renaming andThen_ok->AQ
open Go.RowKit.Below renaming heap_alloc->eH,refl->Jj
open Go.Sem renaming run->GE,run_bind->Bq,run_map->AJk,run_pure->BV
open Go.Value renaming bool->YI
open Go.World renaming cell?->Zj
open Int renaming le_refl->DO,mul_le_mul_of_nonneg_right->Ap
open List renaming all_eq_true->CG,append_assoc->Iu,append_nil->Ld,contains_eq_mem->Lf,drop->AL,eq_nil_of_length_eq_zero->AU,ext_getElem?->HP,filter_eq_self->zU,getD_eq_getElem?_getD->Ad,getElem?_append_left->B2,getElem?_append_right->BN,getElem?_cons_succ->ABt,getElem?_cons_zero->ABu,getElem?_eq_getElem->Am,getElem?_eq_none->Bi,getElem?_eq_some_iff->GY,getElem?_take_of_lt->Cr,getElem?_toArray->Wz,getElem_append_left->TF,getElem_append_right->SJ,getElem_cons_succ->rE,getElem_cons_zero->H4,getElem_drop->AJt,getElem_map->Aim,getElem_mem->AP,getElem_of_mem->DK,getElem_toArray->QT,length->F,length_append->B0,length_cons->BM,length_drop->CX,length_nil->IP,length_set->BH,length_take->AX,mapM_cons->OP,map_append->D_,map_cons->CW,map_nil->HC,mem_append->BD,mem_append_left->F6,mem_cons->BW,mem_cons_of_mem->Bg,mem_cons_self->Ba,mem_filter->DR,mem_map->DI,mem_of_mem_drop->E3,mem_of_mem_take->C5,mem_zipIdx_iff_getElem?->M2,nil_append->Hg,not_mem_nil->Y6,pairwise_cons->G3,range->Ay,set_comm->zA,set_set->Ue,size_toArray->KD,take->BF,take_append_drop->Ft,take_zero->OQ
open List.Pairwise renaming filter->AJq
open Nat renaming add_assoc->E1,add_comm->H0,add_mul->DU,add_zero->Gb,eq_zero_or_pos->Gk,le_refl->A2,le_trans->B6,lt_irrefl->Y3,lt_of_lt_of_le->Dg,lt_or_ge->CN,min_eq_left->Kh,min_le_right->Ayk,mod_eq_of_lt->Hc,mul_le_mul->Ck,mul_le_mul_right->Bf,not_le_of_lt->IM,strongRecOn->Y4,sub_self->T9,sub_zero->Lb,succ_mul->Om,zero_add->Cv,zero_le->A_,zero_mul->Lj
open Option renaming getD_some->H3,isSome_iff_exists->BA,map_eq_some_iff->A0,map_none->Rs,map_some->AY
open Option.some renaming injEq->AS
section
variable {P:Program} {Y X:Nat->Prop} {w:World}
theorem FQ{t:TypeId}{k:Nat}(h:GQ P t k=true):∃ e i a,P.underlying t=some (.slice e)/\P.info? e=some i/\i.size=k/\0<k/\i.bytes<=1048576/\i.zero=some a/\a.cells.size=k:=by
 unfold GQ at h;split at h
 ·rename_i e c;split at h
  ·rename_i i hi;simp only[At,BJ,AZ] at h;obtain⟨⟨⟨h1,h2⟩,d⟩,b⟩:=h;split at b
   next a hz=>simp only[BJ] at b;exact⟨e,i,a,c,hi,h1,by omega,d,hz,by omega⟩
   ·cases b
  ·cases h
 ·cases h
theorem HH{t:TypeId}(h:Iy P t=true):∃ e,P.underlying t=some (.slice e):=by
 unfold Iy at h;split at h
 next e a=>exact⟨e,a⟩
 ·cases h
section
variable(z:List AV)(n:Nat)
theorem OT:F (C_ z n)=n*F z:=by
 induction n with
 | zero=>simp[C_]
 | succ n a=>simp only[C_,B0,a,Om];omega
theorem zN:∀ i,i<n*F z->(C_ z n)[i]? = z[i % F z]? := by
 induction n with
 | zero=>intro i h;omega
 | succ n a =>
  intro i h;rw[Om] at h;simp only[C_];by_cases hi:i<F z
  ·rw[B2 hi,Hc hi]
  ·rw[BN (by omega),a _ (by omega)];congr 1;exact (Nat.mod_eq_sub_mod (by omega)).symm
theorem zO:∀ x∈C_ z n,x∈z:=by
 induction n with
 | zero=>intro x h;cases h
 | succ n a =>
  intro x h;simp only[C_,BD] at h;exact h.elim id (a x)
end
theorem Ayh{t:TypeId}{z:List AV}{kl kc:IntKind}{m:Int}(h:GQ P t (F z)=true)(hz:lR P t z=true)(b:0<=m)(h1:m<=1048576) :
  ∃ e cells,(Instr.makeSlice t (.int kl m) (.int kc m)).run P w = .ok (.slice (some ⟨w.heap.size,0,none⟩) m.toNat m.toNat) (w.alloc (.cells cells e))/\EA Y X w cells (C_ z m.toNat):=by
 obtain⟨e,i,a,c,hi,hs,p,hb,d,k⟩:=FQ h;unfold lR at hz;rw[c] at hz;dsimp only at hz;unfold PT at hz;rw[hi] at hz;dsimp only at hz;rw[d] at hz;dsimp only at hz;have hc:EA Y X w a.cells z:=by
  have:=MM (Y:=Y) (X:=X) (w:=w) hz;simpa using this
 have l:(i.bytes:Int)*m<=281474976710656:=by
  have q:(i.bytes:Int)*m<=1048576*m:=Ap (by omega) b;omega
 have hr:=run_make (P:=P) w t e i a c hi d kl kc m m b (DO _) l (by omega);refine⟨e,_,hr,fun x hx=>hc.1 x (zO z _ x hx),?_,fun j g1 f => ?_⟩
 ·rw[size_madeCells,OT,hs]
 ·have hj:j<m.toNat*F z:=by rw[<- OT];exact f
  have g:=zN z m.toNat j hj;rw[Am f] at g;obtain⟨v,hv,n⟩:=hc.get g.symm;have:(madeCells a.cells (m.toNat*i.size))[j]'g1=v:=by
   have o:a.cells[j % a.cells.size]? = some v:=by rw[k];exact hv
   simp[madeCells,getElem!_def,o]
  rw[this];exact n
def KF(w:World)(b off n:Nat):List Value:=(Ay n).map fun i=>(w.cell? ⟨b,off+i,none⟩).getD BU
theorem R5{b off:Nat}{cs:List AV}(h:GX Y X w b off cs) :
  F (KF w b off (F cs))=F cs/\(∀ j u,(KF w b off (F cs))[j]? = some u->w.cell? ((⟨b,off,none⟩:Addr).add j)=some u) /\
  (∀ (i:Nat) (h:i<F cs),∃ u,(KF w b off (F cs))[i]? = some u/\Rd Y X w u cs[i])/\∀ u∈KF w b off (F cs),u.oneCell'=true:=by
 obtain⟨hd,e⟩:=h;have c:∀ (i:Nat) (h:i<F cs),∃ u,(KF w b off (F cs))[i]? = some u/\w.cell? ⟨b,off+i,none⟩=some u/\Rd Y X w u cs[i]:=by
  intro i hi;obtain⟨v,h1,h2⟩:=e i hi;exact⟨v,by simp[KF,hi,h1],h1,h2⟩
 have f:F (KF w b off (F cs))=F cs:=by simp[KF]
 refine⟨f,fun j u a => ?_,fun i hi => ?_,fun u a => ?_⟩
 ·have hj:j<F cs:=by
   have:=(GY.1 a).1;omega
  obtain⟨v,h1,h2,_⟩:=c j hj;rw[a] at h1;cases h1;rw[Ix];exact h2
 ·obtain⟨v,h1,_,d⟩:=c i hi;exact⟨v,h1,d⟩
 ·obtain⟨j,hj,rfl⟩:=DK a;obtain⟨v,h1,_,d⟩:=c j (by omega);rw[Am hj] at h1;cases h1;exact (M1 d (hd _ (AP _))).1
theorem Iz{t t' b e c:TypeId}{i:TypeInfo}{a:Array Value}(h:P.underlying t=some (.slice e))(hi:P.info? e=some i)(d:P.underlying t'=some (.slice c)) :
  (Dr #[t,t'] b a).run P w=(Dr #[t,t] b a).run P w:=by
 have f:(sizeOf e).run P w = .ok i.size w:=by simp[sizeOf,typeInfo,program,GE,hi]
 simp only[Dr,Wz,ABu,ABt];cases g:a[0]? with
 | none=>rfl
 | some s =>
  cases h1:a[1]? with
  | none=>rfl
  | some x =>
   simp only[Bq,run_underlying h,AQ];cases s <;> try rfl
   simp only[Bq,f,run_underlying h,run_underlying d,AQ,BV]
theorem zP{y:Value}{m:Nat}{d:List AV}(h:Rd Y X w y (.sl m d)):(m=0/\d=[]/\(y = .slice none 0 0\/∃ p c,y = .slice (some p) 0 c))\/∃ b off cap,y = .slice (some ⟨b,off,none⟩) m cap/\GX Y X w b off d/\m<=cap/\(d ≠ []->¬ X b):=by
 cases h with
 | nil0=>exact .inl ⟨rfl,rfl,.inl rfl⟩
 | e0 a c=>exact .inl ⟨rfl,rfl,.inr ⟨a,c,rfl⟩⟩
 | sl b off _ cap _ f hd hn hX hY hcell hr=>exact .inr ⟨b,off,cap,rfl,⟨hd,fun i hi=>⟨f i,hcell i hi,hr i hi⟩⟩,hn,hX⟩
def SlR(Y X:Nat->Prop)(w:World)(y:Value)(m:Nat)(a:List AV):Prop:=(m=0/\a=[]/\(y = .slice none 0 0\/∃ p c,y = .slice (some p) 0 c))\/∃ b off cap,y = .slice (some ⟨b,off,none⟩) m cap/\GX Y X w b off a/\m<=cap
theorem Air{y:Value}{m:Nat}{a:List AV}(h:Rd Y X w y (.sl m a)):SlR Y X w y m a:=by
 rcases zP h with h | ⟨b,off,cap,h1,h2,c,_⟩
 ·exact .inl h
 ·exact .inr ⟨b,off,cap,h1,h2,c⟩
theorem XC{a:World}{e:TypeId}{k n:Nat}{v:Value}{xs:List Value}{cs:List AV}(f:a.ownsRow w.heap.size e k v n xs)(hn:0<n)(hd:Rw cs)(j:F cs=n*k)(hx:F xs=F cs)
  (hr:∀ (i:Nat) (h:i<F cs),∃ u,xs[i]? = some u/\Rd Y X a u cs[i]):GD Y X (gL w.heap.size) a v k n cs:=by
 obtain⟨_,h | ⟨g,cap,b,rfl,l,c,d,_,o,m⟩⟩:=f
 ·omega
 ·have p:n*k<=cap*k:=Bf _ d;refine .inr ⟨g,cap,rfl,d,j,l,⟨hd,b,e,c,by omega,fun i hi => ?_⟩,b,e,c,by omega⟩;obtain⟨u,h1,h2⟩:=hr i hi;refine⟨u,?_,h2⟩;rw[<- m,Cr (by omega)] at h1;simpa using h1
theorem XD{cs a:List AV}(h1:Rw cs)(h2:Rw a):Rw (cs++a):=fun x hx=>(BD.1 hx).elim (h1 x) (h2 x)
theorem lS{t e:TypeId}{i:TypeInfo}{a:Nat}(h:U_ P t a=true)(b:P.underlying t=some (.slice e))(hi:P.info? e=some i):a*i.bytes<=140737488355328/\a<=140737488355328:=by
 unfold U_ at h;simp only[b,hi,At,AZ] at h;exact h
theorem MO{t t' ty:TypeId}{k n m a:Nat}{cs o:List AV}{x y:Value}(Q:GQ P t k=true)(R:Iy P t'=true)(S:U_ P t a=true)
  (hx:(x = .slice none 0 0/\n=0/\cs=[]/\0<m)\/∃ b cap,x = .slice (some ⟨b,0,none⟩) n cap/\cap<n+m/\GX Y X w b 0 cs) (A:F cs=n*k) (hy:SlR Y X w y m o) (a2:0<m) (p:F o=m*k) (T:n+m<=a) :
  ∃ g f,(Dr #[t,t'] ty #[x,y]).run P w = .ok g f/\Below w.heap.size w f/\GD Y (fun c=>X c\/w.heap.size<=c) (gL w.heap.size) f g k (n+m) (cs++o):=by
 obtain⟨e,i,B,q,hi,hs,C,hb,D,E⟩:=FQ Q;obtain⟨e',U⟩:=HH R;rw[Iz q hi U];obtain⟨G,H,I,rfl,s,_⟩:=hy.resolve_left (fun h=>by have:=h.1;omega);obtain⟨r,J,K,V⟩:=R5 s;obtain⟨W,a3⟩:=lS S q hi;have L:(n+m)*i.bytes<=140737488355328:=B6 (Ck T (A2 _)) W;have M:n+m<=maxLen:=by simp only[maxLen];omega
 rcases hx with ⟨rfl,rfl,rfl,hm⟩ | ⟨b,cap,rfl,Z,N⟩
 ·obtain⟨g,f,v,z,d,_⟩:=run_append_own (P:=P) w w.heap.size t ty e i B k i.bytes q hi D hs rfl E C (.slice none 0 0) 0 [] (World.ownsRow_nil w _ e k) ⟨G,H,none⟩ m I _ (by rw[r,p]) J V M L (A2 _);have l:Below w.heap.size w f:=⟨d.os,d.tape,d.output,d.size,fun c hc=>d.block c hc (by simp[Value.ownBlock])⟩;refine⟨g,f,v,l,?_⟩;simp only[Hg];refine XC z (by omega) s.1 (by rw[p,Cv]) (by simp[r]) (fun j hj => ?_);obtain⟨u,h1,h2⟩:=K j hj;exact⟨u,by simpa using h1,(h2.mono fun b hb=>hb).world fun c _ hc=>l.block c hc⟩
 ·obtain⟨o1,o2,o3,o4⟩:=R5 N;obtain⟨g,f,v,z,d⟩:=run_append_arg_grows (P:=P) w t ty e i B k i.bytes q hi D hs rfl E C ⟨b,0,none⟩ n cap _ (by rw[o1,A]) o2 ⟨G,H,none⟩ m I _ (by rw[r,p]) J Z M L;have l:Below w.heap.size w f:=⟨d.os,d.tape,d.output,d.size,fun c hc=>d.block c hc (by simp)⟩;refine⟨g,f,v,l,?_⟩;refine XC z (by omega) (XD N.1 s.1) (by rw[B0,A,p,DU]) (by simp[o1,r]) (fun j hj => ?_);by_cases O:j<F cs
  ·obtain⟨u,h1,h2⟩:=o3 j O;refine⟨u,by rw[B2 (by omega)];exact h1,?_⟩;rw[TF O];exact (h2.mono fun b hb=>hb).world fun c _ hc=>l.block c hc
  ·have a1:j-F cs<F o:=by simp at hj;omega
   obtain⟨u,h1,h2⟩:=K _ a1;refine⟨u,by rw[BN (by omega),o1];exact h1,?_⟩;rw[SJ (by omega)];exact (h2.mono fun b hb=>hb).world fun c _ hc=>l.block c hc
theorem Va{t t' ty:TypeId}{k n m b cap:Nat}{cs f:List AV}{y:Value}(H:GQ P t k=true)(I:Iy P t'=true)(p:n+m<=cap)(hX:X b)
  (J:HF Y X w b 0 cs) (K:XA w b (cap*k)) (q:F cs=n*k) (hy:SlR Y X w y m f) (L:m ≠ 0) (g:F f=m*k) :
  ∃ d,(Dr #[t,t'] ty #[.slice (some ⟨b,0,none⟩) n cap,y]).run P w = .ok (.slice (some ⟨b,0,none⟩) (n+m) cap) d/\d.os=w.os/\d.tape=w.tape/\d.output=w.output/\d.heap.size=w.heap.size /\
   (∀ c,c ≠ b->d.heap[c]? = w.heap[c]?)/\HF Y X d b 0 (cs++f)/\XA d b (cap*k):=by
 obtain⟨e,i,Z,r,hi,hs,hk,hb,a1,a2⟩:=FQ H;obtain⟨e',M⟩:=HH I;rw[Iz r hi M];obtain⟨s,v,N,rfl,x,_⟩:=hy.resolve_left (fun h=>L h.1);obtain⟨l,O,Q,R⟩:=R5 x;obtain⟨S,vs,a,o,_,hcell⟩:=J;obtain⟨a3,T',z,T⟩:=K;rw[o] at z;cases z;have U:(n+m)*k<=cap*k:=Bf _ p;rw[DU] at U;generalize a4:KF w s v (F f)=news at *
 have V:=run_firstCells_some (P:=P) w i.size m ⟨s,v,none⟩ m N news (by rw[l,g,hs]) O;have A:=run_storeCells_at P b (n*i.size) a news 0 vs w o (by rw[hs,l,g];omega) R;simp only[Gb] at A;have B:∀ c,¬ X c->c<w.heap.size->(w.setRow b (BF (n*i.size) vs.toList++news++AL (n*i.size+F news) vs.toList).toArray).heap[c]? = w.heap[c]? := fun c hc _=>JK _ _ _ _ (fun e=>hc (e ▸ hX));have C:=setRow_heap w b vs (BF (n*i.size) vs.toList++news++AL (n*i.size+F news) vs.toList).toArray a (0,0) o;have D:(BF (n*i.size) vs.toList++news++AL (n*i.size+F news) vs.toList).toArray.size=vs.size:=by
  simp only[KD,B0,AX,CX,DG,l,g,hs];omega
 refine⟨w.setRow b (BF (n*i.size) vs.toList++news++AL (n*i.size+F news) vs.toList).toArray,?_,rfl,rfl,rfl,ML _ _ _,fun c hc=>JK _ _ _ _ hc,⟨XD S x.1,_,a,C,?_,fun j hj => ?_⟩,⟨_,a,C,by rw[D];exact T⟩⟩
 ·simp[Dr,run_underlying r,sizeOf,typeInfo,hi,Nk,p,V,Addr.add_lit,A]
 ·rw[D,B0,q,g];omega
 ·have E:F (vs.toList.take (n*i.size))=n*k:=by simp only[AX,DG,hs];omega
  simp only[Cv,Wz];by_cases G:j<F cs
  ·obtain⟨u,h1,h2⟩:=hcell j G;refine⟨u,?_,?_⟩
   ·rw[Iu,B2 (by omega),Cr (by rw[hs];omega)];simpa using h1
   ·rw[TF G];exact h2.world B
  ·have W:j-F cs<F f:=by simp at hj;omega
   obtain⟨u,h1,h2⟩:=Q _ W;refine⟨u,?_,?_⟩
   ·rw[B2 (by simp only[B0,E,l];simp at hj;omega),BN (by omega),E,<- q];exact h1
   ·rw[SJ (by omega)];exact h2.world B
theorem append_nil{t t' ty:TypeId}{k:Nat}(b:GQ P t k=true)(c:Iy P t'=true):(Dr #[t,t'] ty #[.slice none 0 0,.slice none 0 0]).run P w = .ok (.slice none 0 0) w:=by
 obtain⟨e,i,f,a,hi,hs,g,hb,h,j⟩:=FQ b;obtain⟨l,d⟩:=HH c;rw[Iz a hi d];simp[Dr,run_underlying a,sizeOf,typeInfo,hi,Nk,rS]
theorem MP{t t' ty:TypeId}{k c:Nat}{p:Addr}(b:GQ P t k=true)(d:Iy P t'=true):(Dr #[t,t'] ty #[.slice none 0 0,.slice (some p) 0 c]).run P w = .ok (.slice none 0 0) w:=by
 obtain⟨e,i,h,a,hi,hs,j,hb,l,m⟩:=FQ b;obtain⟨n,f⟩:=HH d;rw[Iz a hi f];have g:=run_firstCells_some (P:=P) w i.size 0 p 0 c [] (by simp) (by simp);simp[Dr,run_underlying a,sizeOf,typeInfo,hi,Nk,g]
theorem PV{t t' ty:TypeId}{k n b cap:Nat}(c:GQ P t k=true)(d:Iy P t'=true)(hn:n<=cap) :
  (Dr #[t,t'] ty #[.slice (some ⟨b,0,none⟩) n cap,.slice none 0 0]).run P w = .ok (.slice (some ⟨b,0,none⟩) n cap) w:=by
 obtain⟨e,i,g,a,hi,hs,h,hb,j,l⟩:=FQ c;obtain⟨m,f⟩:=HH d;rw[Iz a hi f];simp[Dr,run_underlying a,sizeOf,typeInfo,hi,Nk,rS,hn,storeCells]
theorem LK{t t' ty:TypeId}{k n b cap c:Nat}{p:Addr}(d:GQ P t k=true)(f:Iy P t'=true)(hn:n<=cap) :
  (Dr #[t,t'] ty #[.slice (some ⟨b,0,none⟩) n cap,.slice (some p) 0 c]).run P w = .ok (.slice (some ⟨b,0,none⟩) n cap) w:=by
 obtain⟨e,i,j,a,hi,hs,l,hb,m,o⟩:=FQ d;obtain⟨q,g⟩:=HH f;rw[Iz a hi g];have h:=run_firstCells_some (P:=P) w i.size 0 p 0 c [] (by simp) (by simp);simp[Dr,run_underlying a,sizeOf,typeInfo,hi,Nk,h,hn,storeCells]
theorem Lk{len cap m h l:Nat}{lo hi mx:Option Value}(p:(mx=none/\m=cap)\/∃ k i,mx=some (.int k i)/\0<=i/\i.toNat=m/\m<=cap)(q:(hi=none/\mx=none/\h=len)\/∃ k i,hi=some (.int k i)/\0<=i/\i.toNat=h/\h<=m)
  (r:(lo=none/\l=0)\/∃ k i,lo=some (.int k i)/\0<=i/\i.toNat=l/\l<=h):(UX true len cap lo hi mx).run P w = .ok (l,h,m) w:=by
 have hb:∀ (k:IntKind) (i:Int) (y n:Nat) (Md:BoundsCode),0<=i->i.toNat=n->n<=y->(Instr.sliceBound (.int k i) y Md).run P w = .ok n w:=by
  intro k i y n Md a h1 h2;rw[run_sliceBound w k i y Md a (by omega),h1]
 rcases p with ⟨rfl,rfl⟩ | ⟨km,im,rfl,j,m1,o⟩ <;> rcases q with ⟨rfl,s,rfl⟩ | ⟨kh,b,rfl,a,h1,h2⟩ <;> rcases r with ⟨rfl,rfl⟩ | ⟨c,d,rfl,e,f,g⟩;all_goals first
  | cases s;done
  | simp only[UX,Bq,BV,AQ]
 all_goals first
  | rfl
  | simp only[hb c d _ l _ e f g,AQ];done
  | simp only[hb kh b _ h _ a h1 h2,AQ];done
  | simp only[hb kh b _ h _ a h1 h2,hb c d _ l _ e f g,AQ];done
  | simp only[hb km im _ m _ j m1 o,hb kh b _ h _ a h1 h2,AQ];done
  | simp only[hb km im _ m _ j m1 o,hb kh b _ h _ a h1 h2,hb c d _ l _ e f g,AQ];done
theorem Ll{t:TypeId}{k len cap m h l:Nat}{a:Option Addr}{lo hi mx:Option Value}(b:GQ P t k=true)(hb:(UX true len cap lo hi mx).run P w = .ok (l,h,m) w) :
  (PN t (.slice a len cap) lo hi mx).run P w = .ok (.slice (if m=l then a else a.map (·.add (l*k))) (h-l) (m-l)) w:=by
 obtain⟨e,i,f,c,hi',hs,g,j,n,o⟩:=FQ b;have d:(sizeOf e).run P w = .ok k w:=by simp[sizeOf,typeInfo,program,GE,hi',hs]
 simp only[PN,Bq,run_underlying c,AQ,Instr.slice,hb,d,BV]
theorem Aly{v:Value}{n l h m k:Nat}{cs:List AV}(hv:Rd Y X w v (.sl n cs))(s:l<=h)(t:h<=n) :
  ∃ a cap,v = .slice a n cap/\n<=cap/\(h<=m->(a=none->m=0)->Rd Y X w (.slice (if m=l then a else a.map (·.add (l*k))) (h-l) (m-l)) (.sl (h-l) ((cs.drop (l*k)).take ((h-l)*k))))/\(a=none->cap=0):=by
 cases hv with
 | nil0 =>
  refine⟨none,0,rfl,A2 _,fun _ o => ?_,fun _=>rfl⟩;have d:h=0:=by omega
  have g:l=0:=by omega
  subst d g;rw[o rfl];simpa using Rd.nil0
 | e0 a c =>
  have d:h=0:=by omega
  have g:l=0:=by omega
  subst d g;refine⟨some a,c,rfl,A_ _,fun _ _ => ?_,fun h=>by cases h⟩;simp only[Lb,Lj,OQ];split
  ·exact .e0 _ _
  ·exact .e0 _ _
 | sl b off _ cap _ f hd hn hX hY hcell hr =>
  refine⟨_,cap,rfl,hn,fun u _ => ?_,fun h=>by cases h⟩;have y:F ((cs.drop (l*k)).take ((h-l)*k))<=F cs-l*k:=by simp only[AX,CX];omega
  have p:Rw ((cs.drop (l*k)).take ((h-l)*k)):=fun x hx=>hd x (E3 (C5 hx));by_cases j:m=l
  ·have q:h-l=0:=by omega
   rw[Ar j,q,Lj,OQ];exact .sl b off 0 (m-l) [] f (fun x hx=>by cases hx) (A_ _) (fun h=>absurd rfl h) (fun ⟨c,hc,_⟩=>by cases hc) (fun i hi=>by simp at hi) (fun i hi=>by simp at hi)
  ·rw[Aw j];simp only[AY,Ix];refine .sl b (off+l*k) (h-l) (m-l) _ (fun i=>f (l*k+i)) p (by omega) (fun r=>hX (fun e=>r (by rw[e];simp))) (fun ⟨c,hc,h1⟩=>hY ⟨c,E3 (C5 hc),h1⟩) (fun i hi => ?_) (fun i hi => ?_)
   ·rw[E1];exact hcell _ (by omega)
   ·have:=hr (l*k+i) (by omega);simpa using this
end
section
variable(roots:List (Nat × Nat))
def Gl(a:List Nat)(dst:Option Nat):Bool:=roots.all fun p => !(some p.2==dst) || a.contains p.1
def Uh(dst:Option Nat)(d:Nat):Bool :=
 match dst with
 | some t=>roots.contains (t,d) && !(t==d)
 | none=>true
def lT(dst:Option Nat)(ks:List Nat):Bool:=dst.isSome&&roots.all fun p => !(some p.2==dst) || ks.contains p.1
end
def Fq(roots:List (Nat × Nat))(a:List Nat)(dst:Option Nat):K->Bool
 | .new _ ks=>lT roots dst ks
 | .box _ ks=>lT roots dst ks
 | .adr _ d _=>Gl roots a dst&&Uh roots dst d
 | .ixo _ d _ _=>Gl roots a dst&&Uh roots dst d
 | .cpy x=>Gl roots a dst&&Uh roots dst x
 | .cpo x=>Gl roots a dst&&Uh roots dst x
 | .st _ _ _ _=>dst.isNone
 | .bls _ _ _=>Gl roots a dst&&dst.isSome
 | .blo _ _ _ _=>Gl roots a dst&&dst.isSome
 | .mks _ _=>Gl roots a dst&&dst.isSome
 | .tra _=>Gl roots a dst&&dst.isSome
 | .apd _ _ _ _ _=>Gl roots a dst&&dst.isSome
 | .clo _ _=>Gl roots a dst&&dst.isSome
 | .nlo _=>Gl roots a dst&&dst.isSome
 | .bdo _ _ l=>Gl roots (a++l) dst&&dst.isSome
 | .cln _ _ l=>Gl roots (a++l) dst&&dst.isSome
 | .stl x v=>dst.isNone&&roots.contains (x,v)
 | .fdo _=>Gl roots a dst&&dst.isSome
 | .exo _=>Gl roots a dst&&dst.isSome
 | .sub _ d _ _ _=>Gl roots a dst&&Uh roots dst d
 | .app _ x _ _ _=>Gl roots a dst&&dst.isSome&&Gl roots a (some x)
 | .apb _ _ _ _ _=>Gl roots a dst&&dst.isSome
 | .slo _ _ _=>Gl roots a dst&&dst.isSome
 | .cao _ _ _ _=>Gl roots a dst&&dst.isSome
 | _=>Gl roots a dst
theorem Bj{s:Az}{roots:List (Nat × Nat)}{a:List Nat}{dst:Option Nat}(b:∀ t∈a,Fv (AR s t)=false)(h:Gl roots a dst=true):rP s roots dst:=by
 intro d hd t c;simp only[Gl,CG,I4,Fh,C3,ne_eq,Lf,AZ] at h;rcases h (t,d) c with h1 | h1
 ·exact absurd hd.symm h1
 ·exact b t h1
theorem XE{s:Az}{b ls:List Nat}(c:∀ t∈b,Fv (AR s t)=false)(d:(ls.all fun t=>HX (AR s t))=true):∀ t∈b++ls,Fv (AR s t)=false:=by
 intro t a;rcases BD.1 a with a | a
 ·exact c t a
 ·exact lJ (CG.1 d t a)
section
variable{roots:List (Nat × Nat)}{dst:Option Nat}
theorem Kt{d:Nat}(h:Uh roots dst d=true):∀ t,dst=some t->(t,d)∈roots/\t ≠ d:=by
 intro t a;subst a;simpa [Uh] using h
theorem XF{ks:List Nat}(h:lT roots dst ks=true):dst.isSome=true/\∀ d,dst=some d->∀ t,(t,d)∈roots->t∈ks:=by
 simp only[lT,At,CG,I4,Fh,C3,ne_eq,Lf,AZ] at h;refine⟨h.1,fun d hd t a => ?_⟩;rcases h.2 (t,d) a with h1 | h1
 ·exact absurd hd.symm h1
 ·exact h1
end
section
variable {P:Program} {Y X0:Nat->Prop} {roots:List (Nat × Nat)} {w0:Base} {w:World} {s:Az} {a:Act} {Q:Exit->Act->World->Prop}
theorem R6{w:World}{b off:Nat}{vs:Array Value}{a:TypeId}{c:Nat × Nat}(h:w.heap[b]? = some (.cells vs a c)):w.cell? ⟨b,off,none⟩=vs[off]? := by
 simp only[Zj,h];rfl
theorem PW{Y X:Nat->Prop}{w:World}{zero:List Value}(hz:0<F zero):∀ (n:Nat) (z:List AV),UZ z zero n=true->F z=n*F zero ->
  Rw z/\∀ (i:Nat) (h:i<F z),∃ v,zero[i % F zero]? = some v/\Rd Y X w v z[i]
 | 0,z,_,a=>by
  have:z=[]:=AU (by simpa using a);subst this;exact⟨fun x hx=>(by cases hx),fun i h=>(by simp at h)⟩
 | n+1,z,h,a=>by
  simp only[UZ,At] at h;obtain⟨h1,h2⟩:=h;have j:F z=n*F zero+F zero:=by rw[a,Om]
  obtain⟨hd,c⟩:=PW (Y:=Y) (X:=X) (w:=w) hz n (z.drop (F zero)) h2 (by simp;omega);have hc:=MM (Y:=Y) (X:=X) (w:=w) h1;refine⟨fun x hx => ?_,fun i hi => ?_⟩
  ·rw[<- Ft (F zero) z,BD] at hx;rcases hx with hx | hx
   ·exact hc.1 x hx
   ·exact hd x hx
  ·by_cases b:i<F zero
   ·rw[Hc b];have e:(z.take (F zero))[i]? = some z[i]:=by rw[Cr b,Am hi]
    obtain⟨v,hv,hr⟩:=hc.get e;exact⟨v,by simpa using hv,hr⟩
   ·have d:i-F zero<F (z.drop (F zero)):=by simp;omega
    obtain⟨v,hv,hr⟩:=c (i-F zero) d;have f:(i-F zero) % F zero=i % F zero:=by
     rw[<- Nat.add_mod_right (i-F zero) (F zero)];congr 1;omega
    have g:(z.drop (F zero))[i-F zero]=z[i]:=by
     rw[AJt];congr 1;omega
    exact⟨v,f ▸ hv,g ▸ hr⟩
theorem Ke.world{Y e:Nat->Prop}{a:Nat->Prop}{m:Array Value}{w w':World}{t:Nat}{v:Value}{r:Reg}(h:Ke Y e a roots m w t v r)(f:Below w.heap.size w w'):Ke Y e a roots m w' t v r:=by
 cases r with
 | val x=>exact Rd.world h fun b _ hb=>f.block b hb
 | box cs=>obtain⟨b,j,l,g⟩:=h;exact⟨b,j,l,g.world (fun c _ hc=>f.block c hc) (f.block b g.lt)⟩
 | own k n cs=>exact GD.world h (fun c _ hc=>f.block c hc) (fun b _ hb=>f.block b hb)
 | agn b k n cs=>exact M0.world h (fun c _ hc=>f.block c hc) (fun b _ hb=>f.block b hb)
 | bxl d =>
  obtain⟨j,b,l,g,o,p⟩:=h;exact⟨j,b,l,g,Dg o f.size,fun i hi=>by rw[<- p i hi];exact GC (f.block b o)⟩
 | mem cs=>obtain⟨b,off,j,l,g⟩:=h;exact⟨b,off,j,l,g.world (fun c _ hc=>f.block c hc) (fun hb=>f.block b hb)⟩
 | ptr d off=>exact h
 | dup d=>exact h
 | sub _ _ _ _=>exact h
 | dead=>trivial
theorem Ayi{Y a:Nat->Prop}{w:World}{t:TypeId}{n off:Nat}{one:Bool}{vs:Array Value}{cs:List AV}{x:AV}(c:PR P t n one=true)(hc:EA Y a w vs cs)(b:BQ cs off n one=some x) :
  ∃ v,(part t vs off).run P w = .ok v w/\Rd Y a w v x:=by
 obtain⟨h1,h2⟩:=Ot c;obtain⟨hd,hs,hr⟩:=hc;unfold BQ at b;cases one with
 | true =>
  simp only[if_true] at b;obtain⟨v,hv,d⟩:=EA.get ⟨hd,hs,hr⟩ b;exact⟨v,by simp[part,h1,hv],d⟩
 | false =>
  simp only[CI,if_false] at b;split at b
  ·rename_i f;cases b;refine⟨.agg (vs.extract off (off+n)),by simp[part,h1,h2],.agg _ _ (fun y hy=>hd y (E3 (C5 hy))) (by simp;omega) (fun i g e => ?_)⟩;have hi:i<n:=by simp at e;omega
   have:=hr (off+i) (by omega) (by omega);simpa using this
  ·cases b
theorem EK{b:Operand}{x:Nat}(h1:CS b (.t x)=true):a.eval b=a.tmps.getD x BU:=by
 cases b <;> simp only[CS] at h1 <;> try cases h1
 simp only[BJ] at h1;subst h1;rfl
theorem Ov{o:Oper}{x:Nat}(h:W4 o.op x=true):(execOp a.eval o).run P w = .ok (.value (a.tmps.getD x BU)) w:=by
 unfold W4 at h;split at h
 next y b=>simp[execOp,b,EK (a:=a) h]
 next y b=>simp[execOp,b,EK (a:=a) h]
 ·cases h
theorem Ais{x:Opd}{v:AV}(h:x.reg s = .val v):x.av s=some v:=by simp only [Opd.av,h]
theorem rT{x:Opd}{k n:Nat}{cs:List AV}(h:x.reg s = .own k n cs):∃ m,x = .t m:=by
 cases x with
 | t m=>exact⟨m,rfl⟩
 | c y=>simp only[Opd.reg] at h;cases h
theorem SL{Y f d:Nat->Prop}{a g e:Nat->Prop}{i:World}{v:Value}{k n:Nat}{cs:List AV}(j:∀ b,g b->a b)(h:GD Y (fun c=>f c\/Bp v=some c) g i v k n cs)(hX:∀ b,d b->f b\/(e b/\Bp v=some b)):GD Y d a i v k n cs :=
 (h.mono fun c hc => .inl ((hX c hc).imp id And.right)).lower j
theorem TI{s:Az}:∀ {ps:List (Nat × Nat × Opd)} {cs a:List AV},HD s cs ps=some a->F a=F cs
 | [],cs,a,h=>by simp only[HD,AS] at h;rw[h]
 | (off,n,o)::ps,cs,a,h=>by
  simp only[HD] at h;split at h
  ·cases h
  ·split at h
   ·cases h
   ·split at h
    ·cases h
    next b=>rw[TI h,(Pp b).2.1]
theorem rU(h:Rel Y X0 roots w0 s a w){d k n:Nat}{cells:Array Value}{cs:List AV}{c:TypeId}(g:∀ t,(t,d)∈roots->Fv (AR s t)=false)(hc:EA Y (fun b=>X0 b\/XS s a.tmps b) w cells cs)(j:F cs=n*k) :
  Rel Y X0 roots w0 (EI s (some d) (.own k n cs)) (a.put (some d) (.slice (some ⟨w.heap.size,0,none⟩) n n)) (w.alloc (.cells cells c)):=by
 refine Es (ks:=[]) h ((Jj _ _).alloc (A2 _) _) (fun t l => .inr (g t l)) (fun _ b hb=>by simp only[Bp,IB,AY,AS] at hb;omega) (fun e h1 _ => ?_);have m:=(hc.mono (X':=e) (fun b hb=>(h1 b hb).imp id X5)).world (w':=w.alloc (.cells cells c)) (fun b _ hb=>eH _ _ _ hb);have f:(w.alloc (.cells cells c)).heap[w.heap.size]? = some (.cells cells c (0,0)):=by show (w.heap.push _)[w.heap.size]? = _;simp
 have hs:=hc.2.1;refine .inr ⟨w.heap.size,n,rfl,A2 _,j,.inl h.below.size,⟨hc.1,cells,c,f,by omega,fun i hi => ?_⟩,cells,c,f,by omega⟩;exact⟨cells[i]'(by omega),by rw[Cv,Ep],m.2.2 i (by omega) hi⟩
theorem SM{Y X:Nat->Prop}{a:Nat->Prop}{d:Nat}{c:Array Value}{w:World}{v:Value}{k n:Nat}{cs:List AV}{ow:Bool}(h:GD Y X a w v k n cs)(hn:ow=false->∀ b,Bp v=some b->¬ X b)(hY:∀ b,Y b->¬ a b):Ke Y X a roots c w d v (if ow then .own k n cs else .val (.sl n cs)):=by
 cases ow with
 | true=>exact h
 | false=>exact GD.frozen h (fun b hb => .inl hb) (hn rfl) hY
def Ayj:Value->Nat
 | .slice _ _ c=>c
 | _=>0
theorem SN(h:Rel Y X0 roots w0 s a w){o:Option Opd}{b:Option Operand}{d n:Nat}(c:QW b o=true)(hb:Im s d o=some n):(o=none/\b=none/\n=d)\/∃ x,o=some x/\∃ k i,b.map a.eval=some (.int k i)/\0<=i/\i.toNat=n:=by
 cases o with
 | none =>
  cases b with
  | none=>simp only[Im,AS] at hb;exact .inl ⟨rfl,rfl,hb.symm⟩
  | some y=>cases c
 | some x =>
  cases b with
  | none=>cases c
  | some y =>
   simp only[QW] at c;simp only[Im] at hb;split at hb
   ·rename_i k i hi;split at hb
    next e=>cases hb;have:=D6 h c hi;generalize hv:a.eval y=v at this;cases this;exact .inr ⟨x,rfl,k,i,by simp[hv],e,rfl⟩
    ·cases hb
   ·cases hb
theorem YJ(h:Rel Y X0 roots w0 s a w){o:Option Opd}{b:Option Operand}{l c:Nat}(d:QW b o=true)(hb:Im s 0 o=some l)(e:l<=c):(b.map a.eval=none/\l=0)\/∃ k i,b.map a.eval=some (.int k i)/\0<=i/\i.toNat=l/\l<=c:=by
 rcases SN h d hb with ⟨_,rfl,rfl⟩ | ⟨_,_,k,i,h1,h2,f⟩
 ·exact .inl ⟨rfl,rfl⟩
 ·exact .inr ⟨k,i,h1,h2,f,e⟩
theorem ABz(h:Rel Y X0 roots w0 s a w){o:Option Opd}{b:Option Operand}{d m cap:Nat}(c:QW b o=true)(hb:Im s d o=some m)(hd:d=cap)(e:m<=cap):(b.map a.eval=none/\m=cap)\/∃ k i,b.map a.eval=some (.int k i)/\0<=i/\i.toNat=m/\m<=cap:=by
 rcases SN h c hb with ⟨_,rfl,rfl⟩ | ⟨_,_,k,i,h1,h2,f⟩
 ·exact .inl ⟨rfl,hd⟩
 ·exact .inr ⟨k,i,h1,h2,f,e⟩
theorem AHu(h:Rel Y X0 roots w0 s a w){o:Option Opd}{b:Option Operand}{d m cap:Nat}(c:QW b o=true)(hb:Im s d o=some m)(e:m<=cap):(b.map a.eval=none/\(if o.isSome then m else cap)=cap)\/∃ k i,b.map a.eval=some (.int k i)/\0<=i/\i.toNat=(if o.isSome then m else cap)/\(if o.isSome then m else cap)<=cap:=by
 rcases SN h c hb with ⟨rfl,rfl,rfl⟩ | ⟨x,rfl,k,i,h1,h2,f⟩
 ·exact .inl ⟨rfl,rfl⟩
 ·exact .inr ⟨k,i,h1,h2,f,e⟩
theorem lW(h:Rel Y X0 roots w0 s a w){o om:Option Opd}{c om':Option Operand}{n b d:Nat}(e:QW c o=true)(W6:QW om' om=true)(hb:Im s n o=some b)(hs:om.isSome->o.isSome)(h1:om.isSome=true->b<=d)(h2:¬ om.isSome=true->b<=d) :
  (c.map a.eval=none/\om'.map a.eval=none/\b=n)\/∃ k i,c.map a.eval=some (.int k i)/\0<=i/\i.toNat=b/\b<=d:=by
 rcases SN h e hb with ⟨rfl,rfl,rfl⟩ | ⟨x,rfl,k,i,f,g,j⟩
 ·refine .inl ⟨rfl,?_,rfl⟩;cases om with
  | none=>cases om' with | none=>rfl | some y=>cases W6
  | some z=>have:=hs rfl;cases this
 ·refine .inr ⟨k,i,f,g,j,?_⟩;by_cases b:om.isSome=true
  ·exact h1 b
  ·exact h2 b
theorem zQ{v:Value}(h:Pq v (.sl 0 [])=true):v = .slice none 0 0:=by
 unfold Pq at h;split at h <;> first | rfl | (rename_i e;cases e;done) | (rename_i e _;cases e;done) | cases h
theorem Grown.from_{a:Base}{w:World}(h:Grown a w):∀ b,gL w.heap.size b->a.mine b:=fun _ hb => .inl (B6 h.size hb)
theorem Zv(h:Rel Y X0 roots w0 s a w){j:C4}(M:LJ P j){f k n:Nat}{cs:List AV}{vs:List AV}{y:AV}(hy:j f (.fresh k n cs::vs)=some y){o1:Operand}{m:List Operand}(B:F m=F vs)
  (r:∀ (i:Nat) (h1:i<F m) (h2:i<F vs),Rd Y (fun b=>X0 b\/XS s a.tmps b) w (a.eval m[i]) vs[i]) (N:GD Y (fun b=>X0 b\/XS s a.tmps b) w0.mine w (a.eval o1) k n cs)
  {ks:List Nat} (C:∀ b,Bp (a.eval o1)=some b->∃ x,x∈ks/\E_ (AR s x)=true/\Bp (a.tmps.getD x BU)=some b) {d:Nat} (O:∀ t,(t,d)∈roots->t∈ks\/Fv (AR s t)=false) :
  Calls P f ((o1::m).map a.eval).toArray w fun e G=>∃ v,e = .returned v/\Rel Y X0 roots w0 (EI (CE s (ks.map fun u=>(u,Reg.dead))) (some d) (Hi y)) (a.put (some d) v) G:=by
 have D:∀ b,HG (.fresh k n cs::vs) ((o1::m).map a.eval).toArray b↔Bp (a.eval o1)=some b:=fun b=>⟨fun hb=>hb.2,fun hb=>⟨⟨k,n,cs,vs,rfl⟩,hb⟩⟩;have H:∀ b,Bp (a.eval o1)=some b->XS s a.tmps b:=fun b hb=>let ⟨x,_,h2,o⟩:=C b hb; ⟨x,h2,o⟩
 have I:∀ b,Bp (a.eval o1)=some b->w0.mine b:=fun b hb=>let ⟨x,_,h2,o⟩:=C b hb; (h.exclLow h2 o).1
 have E:HG (.fresh k n cs::vs) ((o1::m).map a.eval).toArray=fun b=>Bp (a.eval o1)=some b:=funext fun b=>propext (D b);refine (M f (.fresh k n cs::vs) y hy Y (fun b=>(X0 b\/XS s a.tmps b)/\¬ Bp (a.eval o1)=some b) w ((o1::m).map a.eval).toArray (fun b hb=>⟨h.lowX b hb.1,fun e=>hb.2 ((D b).1 e)⟩)
  (fun b hb=>⟨h.lowYw b hb,fun e=>h.lowY b hb (I b ((D b).1 e))⟩) (by simp[B]) (fun i h1 h2 => ?_) (fun i h2 o => ?_)).mono ?_
 ·cases i with
  | zero =>
   rw[E];show GD _ _ _ w (a.eval o1) k n cs;have Q:=GD.mono (X':=fun c=>((X0 c\/XS s a.tmps c)/\¬ Bp (a.eval o1)=some c)\/Bp (a.eval o1)=some c) N fun c hc => .inl (hc.elim X5 fun e => .inr (H c e));rcases Q with g | ⟨b,cap,J,R,S,_,T,U⟩
   ·exact .inl g
   ·exact .inr ⟨b,cap,J,R,S,by rw[J];rfl,T,U⟩
  | succ i =>
   rw[E];have V:i<F m:=by simpa using h1
   have W:i<F vs:=by simpa using h2
   have g:=r i V W;have p:Rd Y (fun c=>((X0 c\/XS s a.tmps c)/\¬ Bp (a.eval o1)=some c)\/Bp (a.eval o1)=some c) w (a.eval m[i]) vs[i]:=g.mono fun c hc => .inl (hc.elim X5 fun e => .inr (H c e));simp only[CW,QT,rE,Aim];generalize vs[i]=z at p |-;generalize a.eval m[i]=u at p |-;cases z <;> first | exact p | (exfalso;revert p;intro p;cases p)
 ·cases i with
  | zero=>rfl
  | succ i =>
   have X:i<F vs:=by simpa using h2
   have g:=r i (by omega) X;simp only[rE] at o;generalize vs[i]=z at g o;generalize a.eval (m[i]'(by omega))=u at g;cases g <;> cases o
 ·rw[E];rintro e G ⟨v,B,r,q⟩;refine⟨v,B,h.give r C O (fun Z b hb => ?_) (fun l h1 h2 o => ?_)⟩
  ·cases y
   case fresh k n cs=>exact (GD.block q hb).1
   case frs bb k n cs=>exact (M0.block q hb).1
   all_goals cases Z
  ·have K:∀ b,Base.mine ⟨w,fun b=>Bp (a.eval o1)=some b⟩ b->w0.mine b:=fun b hb=>hb.elim (h.below.from_ b) (I b);have L:∀ c,l c->((X0 c\/XS s a.tmps c)/\¬ Bp (a.eval o1)=some c)\/Bp v=some c:=by
    intro c hc;by_cases A:Bp (a.eval o1)=some c
    ·exact .inr (h2 c hc A).2
    ·rcases h1 c hc with g | g
     ·exact .inl ⟨g,A⟩
     ·exact .inr g.2
   cases y
   case fresh k n cs=>exact (GD.mono q fun c hc => .inl (L c hc)).lower K
   case frs bb k n cs=>exact (M0.mono q fun c hc => .inl (L c hc)).lower K
   all_goals exact Rd.mono q fun c hc => .inl ⟨o rfl c hc,fun A=>by cases (h2 c hc A).1⟩
theorem N8(h:Rel Y X0 roots w0 s a w){f:World}(i:Below w.heap.size w f){d k n:Nat}{v:Value}{cs:List AV}{ow:Bool}{ks:List Nat}(j:∀ t,(t,d)∈roots->t∈ks\/Fv (AR s t)=false)
  (g:GD Y (fun c=>(X0 c\/XS s a.tmps c)\/w.heap.size<=c) (gL w.heap.size) f v k n cs) :
  Rel Y X0 roots w0 (EI (CE s (ks.map fun u=>(u,Reg.dead))) (some d) (if ow then .own k n cs else .val (.sl n cs))) (a.put (some d) v) f:=by
 refine Es h i j (fun _ b hb=>(GD.block g hb).1) (fun e l m => ?_);have o:GD Y e w0.mine f v k n cs:=(g.mono fun c hc => .inl ((l c hc).imp id X5)).lower h.below.from_;refine SM o (fun p c hc q => ?_) h.lowY;subst p;have h1:=(GD.block g hc).1;have:=h.lowX c (m rfl c q);unfold gL at h1;omega
theorem Nl(h:Rel Y X0 roots w0 s a w){d k:Nat}{ow:Bool}{ks:List Nat}(b:∀ t,(t,d)∈roots->t∈ks\/Fv (AR s t)=false) :
  Rel Y X0 roots w0 (EI (CE s (ks.map fun u=>(u,Reg.dead))) (some d) (if ow then .own k 0 [] else .val (.sl 0 []))) (a.put (some d) (.slice none 0 0)) w :=
 N8 h (Jj _ _) b (.inl ⟨rfl,rfl,rfl⟩)
theorem Zw{o:Oper}{y L:Operand}{t t':TypeId}{q d k n m e:Nat}{cs ys:List AV}{ow:Bool}{V:Act->World->Prop}(h:Rel Y X0 roots w0 s a w)
  (a3:o.op = .call { callee := .builtin .append,args:=#[y,L],argTypes:=#[t,t'] }) (h1:CS y (.t q)=true) (i:GQ P t k=true) (j:Iy P t'=true) (W:U_ P t e=true) (z:o.dst=some d)
  (A:∀ u,(u,d)∈roots->Fv (AR s u)=false) (M:AR s q = .own k n cs) (B:SlR Y (fun b=>X0 b\/XS s a.tmps b) w (a.eval L) m ys) (r:F ys=m*k) (a4:n+m<=e)
  (x:∀ Z l,Rel Y X0 roots w0 (EI (CE s [(q,.dead)]) (some d) (if ow then .own k (n+m) (cs++ys) else .val (.sl (n+m) (cs++ys)))) Z l->V Z l):o.wp P a w V Q:=by
 have f:∀ {v:Value} {l:World},(Dr #[t,t'] o.type #[a.eval y,a.eval L]).run P w = .ok v l->(execOp a.eval o).run P w = .ok (.value v) l:=by
  intro v l hh;simp[execOp,a3,resolve,invoke,builtin,hh]
 rcases h.ownLow M with ⟨C,rfl,rfl⟩ | ⟨b,cap,C,G,H,e4,N,e6,a5⟩
 ·have O:a.eval y = .slice none 0 0:=by rw[EK h1,C]
  rw[O] at f;simp only[Cv,Hg] at x;rcases Gk m with I | I
  ·subst I;have R:ys=[]:=AU (by simpa using r);subst R;have hr:(execOp a.eval o).run P w = .ok (.value (.slice none 0 0)) w:=by
    rcases B with ⟨_,_,g | ⟨p,c,g⟩⟩ | ⟨b,off,cap,g,_⟩
    ·rw[g] at f;exact f (append_nil (P:=P) (w:=w) (ty:=o.type) i j)
    ·rw[g] at f;exact f (MP (P:=P) (w:=w) (ty:=o.type) i j)
    ·rw[g] at f;exact f (MP (P:=P) (w:=w) (ty:=o.type) i j)
   refine Ce hr (x _ _ ?_);rw[z];exact Nl (ks:=[q]) h (fun u D => .inr (A u D))
  ·obtain⟨v',l,E,S,J⟩:=MO (P:=P) (ty:=o.type) (n:=0) (cs:=[]) i j W (.inl ⟨rfl,rfl,rfl,I⟩) (by simp) B I r (by omega);have hr:=f E;simp only[FG,hr,Fg];refine x _ _ ?_;rw[z];simp only[Cv,Hg] at J;exact N8 (ks:=[q]) h S (fun u D => .inr (A u D)) J
 have O:a.eval y = .slice (some ⟨b,0,none⟩) n cap:=by rw[EK h1,C]
 rw[O] at f;by_cases a1:m=0
 ·subst a1;have R:ys=[]:=AU (by simpa using r);subst R;have hr:(execOp a.eval o).run P w = .ok (.value (.slice (some ⟨b,0,none⟩) n cap)) w:=by
   rcases B with ⟨_,_,g | ⟨p,c,g⟩⟩ | ⟨b',a6,a7,g,_⟩
   ·rw[g] at f;exact f (PV (P:=P) (w:=w) (ty:=o.type) i j G)
   ·rw[g] at f;exact f (LK (P:=P) (w:=w) (ty:=o.type) i j G)
   ·rw[g] at f;exact f (LK (P:=P) (w:=w) (ty:=o.type) i j G)
  refine Ce hr (x _ _ ?_);rw[z];refine Rel.shift h M (b:=b) (by rw[C];rfl) A rfl rfl rfl rfl (fun _ _=>rfl) (fun _=>rfl) (fun X T K => ?_);simp only[Gb,Ld] at K |-;exact SM (.inr ⟨b,cap,rfl,G,H,e4,N.mono fun c hc => .inl (T c hc),e6⟩) (fun U=>by subst U;exact fun c hc=>by cases hc;exact K rfl) h.lowY
 by_cases a2:n+m<=cap
 ·obtain⟨l,E,T,K,g3,g4,g5,g6,g7⟩:=Va (P:=P) (ty:=o.type) i j a2 (Y:=Y) (X:=fun b=>X0 b\/XS s a.tmps b) (.inr a5) N e6 H B a1 r;have hr:=f E;simp only[FG,hr,Fg];refine x _ _ ?_;rw[z];refine Rel.shift h M (b:=b) (by rw[C];rfl) A T K g3 g4 g5 (fun _=>rfl) (fun X q1 q2 => ?_);exact SM (.inr ⟨b,cap,rfl,a2,by rw[B0,H,r,DU],e4,g6.mono fun c hc => .inl (q1 c hc),g7⟩) (fun U=>by subst U;exact fun c hc=>by cases hc;exact q2 rfl) h.lowY
 ·obtain⟨v',l,E,S,J⟩:=MO (P:=P) (ty:=o.type) i j W (.inr ⟨b,cap,rfl,by omega,N.mem⟩) H B (by omega) r a4;have hr:=f E;simp only[FG,hr,Fg];refine x _ _ ?_;rw[z];exact N8 (ks:=[q]) h S (fun u D => .inr (A u D)) J
theorem Alz(a:Act)(x:Nat):a.put (some x) (a.tmps.getD x BU)=a:=by
 have e:a.tmps.setIfInBounds x (a.tmps.getD x BU)=a.tmps:=by
  apply Array.ext
  ·simp
  ·intro i h1 h2;rw[Array.getElem_setIfInBounds];split
   next g=>subst g;simp[Array.getD,h2]
   ·rfl
 show { a with tmps:=a.tmps.setIfInBounds x (a.tmps.getD x BU) }=a;rw[e]
theorem ACa(h:Rel Y X0 roots w0 s a w){x d k n g:Nat}{cs:List AV}(hx:AR s x = .sub d k 0 g)(hd:AR s d = .own k n cs)(q:g<=n)(u:∀ t,(t,x)∈roots->Fv (AR s t)=false) :
  Rel Y X0 roots w0 ((s.set d .dead).set x (.own k g (cs.take (g*k)))) a w:=by
 have o:=h.reg x;rw[hx] at o;obtain⟨_,hv⟩:=o;have p:=h.reg d;rw[hd] at p;have hp:=h.pass (x:=d) (d:=x) (r := .own k g (cs.take (g*k))) (v:=a.tmps.getD x BU) (by rw[hd];rfl) ?_ u ?_
 ·rw[Alz] at hp;exact hp
 ·rcases hv with ⟨j,l,_⟩ | ⟨b,z,cap,j,_,_,_,l⟩
  ·rw[j,l]
  ·rw[j,l,Lj];split <;> rfl
 ·intro f A;rcases hv with ⟨j,l,_,rfl⟩ | ⟨b,z,cap,j,_,M,N,l⟩
  ·refine .inl ⟨l,rfl,by simp⟩
  ·have B:a.tmps.getD x BU = .slice (some ⟨b,0,none⟩) g cap:=by
    rw[l,Lj];split <;> rfl
   rcases p with ⟨m,_⟩ | ⟨O,P,m,Q,C,D,E,G⟩
   ·rw[j] at m;cases m
   ·rw[j] at m;cases m;refine .inr ⟨b,cap,B,by omega,?_,D,?_,G⟩
    ·rw[AX,C,Kh (Bf _ q)]
    ·obtain⟨H,vs,e,I,R,J⟩:=E.mono (X':=f) fun c hc => .inl (A c hc);refine⟨fun y hy=>H y (C5 hy),vs,e,I,?_,fun i hi => ?_⟩
     ·have:F (cs.take (g*k))<=F cs:=by rw[AX];exact Ayk _ _
      omega
     ·obtain⟨v,K,L⟩:=J i (by simp at hi;omega);exact⟨v,K,by simpa using L⟩
theorem rV{Y a:Nat->Prop}{w:World}{b off:Nat}{cs:List AV}(h:GX Y a w b off cs)(k:Nat):GX Y a w b off (cs.take k) :=
 ⟨fun y hy=>h.1 y (C5 hy),fun i hi=>by
  obtain⟨v,c,d⟩:=h.2 i (by simp at hi;omega);exact⟨v,c,by simpa using d⟩⟩
set_option maxHeartbeats 4000000 in
theorem simK{o:Oper}{k:K}{i2:List Nat}{M:C4}{r:Reg}{l:List (Nat × Reg)}{K':Act->World->Prop}(h:Rel Y X0 roots w0 s a w)(hF:LJ P M)(C:H6 P o.op k=true)(T:∀ t∈i2,Fv (AR s t)=false)(E:Fq roots i2 o.dst k=true)
  (B:Cj M s k=some (r,l)) (L:∀ a' w',Rel Y X0 roots w0 (EI (CE s l) o.dst r) a' w'->K' a' w'):o.wp P a w K' Q:=by
 cases k
 case bad=>cases B
 case mov y =>
  simp only[Cj,A0] at B;obtain⟨x,hx,I⟩:=B;cases I;simp only[H6] at C;split at C
  ·rename_i z H;exact Ce (v:=a.eval z) (by simp[execOp,H]) (L _ _ (h.put (Bj T E) (D6 h C hx)))
  ·rename_i z H;exact Ce (v:=a.eval z) (by simp[execOp,H]) (L _ _ (h.put (Bj T E) (D6 h C hx)))
  ·cases C
 case pick c x y =>
  simp only[H6] at C;split at C
  ·rename_i c' O y' H;simp only[At] at C;obtain⟨⟨h1,h2⟩,V⟩:=C;simp only[Cj] at B;split at B
   ·rename_i hc;simp only[A0] at B;obtain⟨v,hv,I⟩:=B;cases I;have f9:=D6 h h1 hc;generalize g0:a.eval c'=cv at f9;cases f9;exact Ce (v:=a.eval O) (by simp[execOp,H,g0,asBool]) (L _ _ (h.put (Bj T E) (D6 h h2 hv)))
   ·rename_i hc;simp only[A0] at B;obtain⟨v,hv,I⟩:=B;cases I;have f9:=D6 h h1 hc;generalize g0:a.eval c'=cv at f9;cases f9;exact Ce (v:=a.eval y') (by simp[execOp,H,g0,asBool]) (L _ _ (h.put (Bj T E) (D6 h V hv)))
   ·cases B
  ·cases C
 case bin op x y =>
  simp only[H6] at C;split at C
  ·rename_i l0 t O y' t' H;simp only[At,BJ] at C;obtain⟨⟨rfl,h1⟩,h2⟩:=C;simp only[Cj] at B;split at B
   ·rename_i xa ya hx hy;simp only[A0] at B;obtain⟨z,hz,I⟩:=B;cases I;have U:=D6 h h1 hx;have b0:=D6 h h2 hy;generalize Z:a.eval O=xv at U;generalize a6:a.eval y'=yv at b0;cases xa <;> cases ya <;> simp only[Pm] at hz <;> try cases hz
    cases U;cases b0;obtain⟨v,W,hr⟩:=Aye (P:=P) (w:=w) (t:=t) (Y:=Y) (X:=fun b=>X0 b\/XS s a.tmps b) (by simpa only [Pm] using hz);exact Ce (v:=v) (by simp[execOp,H,Z,a6,W5,W]) (L _ _ (h.put (Bj T E) hr))
   ·cases B
  ·cases C
 case eqb neg x y =>
  simp only[H6] at C;split at C
  ·rename_i l0 t O y' t' H;simp only[At,BJ] at C;obtain⟨⟨⟨rfl,D⟩,h1⟩,h2⟩:=C;simp only[Cj] at B;split at B
   ·rename_i xa ya hx hy;cases B;have U:=D6 h h1 hx;have b0:=D6 h h2 hy;generalize Z:a.eval O=xv at U;generalize a6:a.eval y'=yv at b0;cases U;cases b0;have ht:P.underlying t=some .bool:=by
     unfold Zu at D;split at D
     ·assumption
     ·cases D
    have heq:(Op.equal t (.bool xa) (.bool ya)).run P w = .ok (xa==ya) w:=run_equalIn_bool' w 9999 t xa ya ht;refine Ce (v := .bool (if neg then !(xa==ya) else xa==ya)) ?_ (L _ _ (h.put (Bj T E) (.bool _)));cases neg
    ·simp only[CI,if_false,execOp,H,Z,a6,Bq,Ou,AQ,binOp,heq,BV]
    ·simp only[if_true,execOp,H,Z,a6,Bq,Ou,AQ,binOp,heq,BV]
   ·cases B
  ·cases C
 case un op x =>
  simp only[H6] at C;split at C
  ·rename_i l0 t O H;simp only[At,BJ] at C;obtain⟨rfl,h1⟩:=C;simp only[Cj] at B;split at B
   ·rename_i xa hx;simp only[A0] at B;obtain⟨z,hz,I⟩:=B;cases I;obtain⟨v,W,hr⟩:=ABx (P:=P) (D6 h h1 hx) hz;exact Ce (v:=v) (by simp[execOp,H,W]) (L _ _ (h.put (Bj T E) hr))
   ·cases B
  ·cases C
 case cv k x =>
  simp only[H6] at C;split at C
  ·rename_i src dst O H;simp only[At] at C;obtain⟨⟨D,h1⟩,h2⟩:=C;simp only[Cj] at B;split at B
   ·rename_i k' n hx;cases B;have U:=D6 h h2 hx;generalize Z:a.eval O=xv at U;cases U;split at h1
    ·rename_i a4 hd;simp only[BJ] at h1;subst h1;unfold lP at D;split at D
     ·rename_i ks hs;exact Ce (v := .int a4 (a4.wrap n)) (by simp[execOp,H,Z,convert,run_underlying hs,run_underlying hd,Conv.intToInt]) (L _ _ (h.put (Bj T E) (.int _ _)))
     ·cases D
    ·cases h1
   ·cases B
  ·cases C
 case new z ks =>
  simp only[H6] at C;split at C
  ·rename_i t H;cases B;obtain⟨v,hz,hc⟩:=PU C;obtain⟨h1,h2⟩:=XF E;simp only[FG];have W:(execOp a.eval o).run P w = .ok (.value (.pointer (some ⟨w.heap.size,0,none⟩))) (w.alloc (.cells v.cells t)):=by
    simp[execOp,H,Instr.alloc,hz,newVar,newRow]
   rw[W];exact L _ _ (R1 h h2 h1 (hc _ _ _))
  ·cases C
 case box x ks =>
  simp only[H6] at C;split at C
  ·rename_i t O H;obtain⟨h1,h2⟩:=XF E;have W:(execOp a.eval o).run P w = .ok (.value (.pointer (some ⟨w.heap.size,0,none⟩))) (w.alloc (.cells (a.eval O).cells t)):=by
    simp[execOp,H,Instr.box,newVar,newRow]
   simp only[FG,W];simp only[Cj] at B;split at B
   ·rename_i cs hx;cases B;have hc:=(PS (n:=F cs) (ys:=cs) (D6 h C hx) (by simp[HY])).2;exact L _ _ (R1 h h2 h1 hc)
   ·rename_i y hy hx;split at B
    ·rename_i hd;cases B;have hc:=(PS (n:=1) (ys:=[y]) (D6 h C hx) (by cases y <;> first | rfl | cases hd)).2
     exact L _ _ (R1 h h2 h1 hc)
    ·cases B
   ·cases B
  ·cases C
 case bld z ps =>
  simp only[H6] at C;split at C
  ·rename_i t c9 H;simp only[Cj,A0] at B;obtain⟨cs,d9,I⟩:=B;cases I;simp only[Ayd,At] at C;obtain⟨hz,C⟩:=C;obtain⟨v,f6,hc⟩:=PU hz;split at C
   ·rename_i fs e9;simp only[At] at C;obtain⟨i3,hp⟩:=C;have m5:(fs.mapM fun f=>do pure (f.offset,<- sizeOf f.type):Sem (Array (Nat × Nat))).run P w = .ok (fs.map fun f=>(f.offset,P.cellsOf f.type)) w:=by
     have i4:∀ (l:List Field),(∀ f∈l,(P.info? f.type).isSome=true)->(l.mapM fun f=>do pure (f.offset,<- sizeOf f.type):Sem (List (Nat × Nat))).run P w = .ok (l.map fun f=>(f.offset,P.cellsOf f.type)) w:=by
      intro l;induction l with
      | nil=>intro _;rfl
      | cons f l ih =>
       intro hl;obtain⟨i,hi⟩:=BA.1 (hl f (Ba ..));have b4:(sizeOf f.type).run P w = .ok (P.cellsOf f.type) w:=by simp[sizeOf,typeInfo,program,GE,hi,MH]
       simp only[OP,Bq,b4,AQ,BV,ih (fun g hg=>hl g (Bg _ hg)),CW]
     have:=i4 fs.toList (fun f hf=>by simp only[yY] at i3;exact i3 f (by simpa using hf));rw[W0];simp only[AJk,this,AQ];congr 1;apply Array.ext';simp
    obtain⟨a7,G,R⟩:=R2 h (place:=fun i=>(fs.map fun f=>(f.offset,P.cellsOf f.type))[i]?) (pl:=N6 P fs) (fun i off n hi=>by
     unfold N6 at hi;split at hi
     ·rename_i f hf;simp only[At,BJ] at hi;obtain⟨rfl,b4⟩:=hi;unfold LH at b4;split at b4
      ·rename_i ii b5;simp only[BJ] at b4;simp[hf,MH,b5,b4]
      ·cases b4
     ·cases hi) hp (hc _ _ w) d9
    have b9:N3 (fun i=>(fs.map fun f=>(f.offset,P.cellsOf f.type))[i]?) v.cells (c9.map fun p=>(p.1,a.eval p.2)).toList=some a7:=by rw[Ht];exact G
    refine Ce (v := .agg a7) ?_ (L _ _ (h.put (Bj T E) (.agg a7 cs R.1 R.2.1 R.2.2)));simp only[execOp,H,Zk,Bq,f6,AQ,run_underlying e9,m5,b9,BV]
   ·rename_i ln e e9;simp only[At] at C;obtain⟨i3,hp⟩:=C;obtain⟨ii,b5⟩:=BA.1 i3;have b4:(sizeOf e).run P w = .ok (P.cellsOf e) w:=by simp[sizeOf,typeInfo,program,GE,b5,MH]
    obtain⟨a7,G,R⟩:=R2 h (place:=fun i=>some (i*P.cellsOf e,P.cellsOf e)) (fun i off n hi=>by
     simp only[At,BJ] at hi;rw[hi.1,hi.2]) hp (hc _ _ w) d9
    have b9:N3 (fun i=>some (i*P.cellsOf e,P.cellsOf e)) v.cells (c9.map fun p=>(p.1,a.eval p.2)).toList=some a7:=by rw[Ht];exact G
    refine Ce (v := .agg a7) ?_ (L _ _ (h.put (Bj T E) (.agg a7 cs R.1 R.2.1 R.2.2)));simp only[execOp,H,Zk,Bq,f6,AQ,run_underlying e9,b4,b9,BV]
   ·cases C
  ·cases C
 case bls n z ps =>
  simp only[H6] at C;split at C
  ·rename_i t len c9 H;simp only[Cj,A0] at B;obtain⟨cs,d9,I⟩:=B;cases I;simp only[lO,At,BJ] at C;obtain⟨rfl,C⟩:=C;split at C
   ·rename_i e J;split at C
    ·rename_i ii b5;simp only[At,AZ] at C;obtain⟨⟨⟨h1,h2⟩,V⟩,hp⟩:=C;split at V
     ·rename_i zv f6;simp only[At,AZ,BJ] at V;obtain⟨⟨V,h4⟩,h5⟩:=V;have j0:0<F zv.cells.toList:=by simp only[DG];omega
      have j1:F zv.cells.toList=ii.size:=by simp only[DG];exact V
      obtain⟨hd,hg⟩:=PW (Y:=Y) (X:=fun b=>X0 b\/XS s a.tmps b) (w:=w) j0 len z h5 (by rw[h4,j1]);have g8:(sizeOf e).run P w = .ok ii.size w:=by simp[sizeOf,typeInfo,program,GE,b5]
      have j2:(zeroValue e).run P w = .ok zv w:=by simp[zeroValue,typeInfo,program,GE,b5,f6]
      have j3:EA Y (fun b=>X0 b\/XS s a.tmps b) w ((Jx (len*ii.size)).map fun j=>zv.cells[j % zv.cells.size]!) z:=by
       refine⟨hd,by simp[h4],fun i S g2 => ?_⟩;obtain⟨u,j4,j5⟩:=hg i g2;have G:zv.cells[i % zv.cells.size]! = u:=by
        have:zv.cells[i % zv.cells.size]? = some u:=by simpa using j4
        simp[getElem!_def,this]
       simp only[Ait,yU,G];exact j5
      obtain⟨a7,G,R⟩:=R2 h (place:=fun i=>some (i*ii.size,ii.size)) (fun i off n hi=>by
       simp only[At,BJ] at hi;rw[hi.1,hi.2]) hp j3 d9
      have b9:N3 (fun i=>some (i*ii.size,ii.size)) ((Jx (len*ii.size)).map fun j=>zv.cells[j % zv.cells.size]!) (c9.map fun p=>(p.1,a.eval p.2)).toList=some a7:=by rw[Ht];exact G
      have e3:len*ii.size=0->(Jx (len*ii.size)).map (fun j=>(#[]:Array Value)[j % (#[]:Array Value).size]!)=(Jx (len*ii.size)).map fun j=>zv.cells[j % zv.cells.size]! := fun hh=>by rw[hh];simp
      have g9:¬ len*ii.size>2^24:=by omega
      simp only[Fq,At] at E;obtain⟨d,N⟩:=BA.1 E.2;have W:(execOp a.eval o).run P w = .ok (.value (.slice (some ⟨w.heap.size,0,none⟩) len len)) (w.alloc (.cells a7 e)):=by
       by_cases f0:len*ii.size=0
       ·simp only[execOp,H,OU,Bq,run_underlying J,AQ,g8,g9,if_false,Ar f0,BV,e3 f0,b9,newRow,run_newObj_alloc]
       ·simp only[execOp,H,OU,Bq,run_underlying J,AQ,g8,g9,if_false,f0,BV,j2,b9,newRow,run_newObj_alloc]
      simp only[FG,W];refine L _ _ ?_;rw[N];refine Es (ks:=[]) h ((Jj _ _).alloc (A2 _) _) (fun u J => .inr (Bj T E.1 d N u J)) (fun I=>(by cases I)) (fun X S g2 => ?_);have i5:=(R.mono (X':=X) (fun b hb=>(S b hb).imp id X5)).world (w':=w.alloc (.cells a7 e)) (fun b _ hb=>eH _ _ _ hb);refine .sl w.heap.size 0 len len cs (fun i=>a7.getD i BU) i5.1 (A2 _) (fun _ hx => ?_) (fun _ hy=>Y3 _ (h.lowYw _ hy)) (fun i hi => ?_) (fun i hi => ?_)
      ·exact Y3 _ (h.lowX _ (g2 rfl _ hx))
      ·have i6:i<a7.size:=by rw[i5.2.1];exact hi
       have hb:(w.alloc (.cells a7 e)).heap[w.heap.size]? = some (.cells a7 e):=by show (w.heap.push _)[w.heap.size]? = _;simp
       rw[R6 hb];simp[i6]
      ·have i6:i<a7.size:=by rw[i5.2.1];exact hi
       have:=i5.2.2 i i6 hi;simpa [i6] using this
     ·cases V
    ·cases C
   ·cases C
  ·cases C
 case adr x d off =>
  simp only[H6] at C;split at C
  ·rename_i t O fi H;simp only[At] at C;obtain⟨h1,C⟩:=C;split at C
   ·rename_i fs e9;split at C
    ·rename_i f hf;simp only[At,BJ,Fh] at C;obtain⟨⟨rfl,h2⟩,V⟩:=C;simp only[Fq,At] at E;obtain⟨ii,b5⟩:=BA.1 V;have b4:∀ w,(sizeOf f.type).run P w = .ok ii.size w:=fun w=>by simp[sizeOf,typeInfo,program,GE,b5]
     have d1:¬ ii.size=0:=by
      intro e0;simp[LH,b5,e0] at h2
     have a2:a.eval O=a.tmps.getD x BU:=by
      cases O <;> simp only[CS] at h1 <;> try cases h1
      simp only[BJ] at h1;subst h1;rfl
     have W:∀ b o0,a.eval O = .pointer (some ⟨b,o0,none⟩)->(execOp a.eval o).run P w = .ok (.value (.pointer (some ⟨b,o0+f.offset,none⟩))) w:=by
      intro b o0 I;simp only[execOp,H,Instr.fieldAt,Bq,run_underlying e9,AQ,hf,I,MI,BV,fieldPlace,b4,d1,if_false,Ix]
     have D:=h.reg x;simp only[Cj] at B;cases hr:AR s x with
     | box cs =>
      rw[hr] at D B;dsimp only at B;split at B
      ·rename_i c0;subst c0;cases B;obtain⟨b,G,_,_⟩:=D;have:=W b 0 (by rw[a2,G]);refine Ce this (L _ _ ?_);exact Ry (p:=⟨b,0,none⟩) h (Bj T E.1) (Kt E.2) (by rw[G];rfl) rfl
      ·cases B
     | ptr d' o0 =>
      rw[hr] at D B;dsimp only at B;split at B
      ·rename_i c0;subst c0;cases B;obtain⟨_,p,G,R,e3⟩:=D;have:=W p.block (p.off+o0) (by rw[a2,e3]);refine Ce this (L _ _ ?_);have hp:=Ry (off:=o0+f.offset) h (Bj T E.1) (Kt E.2) G R;rw[<- E1] at hp;exact hp
      ·cases B
     | mem cs =>
      rw[hr] at D B;cases B;obtain⟨b,o0,G,R,e3⟩:=D;have:=W b o0 (by rw[a2,G]);refine Ce this (L _ _ ?_);refine Rx h (Bj T E.1) (fun d1=>R (fun hn=>d1 (by rw[hn];simp))) (e3.drop _)
     | val x=>rw[hr] at B;cases B
     | own _ _ _=>rw[hr] at B;cases B
     | agn _ _ _ _=>rw[hr] at B;cases B
     | bxl _=>rw[hr] at B;cases B
     | dup d=>rw[hr] at B;cases B
     | sub _ _ _ _=>rw[hr] at B;cases B
     | dead=>rw[hr] at B;cases B
    ·cases C
   ·cases C
  ·cases C
 case ld x d n one =>
  simp only[H6] at C;split at C
  ·rename_i t O H;simp only[At] at C;obtain⟨h1,h2⟩:=C;have a2:a.eval O=a.tmps.getD x BU:=by
    cases O <;> simp only[CS] at h1 <;> try cases h1
    simp only[BJ] at h1;subst h1;rfl
   have D:=h.reg x;have b6:∀ (b d2 off:Nat) (cs:List AV) (y:AV),a.eval O = .pointer (some ⟨b,d2+off,none⟩)->GX Y (fun b=>X0 b\/XS s a.tmps b) w b d2 cs->BQ cs off n one=some y ->
     (∀ a' w',Rel Y X0 roots w0 (EI s o.dst (.val y)) a' w'->K' a' w')->o.wp P a w K' Q:=by
    intro b d2 off cs y I hm ht c5;obtain⟨v,W,hr⟩:=rO (P:=P) h2 hm ht;refine Ce (v:=v) ?_ (c5 _ _ (h.put (Bj T E) hr));simp only[execOp,H,Instr.loadAt,I,MI,Bq,BV,AQ,W]
   simp only[Cj] at B;cases hr:AR s x with
   | box cs =>
    rw[hr] at D B;dsimp only at B;split at B
    ·simp only[A0] at B;obtain⟨y,hy,I⟩:=B;cases I;obtain⟨b,G,_,e3⟩:=D;exact b6 b 0 0 cs y (by rw[a2,G]) e3.mem hy L
    ·cases B
   | ptr d' off =>
    rw[hr] at D B;dsimp only at B;split at B
    ·rename_i hd;subst hd;have V:=h.reg d';cases a5:AR s d' with
     | box cs =>
      rw[a5] at V B;simp only[A0] at B;obtain⟨y,hy,I⟩:=B;cases I;obtain⟨b,G,_,e3⟩:=V;obtain⟨_,p,S,g2,g3⟩:=D;rw[G] at S;cases S;exact b6 b 0 off cs y (by rw[a2,g3]) e3.mem hy L
     | val x=>rw[a5] at B;cases B
     | ptr _ _=>rw[a5] at B;cases B
     | mem _=>rw[a5] at B;cases B
     | own k n cs =>
      rw[a5] at V B;simp only[A0] at B;obtain⟨y,hy,I⟩:=B;cases I;obtain⟨_,p,S,g2,g3⟩:=D;rcases V with ⟨G,_⟩ | ⟨b,cap,G,_,_,_,e3,_⟩
      ·rw[G] at S;cases S
      ·rw[G] at S;cases S;exact b6 b 0 off cs y (by rw[a2,g3]) e3.mem hy L
     | agn _ _ _ _=>rw[a5] at B;cases B
     | bxl _=>rw[a5] at B;cases B
     | dup d=>rw[a5] at B;cases B
     | sub _ _ _ _=>rw[a5] at B;cases B
     | dead=>rw[a5] at B;cases B
    ·cases B
   | mem cs =>
    rw[hr] at D B;simp only[A0] at B;obtain⟨y,hy,I⟩:=B;cases I;obtain⟨b,off,G,_,e3⟩:=D;exact b6 b off 0 cs y (by simp[a2,G]) e3 hy L
   | val x=>rw[hr] at B;cases B
   | own _ _ _=>rw[hr] at B;cases B
   | agn _ _ _ _=>rw[hr] at B;cases B
   | bxl _=>rw[hr] at B;cases B
   | dup d=>rw[hr] at B;cases B
   | sub _ _ _ _=>rw[hr] at B;cases B
   | dead=>rw[hr] at B;cases B
  ·cases C
 case st x d n v =>
  simp only[H6] at C;split at C
  ·rename_i t O v' H;simp only[At] at C;obtain⟨⟨h1,h2⟩,V⟩:=C;have a2:a.eval O=a.tmps.getD x BU:=by
    cases O <;> simp only[CS] at h1 <;> try cases h1
    simp only[BJ] at h1;subst h1;rfl
   have N:o.dst=none:=by simpa [Fq] using E
   have D:=h.reg x;simp only[Cj] at B;split at B
   ·cases B
   ·rename_i va m6;split at B
    ·cases B
    ·rename_i ys m7;obtain⟨hn,hc⟩:=PS (D6 h V m6) m7;have b6:∀ (b off:Nat) (cs a9:List AV),AR s d = .box cs->a.tmps.getD d BU = .pointer (some ⟨b,0,none⟩)->a.eval O = .pointer (some ⟨b,off,none⟩)->Di cs off ys=some a9 ->
       (∀ a' w',Rel Y X0 roots w0 (s.set d (.box a9)) a' w'->K' a' w')->o.wp P a w K' Q:=by
      intro b off cs a9 c8 d0 I hl c5;have h4:=h.reg d;rw[c8] at h4;obtain⟨b',G,hB,e3⟩:=h4;rw[d0] at G;cases G;have hX:(fun b=>X0 b\/XS s a.tmps b) b := .inr ⟨d,by rw[c8];rfl,by rw[d0];rfl⟩;obtain⟨w',W,S,g2,g3,g4,g5,g6,g7⟩:=gK (P:=P) (MN h2) e3 hX hc hn hl;have f1:(execOp a.eval o).run P w = .ok .skip w':=by
       simp only[execOp,H,eA,I,MI,Bq,BV,AQ,W]
      simp only[FG,f1,Fg];rw[N];refine c5 _ _ (Rel.store h c8 rfl rfl (by rw[d0];rfl) hB S g2 g3 g4 g5 (fun X hX => ?_));exact⟨b,d0,hB,g6.mono fun c hc => .inl ((hX c).1 hc)⟩
     have m8:∀ (b off k m:Nat) (cs a9:List AV),AR s d = .own k m cs->Bp (a.tmps.getD d BU)=some b->a.eval O = .pointer (some ⟨b,off,none⟩)->Di cs off ys=some a9 ->
       (∀ a' w',Rel Y X0 roots w0 (s.set d (.own k m a9)) a' w'->K' a' w')->o.wp P a w K' Q:=by
      intro b off k m cs a9 c8 d0 I hl c5;obtain⟨b',cap,G,R,e3,e4,e5,e6,h6⟩:=(h.ownLow c8).resolve_left (fun hh=>by rw[hh.1] at d0;cases d0);have m9:b'=b:=by rw[G] at d0;simpa [Bp,IB] using d0
      subst m9;obtain⟨w',W,S,g2,g3,g4,g5,g6,g7⟩:=gK (P:=P) (MN h2) e5 (.inr h6) hc hn hl;have f1:(execOp a.eval o).run P w = .ok .skip w':=by
       simp only[execOp,H,eA,I,MI,Bq,BV,AQ,W]
      simp only[FG,f1,Fg];rw[N];refine c5 _ _ (Rel.store h c8 rfl rfl d0 e4 S g2 g3 g4 g5 (fun X hX => ?_));refine .inr ⟨b',cap,G,R,by rw[(Pp hl).2.1];exact e3,e4,g6.mono fun c hc => .inl ((hX c).1 hc),g7 _ e6⟩
     rw[N] at L;cases hr:AR s x with
     | box cs =>
      rw[hr] at D B;dsimp only at B;split at B
      ·rename_i c0;subst c0;simp only[A0] at B;obtain⟨a9,hl,I⟩:=B;cases I;obtain⟨b,G,_,_⟩:=D;exact b6 b 0 cs a9 hr G (by rw[a2,G]) hl L
      ·cases B
     | ptr d' off =>
      rw[hr] at D B;dsimp only at B;split at B
      ·rename_i hd;subst hd;have h5:=h.reg d';cases a5:AR s d' with
       | box cs =>
        rw[a5] at h5 B;simp only[A0] at B;obtain⟨a9,hl,I⟩:=B;cases I;obtain⟨b,G,_,e3⟩:=h5;obtain⟨_,p,S,g2,g3⟩:=D;rw[G] at S;cases S;exact b6 b off cs a9 a5 G (by rw[a2,g3];simp) hl L
       | val x=>rw[a5] at B;cases B
       | ptr _ _=>rw[a5] at B;cases B
       | mem _=>rw[a5] at B;cases B
       | own k m cs =>
        rw[a5] at h5 B;simp only[A0] at B;obtain⟨a9,hl,I⟩:=B;cases I;obtain⟨_,p,S,g2,g3⟩:=D;rcases h5 with ⟨G,_⟩ | ⟨b,cap,G,_,_,_,e3,_⟩
        ·rw[G] at S;cases S
        ·rw[G] at S;cases S;exact m8 b off k m cs a9 a5 (by rw[G];rfl) (by rw[a2,g3];simp) hl L
       | agn _ _ _ _=>rw[a5] at B;cases B
       | bxl _=>rw[a5] at B;cases B
       | dup d=>rw[a5] at B;cases B
       | sub _ _ _ _=>rw[a5] at B;cases B
       | dead=>rw[a5] at B;cases B
      ·cases B
     | val x=>rw[hr] at B;cases B
     | mem _=>rw[hr] at B;cases B
     | own _ _ _=>rw[hr] at B;cases B
     | agn _ _ _ _=>rw[hr] at B;cases B
     | bxl _=>rw[hr] at B;cases B
     | dup d=>rw[hr] at B;cases B
     | sub _ _ _ _=>rw[hr] at B;cases B
     | dead=>rw[hr] at B;cases B
  ·cases C
 case fld x off n one =>
  simp only[H6] at C;split at C
  ·rename_i t O fi H;simp only[At] at C;obtain⟨h1,C⟩:=C;split at C
   ·rename_i fs e9;split at C
    ·rename_i f hf;simp only[At,BJ] at C;obtain⟨rfl,h2⟩:=C;simp only[Cj] at B;split at B
     ·rename_i cs hx;simp only[A0] at B;obtain⟨y,hy,I⟩:=B;cases I;have U:=D6 h h1 hx;generalize Z:a.eval O=xv at U;cases U with
      | agg vs _ hd hs hr =>
       obtain⟨v,W,hr⟩:=Ayi (P:=P) h2 ⟨hd,hs,hr⟩ hy;refine Ce (v:=v) ?_ (L _ _ (h.put (Bj T E) hr));simp only[execOp,H,Alp,Bq,run_underlying e9,AQ,hf,Z,asAgg,BV,W]
     ·cases B
    ·cases C
   ·cases C
  ·cases C
 case ixa x i k =>
  simp only[H6] at C;split at C
  ·rename_i t O i' H;simp only[At] at C;obtain⟨⟨h1,h2⟩,C⟩:=C;split at C
   ·rename_i e J;simp only[Cj] at B;split at B
    ·rename_i ki iv hi;have e7:=D6 h h2 hi;generalize e8:a.eval i'=ivv at e7;cases e7;have a2:a.eval O=a.tmps.getD x BU:=by
      cases O <;> simp only[CS] at h1 <;> try cases h1
      simp only[BJ] at h1;subst h1;rfl
     have D:=h.reg x;split at B
     ·rename_i n cs hr;rw[hr] at D;split at B
      ·rename_i hb;cases B;rw[<- a2] at D;generalize Z:a.eval O=xv at D;cases D with
       | nil0=>exact absurd hb (by omega)
       | e0 _ _=>exact absurd hb (by omega)
       | sl b off _ cap _ f hd hn hX hY hcell j6 =>
        have f7:GX Y (fun b=>X0 b\/XS s a.tmps b) w b off cs:=⟨hd,fun j hj=>⟨f j,hcell j hj,j6 j hj⟩⟩;refine Ce (v := .pointer (some ⟨b,off+iv.toNat*k,none⟩)) ?_ (L _ _ ?_)
        ·simp only[execOp,H,eB,Bq,e8,asIntOf,BV,AQ,run_underlying J,Z,hb,and_self,if_true,MN C,Ix]
        ·refine Rx h (Bj T E) (fun d1=>hX (fun hn=>d1 (by rw[hn];simp))) (f7.drop _)
      ·cases B
     ·cases B
    ·cases B
   ·cases C
  ·cases C
 case six x i =>
  simp only[H6] at C;split at C
  ·rename_i t O i' H;simp only[At] at C;obtain⟨⟨h1,h2⟩,C⟩:=C;split at C
   ·rename_i J;simp only[Cj] at B;split at B
    ·rename_i bs ki iv hx hi;simp only[A0] at B;obtain⟨c,hc,I⟩:=B;cases I;have e7:=D6 h h2 hi;generalize e8:a.eval i'=ivv at e7;cases e7;have U:=D6 h h1 hx;generalize Z:a.eval O=xv at U;cases U;refine Ce (v := .int .u8 c.toNat) ?_ (L _ _ (h.put (Bj T E) (.int _ _)));simp only[execOp,H,Instr.index,Bq,e8,asIntOf,BV,AQ,run_underlying J,Z,hc]
    ·cases B
   ·cases C
  ·cases C
 case ext x i =>
  simp only[H6] at C;split at C
  ·rename_i O i' H;simp only[At,BJ] at C;obtain⟨h1,rfl⟩:=C;simp only[Cj] at B;split at B
   ·rename_i vs hx;simp only[A0] at B;obtain⟨y,hy,I⟩:=B;cases I;have U:=D6 h h1 hx;generalize Z:a.eval O=xv at U;cases U with
    | tup us _ hs hr =>
     obtain⟨d3,n0⟩:=GY.1 hy;have l1:i'<us.size:=by omega
     refine Ce (v:=us[i']) ?_ (L _ _ (h.put (Bj T E) (n0 ▸ hr i' l1 d3)));simp only[execOp,H,ABk,Z,Ep l1,Bq,BV,AQ]
   ·cases B
  ·cases C
 case len x =>
  simp only[H6] at C;split at C
  ·rename_i a1 ts H;unfold lQ at C;split at C
   ·rename_i O t c6 d4;simp only[At] at C;obtain⟨h1,h2⟩:=C;have G:a1=#[O]:=by rw[<- DS (xs:=a1),c6]
    have R:ts=#[t]:=by rw[<- DS (xs:=ts),d4]
    subst G R;split at h2
    ·rename_i e J;simp only[Cj] at B;have b6:∀ (d2:Option Addr) (n c:Nat),a.eval O = .slice d2 n c->(∀ a' w',Rel Y X0 roots w0 (EI s o.dst (.val (.int .i64 n))) a' w'->K' a' w')->o.wp P a w K' Q:=by
      intro d2 n c I c5;refine Ce (v := .int .i64 n) ?_ (c5 _ _ (h.put (Bj T E) (.int _ _)));simp[execOp,H,resolve,invoke,builtin,Ayl,I,run_underlying J,goInt]
     split at B
     ·rename_i hx;cases B;have U:=D6 h h1 hx;generalize Z:a.eval O=xv at U;cases U;exact b6 _ _ _ Z L
     ·rename_i n cs hx;cases B;have U:=D6 h h1 hx;generalize Z:a.eval O=xv at U;cases U <;> exact b6 _ _ _ Z L
     ·cases B
    ·cases h2
   ·cases C
  ·cases C
 case mx xs =>
  simp only[H6] at C;split at C
  ·rename_i a1 ts H;simp only[Cj] at B;split at B
   ·rename_i k n l hx;simp only[A0] at B;obtain⟨m,hm,I⟩:=B;cases I;obtain⟨G,R⟩:=N7 h C hx;cases a8:a1.toList with
    | nil=>rw[a8] at G;simp at G
    | cons x0 d5 =>
     have b9:F d5=F l:=by rw[a8] at G;simpa using G
     have D:=R 0 (by rw[a8];simp) (by simp);simp only[a8,H4] at D;generalize Z:a.eval x0=xv at D;cases D;have j7:=rQ (P:=P) (Y:=Y) (X:=fun b=>X0 b\/XS s a.tmps b) (w:=w) (vs:=d5.map a.eval) (l:=l) (by simpa using b9) (fun i S g2=>by
      have:=R (i+1) (by rw[a8];simp at S |-;omega) (by simp;omega);simpa [a8] using this) hm
     refine Ce (v := .int k m) ?_ (L _ _ (h.put (Bj T E) (.int _ _)));have j8:(a1.map a.eval).toList = .int k n::d5.map a.eval:=by rw[Ht,a8,CW,Z]
     simp only[execOp,H,resolve,invoke,builtin,Builtin.max_,Bq,BV,AQ,j8,j7]
   ·cases B
  ·cases C
 case mn xs =>
  simp only[H6] at C;split at C
  ·rename_i a1 ts H;simp only[Cj] at B;split at B
   ·rename_i k n l hx;simp only[A0] at B;obtain⟨m,hm,I⟩:=B;cases I;obtain⟨G,R⟩:=N7 h C hx;cases a8:a1.toList with
    | nil=>rw[a8] at G;simp at G
    | cons x0 d5 =>
     have b9:F d5=F l:=by rw[a8] at G;simpa using G
     have D:=R 0 (by rw[a8];simp) (by simp);simp only[a8,H4] at D;generalize Z:a.eval x0=xv at D;cases D;have j7:=rR (P:=P) (Y:=Y) (X:=fun b=>X0 b\/XS s a.tmps b) (w:=w) (vs:=d5.map a.eval) (l:=l) (by simpa using b9) (fun i S g2=>by
      have:=R (i+1) (by rw[a8];simp at S |-;omega) (by simp;omega);simpa [a8] using this) hm
     refine Ce (v := .int k m) ?_ (L _ _ (h.put (Bj T E) (.int _ _)));have j8:(a1.map a.eval).toList = .int k n::d5.map a.eval:=by rw[Ht,a8,CW,Z]
     simp only[execOp,H,resolve,invoke,builtin,Builtin.min_,Bq,BV,AQ,j8,j7]
   ·cases B
  ·cases C
 case call f xs =>
  simp only[H6] at C;split at C
  ·rename_i f' a1 ts H;simp only[At,BJ] at C;obtain⟨⟨rfl,h1⟩,h2⟩:=C;simp only[Cj] at B;split at B
   ·rename_i vs hx;simp only[A0] at B;obtain⟨y,hy,I⟩:=B;cases I;obtain⟨G,R⟩:=N7 h h1 hx;split at h2
    ·rename_i fn d6;simp only[At,Fh] at h2;obtain⟨b7,d7⟩:=h2;have d8:¬ fn.body=none:=by intro e0;rw[e0] at b7;cases b7
     have b8:¬ fn.name = "runtime.NumGoroutine" := by simpa using d7
     have W:(execOp a.eval o).run P w = .ok (.enter f' (a1.map a.eval)) w:=by
      simp[execOp,H,resolve,K8,QX,invoke,callFunc,program,GE,d6,b8,d8]
     have f2:=hF.plain f' vs y hy Y (fun b=>X0 b\/XS s a.tmps b) w (a1.map a.eval) h.lowX h.lowYw (by simpa using G) (fun i S g2=>by
      have:=R i (by simpa using S) g2;simpa using this)
     simp only[FG,W,Fg];refine f2.mono fun e w' ⟨v,I,hb,hr⟩ => ?_;subst I;refine L _ _ ?_;cases N:o.dst with
     | none =>
      refine⟨h.dfr,h.size,h.below.trans hb,h.low,h.lowY,fun t => ?_,h.inj⟩;exact Ke.world (h.reg t) hb
     | some d =>
      refine Es (ks:=[]) h hb (fun u J => .inr (Bj T E d N u J)) (fun I=>(by cases I)) (fun X _ g2 => ?_);exact (hr.thawed (fun b hb=>IM (h.lowX b hb)) (fun b hb=>IM (h.lowYw b hb))).mono fun b hb => .inl (g2 rfl b hb)
    ·cases h2
   ·cases B
  ·cases C
 case clo f xs =>
  simp only[H6] at C;split at C
  ·rename_i f' a1 ts H;simp only[At,BJ] at C;obtain⟨⟨rfl,h1⟩,h2⟩:=C;simp only[Cj] at B;split at B
   ·rename_i vs hx;simp only[A0] at B;obtain⟨y,hy,I⟩:=B;cases I;obtain⟨G,R⟩:=N7 h h1 hx;split at h2
    ·rename_i fn d6;simp only[At,Fh] at h2;obtain⟨b7,d7⟩:=h2;have d8:¬ fn.body=none:=by intro e0;rw[e0] at b7;cases b7
     have b8:¬ fn.name = "runtime.NumGoroutine" := by simpa using d7
     have W:(execOp a.eval o).run P w = .ok (.enter f' (a1.map a.eval)) w:=by
      simp[execOp,H,resolve,K8,QX,invoke,callFunc,program,GE,d6,b8,d8]
     have f2:=hF.plain f' vs y hy Y (fun b=>X0 b\/XS s a.tmps b) w (a1.map a.eval) h.lowX h.lowYw (by simpa using G) (fun i S g2=>by
      have:=R i (by simpa using S) g2;simpa using this)
     simp only[FG,W,Fg];refine f2.mono fun e w' ⟨v,I,hb,hr⟩ => ?_;subst I;refine L _ _ ?_;simp only[Fq,At] at E;obtain⟨d,N⟩:=BA.1 E.2;rw[N];cases y
     case fresh k n cs =>
      simp only[KE] at hr;refine Es (ks:=[]) h hb (fun u J => .inr (Bj T E.1 d N u J)) (fun _ b hb=>(GD.block hr hb).1) (fun X S _ => ?_);exact SL h.below.from_ hr S
     case frs bb k n cs =>
      simp only[KE] at hr;refine Es (ks:=[]) h hb (fun u J => .inr (Bj T E.1 d N u J)) (fun _ b hb=>(M0.block hr hb).1) (fun X S _ => ?_);obtain⟨u,rfl,hr⟩:=hr;rw[Hx _ hr] at S;refine⟨u,rfl,SL h.below.from_ ?_ S⟩;rw[Hx _ hr] at hr;exact hr
     all_goals
      refine Es (ks:=[]) h hb (fun u J => .inr (Bj T E.1 d N u J)) (fun I=>(by cases I)) (fun X _ g2 => ?_);exact Rd.mono hr fun b hb => .inl (g2 rfl b hb)
    ·cases h2
   ·cases B
  ·cases C
 case brw f x d =>
  simp only[H6] at C;split at C
  ·rename_i f' a1 ts H;simp only[At,BJ] at C;obtain⟨⟨rfl,h1⟩,h2⟩:=C;simp only[Cj] at B;split at B
   ·rename_i d' n1;split at B
    ·rename_i j9;subst j9;split at B
     ·rename_i k n cs c8;split at B
      ·rename_i n3;split at B
       ·rename_i y hy;split at B
        ·rename_i n4;cases B;have l2:=h.reg x;rw[n1] at l2;have B:a.tmps.getD x BU=a.tmps.getD d' BU:=l2.2;have f3:=h.reg d';rw[c8] at f3;have k1:∀ b,Bp (a.tmps.getD d' BU)=some b->(X0 b\/XS s a.tmps b):=fun b hb => .inr ⟨d',by rw[c8];rfl,hb⟩;obtain⟨o1,ho1,hox⟩:∃ o1,a1.toList=[o1]/\CS o1 (.t x)=true:=by
          cases a8:a1.toList with
          | nil=>rw[a8] at h1;cases h1
          | cons o1 l =>
           rw[a8] at h1;simp only[JU,At] at h1;cases l with
           | nil=>exact⟨o1,rfl,h1.1⟩
           | cons _ _=>cases h1.2
         have n5:a.eval o1=a.tmps.getD d' BU:=by
          cases o1 <;> first | (cases hox;done) | skip
          rename_i m;simp only[CS,BJ] at hox;subst hox;rw[<- B];rfl
         split at h2
         ·rename_i fn d6;simp only[At,Fh] at h2;obtain⟨b7,d7⟩:=h2;have d8:¬ fn.body=none:=by intro e0;rw[e0] at b7;cases b7
          have b8:¬ fn.name = "runtime.NumGoroutine" := by simpa using d7
          have W:(execOp a.eval o).run P w = .ok (.enter f' (a1.map a.eval)) w:=by
           simp[execOp,H,resolve,K8,QX,invoke,callFunc,program,GE,d6,b8,d8]
          have c6:a1=#[o1]:=by
           apply Ama.1;rw[ho1]
          have n6:Rd (fun c=>Y c\/Bp (a.tmps.getD d' BU)=some c) (fun c=>(X0 c\/XS s a.tmps c)/\¬ Bp (a.tmps.getD d' BU)=some c) w (a.tmps.getD d' BU) (.sl n cs) :=
           rM f3 (fun b hb=>hb.1) (fun b hb=>hb.imp id (k1 b)) (fun b hb hx=>hx.2 hb) n3
          have f2:=hF.plain f' [.sl n cs] y hy (fun c=>Y c\/Bp (a.tmps.getD d' BU)=some c) (fun c=>(X0 c\/XS s a.tmps c)/\¬ Bp (a.tmps.getD d' BU)=some c) w (a1.map a.eval)
           (fun b hb=>h.lowX b hb.1) (fun b hb=>hb.elim (h.lowYw b) (fun hb=>h.lowX b (k1 b hb))) (by rw[c6];simp) (fun i S g2=>by
            have hi:i=0:=by simp at g2;exact g2
            subst hi;subst c6;simp only[List.map_toArray,CW,HC,QT,H4];rw[n5];exact n6)
          simp only[FG,W,Fg];refine f2.mono fun e w' ⟨v,I,hb,hr⟩ => ?_;subst I;refine L _ _ ?_;have n7:Rd Y (fun b=>X0 b\/XS s a.tmps b) w' v (N5 y):=by
           refine (hr.thawed (fun b hb=>IM (h.lowX b hb.1)) (fun b hb=>IM (hb.elim (h.lowYw b) (fun hb=>h.lowX b (k1 b hb))))).back n4 (fun b hb => ?_) (fun b hb => .inl hb);by_cases hq:Bp (a.tmps.getD d' BU)=some b
           ·exact .inr (.inr hq)
           ·exact .inl ⟨hb,hq⟩
          cases N:o.dst with
          | none =>
           refine⟨h.dfr,h.size,h.below.trans hb,h.low,h.lowY,fun t => ?_,h.inj⟩;exact Ke.world (h.reg t) hb
          | some d =>
           refine Es (ks:=[]) h hb (fun u J => .inr (Bj T E d N u J)) (fun I=>(by cases I)) (fun X _ g2 => ?_);exact n7.mono fun b hb => .inl (g2 rfl b hb)
         ·cases h2
        ·cases B
       ·cases B
      ·cases B
     ·cases B
    ·cases B
   ·cases B
  ·cases C
 case cpy x =>
  have hx:=Ov (a:=a) (P:=P) (w:=w) C;simp only[Fq,At] at E;simp only[Cj] at B;have D:=h.reg x;split at B
  ·rename_i v hr;cases B;rw[hr] at D;exact Ce hx (L _ _ (h.put (Bj T E.1) D))
  ·cases B;exact Ce hx (L _ _ (h.putDup (Bj T E.1) (Kt E.2)))
  ·cases B
 case cpo x =>
  have hx:=Ov (a:=a) (P:=P) (w:=w) C;simp only[Fq,At] at E;simp only[Cj] at B;cases B;exact Ce hx (L _ _ (h.putDup (Bj T E.1) (Kt E.2)))
 case tra x =>
  have hx:=Ov (a:=a) (P:=P) (w:=w) C;simp only[Fq,At] at E;simp only[Cj] at B;have D:=h.reg x;split at B
  ·rename_i v hr;cases B;rw[hr] at D;exact Ce hx (L _ _ (h.put (Bj T E.1) D))
  ·rename_i k n cs hr;cases B;obtain⟨d,N⟩:=BA.1 E.2;refine Ce hx (L _ _ ?_);rw[N];rcases h.ownLow hr with ⟨G,rfl,rfl⟩ | ⟨b,cap,G,R,e3,e4,e5,e6,h6⟩
   ·rw[G];exact Nl (ow:=true) (ks:=[x]) h (fun u J => .inr (Bj T E.1 d N u J))
   refine Rel.shift h hr (b:=b) (by rw[G];rfl) (fun u J=>Bj T E.1 d N u J) rfl rfl rfl rfl (fun _ _=>rfl) (fun _=>by rw[G];rfl) (fun X S _ => ?_);exact .inr ⟨b,cap,G,R,e3,e4,e5.mono fun c hc => .inl (S c hc),e6⟩
  ·rename_i b k n cs hr;cases B;obtain⟨d,N⟩:=BA.1 E.2;rw[hr] at D;refine Ce hx (L _ _ ?_);rw[N];exact h.pass (by rw[hr];rfl) rfl (fun u J=>Bj T E.1 d N u J) (fun X S=>M0.mono D fun c hc => .inl (S c hc))
  ·cases B
 case frz x =>
  have hx:=Ov (a:=a) (P:=P) (w:=w) C;simp only[Cj] at B;have D:=h.reg x;split at B
  ·rename_i v hr;cases B;rw[hr] at D;exact Ce hx (L _ _ (h.put (Bj T E) D))
  ·rename_i k n cs hr;cases B;have hf:=h.freeze hr;have h1:=hf.reg x;have d3:x<F s:=by
    rcases CN x (F s) with d3 | k2
    ·exact d3
    ·simp only[AR,Ad,Bi k2] at hr;cases hr
   rw[Ef,Ar ⟨rfl,d3⟩] at h1;refine Ce hx (L _ _ (hf.put (fun d hd t ht => ?_) h1));have i7:=Bj T E d hd t ht;rw[Ef];split
   ·rfl
   ·exact i7
  ·cases B
 case mks z n =>
  simp only[H6] at C;split at C
  ·rename_i t l c H;simp only[At] at C;obtain⟨⟨⟨h1,h2⟩,V⟩,h4⟩:=C;simp only[Fq,At] at E;obtain⟨d,N⟩:=BA.1 E.2;simp only[Cj] at B;split at B
   ·rename_i kk m hn;split at B
    ·rename_i hb;cases B;have hl:=D6 h h1 hn;have hc:=D6 h h2 hn;generalize n8:a.eval l=lv at hl;generalize g0:a.eval c=cv at hc;cases hl;cases hc;obtain⟨e,cells,W,k3⟩:=Ayh (P:=P) (Y:=Y) (X:=fun b=>X0 b\/XS s a.tmps b) (w:=w) (kl:=kk) (kc:=kk) V h4 hb.1 hb.2;have f1:(execOp a.eval o).run P w = .ok (.value (.slice (some ⟨w.heap.size,0,none⟩) m.toNat m.toNat)) (w.alloc (.cells cells e)):=by
      simp only[execOp,H,n8,g0,Bq,W,AQ,BV]
     simp only[FG,f1,Fg];refine L _ _ ?_;rw[N];exact rU h (fun u J=>Bj T E.1 d N u J) k3 (OT z m.toNat)
    ·cases B
   ·cases B
  ·cases C
 case blo k n z ps =>
  simp only[H6] at C;split at C
  ·rename_i t len c9 H;simp only[At] at C;obtain⟨C,n9⟩:=C;simp only[Cj,A0] at B;obtain⟨cs,d9,I⟩:=B;cases I;simp only[lO,At,BJ] at C;obtain⟨rfl,C⟩:=C;obtain⟨e',i',q8,l3,hi',o2,q9,_,_,_⟩:=FQ n9;split at C
   ·rename_i e J;split at C
    ·rename_i ii b5;obtain rfl:e=e':=by rw[J] at l3;cases l3;rfl
     obtain rfl:ii=i':=by rw[b5] at hi';cases hi';rfl
     simp only[At,AZ] at C;obtain⟨⟨⟨h1,h2⟩,V⟩,hp⟩:=C;split at V
     ·rename_i zv f6;simp only[At,AZ,BJ] at V;obtain⟨⟨V,h4⟩,h5⟩:=V;have j0:0<F zv.cells.toList:=by simp only[DG];omega
      have j1:F zv.cells.toList=ii.size:=by simp only[DG];exact V
      obtain⟨hd,hg⟩:=PW (Y:=Y) (X:=fun b=>X0 b\/XS s a.tmps b) (w:=w) j0 len z h5 (by rw[h4,j1]);have g8:(sizeOf e).run P w = .ok ii.size w:=by simp[sizeOf,typeInfo,program,GE,b5]
      have j2:(zeroValue e).run P w = .ok zv w:=by simp[zeroValue,typeInfo,program,GE,b5,f6]
      have j3:EA Y (fun b=>X0 b\/XS s a.tmps b) w ((Jx (len*ii.size)).map fun j=>zv.cells[j % zv.cells.size]!) z:=by
       refine⟨hd,by simp[h4],fun i S g2 => ?_⟩;obtain⟨u,j4,j5⟩:=hg i g2;have G:zv.cells[i % zv.cells.size]! = u:=by
        have:zv.cells[i % zv.cells.size]? = some u:=by simpa using j4
        simp[getElem!_def,this]
       simp only[Ait,yU,G];exact j5
      obtain⟨a7,G,R⟩:=R2 h (place:=fun i=>some (i*ii.size,ii.size)) (fun i off n hi=>by
       simp only[At,BJ] at hi;rw[hi.1,hi.2]) hp j3 d9
      have b9:N3 (fun i=>some (i*ii.size,ii.size)) ((Jx (len*ii.size)).map fun j=>zv.cells[j % zv.cells.size]!) (c9.map fun p=>(p.1,a.eval p.2)).toList=some a7:=by rw[Ht];exact G
      have e3:len*ii.size=0->(Jx (len*ii.size)).map (fun j=>(#[]:Array Value)[j % (#[]:Array Value).size]!)=(Jx (len*ii.size)).map fun j=>zv.cells[j % zv.cells.size]! := fun hh=>by rw[hh];simp
      have g9:¬ len*ii.size>2^24:=by omega
      simp only[Fq,At] at E;obtain⟨d,N⟩:=BA.1 E.2;have W:(execOp a.eval o).run P w = .ok (.value (.slice (some ⟨w.heap.size,0,none⟩) len len)) (w.alloc (.cells a7 e)):=by
       by_cases f0:len*ii.size=0
       ·simp only[execOp,H,OU,Bq,run_underlying J,AQ,g8,g9,if_false,Ar f0,BV,e3 f0,b9,newRow,run_newObj_alloc]
       ·simp only[execOp,H,OU,Bq,run_underlying J,AQ,g8,g9,if_false,f0,BV,j2,b9,newRow,run_newObj_alloc]
      simp only[FG,W,Fg];refine L _ _ ?_;rw[N];refine rU h (fun u J=>Bj T E.1 d N u J) R ?_;rw[TI d9,h4,o2]
     ·cases V
    ·cases C
   ·cases C
  ·cases C
 case apd ow x y k A =>
  simp only[H6] at C;split at C
  ·rename_i a1 ts H;unfold W3 at C;split at C
   ·rename_i O y' t t' c6 d4;simp only[At] at C;obtain⟨⟨⟨⟨h1,h2⟩,V⟩,h4⟩,h5⟩:=C;have G:a1=#[O,y']:=by rw[<- DS (xs:=a1),c6]
    have R:ts=#[t,t']:=by rw[<- DS (xs:=ts),d4]
    subst G R;simp only[Fq,At] at E;obtain⟨d,N⟩:=BA.1 E.2;have c7:∀ u,(u,d)∈roots->Fv (AR s u)=false:=fun u J=>Bj T E.1 d N u J;have a3:∀ {v:Value} {w':World},(Dr #[t,t'] o.type #[a.eval O,a.eval y']).run P w = .ok v w'->(execOp a.eval o).run P w = .ok (.value v) w':=by
     intro v w' hh;simp[execOp,H,resolve,invoke,builtin,hh]
    simp only[Cj] at B;split at B
    ·-- nothing to append
     rename_i hy;have b0:=D6 h h2 hy;generalize a6:a.eval y'=yv at b0 a3;cases b0;split at B
     ·rename_i U;cases B;have h7:=D6 h h1 (Ais U);generalize Z:a.eval O=xv at h7 a3;cases h7;have hr:=a3 (append_nil (P:=P) (w:=w) (ty:=o.type) V h4);exact Ce hr (L _ _ (h.put (Bj T E.1) .nil))
     ·rename_i k' n cs U;obtain⟨nx,rfl⟩:=rT U;simp only[Opd.reg] at U;split at B
      ·rename_i k4;subst k4;cases B;rcases h.ownLow U with ⟨G,rfl,rfl⟩ | ⟨b,cap,G,R,e3,e4,e5,e6,h6⟩
       ·have Z:a.eval O = .slice none 0 0:=by rw[EK h1,G]
        rw[Z] at a3;have hr:=a3 (append_nil (P:=P) (w:=w) (ty:=o.type) V h4);refine Ce hr (L _ _ ?_);rw[N];exact Nl (ks:=[nx]) h (fun u J => .inr (c7 u J))
       have Z:a.eval O = .slice (some ⟨b,0,none⟩) n cap:=by rw[EK h1,G]
       rw[Z] at a3;have hr:=a3 (PV (P:=P) (w:=w) (ty:=o.type) V h4 R);refine Ce hr (L _ _ ?_);rw[N];refine Rel.shift h U (b:=b) (by rw[G];rfl) c7 rfl rfl rfl rfl (fun _ _=>rfl) (fun _=>rfl) (fun X S g2 => ?_);exact SM (.inr ⟨b,cap,rfl,R,e3,e4,e5.mono fun c hc => .inl (S c hc),e6⟩) (fun I=>by subst I;exact fun c hc=>by cases hc;exact g2 rfl) h.lowY
      ·cases B
     ·cases B
    ·rename_i m ys hy;have b0:=Air (D6 h h2 hy);split at B
     ·rename_i f8;have l4:a.eval O = .slice none 0 0->m<=A->∀ ks:List Nat,(∀ a' w',Rel Y X0 roots w0 (EI (CE s (ks.map fun u=>(u,Reg.dead))) (some d) (if ow then .own k m ys else .val (.sl m ys))) a' w'->K' a' w')->o.wp P a w K' Q:=by
       intro Z l5 ks c5;rw[Z] at a3;rcases Gk m with hm | hm
       ·subst hm;have k5:ys=[]:=AU (by simpa using f8);subst k5;have hr:(execOp a.eval o).run P w = .ok (.value (.slice none 0 0)) w:=by
         rcases b0 with ⟨_,_,a6 | ⟨p,c,a6⟩⟩ | ⟨b,off,cap,a6,_⟩
         ·rw[a6] at a3;exact a3 (append_nil (P:=P) (w:=w) (ty:=o.type) V h4)
         ·rw[a6] at a3;exact a3 (MP (P:=P) (w:=w) (ty:=o.type) V h4)
         ·rw[a6] at a3;exact a3 (MP (P:=P) (w:=w) (ty:=o.type) V h4)
        refine Ce hr (c5 _ _ ?_);rw[N];exact Nl (ks:=ks) h (fun u J => .inr (c7 u J))
       ·obtain⟨v',w',W,k6,f3⟩:=MO (P:=P) (ty:=o.type) (n:=0) (cs:=[]) V h4 h5 (.inl ⟨rfl,rfl,rfl,hm⟩) (by simp) b0 hm f8 (by omega);have hr:=a3 W;simp only[FG,hr,Fg];refine c5 _ _ ?_;rw[N];simp only[Cv,Hg] at f3;exact N8 (ks:=ks) h k6 (fun u J => .inr (c7 u J)) f3
      split at B
      ·rename_i U;have h7:=D6 h h1 (Ais U);generalize Z:a.eval O=xv at h7;cases h7;split at B
       ·rename_i l5;cases B;rw[N] at L;exact l4 Z l5 [] L
       ·cases B
      ·rename_i k' n cs U;obtain⟨nx,rfl⟩:=rT U;simp only[Opd.reg] at U;split at B
       ·rename_i k4;obtain⟨rfl,b8⟩:=k4;cases B;rcases h.ownLow U with ⟨G,rfl,rfl⟩ | ⟨b,cap,G,R,e3,e4,e5,e6,h6⟩
        ·rw[N] at L;simp only[Cv,Hg] at L;exact l4 (by rw[EK h1,G]) (by omega) [nx] L
        have Z:a.eval O = .slice (some ⟨b,0,none⟩) n cap:=by rw[EK h1,G]
        rw[Z] at a3;by_cases l6:m=0
        ·subst l6;have k5:ys=[]:=AU (by simpa using f8);subst k5;have hr:(execOp a.eval o).run P w = .ok (.value (.slice (some ⟨b,0,none⟩) n cap)) w:=by
          rcases b0 with ⟨_,_,a6 | ⟨p,c,a6⟩⟩ | ⟨b',r0,o3,a6,_⟩
          ·rw[a6] at a3;exact a3 (PV (P:=P) (w:=w) (ty:=o.type) V h4 R)
          ·rw[a6] at a3;exact a3 (LK (P:=P) (w:=w) (ty:=o.type) V h4 R)
          ·rw[a6] at a3;exact a3 (LK (P:=P) (w:=w) (ty:=o.type) V h4 R)
         refine Ce hr (L _ _ ?_);rw[N];refine Rel.shift h U (b:=b) (by rw[G];rfl) c7 rfl rfl rfl rfl (fun _ _=>rfl) (fun _=>rfl) (fun X S g2 => ?_);simp only[Gb,Ld] at g2 |-;exact SM (.inr ⟨b,cap,rfl,R,e3,e4,e5.mono fun c hc => .inl (S c hc),e6⟩) (fun I=>by subst I;exact fun c hc=>by cases hc;exact g2 rfl) h.lowY
        by_cases l7:n+m<=cap
        ·obtain⟨w',W,S,g2,g3,g4,g5,g6,g7⟩:=Va (P:=P) (ty:=o.type) V h4 l7 (Y:=Y) (X:=fun b=>X0 b\/XS s a.tmps b) (.inr h6) e5 e6 e3 b0 l6 f8;have hr:=a3 W;simp only[FG,hr,Fg];refine L _ _ ?_;rw[N];refine Rel.shift h U (b:=b) (by rw[G];rfl) c7 S g2 g3 g4 g5 (fun _=>rfl) (fun X q1 q2 => ?_);exact SM (.inr ⟨b,cap,rfl,l7,by rw[B0,e3,f8,DU],e4,g6.mono fun c hc => .inl (q1 c hc),g7⟩) (fun I=>by subst I;exact fun c hc=>by cases hc;exact q2 rfl) h.lowY
        ·obtain⟨v',w',W,k6,f3⟩:=MO (P:=P) (ty:=o.type) V h4 h5 (.inr ⟨b,cap,rfl,by omega,e5.mem⟩) e3 b0 (by omega) f8 b8;have hr:=a3 W;simp only[FG,hr,Fg];refine L _ _ ?_;rw[N];exact N8 (ks:=[nx]) h k6 (fun u J => .inr (c7 u J)) f3
       ·cases B
      ·cases B
     ·cases B
    ·cases B
   ·cases C
  ·cases C
 case sli x lo hi mx k =>
  simp only[H6] at C;split at C
  ·rename_i t O lo' hi' o4 H;simp only[At] at C;obtain⟨⟨⟨⟨h1,h2⟩,V⟩,h4⟩,h5⟩:=C;have a3:∀ {v:Value},(PN t (a.eval O) (lo'.map a.eval) (hi'.map a.eval) (o4.map a.eval)).run P w = .ok v w->(execOp a.eval o).run P w = .ok (.value v) w:=by
    intro v hh;simp only[execOp,H,Bq,hh,AQ,BV]
   simp only[Cj] at B;split at B
   ·rename_i hx;have U:=D6 h h1 hx;generalize Z:a.eval O=xv at U a3;cases U;split at B
    ·rename_i b1 b2 b3;split at B
     ·rename_i c4;cases B;have hb:=Lk (P:=P) (w:=w) (len:=0) (cap:=0) (m:=0) (h:=0) (l:=0) (ABz h h4 b1 rfl (A2 _)) (lW h V h4 b2 c4 (fun _=>A2 _) (fun _=>A2 _)) (YJ h h2 b3 (A2 _));have hr:=a3 (Ll h5 hb);exact Ce hr (L _ _ (h.put (Bj T E) .nil))
     ·cases B
    ·cases B
   ·rename_i n cs hx;have U:=D6 h h1 hx;split at B
    ·rename_i m hh l b1 b2 b3;split at B
     ·rename_i hc;cases B;obtain⟨c1,c2,c3,c4⟩:=hc;obtain⟨ad,cap,hv,r3,l8,o5⟩:=Aly (k:=k) (m:=if mx.isSome then m else Ayj (a.eval O)) U c1 (by omega);rw[hv] at a3 l8;have hb:=Lk (P:=P) (w:=w) (len:=n) (cap:=cap) (m:=if mx.isSome then m else cap) (h:=hh) (l:=l) (AHu h h4 b1 (by omega)) (lW h V h4 b2 c4 (fun hs=>by rw[Ar hs];exact c2) (fun hs=>by rw[Aw hs];omega)) (YJ h h2 b3 c1);have hr:=a3 (Ll h5 hb);refine Ce hr (L _ _ (h.put (Bj T E) (l8 ?_ (fun hn => ?_))))
      ·simp only[Ayj];split
       ·exact c2
       ·omega
      ·have D:=o5 hn;simp only[Ayj];split
       ·omega
       ·exact D
     ·cases B
    ·cases B
   ·cases B
  ·cases C
 case nlo k =>
  simp only[H6] at C;simp only[Cj] at B;cases B;simp only[Fq,At] at E;obtain⟨d,N⟩:=BA.1 E.2;have hr:(execOp a.eval o).run P w = .ok (.value (.slice none 0 0)) w:=by
   split at C
   ·rename_i H;simp[execOp,H,QX]
   ·rename_i H;simp[execOp,H,QX]
   ·cases C
  refine Ce hr (L _ _ ?_);rw[N];exact Nl (ow:=true) (ks:=[]) h (fun u J => .inr (Bj T E.1 d N u J))
 case bdo y x ls =>
  simp only[H6] at C;split at C
  ·rename_i t c9 H;obtain⟨a',O,o6,h1,h2,W⟩:=Alw C;simp only[Fq,At] at E;obtain⟨d,N⟩:=BA.1 E.2;simp only[Cj] at B;split at B
   ·rename_i b hb;split at B
    ·rename_i k n cs hr;split at B
     case isFalse=>cases B
     rename_i k7;cases B;have h8:∀ t∈i2++ls,Fv (AR s t)=false:=XE T k7;have h9:=D6 h h1 hb;generalize i9:a.eval a'=bv at h9;cases h9;have a2:=EK (a:=a) h2;have D:=h.reg x;rw[hr] at D;have hcell:(a.tmps.getD x BU).cells=#[a.tmps.getD x BU]:=by
      rcases D with ⟨e,_⟩ | ⟨_,_,e,_⟩ <;> rw[e] <;> rfl
     have o7:(c9.map fun p=>(p.1,a.eval p.2))=#[(0,.bool b),(1,a.tmps.getD x BU)]:=by
      apply Ama.1;rw[Ht,o6];simp[i9,a2]
     refine Ce (v := .agg #[.bool b,a.tmps.getD x BU]) ?_ (L _ _ ?_)
     ·simp only[execOp,H,Bq];rw[show (c9.map fun x:Nat × Operand=>match x with | (i,x)=>(i,a.eval x))=(c9.map fun p=>(p.1,a.eval p.2)) from rfl,o7,W b _ hcell w]
      rfl
     ·rw[N];exact h.pass (by rw[hr];rfl) (Hx (.st b) D) (fun u J=>Bj h8 E.1 d N u J) (fun X S=>⟨_,rfl,GD.mono D fun c hc => .inl (S c hc)⟩)
    ·cases B
   ·cases B
  ·cases C
 case stl x v =>
  simp only[H6] at C;split at C
  ·rename_i t O v' H;simp only[At] at C;obtain⟨⟨h1,h2⟩,V⟩:=C;simp only[Fq,At,Option.isNone_iff_eq_none,Lf,AZ] at E;obtain⟨N,i0⟩:=E;simp only[Cj] at B;split at B
   ·rename_i cs hr;split at B
    ·rename_i bb k n ds o8;split at B
     ·rename_i d9;cases B;have a2:=EK (a:=a) h1;have o9:=EK (a:=a) V;have D:=h.reg x;rw[hr] at D;obtain⟨b,G,hB,hd,vs,a0,R,e3,_⟩:=D;have h5:=h.reg v;rw[o8] at h5;obtain⟨u,J,h5⟩:=h5;have hcell:u.oneCell'=true:=by
       rcases h5 with ⟨e,_⟩ | ⟨_,_,e,_⟩ <;> rw[e] <;> rfl
      have b4:=MN h2;have p0:=run_storeCells_at (P:=P) b 0 a0 [.bool bb,u] 0 vs w R (by simp;omega) (by
       intro y hy;simp only[BW,Y6,or_false] at hy;rcases hy with rfl | rfl
       ·rfl
       ·exact hcell)
      have f1:(execOp a.eval o).run P w = .ok .skip (w.setRow b (vs.toList.take (0+0)++[.bool bb,u]++vs.toList.drop (0+0+F [YI bb,u])).toArray):=by
       have k3:(Value.agg #[.bool bb,u]).cells=#[.bool bb,u]:=rfl;simp only[execOp,H,eA,a2,G,o9,J,rN,MI,Bq,BV,AQ,storeVar,b4,k3];simp only[KD,BM,IP,ne_eq,not_true_eq_false,if_false];rw[p0];rfl
      simp only[FG,f1,Fg];rw[N] at L |-;refine L _ _ (Rel.store (w':=w.setRow b _) h hr rfl rfl (by rw[G];rfl) hB rfl rfl rfl (ML _ _ _) (fun c hc=>JK _ _ _ _ hc) (fun X hX => ?_));have d3:b<w.heap.size:=(Gh.1 R).1;refine⟨i0,b,G,hB,by rw[ML];exact d3,fun i hi => ?_⟩;rw[R6 (setRow_heap w b vs _ a0 (0,0) R),J];match i,hi with
      | 0,_=>rfl
      | 1,_=>rfl
     ·cases B
    ·cases B
   ·cases B
  ·cases C
 case cln f xs ls =>
  simp only[H6] at C;split at C
  ·rename_i f' a1 ts H;simp only[At,BJ] at C;obtain⟨⟨rfl,h1⟩,h2⟩:=C;simp only[Cj] at B;split at B
   ·rename_i vs hx;split at B
    case isFalse=>cases B
    rename_i k7;have h8:∀ t∈i2++ls,Fv (AR s t)=false:=XE T k7;simp only[A0] at B;obtain⟨y,hy,I⟩:=B;cases I;obtain⟨G,R⟩:=N7 h h1 hx;unfold YH at h2;split at h2
    ·rename_i fn d6;simp only[At,Fh] at h2;obtain⟨b7,d7⟩:=h2;have d8:¬ fn.body=none:=by intro e0;rw[e0] at b7;cases b7
     have b8:¬ fn.name = "runtime.NumGoroutine" := by simpa using d7
     have W:(execOp a.eval o).run P w = .ok (.enter f' (a1.map a.eval)) w:=by
      simp[execOp,H,resolve,K8,QX,invoke,callFunc,program,GE,d6,b8,d8]
     have f2:=hF.plain f' vs y hy Y (fun b=>X0 b\/XS s a.tmps b) w (a1.map a.eval) h.lowX h.lowYw (by simpa using G) (fun i S g2=>by
      have:=R i (by simpa using S) g2;simpa using this)
     simp only[FG,W,Fg];refine f2.mono fun e w' ⟨v,I,hb,hr⟩ => ?_;subst I;refine L _ _ ?_;simp only[Fq,At] at E;obtain⟨d,N⟩:=BA.1 E.2;rw[N];cases y
     case fresh k n cs =>
      simp only[KE] at hr;refine Es (ks:=[]) h hb (fun u J => .inr (Bj h8 E.1 d N u J)) (fun _ b hb=>(GD.block hr hb).1) (fun X S _ => ?_);exact SL h.below.from_ hr S
     case frs bb k n cs =>
      simp only[KE] at hr;refine Es (ks:=[]) h hb (fun u J => .inr (Bj h8 E.1 d N u J)) (fun _ b hb=>(M0.block hr hb).1) (fun X S _ => ?_);obtain⟨u,rfl,hr⟩:=hr;rw[Hx _ hr] at S;refine⟨u,rfl,SL h.below.from_ ?_ S⟩;rw[Hx _ hr] at hr;exact hr
     all_goals
      refine Es (ks:=[]) h hb (fun u J => .inr (Bj h8 E.1 d N u J)) (fun I=>(by cases I)) (fun X _ g2 => ?_);exact Rd.mono hr fun b hb => .inl (g2 rfl b hb)
    ·cases h2
   ·cases B
  ·cases C
 case fdo x =>
  simp only[H6] at C;split at C
  ·rename_i t O H;simp only[At] at C;obtain⟨h1,h2⟩:=C;simp only[Fq,At] at E;obtain⟨d,N⟩:=BA.1 E.2;simp only[Cj] at B;split at B
   ·rename_i b k n cs hr;cases B;have a2:=EK (a:=a) h1;have D:=h.reg x;rw[hr] at D;obtain⟨u,J,D⟩:=D;refine Ce (v:=u) ?_ (L _ _ ?_)
    ·simp only[execOp,H,Bq,a2,J,rN,Alx h2 b u w];rfl
    ·rw[N];exact h.pass (by rw[hr];rfl) (by rw[J];exact (Hx (.st b) D).symm) (fun u J=>Bj T E.1 d N u J) (fun X S=>GD.mono D fun c hc => .inl (S c hc))
   ·cases B
  ·cases C
 case exo x =>
  simp only[H6] at C;split at C
  ·rename_i O H;simp only[Fq,At] at E;obtain⟨d,N⟩:=BA.1 E.2;simp only[Cj] at B;split at B
   ·rename_i b k n cs hr;cases B;have a2:=EK (a:=a) C;have D:=h.reg x;rw[hr] at D;obtain⟨u,J,D⟩:=D;have c8:∀ X,Rd Y X w u (.sl n []):=by
     intro X;rcases D with ⟨rfl,rfl,_⟩ | ⟨c,cap,rfl,f4,_⟩
     ·exact .nil0
     ·exact .sl c 0 n cap [] (fun _=>BU) (by intro y hy;cases hy) f4 (fun d1=>absurd rfl d1) (fun ⟨y,hy,_⟩=>by cases hy) (fun i hi=>by simp at hi) (fun i hi=>by simp at hi)
    refine Ce (v:=u) ?_ (L _ _ ?_)
    ·simp only[execOp,H,ABk,a2,J,rN,Bq,BV];rfl
    ·rw[N];have hp:=h.pass (r := .own k n cs) (v:=u) (by rw[hr];rfl) (by rw[J];exact (Hx (.tp b) D).symm) (fun u J=>Bj T E.1 d N u J) (fun X S=>GD.mono D fun c hc => .inl (S c hc));by_cases c0:x=d
     ·subst c0;simp only[EI,CE,Ue] at hp |-;exact hp
     ·simp only[EI,CE] at hp |-;have G:((s.set x (.val (.tup [.sl n [],.bool b]))).set d (.own k n cs))=(((s.set x .dead).set d (.own k n cs)).set x (.val (.tup [.sl n [],.bool b]))):=by
       rw[zA (i:=x) (j:=d) _ _ c0,zA (i:=x) (j:=d) _ _ c0,Ue]
      rw[G];refine hp.wake ?_ ?_
      ·rw[Ef,Aw (fun g=>c0 g.1.symm),Ef];split
       ·rfl
       ·rename_i g;simp only[true_and,Nat.not_lt] at g;simp only[AR,Ad,Bi g];rfl
      ·have R:(a.put (some d) u).tmps.getD x BU = .tuple #[u,.bool b]:=by
        show (a.tmps.setIfInBounds d u).getD x BU=_;rw[Nj,Aw (fun g=>c0 g.1.symm)];exact J
       rw[R];refine Rd.tup #[u,.bool b] [.sl n [],.bool b] rfl fun i h1 h2 => ?_;match i,h2 with
       | 0,_=>exact c8 _
       | 1,_=>exact Rd.bool b
   ·cases B
  ·cases C
 case sub x d lo hi k =>
  simp only[H6] at C;split at C
  ·rename_i t O lo' hi' H;simp only[At] at C;obtain⟨⟨⟨h1,h2⟩,V⟩,h5⟩:=C;simp only[Fq,At] at E;simp only[Cj] at B;split at B
   ·rename_i d' U;split at B
    ·rename_i j9;subst j9;split at B
     ·rename_i k' n cs f5;split at B
      ·rename_i hh l b2 b3;split at B
       ·rename_i hc;obtain⟨rfl,c1,c2⟩:=hc;cases B;have D:=h.reg x;rw[U] at D;obtain⟨r4,hv⟩:=D;have i1:=h.reg d';rw[f5] at i1;have Z:a.eval O=a.tmps.getD d' BU:=by rw[EK h1,hv]
        have a3:∀ {v:Value},(PN t (a.eval O) (lo'.map a.eval) (hi'.map a.eval) none).run P w = .ok v w->(execOp a.eval o).run P w = .ok (.value v) w:=by
         intro v hv;simp only[execOp,H,Bq,Rs,hv,AQ,BV]
        have i4:∀ {len cap:Nat} {v:Value},n=len->n<=cap->(PN t (a.eval O) (lo'.map a.eval) (hi'.map a.eval) none).run P w = .ok v w->AGh k' l hh (a.tmps.getD d' BU) v->o.wp P a w K' Q:=by
         intro len cap v _ _ W p7;refine Ce (a3 W) (L _ _ ?_);have i0:=Kt E.2;have i7:=Bj T E.1;cases N:o.dst with
         | none=>exact h
         | some t1 =>
          rw[N] at i0 i7;refine Es (ks:=[]) h (Jj _ _) (fun u J => .inr (i7 t1 rfl u J)) (fun I=>(by cases I)) (fun X _ _ => ?_);refine⟨(i0 t1 rfl).1,?_⟩;rw[Nj,Aw]
          ·exact p7
          ·rintro⟨g,_⟩;exact (i0 t1 rfl).2 g
        rcases i1 with ⟨e,rfl,rfl⟩ | ⟨b,cap,e,R,e3,e4,e5,e6⟩
        ·have hb:=Lk (P:=P) (w:=w) (len:=0) (cap:=0) (m:=0) (h:=hh) (l:=l) (mx:=none) (.inl ⟨rfl,rfl⟩) (lW (om:=none) (om':=none) h V rfl b2 (fun g=>by cases g) (fun g=>by cases g) (fun _=>c2)) (YJ h h2 b3 c1);have hz:hh=0:=by omega
         have lz:l=0:=by omega
         subst hz lz;refine i4 rfl (A2 _) (v := .slice none 0 0) ?_ (.inl ⟨e,rfl,rfl,rfl⟩);rw[Z,e,Ll h5 hb];rfl
        ·have hb:=Lk (P:=P) (w:=w) (len:=n) (cap:=cap) (m:=cap) (h:=hh) (l:=l) (mx:=none) (.inl ⟨rfl,rfl⟩) (lW (om:=none) (om':=none) h V rfl b2 (fun g=>by cases g) (fun g=>by cases g) (fun _=>by omega)) (YJ h h2 b3 c1);refine i4 rfl R (v := .slice (if cap=l then some ⟨b,0,none⟩ else some ⟨b,l*k',none⟩) (hh-l) (cap-l)) ?_ (.inr ⟨b,n,cap,e,c1,c2,R,rfl⟩);rw[Z,e,Ll h5 hb];simp only[AY,Ix,Cv]
       ·cases B
      ·cases B
     ·cases B
    ·cases B
   ·cases B
  ·cases C
 case app ow x d y k =>
  simp only[H6] at C;split at C
  ·rename_i a1 ts H;unfold W3 at C;split at C
   ·rename_i O y' t t' c6 d4;simp only[At] at C;obtain⟨⟨⟨⟨h1,h2⟩,V⟩,h4⟩,h5⟩:=C;have G:a1=#[O,y']:=by rw[<- DS (xs:=a1),c6]
    have R:ts=#[t,t']:=by rw[<- DS (xs:=ts),d4]
    subst G R;simp only[Fq,At] at E;obtain⟨dd,N⟩:=BA.1 E.1.2;have c7:∀ u,(u,dd)∈roots->Fv (AR s u)=false:=fun u J=>Bj T E.1.1 dd N u J;simp only[Cj] at B;split at B
    ·rename_i d' k' l hh U;split at B
     ·rename_i hc;obtain⟨rfl,rfl,rfl⟩:=hc;split at B
      ·rename_i a4 n cs f5;split at B
       ·rename_i k8;obtain⟨rfl,f4⟩:=k8;split at B
        ·rename_i m ys hy;split at B
         ·rename_i l9;cases B;have m0:=ACa h U f5 f4 (fun t ht=>Bj T E.2 x rfl t ht);have c0:x ≠ d':=by intro g;rw[g,f5] at U;cases U
          have p8:x<F s:=by
           rcases CN x (F s) with d3 | k2
           ·exact d3
           ·simp only[AR,Ad,Bi k2] at U;cases U
          have k9:∀ u,AR ((s.set d' .dead).set x (.own a4 hh (cs.take (hh*a4)))) u=if x=u then .own a4 hh (cs.take (hh*a4)) else if d'=u/\u<F s then .dead else AR s u:=by
           intro u;rw[Ef,BH,Ef];by_cases g:x=u
           ·subst g;rw[Ar ⟨rfl,p8⟩,Ar rfl]
           ·rw[Aw (fun q=>g q.1),Aw g];by_cases g2:d'=u
            ·subst g2;rfl
            ·rw[Aw (fun q=>g2 q.1),Aw (fun q=>g2 q.1)]
          have p9:y.av ((s.set d' .dead).set x (.own a4 hh (cs.take (hh*a4))))=some (.sl m ys):=by
           cases y with
           | c v=>exact hy
           | t u =>
            simp only[Opd.av,Opd.reg] at hy |-;have q0:x ≠ u:=by intro g;rw[<- g,U] at hy;cases hy
            have q5:d' ≠ u:=by intro g;rw[<- g,f5] at hy;cases hy
            rw[k9,Aw q0,Aw (fun q=>q5 q.1)];exact hy
          have q6:∀ a' w',Rel Y X0 roots w0 (EI (CE ((s.set d' .dead).set x (.own a4 hh (cs.take (hh*a4)))) [(x,.dead)]) (some dd) (if ow then .own a4 (hh+m) (cs.take (hh*a4)++ys) else .val (.sl (hh+m) (cs.take (hh*a4)++ys)))) a' w'->K' a' w':=by
           intro a' w' m1;refine L a' w' ?_;rw[N];simp only[CE,Ue] at m1 |-;exact m1
          refine Zw m0 H h1 V h4 h5 N (fun u J => ?_) (by rw[k9,Ar rfl]) (Air (D6 m0 h2 p9)) l9.1 l9.2 q6;rw[k9];split
          ·rfl
          ·split
           ·rfl
           ·exact c7 u J
         ·cases B
        ·cases B
       ·cases B
      ·cases B
     ·cases B
    ·cases B
   ·cases C
  ·cases C
 case apb ow x y d k =>
  simp only[H6] at C;split at C
  ·rename_i a1 ts H;unfold W3 at C;split at C
   ·rename_i O y' t t' c6 d4;simp only[At] at C;obtain⟨⟨⟨⟨h1,h2⟩,V⟩,h4⟩,h5⟩:=C;have G:a1=#[O,y']:=by rw[<- DS (xs:=a1),c6]
    have R:ts=#[t,t']:=by rw[<- DS (xs:=ts),d4]
    subst G R;simp only[Fq,At] at E;obtain⟨dd,N⟩:=BA.1 E.2;have c7:∀ u,(u,dd)∈roots->Fv (AR s u)=false:=fun u J=>Bj T E.1 dd N u J;simp only[Cj] at B;split at B
    ·rename_i k0 n cs U;split at B
     ·rename_i d' k' l hh b0;split at B
      ·rename_i hc;obtain⟨rfl,rfl,rfl⟩:=hc;split at B
       ·rename_i a4 n' a9 f5;split at B
        ·rename_i k8;obtain⟨rfl,f4,b8⟩:=k8;cases B;have D:=h.reg y;rw[b0] at D;obtain⟨_,hv⟩:=D;have i1:=h.reg d';rw[f5] at i1;have a6:a.eval y'=a.tmps.getD y BU:=EK h2;rcases hv with ⟨q1,q2,rfl,rfl⟩ | ⟨b,n2,cap,q1,ql,r5,r6,q2⟩
         ·refine Zw (ow:=ow) (m:=0-0) (ys:=(a9.drop (0*a4)).take ((0-0)*a4)) h H h1 V h4 h5 N c7 U (.inl ⟨rfl,by simp,.inl (by rw[a6,q2])⟩) (by simp) b8 ?_;rw[<- N];exact L
         ·rcases i1 with ⟨p1,_⟩ | ⟨b',o3,p1,p2,p3,p4,p5,p6⟩
          ·rw[q1] at p1;cases p1
          ·rw[q1] at p1;cases p1;have f7:GX Y (fun b=>X0 b\/XS s a.tmps b) w b (0+l*a4) ((a9.drop (l*a4)).take ((hh-l)*a4)):=rV (p5.mem.drop (l*a4)) _;rw[Cv] at f7;have q7:F ((a9.drop (l*a4)).take ((hh-l)*a4))=(hh-l)*a4:=by
            rw[AX,CX,p3];have:l*a4+(hh-l)*a4<=n'*a4:=by rw[<- DU];exact Bf _ (by omega)
            omega
           refine Zw (ow:=ow) (m:=hh-l) h H h1 V h4 h5 N c7 U ?_ q7 b8 ?_
           ·by_cases m2:cap=l
            ·have hz:hh-l=0:=by omega
             rw[Ar m2] at q2;refine .inl ⟨hz,by rw[hz];simp,.inr ⟨⟨b,0,none⟩,cap-l,?_⟩⟩;rw[a6,q2,hz]
            ·rw[Aw m2] at q2;exact .inr ⟨b,l*a4,cap-l,by rw[a6,q2],f7,by omega⟩
           ·rw[<- N];exact L
        ·cases B
       ·cases B
      ·cases B
     ·cases B
    ·cases B
   ·cases C
  ·cases C
 case slo x hi k =>
  simp only[H6] at C;split at C
  ·rename_i t O hi' H;simp only[At] at C;obtain⟨⟨h1,h2⟩,h5⟩:=C;simp only[Fq,At] at E;obtain⟨d,N⟩:=BA.1 E.2;simp only[Cj] at B;split at B
   ·rename_i ki iv e8;split at B
    ·rename_i k' n cs hr;split at B
     ·rename_i hc;obtain⟨rfl,c1,c2⟩:=hc;cases B;have h9:=D6 h h2 e8;generalize i9:a.eval hi'=bv at h9;cases h9;have a2:=EK (a:=a) h1;have D:=h.reg x;rw[hr] at D;have f4:iv.toNat<=n:=by omega
      rcases D with ⟨e,rfl,rfl⟩ | ⟨b,cap,e,R,e3,e4,e5,e6⟩
      ·have hb:=Lk (P:=P) (w:=w) (len:=0) (cap:=0) (m:=0) (h:=iv.toNat) (l:=0) (lo:=none) (hi:=some (.int ki iv)) (mx:=none) (.inl ⟨rfl,rfl⟩) (.inr ⟨ki,iv,rfl,c1,rfl,f4⟩) (.inl ⟨rfl,rfl⟩);have hz:iv.toNat=0:=by omega
       refine Ce (v := .slice none 0 0) ?_ (L _ _ ?_)
       ·simp only[execOp,H,Bq,a2,e,Rs,AY,i9,Ll h5 hb,hz];rfl
       ·rw[N,hz];simpa using Nl (ow:=true) (ks:=[x]) h (fun u J => .inr (Bj T E.1 d N u J))
      ·have hb:=Lk (P:=P) (w:=w) (len:=n) (cap:=cap) (m:=cap) (h:=iv.toNat) (l:=0) (lo:=none) (hi:=some (.int ki iv)) (mx:=none) (.inl ⟨rfl,rfl⟩) (.inr ⟨ki,iv,rfl,c1,rfl,by omega⟩) (.inl ⟨rfl,rfl⟩);refine Ce (v := .slice (some ⟨b,0,none⟩) iv.toNat cap) ?_ (L _ _ ?_)
       ·simp only[execOp,H,Bq,a2,e,Rs,AY,i9,Ll h5 hb,Lj,Lb,Ix,ite_self];rfl
       ·rw[N];refine h.pass (by rw[hr];rfl) (by rw[e];rfl) (fun u J=>Bj T E.1 d N u J) (fun X S => .inr ⟨b,cap,rfl,by omega,?_,e4,?_,e6⟩)
        ·rw[AX,e3,Kh (Bf _ f4)]
        ·obtain⟨q1,vs,a0,q2,q3,q4⟩:=e5.mono (X':=X) fun c hc => .inl (S c hc);refine⟨fun y hy=>q1 y (C5 hy),vs,a0,q2,?_,fun i hi => ?_⟩
         ·have:F (cs.take (iv.toNat*k'))<=F cs:=by rw[AX];exact Ayk _ _
          omega
         ·obtain⟨v,r1,r2⟩:=q4 i (by simp at hi;omega);exact⟨v,r1,by simpa using r2⟩
     ·cases B
    ·cases B
   ·cases B
  ·cases C
 case cao f k x xs =>
  simp only[H6] at C;split at C
  ·rename_i f' a1 ts H;simp only[At,BJ] at C;obtain⟨⟨rfl,h1⟩,h2⟩:=C;simp only[Fq,At] at E;obtain⟨d,N⟩:=BA.1 E.2;obtain⟨a1⟩:=a1;cases a1 with
   | nil=>cases h1
   | cons o1 d5 =>
    simp only[JU,At] at h1;unfold YH at h2;split at h2
    ·rename_i fn d6;simp only[At,Fh] at h2;obtain⟨b7,d7⟩:=h2;have d8:¬ fn.body=none:=by intro e0;rw[e0] at b7;cases b7
     have b8:¬ fn.name = "runtime.NumGoroutine" := by simpa using d7
     have W:(execOp a.eval o).run P w = .ok (.enter f' ((o1::d5).map a.eval).toArray) w:=by
      simp[execOp,H,resolve,K8,QX,invoke,callFunc,program,GE,d6,b8,d8]
     simp only[Cj] at B;split at B
     ·rename_i vs hx;obtain⟨G,R⟩:=N7 h h1.2 hx;split at B
      ·rename_i m;split at B
       case h_2=>cases B
       rename_i k' n cs m3;simp only[A0] at B;obtain⟨y,hy,I⟩:=B;cases I;have ho:=EK (a:=a) h1.1;have D:=h.reg m;rw[m3] at D;simp only[FG,W,Fg];refine (Zv h hF hy (ks:=[m]) G R (by rw[ho];exact D) (fun b hb=>⟨m,by simp,by rw[m3];rfl,by rw[<- ho];exact hb⟩) (fun u J => .inr (Bj T E.1 d N u J))).mono fun e w' ⟨v,I,hr⟩ => ?_;subst I;refine L _ _ ?_;rw[N];exact hr
      ·simp only[A0] at B;obtain⟨y,hy,I⟩:=B;cases I;have m4:a.eval o1 = .slice none 0 0:=by
        have D:=h1.1;cases o1 with
        | const v=>exact zQ D
        | tmp m=>cases D
        | global g=>cases D
        | func f=>cases D
       simp only[FG,W,Fg];refine (Zv h hF hy (ks:=[]) G R (by rw[m4];exact .inl ⟨rfl,rfl,rfl⟩) (fun b hb=>by rw[m4] at hb;cases hb) (fun u J => .inr (Bj T E.1 d N u J))).mono fun e w' ⟨v,I,hr⟩ => ?_;subst I;refine L _ _ ?_;rw[N];exact hr
      ·cases B
     ·cases B
    ·cases h2
  ·cases C
 case ixo x d i k =>
  simp only[H6] at C;split at C
  ·rename_i t O i' H;simp only[At] at C;obtain⟨⟨h1,h2⟩,C⟩:=C;obtain⟨e,ii,zv,J,b5,hs,r7,_,_,_⟩:=FQ C;have b4:(sizeOf e).run P w = .ok k w:=by simp[sizeOf,typeInfo,program,GE,b5,hs]
   simp only[Fq,At] at E;simp only[Cj] at B;split at B
   ·rename_i ki iv hi;have e7:=D6 h h2 hi;generalize e8:a.eval i'=ivv at e7;cases e7;have a2:=EK (a:=a) h1;have D:=h.reg x;split at B
    ·rename_i n cs hr;rw[hr] at D;split at B
     ·rename_i hb;cases B;rw[<- a2] at D;generalize Z:a.eval O=xv at D;cases D with
      | nil0=>exact absurd hb (by omega)
      | e0 _ _=>exact absurd hb (by omega)
      | sl b off _ cap _ f hd hn hX hY hcell j6 =>
       have f7:GX Y (fun b=>X0 b\/XS s a.tmps b) w b off cs:=⟨hd,fun j hj=>⟨f j,hcell j hj,j6 j hj⟩⟩;refine Ce (v := .pointer (some ⟨b,off+iv.toNat*k,none⟩)) ?_ (L _ _ ?_)
       ·simp only[execOp,H,eB,Bq,e8,asIntOf,BV,AQ,run_underlying J,Z,hb,and_self,if_true,b4,Ix]
       ·refine Rx h (Bj T E.1) (fun d1=>hX (fun hn=>d1 (by rw[hn];simp))) (f7.drop _)
     ·cases B
    ·rename_i d' hr;split at B
     ·rename_i hd;subst hd;split at B
      ·rename_i k' n cs a5;split at B
       ·rename_i hb;obtain⟨rfl,hb⟩:=hb;cases B;rw[hr] at D;obtain⟨b,cap,G,_⟩:=(h.ownLow a5).resolve_left (fun hh=>by omega);have Z:a.eval O = .slice (some ⟨b,0,none⟩) n cap:=by rw[a2,D.2,G]
        refine Ce (v := .pointer (some ⟨b,0+iv.toNat*k',none⟩)) ?_ (L _ _ ?_)
        ·simp only[execOp,H,eB,Bq,e8,asIntOf,BV,AQ,run_underlying J,Z,hb,and_self,if_true,b4,Ix]
        ·exact Ry (p:=⟨b,0,none⟩) h (Bj T E.1) (Kt E.2) (by rw[G];rfl) rfl
       ·cases B
      ·cases B
     ·cases B
    ·cases B
   ·cases B
  ·cases C
 case lno x d =>
  simp only[H6] at C;split at C
  ·rename_i a1 ts H;unfold lQ at C;split at C
   ·rename_i O t c6 d4;simp only[At] at C;obtain⟨h1,h2⟩:=C;have G:a1=#[O]:=by rw[<- DS (xs:=a1),c6]
    have R:ts=#[t]:=by rw[<- DS (xs:=ts),d4]
    subst G R;split at h2
    ·rename_i e J;simp only[Cj] at B;have b6:∀ (d2:Option Addr) (n c:Nat),a.eval O = .slice d2 n c->(∀ a' w',Rel Y X0 roots w0 (EI s o.dst (.val (.int .i64 n))) a' w'->K' a' w')->o.wp P a w K' Q:=by
      intro d2 n c I c5;refine Ce (v := .int .i64 n) ?_ (c5 _ _ (h.put (Bj T E) (.int _ _)));simp[execOp,H,resolve,invoke,builtin,Ayl,I,run_underlying J,goInt]
     have a2:=EK (a:=a) h1;have D:=h.reg x;split at B
     ·rename_i hr;cases B;rw[hr,<- a2] at D;generalize Z:a.eval O=xv at D;cases D;exact b6 _ _ _ Z L
     ·rename_i n cs hr;cases B;rw[hr,<- a2] at D;generalize Z:a.eval O=xv at D;cases D <;> exact b6 _ _ _ Z L
     ·rename_i d' hr;split at B
      ·rename_i hd;subst hd;split at B
       ·rename_i k n cs a5;cases B;rw[hr] at D;rcases h.ownLow a5 with ⟨G,rfl,_⟩ | ⟨b,cap,G,_⟩
        ·exact b6 _ _ _ (by rw[a2,D.2,G]) L
        ·exact b6 _ _ _ (by rw[a2,D.2,G]) L
       ·cases B
      ·cases B
     ·cases B
    ·cases h2
   ·cases C
  ·cases C
end
def Zx(ops:Array Oper):Option (Nat × Bool)->Option (Nat × Bool)->Bool
 | none,none=>true
 | some (j,b),some (t,a)=>(ops[j]?).bind (·.dst)==some t&&b==a
 | _,_=>false
def Aiu(roots:List (Nat × Nat))(a:IOp):Bool:=a.g.isNone || Gl roots a.ks a.dst
def oOk(P:Program)(roots:List (Nat × Nat))(ops:Array Oper)(o:Oper)(a:IOp):Bool :=
 H6 P o.op a.k&&o.dst==a.dst&&Fq roots a.ks a.dst a.k&&Zx ops o.guard a.g&&Aiu roots a
section
variable {P:Program} {Y X0:Nat->Prop} {roots:List (Nat × Nat)} {w0:Base} {w:World} {s:Az} {a:Act} {Q:Exit->Act->World->Prop}
theorem gM(h:Rel Y X0 roots w0 s a w){ops:Array Oper}{o:Oper}{g:Option (Nat × Bool)}{b:Bool}(e:Zx ops o.guard g=true)(d:IR s g=some b):Zy o (yielded ops a.tmps)=b:=by
 unfold Zx at e;split at e
 next h1=>simp only[IR,AS] at d;subst d;simp[Zy,h1]
 ·rename_i j k t n h1;simp only[At,BJ] at e;obtain⟨h2,rfl⟩:=e;have i:=h.reg t;simp only[IR] at d;simp only[Zy,h1,yielded,h2,Option.bind_some];have l:∀ v,a.tmps.getD t BU=v->v ≠ BU->a.tmps[t]? = some v:=by
   intro v hv m;rw[Dq] at hv;cases f:a.tmps[t]? with
   | none=>rw[f] at hv;exact absurd hv.symm m
   | some u=>rw[f] at hv;simp at hv;rw[hv]
  cases hr:AR s t with
  | val x =>
   rw[hr] at d i;generalize hv:a.tmps.getD t BU=v at i;cases i with
   | bool c =>
    dsimp only at d;rw[l _ hv (by nofun)];simp only[AS] at d;rw[<- d];cases c <;> cases k <;> rfl
   | undef =>
    dsimp only at d;simp only[AS] at d;rw[<- d];rw[Dq] at hv;cases f:a.tmps[t]? with
    | none=>simp
    | some u=>rw[f] at hv;simp at hv;rw[hv];simp[BU]
   | int _ _=>cases d
   | str _=>cases d
   | agg _ _ _ _ _=>cases d
   | tup _ _ _ _=>cases d
   | nil=>cases d
   | nil0=>cases d
   | e0 _ _=>cases d
   | sl _ _ _ _ _ _ _ _ _ _ _=>cases d
   | pt _ _ _ _ _ _ _ _=>cases d
   | fnc _ _ _ _=>cases d
  | box _=>rw[hr] at d;cases d
  | ptr _ _=>rw[hr] at d;cases d
  | mem _=>rw[hr] at d;cases d
  | own _ _ _=>rw[hr] at d;cases d
  | agn _ _ _ _=>rw[hr] at d;cases d
  | bxl _=>rw[hr] at d;cases d
  | dup _=>rw[hr] at d;cases d
  | sub _ _ _ _=>rw[hr] at d;cases d
  | dead=>rw[hr] at d;cases d
 ·cases e
theorem Aym{ops:Array Oper}{i:Nat}{o:Oper}{c:IOp}{b:C4}{k:Az}{m:Act->World->Prop}(h:Rel Y X0 roots w0 s a w)(A:LJ P b)(hi:ops[i]? = some o)(n:oOk P roots ops o c=true)
  (d:HE b c s=some k) (j:∀ q u,Rel Y X0 roots w0 k q u->m q u):wpOp P ops Q i m a w:=by
 simp only[oOk,At,BJ] at n;obtain⟨⟨⟨⟨h1,h2⟩,v⟩,x⟩,e⟩:=n;simp only[HE,KB] at d;have y:∀ t∈c.ks,Fv (AR (kill s c.ks) t)=false:=fun t B=>by rw[Hw,Ar B];rfl
 have h:=h.kill c.ks;generalize kill s c.ks=s at *
 simp only[wpOp,hi];split at d
 ·cases d
 ·rename_i f;cases d;rw[gM h x f];simp only[CI,if_false];rw[h2];refine j _ _ (h.put ?_ .undef);simp only[Aiu,I4] at e;rcases e with e | e
  ·cases z:c.g with
   | none=>rw[z] at f;cases f
   | some p=>rw[z] at e;cases e
  ·exact Bj y e
 ·rename_i f;rw[gM h x f];simp only[if_true];split at d
  ·cases d
  next r l C=>cases d;rw[<- h2] at j v;exact .inl (simK h A h1 y v C j)
def PX(P:Program)(roots:List (Nat × Nat))(ops:Array Oper):List Oper->List IOp->Bool
 | [],[]=>true
 | o::l,a::m=>oOk P roots ops o a&&PX P roots ops l m
 | _,_=>false
theorem Ui{ops:Array Oper}:∀ {l:List Oper} {m:List IOp},PX P roots ops l m=true->F l=F m/\∀ (i:Nat) (o:Oper) (a:IOp),l[i]? = some o->m[i]? = some a->oOk P roots ops o a=true
 | [],[],_=>⟨rfl,fun i o a h=>(by simp at h)⟩
 | o::l,a::m,h=>by
  simp only[PX,At] at h;obtain⟨b,c⟩:=Ui h.2;refine⟨by simp[b],fun i d e h1 h2 => ?_⟩;cases i with
  | zero=>simp at h1 h2;subst h1 h2;exact h.1
  | succ i=>simp at h1 h2;exact c i d e h1 h2
 | [],_::_,h=>by cases h
 | _::_,[],h=>by cases h
theorem Aiv{ops:Array Oper}{b:C4}(n:LJ P b):∀ {l:List Oper} {m:List IOp} {k:Nat} {s e:Az} {a:Act} {w:World},(∀ j,l[j]? = ops[k+j]?)->PX P roots ops l m=true->Rel Y X0 roots w0 s a w ->
  Fw b m s=some e->(∀ f g,Rel Y X0 roots w0 e f g->Q .normal f g)->wpOps P ops Q (List.range' k (F l)) a w
 | [],[],k,s,e,a,w,_,_,h,c,i=>by
  simp only[Fw,AS] at c;subst c;exact i _ _ h
 | o::l,q::m,k,s,e,a,w,p,d,h,c,i=>by
  simp only[PX,At] at d;simp only[Fw] at c;cases h1:HE b q s with
  | none=>rw[h1] at c;cases c
  | some t =>
   rw[h1] at c;have hi:ops[k]? = some o:=by simpa using (p 0).symm
   rw[BM,List.range'_succ,wpOps_cons];exact Aym h n hi d.1 h1 fun f g r=>Aiv n (fun j=>by have:=p (j+1);simpa [E1,H0 1 j] using this) d.2 r c i
 | [],_::_,_,_,_,_,_,_,d,_,_,_=>by cases d
 | _::_,[],_,_,_,_,_,_,d,_,_,_=>by cases d
def J3(o:Oper):List Nat:=(o.after.toList.filter (Region.binds .any)).map (·.on)
def R7:List Oper->List (List Nat)->List (List Nat)
 | [],a=>a
 | o::l,a=>R7 l (a++[(J3 o++(J3 o).flatMap fun p=>a.getD p []).eraseDups])
theorem rW:∀ (l done:List Oper) (a:List (List Nat)),F a=F done ->
  (∀ (i j:Nat),j∈a.getD i []->∃ o,done[i]? = some o/\∃ p∈J3 o,j=p\/(p<i/\j∈a.getD p [])) ->
  ∀ (i j:Nat),j∈(R7 l a).getD i []->∃ o,(done++l)[i]? = some o/\∃ p∈J3 o,j=p\/(p<i/\j∈(R7 l a).getD p []):=by
 intro l;induction l with
 | nil=>intro done a _ h i j hj;simpa [R7] using h i j hj
 | cons o l f =>
  intro done a c h i j hj;simp only[R7] at hj |-;have:=f (done++[o]) (a++[(J3 o++(J3 o).flatMap fun p=>a.getD p []).eraseDups]) (by simp[c]) (fun i j hj => ?_) i j hj
  ·simpa using this
  ·have d:∀ (q x:Nat),x∈a.getD q []->q<F a:=by
    intro q x hx;rcases CN q (F a) with h1 | h1
    ·exact h1
    ·rw[Ad,Bi h1] at hx;cases hx
   have e:∀ (q x:Nat),x∈a.getD q []->x∈(a++[(J3 o++(J3 o).flatMap fun p=>a.getD p []).eraseDups]).getD q []:=by
    intro q x hx;rw[Ad,B2 (d q x hx),<- Ad];exact hx
   rcases CN i (F a) with h1 | h1
   ·rw[Ad,B2 h1,<- Ad] at hj;obtain⟨g,k,p,hp,b⟩:=h i j hj;refine⟨g,by rw[B2 (by omega)];exact k,p,hp,?_⟩;rcases b with b | ⟨b,m⟩
    ·exact .inl b
    ·exact .inr ⟨b,e p j m⟩
   ·have hi:i=F a:=by
     rcases CN (F a) i with h2 | h2
     ·rw[Ad,Bi (by simp;omega)] at hj;cases hj
     ·omega
    subst hi;rw[Ad,BN (A2 _)] at hj;simp only[T9,ABu,H3,List.mem_eraseDups,BD,List.mem_flatMap] at hj;refine⟨o,by rw[c,BN (A2 _)];simp,?_⟩;rcases hj with hj | ⟨p,hp,hj⟩
    ·exact⟨j,hj,.inl rfl⟩
    ·exact⟨p,hp,.inr ⟨d p j hj,e p j hj⟩⟩
def rX(d:List (List Nat))(c:List IOp):Bool :=
 c.zipIdx.all fun (b,i)=>(c.take i).zipIdx.all fun (a,j)=>Ug a b || (d.getD i []).contains j
def Aiw(ops:List Oper):Bool:=ops.zipIdx.all fun (o,i)=>(J3 o).all fun p=>decide (p<i)
def Vb(ops:Array Oper)(a:List IOp):Bool:=Aiw ops.toList&&rX (R7 ops.toList []) a
theorem lX{ops:Array Oper}{c:List IOp}(h:Vb ops c=true) :
  (∀ (i:Nat) (o:Oper),ops[i]? = some o->∀ p∈J3 o,p<i) /\
  ∀ (i j:Nat) (a b:IOp),j<i->c[j]? = some a->c[i]? = some b->Ug a b=true\/j∈(R7 ops.toList []).getD i []:=by
 simp only[Vb,At] at h;constructor
 ·intro i o d p hp;have h1:=h.1;simp only[Aiw,CG,Prod.forall] at h1;have:=h1 o i (by rw[M2];simpa using d) p hp;simpa using this
 ·intro i j x b e hj hi;have h1:=h.2;simp only[rX,CG,Prod.forall] at h1;have h2:=h1 b i (by rw[M2];simpa using hi);have:=h2 x j (by rw[M2,Cr e];simpa using hj);simpa using this
end
section
variable {P:Program} {Y X0:Nat->Prop} {roots:List (Nat × Nat)} {w0:Base} {Q:Exit->Act->World->Prop}
def GR(n:Nat)(a:Array Bool):List Nat:=(Ay n).filter fun i => !a.getD i true
theorem Me{n i:Nat}{a:Array Bool}:i∈GR n a↔i<n/\a.getD i true=false:=by
 simp[GR]
theorem Uj(a:Array Bool)(i j:Nat)(d:Bool):(a.setIfInBounds i true).getD j d=if i=j/\i<a.size then true else a.getD j d:=by
 simp only[Dq,Uc];by_cases h:i=j
 ·subst h;by_cases h2:i<a.size <;> simp[h2]
 ·simp[h]
theorem eI{l:List Nat}(hs:l.Pairwise (·<·)){i:Nat}(hi:i∈l):∃ a b,l=a++i::b/\(∀ j∈a,j<i)/\l.filter (fun j=>decide (j ≠ i))=a++b:=by
 induction l with
 | nil=>cases hi
 | cons k l d =>
  rw[G3] at hs;by_cases c:k=i
  ·subst c;refine⟨[],l,rfl,fun j hj=>(by cases hj),?_⟩;simp only[Hg];rw[List.filter_cons_of_neg (by simp)];refine zU.2 fun j hj => ?_;have:=hs.1 j hj;simp;omega
  ·have hi':i∈l:=by
    cases hi with
    | head=>exact absurd rfl c
    | tail _ h=>exact h
   obtain⟨a,b,e,f,g⟩:=d hs.2 hi';refine⟨k::a,b,by rw[e];rfl,fun j hj => ?_,?_⟩
   ·cases hj with
    | head=>exact hs.1 i hi'
    | tail _ h=>exact f j h
   ·rw[List.filter_cons_of_pos (by simp[c]),g];rfl
theorem R8(n:Nat)(a:Array Bool):(GR n a).Pairwise (·<·):=AJq _ List.pairwise_lt_range
theorem XG{n i:Nat}{a:Array Bool}(hi:i<a.size):GR n (a.setIfInBounds i true)=(GR n a).filter fun j=>decide (j ≠ i):=by
 unfold GR;rw[List.filter_filter];apply List.filter_congr;intro j _;rw[Uj];by_cases h:i=j
 ·subst h;simp[hi]
 ·have b:¬ j=i:=fun e=>h e.symm;simp[h,b]
def Vc(a:List IOp)(i:Nat):IOp:=a.getD i ⟨none,.mov (.c .undef),none,[]⟩
def Aix(ops:Array Oper)(a:Array Bool):Prop:=∀ (i:Nat) (o:Oper),ops[i]? = some o->a.getD i false=true->∀ p∈J3 o,a.getD p false=true
theorem rY{ops:Array Oper}{a:Array Bool}(hc:Aix ops a):∀ (i:Nat) (o:Oper),ops[i]? = some o->(∀ p∈J3 o,a.getD p false=true)->∀ j∈(R7 ops.toList []).getD i [],a.getD j false=true:=by
 intro i;induction i using Y4 with
 | _ i f =>
  intro o c hp j hj;obtain⟨n,b,p,d,g⟩:=rW ops.toList [] [] rfl (fun i j h=>(by simp at h)) i j hj;simp only[Hg,ABs] at b;rw[c] at b;cases b;rcases g with rfl | ⟨k,l⟩
  ·exact hp _ d
  ·have m:=hp p d;have e:p<ops.size:=by
    have:=(Gh.1 c).1;omega
   exact f p k ops[p] (by simp[e]) (hc p ops[p] (by simp[e]) m) j l
theorem ACb{ops:Array Oper}{d:List IOp}{b:C4}{C:Az}(R:LJ P b)(S:PX P roots ops ops.toList d=true)(T:Vb ops d=true)(D:∀ m n,Rel Y X0 roots w0 C m n->Q .normal m n) :
  ∀ (l:Nat) (c:Array Bool) (s:Az) (a:Act) (w:World),c.size=ops.size->Aix ops c->F (GR ops.size c)<=l->Rel Y X0 roots w0 s a w ->
   Fw b ((GR ops.size c).map (Vc d)) s=some C->wpAny P .any ops Q l c a w:=by
 obtain⟨U,V⟩:=lX T;obtain⟨W,X⟩:=Ui S;have E:F d=ops.size:=by simpa using W.symm
 have Z:∀ (c:Array Bool),c.size=ops.size->TJ .any ops c=[]->GR ops.size c=[]:=by
  intro c r hr;cases u:GR ops.size c with
  | nil=>rfl
  | cons i a1 =>
   exfalso;have hi:=Me.1 (u ▸ Ba:i∈GR ops.size c);have hs:=R8 ops.size c;rw[u,G3] at hs;have G:i∈TJ .any ops c:=by
    rw[mem_ready];refine⟨hi.2,ops[i],by simp[hi.1],fun e v hb => ?_⟩;have hp:e.on∈J3 ops[i]:=by
     simp only[J3,DI,DR];exact⟨e,⟨by simpa using v,hb⟩,rfl⟩
    have b0:=U i ops[i] (by simp[hi.1]) e.on hp;cases g:c.getD e.on true with
    | false =>
     have:e.on∈GR ops.size c:=Me.2 ⟨by omega,g⟩;rw[u] at this;cases this with
     | head=>omega
     | tail _ h=>have:=hs.1 _ h;omega
    | true =>
     have x:e.on<c.size:=by omega
     simp only[Dq,Ep x,H3] at g |-;exact g
   rw[hr] at G;cases G
 intro l;induction l with
 | zero =>
  intro c s a w r hc y h f;have H:GR ops.size c=[]:=AU (by omega);rw[H] at f;simp only[HC,Fw,AS] at f;subst f;refine⟨?_,D _ _ h⟩;cases hr:TJ .any ops c with
  | nil=>rfl
  | cons i a1 =>
   have hi:i∈TJ .any ops c:=by rw[hr];exact Ba
   rw[mem_ready] at hi;obtain⟨h1,o,h2,_⟩:=hi;have:i∈GR ops.size c:=Me.2 ⟨(Gh.1 h2).1,h1⟩;rw[H] at this;cases this
 | succ l ih =>
  intro c s a w r hc y h f;refine⟨fun hr => ?_,fun i hi => ?_⟩
  ·rw[Z c r hr] at f;simp only[HC,Fw,AS] at f;subst f;exact D _ _ h
  ·rw[mem_ready] at hi;obtain⟨h1,o,h2,h3⟩:=hi;have I:i<ops.size:=(Gh.1 h2).1;have a2:i∈GR ops.size c:=Me.2 ⟨I,h1⟩;obtain⟨a3,b1,z,e2,J⟩:=eI (R8 _ _) a2;have K:∀ p∈J3 o,c.getD p false=true:=by
    intro p hp;simp only[J3,DI,DR] at hp;obtain⟨e,⟨v,hb⟩,rfl⟩:=hp;exact h3 e (by simpa using v) hb
   have L:d[i]? = some (Vc d i):=by
    simp only[Vc,Ad,Am (E ▸ I),H3]
   have a4:∀ q∈a3.map (Vc d),Ug q (Vc d i)=true:=by
    intro q M;rw[DI] at M;obtain⟨j,hj,rfl⟩:=M;have a5:=e2 j hj;have a6:j∈GR ops.size c:=by rw[z];exact F6 _ hj
    have t:=Me.1 a6;have a7:d[j]? = some (Vc d j):=by
     simp only[Vc,Ad,Am (E ▸ t.1),H3]
    rcases V i j _ _ a5 a7 L with g | g
    ·exact g
    ·have N:=rY hc i o h2 K j g;have x:j<c.size:=by omega
     simp only[Dq,Ep x,H3] at N t;rw[N] at t;cases t.2
   rw[z,D_,CW] at f;obtain⟨s1,a8,O⟩:=lN a4 f;rw[<- D_,<- J,<- XG (by omega)] at O;refine Aym h R h2 (X i o _ (by simpa using h2) L) a8 fun m n h' => ?_;refine ih (c.setIfInBounds i true) s1 m n (by simpa using r) ?_ ?_ h' O
   ·intro k ok A B p hp;rw[Uj] at B;rw[Uj];split
    ·rfl
    ·split at B
     next a9=>obtain⟨rfl,_⟩:=a9;rw[h2] at A;cases A;exact K p hp
     ·exact hc k ok A B p hp
   ·rw[XG (by omega),J];rw[z] at y;simp at y |-;omega
theorem Amb{ops:Array Oper}{c:List IOp}{b:C4}{s d:Az}{a:Act}{w:World}{id:Nat}(k:P.follows .mixedOrders=true)(l:LJ P b)(e:PX P roots ops ops.toList c=true)(m:Vb ops c=true)
  (h:Rel Y X0 roots w0 s a w) (n:Fw b c s=some d) (p:∀ f g,Rel Y X0 roots w0 d f g->Q .normal f g):(AHv id ops true).wp P Q a w:=by
 have q:=(Ui e).1;refine wp_region_any k ?_;have j:GR ops.size (K7 ops.size false)=Ay ops.size:=by
  unfold GR;refine zU.2 fun i hi => ?_;have:i<ops.size:=by simpa using hi
  simp[Dq,this]
 refine ACb l e m p ops.size _ s a _ (by simp) ?_ (by rw[j];simp) ⟨h.dfr,h.size,⟨h.below.os,h.below.tape,h.below.output,h.below.size,h.below.block⟩,h.low,h.lowY,fun t=>Ke.world (h.reg t) ⟨rfl,rfl,rfl,A2 _,fun _ _=>rfl⟩,h.inj⟩ ?_
 ·intro i o r u;have hi:=(Gh.1 r).1;simp[Dq,hi] at u
 ·rw[j];have:(Ay ops.size).map (Vc c)=c:=by
   apply HP;intro i;have v:F c=ops.size:=by simpa using q.symm
   by_cases hi:i<ops.size
   ·simp[hi,Vc,Ad,Am (v ▸ hi)]
   ·rw[Bi (by simp;omega),Bi (by omega)]
  rw[this];exact n
theorem Amc{ops:Array Oper}{c:List IOp}{b:C4}{s d:Az}{a:Act}{w:World}{id:Nat}(g:LJ P b)(i:PX P roots ops ops.toList c=true)
  (h:Rel Y X0 roots w0 s a w) (l:Fw b c s=some d) (m:∀ e f,Rel Y X0 roots w0 d e f->Q .normal e f):(AHv id ops false).wp P Q a w:=by
 refine wp_region ?_;have:=Aiv (Q:=Q) g (k:=0) (fun j=>by simp) i h l m;rw[List.range_eq_range'];simpa using this
end
end Go.Ai
