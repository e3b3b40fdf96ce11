/- Texts of the proof of ContactStates: part 3 of 18. -/
import Derived.ArgAppend
import Derived.Laws.MakeOwn
import Derived.Laws.Slices
import Derived.Laws.Cover3
import Derived.Test.YtenfgdobfjofkaaGreatCst2
namespace Go.Ai
open Go.RowKit
open And renaming left->N8
open _root_.Array renaming all_eq_true_iff_forall_mem->Aew,ext'->ACb,foldl_toList->Si,getD->Aet,getD_eq_getD_getElem?->A4,getElem?_eq_getElem->AE,getElem?_eq_some_iff->AR,getElem?_setIfInBounds->Kc,getElem?_setIfInBounds_ne->Jo,getElem?_toList->E4,getElem_map->O3,getElem_range->V',length_toList->B3,map->AFp,mapM_eq_mapM_toList->L5,range->FK,replicate->DY,size_setIfInBounds->Ku,toArray_toList->D6,toList_map->CO,toList_push->AIy
open Bool renaming and_eq_true->U,false_eq_true->AC,not_eq_true'->Bl,or_eq_true->CD
open Go renaming undef->A9
open Go.Act renaming eval->Jq
open Go.Ai.Reg renaming val->Ab
open Go.Builtin renaming append_->Bi,firstCells->EV,lenOf->EE,len_->H0,max_->AIz,min_->AJa
open Go.Code renaming region->iO
open Go.Deferred renaming ofValue->EU
open Go.Instr renaming box->AFq,build->J3,buildSlice->HX,checkKey->FA,fill->DH,findKey->N6,findNow->Fp,index->Apn,indexAt->N7,loadAt->Hg,lookup->OJ,mapUpdate->nL,slice->Iq,sliceAt->F9,sliceBound->iR,sliceBounds->J2,storeAt->G0,sureAddr->BQ
open Go.IntKind renaming i64->D
open Go.Op renaming equal->Alb,stringOp->N9
open Go.Oper renaming upon->BN,wp->Cn
open Go.Program renaming cellsOf->IH
open Go.Region renaming ready->Hf,wanted->J5
open Go.Result renaming andThen_ok->W
open Go.RowKit.Below renaming heap_alloc->FM,refl->DZ
open Go.Sem renaming run->Cl,run_bind->Aj,run_map->Apv,run_pure->An
open Go.Value renaming bool->SW
open Go.World renaming cell?->SZ
open Int renaming le_refl->kK,mul_le_mul_of_nonneg_right->Avs
open List renaming all_eq_true->AKf,any_eq_false->FB,append_assoc->Ci,append_nil->Df,contains_eq_mem->CX,drop->R,drop_zero->AL,eq_nil_of_length_eq_zero->Bb,ext_getElem?->AJl,filter_cons_of_neg->A8q,filter_cons_of_pos->A8r,filter_eq_self->Afo,getD_eq_getElem?_getD->Z,getElem?_append_left->AO,getElem?_append_right->A_,getElem?_cons_succ->Eb,getElem?_cons_zero->C2,getElem?_drop->D4,getElem?_eq_getElem->Af,getElem?_eq_none->AX,getElem?_eq_some_iff->Az,getElem?_map->Fy,getElem?_range->AJb,getElem?_set->AJj,getElem?_set_ne->DX,getElem?_set_self->Tb,getElem?_take_of_lt->B8,getElem?_toArray->C3,getElem_append_left->Dj,getElem_append_right->Dd,getElem_cons_succ->GC,getElem_cons_zero->Bk,getElem_drop->AJk,getElem_map->Gk,getElem_mem->AF,getElem_of_mem->ED,getElem_range->AKc,getElem_set_ne->HM,getElem_set_self->N4,getElem_toArray->EI,length->C,length_append->Ah,length_cons->B1,length_drop->C5,length_map->Bz,length_nil->Fr,length_set->AU,length_take->Db,mapM_cons->Gz,map_append->DU,map_cons->Bg,map_nil->C1,mem_append->AK,mem_append_left->B9,mem_cons->Aw,mem_cons_of_mem->AJ,mem_cons_self->AKh,mem_filter->Gj,mem_flatMap->Q2,mem_map->Cb,mem_of_mem_drop->Cv,mem_of_mem_take->BC,mem_range->S_,mem_singleton->AP,mem_zipIdx_iff_getElem?->HY,nil_append->Dg,not_mem_nil->A3,pairwise_cons->XQ,range->AZ,range'->WS,range_eq_range'->AFr,set_set->OP,size_toArray->CS,take->CN,take_append_drop->OZ,take_of_length_le->E_,take_zero->J'
open List.Pairwise renaming filter->AJg
open List.cons renaming injEq->Avt
open Nat renaming add_assoc->DC,add_comm->KG,add_mul->EC,add_zero->Bv,eq_zero_or_pos->LD,le_of_not_lt->vU,le_refl->Ay,le_trans->AA,lt_irrefl->Kt,lt_of_lt_of_le->Bf,lt_or_ge->CH,mod_eq_of_lt->Io,mul_le_mul->A8i,mul_le_mul_right->Kq,not_le_of_lt->Ip,strongRecOn->WQ,sub_self->Wo,sub_zero->Wh,succ_mul->OL,zero_add->AH,zero_le->B_,zero_mul->Avi
open Ne renaming symm->CW
open Option renaming bind_some->AFn,getD_some->F6,isNone_iff_eq_none->JL,isSome_iff_exists->A7,map_eq_some_iff->S,map_some->Am
open Option.some renaming inj->AY,injEq->Ac
open Prod.mk renaming injEq->Cc
section
variable {P:Program} {Y X:Nat->Prop} {w:World}
theorem EN{t:TypeId}{k:Nat}(h:Ft P t k=true):∃ e i a,P.underlying t=some (.slice e)/\P.info? e=some i/\i.size=k/\0<k/\i.bytes<=1048576/\i.zero=some a/\a.cells.size=k:=by
 unfold Ft at h;split at h
 ·rename_i e hu;split at h
  ·rename_i i hi;simp only[U,AM,DI] at h;obtain⟨⟨⟨h1,h2⟩,c⟩,b⟩:=h;split at b
   next a d=>simp only[AM] at b;exact⟨e,i,a,hu,hi,h1,by omega,c,d,by omega⟩
   ·cases b
  ·cases h
 ·cases h
theorem Ej{t:TypeId}(h:Fb P t=true):∃ e,P.underlying t=some (.slice e):=by
 unfold Fb at h;split at h
 next e hu=>exact⟨e,hu⟩
 ·cases h
section
variable(z:List AV)(n:Nat)
theorem J7:C (Gp z n)=n*C z:=by
 induction n with
 | zero=>simp[Gp]
 | succ n a=>simp only[Gp,Ah,a,OL];omega
theorem Afi:∀ i,i<n*C z->(Gp z n)[i]? = z[i % C z]? := by
 induction n with
 | zero=>intro i h;omega
 | succ n a =>
  intro i h;rw[OL] at h;simp only[Gp];by_cases hi:i<C z
  ·rw[AO hi,Io hi]
  ·rw[A_ (by omega),a _ (by omega)];congr 1;exact (Nat.mod_eq_sub_mod (by omega)).symm
theorem Afj:∀ x∈Gp z n,x∈z:=by
 induction n with
 | zero=>intro x h;cases h
 | succ n a =>
  intro x h;simp only[Gp,AK] at h;exact h.elim id (a x)
end
theorem wM{t:TypeId}{z:List AV}{kl kc:IntKind}{m:Int}(g:Ft P t (C z)=true)(a:Xq P t z=true)(h0:0<=m)(h1:m<=1048576) :
  ∃ e cells,(Instr.makeSlice t (.int kl m) (.int kc m)).run P w = .ok (.slice (some ⟨w.heap.size,0,none⟩) m.toNat m.toNat) (w.alloc (.cells cells e))/\Dl Y X w cells (Gp z m.toNat):=by
 obtain⟨e,i,b,hu,hi,hs,r,hb,c,h⟩:=EN g;unfold Xq at a;rw[hu] at a;dsimp only at a;unfold NG at a;rw[hi] at a;dsimp only at a;rw[c] at a;dsimp only at a;have hc:Dl Y X w b.cells z:=by
  have:=Kx (Y:=Y) (X:=X) (w:=w) a;simpa using this
 have k:(i.bytes:Int)*m<=281474976710656:=by
  have s:(i.bytes:Int)*m<=1048576*m:=Avs (by omega) h0;omega
 have hr:=run_make (P:=P) w t e i b hu hi c kl kc m m h0 (kK _) k (by omega);refine⟨e,_,hr,fun x l=>hc.1 x (Afj z _ x l),?_,fun j g1 d => ?_⟩
 ·rw[size_madeCells,J7,hs]
 ·have n:j<m.toNat*C z:=by rw[<- J7];exact d
  have f:=Afi z m.toNat j n;rw[Af d] at f;obtain⟨v,o,p⟩:=hc.get f.symm;have:(madeCells b.cells (m.toNat*i.size))[j]'g1=v:=by
   have q:b.cells[j % b.cells.size]? = some v:=by rw[h];exact o
   simp[madeCells,getElem!_def,q]
  rw[this];exact p
def IQ(w:World)(b off n:Nat):List Value:=(AZ n).map fun i=>(w.cell? ⟨b,off+i,none⟩).getD A9
theorem Pd{b off:Nat}{cs:List AV}(h:Gq Y X w b off cs) :
  C (IQ w b off (C cs))=C cs/\(∀ j u,(IQ w b off (C cs))[j]? = some u->w.cell? ((⟨b,off,none⟩:Addr).add j)=some u) /\
  (∀ (i:Nat) (h:i<C cs),∃ u,(IQ w b off (C cs))[i]? = some u/\Rd Y X w u cs[i])/\∀ u∈IQ w b off (C cs),u.oneCell'=true:=by
 obtain⟨hd,e⟩:=h;have a:∀ (i:Nat) (h:i<C cs),∃ u,(IQ w b off (C cs))[i]? = some u/\w.cell? ⟨b,off+i,none⟩=some u/\Rd Y X w u cs[i]:=by
  intro i hi;obtain⟨v,h1,h2⟩:=e i hi;exact⟨v,by simp[IQ,hi,h1],h1,h2⟩
 have hl:C (IQ w b off (C cs))=C cs:=by simp[IQ]
 refine⟨hl,fun j u hu => ?_,fun i hi => ?_,fun u hu => ?_⟩
 ·have c:j<C cs:=by
   have:=(Az.1 hu).1;omega
  obtain⟨v,h1,h2,_⟩:=a j c;rw[hu] at h1;cases h1;rw[Du];exact h2
 ·obtain⟨v,h1,_,d⟩:=a i hi;exact⟨v,h1,d⟩
 ·obtain⟨j,c,rfl⟩:=ED hu;obtain⟨v,h1,_,d⟩:=a j (by omega);rw[Af c] at h1;cases h1;exact (FQ d (hd _ (AF _))).1
theorem DD{t t' ty e a:TypeId}{i:TypeInfo}{args:Array Value}(h:P.underlying t=some (.slice e))(hi:P.info? e=some i)(b:P.underlying t'=some (.slice a)) :
  (Bi #[t,t'] ty args).run P w=(Bi #[t,t] ty args).run P w:=by
 have c:(sizeOf e).run P w = .ok i.size w:=by simp[sizeOf,typeInfo,program,Cl,hi]
 simp only[Bi,C3,C2,Eb];cases h0:args[0]? with
 | none=>rfl
 | some s =>
  cases h1:args[1]? with
  | none=>rfl
  | some x =>
   simp only[Aj,run_underlying h,W];cases s <;> try rfl
   simp only[Aj,c,run_underlying h,run_underlying b,W,An]
theorem Afk{y:Value}{m:Nat}{d:List AV}(h:Rd Y X w y (.sl m d)):(m=0/\d=[]/\(y = .slice none 0 0\/∃ p c,y = .slice (some p) 0 c))\/∃ b off cap,y = .slice (some ⟨b,off,none⟩) m cap/\Gq Y X w b off d/\m<=cap/\(d ≠ []->¬ X b):=by
 cases h with
 | nil0=>exact .inl ⟨rfl,rfl,.inl rfl⟩
 | e0 a c=>exact .inl ⟨rfl,rfl,.inr ⟨a,c,rfl⟩⟩
 | sl b off _ cap _ f hd hn hX hY hcell hr=>exact .inr ⟨b,off,cap,rfl,⟨hd,fun i hi=>⟨f i,hcell i hi,hr i hi⟩⟩,hn,hX⟩
def SlR(Y X:Nat->Prop)(w:World)(y:Value)(m:Nat)(a:List AV):Prop:=(m=0/\a=[]/\(y = .slice none 0 0\/∃ p c,y = .slice (some p) 0 c))\/∃ b off cap,y = .slice (some ⟨b,off,none⟩) m cap/\Gq Y X w b off a/\m<=cap
theorem oD{y:Value}{m:Nat}{a:List AV}(h:Rd Y X w y (.sl m a)):SlR Y X w y m a:=by
 rcases Afk h with h | ⟨b,off,cap,h1,h2,c,_⟩
 ·exact .inl h
 ·exact .inr ⟨b,off,cap,h1,h2,c⟩
theorem Wf{w':World}{e:TypeId}{k n:Nat}{v:Value}{xs:List Value}{cs:List AV}(d:w'.ownsRow w.heap.size e k v n xs)(hn:0<n)(hd:OK cs)(hl:C cs=n*k)(l:C xs=C cs)
  (hr:∀ (i:Nat) (h:i<C cs),∃ u,xs[i]? = some u/\Rd Y X w' u cs[i]):EG Y X (lA w.heap.size) w' v k n cs:=by
 obtain⟨_,h | ⟨g,cap,a,rfl,f,b,c,_,m,j⟩⟩:=d
 ·omega
 ·have o:n*k<=cap*k:=Kq _ c;refine .inr ⟨g,cap,rfl,c,hl,f,⟨hd,a,e,b,by omega,fun i hi => ?_⟩,a,e,b,by omega⟩;obtain⟨u,h1,h2⟩:=hr i hi;refine⟨u,?_,h2⟩;rw[<- j,B8 (by omega)] at h1;simpa using h1
theorem Wg{cs a:List AV}(h1:OK cs)(h2:OK a):OK (cs++a):=fun x b=>(AK.1 b).elim (h1 x) (h2 x)
theorem oE{t e:TypeId}{i:TypeInfo}{B:Nat}(h:Q7 P t B=true)(hu:P.underlying t=some (.slice e))(hi:P.info? e=some i):B*i.bytes<=140737488355328/\B<=140737488355328:=by
 unfold Q7 at h;simp only[hu,hi,U,DI] at h;exact h
theorem IR{t t' ty:TypeId}{k n m B:Nat}{cs f:List AV}{x y:Value}(M:Ft P t k=true)(N:Fb P t'=true)(O:Q7 P t B=true)
  (Q:(x = .slice none 0 0/\n=0/\cs=[]/\0<m)\/∃ b cap,x = .slice (some ⟨b,0,none⟩) n cap/\cap<n+m/\Gq Y X w b 0 cs) (r:C cs=n*k) (R:SlR Y X w y m f) (a2:0<m) (g:C f=m*k) (S:n+m<=B) :
  ∃ a w',(Bi #[t,t'] ty #[x,y]).run P w = .ok a w'/\Below w.heap.size w w'/\EG Y (fun c=>X c\/w.heap.size<=c) (lA w.heap.size) w' a k (n+m) (cs++f):=by
 obtain⟨e,i,s,hu,hi,hs,v,hb,z,A⟩:=EN M;obtain⟨e',T⟩:=Ej N;rw[DD hu hi T];obtain⟨D,E,F,rfl,o,_⟩:=R.resolve_left (fun h=>by have:=h.1;omega);obtain⟨l,G,H,U⟩:=Pd o;obtain⟨V,a3⟩:=oE O hu hi;have I:(n+m)*i.bytes<=140737488355328:=AA (A8i S (Ay _)) V;have J:n+m<=maxLen:=by simp only[maxLen];omega
 rcases Q with ⟨rfl,rfl,rfl,hm⟩ | ⟨b,cap,rfl,W,K⟩
 ·obtain⟨a,w',p,r1,r2,_⟩:=run_append_own (P:=P) w w.heap.size t ty e i s k i.bytes hu hi z hs rfl A v (.slice none 0 0) 0 [] (World.ownsRow_nil w _ e k) ⟨D,E,none⟩ m F _ (by rw[l,g]) G U J I (Ay _);have d:Below w.heap.size w w':=⟨r2.os,r2.tape,r2.output,r2.size,fun c hc=>r2.block c hc (by simp[Value.ownBlock])⟩;refine⟨a,w',p,d,?_⟩;simp only[Dg];refine Wf r1 (by omega) o.1 (by rw[g,AH]) (by simp[l]) (fun j q => ?_);obtain⟨u,h1,h2⟩:=H j q;exact⟨u,by simpa using h1,(h2.mono fun b hb=>hb).world fun c _ hc=>d.block c hc⟩
 ·obtain⟨o1,Z,o3,o4⟩:=Pd K;obtain⟨a,w',p,r1,r2⟩:=run_append_arg_grows (P:=P) w t ty e i s k i.bytes hu hi z hs rfl A v ⟨b,0,none⟩ n cap _ (by rw[o1,r]) Z ⟨D,E,none⟩ m F _ (by rw[l,g]) G W J I;have d:Below w.heap.size w w':=⟨r2.os,r2.tape,r2.output,r2.size,fun c hc=>r2.block c hc (by simp)⟩;refine⟨a,w',p,d,?_⟩;refine Wf r1 (by omega) (Wg K.1 o.1) (by rw[Ah,r,g,EC]) (by simp[o1,l]) (fun j q => ?_);by_cases L:j<C cs
  ·obtain⟨u,h1,h2⟩:=o3 j L;refine⟨u,by rw[AO (by omega)];exact h1,?_⟩;rw[Dj L];exact (h2.mono fun b hb=>hb).world fun c _ hc=>d.block c hc
  ·have a1:j-C cs<C f:=by simp at q;omega
   obtain⟨u,h1,h2⟩:=H _ a1;refine⟨u,by rw[A_ (by omega),o1];exact h1,?_⟩;rw[Dd (by omega)];exact (h2.mono fun b hb=>hb).world fun c _ hc=>d.block c hc
theorem Tj{t t' ty:TypeId}{k n m b cap:Nat}{cs d:List AV}{y:Value}(G:Ft P t k=true)(H:Fb P t'=true)(o:n+m<=cap)(hX:X b)
  (I:Ef Y X w b 0 cs) (J:Wd w b (cap*k)) (p:C cs=n*k) (K:SlR Y X w y m d) (L:m ≠ 0) (f:C d=m*k) :
  ∃ w',(Bi #[t,t'] ty #[.slice (some ⟨b,0,none⟩) n cap,y]).run P w = .ok (.slice (some ⟨b,0,none⟩) (n+m) cap) w'/\w'.os=w.os/\w'.tape=w.tape/\w'.output=w.output/\w'.heap.size=w.heap.size /\
   (∀ c,c ≠ b->w'.heap[c]? = w.heap[c]?)/\Ef Y X w' b 0 (cs++d)/\Wd w' b (cap*k):=by
 obtain⟨e,i,zv,hu,hi,hs,hk,hb,a1,a2⟩:=EN G;obtain⟨e',M⟩:=Ej H;rw[DD hu hi M];obtain⟨q,r,N,rfl,s,_⟩:=K.resolve_left (fun h=>L h.1);obtain⟨g,O,Q,S⟩:=Pd s;obtain⟨U,vs,T,l,_,hcell⟩:=I;obtain⟨a3,T',v,V⟩:=J;rw[l] at v;cases v;have W:(n+m)*k<=cap*k:=Kq _ o;rw[EC] at W;generalize a4:IQ w q r (C d)=a at *
 have hf:=run_firstCells_some (P:=P) w i.size m ⟨q,r,none⟩ m N a (by rw[g,f,hs]) O;have x:=run_storeCells_at P b (n*i.size) T a 0 vs w l (by rw[hs,g,f];omega) S;simp only[Bv] at x;have z:∀ c,¬ X c->c<w.heap.size->(w.setRow b (CN (n*i.size) vs.toList++a++R (n*i.size+C a) vs.toList).toArray).heap[c]? = w.heap[c]? := fun c hc _=>Dp _ _ _ _ (fun e=>hc (e ▸ hX));have A:=setRow_heap w b vs (CN (n*i.size) vs.toList++a++R (n*i.size+C a) vs.toList).toArray T (0,0) l;have B:(CN (n*i.size) vs.toList++a++R (n*i.size+C a) vs.toList).toArray.size=vs.size:=by
  simp only[CS,Ah,Db,C5,B3,g,f,hs];omega
 refine⟨w.setRow b (CN (n*i.size) vs.toList++a++R (n*i.size+C a) vs.toList).toArray,?_,rfl,rfl,rfl,Eg _ _ _,fun c hc=>Dp _ _ _ _ hc,⟨Wg U s.1,_,T,A,?_,fun j D => ?_⟩,⟨_,T,A,by rw[B];exact V⟩⟩
 ·simp[Bi,run_underlying hu,sizeOf,typeInfo,hi,EE,o,hf,Addr.add_lit,x]
 ·rw[B,Ah,p,f];omega
 ·have E:C (vs.toList.take (n*i.size))=n*k:=by simp only[Db,B3,hs];omega
  simp only[AH,C3];by_cases F:j<C cs
  ·obtain⟨u,h1,h2⟩:=hcell j F;refine⟨u,?_,?_⟩
   ·rw[Ci,AO (by omega),B8 (by rw[hs];omega)];simpa using h1
   ·rw[Dj F];exact h2.world z
  ·have Z:j-C cs<C d:=by simp at D;omega
   obtain⟨u,h1,h2⟩:=Q _ Z;refine⟨u,?_,?_⟩
   ·rw[AO (by simp only[Ah,E,g];simp at D;omega),A_ (by omega),E,<- p];exact h1
   ·rw[Dd (by omega)];exact h2.world z
theorem append_nil{t t' ty:TypeId}{k:Nat}(a:Ft P t k=true)(b:Fb P t'=true):(Bi #[t,t'] ty #[.slice none 0 0,.slice none 0 0]).run P w = .ok (.slice none 0 0) w:=by
 obtain⟨e,i,d,hu,hi,hs,f,hb,g,h⟩:=EN a;obtain⟨j,c⟩:=Ej b;rw[DD hu hi c];simp[Bi,run_underlying hu,sizeOf,typeInfo,hi,EE,EV]
theorem H4{t t' ty:TypeId}{k c:Nat}{p:Addr}(a:Ft P t k=true)(b:Fb P t'=true):(Bi #[t,t'] ty #[.slice none 0 0,.slice (some p) 0 c]).run P w = .ok (.slice none 0 0) w:=by
 obtain⟨e,i,f,hu,hi,hs,g,hb,h,j⟩:=EN a;obtain⟨l,d⟩:=Ej b;rw[DD hu hi d];have hf:=run_firstCells_some (P:=P) w i.size 0 p 0 c [] (by simp) (by simp);simp[Bi,run_underlying hu,sizeOf,typeInfo,hi,EE,hf]
theorem NI{t t' ty:TypeId}{k n b cap:Nat}(a:Ft P t k=true)(c:Fb P t'=true)(hn:n<=cap) :
  (Bi #[t,t'] ty #[.slice (some ⟨b,0,none⟩) n cap,.slice none 0 0]).run P w = .ok (.slice (some ⟨b,0,none⟩) n cap) w:=by
 obtain⟨e,i,f,hu,hi,hs,g,hb,h,j⟩:=EN a;obtain⟨l,d⟩:=Ej c;rw[DD hu hi d];simp[Bi,run_underlying hu,sizeOf,typeInfo,hi,EE,EV,hn,storeCells]
theorem J8{t t' ty:TypeId}{k n b cap c:Nat}{p:Addr}(a:Ft P t k=true)(d:Fb P t'=true)(hn:n<=cap) :
  (Bi #[t,t'] ty #[.slice (some ⟨b,0,none⟩) n cap,.slice (some p) 0 c]).run P w = .ok (.slice (some ⟨b,0,none⟩) n cap) w:=by
 obtain⟨e,i,g,hu,hi,hs,h,hb,j,l⟩:=EN a;obtain⟨m,f⟩:=Ej d;rw[DD hu hi f];have hf:=run_firstCells_some (P:=P) w i.size 0 p 0 c [] (by simp) (by simp);simp[Bi,run_underlying hu,sizeOf,typeInfo,hi,EE,hf,hn,storeCells]
theorem GB{len cap m h l:Nat}{lo hi mx:Option Value}(p:(mx=none/\m=cap)\/∃ k i,mx=some (.int k i)/\0<=i/\i.toNat=m/\m<=cap)(q:(hi=none/\mx=none/\h=len)\/∃ k i,hi=some (.int k i)/\0<=i/\i.toNat=h/\h<=m)
  (r:(lo=none/\l=0)\/∃ k i,lo=some (.int k i)/\0<=i/\i.toNat=l/\l<=h):(J2 true len cap lo hi mx).run P w = .ok (l,h,m) w:=by
 have hb:∀ (k:IntKind) (i:Int) (y n:Nat) (code:BoundsCode),0<=i->i.toNat=n->n<=y->(iR (.int k i) y code).run P w = .ok n w:=by
  intro k i y n code h0 h1 h2;rw[run_sliceBound w k i y code h0 (by omega),h1]
 rcases p with ⟨rfl,rfl⟩ | ⟨km,im,rfl,g,j,o⟩ <;> rcases q with ⟨rfl,s,rfl⟩ | ⟨kh,a,rfl,h0,h1,h2⟩ <;> rcases r with ⟨rfl,rfl⟩ | ⟨b,c,rfl,d,e,f⟩;all_goals first
  | cases s;done
  | simp only[J2,Aj,An,W]
 all_goals first
  | rfl
  | simp only[hb b c _ l _ d e f,W];done
  | simp only[hb kh a _ h _ h0 h1 h2,W];done
  | simp only[hb kh a _ h _ h0 h1 h2,hb b c _ l _ d e f,W];done
  | simp only[hb km im _ m _ g j o,hb kh a _ h _ h0 h1 h2,W];done
  | simp only[hb km im _ m _ g j o,hb kh a _ h _ h0 h1 h2,hb b c _ l _ d e f,W];done
theorem NJ{t:TypeId}{k len cap m h l:Nat}{a:Option Addr}{lo hi mx:Option Value}(b:Ft P t k=true)(hb:(J2 true len cap lo hi mx).run P w = .ok (l,h,m) w) :
  (F9 t (.slice a len cap) lo hi mx).run P w = .ok (.slice (if m=l then a else a.map (·.add (l*k))) (h-l) (m-l)) w:=by
 obtain⟨e,i,f,hu,c,hs,g,j,n,o⟩:=EN b;have d:(sizeOf e).run P w = .ok k w:=by simp[sizeOf,typeInfo,program,Cl,c,hs]
 simp only[F9,Aj,run_underlying hu,W,Iq,hb,d,An]
theorem Apz{v:Value}{n l h m k:Nat}{cs:List AV}(o:Rd Y X w v (.sl n cs))(t:l<=h)(u:h<=n) :
  ∃ a cap,v = .slice a n cap/\n<=cap/\(h<=m->(a=none->m=0)->Rd Y X w (.slice (if m=l then a else a.map (·.add (l*k))) (h-l) (m-l)) (.sl (h-l) ((cs.drop (l*k)).take ((h-l)*k))))/\(a=none->cap=0):=by
 cases o with
 | nil0 =>
  refine⟨none,0,rfl,Ay _,fun _ p => ?_,fun _=>rfl⟩;have h0:h=0:=by omega
  have d:l=0:=by omega
  subst h0 d;rw[p rfl];simpa using Rd.nil0
 | e0 a c =>
  have h0:h=0:=by omega
  have d:l=0:=by omega
  subst h0 d;refine⟨some a,c,rfl,B_ _,fun _ _ => ?_,fun h=>by cases h⟩;simp only[Wh,Avi,J'];split
  ·exact .e0 _ _
  ·exact .e0 _ _
 | sl b off _ cap _ f hd hn hX hY hcell hr =>
  refine⟨_,cap,rfl,hn,fun y _ => ?_,fun h=>by cases h⟩;have z:C ((cs.drop (l*k)).take ((h-l)*k))<=C cs-l*k:=by simp only[Db,C5];omega
  have q:OK ((cs.drop (l*k)).take ((h-l)*k)):=fun x g=>hd x (Cv (BC g));by_cases j:m=l
  ·have r:h-l=0:=by omega
   rw[Ae j,r,Avi,J'];exact .sl b off 0 (m-l) [] f (fun x g=>by cases g) (B_ _) (fun h=>absurd rfl h) (fun ⟨c,hc,_⟩=>by cases hc) (fun i hi=>by simp at hi) (fun i hi=>by simp at hi)
  ·rw[Al j];simp only[Am,Du];refine .sl b (off+l*k) (h-l) (m-l) _ (fun i=>f (l*k+i)) q (by omega) (fun s=>hX (fun e=>s (by rw[e];simp))) (fun ⟨c,hc,h1⟩=>hY ⟨c,Cv (BC hc),h1⟩) (fun i hi => ?_) (fun i hi => ?_)
   ·rw[DC];exact hcell _ (by omega)
   ·have:=hr (l*k+i) (by omega);simpa using this
end
section
variable(roots:List (Nat × Nat))
def CM(a:List Nat)(dst:Option Nat):Bool:=roots.all fun p => !(some p.2==dst) || a.contains p.1
def HL(dst:Option Nat)(d:Nat):Bool :=
 match dst with
 | some t=>roots.contains (t,d) && !(t==d)
 | none=>true
def oF(dst:Option Nat)(ks:List Nat):Bool:=dst.isSome&&roots.all fun p => !(some p.2==dst) || ks.contains p.1
end
def B2(roots:List (Nat × Nat))(oks:List Nat)(dst:Option Nat):K->Bool
 | .new _ ks=>oF roots dst ks
 | .box _ ks=>oF roots dst ks
 | .adr _ d _=>CM roots oks dst&&HL roots dst d
 | .ixo _ d _ _=>CM roots oks dst&&HL roots dst d
 | .cpy x=>CM roots oks dst&&HL roots dst x
 | .cpo x=>CM roots oks dst&&HL roots dst x
 | .st _ _ _ _=>dst.isNone
 | .bls _ _ _=>CM roots oks dst&&dst.isSome
 | .blo _ _ _ _=>CM roots oks dst&&dst.isSome
 | .mks _ _=>CM roots oks dst&&dst.isSome
 | .tra _=>CM roots oks dst&&dst.isSome
 | .apd _ _ _ _ _=>CM roots oks dst&&dst.isSome
 | .clo _ _=>CM roots oks dst&&dst.isSome
 | .nlo _=>CM roots oks dst&&dst.isSome
 | .bdo _ _ l=>CM roots (oks++l) dst&&dst.isSome
 | .stl x v=>dst.isNone&&roots.contains (x,v)
 | .npt=>CM roots oks dst&&dst.isSome
 | .mvf x _ _ _=>CM roots oks dst&&HL roots dst x
 | .mkw _ _ l=>CM roots (oks++l) dst&&dst.isSome
 | .clw _ _ d l=>CM roots (oks++l) dst&&dst==some d
 | .mvp _ d=>CM roots oks dst&&HL roots dst d
 | .ldh _ _ _ us=>CM roots oks dst&&dst.isSome&&us.all (fun u=>HL roots dst u)
 | .sth _ d v=>dst.isNone&&roots.contains (d,v)
 | .sts _ _ _=>dst.isNone
 | .aph x _ _ _ d _=>dst.isSome&&CM roots (d::x::oks) dst
 | .lda _ _ us=>CM roots oks dst&&dst.isSome&&us.all (fun u=>HL roots dst u)
 | .blh _ qs=>CM roots oks dst&&dst.isSome&&qs.all (fun q=>HL roots dst q.2)
 | .sta x _ _ us=>dst.isNone&&us.all (fun u=>roots.contains (x,u))
 | .cab _ _ d _=>CM roots oks dst && !(dst==some d)
 | .apn _ _ _ l=>CM roots (oks++l) dst&&dst.isSome
 | .mkm=>CM roots oks dst&&dst.isSome
 | .mup _ _ _ _=>dst.isNone
 | .blm u _=>CM roots oks dst&&dst.isSome&&HL roots dst u
 | .bom _ us=>CM roots oks dst&&dst.isSome&&us.all (fun u=>HL roots dst u)
 | .lok _ _ _ u _=>CM roots oks dst && !(dst==some u)
 | .cpf _ _ us=>CM roots oks dst&&dst.isSome&&us.all (fun u=>HL roots dst u)
 | .ldf _ d y _ _ _ us _=>CM roots (d::oks) dst&&dst==some y&&roots.contains (d,y) && !(d==y)&&us.all (fun u=>HL roots dst u)
 | _=>CM roots oks dst
theorem Au{s:H}{roots:List (Nat × Nat)}{oks:List Nat}{dst:Option Nat}(a:∀ t∈oks,BF (Ag s t)=false)(h:CM roots oks dst=true):D_ s roots dst:=by
 intro d hd t b;simp only[CM,AKf,CD,Bl,z,ne_eq,CX,DI] at h;rcases h (t,d) b with h1 | h1
 ·exact absurd hd.symm h1
 ·exact a t h1
theorem Wi{s:H}{b ls:List Nat}(c:∀ t∈b,BF (Ag s t)=false)(d:(ls.all fun t=>DV (Ag s t))=true):∀ t∈b++ls,BF (Ag s t)=false:=by
 intro t a;rcases AK.1 a with a | a
 ·exact c t a
 ·exact NA (AKf.1 d t a)
section
variable{roots:List (Nat × Nat)}{dst:Option Nat}
theorem C7{d:Nat}(h:HL roots dst d=true):∀ t,dst=some t->(t,d)∈roots/\t ≠ d:=by
 intro t a;subst a;simpa [HL] using h
theorem Wj{ks:List Nat}(h:oF roots dst ks=true):dst.isSome=true/\∀ d,dst=some d->∀ t,(t,d)∈roots->t∈ks:=by
 simp only[oF,U,AKf,CD,Bl,z,ne_eq,CX,DI] at h;refine⟨h.1,fun d hd t a => ?_⟩;rcases h.2 (t,d) a with h1 | h1
 ·exact absurd hd.symm h1
 ·exact h1
end
section
variable {P:Program} {Y X0:Nat->Prop} {roots:List (Nat × Nat)} {w0:Base} {w:World} {s:H} {a:Act} {Q:Exit->Act->World->Prop}
theorem DE{w:World}{b off:Nat}{vs:Array Value}{T:TypeId}{fz:Nat × Nat}(h:w.heap[b]? = some (.cells vs T fz)):w.cell? ⟨b,off,none⟩=vs[off]? := by
 simp only[SZ,h];rfl
theorem NK{Y X:Nat->Prop}{w:World}{zero:List Value}(d:0<C zero):∀ (n:Nat) (z:List AV),Tg z zero n=true->C z=n*C zero ->
  OK z/\∀ (i:Nat) (h:i<C z),∃ v,zero[i % C zero]? = some v/\Rd Y X w v z[i]
 | 0,z,_,hl=>by
  have:z=[]:=Bb (by simpa using hl);subst this;exact⟨fun x a=>(by cases a),fun i h=>(by simp at h)⟩
 | n+1,z,h,hl=>by
  simp only[Tg,U] at h;obtain⟨h1,h2⟩:=h;have l:C z=n*C zero+C zero:=by rw[hl,OL]
  obtain⟨hd,f⟩:=NK (Y:=Y) (X:=X) (w:=w) d n (z.drop (C zero)) h2 (by simp;omega);have hc:=Kx (Y:=Y) (X:=X) (w:=w) h1;refine⟨fun x a => ?_,fun i hi => ?_⟩
  ·rw[<- OZ (C zero) z,AK] at a;rcases a with a | a
   ·exact hc.1 x a
   ·exact hd x a
  ·by_cases c:i<C zero
   ·rw[Io c];have e:(z.take (C zero))[i]? = some z[i]:=by rw[B8 c,Af hi]
    obtain⟨v,b,hr⟩:=hc.get e;exact⟨v,by simpa using b,hr⟩
   ·have g:i-C zero<C (z.drop (C zero)):=by simp;omega
    obtain⟨v,b,hr⟩:=f (i-C zero) g;have j:(i-C zero) % C zero=i % C zero:=by
     rw[<- Nat.add_mod_right (i-C zero) (C zero)];congr 1;omega
    have k:(z.drop (C zero))[i-C zero]=z[i]:=by
     rw[AJk];congr 1;omega
    exact⟨v,j ▸ b,k ▸ hr⟩
theorem FN.world{Y X:Nat->Prop}{B G:Nat->Prop}{tm:Array Value}{w w':World}{t:Nat}{v:Value}{r:Reg}(h:FN Y X B G roots tm w t v r)(a:Below w.heap.size w w'):FN Y X B G roots tm w' t v r:=by
 cases r with
 | val x=>exact Rd.world h fun b _ hb=>a.block b hb
 | box cs=>obtain⟨b,f,g,e⟩:=h;exact⟨b,f,g,e.world (fun c _ hc=>a.block c hc) (a.block b e.lt)⟩
 | own k n cs=>exact EG.world h (fun c _ hc=>a.block c hc) (fun b _ hb=>a.block b hb)
 | agn b k n cs=>exact Kb.world h (fun c _ hc=>a.block c hc) (fun b _ hb=>a.block b hb)
 | bxl d =>
  obtain⟨f,b,g,e,j,l⟩:=h;exact⟨f,b,g,e,Bf j a.size,fun i hi=>by rw[<- l i hi];exact EW (a.block b j)⟩
 | mem cs=>obtain⟨b,off,f,g,e⟩:=h;exact⟨b,off,f,g,e.world (fun c _ hc=>a.block c hc) (fun hb=>a.block b hb)⟩
 | ptr d off=>exact h
 | dup d=>exact h
 | sub _ _ _ _=>exact h
 | bxh cs ls=>obtain⟨b,vs,T,f,g,e,j⟩:=h;exact⟨b,vs,T,f,g,by rw[a.block b (Fj e)];exact e,j.world (fun c _ hc=>a.block c hc)⟩
 | agh cs ls=>obtain⟨vs,f,g,j⟩:=h;exact⟨vs,f,g,j.world (fun c _ hc=>a.block c hc)⟩
 | agf cs us=>obtain⟨vs,f,g,j⟩:=h;exact⟨vs,f,g,j.world (fun c _ hc=>a.block c hc)⟩
 | bxf cs us=>obtain⟨b,vs,T,f,g,e,j⟩:=h;exact⟨b,vs,T,f,g,by rw[a.block b (Fj e)];exact e,j.world (fun c _ hc=>a.block c hc)⟩
 | mp ks=>obtain⟨b,ms,m,f,g,e,j⟩:=h;exact⟨b,ms,m,f,g,by rw[a.block b (Fj e)];exact e,j⟩
 | bxg cs=>obtain⟨b,f,g,e⟩:=h;exact⟨b,f,g,e.world (fun c _ hc=>a.block c hc) (a.block b e.lt)⟩
 | dead=>trivial
theorem Tk{Y X:Nat->Prop}{w:World}{t:TypeId}{n off:Nat}{one:Bool}{vs:Array Value}{cs:List AV}{x:AV}(ho:G7 P t n one=true)(hc:Dl Y X w vs cs)(a:Ad cs off n one=some x) :
  ∃ v,(part t vs off).run P w = .ok v w/\Rd Y X w v x:=by
 obtain⟨h1,h2⟩:=E6 ho;obtain⟨hd,hs,hr⟩:=hc;unfold Ad at a;cases one with
 | true =>
  simp only[if_true] at a;obtain⟨v,b,c⟩:=Dl.get ⟨hd,hs,hr⟩ a;exact⟨v,by simp[part,h1,b],c⟩
 | false =>
  simp only[AC,if_false] at a;split at a
  ·rename_i f;cases a;refine⟨.agg (vs.extract off (off+n)),by simp[part,h1,h2],.agg _ _ (fun y d=>hd y (Cv (BC d))) (by simp;omega) (fun i g e => ?_)⟩;have hi:i<n:=by simp at e;omega
   have:=hr (off+i) (by omega) (by omega);simpa using this
  ·cases a
theorem B5{b:Operand}{x:Nat}(h1:Bm b (.t x)=true):a.eval b=a.tmps.getD x A9:=by
 cases b <;> simp only[Bm] at h1 <;> try cases h1
 simp only[AM] at h1;subst h1;rfl
theorem Pe{o:Oper}{x:Nat}(h:Yf o.op x=true):(execOp a.eval o).run P w = .ok (.value (a.tmps.getD x A9)) w:=by
 unfold Yf at h;split at h
 next y b=>simp[execOp,b,B5 (a:=a) h]
 next y b=>simp[execOp,b,B5 (a:=a) h]
 ·cases h
theorem oH{x:Opd}{v:AV}(h:x.reg s = .val v):x.av s=some v:=by simp only [Opd.av,h]
theorem wN{x:Opd}{k n:Nat}{cs:List AV}(h:x.reg s = .own k n cs):∃ m,x = .t m:=by
 cases x with
 | t m=>exact⟨m,rfl⟩
 | c y=>simp only[Opd.reg] at h;cases h
theorem KI{Y X a:Nat->Prop}{B d U:Nat->Prop}{w':World}{v:Value}{k n:Nat}{cs:List AV}(e:∀ b,d b->B b)(h:EG Y (fun c=>X c\/Ax v=some c) d w' v k n cs)(hX:∀ b,a b->X b\/(U b/\Ax v=some b)):EG Y a B w' v k n cs :=
 (h.mono fun c hc => .inl ((hX c hc).imp id And.right)).lower e
theorem RL{s:H}:∀ {ps:List (Nat × Nat × Opd)} {cs a:List AV},GW s cs ps=some a->C a=C cs
 | [],cs,a,h=>by simp only[GW,Ac] at h;rw[h]
 | (off,n,o)::ps,cs,a,h=>by
  simp only[GW] at h;split at h
  ·cases h
  ·split at h
   ·cases h
   ·split at h
    ·cases h
    next hl=>rw[RL h,(MN hl).2.1]
theorem Yi(h:Rel Y X0 roots w0 s a w){d k n:Nat}{cells:Array Value}{cs:List AV}{T:TypeId}(e:∀ t,(t,d)∈roots->BF (Ag s t)=false)(hc:Dl Y (fun b=>X0 b\/XS s a.tmps b) w cells cs)(hl:C cs=n*k) :
  Rel Y X0 roots w0 (BD s (some d) (.own k n cs)) (a.put (some d) (.slice (some ⟨w.heap.size,0,none⟩) n n)) (w.alloc (.cells cells T)):=by
 refine BB (ks:=[]) h ((DZ _ _).alloc (Ay _) _) (fun t f => .inr (e t f)) (fun _ b hb=>by simp only[Ax,C6,Am,Ac] at hb;omega) (fun X h1 _ => ?_);have g:=(hc.mono (X':=X) (fun b hb=>(h1 b hb).imp id N8)).world (w':=w.alloc (.cells cells T)) (fun b _ hb=>FM _ _ _ hb);have c:(w.alloc (.cells cells T)).heap[w.heap.size]? = some (.cells cells T (0,0)):=by show (w.heap.push _)[w.heap.size]? = _;simp
 have hs:=hc.2.1;refine .inr ⟨w.heap.size,n,rfl,Ay _,hl,.inl h.below.size,⟨hc.1,cells,T,c,by omega,fun i hi => ?_⟩,cells,T,c,by omega⟩;exact⟨cells[i]'(by omega),by rw[AH,AE],g.2.2 i (by omega) hi⟩
theorem Q8{Y X:Nat->Prop}{B G:Nat->Prop}{d:Nat}{tm:Array Value}{w:World}{v:Value}{k n:Nat}{cs:List AV}{ow:Bool}(h:EG Y X B w v k n cs)(hn:ow=false->∀ b,Ax v=some b->¬ X b)(hY:∀ b,Y b->¬ B b):FN Y X B G roots tm w d v (if ow then .own k n cs else .val (.sl n cs)):=by
 cases ow with
 | true=>exact h
 | false=>exact EG.frozen h (fun b hb => .inl hb) (hn rfl) hY
def Awe:Value->Nat
 | .slice _ _ c=>c
 | _=>0
theorem Q9(h:Rel Y X0 roots w0 s a w){o:Option Opd}{o':Option Operand}{d n:Nat}(ho:RK o' o=true)(hb:H_ s d o=some n):(o=none/\o'=none/\n=d)\/∃ x,o=some x/\∃ k i,o'.map a.eval=some (.int k i)/\0<=i/\i.toNat=n:=by
 cases o with
 | none =>
  cases o' with
  | none=>simp only[H_,Ac] at hb;exact .inl ⟨rfl,rfl,hb.symm⟩
  | some y=>cases ho
 | some x =>
  cases o' with
  | none=>cases ho
  | some y =>
   simp only[RK] at ho;simp only[H_] at hb;split at hb
   ·rename_i k i hi;split at hb
    next h0=>cases hb;have:=BG h ho hi;generalize b:a.eval y=v at this;cases this;exact .inr ⟨x,rfl,k,i,by simp[b],h0,rfl⟩
    ·cases hb
   ·cases hb
theorem Alk(h:Rel Y X0 roots w0 s a w){o:Option Opd}{o':Option Operand}{l b:Nat}(ho:RK o' o=true)(hb:H_ s 0 o=some l)(c:l<=b):(o'.map a.eval=none/\l=0)\/∃ k i,o'.map a.eval=some (.int k i)/\0<=i/\i.toNat=l/\l<=b:=by
 rcases Q9 h ho hb with ⟨_,rfl,rfl⟩ | ⟨_,_,k,i,h1,h2,d⟩
 ·exact .inl ⟨rfl,rfl⟩
 ·exact .inr ⟨k,i,h1,h2,d,c⟩
theorem A8u(h:Rel Y X0 roots w0 s a w){o:Option Opd}{o':Option Operand}{d m cap:Nat}(ho:RK o' o=true)(hb:H_ s d o=some m)(hd:d=cap)(b:m<=cap):(o'.map a.eval=none/\m=cap)\/∃ k i,o'.map a.eval=some (.int k i)/\0<=i/\i.toNat=m/\m<=cap:=by
 rcases Q9 h ho hb with ⟨_,rfl,rfl⟩ | ⟨_,_,k,i,h1,h2,c⟩
 ·exact .inl ⟨rfl,hd⟩
 ·exact .inr ⟨k,i,h1,h2,c,b⟩
theorem AFt(h:Rel Y X0 roots w0 s a w){o:Option Opd}{o':Option Operand}{d m cap:Nat}(ho:RK o' o=true)(hb:H_ s d o=some m)(b:m<=cap):(o'.map a.eval=none/\(if o.isSome then m else cap)=cap)\/∃ k i,o'.map a.eval=some (.int k i)/\0<=i/\i.toNat=(if o.isSome then m else cap)/\(if o.isSome then m else cap)<=cap:=by
 rcases Q9 h ho hb with ⟨rfl,rfl,rfl⟩ | ⟨x,rfl,k,i,h1,h2,c⟩
 ·exact .inl ⟨rfl,rfl⟩
 ·exact .inr ⟨k,i,h1,h2,c,b⟩
theorem Awf(h:Rel Y X0 roots w0 s a w){o c:Option Opd}{o' d:Option Operand}{n b e:Nat}(ho:RK o' o=true)(f:RK d c=true)(hb:H_ s n o=some b)(hs:c.isSome->o.isSome)(h1:c.isSome=true->b<=e)(h2:¬ c.isSome=true->b<=e) :
  (o'.map a.eval=none/\d.map a.eval=none/\b=n)\/∃ k i,o'.map a.eval=some (.int k i)/\0<=i/\i.toNat=b/\b<=e:=by
 rcases Q9 h ho hb with ⟨rfl,rfl,rfl⟩ | ⟨x,rfl,k,i,g,j,l⟩
 ·refine .inl ⟨rfl,?_,rfl⟩;cases c with
  | none=>cases d with | none=>rfl | some y=>cases f
  | some z=>have:=hs rfl;cases this
 ·refine .inr ⟨k,i,g,j,l,?_⟩;by_cases b:c.isSome=true
  ·exact h1 b
  ·exact h2 b
theorem Grown.from_{B:Base}{w:World}(h:Grown B w):∀ b,lA w.heap.size b->B.mine b:=fun _ hb => .inl (AA h.size hb)
theorem Js(h:Rel Y X0 roots w0 s a w){w':World}(f:Below w.heap.size w w'){d k n:Nat}{v:Value}{cs:List AV}{ow:Bool}{ks:List Nat}(g:∀ t,(t,d)∈roots->t∈ks\/BF (Ag s t)=false)
  (e:EG Y (fun c=>(X0 c\/XS s a.tmps c)\/w.heap.size<=c) (lA w.heap.size) w' v k n cs) :
  Rel Y X0 roots w0 (BD (A5 s (ks.map fun u=>(u,Reg.dead))) (some d) (if ow then .own k n cs else .val (.sl n cs))) (a.put (some d) v) w':=by
 refine BB h f g (fun _ b hb=>(EG.block e hb).1) (fun X i j => ?_);have l:EG Y X w0.mine w' v k n cs:=(e.mono fun c hc => .inl ((i c hc).imp id N8)).lower h.below.from_;refine Q8 l (fun m c hc o => ?_) h.lowY;subst m;have h1:=(EG.block e hc).1;have:=h.lowX c (j rfl c o);unfold lA at h1;omega
theorem Jt(h:Rel Y X0 roots w0 s a w){d k:Nat}{ow:Bool}{ks:List Nat}(b:∀ t,(t,d)∈roots->t∈ks\/BF (Ag s t)=false) :
  Rel Y X0 roots w0 (BD (A5 s (ks.map fun u=>(u,Reg.dead))) (some d) (if ow then .own k 0 [] else .val (.sl 0 []))) (a.put (some d) (.slice none 0 0)) w :=
 Js h (DZ _ _) b (.inl ⟨rfl,rfl,rfl⟩)
theorem Awg{o:Oper}{r J:Operand}{t t':TypeId}{nx d k n m B:Nat}{cs j:List AV}{ow:Bool}{T:Act->World->Prop}(h:Rel Y X0 roots w0 s a w)
  (a2:o.op = .call { callee := .builtin .append,args:=#[r,J],argTypes:=#[t,t'] }) (h1:a.eval r=a.tmps.getD nx A9) (g:Ft P t k=true) (i:Fb P t'=true) (U:Q7 P t B=true) (x:o.dst=some d)
  (y:∀ u,(u,d)∈roots->BF (Ag s u)=false) (K:Ag s nx = .own k n cs) (z:SlR Y (fun b=>X0 b\/XS s a.tmps b) w (a.eval J) m j) (l:C j=m*k) (a3:n+m<=B)
  (q:∀ a' w',Rel Y X0 roots w0 (BD (A5 s [(nx,.dead)]) (some d) (if ow then .own k (n+m) (cs++j) else .val (.sl (n+m) (cs++j)))) a' w'->T a' w'):o.wp P a w T Q:=by
 have e:∀ {v:Value} {w':World},(Bi #[t,t'] o.type #[a.eval r,a.eval J]).run P w = .ok v w'->(execOp a.eval o).run P w = .ok (.value v) w':=by
  intro v w' hh;simp[execOp,a2,resolve,invoke,builtin,hh]
 rcases h.ownLow K with ⟨A,rfl,rfl⟩ | ⟨b,cap,A,E,F,V,L,W,a4⟩
 ·have M:a.eval r = .slice none 0 0:=by rw[h1,A]
  rw[M] at e;simp only[AH,Dg] at q;rcases LD m with G | G
  ·subst G;have N:j=[]:=Bb (by simpa using l);subst N;have hr:(execOp a.eval o).run P w = .ok (.value (.slice none 0 0)) w:=by
    rcases z with ⟨_,_,f | ⟨p,c,f⟩⟩ | ⟨b,off,cap,f,_⟩
    ·rw[f] at e;exact e (append_nil (P:=P) (w:=w) (ty:=o.type) g i)
    ·rw[f] at e;exact e (H4 (P:=P) (w:=w) (ty:=o.type) g i)
    ·rw[f] at e;exact e (H4 (P:=P) (w:=w) (ty:=o.type) g i)
   refine AI hr (q _ _ ?_);rw[x];exact Jt (ks:=[nx]) h (fun u hu => .inr (y u hu))
  ·obtain⟨v',w',D,O,H⟩:=IR (P:=P) (ty:=o.type) (n:=0) (cs:=[]) g i U (.inl ⟨rfl,rfl,rfl,G⟩) (by simp) z G l (by omega);have hr:=e D;simp only[Cn,hr,BN];refine q _ _ ?_;rw[x];simp only[AH,Dg] at H;exact Js (ks:=[nx]) h O (fun u hu => .inr (y u hu)) H
 have M:a.eval r = .slice (some ⟨b,0,none⟩) n cap:=by rw[h1,A]
 rw[M] at e;by_cases Z:m=0
 ·subst Z;have N:j=[]:=Bb (by simpa using l);subst N;have hr:(execOp a.eval o).run P w = .ok (.value (.slice (some ⟨b,0,none⟩) n cap)) w:=by
   rcases z with ⟨_,_,f | ⟨p,c,f⟩⟩ | ⟨b',a5,a6,f,_⟩
   ·rw[f] at e;exact e (NI (P:=P) (w:=w) (ty:=o.type) g i E)
   ·rw[f] at e;exact e (J8 (P:=P) (w:=w) (ty:=o.type) g i E)
   ·rw[f] at e;exact e (J8 (P:=P) (w:=w) (ty:=o.type) g i E)
  refine AI hr (q _ _ ?_);rw[x];refine Rel.shift h K (b:=b) (by rw[A];rfl) y rfl rfl rfl rfl (fun _ _=>rfl) (fun _=>rfl) (fun X R I => ?_);simp only[Bv,Df] at I |-;exact Q8 (.inr ⟨b,cap,rfl,E,F,V,L.mono fun c hc => .inl (R c hc),W⟩) (fun S=>by subst S;exact fun c hc=>by cases hc;exact I rfl) h.lowY
 by_cases a1:n+m<=cap
 ·obtain⟨w',D,R,I,g3,g4,g5,g6,g7⟩:=Tj (P:=P) (ty:=o.type) g i a1 (Y:=Y) (X:=fun b=>X0 b\/XS s a.tmps b) (.inr a4) L W F z Z l;have hr:=e D;simp only[Cn,hr,BN];refine q _ _ ?_;rw[x];refine Rel.shift h K (b:=b) (by rw[A];rfl) y R I g3 g4 g5 (fun _=>rfl) (fun X q1 q2 => ?_);exact Q8 (.inr ⟨b,cap,rfl,a1,by rw[Ah,F,l,EC],V,g6.mono fun c hc => .inl (q1 c hc),g7⟩) (fun S=>by subst S;exact fun c hc=>by cases hc;exact q2 rfl) h.lowY
 ·obtain⟨v',w',D,O,H⟩:=IR (P:=P) (ty:=o.type) g i U (.inr ⟨b,cap,rfl,by omega,L.mem⟩) F z (by omega) l a3;have hr:=e D;simp only[Cn,hr,BN];refine q _ _ ?_;rw[x];exact Js (ks:=[nx]) h O (fun u hu => .inr (y u hu)) H
theorem Awh{o:Oper}{q r:Operand}{t t':TypeId}{d k m B:Nat}{g:List AV}{x:Act->World->Prop}(h:Rel Y X0 roots w0 s a w)
  (G:o.op = .call { callee := .builtin .append,args:=#[q,r],argTypes:=#[t,t'] }) (i:Ft P t k=true) (j:Fb P t'=true) (H:Q7 P t B=true) (y:o.dst=some d)
  (z:∀ u,(u,d)∈roots->BF (Ag s u)=false) (I:a.eval q = .slice none 0 0) (A:SlR Y (fun b=>X0 b\/XS s a.tmps b) w (a.eval r) m g) (D:C g=m*k) (N:m<=B)
  (E:∀ a' w',Rel Y X0 roots w0 (BD s (some d) (.own k m g)) a' w'->x a' w'):o.wp P a w x Q:=by
 have e:∀ {v:Value} {w':World},(Bi #[t,t'] o.type #[a.eval q,a.eval r]).run P w = .ok v w'->(execOp a.eval o).run P w = .ok (.value v) w':=by
  intro v w' J;simp[execOp,G,resolve,invoke,builtin,J]
 rw[I] at e;rcases LD m with l | l
 ·subst l;have K:g=[]:=Bb (by simpa using D);subst K;have hr:(execOp a.eval o).run P w = .ok (.value (.slice none 0 0)) w:=by
   rcases A with ⟨_,_,f | ⟨p,c,f⟩⟩ | ⟨b,off,cap,f,_⟩
   ·rw[f] at e;exact e (append_nil (P:=P) (w:=w) (ty:=o.type) i j)
   ·rw[f] at e;exact e (H4 (P:=P) (w:=w) (ty:=o.type) i j)
   ·rw[f] at e;exact e (H4 (P:=P) (w:=w) (ty:=o.type) i j)
  refine AI hr (E _ _ ?_);rw[y];exact Jt (ow:=true) (ks:=[]) h (fun u hu => .inr (z u hu))
 ·obtain⟨O,w',L,M,F⟩:=IR (P:=P) (ty:=o.type) (n:=0) (cs:=[]) i j H (.inl ⟨rfl,rfl,rfl,l⟩) (by simp) A l D (by omega);have hr:=e L;simp only[Cn,hr,BN];refine E _ _ ?_;rw[y];simp only[AH,Dg] at F;exact Js (ow:=true) (ks:=[]) h M (fun u hu => .inr (z u hu)) F
end
theorem KP{ls:List (Nat × Nat)}{i j:Nat}:Ed (OS ls i) j=if i=j then none else Ed ls j:=by
 induction ls with
 | nil=>simp[OS,Ed]
 | cons p ls b =>
  obtain⟨o,u⟩:=p;unfold OS at b |-;by_cases h:o=i
  ·subst h;rw[A8q (by simp),b];by_cases a:o=j
   ·simp[a]
   ·simp[Ed,a]
  ·rw[A8r (by simp[h])];simp only[Ed];by_cases a:o=j
   ·subst a;simp[CW h]
   ·simp only[a,if_false];exact b
theorem lB{ls:List (Nat × Nat)}{i:Nat}{p:Nat × Nat}(h:p∈OS ls i):p∈ls:=(Gj.1 h).1
theorem NL{s:H}:∀ {ls:List (Nat × Nat)} {cs a:List AV} {l:List (Nat × Reg)},Jp s ls cs=some (a,l) ->
  C a=C cs/\(∀ i,Ed ls i=none->a[i]? = cs[i]?)/\(∀ i u,Ed ls i=some u->∃ k n es,Ag s u = .own k n es/\(u,Ab (.sl n es))∈l/\(i<C cs->a[i]? = some (.sl n es))) /\
  (∀ p∈l,∃ k n es,Ag s p.1 = .own k n es/\p.2 = .val (.sl n es))
 | [],cs,a,l,h=>by
  cases h;exact⟨rfl,fun i _=>rfl,fun i u hu=>(by cases hu),fun p b=>(by cases b)⟩
 | (o,u)::ls,cs,a,l,h=>by
  simp only[Jp] at h;split at h
  ·rename_i k n es hr;split at h
   ·rename_i y z hf;cases h;obtain⟨h1,h2,g,j⟩:=NL hf;refine⟨by rw[AU,h1],fun i hi => ?_,fun i v c => ?_,fun p b => ?_⟩
    ·simp only[Ed] at hi;split at hi
     ·cases hi
     next d=>rw[DX d];exact h2 i hi
    ·simp only[Ed] at c;split at c
     next e=>cases c;subst e;exact⟨k,n,es,hr,AKh,fun f=>by rw[Tb (by omega)]⟩
     next d=>obtain⟨m,q,r,t,w,x⟩:=g i v c;exact⟨m,q,r,t,AJ _ w,fun f=>by rw[DX d];exact x f⟩
    ·rcases Aw.1 b with rfl | b
     ·exact⟨k,n,es,hr,rfl⟩
     ·exact j p b
   ·cases h
  ·cases h
theorem Yk{s:H}:∀ {ls:List (Nat × Nat)} {cs a:List AV},L9 s ls cs=some a ->
  C a=C cs/\(∀ i,Ed ls i=none->a[i]? = cs[i]?)/\(∀ i u,Ed ls i=some u->∃ k n es,Ag s u = .own k n es/\(i<C cs->a[i]? = some (.sl n es)))
 | [],cs,a,h=>by
  cases h;exact⟨rfl,fun i _=>rfl,fun i u hu=>by cases hu⟩
 | (o,u)::ls,cs,a,h=>by
  simp only[L9] at h;split at h
  ·rename_i k n es hr;simp only[S] at h;obtain⟨q,hf,rfl⟩:=h;obtain⟨h1,h2,f⟩:=Yk hf;refine⟨by rw[AU,h1],fun i hi => ?_,fun i v b => ?_⟩
   ·simp only[Ed] at hi;split at hi
    ·cases hi
    next c=>rw[DX c];exact h2 i hi
   ·simp only[Ed] at b;split at b
    next e=>cases b;subst e;exact⟨k,n,es,hr,fun d=>by rw[Tb (by omega)]⟩
    next c=>obtain⟨g,j,l,m,p⟩:=f i v b;exact⟨g,j,l,m,fun d=>by rw[DX c];exact p d⟩
  ·cases h
def Apt:List (Nat × Nat)->Prop
 | []=>True
 | (o,_)::ls=>Ed ls o=none/\Apt ls
theorem Wl{s:H}:∀ {ls:List (Nat × Nat)} {cs a:List AV},J_ s ls cs=some a ->
  C a=C cs/\(∀ i,Ed ls i=none->a[i]? = cs[i]?)/\(∀ p∈ls,p.1<C cs/\Aez (Ag s p.2)=true)/\Apt ls
 | [],cs,a,h=>by
  cases h;exact⟨rfl,fun i _=>rfl,fun p b=>(by cases b),trivial⟩
 | (o,u)::ls,cs,a,h=>by
  simp only[J_] at h;split at h
  ·rename_i c;obtain⟨hr,d,e⟩:=c;simp only[S] at h;obtain⟨k,hf,rfl⟩:=h;obtain⟨h1,h2,f,g⟩:=Wl hf;refine⟨by rw[AU,h1],fun i hi => ?_,fun p b => ?_,e,g⟩
   ·simp only[Ed] at hi;split at hi
    ·cases hi
    next j=>rw[DX j];exact h2 i hi
   ·rcases Aw.1 b with rfl | b
    ·exact⟨d,hr⟩
    ·exact f p b
  ·cases h
theorem Aqa{s:H}{t:Nat}{r:Reg}(h:Ag s t=r):s.set t r=s:=by
 apply AJl;intro i;rw[AJj];split
 ·rename_i e;subst e;split
  next a=>simp only[Ag,Z,Af a,F6] at h;rw[Af a,h]
  next b=>rw[AX (by omega)]
 ·rfl
section
variable {P:Program} {Y X0:Nat->Prop} {roots:List (Nat × Nat)} {w0:Base} {w:World} {s:H} {a:Act} {Q:Exit->Act->World->Prop}
theorem Kz{s0:H}:∀ (l:List (Nat × Reg)) {s:H},Rel Y X0 roots w0 s a w->(∀ p∈l,∃ k n es,Ag s0 p.1 = .own k n es/\p.2 = .val (.sl n es)) ->
  (∀ t,Ag s t=Ag s0 t\/∃ k n es,Ag s0 t = .own k n es/\Ag s t = .val (.sl n es)) ->
  Rel Y X0 roots w0 (A5 s l) a w/\(∀ t,Ag (A5 s l) t=Ag s0 t\/∃ k n es,Ag s0 t = .own k n es/\Ag (A5 s l) t = .val (.sl n es))/\(∀ t r,Ag s t = .val r->Ag (A5 s l) t = .val r)/\∀ p∈l,Ag (A5 s l) p.1=p.2
 | [],s,h,_,hs=>⟨h,hs,fun _ _ h=>h,fun p b=>by cases b⟩
 | (u,r)::l,s,h,hl,hs=>by
  obtain⟨k,n,es,h1,h2⟩:=hl (u,r) AKh;simp only at h1 h2;subst h2;have m:u<C s:=by
   rcases CH u (C s) with g | g
   ·exact g
   ·exfalso;have:Ag s u = .dead:=by simp only[Ag,Z,AX g];rfl
    rcases hs u with e | ⟨_,_,_,_,e⟩
    ·rw[h1,this] at e;cases e
    ·rw[this] at e;cases e
  have o:Rel Y X0 roots w0 (s.set u (.val (.sl n es))) a w:=by
   rcases hs u with e | ⟨q,v,x,c,d⟩
   ·exact h.freeze (e.trans h1)
   ·rw[h1] at c;cases c;rw[Aqa d];exact h
  have f:∀ t,Ag (s.set u (.val (.sl n es))) t=if u=t then .val (.sl n es) else Ag s t:=by
   intro t;rw[Cf];by_cases e:u=t
   ·rw[Ae ⟨e,m⟩,Ae e]
   ·rw[Al (fun g=>e g.1),Al e]
  obtain⟨y,z,j,A⟩:=Kz l o (fun p b=>hl p (AJ _ b)) (fun t=>by
   rw[f];split
   next e=>subst e;exact .inr ⟨k,n,es,h1,rfl⟩
   ·exact hs t)
  refine⟨y,z,fun t r i => ?_,fun p b => ?_⟩
  ·refine j t r ?_;rw[f];split
   ·rename_i e;subst e;rcases hs u with e | ⟨q,v,x,c,d⟩
    ·rw[i,h1] at e;cases e
    ·rw[h1] at c;cases c;rw[i] at d;exact d.symm
   ·exact i
  ·rcases Aw.1 b with rfl | b
   ·exact j u _ (by rw[f,Ae rfl])
   ·exact A p b
theorem Rel.hold(h:Rel Y X0 roots w0 s a w){d:Nat}{cs e:List AV}{ls k:List (Nat × Nat)}(hd:Ag s d = .bxh cs ls)(o:C e<=C cs)(q:∀ p∈k,p∈ls)
  (hc:∀ (i:Nat) (h1:i<C e) (h2:i<C cs),match Ed k i with
   | some u=>Ed ls i=some u
   | none=>e[i] = .undef\/(Ed ls i=none/\e[i]=cs[i])\/∃ u,Ed ls i=some u/\Ag s u = .val e[i]/\EK e[i]=true) :
  Rel Y X0 roots w0 (s.set d (.bxh e k)) a w:=by
 have h0:=h.reg d;rw[hd] at h0;obtain⟨b,vs,T,m,n,r,l⟩:=h0;refine Rel.store h hd rfl rfl (b:=b) (by rw[m];rfl) n rfl rfl rfl rfl (fun _ _=>rfl) (fun X hX=>⟨b,vs,T,m,n,r,fun p t=>l.1 p (q p t),AA o l.2.1,fun i hi => ?_⟩);obtain⟨v,x,y,f⟩:=l.2.2 i (by omega);refine⟨v,x,y,?_⟩;have j:=hc i hi (by omega);split
 next u hu=>simp only[hu] at j;simp only[j] at f;exact f
 ·rename_i hu;simp only[hu] at j;rcases j with j | ⟨c1,c2⟩ | ⟨u,c1,c2,c3⟩
  ·exact .inl j
  ·simp only[c1] at f;rw[c2];exact f.imp id fun g=>⟨g.1,g.2.mono fun c hc => .inl ((hX c).1 hc)⟩
  ·simp only[c1] at f;refine .inr ⟨c3,?_⟩;have h1:=h.reg u;rw[c2] at h1;rw[f];exact Rd.mono h1 fun c hc => .inl ((hX c).1 hc)
theorem Rel.holdBox(h:Rel Y X0 roots w0 s a w){d:Nat}{cs:List AV}(hd:Ag s d = .bxh cs [])(l:cs.all EK=true):Rel Y X0 roots w0 (s.set d (.box cs)) a w:=by
 have h0:=h.reg d;rw[hd] at h0;obtain⟨b,vs,T,f,g,m,j⟩:=h0;have k:OK cs:=fun x n=>AKf.1 l x n;refine Rel.store h hd rfl rfl (b:=b) (by rw[f];rfl) g rfl rfl rfl rfl (fun _ _=>rfl) (fun X hX=>⟨b,f,g,k,vs,T,m,by have:=j.2.1;omega,fun i hi => ?_⟩);obtain⟨v,o,p,e⟩:=j.2.2 i hi;simp only[Ed] at e;refine⟨v,by rw[AH];exact o,?_⟩;rcases e with e | e
 ·have:=k _ (AF hi);rw[e] at this;cases this
 ·exact e.2.mono fun c hc => .inl ((hX c).1 hc)
theorem Rel.dead(h:Rel Y X0 roots w0 s a w){dst:Option Nat}{v:Value}(hf:D_ s roots dst):Rel Y X0 roots w0 (BD s dst .dead) (a.put dst v) w:=by
 cases dst with
 | none=>exact h
 | some d=>exact BB (ks:=[]) h (DZ _ _) (fun t b => .inr (hf d rfl t b)) (fun c=>(by cases c)) (fun X _ _=>trivial)
theorem Awi{o:Oper}{d:Act->World->Prop}(h:Rel Y X0 roots w0 s a w)(b:Cq P o.op .npt=true)(hf:D_ s roots o.dst)(e:∀ a' w',Rel Y X0 roots w0 (BD s o.dst .dead) a' w'->d a' w'):o.wp P a w d Q:=by
 simp only[Cq] at b;split at b
 next c=>exact AI (v := .pointer none) (by simp[execOp,c,Jq]) (e _ _ (h.dead hf))
 next c=>exact AI (v := .pointer none) (by simp[execOp,c,Jq]) (e _ _ (h.dead hf))
 ·cases b
theorem Awj{o:Oper}{x d:Nat}{r:Reg}{l:List (Nat × Reg)}{F:Bh}{z:Act->World->Prop}(h:Rel Y X0 roots w0 s a w)(g:Cq P o.op (.mvp x d)=true)(hf:D_ s roots o.dst)(A:∀ t,o.dst=some t->(t,d)∈roots/\t ≠ d)
  (c:A8 F s (.mvp x d)=some (r,l)) (j:∀ a' w',Rel Y X0 roots w0 (BD (A5 s l) o.dst r) a' w'->z a' w'):o.wp P a w z Q:=by
 have k:∀ b f,a.tmps.getD x A9 = .pointer (some ⟨b,f,none⟩)->(execOp a.eval o).run P w = .ok (.value (.pointer (some ⟨b,f,none⟩))) w:=by
  intro b f m;simp only[Cq] at g;split at g
  next y i=>simp[execOp,i,B5 (a:=a) g,m]
  next y i=>simp[execOp,i,B5 (a:=a) g,m]
  next y i=>simp[execOp,i,B5 (a:=a) g,m]
  ·cases g
 have h0:=h.reg x;simp only[A8] at c;split at c
 ·rename_i n;subst n;split at c
  case isFalse=>cases c
  rename_i q;cases c;have:∃ b,a.tmps.getD x A9 = .pointer (some ⟨b,0,none⟩):=by
   cases hr:Ag s x <;> rw[hr] at q h0 <;> first | (exact absurd q (by decide)) | (obtain⟨b,e,_⟩:=h0;exact⟨b,e⟩) | (obtain⟨b,_,_,e,_⟩:=h0;exact⟨b,e⟩) | (simp[Ir,Ale] at q;done)
  obtain⟨b,e⟩:=this;refine AI (k b 0 e) (j _ _ ?_);exact My (off:=0) (p:=⟨b,0,none⟩) h hf A (by rw[e];rfl) rfl
 ·split at c
  ·rename_i B f hr;rw[hr] at h0;split at c
   next n=>subst n;cases c;obtain⟨_,p,e,u,v⟩:=h0;refine AI (k p.block (p.off+f) v) (j _ _ ?_);exact My (off:=f) h hf A e u
   ·cases c
  next cs hr=>rw[hr] at h0;cases c;obtain⟨b,f,e,u,v⟩:=h0;refine AI (k b f e) (j _ _ ?_);exact LC h hf u v
  ·cases c
theorem Awk{o:Oper}{op:BinOp}{x y:Opd}{r:Reg}{l:List (Nat × Reg)}{F:Bh}{p:Act->World->Prop}(h:Rel Y X0 roots w0 s a w)(c:Cq P o.op (.sbn op x y)=true)(hf:D_ s roots o.dst)
  (d:A8 F s (.sbn op x y)=some (r,l)) (g:∀ a' w',Rel Y X0 roots w0 (BD (A5 s l) o.dst r) a' w'->p a' w'):o.wp P a w p Q:=by
 simp only[Cq] at c;split at c
 ·rename_i i t q u t' j;simp only[U,AM] at c;obtain⟨⟨⟨rfl,h0⟩,h1⟩,h2⟩:=c;simp only[A8] at d;split at d
  ·rename_i e f C E;simp only[S] at d;obtain⟨z,b,G⟩:=d;cases G;have A:=BG h h1 C;have B:=BG h h2 E;generalize k:a.eval q=H at A;generalize m:a.eval u=I at B;cases A;cases B;have n:(eqGuard i t q u (.string e) (.string f)).run P w = .ok () w:=by cases i <;> rfl
   cases i <;> simp only[kO] at b <;> first | (cases b;done) | skip
   ·split at b
    ·rename_i J;cases b;refine AI (v := .string (e++f)) ?_ (g _ _ (h.put hf (.str _)));have hn:¬ (((e.size+f.size:Nat):Int)>IntKind.max D):=by
      have:IntKind.max D=9223372036854775807:=by decide
      omega
     simp only[execOp,j,k,m,Aj,n,W,binOp,N9,hn,if_false,An]
    ·cases b
   ·cases b;refine AI (v := .bool (e.toList==f.toList)) ?_ (g _ _ (h.put hf (.bool _)));simp only[execOp,j,k,m,Aj,n,W,binOp,N9,An]
   ·cases b;refine AI (v := .bool (!(e.toList==f.toList))) ?_ (g _ _ (h.put hf (.bool _)));simp only[execOp,j,k,m,Aj,n,W,binOp,N9,An]
  ·cases d
 ·cases c
theorem Awl{o:Oper}{x:Opd}{r:Reg}{l:List (Nat × Reg)}{F:Bh}{e:Act->World->Prop}(h:Rel Y X0 roots w0 s a w)(c:Cq P o.op (.sln x)=true)(hf:D_ s roots o.dst)
  (d:A8 F s (.sln x)=some (r,l)) (k:∀ a' w',Rel Y X0 roots w0 (BD (A5 s l) o.dst r) a' w'->e a' w'):o.wp P a w e Q:=by
 simp only[Cq] at c;split at c
 ·rename_i args f m;split at c
  ·rename_i n t g i;simp only[U] at c;obtain⟨h1,h2⟩:=c;obtain⟨args⟩:=args;obtain⟨f⟩:=f;simp only at g i;subst g i;simp only[A8] at d;split at d
   ·rename_i b p;cases d;have j:=BG h h1 p;generalize q:a.eval n=u at j;cases j;refine AI (v := .int .i64 b.size) ?_ (k _ _ (h.put hf (.int _ _)));split at h2
    next hu=>simp[execOp,m,resolve,invoke,builtin,H0,q,run_underlying hu];rfl
    ·cases h2
   ·cases d
  ·cases c
 ·cases c
end
section
variable {P:Program} {Y X0:Nat->Prop} {roots:List (Nat × Nat)} {w0:Base} {w:World} {s:H} {a:Act} {Q:Exit->Act->World->Prop}
theorem Ig{s:H}{t:Nat}{r:Reg}(h:Ag s t=r)(hr:r ≠ .dead):t<C s:=by
 rcases CH t (C s) with g | g
 ·exact g
 ·exfalso;simp only[Ag,Z,AX g] at h;exact hr h.symm
theorem Ek{s:H}{d t:Nat}{r:Reg}(a:d<C s):Ag (s.set d r) t=if d=t then r else Ag s t:=by
 rw[Cf];by_cases e:d=t
 ·rw[Ae ⟨e,a⟩,Ae e]
 ·rw[Al (fun g=>e g.1),Al e]
theorem Tl{a:H}{d t:Nat}{cs g:List AV}{ls b:List (Nat × Nat)}(f:∀ t,Ag a t=Ag s t\/∃ k n es,Ag s t = .own k n es/\Ag a t = .val (.sl n es))(hd:Ag s d = .bxh cs ls)(h:∀ p∈b,p∈ls)
  (c:BF (Ag s t)=false):BF (Ag (a.set d (.bxh g b)) t)=false:=by
 have i:Ag a d = .bxh cs ls:=by
  rcases f d with e | ⟨_,_,_,e,_⟩
  ·rw[e,hd]
  ·rw[hd] at e;cases e
 rw[Ek (Ig i (by nofun))];split
 ·rename_i e;subst e;rw[hd] at c;cases ls with
  | cons _ _=>cases c
  | nil =>
   cases b with
   | nil=>rfl
   | cons p _=>exact absurd (h p AKh) (by simp)
 ·rcases f t with e | ⟨_,_,_,_,e⟩
  ·rw[e];exact c
  ·rw[e];rfl
theorem Sj{t:TypeId}{b off:Nat}{v:Value}(ho:G7 P t 1 true=true)(hc:w.cell? ⟨b,off,none⟩=some v):(loadVar t ⟨b,off,none⟩).run P w = .ok v w:=by
 obtain⟨h1,_⟩:=E6 ho;simp[loadVar,h1,hc]
theorem Awm{o:Oper}{x d:Nat}{fz:Bool}{us a1:List Nat}{r:Reg}{l:List (Nat × Reg)}{F:Bh}{O:Act->World->Prop}(h:Rel Y X0 roots w0 s a w)(I:Cq P o.op (.ldh x d fz us)=true)(A:∀ t∈a1,BF (Ag s t)=false)
  (a2:B2 roots a1 o.dst (.ldh x d fz us)=true) (f:A8 F s (.ldh x d fz us)=some (r,l)) (B:∀ a' w',Rel Y X0 roots w0 (BD (A5 s l) o.dst r) a' w'->O a' w'):o.wp P a w O Q:=by
 simp only[B2,U,AKf] at a2;obtain⟨⟨hf,b9⟩,a6⟩:=a2;simp only[Cq] at I;split at I
 case h_2=>cases I
 rename_i t x' a7;simp only[U] at I;obtain⟨h1,h2⟩:=I;have a8:=B5 (a:=a) h1;have h0:=h.reg x;simp only[A8] at f;split at f
 case h_2=>cases f
 rename_i z off hr;rw[hr] at h0;split at f
 case isFalse=>cases f
 rename_i hd;subst hd;obtain⟨_,p,g1,g2,g3⟩:=h0;have D:=h.reg z;have E:∀ (b:Nat) (v:Value) (a':Act),a'=a->a.tmps.getD z A9 = .pointer (some ⟨b,0,none⟩)->w.cell? ⟨b,off,none⟩=some v->(∀ V:Act->World->Prop,V (a.put o.dst v) w->(∀ a' w',V a' w'->O a' w')->o.wp P a w O Q):=by
  intro b v a' _ he hc V a9 b0;rw[he] at g1;cases g1;have b1:=Sj (P:=P) h2 hc;refine AI (v:=v) ?_ (b0 _ _ a9);simp only[execOp,a7,Hg,a8,g3,BQ,Aj,An,W,AH,b1]
 split at f
 ·-- a plain variable
  rename_i cs m;rw[m] at D;split at f
  case h_2=>cases f
  rename_i c hc;cases f;obtain⟨b,y,_,J⟩:=D;obtain⟨K,j⟩:=Az.1 hc;obtain⟨v,G,g⟩:=J.mem.2 off K;rw[AH] at G;refine E b v a rfl y G _ ?_ B;simp only[A5];exact h.put (Au A hf) (j ▸ g)
 ·rename_i cs ls m;rw[m] at D;obtain⟨b,vs,T,y,e2,J,X⟩:=D;unfold IK at f;split at f
  case isFalse=>cases f
  rename_i b2;split at f
  case isFalse=>cases f
  rename_i K;obtain⟨v,G,q0,g⟩:=X.2.2 off K;have hcell:w.cell? ⟨b,off,none⟩=some v:=by rw[DE J];exact G
  have a3:∀ u,Ed ls off=some u->∀ t,o.dst=some t->(t,u)∈roots/\t ≠ u:=by
   intro u hu;have:=AKf.1 b2 _ (Ic hu);exact C7 (a6 u (by simpa using this))
  cases fz with
  | false =>
   simp only[AC,if_false] at f;split at f
   next u hu=>cases f;simp only[hu] at g;refine E b v a rfl y hcell _ ?_ B;simp only[A5];rw[g];exact h.putDup (Au A hf) (a3 u hu)
   ·rename_i hu;simp only[hu] at g;split at f
    ·rename_i c hc;split at f
     ·rename_i L;cases f;obtain⟨_,j⟩:=Az.1 hc;refine E b v a rfl y hcell _ ?_ B;simp only[A5];rcases g with g | g
      ·rw[j] at g;rw[g] at L;cases L
      ·rw[j] at g;exact h.put (Au A hf) g.2
     ·cases f
    ·cases f
  | true =>
   simp only[if_true] at f;split at f
   case h_2=>cases f
   rename_i a4 M b3;obtain⟨f1,Z,f3,f4⟩:=NL b3;obtain⟨r1,r2,r3,r4⟩:=Kz (s0:=s) M h f4 (fun t => .inl rfl);have a5:Ag (A5 s M) z = .bxh cs ls:=by
    rcases r2 z with e | ⟨_,_,_,e,_⟩
    ·rw[e,m]
    ·rw[m] at e;cases e
   have c0:C (A5 s M)=C s:=Ie _ _;have step:∀ N:List (Nat × Nat),(∀ p∈N,p∈ls)->(∀ i,i ≠ off->Ed N i=none)->(Ed N off=Ed ls off)->Rel Y X0 roots w0 ((A5 s M).set z (.bxh a4 N)) a w:=by
    intro N b4 b5 b6;refine r1.hold a5 (by omega) b4 (fun i R S => ?_);by_cases hi:i=off
    ·subst hi;rw[b6];split
     next u hu=>rw[hu]
     next hu=>refine .inr (.inl ⟨hu,?_⟩);have:=Z i (by rw[KP,Ae rfl]);rw[Af R,Af S] at this;exact AY this
    ·rw[b5 i hi];dsimp only;cases hu:Ed ls i with
     | none =>
      refine .inr (.inl ⟨rfl,?_⟩);have:=Z i (by rw[KP,Al (CW hi)];exact hu);rw[Af R,Af S] at this;exact AY this
     | some u =>
      obtain⟨k,n,es,p1,p2,p3⟩:=f3 i u (by rw[KP,Al (CW hi)];exact hu);refine .inr (.inr ⟨u,rfl,?_,?_⟩)
      ·have e:=p3 S;rw[Af R] at e;rw[AY e];exact r4 _ p2
      ·have e:=p3 S;rw[Af R] at e;rw[AY e];rfl
   split at f
   next u hu=>cases f;simp only[hu] at g;have hs:=step [(off,u)] (fun p q=>by simp only[AP] at q;subst q;exact Ic hu) (fun i hi=>by simp[Ed,CW hi]) (by simp[Ed,hu]);refine E b v a rfl y hcell _ ?_ B;rw[Do];simp only[A5];rw[g];refine hs.putDup (Au (fun t ht => ?_) hf) (a3 u hu);exact Tl r2 m (fun p q=>by simp only[AP] at q;subst q;exact Ic hu) (A t ht)
   ·rename_i hu;simp only[hu] at g;split at f
    ·rename_i c hc;split at f
     ·rename_i L;cases f;have hs:=step [] (fun p q=>by cases q) (fun i hi=>rfl) (by rw[hu];rfl);have j:cs[off]? = some c:=by rw[<- Z off (by rw[KP,Ae rfl])];exact hc
      obtain⟨_,j⟩:=Az.1 j;refine E b v a rfl y hcell _ ?_ B;rw[Do];simp only[A5];rcases g with g | g
      ·rw[j] at g;rw[g] at L;cases L
      ·rw[j] at g;refine hs.put (Au (fun t ht => ?_) hf) ?_
       ·exact Tl r2 m (fun p q=>by cases q) (A t ht)
       ·have b7:∀ c,XS ((A5 s M).set z (.bxh a4 [])) a.tmps c->XS s a.tmps c:=by
         rintro c ⟨t,H,t2⟩;rw[Ek (Ig a5 (by nofun))] at H;split at H
         next e=>subst e;exact⟨z,by rw[m];rfl,t2⟩
         ·rcases r2 t with e | ⟨_,_,_,_,e⟩
          ·rw[e] at H;exact⟨t,H,t2⟩
          ·rw[e] at H;cases H
        exact g.2.mono fun c hc => .inl (hc.imp id (b7 c))
     ·cases f
    ·cases f
 ·-- fresh cells
  rename_i cs c1 m;rw[m] at D;obtain⟨b,vs,T,y,e2,J,X⟩:=D;split at f
  case h_2=>cases f
  rename_i c hc;split at f
  case isFalse=>cases f
  rename_i b8;cases f;obtain⟨K,j⟩:=Az.1 hc;obtain⟨v,G,_,g⟩:=X.2.2.1 off K;have hcell:w.cell? ⟨b,off,none⟩=some v:=by rw[DE J];exact G
  refine E b v a rfl y hcell _ ?_ B;simp only[A5];rw[j] at g;exact h.put (Au A hf) (g.frz h.lowY b8).1
 ·cases f
theorem Wm{t:TypeId}{b off:Nat}{v:Value}{vs:Array Value}{T:TypeId}(j:G9 P t 1=true)(g:w.heap[b]? = some (.cells vs T (0,0)))(k:v.oneCell'=true)(a:v.cells=#[v])(l:off<vs.size) :
  ∃ w' d,(storeVar t ⟨b,off,none⟩ v).run P w = .ok () w'/\w'.os=w.os/\w'.tape=w.tape/\w'.output=w.output/\w'.heap.size=w.heap.size/\(∀ c,c ≠ b->w'.heap[c]? = w.heap[c]?)/\w'.heap[b]? = some (.cells d T (0,0))/\d.size=vs.size/\∀ i,d[i]? = if i=off then some v else vs[i]? := by
 have e:=run_storeCells_at (P:=P) b off T v.cells.toList 0 vs w g (by rw[a];simp;omega) (by rw[a];intro u hu;simp at hu;rw[hu];exact k);rw[a] at e;simp only[Bv] at e;refine⟨w.setRow b (CN off vs.toList++[v]++R (off+C [v]) vs.toList).toArray,(CN off vs.toList++[v]++R (off+C [v]) vs.toList).toArray,?_,rfl,rfl,rfl,Eg _ _ _,fun c hc=>Dp _ _ _ _ hc,setRow_heap w b vs _ T (0,0) g,?_,fun i => ?_⟩
 ·have:=FV j w;simp only[storeVar,Aj,this,W,a];exact e
 ·simp;omega
 ·have f:C (vs.toList.take off)=off:=by simp;omega
  simp only[C3];by_cases h1:i<off
  ·rw[Al (by omega),Ci,AO (by omega),B8 h1];simp
  ·by_cases h2:i=off
   ·subst h2;rw[Ae rfl,AO (by simp;omega),A_ (by omega),f];simp
   ·rw[Al h2,A_ (by simp;omega),D4];have h:off+C [v]+(i-C (vs.toList.take off++[v]))=i:=by simp only[Ah,f,B1,Fr];omega
    simp only[B1,Fr,Ah,f] at h |-;rw[h];simp
theorem Rel.cellsOf(h:Rel Y X0 roots w0 s a w){d:Nat}{cs:List AV}{ls:List (Nat × Nat)}(hd:(Ag s d = .box cs/\ls=[])\/Ag s d = .bxh cs ls) :
  ∃ b vs T,a.tmps.getD d A9 = .pointer (some ⟨b,0,none⟩)/\w0.mine b/\w.heap[b]? = some (.cells vs T (0,0))/\Kw Y (fun b=>X0 b\/XS s a.tmps b) roots a.tmps w d vs cs ls:=by
 have h0:=h.reg d;rcases hd with ⟨hd,rfl⟩ | hd
 ·rw[hd] at h0;obtain⟨b,g,j,k,vs,T,l,o,m⟩:=h0;refine⟨b,vs,T,g,j,l,fun p n=>(by cases n),by omega,fun i hi => ?_⟩;obtain⟨v,c,e⟩:=m i hi;rw[AH] at c;have f:=k _ (AF hi);exact⟨v,c,(FQ e f).1,.inr ⟨f,e⟩⟩
 ·rw[hd] at h0;exact h0
theorem lC{o:Oper}{x d off:Nat}{cs j:List AV}{ls l:List (Nat × Nat)}{t:TypeId}{z k:Operand}{A:Act->World->Prop}(h:Rel Y X0 roots w0 s a w)(I:o.op = .store t z k)(h1:Bm z (.t x)=true)(h2:G9 P t 1=true)
  (hr:Ag s x = .ptr d off) (hd:(Ag s d = .box cs/\ls=[])\/Ag s d = .bxh cs ls) (J:off<C cs) (B:(a.eval k).oneCell'=true) (K:(a.eval k).cells=#[a.eval k]) (L:C j=C cs) (M:∀ p∈l,(d,p.2)∈roots)
  (N:∀ (i:Nat) (q:i<C j) (O:i<C cs),if i=off then (match Ed l off with | some u=>a.eval k=a.tmps.getD u A9 | none=>j[i] = .undef\/(EK j[i]=true/\Rd Y (fun b=>X0 b\/XS s a.tmps b) w (a.eval k) j[i])) else Ed l i=Ed ls i/\j[i]=cs[i])
  (R:o.dst=none) (S:∀ a' w',Rel Y X0 roots w0 (s.set d (.bxh j l)) a' w'->A a' w'):o.wp P a w A Q:=by
 obtain⟨b,vs,T,m,D,U,r⟩:=h.cellsOf hd;have V:=B5 (a:=a) h1;have h0:=h.reg x;rw[hr] at h0;obtain⟨_,p,q,O,Z⟩:=h0;rw[m] at q;cases q;have E:Cm (Ag s d)=true:=by rcases hd with ⟨hd,_⟩ | hd <;> rw[hd] <;> rfl
 have a1:XS s a.tmps b:=⟨d,E,by rw[m];rfl⟩;obtain⟨w',a2,a3,s1,s2,s3,s4,F,s6,s7,G⟩:=Wm (P:=P) h2 U B K (Bf J r.2.1);have a4:(execOp a.eval o).run P w = .ok .skip w':=by
  simp only[execOp,I,G0,V,Z,BQ,Aj,An,W,AH,a3]
 simp only[Cn,a4,BN];rw[R];refine S _ _ (Rel.store h rfl E rfl (b:=b) (by rw[m];rfl) D s1 s2 s3 s4 F (fun X hX=>⟨b,a2,T,m,D,s6,M,by rw[s7,L];exact r.2.1,fun i hi => ?_⟩));have H:∀ c,¬ X c->c<w.heap.size->w'.heap[c]? = w.heap[c]? := fun c hc _=>F c (fun e=>hc (e ▸ (hX b).2 (.inr a1)));have f:=N i hi (by omega);by_cases y:i=off
 ·subst y;rw[Ae rfl] at f;refine⟨a.eval k,by rw[G,Ae rfl],B,?_⟩;split
  next u hu=>simp only[hu] at f;exact f
  next hu=>simp only[hu] at f;exact f.imp id fun g=>⟨g.1,(g.2.mono fun c hc => .inl ((hX c).1 hc)).world H⟩
 ·rw[Al y] at f;obtain⟨v,q1,q0,n⟩:=r.2.2 i (by omega);refine⟨v,by rw[G,Al y];exact q1,q0,?_⟩;rw[f.1];split
  next u hu=>simp only[hu] at n;exact n
  next hu=>simp only[hu] at n;rw[f.2];exact n.imp id fun g=>⟨g.1,(g.2.mono fun c hc => .inl ((hX c).1 hc)).world H⟩
theorem wO{Y X:Nat->Prop}{B:Nat->Prop}{v:Value}{k n:Nat}{cs:List AV}(h:EG Y X B w v k n cs):v.oneCell'=true/\v.cells=#[v]:=by
 rcases h with ⟨rfl,_⟩ | ⟨b,cap,rfl,_⟩ <;> exact⟨rfl,rfl⟩
theorem Awn{o:Oper}{x d v:Nat}{r:Reg}{l:List (Nat × Reg)}{F:Bh}{f:Act->World->Prop}(h:Rel Y X0 roots w0 s a w)(c:Cq P o.op (.sth x d v)=true)
  (y:o.dst=none) (B:(d,v)∈roots) (b:A8 F s (.sth x d v)=some (r,l)) (j:∀ a' w',Rel Y X0 roots w0 (BD (A5 s l) o.dst r) a' w'->f a' w'):o.wp P a w f Q:=by
 simp only[Cq] at c;split at c
 case h_2=>cases c
 rename_i t M N D;simp only[U] at c;obtain⟨⟨h1,h2⟩,E⟩:=c;simp only[A8] at b;split at b
 case h_2=>cases b
 rename_i g off hr;split at b
 case isFalse=>cases b
 rename_i G;subst G;split at b
 case h_2=>cases b
 rename_i k n es H;have z:=h.reg v;rw[H] at z;have m:=B5 (a:=a) E;obtain⟨o1,I⟩:=wO z;rw[y] at j;have A:∀ (cs:List AV) (ls:List (Nat × Nat)),((Ag s g = .box cs/\ls=[])\/Ag s g = .bxh cs ls)->off<C cs->(∀ a' w',Rel Y X0 roots w0 (s.set g (.bxh (cs.set off .undef) ((off,v)::OS ls off))) a' w'->f a' w')->o.wp P a w f Q:=by
  intro cs ls hd e J;have K:∀ p∈ls,(g,p.2)∈roots:=by
   obtain⟨_,_,_,_,_,_,L⟩:=h.cellsOf hd;exact L.1
  refine lC h D h1 h2 hr hd e (by rw[m];exact o1) (by rw[m];exact I) (AU ..) (fun p q => ?_) (fun i O R => ?_) y J
  ·rcases Aw.1 q with rfl | q
   ·exact B
   ·exact K p (lB q)
  ·by_cases hi:i=off
   ·subst hi;rw[Ae rfl];simp only[Ed,if_true];exact m
   ·rw[Al hi];refine⟨?_,by rw[HM (CW hi)]⟩;simp only[Ed,CW hi,if_false];rw[KP,Al (CW hi)]
 split at b
 ·rename_i cs u;split at b
  case isFalse=>cases b
  rename_i e;cases b;exact A cs [] (.inl ⟨u,rfl⟩) e j
 ·rename_i cs ls u;split at b
  case isFalse=>cases b
  rename_i e;cases b;exact A cs ls (.inr u) e j
 ·cases b
theorem Awo{o:Oper}{x d:Nat}{v:Opd}{r:Reg}{l:List (Nat × Reg)}{F:Bh}{K':Act->World->Prop}(h:Rel Y X0 roots w0 s a w)(q:Cq P o.op (.sts x d v)=true)
  (K:o.dst=none) (f:A8 F s (.sts x d v)=some (r,l)) (L:∀ a' w',Rel Y X0 roots w0 (BD (A5 s l) o.dst r) a' w'->K' a' w'):o.wp P a w K' Q:=by
 simp only[Cq] at q;split at q
 case h_2=>cases q
 rename_i t x' M a1;simp only[U] at q;obtain⟨⟨h1,h2⟩,B⟩:=q;simp only[A8] at f;split at f
 case h_2=>cases f
 rename_i N off c0 hr hc;split at f
 case isFalse=>cases f
 rename_i a4;obtain⟨rfl,a2⟩:=a4;have y:=BG h B hc;obtain⟨o1,o2⟩:=FQ y a2;rw[K] at L;split at f;rotate_left
 ·rename_i cs us m;split at f
  case isFalse=>cases f
  rename_i z;obtain⟨z,D⟩:=z;cases f;have B:=h.reg N;rw[m] at B;obtain⟨b,vs,T,E,e2,e3,n⟩:=B;have a5:=B5 (a:=a) h1;have h0:=h.reg x;rw[hr] at h0;obtain⟨_,p,O,g2,g3⟩:=h0;rw[E] at O;cases O;obtain⟨w',a3,a6,s1,s2,s3,s4,s5,s6,s7,G⟩:=Wm (P:=P) h2 e3 o1 o2 (Bf z n.2.1);have a7:(execOp a.eval o).run P w = .ok .skip w':=by
   simp only[execOp,a1,G0,a5,g3,BQ,Aj,An,W,AH,a6]
  simp only[Cn,a7,BN];rw[K];have a8:XS s a.tmps b:=⟨N,by rw[m];rfl,by rw[E];rfl⟩;have H:Ax (a.eval M)=none:=by
   generalize a.eval M=u at y;cases y <;> first | rfl | cases D
  refine L _ _ (Rel.store h m rfl rfl (b:=b) (by rw[E];rfl) e2 s1 s2 s3 s4 s5 (fun X hX=>⟨b,a3,T,E,e2,s6,?_⟩));have hw:∀ c,¬ X c->c<w.heap.size->w'.heap[c]? = w.heap[c]? := fun c hc _=>s5 c (fun e=>hc (e ▸ (hX b).2 (.inr a8)));have R:=(n.mono (X':=X) fun c hc => .inl ((hX c).1 hc)).world hw;have a9:∀ c,Nst a3 (C (cs.set off c0)) c->Nst vs (C cs) c:=by
   rintro c ⟨i,u,A,k,g⟩;rw[AU] at A;rw[G] at k;split at k
   ·cases k;rw[H] at g;cases g
   ·exact⟨i,u,A,k,g⟩
  refine⟨fun p I=>⟨(R.1 p I).1,(R.1 p I).2.mono fun c hc => .inl (hc.imp id (a9 c))⟩,by rw[s7,AU];exact n.2.1,fun i hi => ?_,fun i j v u b A k g J S V => ?_⟩
  ·rw[AU] at hi;by_cases Z:i=off
   ·subst Z;refine⟨a.eval M,by rw[G,Ae rfl],o1,?_⟩;rw[N4];cases c0 <;> first | exact⟨D,H,y.noMem D⟩ | cases D
   ·obtain⟨v,q1,q2,q3⟩:=R.2.2.1 i hi;exact⟨v,by rw[G,Al Z];exact q1,q2,by rw[HM (CW Z)];exact q3⟩
  ·rw[AU] at A k;rw[G] at g J;split at g
   ·cases g;rw[H] at S;cases S
   ·split at J
    ·cases J;rw[H] at V;cases V
    ·exact n.2.2.2 i j v u b A k g J S V
 ·cases f
 rename_i cs ls m;split at f
 case isFalse=>cases f
 rename_i z;cases f;have b0:∀ p∈ls,(N,p.2)∈roots:=by
  obtain⟨_,_,_,_,_,_,n⟩:=h.cellsOf (.inr m);exact n.1
 refine lC h a1 h1 h2 hr (.inr m) z o1 o2 (AU ..) (fun p I=>b0 p (lB I)) (fun i O g2 => ?_) K L;by_cases hi:i=off
 ·subst hi;rw[Ae rfl,KP,Ae rfl];dsimp only;rw[N4];exact .inr ⟨a2,y⟩
 ·rw[Al hi];exact⟨by rw[KP,Al (CW hi)],by rw[HM (CW hi)]⟩
end
section
variable {P:Program} {Y X0:Nat->Prop} {roots:List (Nat × Nat)} {w0:Base} {w:World} {s:H} {a:Act} {Q:Exit->Act->World->Prop}
theorem All{s a:H}{tm:Array Value}(h:∀ t,Cm (Ag a t)=true->Cm (Ag s t)=true)(c:Nat)(hc:XS a tm c):XS s tm c:=let ⟨t,h1,h2⟩:=hc; ⟨t,h t h1,h2⟩
theorem Awp{o:Oper}{x d k B:Nat}{y:Opd}{us oks:List Nat}{r:Reg}{l:List (Nat × Reg)}{F:Bh}{G:Act->World->Prop}(h:Rel Y X0 roots w0 s a w)(g:Cq P o.op (.aph x y k B d us)=true)(L:∀ t∈oks,BF (Ag s t)=false)
  (M:B2 roots oks o.dst (.aph x y k B d us)=true) (b:A8 F s (.aph x y k B d us)=some (r,l)) (D:∀ a' w',Rel Y X0 roots w0 (BD (A5 s l) o.dst r) a' w'->G a' w'):o.wp P a w G Q:=by
 simp only[B2,U] at M;obtain⟨a4,hf⟩:=M;obtain⟨N,A⟩:=A7.1 a4;have O:∀ q:H,BF (Ag q d)=false->BF (Ag q x)=false->(∀ t∈oks,BF (Ag q t)=false)->∀ u,(u,N)∈roots->BF (Ag q u)=false:=by
  intro q g1 g2 g3 u hu;have:=Au (s:=q) (oks:=d::x::oks) (fun t f=>by
   rcases Aw.1 f with rfl | f
   ·exact g1
   ·rcases Aw.1 f with rfl | f
    ·exact g2
    ·exact g3 t f) hf
  exact this N A u hu
 simp only[Cq] at g;split at g
 case h_2=>cases g
 rename_i args R S;unfold Ye at g;split at g
 case h_2=>cases g
 rename_i I y' t t' a5 a6;simp only[U] at g;obtain⟨⟨⟨⟨h1,h2⟩,T⟩,V⟩,W⟩:=g;have e1:args=#[I,y']:=by rw[<- D6 (xs:=args),a5]
 have e2:R=#[t,t']:=by rw[<- D6 (xs:=R),a6]
 subst e1 e2;have X:=B5 (a:=a) h1;simp only[A8] at b;split at b
 case h_2=>cases b
 rename_i m ys hy;have Z:=BG h h2 hy;split at b
 case isFalse=>cases b
 rename_i a1;have nil:aph0 (Ag s x) m ys k B=some (r,l)->BF (Ag s d)=false->o.wp P a w G Q:=by
  intro z a7;unfold aph0 at z;split at z
  case h_2=>cases z
  rename_i j;split at z
  case isFalse=>cases z
  rename_i a8;cases z;have J:=h.reg x;rw[j] at J;have K:a.eval I = .slice none 0 0:=by
   rw[X];generalize a.tmps.getD x A9=v at J;cases J;rfl
  rw[A] at D;exact Awh h S T V W A (O s a7 (by rw[j];rfl) L) K (oD Z) a1 a8 D
 split at b
 next hd=>exact nil b (by rw[hd];rfl)
 next hd=>exact nil b (by rw[hd];rfl)
 ·rename_i cs off u hd;split at b
  case h_2=>cases b
  rename_i E j;split at b
  case isFalse=>cases b
  rename_i a9;obtain⟨rfl,_⟩:=a9;unfold wA at b;split at b
  case h_2=>cases b
  rename_i k' n es hu;split at b
  case isFalse=>cases b
  rename_i b0;obtain⟨rfl,b1⟩:=b0;cases b;have a2:¬ x=d:=fun e=>by subst e;rw[j] at hd;cases hd
  have b2:¬ x=E:=fun e=>by subst e;rw[j] at hu;cases hu
  have b3:¬ d=E:=fun e=>by subst e;rw[hd] at hu;cases hu
  have a3:=Ig j (by nofun);have b4:=Ig hd (by nofun);have b5:Rel Y X0 roots w0 (s.set x .dead) a w:=h.kill [x];have b6:Ag (s.set x .dead) d = .bxh cs [(off,E)]:=by rw[Ek a3,Al a2];exact hd
  have b7:Rel Y X0 roots w0 ((s.set x .dead).set d (.bxh (cs.set off .undef) [])) a w:=by
   refine b5.hold b6 (by rw[AU];exact Ay _) (fun p hp=>by cases hp) (fun i i1 i2 => ?_);simp only[Ed];by_cases hi:off=i
   ·subst hi;rw[N4];exact .inl rfl
   ·rw[Al hi,HM hi];exact .inr (.inl ⟨rfl,rfl⟩)
  have C:∀ t,Ag ((s.set x .dead).set d (.bxh (cs.set off .undef) [])) t=if d=t then .bxh (cs.set off .undef) [] else if x=t then .dead else Ag s t:=by
   intro t;rw[Ek (by rw[AU];exact b4),Ek a3]
  have K:a.eval I=a.tmps.getD E A9:=by
   have:=h.reg x;rw[j] at this;rw[X];exact this.2
  rw[A] at D;have b8:∀ c,XS ((s.set x .dead).set d (.bxh (cs.set off .undef) [])) a.tmps c->XS s a.tmps c:=All fun t f=>by
   rw[C] at f;split at f
   next e=>subst e;rw[hd];rfl
   ·split at f
    ·cases f
    ·exact f
  refine Awg (ow:=true) b7 S K T V W A (O _ (by rw[C,Ae rfl];rfl) (by rw[C,Al (CW a2),Ae rfl];rfl) (fun t f => ?_)) (by rw[C,Al b3,Al b2];exact hu) (oD (Z.mono fun c hc => .inl (hc.imp id (b8 c)))) a1 b1 D;rw[C];split
  ·rfl
  ·split
   ·rfl
   ·exact L t f
 ·cases b
theorem wP{t:TypeId}{b n:Nat}{f:Nat->Value}(ho:G7 P t n false=true)(hc:∀ j,j<n->w.cell? ⟨b,j,none⟩=some (f j)):(loadVar t ⟨b,0,none⟩).run P w = .ok (.agg ((AZ n).map f).toArray) w:=by
 obtain⟨h1,h2⟩:=E6 ho;have hl:=run_loadCells (P:=P) w ⟨b,0,none⟩ n f (fun j a=>by rw[Du,AH];exact hc j a);simp[loadVar,h1,h2,hl]
theorem Awq{o:Oper}{x n:Nat}{us E:List Nat}{r:Reg}{l:List (Nat × Reg)}{F:Bh}{G:Act->World->Prop}(h:Rel Y X0 roots w0 s a w)(f:Cq P o.op (.lda x n us)=true)(H:∀ t∈E,BF (Ag s t)=false)
  (I:B2 roots E o.dst (.lda x n us)=true) (d:A8 F s (.lda x n us)=some (r,l)) (J:∀ a' w',Rel Y X0 roots w0 (BD (A5 s l) o.dst r) a' w'->G a' w'):o.wp P a w G Q:=by
 simp only[B2,U,AKf] at I;obtain⟨⟨hf,N⟩,O⟩:=I;obtain⟨k,A⟩:=A7.1 N;simp only[Cq] at f;split at f
 case h_2=>cases f
 rename_i t x' K;simp only[U] at f;obtain⟨h1,h2⟩:=f;have L:=B5 (a:=a) h1;have h0:=h.reg x;simp only[A8] at d;split at d
 ·rename_i cs hr;rw[hr] at h0;split at d
  case isFalse=>cases d
  rename_i hn;cases d;obtain⟨b,B,_,C⟩:=h0;obtain⟨v,m,R⟩:=MM (P:=P) (off:=0) (x := .agg cs) h2 C.mem (by simp[Ad,<- hn]);refine AI (v:=v) ?_ (J _ _ (h.put (Au H hf) R));simp only[Bv] at m;simp only[execOp,K,Hg,L,B,BQ,Aj,An,W,m]
 ·rename_i cs ls hr;rw[hr] at h0;split at d
  case isFalse=>cases d
  rename_i hc;obtain⟨hn,S⟩:=hc;cases d;obtain⟨b,vs,T,B,_,C,M⟩:=h0;have hcell:∀ j,j<n->w.cell? ⟨b,j,none⟩=some (vs.getD j A9):=by
   intro j hj;obtain⟨v,q,_,_⟩:=M.2.2 j (by omega);rw[DE C,q,A4,q];rfl
  have m:=wP (P:=P) h2 hcell;refine AI (v := .agg ((AZ n).map fun j=>vs.getD j A9).toArray) ?_ (J _ _ ?_)
  ·simp only[execOp,K,Hg,L,B,BQ,Aj,An,W,m]
  ·rw[A];have hu:∀ p∈ls,(k,p.2)∈roots/\k ≠ p.2:=fun p D=>C7 (O p.2 (by simpa using AKf.1 S p D)) k A;refine BB (ks:=[]) h (DZ _ _) (fun t V => .inr (Au H hf k A t V)) (fun Z=>by cases Z) (fun X _ g2=>⟨_,rfl,by simp[hn],fun p D=>(hu p D).1,by simp[hn],fun i hi => ?_⟩);obtain⟨v,q,q0,y⟩:=M.2.2 i hi;refine⟨v,?_,q0,?_⟩
   ·simp only[C3,Fy];rw[AJb (by omega)];simp[q]
   ·split
    next u z=>simp only[z] at y;rw[FP,Al (fun e=>(hu _ (Ic z)).2 e.1)];exact y
    next z=>simp only[z] at y;exact y.imp id fun g=>⟨g.1,g.2.mono fun c hc => .inl (g2 rfl c hc)⟩
 ·cases d
theorem Iu:∀ (zs:List Nat) (cs:List AV),C (Ia zs cs)=C cs/\∀ i:Nat,(Ia zs cs)[i]? = cs[i]? \/ (cs[i]? = some .nil/\(Ia zs cs)[i]? = some (.sl 0 []))
 | [],cs=>⟨rfl,fun _ => .inl rfl⟩
 | z::zs,cs=>by
  unfold Ia;split
  ·rename_i b;have a:=Iu zs (cs.set z (.sl 0 []));refine⟨by rw[a.1,AU],fun i => ?_⟩;have hl:=(Az.1 b).1;by_cases e:z=i
   ·subst e;refine .inr ⟨b,?_⟩;rcases a.2 z with q | q
    ·rw[q,Tb hl]
    ·exact q.2
   ·have:=a.2 i;rw[DX e] at this;exact this
  ·exact Iu zs cs
section
variable{zs:List Nat}{cs:List AV}
theorem lD{i:Nat}(h1:i<C (Ia zs cs))(h2:i<C cs):(Ia zs cs)[i]=cs[i]\/(cs[i] = .nil/\(Ia zs cs)[i] = .sl 0 []):=by
 have:=(Iu zs cs).2 i;rw[Af h1,Af h2] at this;simpa using this
theorem lE(h:OK cs):OK (Ia zs cs):=by
 intro x a;obtain⟨i,hi,rfl⟩:=ED a;rcases lD hi (by rw[<- (Iu zs cs).1];exact hi) with e | e
 ·rw[e];exact h _ (AF _)
 ·rw[e.2];rfl
end
section
variable{Y X:Nat->Prop}{v:Value}{zs:List Nat}{cs:List AV}
theorem Yl{i:Nat}(h1:i<C (Ia zs cs))(h2:i<C cs)(h:Rd Y X w v cs[i]):Rd Y X w v (Ia zs cs)[i]:=by
 rcases lD h1 h2 with e | ⟨b,c⟩
 ·rw[e];exact h
 ·rw[c];rw[b] at h;cases h;exact .nil0
theorem wQ(h:Rd Y X w v (.agg cs)):Rd Y X w v (.agg (Ia zs cs)):=by
 cases h with
 | agg vs _ hd hs hr=>exact .agg vs _ (lE hd) (by rw[hs,(Iu zs cs).1]) (fun i a d=>Yl d (by rw[<- hs];exact a) (hr i a _))
end
theorem Rel.dnBox(h:Rel Y X0 roots w0 s a w){d:Nat}{cs:List AV}(zs:List Nat)(hd:Ag s d = .box cs):Rel Y X0 roots w0 (s.set d (.box (Ia zs cs))) a w:=by
 have h0:=h.reg d;rw[hd] at h0;obtain⟨b,e,f,g,vs,T,j,k,l⟩:=h0;refine Rel.store h hd rfl rfl (b:=b) (by rw[e];rfl) f rfl rfl rfl rfl (fun _ _=>rfl) (fun X hX=>⟨b,e,f,lE g,vs,T,j,by rw[(Iu zs cs).1];exact k,fun i hi => ?_⟩);obtain⟨v,m,n⟩:=l i (by rw[<- (Iu zs cs).1];exact hi);exact⟨v,m,(Yl hi _ n).mono fun c hc => .inl ((hX c).1 hc)⟩
theorem Awr{o:Oper}{x n:Nat}{us zs A:List Nat}{r:Reg}{l:List (Nat × Reg)}{F:Bh}{q:Act->World->Prop}(h:Rel Y X0 roots w0 s a w)(f:Cq P o.op (.ldz x n us zs)=true)(B:∀ t∈A,BF (Ag s t)=false)
  (hf:CM roots A o.dst=true) (c:A8 F s (.ldz x n us zs)=some (r,l)) (z:∀ a' w',Rel Y X0 roots w0 (BD (A5 s l) o.dst r) a' w'->q a' w'):o.wp P a w q Q:=by
 simp only[Cq] at f;split at f
 case h_2=>cases f
 rename_i t x' N;simp only[U] at f;obtain⟨h1,h2⟩:=f;have O:=B5 (a:=a) h1;have R:∀ (g:H) (cs:List AV),Rel Y X0 roots w0 g a w->Ag g x = .box cs->C cs=n->(∀ t∈A,BF (Ag g t)=false)->(∀ a' w',Rel Y X0 roots w0 (BD g o.dst (.val (.agg (Ia zs cs)))) a' w'->q a' w')->o.wp P a w q Q:=by
  intro g cs S hr hn a2 a3;have h0:=S.reg x;rw[hr] at h0;obtain⟨b,D,_,E⟩:=h0;obtain⟨v,j,G⟩:=MM (P:=P) (off:=0) (x := .agg cs) h2 E.mem (by simp[Ad,<- hn]);refine AI (v:=v) ?_ (a3 _ _ (S.put (Au a2 hf) (wQ G)));simp only[Bv] at j;simp only[execOp,N,Hg,O,D,BQ,Aj,An,W,j]
 simp only[A8] at c;split at c
 ·rename_i cs hr;split at c
  case isFalse=>cases c
  rename_i hn;cases c;exact R s cs h hr hn B z
 ·rename_i cs ls hr;unfold OU at c;split at c
  case isFalse=>cases c
  split at c
  case h_2=>cases c
  rename_i I J a4;split at c
  case isFalse=>cases c
  rename_i hc;obtain⟨hn,K⟩:=hc;cases c;obtain⟨f1,f2,f3,f4⟩:=NL a4;obtain⟨r1,r2,r3,r4⟩:=Kz (s0:=s) J h f4 (fun t => .inl rfl);have V:Ag (A5 s J) x = .bxh cs ls:=by
   rcases r2 x with e | ⟨_,_,_,e,_⟩
   ·rw[e,hr]
   ·rw[hr] at e;cases e
  have L:=Ig V (by nofun);have hh:Rel Y X0 roots w0 ((A5 s J).set x (.bxh I [])) a w:=by
   refine r1.hold V (by omega) (fun p hp=>by cases hp) (fun i X Z => ?_);simp only[Ed];cases hu:Ed ls i with
   | none =>
    refine .inr (.inl ⟨rfl,?_⟩);have:=f2 i hu;rw[Af X,Af Z] at this;exact AY this
   | some u =>
    obtain⟨k,m,es,p1,p2,p3⟩:=f3 i u hu;have e:=p3 Z;rw[Af X] at e;refine .inr (.inr ⟨u,rfl,?_,?_⟩)
    ·rw[AY e];exact r4 _ p2
    ·rw[AY e];rfl
  have hb:=hh.holdBox (d:=x) (cs:=I) (by rw[Ek L,Ae rfl]) K;rw[OP] at hb;rw[Do] at z;refine R _ I hb (by rw[Ek L,Ae rfl]) hn (fun t ht => ?_) z;rw[Ek L];split
  ·rfl
  ·rcases r2 t with e | ⟨_,_,_,_,e⟩
   ·rw[e];exact B t ht
   ·rw[e];rfl
 ·rename_i cs a5 hr;split at c
  case isFalse=>cases c
  rename_i hn;obtain⟨hn,K⟩:=hn;cases c;have h0:=h.reg x;rw[hr] at h0;obtain⟨b,vs,T,D,_,E,e4⟩:=h0;have a1:∀ (i:Nat) (hi:i<C cs),∃ v,vs[i]? = some v/\Rd Y (fun b=>X0 b\/XS s a.tmps b) w v (G' cs[i])/\EK (G' cs[i])=true:=fun i hi=>by
   obtain⟨v,M,_,q3⟩:=e4.2.2.1 i hi;exact⟨v,M,q3.frz h.lowY (AKf.1 K _ (AF hi))⟩
  have hm:Gq Y (fun b=>X0 b\/XS s a.tmps b) w b 0 (cs.map G'):=by
   refine⟨fun y hy => ?_,fun i hi => ?_⟩
   ·obtain⟨i,hi,rfl⟩:=ED hy;rw[Gk];exact (a1 i (by simpa using hi)).choose_spec.2.2
   ·rw[Bz] at hi;obtain⟨v,M,q2,_⟩:=a1 i hi;exact⟨v,by rw[AH,DE E];exact M,by rw[Gk];exact q2⟩
  obtain⟨v,j,G⟩:=MM (P:=P) (off:=0) (x := .agg (cs.map G')) h2 hm (by simp only[Ad,AC,if_false,AH,Bz,<- hn,Ay,if_true,AL];rw[E_ (by simp)]);refine AI (v:=v) ?_ (z _ _ (h.put (Au B hf) (wQ G)));simp only[Bv] at j;simp only[execOp,N,Hg,O,D,BQ,Aj,An,W,j]
 ·cases c
theorem UC{place:Nat->Option (Nat × Nat)}{pl:Nat->Nat->Nat->Bool}(f:∀ i off n,pl i off n=true->place i=some (off,n)) :
  ∀ {d:List (Nat × Operand)} {qs:List (Nat × Nat)} {cells:Array Value},IL pl d (qs.map fun q=>(q.1,1,.t q.2))=true->Apt qs->(∀ q∈qs,q.1<cells.size/\(a.tmps.getD q.2 A9).cells=#[a.tmps.getD q.2 A9]) ->
   ∃ c,DH place cells (d.map fun p=>(p.1,a.eval p.2))=some c/\c.size=cells.size/\∀ i,c[i]? = match Ed qs i with | some u=>some (a.tmps.getD u A9) | none=>cells[i]?
 | [],[],cells,_,_,_=>⟨cells,rfl,rfl,fun i=>rfl⟩
 | (i,x)::d,(off,u)::qs,cells,b,g,h=>by
  simp only[Bg,IL,U] at b;obtain⟨⟨h1,h2⟩,m⟩:=b;obtain⟨k,l⟩:=h (off,u) AKh;simp only at k l;have o:=B5 (a:=a) h2;obtain⟨c,r,s,w⟩:=UC (cells:=cells.setIfInBounds off (a.tmps.getD u A9)) f m g.2 (fun q y=>by
   have:=h q (AJ _ y);simpa using this)
  refine⟨c,?_,by simpa using s,fun j => ?_⟩
  ·simp only[Bg,DH,f i off 1 h1,o,l];rw[Al (by simp;omega)];have:(#[a.tmps.getD u A9].zipIdx.foldl (fun (cs:Array Value) (p:Value × Nat)=>cs.setIfInBounds (off+p.2) p.1) cells)=cells.setIfInBounds off (a.tmps.getD u A9):=by
    rw[<- Si];simp
   rw[this];exact r
  ·rw[w j];simp only[Ed];by_cases e:off=j
   ·subst e;rw[g.1,Ae rfl];simp[k]
   ·rw[Al e];cases Ed qs j with
    | some v=>rfl
    | none=>simp only[Kc,Al e]
 | [],_::_,_,b,_,_=>by cases b
 | _::_,[],_,b,_,_=>by cases b
theorem UD{Y X B G:Nat->Prop}{tm:Array Value}{t:Nat}{v:Value}{r:Reg}(h:FN Y X B G roots tm w t v r)(hr:Aez r=true):v.oneCell'=true/\v.cells=#[v]:=by
 cases r <;> first | (cases hr;done) | exact wO h | (obtain⟨b,ms,a,rfl,_⟩:=h;exact⟨rfl,rfl⟩)
theorem Aws{o:Oper}{z:List AV}{qs:List (Nat × Nat)}{E:List Nat}{r:Reg}{l:List (Nat × Reg)}{F:Bh}{G:Act->World->Prop}(h:Rel Y X0 roots w0 s a w)(d:Cq P o.op (.blh z qs)=true)(O:∀ t∈E,BF (Ag s t)=false)
  (H:B2 roots E o.dst (.blh z qs)=true) (I:A8 F s (.blh z qs)=some (r,l)) (R:∀ a' w',Rel Y X0 roots w0 (BD (A5 s l) o.dst r) a' w'->G a' w'):o.wp P a w G Q:=by
 simp only[B2,U,AKf] at H;obtain⟨⟨hf,T⟩,V⟩:=H;obtain⟨j,x⟩:=A7.1 T;simp only[Cq] at d;split at d
 case h_2=>cases d
 rename_i t Z a1;simp only[U] at d;obtain⟨d,J⟩:=d;simp only[A8,S] at I;obtain⟨cs,a2,y⟩:=I;cases y;simp only[nW,U] at d;obtain⟨hz,d⟩:=d;obtain⟨v,a3,hc⟩:=Ky hz;obtain⟨c1,c2,c3⟩:=hc Y (fun b=>X0 b\/XS s a.tmps b) w;obtain⟨f1,f2,K,f4⟩:=Wl a2;split at d
 ·rename_i fs A;simp only[U] at d;obtain⟨a4,g⟩:=d;obtain⟨L,e1,e2,e3⟩:=UC (a:=a) (place:=fun i=>(fs.map fun f=>(f.offset,P.cellsOf f.type))[i]?) (pl:=If P fs) (cells:=v.cells) (fun i off n hi=>IP hi) g f4 (fun q hq=>by
   obtain⟨g1,B⟩:=K q hq;exact⟨by omega,(UD (h.reg q.2) B).2⟩)
  have a5:DH (fun i=>(fs.map fun f=>(f.offset,P.cellsOf f.type))[i]?) v.cells (Z.map fun p=>(p.1,a.eval p.2)).toList=some L:=by rw[CO];exact e1
  refine AI (v := .agg L) ?_ (R _ _ ?_)
  ·simp only[execOp,a1,J3,Aj,a3,W,run_underlying A,NH a4,a5,An]
  ·rw[x];have hu:∀ p∈qs,(j,p.2)∈roots/\j ≠ p.2:=fun p g=>C7 (V p g) j x;refine BB (ks:=[]) h (DZ _ _) (fun t ht => .inr (Au O hf j x t ht)) (fun y=>by cases y) (fun X _ B=>⟨_,rfl,by omega,fun p g=>(hu p g).1,by omega,fun i hi => ?_⟩);have k:=e3 i;cases m:Ed qs i with
   | some u =>
    rw[m] at k;have M:=Ic m;obtain⟨_,g3⟩:=K _ M;refine⟨_,k,(UD (h.reg u) g3).1,?_⟩;dsimp only;rw[FP,Al (fun e=>(hu _ M).2 e.1)]
   | none =>
    rw[m] at k;have D:i<C z:=by omega
    have q:=c3 i (by omega) D;have a6:cs[i]=z[i]:=by
     have:=f2 i m;rw[Af hi,Af D] at this;exact AY this
    have N:=c1 _ (AF D);refine⟨_,by rw[k,AE (by omega)],(FQ q N).1,?_⟩;dsimp only;rw[a6];exact .inr ⟨N,q.mono fun c hc => .inl (B rfl c hc)⟩
 next ln e A=>rw[A] at J;cases J
 ·cases d
theorem Awt{o:Oper}{x v n:Nat}{us:List Nat}{r:Reg}{l:List (Nat × Reg)}{F:Bh}{K':Act->World->Prop}(h:Rel Y X0 roots w0 s a w)(D:Cq P o.op (.sta x v n us)=true)
  (a4:o.dst=none) (a5:∀ u∈us,(x,u)∈roots) (m:A8 F s (.sta x v n us)=some (r,l)) (J:∀ a' w',Rel Y X0 roots w0 (BD (A5 s l) o.dst r) a' w'->K' a' w'):o.wp P a w K' Q:=by
 simp only[Cq] at D;split at D
 case h_2=>cases D
 rename_i t x' d a6;simp only[U] at D;obtain⟨⟨h1,h2⟩,h3⟩:=D;have a7:=B5 (a:=a) h1;have a8:=B5 (a:=a) h3;simp only[A8] at m;split at m
 case h_3=>cases m
 ·rename_i a9 cs ls hr N;split at m
  case isFalse=>cases m
  rename_i hc;obtain⟨n0,n1,O⟩:=hc;cases m;have h0:=h.reg x;rw[hr] at h0;have E:=h.reg v;rw[N] at E;obtain⟨b,q,G,_,f,T,H,e4,_⟩:=h0;obtain⟨vs,S,q2,A⟩:=E;have k:(a.eval d).cells=vs:=by rw[a8,S];rfl
  have V:∀ u∈(a.eval d).cells.toList,u.oneCell'=true:=by
   intro u hu;rw[k] at hu;obtain⟨i,hi,rfl⟩:=ED hu;obtain⟨u',y,z,_⟩:=A.2.2 i (by simp at hi;omega);simp only[B3] at hi;rw[AE hi] at y;cases y;simpa using z
  have Z:=run_storeCells_at (P:=P) b 0 T (a.eval d).cells.toList 0 f w H (by rw[k];simp;omega) V;have a1:=FV h2 w;have a2:XS s a.tmps b:=⟨x,by rw[hr];rfl,by rw[q];rfl⟩;have a3:(execOp a.eval o).run P w = .ok .skip (w.setRow b (CN (0+0) f.toList++(a.eval d).cells.toList++R (0+0+C (a.eval d).cells.toList) f.toList).toArray):=by
   simp only[execOp,a6,G0,a7,q,BQ,Aj,An,W,storeVar,a1];rw[Al (by rw[k];simp;omega)];rw[Z];rfl
  simp only[Cn,a3,BN];rw[a4] at J |-;refine J _ _ (Rel.store h hr rfl rfl (b:=b) (by rw[q];rfl) G rfl rfl rfl (Eg _ _ _) (fun c hc=>Dp _ _ _ _ hc) (fun X hX=>⟨b,_,T,q,G,setRow_heap w b f _ T (0,0) H,fun p K=>a5 _ (by simpa using AKf.1 O p K),by rw[k];simp;omega,fun i hi => ?_⟩));obtain⟨u,y,z,B⟩:=A.2.2 i hi;refine⟨u,?_,z,?_⟩
  ·rw[k];simp only[C3,Bv,J',Dg];rw[AO (by simp;omega)];simpa using y
  ·split
   next u' hu=>simp only[hu] at B;exact B
   next hu=>simp only[hu] at B;exact B.imp id fun g=>⟨g.1,(g.2.mono fun c hc => .inl ((hX c).1 hc)).world fun c hc _=>Dp _ _ _ _ (fun e=>hc (e ▸ (hX b).2 (.inr a2)))⟩
 ·rename_i a9 cs ul hr N;split at m
  case isFalse=>cases m
  rename_i hc;obtain⟨n0,n1,O⟩:=hc;cases m;have h0:=h.reg x;rw[hr] at h0;have E:=h.reg v;rw[N] at E;obtain⟨b,q,G,_,f,T,H,e4,_⟩:=h0;obtain⟨vs,S,q2,A⟩:=E;have k:(a.eval d).cells=vs:=by rw[a8,S];rfl
  have V:∀ u∈(a.eval d).cells.toList,u.oneCell'=true:=by
   intro u hu;rw[k] at hu;obtain⟨i,hi,rfl⟩:=ED hu;obtain⟨u',y,z,_⟩:=A.2.2.1 i (by simp at hi;omega);simp only[B3] at hi;rw[AE hi] at y;cases y;simpa using z
  have Z:=run_storeCells_at (P:=P) b 0 T (a.eval d).cells.toList 0 f w H (by rw[k];simp;omega) V;have a1:=FV h2 w;have a2:XS s a.tmps b:=⟨x,by rw[hr];rfl,by rw[q];rfl⟩;have a3:(execOp a.eval o).run P w = .ok .skip (w.setRow b (CN (0+0) f.toList++(a.eval d).cells.toList++R (0+0+C (a.eval d).cells.toList) f.toList).toArray):=by
   simp only[execOp,a6,G0,a7,q,BQ,Aj,An,W,storeVar,a1];rw[Al (by rw[k];simp;omega)];rw[Z];rfl
  simp only[Cn,a3,BN];rw[a4] at J |-;refine J _ _ (Rel.store h hr rfl rfl (b:=b) (by rw[q];rfl) G rfl rfl rfl (Eg _ _ _) (fun c hc=>Dp _ _ _ _ hc) (fun X hX=>⟨b,_,T,q,G,setRow_heap w b f _ T (0,0) H,?_⟩));have L:∀ i,i<C cs->((CN 0 f.toList++(a.eval d).cells.toList++R (0+C (a.eval d).cells.toList) f.toList).toArray)[i]? = vs[i]? := fun i hi=>by
   rw[k];simp only[C3,J',Dg];rw[AO (by simp;omega)];simp
  have e5:=(A.mono (X':=X) fun c hc => .inl ((hX c).1 hc)).world (w':=w.setRow b (CN (0+0) f.toList++(a.eval d).cells.toList++R (0+0+C (a.eval d).cells.toList) f.toList).toArray) (fun c hc _=>Dp _ _ _ _ (fun e=>hc (e ▸ (hX b).2 (.inr a2))));refine⟨fun p K=>⟨a5 _ (by simpa using AKf.1 O p K),(e5.1 p K).2.mono fun c hc => .inl (hc.imp id ?_)⟩,by rw[k];simp;omega,fun i hi => ?_,fun i j v u b' I M i3 i4 i5 i6 => ?_⟩
  ·rintro⟨i,u,I,M,i3⟩;exact⟨i,u,I,by rw[<- L i I];exact M,i3⟩
  ·obtain⟨u,y,z,B⟩:=e5.2.2.1 i hi;exact⟨u,by rw[<- y];exact L i hi,z,B⟩
  ·exact A.2.2.2 i j v u b' I M (by rw[<- L i I];exact i3) (by rw[<- L j M];exact i4) i5 i6
theorem A8v(h:Rel Y X0 roots w0 s a w){us:List Nat}{x:Operand}{o:Opd}{y:AV}(g:Bm x o=true)(ho:avH s us o=some y):Rd Y (fun _=>False) w (a.eval x) y:=by
 unfold avH at ho;split at ho
 next J hr=>cases ho;exact (BG h g (oH hr)).mono fun b hb=>hb.elim
 ·rename_i cs ls hr;split at ho
  case isFalse=>cases ho
  split at ho
  case h_2=>cases ho
  rename_i j hl;split at ho
  case isFalse=>cases ho
  rename_i l;cases ho;cases o with
  | c z=>cases hr
  | t m =>
   have A:=B5 (a:=a) g;have h0:=h.reg m;simp only[Opd.reg] at hr;rw[hr] at h0;obtain⟨vs,B,K,C⟩:=h0;obtain⟨L,D,E⟩:=Yk hl;rw[A,B];refine .agg vs j (fun z F=>AKf.1 l z F) (by omega) (fun i G f => ?_);obtain⟨v,p,M,d⟩:=C.2.2 i (by omega);rw[AE G] at p;cases p;cases hu:Ed ls i with
   | some u =>
    simp only[hu] at d;obtain⟨k,n,es,H,I⟩:=E i u hu;have e:=I (by omega);rw[Af f] at e;rw[AY e,d];have hr:=h.reg u;rw[H] at hr;exact EG.frozen hr (fun b hb=>hb.elim) (fun b _ hb=>hb) h.lowY
   | none =>
    simp only[hu] at d;have e:=D i hu;rw[Af f,Af (by omega)] at e;have q:=AY e;rw[q];have r:EK j[i]=true:=AKf.1 l _ (AF f);rcases d with d | d
    ·rw[q,d] at r;cases r
    ·exact d.2.mono fun b hb=>hb.elim
 ·cases ho
theorem wR(h:Rel Y X0 roots w0 s a w){us:List Nat}:∀ {xs:List Operand} {os:List Opd} {d:List AV},EM xs os=true->avsH s us os=some d ->
  C xs=C d/\∀ (i:Nat) (h1:i<C xs) (h2:i<C d),Rd Y (fun _=>False) w (a.eval xs[i]) d[i]
 | [],[],d,_,b=>by
  simp only[avsH,Ac] at b;subst b;exact⟨rfl,fun i h1 _=>(by simp at h1)⟩
 | x::xs,o::os,d,c,b=>by
  simp only[EM,U] at c;simp only[avsH] at b;cases h1:avH s us o with
  | none=>rw[h1] at b;cases b
  | some y =>
   rw[h1] at b;cases h2:avsH s us os with
   | none=>rw[h2] at b;cases b
   | some k =>
    rw[h2] at b;cases b;obtain⟨e,f⟩:=wR h c.2 h2;refine⟨by simp[e],fun i g j => ?_⟩;cases i with
    | zero=>exact A8v h c.1 h1
    | succ i=>exact f i (by simpa using g) (by simpa using j)
 | [],_::_,_,c,_=>by cases c
 | _::_,[],_,c,_=>by cases c
theorem Tm{o:Oper}{f b:Nat}{args:Array Operand}{d:Array TypeId}(e:o.op = .call { callee := .value (.func b),args:=args,argTypes:=d })(hf:(b==f)=true)(hb:IM P f=true) :
  (execOp a.eval o).run P w = .ok (.enter f (args.map a.eval)) w:=by
 simp only[AM] at hf;subst hf;unfold IM at hb;split at hb
 ·rename_i fn g;simp only[U,Bl] at hb;obtain⟨c,h⟩:=hb;have i:¬ fn.body=none:=by intro e0;rw[e0] at c;cases c
  have j:¬ fn.name = "runtime.NumGoroutine" := by simpa using h
  simp[execOp,e,resolve,EU,Jq,invoke,callFunc,program,Cl,g,j,i]
 ·cases hb
theorem Afm{Y X a b:Nat->Prop}{w w':World}{v:Value}{y:AV}(hs:U9 y=true)(h:Rd Y X w v y):Rd a b w' v y:=by
 cases y <;> first | (cases hs;done) | (cases h;first | exact .int _ _ | exact .bool _)
theorem Awu{o:Oper}{f:Nat}{xs:List Opd}{us:List Nat}{r:Reg}{l:List (Nat × Reg)}{F:Bh}{k:Act->World->Prop}(h:Rel Y X0 roots w0 s a w)(p:GA P F)(g:Cq P o.op (.bwh f xs us)=true)(hf:D_ s roots o.dst)
  (c:A8 F s (.bwh f xs us)=some (r,l)) (q:∀ a' w',Rel Y X0 roots w0 (BD (A5 s l) o.dst r) a' w'->k a' w'):o.wp P a w k Q:=by
 simp only[Cq] at g;split at g
 case h_2=>cases g
 rename_i K args L x;simp only[U] at g;obtain⟨⟨z,h1⟩,h2⟩:=g;have A:=Tm (P:=P) (a:=a) (w:=w) x z h2;simp only[A8] at c;split at c
 case h_2=>cases c
 rename_i vs B;split at c
 case h_2=>cases c
 rename_i y C;split at c
 case isFalse=>cases c
 rename_i m;cases c;obtain⟨D,E⟩:=wR h h1 B;have G:=p.plain f vs y C Y (fun _=>False) w (args.map a.eval) (fun b hb=>hb.elim) h.lowYw (by simpa using D) (fun i H n=>by
  have:=E i (by simpa using H) n;simpa using this)
 simp only[Cn,A,BN];refine G.mono fun e w' ⟨v,j,hb,hr⟩ => ?_;subst j;refine q _ _ ?_;have I:Rd Y (fun _=>False) w' v y:=by cases y <;> first | exact hr | cases m
 cases J:o.dst with
 | none =>
  refine⟨h.dfr,h.size,h.below.trans hb,h.low,h.lowY,fun t => ?_,h.inj⟩;exact FN.world (h.reg t) hb
 | some d =>
  exact BB (ks:=[]) h hb (fun u hu => .inr (hf d J u hu)) (fun j=>(by cases j)) (fun X _ n=>Afm m I)
theorem Awv{o:Oper}{f x d:Nat}{xs:List Opd}{a1:List Nat}{r:Reg}{l:List (Nat × Reg)}{F:Bh}{N:Act->World->Prop}(h:Rel Y X0 roots w0 s a w)(hF:GA P F)(I:Cq P o.op (.cab f x d xs)=true)(a7:∀ t∈a1,BF (Ag s t)=false)
  (a2:B2 roots a1 o.dst (.cab f x d xs)=true) (j:A8 F s (.cab f x d xs)=some (r,l)) (O:∀ a' w',Rel Y X0 roots w0 (BD (A5 s l) o.dst r) a' w'->N a' w'):o.wp P a w N Q:=by
 simp only[B2,U] at a2;obtain⟨hf,_⟩:=a2;simp only[Cq] at I;split at I
 case h_2=>cases I
 rename_i f' args ts a8;simp only[U] at I;obtain⟨⟨a9,h1⟩,h2⟩:=I;have b0:=Tm (P:=P) (a:=a) (w:=w) a8 a9 h2;obtain⟨args⟩:=args;cases args with
 | nil=>cases h1
 | cons o1 A =>
  simp only[EM,U] at h1;have b1:=B5 (a:=a) h1.1;simp only[A8] at j;split at j
  case h_2=>cases j
  rename_i k hr;split at j
  case isFalse=>cases j
  rename_i b2;subst b2;have a3:∀ (cs n:List AV) (vs:List AV) (y:AV) (r1 r2:Reg),Ag s k=r1->Cm r1=true->Cm r2=true->BF r2=false->r1 ≠ .dead->avs s xs=some vs->F f (.gb cs::vs)=some (.io n y) ->
    (∃ b,a.tmps.getD k A9 = .pointer (some ⟨b,0,none⟩)/\w0.mine b/\Ef Y (fun b=>X0 b\/XS s a.tmps b) w b 0 cs) ->
    (∀ (X:Nat->Prop) (b:Nat) (w':World) (tm:Array Value),a.tmps.getD k A9 = .pointer (some ⟨b,0,none⟩)->Ef Y X w' b 0 n->FN Y X w0.mine w0.own roots tm w' k (a.tmps.getD k A9) r2) ->
    (∀ a' w',Rel Y X0 roots w0 (BD (A5 s [(k,r2)]) o.dst (.val y)) a' w'->N a' w')->o.wp P a w N Q:=by
   intro cs n vs y r1 r2 q S b3 b4 b5 J K b6 b7 O;obtain⟨D,E⟩:=Hi h h1.2 J;have h0:=h.reg x;rw[hr] at h0;obtain⟨b,m,B,G⟩:=b6;obtain⟨_,p,g1,g2,g3⟩:=h0;rw[m] at g1;cases g1;have R:a.eval o1 = .pointer (some ⟨b,0,none⟩):=by rw[b1,g3]
   have a4:XS s a.tmps b:=⟨k,by rw[q];exact S,by rw[m];rfl⟩;have T:∀ c,Ei (.gb cs::vs) ((o1::A).map a.eval).toArray c↔c=b:=by
    intro c;constructor
    ·intro hg;have:=hg.2;simp only[Bg,R] at this;simp[Aet,Ax,C6] at this;exact this.symm
    ·rintro rfl;exact⟨⟨_,vs,rfl,rfl⟩,by simp[Aet,R,Ax,C6]⟩
   have V:Ei (.gb cs::vs) ((o1::A).map a.eval).toArray=fun c=>c=b:=funext fun c=>propext (T c);have c1:b<w.heap.size:=G.lt;simp only[Cn,b0,BN];have he:AFp a.eval (o1::A).toArray=((o1::A).map a.eval).toArray:=by simp
   rw[he];refine (hF f (.gb cs::vs) (.io n y) K Y (fun c=>(X0 c\/XS s a.tmps c)/\¬ c=b) w ((o1::A).map a.eval).toArray (fun c hc=>⟨h.lowX c hc.1,fun e=>hc.2 ((T c).1 e)⟩)
    (fun c hc=>⟨h.lowYw c hc,fun e=>h.lowY c hc (by rw[(T c).1 e];exact B)⟩) (by simp[D]) (fun i i1 W => ?_) (fun i W Z => ?_)).mono ?_
   ·cases i with
    | zero =>
     rw[V];refine⟨b,?_,rfl,G.mono fun c hc => .inl (hc.elim N8 fun e => .inr (e ▸ a4))⟩;simp[R]
    | succ i =>
     rw[V];have j1:i<C A:=by simpa using i1
     have j2:i<C vs:=by simpa using W
     have g:=E i j1 j2;have H:Rd Y (fun c=>((X0 c\/XS s a.tmps c)/\¬ c=b)\/c=b) w (a.eval A[i]) vs[i]:=g.mono fun c hc => .inl (hc.elim N8 fun e => .inr (e ▸ a4));simp only[Bg,EI,GC,Gk];generalize vs[i]=z at H |-;generalize a.eval A[i]=u at H |-;cases z <;> first | exact H | (exfalso;revert H;intro H;cases H)
   ·cases i with
    | zero=>rfl
    | succ i =>
     have b8:i<C vs:=by simpa using W
     have g:=E i (by omega) b8;simp only[GC] at Z;generalize vs[i]=z at g Z;generalize a.eval (A[i]'(by omega))=u at g;cases g <;> cases Z
   ·rw[V];rintro e w' ⟨v,rfl,hgr,c2,b9⟩;obtain⟨b',k1,k2,k3⟩:=b9 cs vs n y rfl rfl;have:b'=b:=by
     simp[Aet,R] at k1;exact k1.symm
    subst this;have a5:∀ c,(X0 c\/XS s a.tmps c)->((X0 c\/XS s a.tmps c)/\¬ c=b')\/c=b':=fun c hc=>(Classical.em (c=b')).elim .inr fun e => .inl ⟨hc,e⟩;have c0:Rel Y X0 roots w0 (s.set k r2) a w':=h.turn rfl (by rw[q];exact S) b3 (b:=b') (by rw[m];rfl) B hgr (fun X hX=>b7 X b' w' _ m (k2.mono fun c hc => .inl (a5 c ((hX c).1 hc))));refine O _ _ ?_;have a6:∀ t,Ag (s.set k r2) t=if k=t then r2 else Ag s t:=fun t=>Ek (Ig q b5);refine c0.put (Au (fun t L => ?_) hf) (k3.mono fun c hc => .inl (a5 c (hc.imp id (All (fun t L => ?_) c))))
    ·rw[a6];split
     ·exact b4
     ·exact a7 t L
    ·rw[a6] at L;split at L
     next e=>subst e;rw[q];exact S
     ·exact L
  split at j
  ·rename_i cs vs q J;split at j
   case h_2=>cases j
   rename_i n y K;cases j;have M:=h.reg k;rw[q] at M;obtain⟨b,m,B,G⟩:=M;refine a3 cs n vs y (.box cs) (.box n) q rfl rfl rfl (by nofun) J K ⟨b,m,B,G⟩ (fun X b' w' tm D E => ?_) O;rw[m] at D;cases D;exact⟨b,m,B,E⟩
  ·rename_i cs vs q J;split at j
   case h_2=>cases j
   rename_i n y K;cases j;have M:=h.reg k;rw[q] at M;obtain⟨b,m,B,G⟩:=M;refine a3 cs n vs y (.bxg cs) (.bxg n) q rfl rfl rfl (by nofun) J K ⟨b,m,B.1,G⟩ (fun X b' w' tm D E => ?_) O;rw[m] at D;cases D;exact⟨b,m,B,E⟩
  ·cases j
theorem Aww{o:Oper}{z:List AV}{n:Opd}{ls i:List Nat}{r:Reg}{l:List (Nat × Reg)}{F:Bh}{k:Act->World->Prop}(h:Rel Y X0 roots w0 s a w)(g:Cq P o.op (.mkw z n ls)=true)(v:∀ t∈i,BF (Ag s t)=false)
  (j:B2 roots i o.dst (.mkw z n ls)=true) (c:A8 F s (.mkw z n ls)=some (r,l)) (x:∀ a' w',Rel Y X0 roots w0 (BD (A5 s l) o.dst r) a' w'->k a' w'):o.wp P a w k Q:=by
 simp only[B2,U] at j;obtain⟨d,p⟩:=A7.1 j.2;simp only[A8] at c;split at c
 case h_2=>cases c
 rename_i q m hn;split at c
 case isFalse=>cases c
 rename_i y;split at c
 case isFalse=>cases c
 rename_i u;cases c;have A:∀ t∈i++ls,BF (Ag s t)=false:=by
  intro t f;rcases AK.1 f with f | f
  ·exact v t f
  ·exact NA (AKf.1 y t f)
 simp only[Cq] at g;split at g
 case h_2=>cases g
 rename_i t B C D;simp only[U] at g;obtain⟨⟨⟨h1,h2⟩,E⟩,G⟩:=g;have hl:=BG h h1 hn;have hc:=BG h h2 hn;generalize H:a.eval B=L at hl;generalize I:a.eval C=cv at hc;cases hl;cases hc;obtain⟨e,cells,J,K⟩:=wM (P:=P) (Y:=Y) (X:=fun b=>X0 b\/XS s a.tmps b) (w:=w) (kl:=q) (kc:=q) E G u.1 u.2;have hr:(execOp a.eval o).run P w = .ok (.value (.slice (some ⟨w.heap.size,0,none⟩) m.toNat m.toNat)) (w.alloc (.cells cells e)):=by
  simp[execOp,D,H,I,J]
 simp only[Cn,hr,BN];refine x _ _ ?_;rw[p];exact Yi h (fun t f=>Au A j.1 d p t f) K (J7 z m.toNat)
theorem Awx{o:Oper}{f d:Nat}{xs:List Opd}{ls B:List Nat}{r:Reg}{l:List (Nat × Reg)}{F:Bh}{C:Act->World->Prop}(h:Rel Y X0 roots w0 s a w)(H:GA P F)(x:Cq P o.op (.clw f xs d ls)=true)(I:∀ t∈B,BF (Ag s t)=false)
  (D:B2 roots B o.dst (.clw f xs d ls)=true) (p:A8 F s (.clw f xs d ls)=some (r,l)) (J:∀ a' w',Rel Y X0 roots w0 (BD (A5 s l) o.dst r) a' w'->C a' w'):o.wp P a w C Q:=by
 simp only[B2,U,AM] at D;obtain⟨hf,E⟩:=D;simp only[Cq] at x;split at x
 case h_2=>cases x
 rename_i f' args ts K;simp only[U] at x;obtain⟨⟨L,h1⟩,h2⟩:=x;have M:=Tm (P:=P) (a:=a) (w:=w) K L h2;simp only[A8] at p;split at p
 case h_2=>cases p
 rename_i vs N;split at p
 case isFalse=>cases p
 rename_i O;simp only[S] at p;obtain⟨y,R,j⟩:=p;cases j;obtain⟨T,V⟩:=Hi h h1 N;have q:∀ u,(u,d)∈roots->FC (Ag s u) d=false:=by
  intro u hu;simp only[CM,AKf,CD,Bl,z,ne_eq,CX,DI] at hf;rcases hf (u,d) hu with g | g
  ·exact absurd E.symm g
  ·rcases AK.1 g with g | g
   ·exact OQ (I u g)
   ·have:=AKf.1 O u g;simp only[MJ,U,Bl] at this;exact this.2
 have W:=H.plain f vs y R Y (fun b=>X0 b\/XS s a.tmps b) w (args.map a.eval) h.lowX h.lowYw (by simpa using T) (fun i m A=>by
  have:=V i (by simpa using m) A;simpa using this)
 simp only[Cn,M,BN];refine W.mono fun e w' ⟨v,j,hb,hr⟩ => ?_;subst j;refine J _ _ ?_;rw[E];cases y
 case fresh k n cs =>
  simp only[Eh] at hr;refine G2 (ks:=[]) h hb (fun u hu => .inr (q u hu)) (fun _ b hb=>(EG.block hr hb).1) (fun X m _ => ?_);exact KI h.below.from_ hr m
 case frs bb k n cs =>
  simp only[Eh] at hr;refine G2 (ks:=[]) h hb (fun u hu => .inr (q u hu)) (fun _ b hb=>(Kb.block hr hb).1) (fun X m _ => ?_);obtain⟨u,rfl,hr⟩:=hr;rw[Fg _ hr] at m;refine⟨u,rfl,KI h.below.from_ ?_ m⟩;rw[Fg _ hr] at hr;exact hr
 case gb =>
  simp only[Eh] at hr;obtain⟨b',rfl,G,Z⟩:=hr;refine G2 (ks:=[]) h hb (fun u hu => .inr (q u hu)) (fun _ b hb=>by simp only[Ax,C6,Am,Ac] at hb;exact hb ▸ G) (fun X m _ => ?_);exact⟨b',rfl,h.below.from_ _ G,Z.mono fun c hc => .inl ((m c hc).imp id And.right)⟩
 case io =>
  simp only[Eh] at hr;refine G2 (ks:=[]) h hb (fun u hu => .inr (q u hu)) (fun j=>(by cases j)) (fun X _ A => ?_);exact Rd.io _ _ _ (hr.mono fun b hb => .inl (A rfl b hb))
 case frh=>exact G2 (ks:=[]) h hb (fun u hu => .inr (q u hu)) (fun j=>(by cases j)) (fun X _ _=>trivial)
 all_goals
  refine G2 (ks:=[]) h hb (fun u hu => .inr (q u hu)) (fun j=>(by cases j)) (fun X _ A => ?_);exact Rd.mono hr fun b hb => .inl (A rfl b hb)
theorem Awy{o:Oper}{x y:Nat}{us zs z:List Nat}{r:Reg}{l:List (Nat × Reg)}{F:Bh}{g:Act->World->Prop}(h:Rel Y X0 roots w0 s a w)(j:Cq P o.op (.mvf x y us zs)=true)(G:∀ t∈z,BF (Ag s t)=false)
  (A:B2 roots z o.dst (.mvf x y us zs)=true) (c:A8 F s (.mvf x y us zs)=some (r,l)) (B:∀ a' w',Rel Y X0 roots w0 (BD (A5 s l) o.dst r) a' w'->g a' w'):o.wp P a w g Q:=by
 simp only[B2,U] at A;simp only[Cq] at j;split at j
 case h_2=>cases j
 rename_i y' O;simp only[A8] at c;split at c
 case isFalse=>cases c
 rename_i I;have h0:=h.reg x;have:∃ b,a.tmps.getD x A9 = .pointer (some ⟨b,0,none⟩):=by
  cases hr:Ag s x <;> rw[hr] at I h0 <;> first | (cases I;done) | (obtain⟨b,n,_⟩:=h0;exact⟨b,n⟩)
 obtain⟨b,n⟩:=this;have J:∀ q:H,Rel Y X0 roots w0 q a w->(∀ t∈z,BF (Ag q t)=false)->(∀ a' w',Rel Y X0 roots w0 (BD q o.dst (.ptr x 0)) a' w'->g a' w')->o.wp P a w g Q:=by
  intro q R S T;refine AI (v := .pointer (some ⟨b,0,none⟩)) (by simp[execOp,O,B5 (a:=a) j,n]) (T _ _ ?_);exact My (off:=0) (p:=⟨b,0,none⟩) R (Au S A.1) (C7 A.2) (by rw[n];rfl) rfl
 split at c
 ·rename_i cs hr;cases c;have f:=Ig hr (by nofun);refine J (s.set y (.box (Ia zs cs))) (h.dnBox zs hr) (fun t C => ?_) B;rw[Ek f];split
  ·rfl
  ·exact G t C
 ·rename_i cs ls hr;unfold OT at c;split at c
  case isFalse=>cases c
  split at c
  case h_2=>cases c
  rename_i D E V;split at c
  case isFalse=>cases c
  rename_i W;cases c;obtain⟨f1,X,Z,f4⟩:=NL V;obtain⟨r1,r2,r3,r4⟩:=Kz (s0:=s) E h f4 (fun t => .inl rfl);have K:Ag (A5 s E) y = .bxh cs ls:=by
   rcases r2 y with e | ⟨_,_,_,e,_⟩
   ·rw[e,hr]
   ·rw[hr] at e;cases e
  have f:=Ig K (by nofun);have hh:Rel Y X0 roots w0 ((A5 s E).set y (.bxh D [])) a w:=by
   refine r1.hold K (by omega) (fun p hp=>by cases hp) (fun i L M => ?_);simp only[Ed];cases hu:Ed ls i with
   | none =>
    refine .inr (.inl ⟨rfl,?_⟩);have:=X i hu;rw[Af L,Af M] at this;exact AY this
   | some u =>
    obtain⟨k,m,es,p1,p2,p3⟩:=Z i u hu;have e:=p3 M;rw[Af L] at e;refine .inr (.inr ⟨u,rfl,?_,?_⟩)
    ·rw[AY e];exact r4 _ p2
    ·rw[AY e];rfl
  have N:=hh.holdBox (d:=y) (cs:=D) (by rw[Ek f,Ae rfl]) W;rw[OP] at N;have hb:=N.dnBox (d:=y) (cs:=D) zs (by rw[Ek f,Ae rfl]);rw[OP] at hb;rw[Do] at B;refine J _ hb (fun t C => ?_) B;rw[Ek f];split
  ·rfl
  ·rcases r2 t with e | ⟨_,_,_,_,e⟩
   ·rw[e];exact G t C
   ·rw[e];rfl
 ·cases c
end
theorem Ym{sk:Bool}{x k:AV}{d:TypeDesc}(hd:wK sk d=true)(a:Se sk x=true){b:Bool}(h:XX x k=some b):Instr.sameNow d (RI x) (RI k)=some b:=by
 unfold XX at h;split at h
 ·cases sk <;> first | (cases a;done) | (cases d <;> first | exact h | cases hd)
 ·cases sk <;> first | (cases a;done) | (cases d <;> first | exact h | cases hd)
 ·cases h
theorem UE{sk:Bool}{x:AV}{d:TypeDesc}(hd:wK sk d=true)(c:Se sk x=true) :
  ∀ {ks:List AV} {ms:List MapEntry} {i:Nat} {b:Bool},ms.map (fun e=>(e.key,e.val))=ks.map (fun k=>(RI k,SW true))->FT ks x=some b->∃ r,Fp d (RI x) ms i=some r/\(if b then ∃ j,r=some (j,.bool true) else r=none)
 | [],[],i,b,_,h=>by cases h;exact⟨none,rfl,rfl⟩
 | [],_::_,_,_,a,_=>by cases a
 | _::_,[],_,_,a,_=>by cases a
 | k::ks,m::ms,i,b,a,h=>by
  simp only[Bg,Avt,Cc] at a;obtain⟨⟨f,g⟩,l⟩:=a;simp only[FT] at h;split at h
  next hs=>cases h;refine⟨some (i,.bool true),?_,i,rfl⟩;simp only[Fp,f,Ym hd c hs,g]
  next hs=>obtain⟨r,h1,h2⟩:=UE hd c (i:=i+1) l h;exact⟨r,by simp only[Fp,f,Ym hd c hs];exact h1,h2⟩
  ·cases h
def A8w(P:Program)(f:Nat)(nm:ByteArray):Prop:=∀ (w:World) (b m:Nat) (cs:Array Value) (T:TypeId) (ms:Array MapEntry) (d:Nat) (ks:List AV),
 w.heap[b]? = some (.cells cs T (0,0))->cs[0]? = some (.map (some m))->cs[1]? = some (.int .i64 0)->w.heap[m]? = some (.map ms d)->nS ms ks->FT ks (.str nm)=some false ->
  Calls P f #[.pointer (some ⟨b,0,none⟩),.string nm,.bool true,.bool true] w fun e w'=>∃ v,e = .returned v/\Grown ⟨w,fun c=>c=m⟩ w'/\∃ a g,w'.heap[m]? = some (.map a g)/\nS a (ks++[.str nm])
class Looks (P:Program):Prop where
 ok:∀ f nm,Kp f nm=true->A8w P f nm
section
variable {P:Program} {Y X0:Nat->Prop} {roots:List (Nat × Nat)} {w0:Base} {w:World} {s:H} {a:Act} {Q:Exit->Act->World->Prop}
theorem Wn{sk:Bool}{t:TypeId}(h:nZ P sk t=true):∃ a e d,P.underlying t=some (.map a e)/\P.underlying a=some d/\wK sk d=true/\∀ w,(zeroValue e).run P w = .ok (.bool false) w:=by
 unfold nZ at h;split at h
 ·rename_i a e h1;simp only[U] at h;split at h
  ·rename_i d h2;refine⟨a,e,d,h1,h2,h.1,fun w => ?_⟩;have b:=h.2;split at b
   next hi=>simp[zeroValue,typeInfo,program,Cl,hi]
   ·cases b
  ·exact absurd h.1 (by decide)
 ·cases h
theorem Yn{sk:Bool}{a:TypeId}{d:TypeDesc}{v:Value}{b:Bool}(c:P.underlying a=some d)(hd:wK sk d=true)(m:Nat):(FA b (m+1) a v).run P w = .ok () w:=by
 rw[FA];simp only[Aj,run_underlying c,W];cases d <;> first | rfl | cases hd
theorem lF{a:TypeId}{d:TypeDesc}{v:Value}{ms:List MapEntry}{r:Option (Nat × Value)}(b:P.underlying a=some d)(h:Fp d v ms 0=some r):(N6 a v ms).run P w = .ok r w:=by
 simp only[N6,Aj,run_underlying b,W,h,An]
theorem wS{sk:Bool}{Y X:Nat->Prop}{v:Value}{c:AV}(h:Rd Y X w v c)(a:Se sk c=true):v=RI c:=by
 cases h <;> first | rfl | cases a
theorem Awz{o:Oper}{f:List Nat}{g:Act->World->Prop}(h:Rel Y X0 roots w0 s a w)(c:Cq P o.op .mkm=true)(j:∀ t∈f,BF (Ag s t)=false)
  (e:B2 roots f o.dst .mkm=true) (k:∀ a' w',Rel Y X0 roots w0 (BD s o.dst (.mp [])) a' w'->g a' w'):o.wp P a w g Q:=by
 simp only[B2,U] at e;obtain⟨d,i⟩:=A7.1 e.2;simp only[Cq] at c;split at c
 case h_2=>cases c
 rename_i t l;have m:(execOp a.eval o).run P w = .ok (.value (.map (some w.heap.size))) (w.alloc (.map #[] 0)):=by
  simp[execOp,l,Instr.makeMap]
 simp only[Cn,m,BN];refine k _ _ ?_;rw[i];refine BB (ks:=[]) h ((DZ _ _).alloc (Ay _) _) (fun t n => .inr (Au j e.1 d i t n)) (fun _ b hb=>by simp only[Ax,C6,Am,Ac] at hb;omega) (fun X _ _ => ?_);exact⟨w.heap.size,#[],0,rfl,.inl h.below.size,by show (w.heap.push _)[w.heap.size]? = _;simp,rfl⟩
theorem Axa{o:Oper}{sk:Bool}{x d:Nat}{k:Opd}{r:Reg}{l:List (Nat × Reg)}{F:Bh}{p:Act->World->Prop}(h:Rel Y X0 roots w0 s a w)(g:Cq P o.op (.mlk sk x d k)=true)(hf:D_ s roots o.dst)
  (f:A8 F s (.mlk sk x d k)=some (r,l)) (u:∀ a' w',Rel Y X0 roots w0 (BD (A5 s l) o.dst r) a' w'->p a' w'):o.wp P a w p Q:=by
 simp only[Cq] at g;split at g
 case h_2=>cases g
 rename_i t K k' y;simp only[U] at g;obtain⟨⟨h1,h2⟩,L⟩:=g;obtain⟨M,e,ds,z,A,B,N⟩:=Wn L;have O:=B5 (a:=a) h1;simp only[A8] at f;split at f
 case h_2=>cases f
 rename_i R c hr hc;split at f
 case isFalse=>cases f
 rename_i T;obtain⟨rfl,C⟩:=T;split at f
 case h_2=>cases f
 rename_i ks V;simp only[S] at f;obtain⟨b,hb,X⟩:=f;cases X;have D:=h.reg x;rw[hr] at D;have E:=h.reg R;rw[V] at E;obtain⟨m,ms,Z,e1,e2,e3,e4⟩:=E;have G:=wS (BG h h2 hc) C;have f:a.eval K = .map (some m):=by rw[O,D.2,e1]
 have H:(getObj m).run P w = .ok (.map ms Z) w:=by simp only[getObj,Cl,e3]
 have I:(FA ms.isEmpty 10000 M (RI c)).run P w = .ok () w:=Yn A B 9999;obtain⟨q,hq,n⟩:=UE B C (i:=0) e4 hb;have J:=lF (P:=P) (w:=w) A hq;cases b with
 | true =>
  obtain⟨j,rfl⟩:=n;refine AI (v := .bool true) ?_ (u _ _ (h.put hf (.bool true)));simp only[execOp,y,OJ,f,G,Aj,run_underlying z,W,H,An,I,J];rfl
 | false =>
  have n:q=none:=n;subst n;refine AI (v := .bool false) ?_ (u _ _ (h.put hf (.bool false)));simp only[execOp,y,OJ,f,G,Aj,run_underlying z,W,H,An,I,J,N];rfl
theorem Axb{o:Oper}{sk:Bool}{x d:Nat}{k:Opd}{r:Reg}{l:List (Nat × Reg)}{F:Bh}{y:Act->World->Prop}(h:Rel Y X0 roots w0 s a w)(g:Cq P o.op (.mup sk x d k)=true)(z:o.dst=none)
  (f:A8 F s (.mup sk x d k)=some (r,l)) (A:∀ a' w',Rel Y X0 roots w0 (BD (A5 s l) o.dst r) a' w'->y a' w'):o.wp P a w y Q:=by
 simp only[Cq] at g;split at g
 case h_2=>cases g
 rename_i t K k' L;simp only[U] at g;obtain⟨⟨h1,h2⟩,M⟩:=g;obtain⟨N,e,ds,O,B,C,m4⟩:=Wn M;have R:=B5 (a:=a) h1;simp only[A8] at f;split at f
 case h_2=>cases f
 rename_i S c hr hc;split at f
 case isFalse=>cases f
 rename_i T;obtain⟨rfl,D⟩:=T;split at f
 case h_2=>cases f
 rename_i ks E;split at f
 case h_2=>cases f
 rename_i hb;cases f;have G:=h.reg x;rw[hr] at G;have H:=h.reg S;rw[E] at H;obtain⟨m,ms,j,n,I,p,J⟩:=H;have V:=wS (BG h h2 hc) D;have f:a.eval K = .map (some m):=by rw[R,G.2,n]
 have Z:(getObj m).run P w = .ok (.map ms j) w:=by simp only[getObj,Cl,p]
 have a1:(FA false 10000 N (RI c)).run P w = .ok () w:=Yn B C 9999;obtain⟨q,hq,u⟩:=UE C D (i:=0) J hb;have u:q=none:=u;subst u;have a2:=lF (P:=P) (w:=w) B hq;have a3:∀ v:Obj,(setObj m v).run P w = .ok () { w with heap:=w.heap.setIfInBounds m v }:=fun v=>by simp only[setObj,Cl,p]
 have a4:(execOp a.eval o).run P w = .ok .skip { w with heap:=w.heap.setIfInBounds m (.map (ms.push { key:=RI c,val := .bool true,born:=j }) (j+1)) }:=by
  have hv:a.eval (.const (.bool true)) = .bool true:=rfl;simp only[execOp,L,nL,f,V,hv,Aj,run_underlying O,W,Z,a1,a2,a3,An]
 simp only[Cn,a4,BN,z];rw[z] at A;have a5:=Fj p;refine A _ _ (Rel.store h E rfl rfl (b:=m) (by rw[n];rfl) I rfl rfl rfl (by simp) (fun c hc=>by rw[Jo (CW hc)]) (fun X _=>⟨m,ms.push { key:=RI c,val := .bool true,born:=j },j+1,n,I,by simp[a5],?_⟩));simp only[nS,AIy,DU,Bg,C1];rw[J]
theorem Axc{o:Oper}{u:Nat}{k:IntKind}{x:List Nat}{r:Reg}{l:List (Nat × Reg)}{F:Bh}{y:Act->World->Prop}(h:Rel Y X0 roots w0 s a w)(b:Cq P o.op (.blm u k)=true)(H:∀ t∈x,BF (Ag s t)=false)
  (A:B2 roots x o.dst (.blm u k)=true) (g:A8 F s (.blm u k)=some (r,l)) (I:∀ a' w',Rel Y X0 roots w0 (BD (A5 s l) o.dst r) a' w'->y a' w'):o.wp P a w y Q:=by
 simp only[B2,U] at A;obtain⟨⟨hf,J⟩,hu⟩:=A;obtain⟨B,m⟩:=A7.1 J;have C:=C7 hu B m;simp only[Cq] at b;split at b
 case h_2=>cases b
 rename_i t K L;simp only[U] at b;obtain⟨hs,c⟩:=b;split at hs
 case h_2=>cases hs
 rename_i fs M;simp only[U] at hs;obtain⟨N,j⟩:=hs;split at c
 case h_2=>cases c
 rename_i z _ _ O;split at c
 case h_2=>cases c
 rename_i d R;have S:d=k:=by simpa using c
 subst S;simp only[A8] at g;split at g
 case h_2=>cases g
 rename_i ks hr;cases g;have T:z=#[.map none,.int d 0]:=by rw[<- D6 (xs:=z),R]
 subst T;have V:(zeroValue t).run P w = .ok (.agg #[.map none,.int d 0]) w:=by simp[zeroValue,typeInfo,program,Cl,O]
 have h1:=UD (h.reg u) (by rw[hr];rfl);obtain⟨D,Z,E,f3⟩:=UC (a:=a) (place:=fun i=>(fs.map fun f=>(f.offset,P.cellsOf f.type))[i]?) (pl:=If P fs) (qs:=[(0,u)]) (cells:=#[.map none,.int d 0]) (fun i off n hi=>IP hi) j ⟨rfl,trivial⟩ (fun q G=>by
  simp only[AP] at G;subst G;exact⟨by simp,h1.2⟩)
 have a1:DH (fun i=>(fs.map fun f=>(f.offset,P.cellsOf f.type))[i]?) (Value.agg #[.map none,.int d 0]).cells (K.map fun p=>(p.1,a.eval p.2)).toList=some D:=by rw[CO];exact Z
 refine AI (v := .agg D) ?_ (I _ _ ?_)
 ·simp only[execOp,L,J3,Aj,V,W,run_underlying M,NH N,a1,An]
 ·rw[m];refine BB (ks:=[]) h (DZ _ _) (fun t ht => .inr (Au H hf B m t ht)) (fun he=>by cases he) (fun X _ g2=>⟨_,rfl,E,fun p j => ?_,by rw[E];simp,fun i hi => ?_⟩)
  ·simp only[AP] at j;subst j;exact C.1
  ·have a2:i<2:=by simpa using hi
   have e:=f3 i;simp only[Ed] at e |-;match i,a2 with
   | 0,_ =>
    rw[Ae rfl] at e |-;refine⟨_,e,h1.1,?_⟩;dsimp only;rw[FP,Al (fun e=>C.2 e.1)]
   | 1,_ =>
    rw[Al (by decide)] at e |-;exact⟨_,e,rfl,.inr ⟨rfl,.int _ _⟩⟩
theorem Axd{o:Oper}{x:Nat}{us n:List Nat}{r:Reg}{l:List (Nat × Reg)}{F:Bh}{q:Act->World->Prop}(h:Rel Y X0 roots w0 s a w)(d:Cq P o.op (.bom x us)=true)(B:∀ t∈n,BF (Ag s t)=false)
  (y:B2 roots n o.dst (.bom x us)=true) (c:A8 F s (.bom x us)=some (r,l)) (C:∀ a' w',Rel Y X0 roots w0 (BD (A5 s l) o.dst r) a' w'->q a' w'):o.wp P a w q Q:=by
 simp only[B2,U,AKf] at y;obtain⟨⟨hf,D⟩,E⟩:=y;obtain⟨f,k⟩:=A7.1 D;simp only[Cq] at d;split at d
 case h_2=>cases d
 rename_i t z G;have H:=B5 (a:=a) d;simp only[A8] at c;split at c
 case h_2=>cases c
 rename_i cs ls hr;split at c
 case isFalse=>cases c
 rename_i I;cases c;have h0:=h.reg x;rw[hr] at h0;obtain⟨vs,J,T,K⟩:=h0;have L:(execOp a.eval o).run P w = .ok (.value (.pointer (some ⟨w.heap.size,0,none⟩))) (w.alloc (.cells (a.eval z).cells t)):=by
  simp[execOp,G,AFq,newVar,newRow]
 simp only[Cn,L,BN];refine C _ _ ?_;rw[k];have M:(a.eval z).cells=vs:=by rw[H,J];rfl
 rw[M];have hu:∀ p∈ls,(f,p.2)∈roots/\f ≠ p.2:=fun p m=>C7 (E p.2 (by simpa using AKf.1 I p m)) f k;refine BB (ks:=[]) h ((DZ _ _).alloc (Ay _) _) (fun t N => .inr (Au B hf f k t N)) (fun _ b hb=>by simp only[Ax,C6,Am,Ac] at hb;omega) (fun X O _ => ?_);have A:=((K.mono (X':=X) (fun b hb=>(O b hb).imp id N8)).world (w':=w.alloc (.cells vs t)) (fun b _ hb=>FM _ _ _ hb));refine⟨w.heap.size,vs,t,rfl,.inl h.below.size,by show (w.heap.push _)[w.heap.size]? = _;simp,fun p m=>(hu p m).1,A.2.1,fun i hi => ?_⟩;obtain⟨v,R,S,g⟩:=A.2.2 i hi;refine⟨v,R,S,?_⟩;split
 next u j=>simp only[j] at g;rw[g,FP,Al (fun e=>(hu _ (Ic j)).2 e.1)]
 next j=>simp only[j] at g;exact g
theorem Axe[Looks P]{o:Oper}{f x d u:Nat}{xs:List Opd}{G:List Nat}{r:Reg}{l:List (Nat × Reg)}{F:Bh}{H:Act->World->Prop}(h:Rel Y X0 roots w0 s a w)(j:Cq P o.op (.lok f x d u xs)=true)(S:∀ t∈G,BF (Ag s t)=false)
  (I:B2 roots G o.dst (.lok f x d u xs)=true) (c:A8 F s (.lok f x d u xs)=some (r,l)) (V:∀ a' w',Rel Y X0 roots w0 (BD (A5 s l) o.dst r) a' w'->H a' w'):o.wp P a w H Q:=by
 simp only[B2,U,Bl,z,ne_eq] at I;obtain⟨hf,c3⟩:=I;simp only[Cq] at j;split at j
 case h_2=>cases j
 rename_i f' args ts W;simp only[U] at j;obtain⟨⟨Z,h1⟩,a1⟩:=j;have a2:=Tm (P:=P) (a:=a) (w:=w) W Z a1;simp only[A8] at c;split at c
 case h_2=>cases c
 rename_i d' off nm hr a3;split at c
 case isFalse=>cases c
 rename_i a4;obtain⟨rfl,rfl,a5⟩:=a4;split at c
 case h_2=>cases c
 rename_i c0 J ks a6 q;split at c
 case isFalse=>cases c
 rename_i a7;subst a7;split at c
 case h_2=>cases c
 rename_i hb;cases c;cases y:args.toList with
 | nil=>rw[y] at h1;cases h1
 | cons o1 n =>
  rw[y] at h1;simp only[EM,U] at h1;obtain⟨h1,h2⟩:=h1;obtain⟨e1,e2⟩:=Hi h h2 a3;have a8:=B5 (a:=a) h1;have K:=h.reg x;rw[hr] at K;obtain⟨_,p,L,g2,g3⟩:=K;have gb:=h.reg d';rw[a6] at gb;obtain⟨b,vs,T,b1,b2,b3,M⟩:=gb;have N:=h.reg J;rw[q] at N;obtain⟨m,ms,kk,A,O,m3,m4⟩:=N;rw[b1] at L;cases L;have a9:a.eval o1 = .pointer (some ⟨b,0,none⟩):=by rw[a8,g3]
  obtain⟨v0,b0,_,R⟩:=M.2.2 0 (by simp);simp only[Ed,if_true] at R;obtain⟨v1,b5,_,g⟩:=M.2.2 1 (by simp);have b6:v1 = .int .i64 0:=by
   simp only[Ed] at g;rw[Al (by decide)] at g;rcases g with g | g
   ·cases g
   ·have:=g.2;cases this;rfl
  have k:∀ i (h1:i<C n) (h2:i<3),Rd Y (fun b=>X0 b\/XS s a.tmps b) w (a.eval n[i]) ([AV.str nm,.bool true,.bool true][i]):=fun i i1 i2=>e2 i i1 i2;have b7:AFp a.eval args=#[.pointer (some ⟨b,0,none⟩),.string nm,.bool true,.bool true]:=by
   have e3:C n=3:=by simpa using e1
   match n,e3,k with
   | [p1,p2,p3],_,k =>
    have B:=k 0 (by simp) (by simp);have D:=k 1 (by simp) (by simp);have E:=k 2 (by simp) (by simp);simp only[Bk,GC] at B D E;apply ACb;rw[CO,y];simp only[Bg,C1,a9];generalize a.eval p1=z1 at B |-;generalize a.eval p2=z2 at D |-;generalize a.eval p3=z3 at E |-;cases B;cases D;cases E;rfl
  have b8:=Looks.ok (P:=P) f nm a5 w b m vs T ms kk ks b3 (by rw[b0,R,A]) (by rw[b5,b6]) m3 m4 hb;simp only[Cn,a2,BN];rw[b7];refine b8.mono ?_;rintro e w' ⟨v,rfl,hgr,b9,c1,n1,n2⟩;have c2:Rel Y X0 roots w0 (s.set J (.mp (ks++[.str nm]))) a w':=h.turn q rfl rfl (b:=m) (by rw[A];rfl) O hgr (fun X hX=>⟨m,b9,c1,A,O,n1,n2⟩);refine V _ _ ?_;refine c2.dead (Au (fun t ht => ?_) hf);rw[Ek (Ig q (by nofun))];split
  ·rfl
  ·exact S t ht
end
section
variable {P:Program} {Y X0:Nat->Prop} {roots:List (Nat × Nat)} {w0:Base} {w:World} {s:H} {a:Act} {Q:Exit->Act->World->Prop}
theorem oI:∀ {us:List Nat} {l:List (Nat × AV)},XU s us=some l->∀ p∈l,p.1∈us/\Ag s p.1 = .val p.2
 | [],l,h=>by cases h;intro p a;cases a
 | u::us,l,h=>by
  simp only[XU] at h;split at h
  case h_2=>cases h
  rename_i x b;simp only[S] at h;obtain⟨c,h1,rfl⟩:=h;intro p a;rcases Aw.1 a with rfl | a
  ·exact⟨AKh ..,b⟩
  ·exact⟨AJ _ (oI h1 p a).1,(oI h1 p a).2⟩
theorem Axf{o:Oper}{f:Nat}{xs:List Opd}{us z:List Nat}{r:Reg}{l:List (Nat × Reg)}{F:Bh}{A:Act->World->Prop}(h:Rel Y X0 roots w0 s a w)(K:GA P F)(g:Cq P o.op (.cpf f xs us)=true)(L:∀ t∈z,BF (Ag s t)=false)
  (B:B2 roots z o.dst (.cpf f xs us)=true) (d:A8 F s (.cpf f xs us)=some (r,l)) (M:∀ a' w',Rel Y X0 roots w0 (BD (A5 s l) o.dst r) a' w'->A a' w'):o.wp P a w A Q:=by
 simp only[B2,U,AKf] at B;obtain⟨⟨hf,N⟩,O⟩:=B;obtain⟨D,k⟩:=A7.1 N;simp only[Cq] at g;split at g
 case h_2=>cases g
 rename_i f' args ts R;simp only[U] at g;obtain⟨⟨S,h1⟩,h2⟩:=g;have T:=Tm (P:=P) (a:=a) (w:=w) R S h2;simp only[A8] at d;split at d
 case h_2=>cases d
 rename_i vs ul V W;split at d
 case h_2=>cases d
 rename_i cs Z;cases d;obtain⟨e1,e2⟩:=Hi h h1 V;have a1:=K.plain f vs (.frh cs) Z Y (fun b=>X0 b\/XS s a.tmps b) w (args.map a.eval) h.lowX h.lowYw (by simpa using e1) (fun i E m=>by
  have:=e2 i (by simpa using E) m;simpa using this)
 simp only[Cn,T,BN];refine a1.mono fun e w' ⟨v,n,hb,hr⟩ => ?_;subst n;refine M _ _ ?_;rw[k];simp only[Eh] at hr;obtain⟨ws,rfl,r1,r2,r3⟩:=hr;refine BB (ks:=[]) h hb (fun u hu => .inr (Au L hf D k u hu)) (fun n=>by cases n) (fun X E m => ?_);have G:=m rfl;refine⟨ws,rfl,r1,fun p hp => ?_,r3.2.1,fun i hi => ?_,r3.2.2.2⟩
 ·obtain⟨q,x⟩:=oI W p hp;have j:=C7 (O p.1 q) D k;refine⟨j.1,?_⟩;rw[FP,Al (fun e=>j.2 e.1)];have H:=h.reg p.1;rw[x] at H;have q5:Rd Y (fun b=>X b\/Nst ws (C cs) b) w (a.tmps.getD p.1 A9) p.2:=Rd.mono H fun b hb=>hb.elim (fun e => .inl (G b e)) fun ⟨i,u,i1,i2,I⟩=>by
   obtain⟨u',J,_,y⟩:=r3.2.2.1 i i1;rw[i2] at J;cases J;cases hc:cs[i] <;> rw[hc] at y <;> first
    | exact .inr (EG.block y.1 I).1
    | (have:=y.2.1;rw[I] at this;cases this)
  exact q5.world fun b _ a2=>hb.block b a2
 ·obtain⟨u,q,x,j⟩:=r3.2.2.1 i hi;exact⟨u,q,x,(j.mono fun c hc => .inl (G c hc)).lower h.below.from_⟩
theorem Axg{Y X c B G:Nat->Prop}{tm d:Array Value}{t:Nat}{v:Value}{r:Reg}(h:FN Y X B G roots tm w t v r):FN Y c B G roots d w t v (kP r):=by
 cases r <;> simp only[kP] <;> try trivial
 case val x =>
  split
  next a=>exact Rd.noMem h a
  ·trivial
 case box cs =>
  split
  next a=>obtain⟨b,e,f,g,vs,T,j,k,l⟩:=h;exact⟨b,e,f,g,vs,T,j,k,fun i hi=>let ⟨u,m,n⟩:=l i hi; ⟨u,m,n.noMem (AKf.1 a _ (AF hi))⟩⟩
  ·trivial
theorem Afn{r:Reg}(h:Cm (kP r)=true):Cm r=true:=by
 cases r <;> first | rfl | (simp only[kP] at h;split at h <;> cases h) | cases h
theorem KQ:∀ (l:List (Nat × Reg)) (s:H) (t:Nat),(∃ p∈l,p.1=t/\Ag (A5 s l) t=p.2)\/((∀ p∈l,p.1 ≠ t)/\Ag (A5 s l) t=Ag s t)\/Ag (A5 s l) t = .dead
 | [],s,t => .inr (.inl ⟨fun p a=>(by cases a),rfl⟩)
 | (u,r)::l,s,t=>by
  simp only[A5];rcases KQ l (s.set u r) t with ⟨p,h1,h2,c⟩ | ⟨h1,h2⟩ | h1
  ·exact .inl ⟨p,AJ _ h1,h2,c⟩
  ·by_cases hu:u=t
   ·rw[Cf] at h2;by_cases b:u<C s
    ·rw[Ae ⟨hu,b⟩] at h2;exact .inl ⟨(u,r),AKh ..,hu,h2⟩
    ·rw[Al (fun e=>b e.2)] at h2;refine .inr (.inr (h2.trans ?_));rw[<- hu];simp only[Ag,Z,AX (vU b)];rfl
   ·rw[EL hu] at h2;refine .inr (.inl ⟨fun p a => ?_,h2⟩);rcases Aw.1 a with rfl | a
    ·exact hu
    ·exact h1 p a
  ·exact .inr (.inr h1)
theorem EG.noMem{Y X a B:Nat->Prop}{v:Value}{k n:Nat}{cs:List AV}(h:EG Y X B w v k n cs)(hc:cs.all Go.Ai.noMem=true):EG Y a B w v k n cs:=by
 rcases h with h | ⟨b,cap,c,d,e,f,⟨g,vs,T,j,l,m⟩,o⟩
 ·exact .inl h
 ·exact .inr ⟨b,cap,c,d,e,f,⟨g,vs,T,j,l,fun i hi=>let ⟨u,p,q⟩:=m i hi; ⟨u,p,q.noMem (AKf.1 hc _ (AF hi))⟩⟩,o⟩
def oJ(s:H)(roots:List (Nat × Nat))(dst:Option Nat):Prop:=∀ d,dst=some d->∀ t,(t,d)∈roots->FC (Ag s t) d=false
theorem Rel.putL(h:Rel Y X0 roots w0 s a w){dst:Option Nat}{v:Value}{x:AV}(hf:oJ s roots dst)(hr:Rd Y (fun b=>X0 b\/XS s a.tmps b) w v x):Rel Y X0 roots w0 (BD s dst (.val x)) (a.put dst v) w:=by
 cases dst with
 | none=>exact h
 | some d =>
  refine G2 (ks:=[]) h (DZ _ _) (fun t c => .inr (hf d rfl t c)) (fun e=>(by cases e)) (fun X _ h2 => ?_);exact hr.mono fun b hb => .inl (h2 rfl b hb)
theorem Rel.putDupL(h:Rel Y X0 roots w0 s a w){dst:Option Nat}{d:Nat}(hf:oJ s roots dst)(b:∀ t,dst=some t->(t,d)∈roots/\t ≠ d) :
  Rel Y X0 roots w0 (BD s dst (.dup d)) (a.put dst (a.tmps.getD d A9)) w:=by
 cases dst with
 | none=>exact h
 | some t =>
  refine G2 (ks:=[]) h (DZ _ _) (fun u hu => .inr (hf t rfl u hu)) (fun c=>(by cases c)) (fun X _ _ => ?_);refine⟨(b t rfl).1,?_⟩;rw[FP,Al];rintro⟨rfl,_⟩;exact (b t rfl).2 rfl
theorem lG{o:Oper}{x d off:Nat}{us:List Nat}{r:Reg}{l:List (Nat × Reg)}{i:Act->World->Prop}(h:Rel Y X0 roots w0 s a w)(g:Cq P o.op (.ldh x d false us)=true)(hf:oJ s roots o.dst)
  (I:∀ u∈us,HL roots o.dst u=true) (hr:Ag s x = .ptr d off)
  (e:(∃ cs ls,Ag s d = .bxh cs ls/\IK s d off false us cs ls=some (r,l))\/∃ cs E v,Ag s d = .bxf cs E/\cs[off]? = some v/\XV v=true/\r = .val (G' v)/\l=[])
  (n:∀ a' w',Rel Y X0 roots w0 (BD (A5 s l) o.dst r) a' w'->i a' w'):o.wp P a w i Q:=by
 simp only[Cq] at g;split at g
 case h_2=>cases g
 rename_i t x' J;simp only[U] at g;obtain⟨h1,h2⟩:=g;have K:=B5 (a:=a) h1;have h0:=h.reg x;rw[hr] at h0;obtain⟨_,p,F,g2,L⟩:=h0;have j:=h.reg d;have q:∀ (b:Nat) (v:Value),a.tmps.getD d A9 = .pointer (some ⟨b,0,none⟩)->w.cell? ⟨b,off,none⟩=some v->(∀ y:Act->World->Prop,y (a.put o.dst v) w->(∀ a' w',y a' w'->i a' w')->o.wp P a w i Q):=by
  intro b v M hc y N O;rw[M] at F;cases F;have R:=Sj (P:=P) h2 hc;refine AI (v:=v) ?_ (O _ _ N);simp only[execOp,J,Hg,K,L,BQ,Aj,An,W,AH,R]
 rcases e with ⟨cs,ls,z,e⟩ | ⟨cs,E,v,z,hc,S,rfl,rfl⟩
 ·rw[z] at j;obtain⟨b,vs,T,k,V,A,B⟩:=j;unfold IK at e;split at e
  case isFalse=>cases e
  rename_i X;split at e
  case isFalse=>cases e
  rename_i C;obtain⟨v,D,q0,f⟩:=B.2.2 off C;have hcell:w.cell? ⟨b,off,none⟩=some v:=by rw[DE A];exact D
  have Z:∀ u,Ed ls off=some u->∀ t,o.dst=some t->(t,u)∈roots/\t ≠ u:=by
   intro u hu;have:=AKf.1 X _ (Ic hu);exact C7 (I u (by simpa using this))
  simp only[AC,if_false] at e;split at e
  next u hu=>cases e;simp only[hu] at f;refine q b v k hcell _ ?_ n;simp only[A5];rw[f];exact h.putDupL hf (Z u hu)
  ·rename_i hu;simp only[hu] at f;split at e
   ·rename_i c hc;split at e
    ·rename_i G;cases e;obtain⟨_,m⟩:=Az.1 hc;refine q b v k hcell _ ?_ n;simp only[A5];rcases f with f | f
     ·rw[m] at f;rw[f] at G;cases G
     ·rw[m] at f;exact h.putL hf f.2
    ·cases e
   ·cases e
 ·rw[z] at j;obtain⟨b,vs,T,k,V,A,B⟩:=j;obtain⟨C,m⟩:=Az.1 hc;obtain⟨H,D,_,f⟩:=B.2.2.1 off C;have hcell:w.cell? ⟨b,off,none⟩=some H:=by rw[DE A];exact D
  refine q b H k hcell _ ?_ n;simp only[A5];rw[m] at f;exact h.putL hf (f.frz h.lowY S).1
theorem Axh{o:Oper}{x d y c:Nat}{hi:Int}{n:Nat}{us kp b1:List Nat}{r:Reg}{l:List (Nat × Reg)}{F:Bh}{K':Act->World->Prop}(h:Rel Y X0 roots w0 s a w)(R:Cq P o.op (.ldf x d y c hi n us kp)=true)(c4:∀ t∈b1,BF (Ag s t)=false)
  (b2:B2 roots b1 o.dst (.ldf x d y c hi n us kp)=true) (j:A8 F s (.ldf x d y c hi n us kp)=some (r,l)) (hK:∀ a' w',Rel Y X0 roots w0 (BD (A5 s l) o.dst r) a' w'->K' a' w'):o.wp P a w K' Q:=by
 simp only[B2,U,AM,Bl,z,ne_eq] at b2;obtain⟨⟨⟨⟨hf,S⟩,c5⟩,c6⟩,c7⟩:=b2;have c8:(d,y)∈roots:=by simpa using c5
 have a4:∀ u∈us,HL roots o.dst u=true:=AKf.1 c7;have free:FC (Ag s d) y=false->oJ s roots o.dst:=by
  intro hl e M t ht;rw[S] at M;cases M;simp only[CM,AKf,CD,Bl,z,ne_eq,CX,DI] at hf;rcases hf (t,y) ht with h1 | h1
  ·exact absurd S.symm (fun e=>h1 (by rw[S]))
  ·rcases Aw.1 h1 with rfl | h1
   ·exact hl
   ·exact OQ (c4 t h1)
 have b3:Cq P o.op (.ldh x d false us)=true:=R;simp only[A8] at j;split at j
 case h_2=>cases j
 rename_i f off hr;split at j
 case isFalse=>cases j
 rename_i c9;subst c9;split at j
 case h_3=>cases j
 rotate_left
 ·rename_i cs ls I;have a1:=j;unfold IK at a1;split at a1
  case isFalse=>cases a1
  rename_i d0;refine lG h b3 (free ?_) a4 hr (.inl ⟨cs,ls,I,j⟩) hK;rw[I];show (ls.any fun p=>p.2==y)=false;rw[FB];intro p J a7;have h1:=AKf.1 d0 p J;exact (C7 (a4 p.2 (by simpa using h1)) y S).2 (eq_of_beq a7).symm
 rename_i cs g I;split at j
 case h_2=>cases j
 rename_i c0 v hc b4;split at j;rotate_left
 ·split at j
  case isFalse=>cases j
  rename_i a8;simp only[U] at a8;cases j;refine lG h b3 (free ?_) a4 hr (.inr ⟨cs,g,v,I,b4,a8.1,rfl,rfl⟩) hK;rw[I];show (g.any fun p=>p.1==y)=false;rw[FB];intro p J a7;have h1:=AKf.1 a8.2 p J;exact (C7 (a4 p.1 (by simpa using h1)) y S).2 (eq_of_beq a7).symm
 split at j
 case h_2=>cases j
 rename_i k m es;split at j
 case isFalse=>cases j
 rename_i d1;obtain⟨hn,b5,a1,d9,d2,b6⟩:=d1;cases j;simp only[Cq] at R;split at R
 case h_2=>cases R
 rename_i t x' d3;simp only[U] at R;obtain⟨h1,h2⟩:=R;have d4:=B5 (a:=a) h1;have h0:=h.reg x;rw[hr] at h0;obtain⟨_,p,g1,g2,g3⟩:=h0;have h3:=h.reg f;rw[I] at h3;obtain⟨b,vs,T,e1,e2,e3,e4⟩:=h3;rw[e1] at g1;cases g1;obtain⟨a5,b7⟩:=Az.1 b4;obtain⟨B,q1,q0,q2⟩:=e4.2.2.1 off a5;rw[b7] at q2;obtain⟨q2,q4⟩:=q2;have hcell:w.cell? ⟨b,off,none⟩=some B:=by rw[DE e3];exact q1
 have d5:=Sj (P:=P) h2 hcell;refine AI (v:=B) ?_ (hK _ _ ?_)
 ·simp only[execOp,d3,Hg,d4,g3,BQ,Aj,An,W,AH,d5]
 rw[S];have d6:=Ig I (by nofun);rw[Do,Do];simp only[A5,BD];have a9:C (A5 (A5 s (Is n (f::(kp++g.map (·.1))))) (g.map fun p=>(p.1,Ab p.2)))=C s:=by rw[Fz,Fz]
 have ky:Ag (((A5 (A5 s (Is n (f::(kp++g.map (·.1))))) (g.map fun p=>(p.1,Ab p.2))).set f (.bxh ((cs.map G').set off .undef) [(off,y)])).set y (.own k m es)) y = .own k m es:=by
  rw[Cf,Ae ⟨rfl,by rw[AU,a9,<- hn];exact b5⟩]
 have kd:Ag (((A5 (A5 s (Is n (f::(kp++g.map (·.1))))) (g.map fun p=>(p.1,Ab p.2))).set f (.bxh ((cs.map G').set off .undef) [(off,y)])).set y (.own k m es)) f = .bxh ((cs.map G').set off .undef) [(off,y)]:=by
  rw[EL (CW c6),Cf,Ae ⟨rfl,by rw[a9];exact d6⟩]
 have ko:∀ t,t ≠ y->t ≠ f->(∃ q∈g,q.1=t/\Ag (((A5 (A5 s (Is n (f::(kp++g.map (·.1))))) (g.map fun p=>(p.1,Ab p.2))).set f (.bxh ((cs.map G').set off .undef) [(off,y)])).set y (.own k m es)) t = .val q.2) \/
   Ag (((A5 (A5 s (Is n (f::(kp++g.map (·.1))))) (g.map fun p=>(p.1,Ab p.2))).set f (.bxh ((cs.map G').set off .undef) [(off,y)])).set y (.own k m es)) t=kP (Ag s t) \/
   Ag (((A5 (A5 s (Is n (f::(kp++g.map (·.1))))) (g.map fun p=>(p.1,Ab p.2))).set f (.bxh ((cs.map G').set off .undef) [(off,y)])).set y (.own k m es)) t = .dead:=by
  intro t E K;rw[EL (CW E),EL (CW K)];rcases KQ (g.map fun p=>(p.1,Ab p.2)) (A5 s (Is n (f::(kp++g.map (·.1))))) t with ⟨q,D,i2,i3⟩ | ⟨D,i2⟩ | D
  ·rw[Cb] at D;obtain⟨p,A,rfl⟩:=D;exact .inl ⟨p,A,i2,i3⟩
  ·rw[i2];rcases KQ (Is n (f::(kp++g.map (·.1)))) s t with ⟨q,A,j2,G⟩ | ⟨A,j2⟩ | A
   ·simp only[Is,Cb] at A;obtain⟨u,_,rfl⟩:=A;exact .inr (.inr G)
   ·by_cases b8:t∈kp
    ·refine .inr (.inl (j2.trans ?_));have b0:=AKf.1 d2 t b8;generalize Ag s t=r0 at b0;cases r0 <;> simp only[UA,AC] at b0 <;> simp only[kP,b0,if_true]
    refine .inr (.inr (j2.trans ?_));by_cases b9:t<n
    ·exfalso;refine A (t,.dead) ?_ rfl;simp only[Is,Cb,Gj,S_];refine⟨t,⟨b9,?_⟩,rfl⟩;simp only[Bl,CX,J6,Aw,AK,Cb,not_or,not_exists,not_and];exact⟨K,b8,fun p J e=>D (p.1,.val p.2) (Cb.2 ⟨p,J,rfl⟩) e⟩
    ·simp only[Ag,Z,AX (hn ▸ vU b9)];rfl
   ·exact .inr (.inr A)
  ·exact .inr (.inr D)
 have c1:C (((A5 (A5 s (Is n (f::(kp++g.map (·.1))))) (g.map fun p=>(p.1,Ab p.2))).set f (.bxh ((cs.map G').set off .undef) [(off,y)])).set y (.own k m es))=C s:=by
  rw[AU,AU,a9]
 generalize ((A5 (A5 s (Is n (f::(kp++g.map (·.1))))) (g.map fun p=>(p.1,Ab p.2))).set f (.bxh ((cs.map G').set off .undef) [(off,y)])).set y (.own k m es)=s1 at ky kd ko c1 |-;have d7:y<a.tmps.size:=by rw[h.size,<- hn];exact b5
 have kv:∀ t,(a.put (some y) B).tmps.getD t A9=if y=t then B else a.tmps.getD t A9:=by
  intro t;show (a.tmps.setIfInBounds y B).getD t A9=_;rw[FP];by_cases e:y=t
  ·rw[Ae ⟨e,d7⟩,Ae e]
  ·rw[Al (fun h=>e h.1),Al e]
 have hN:∀ c,Ax B=some c->Nst vs (C cs) c:=fun c hc=>⟨off,B,a5,q1,hc⟩;have a2:∀ t,t ≠ y->Cm (Ag s1 t)=true->Cm (Ag s t)=true:=by
  intro t E M;by_cases K:t=f
  ·rw[K,I];rfl
  ·rcases ko t E K with ⟨q,_,_,e⟩ | e | e <;> rw[e] at M
   ·cases M
   ·exact Afn M
   ·cases M
 have c2:∀ c,XS s1 (a.put (some y) B).tmps c->XS s a.tmps c\/Ax B=some c:=by
  rintro c ⟨t,t1,L⟩;rw[kv] at L;by_cases E:y=t
  ·rw[Ae E] at L;exact .inr L
  ·rw[Al E] at L;exact .inl ⟨t,a2 t (CW E) t1,L⟩
 refine⟨h.dfr,by show (a.tmps.setIfInBounds y B).size=_;rw[Ku,h.size,c1],h.below,h.low,h.lowY,fun t => ?_,fun t t' c t1 L N O => ?_⟩
 ·rw[kv];by_cases E:t=y
  ·subst E;rw[ky,Ae rfl];refine EG.noMem q2 ?_;have:=AKf.1 b6 cs[off] (AF a5);rw[b7] at this;exact this
  rw[Al (CW E)];by_cases K:t=f
  ·subst K;rw[kd];refine⟨b,vs,T,e1,e2,e3,fun p J => ?_,by rw[AU,Bz];exact e4.2.1,fun i hi => ?_⟩
   ·simp only[AP] at J;subst J;exact c8
   ·have a6:i<C cs:=by simpa using hi
    obtain⟨u,A,j2,G⟩:=e4.2.2.1 i a6;refine⟨u,A,j2,?_⟩;simp only[Ed];by_cases a3:off=i
    ·rw[Ae a3];dsimp only;rw[kv,Ae rfl];subst a3;rw[q1] at A;exact (AY A).symm
    ·rw[Al a3];dsimp only;rw[HM a3,Gk];have hj:Te Y (fun c=>X0 c\/XS s1 (a.put (some y) B).tmps c) w0.mine w u cs[i]:=by
      have c3:=AKf.1 b6 cs[i] (AF a6);cases d8:cs[i] <;> rw[d8] at G c3 <;> first
       | (
        refine⟨EG.noMem G.1 c3,fun c hc H => ?_⟩;rcases H with H | H
        ·exact G.2 c hc (.inl H)
        ·rcases c2 c H with H | H
         ·exact G.2 c hc (.inr H)
         ·exact a3 (e4.2.2.2 off i B u c a5 a6 q1 A H hc))
       | exact⟨G.1,G.2.1,G.2.2.noMem G.1⟩
     have:=hj.frz h.lowY (AKf.1 a1 _ (AF a6));exact .inr ⟨this.2,this.1⟩
  ·rcases ko t E K with ⟨q,D,i2,i3⟩ | D | D
   ·rw[i3];subst i2;exact Rd.mono (e4.1 q D).2 fun c hc => .inl (hc.elim (fun e => .inl (.inl e)) fun e=>(c2 c e).elim (fun e => .inl (.inr e)) fun e => .inr (hN c e))
   ·rw[D];exact Axg (h.reg t)
   ·rw[D];trivial
 ·rw[kv] at N O;by_cases V:y=t <;> by_cases X:y=t'
  ·exact V.symm.trans X
  ·rw[Ae V] at N;rw[Al X] at O;exact absurd (.inr ⟨t',a2 t' (CW X) L,O⟩) (q4 c N)
  ·rw[Al V] at N;rw[Ae X] at O;exact absurd (.inr ⟨t,a2 t (CW V) t1,N⟩) (q4 c O)
  ·rw[Al V] at N;rw[Al X] at O;exact h.inj t t' c (a2 t (CW V) t1) (a2 t' (CW X) L) N O
theorem lH:∀ {ls:List (Nat × Nat)} {i j u:Nat},nP ls=true->(i,u)∈ls->(j,u)∈ls->i=j
 | [],_,_,_,_,h,_=>by cases h
 | p::l,i,j,u,hd,h1,h2=>by
  simp only[nP,U,Bl,FB,AM] at hd;rcases Aw.1 h1 with a | h1 <;> rcases Aw.1 h2 with b | h2
  ·rw[<- b] at a;exact (Prod.mk.inj a).1
  ·exact absurd (by rw[<- a]) (hd.1 _ h2)
  ·exact absurd (by rw[<- b]) (hd.1 _ h1)
  ·exact lH hd.2 h1 h2
theorem wT{Y X:Nat->Prop}{v:Value}{c:AV}(h:Rd Y X w v c)(hc:noMem c=true):Ax v=none:=by
 cases h <;> first | rfl | cases hc
theorem Rel.frh(h:Rel Y X0 roots w0 s a w){t:Nat}{cs xs:List AV}{ls:List (Nat × Nat)}(hr:Ag s t = .bxh cs ls)(m:XW s ls cs=some (.frh xs)){F:TypeId}(ho:G7 P F (C cs) false=true) :
  ∃ b v,a.tmps.getD t A9 = .pointer (some ⟨b,0,none⟩)/\(loadVar F ⟨b,0,none⟩).run P w = .ok v w/\Eh Y X0 w0.mine w v (.frh xs):=by
 have h0:=h.reg t;rw[hr] at h0;obtain⟨b,vs,T,J,e2,K,o⟩:=h0;unfold XW at m;split at m
 case isFalse=>cases m
 rename_i hc;simp only[U] at hc;obtain⟨r,L⟩:=hc;cases m;obtain⟨M,N⟩:=E6 ho;have hf:∀ j,j<C cs->w.cell? ⟨b,0+j,none⟩=some ((vs[j]?).getD A9):=fun j x=>by
  obtain⟨v,l,_⟩:=o.2.2 j x;rw[AH,DE K,l];rfl
 have hl:=run_loadCells (P:=P) w ⟨b,0,none⟩ (C cs) (fun j=>(vs[j]?).getD A9) (fun j x=>by rw[Du];exact hf j x);refine⟨b,.agg ((AZ (C cs)).map fun j=>(vs[j]?).getD A9).toArray,J,by simp[loadVar,M,N,hl],_,rfl,by simp,r,fun p O=>(by cases O),by simp,fun i hi => ?_,fun i j v u c Q R G H S V => ?_⟩
 ·have q:i<C cs:=by simpa using hi
  obtain⟨v,l,W,e⟩:=o.2.2 i q;refine⟨v,by simp[q,l],W,?_⟩;have d:=AKf.1 r (RG s ls cs i) (Cb.2 ⟨i,S_.2 q,rfl⟩);rw[Gk,AKc];unfold RG at d |-;cases g:Ed ls i with
  | some u =>
   rw[g] at d e ;dsimp only at d e |-;split at d
   next k n es y=>have hu:=h.reg u;rw[y] at hu;subst e;exact⟨EG.mono hu fun c hc => .inl (.inl hc),fun c hc hX=>h.low c hX (EG.block hu hc).1⟩
   ·cases d
  | none =>
   rw[g] at d e;dsimp only at d e |-;have z:cs.getD i .undef=cs[i]:=by rw[Z,Af q];rfl
   rw[z] at d |-;rcases e with e | ⟨e,X⟩
   ·rw[e] at d;cases d
   ·have A:Rd Y X0 w v cs[i]:=X.mono fun c hc => .inl (.inl hc);cases B:cs[i] <;> rw[B] at d e A <;> first
     | exact⟨rfl,wT A rfl,A⟩
     | (cases d;done)
     | (cases e;done)
 ·have D:i<C cs:=by simpa using Q
  have E:j<C cs:=by simpa using R
  obtain⟨v',l,_,e⟩:=o.2.2 i D;obtain⟨u',k1,_,k3⟩:=o.2.2 j E;have hv:v'=v:=by simp[D,l] at G;exact G
  have hu:u'=u:=by simp[E,k1] at H;exact H
  subst hv hu;have I:∀ (i:Nat) (hi:i<C cs) (v:Value) (c:Nat),(match Ed ls i with | some u=>v=a.tmps.getD u A9 | none=>cs[i] = .undef\/(EK cs[i]=true/\Rd Y (fun b=>X0 b\/XS s a.tmps b) w v cs[i]))->Ax v=some c->∃ u,(i,u)∈ls/\Cm (Ag s u)=true/\Ax (a.tmps.getD u A9)=some c:=by
   intro i hi v c f hb;have d:=AKf.1 r (RG s ls cs i) (Cb.2 ⟨i,S_.2 hi,rfl⟩);unfold RG at d;cases g:Ed ls i with
   | some u =>
    rw[g] at d f;dsimp only at d f;split at d
    next k n es y=>subst f;exact⟨u,Ic g,by rw[y];rfl,hb⟩
    ·cases d
   | none =>
    rw[g] at d f;dsimp only at d f;have z:cs.getD i .undef=cs[i]:=by rw[Z,Af hi];rfl
    rw[z] at d;rcases f with f | ⟨_,f⟩
    ·rw[f] at d;cases d
    ·have hn:noMem cs[i]=true:=by
      cases B:cs[i] <;> rw[B] at d f <;> first
       | rfl
       | (cases d;done)
       | (exfalso;cases f;done)
     rw[wT f hn] at hb;cases hb
  obtain⟨u1,l1,l2,l3⟩:=I i D _ c e S;obtain⟨u2,m1,m2,m3⟩:=I j E _ c k3 V;have:=h.inj u1 u2 c l2 m2 l3 m3;subst this;exact lH L l1 m1
end
section
variable {P:Program} {Y X0:Nat->Prop} {roots:List (Nat × Nat)} {w0:Base} {w:World} {s:H} {a:Act} {Q:Exit->Act->World->Prop}
set_option maxHeartbeats 4000000 in
def Axi:K->Bool
 | .apn _ _ _ _=>true
 | _=>false
theorem Axj[Looks P]{o:Oper}{k:K}{oks:List Nat}{F:Bh}{r:Reg}{l:List (Nat × Reg)}{K':Act->World->Prop}(h:Rel Y X0 roots w0 s a w)(hF:GA P F)(k5:Axi k=false)(A:Cq P o.op k=true)(I:∀ t∈oks,BF (Ag s t)=false)(D:B2 roots oks o.dst k=true)
  (q:A8 F s k=some (r,l)) (G:∀ a' w',Rel Y X0 roots w0 (BD (A5 s l) o.dst r) a' w'->K' a' w'):o.wp P a w K' Q:=by
 cases k
 case bad=>cases q
 case npt =>
  cases q;simp only[B2,U] at D;exact Awi h A (Au I D.1) G
 case mvp x d =>
  simp only[B2,U] at D;exact Awj h A (Au I D.1) (C7 D.2) q G
 case mvf x y us zs=>exact Awy h A I D q G
 case ldh x d fz us=>exact Awm h A I D q G
 case sth x d v =>
  simp only[B2,U] at D;exact Awn h A (by simpa using D.1) (by simpa using D.2) q G
 case sts x d v=>exact Awo h A (by simpa [B2] using D) q G
 case aph x y k B d us=>exact Awp h A I D q G
 case lda x n us=>exact Awq h A I D q G
 case ldz x n us zs=>exact Awr h A I D q G
 case blh z qs=>exact Aws h A I D q G
 case sta x v n us =>
  simp only[B2,U,AKf] at D;exact Awt h A (by simpa using D.1) (fun u hu=>by simpa using D.2 u hu) q G
 case bwh f xs us=>exact Awu h hF A (Au I D) q G
 case cab f x d xs=>exact Awv h hF A I D q G
 case mkw z n ls=>exact Aww h A I D q G
 case clw f xs d ls=>exact Awx h hF A I D q G
 case sbn op x y=>exact Awk h A (Au I D) q G
 case sln x=>exact Awl h A (Au I D) q G
 case apn=>cases k5
 case mkm=>cases q;exact Awz h A I D G
 case mlk sk x d k=>exact Axa h A (Au I D) q G
 case mup sk x d k=>exact Axb h A (by simpa [B2] using D) q G
 case blm u k=>exact Axc h A I D q G
 case bom x us=>exact Axd h A I D q G
 case lok f x d u xs=>exact Axe h A I D q G
 case cpf f xs us=>exact Axf h hF A I D q G
 case ldf x d y c hi n us kp=>exact Axh h A I D q G
 case mov y =>
  simp only[A8,S] at q;obtain⟨x,R,H⟩:=q;cases H;simp only[Cq] at A;split at A
  ·rename_i z J;exact AI (v:=a.eval z) (by simp[execOp,J]) (G _ _ (h.put (Au I D) (BG h A R)))
  ·rename_i z J;exact AI (v:=a.eval z) (by simp[execOp,J]) (G _ _ (h.put (Au I D) (BG h A R)))
  ·cases A
 case pick c x y =>
  simp only[Cq] at A;split at A
  ·rename_i c' L y' J;simp only[U] at A;obtain⟨⟨h1,h2⟩,V⟩:=A;simp only[A8] at q;split at q
   ·rename_i hc;simp only[S] at q;obtain⟨v,hv,H⟩:=q;cases H;have e7:=BG h h1 hc;generalize e8:a.eval c'=cv at e7;cases e7;exact AI (v:=a.eval L) (by simp[execOp,J,e8,asBool]) (G _ _ (h.put (Au I D) (BG h h2 hv)))
   ·rename_i hc;simp only[S] at q;obtain⟨v,hv,H⟩:=q;cases H;have e7:=BG h h1 hc;generalize e8:a.eval c'=cv at e7;cases e7;exact AI (v:=a.eval y') (by simp[execOp,J,e8,asBool]) (G _ _ (h.put (Au I D) (BG h V hv)))
   ·cases q
  ·cases A
 case bin op x y =>
  simp only[Cq] at A;split at A
  ·rename_i h6 t L y' t' J;simp only[U,AM] at A;obtain⟨⟨rfl,h1⟩,h2⟩:=A;simp only[A8] at q;split at q
   ·rename_i xa ya R hy;simp only[S] at q;obtain⟨z,hz,H⟩:=q;cases H;have a3:=BG h h1 R;have b8:=BG h h2 hy;generalize a1:a.eval L=xv at a3;generalize b0:a.eval y'=yv at b8;cases xa <;> cases ya <;> simp only[KN] at hz <;> try cases hz
    cases a3;cases b8;obtain⟨v,a4,hr⟩:=wL (P:=P) (w:=w) (t:=t) (Y:=Y) (X:=fun b=>X0 b\/XS s a.tmps b) (by simpa only [KN] using hz);exact AI (v:=v) (by simp[execOp,J,a1,b0,MS,a4]) (G _ _ (h.put (Au I D) hr))
   ·cases q
  ·cases A
 case eqb neg x y =>
  simp only[Cq] at A;split at A
  ·rename_i h6 t L y' t' J;simp only[U,AM] at A;obtain⟨⟨⟨rfl,h0⟩,h1⟩,h2⟩:=A;simp only[A8] at q;split at q
   ·rename_i xa ya R hy;cases q;have a3:=BG h h1 R;have b8:=BG h h2 hy;generalize a1:a.eval L=xv at a3;generalize b0:a.eval y'=yv at b8;cases a3;cases b8;have ht:P.underlying t=some .bool:=by
     unfold O' at h0;split at h0
     ·assumption
     ·cases h0
    have heq:(Alb t (.bool xa) (.bool ya)).run P w = .ok (xa==ya) w:=run_equalIn_bool' w 9999 t xa ya ht;refine AI (v := .bool (if neg then !(xa==ya) else xa==ya)) ?_ (G _ _ (h.put (Au I D) (.bool _)));cases neg
    ·simp only[AC,if_false,execOp,J,a1,b0,Aj,IN,W,binOp,heq,An]
    ·simp only[if_true,execOp,J,a1,b0,Aj,IN,W,binOp,heq,An]
   ·cases q
  ·cases A
 case eqv neg n x y =>
  simp only[Cq] at A;split at A
  ·rename_i h6 t L y' t' J;simp only[U,AM] at A;obtain⟨⟨⟨rfl,h0⟩,h1⟩,h2⟩:=A;simp only[A8] at q;split at q
   ·rename_i xa ya R hy;split at q
    ·rename_i hn;simp only[S] at q;obtain⟨z,hz,H⟩:=q;cases H;obtain⟨xs,ys,E,O,heq,hg⟩:=Ali h0 (BG h h1 R) (BG h h2 hy) hn hz L y';refine AI (v := .bool (if neg then !z else z)) ?_ (G _ _ (h.put (Au I D) (.bool _)));rw[E,O] at heq hg;cases neg
     ·simp only[AC,if_false,execOp,J,E,O,Aj,hg,W,binOp,heq,An]
     ·simp only[if_true,execOp,J,E,O,Aj,hg,W,binOp,heq,An]
    ·cases q
   ·cases q
  ·cases A
 case un op x =>
  simp only[Cq] at A;split at A
  ·rename_i h6 t L J;simp only[U,AM] at A;obtain⟨rfl,h1⟩:=A;simp only[A8] at q;split at q
   ·rename_i xa R;simp only[S] at q;obtain⟨z,hz,H⟩:=q;cases H;obtain⟨v,a4,hr⟩:=Alj (P:=P) (BG h h1 R) hz;exact AI (v:=v) (by simp[execOp,J,a4]) (G _ _ (h.put (Au I D) hr))
   ·cases q
  ·cases A
 case cv k x =>
  simp only[Cq] at A;split at A
  ·rename_i n4 dst L J;simp only[U] at A;obtain⟨⟨h0,h1⟩,h2⟩:=A;simp only[A8] at q;split at q
   ·rename_i k' n R;cases q;have a3:=BG h h2 R;generalize a1:a.eval L=xv at a3;cases a3;split at h1
    ·rename_i j6 hd;simp only[AM] at h1;subst h1;unfold Th at h0;split at h0
     ·rename_i ks hs;exact AI (v := .int j6 (j6.wrap n)) (by simp[execOp,J,a1,convert,run_underlying hs,run_underlying hd,Conv.intToInt]) (G _ _ (h.put (Au I D) (.int _ _)))
     ·cases h0
    ·cases h1
   ·cases q
  ·cases A
 case new z ks =>
  simp only[Cq] at A;split at A
  ·rename_i t J;cases q;obtain⟨v,hz,hc⟩:=Ky A;obtain⟨h1,h2⟩:=Wj D;simp only[Cn];have a4:(execOp a.eval o).run P w = .ok (.value (.pointer (some ⟨w.heap.size,0,none⟩))) (w.alloc (.cells v.cells t)):=by
    simp[execOp,J,Instr.alloc,hz,newVar,newRow]
   rw[a4];exact G _ _ (Pa h h2 h1 (hc _ _ _))
  ·cases A
 case box x ks =>
  simp only[Cq] at A;split at A
  ·rename_i t L J;obtain⟨h1,h2⟩:=Wj D;have a4:(execOp a.eval o).run P w = .ok (.value (.pointer (some ⟨w.heap.size,0,none⟩))) (w.alloc (.cells (a.eval L).cells t)):=by
    simp[execOp,J,AFq,newVar,newRow]
   simp only[Cn,a4];simp only[A8] at q;split at q
   ·rename_i cs R;cases q;have hc:=(ND (n:=C cs) (ys:=cs) (BG h A R) (by simp[H2])).2;exact G _ _ (Pa h h2 h1 hc)
   ·rename_i y hy R;split at q
    ·rename_i hd;cases q;have hc:=(ND (n:=1) (ys:=[y]) (BG h A R) (by cases y <;> first | rfl | cases hd)).2
     exact G _ _ (Pa h h2 h1 hc)
    ·cases q
   ·cases q
  ·cases A
 case bld z ps =>
  simp only[Cq] at A;split at A
  ·rename_i t c6 J;simp only[A8,S] at q;obtain⟨cs,d0,H⟩:=q;cases H;simp only[nW,U] at A;obtain⟨hz,A⟩:=A;obtain⟨v,d8,hc⟩:=Ky hz;split at A
   ·rename_i fs e9;simp only[U] at A;obtain⟨f8,hp⟩:=A;have k6:(fs.mapM fun f=>do pure (f.offset,<- sizeOf f.type):Sem (Array (Nat × Nat))).run P w = .ok (fs.map fun f=>(f.offset,P.cellsOf f.type)) w:=by
     have k7:∀ (l:List Field),(∀ f∈l,(P.info? f.type).isSome=true)->(l.mapM fun f=>do pure (f.offset,<- sizeOf f.type):Sem (List (Nat × Nat))).run P w = .ok (l.map fun f=>(f.offset,P.cellsOf f.type)) w:=by
      intro l;induction l with
      | nil=>intro _;rfl
      | cons f l ih =>
       intro hl;obtain⟨i,hi⟩:=A7.1 (hl f (AKh ..));have b4:(sizeOf f.type).run P w = .ok (P.cellsOf f.type) w:=by simp[sizeOf,typeInfo,program,Cl,hi,IH]
       simp only[Gz,Aj,b4,W,An,ih (fun g hg=>hl g (AJ _ hg)),Bg]
     have:=k7 fs.toList (fun f hf=>by simp only[Aew] at f8;exact f8 f (by simpa using hf));rw[L5];simp only[Apv,this,W];congr 1;apply ACb;simp
    obtain⟨a7,E,O⟩:=Pb h (place:=fun i=>(fs.map fun f=>(f.offset,P.cellsOf f.type))[i]?) (pl:=If P fs) (fun i off n hi=>by
     unfold If at hi;split at hi
     ·rename_i f hf;simp only[U,AM] at hi;obtain⟨rfl,b4⟩:=hi;unfold G9 at b4;split at b4
      ·rename_i ii b5;simp only[AM] at b4;simp[hf,IH,b5,b4]
      ·cases b4
     ·cases hi) hp (hc _ _ w) d0
    have c0:DH (fun i=>(fs.map fun f=>(f.offset,P.cellsOf f.type))[i]?) v.cells (c6.map fun p=>(p.1,a.eval p.2)).toList=some a7:=by rw[CO];exact E
    refine AI (v := .agg a7) ?_ (G _ _ (h.put (Au I D) (.agg a7 cs O.1 O.2.1 O.2.2)));simp only[execOp,J,J3,Aj,d8,W,run_underlying e9,k6,c0,An]
   ·rename_i ln e e9;simp only[U] at A;obtain⟨f8,hp⟩:=A;obtain⟨ii,b5⟩:=A7.1 f8;have b4:(sizeOf e).run P w = .ok (P.cellsOf e) w:=by simp[sizeOf,typeInfo,program,Cl,b5,IH]
    obtain⟨a7,E,O⟩:=Pb h (place:=fun i=>some (i*P.cellsOf e,P.cellsOf e)) (fun i off n hi=>by
     simp only[U,AM] at hi;rw[hi.1,hi.2]) hp (hc _ _ w) d0
    have c0:DH (fun i=>some (i*P.cellsOf e,P.cellsOf e)) v.cells (c6.map fun p=>(p.1,a.eval p.2)).toList=some a7:=by rw[CO];exact E
    refine AI (v := .agg a7) ?_ (G _ _ (h.put (Au I D) (.agg a7 cs O.1 O.2.1 O.2.2)));simp only[execOp,J,J3,Aj,d8,W,run_underlying e9,b4,c0,An]
   ·cases A
  ·cases A
 case bls n z ps =>
  simp only[Cq] at A;split at A
  ·rename_i t len c6 J;simp only[A8,S] at q;obtain⟨cs,d0,H⟩:=q;cases H;simp only[nX,U,AM] at A;obtain⟨rfl,A⟩:=A;split at A
   ·rename_i e hu;split at A
    ·rename_i ii b5;simp only[U,DI] at A;obtain⟨⟨⟨h1,h2⟩,V⟩,hp⟩:=A;split at V
     ·rename_i zv d8;simp only[U,DI,AM] at V;obtain⟨⟨V,h4⟩,h5⟩:=V;have h7:0<C zv.cells.toList:=by simp only[B3];omega
      have h8:C zv.cells.toList=ii.size:=by simp only[B3];exact V
      obtain⟨hd,hg⟩:=NK (Y:=Y) (X:=fun b=>X0 b\/XS s a.tmps b) (w:=w) h7 len z h5 (by rw[h4,h8]);have f0:(sizeOf e).run P w = .ok ii.size w:=by simp[sizeOf,typeInfo,program,Cl,b5]
      have h9:(zeroValue e).run P w = .ok zv w:=by simp[zeroValue,typeInfo,program,Cl,b5,d8]
      have i0:Dl Y (fun b=>X0 b\/XS s a.tmps b) w ((FK (len*ii.size)).map fun j=>zv.cells[j % zv.cells.size]!) z:=by
       refine⟨hd,by simp[h4],fun i M g2 => ?_⟩;obtain⟨u,i1,i2⟩:=hg i g2;have E:zv.cells[i % zv.cells.size]! = u:=by
        have:zv.cells[i % zv.cells.size]? = some u:=by simpa using i1
        simp[getElem!_def,this]
       simp only[O3,V',E];exact i2
      obtain⟨a7,E,O⟩:=Pb h (place:=fun i=>some (i*ii.size,ii.size)) (fun i off n hi=>by
       simp only[U,AM] at hi;rw[hi.1,hi.2]) hp i0 d0
      have c0:DH (fun i=>some (i*ii.size,ii.size)) ((FK (len*ii.size)).map fun j=>zv.cells[j % zv.cells.size]!) (c6.map fun p=>(p.1,a.eval p.2)).toList=some a7:=by rw[CO];exact E
      have e3:len*ii.size=0->(FK (len*ii.size)).map (fun j=>(#[]:Array Value)[j % (#[]:Array Value).size]!)=(FK (len*ii.size)).map fun j=>zv.cells[j % zv.cells.size]! := fun hh=>by rw[hh];simp
      have f1:¬ len*ii.size>2^24:=by omega
      simp only[B2,U] at D;obtain⟨d,N⟩:=A7.1 D.2;have a4:(execOp a.eval o).run P w = .ok (.value (.slice (some ⟨w.heap.size,0,none⟩) len len)) (w.alloc (.cells a7 e)):=by
       by_cases d2:len*ii.size=0
       ·simp only[execOp,J,HX,Aj,run_underlying hu,W,f0,f1,if_false,Ae d2,An,e3 d2,c0,newRow,run_newObj_alloc]
       ·simp only[execOp,J,HX,Aj,run_underlying hu,W,f0,f1,if_false,d2,An,h9,c0,newRow,run_newObj_alloc]
      simp only[Cn,a4];refine G _ _ ?_;rw[N];refine BB (ks:=[]) h ((DZ _ _).alloc (Ay _) _) (fun u hu => .inr (Au I D.1 d N u hu)) (fun H=>(by cases H)) (fun X M g2 => ?_);have f9:=(O.mono (X':=X) (fun b hb=>(M b hb).imp id N8)).world (w':=w.alloc (.cells a7 e)) (fun b _ hb=>FM _ _ _ hb);refine .sl w.heap.size 0 len len cs (fun i=>a7.getD i A9) f9.1 (Ay _) (fun _ R => ?_) (fun _ hy=>Kt _ (h.lowYw _ hy)) (fun i hi => ?_) (fun i hi => ?_)
      ·exact Kt _ (h.lowX _ (g2 rfl _ R))
      ·have g0:i<a7.size:=by rw[f9.2.1];exact hi
       have hb:(w.alloc (.cells a7 e)).heap[w.heap.size]? = some (.cells a7 e):=by show (w.heap.push _)[w.heap.size]? = _;simp
       rw[DE hb];simp[g0]
      ·have g0:i<a7.size:=by rw[f9.2.1];exact hi
       have:=f9.2.2 i g0 hi;simpa [g0] using this
     ·cases V
    ·cases A
   ·cases A
  ·cases A
 case adr x d off =>
  simp only[Cq] at A;split at A
  ·rename_i t L fi J;simp only[U] at A;obtain⟨h1,A⟩:=A;split at A
   ·rename_i fs e9;split at A
    ·rename_i f hf;simp only[U,AM,Bl] at A;obtain⟨⟨rfl,h2⟩,V⟩:=A;simp only[B2,U] at D;obtain⟨ii,b5⟩:=A7.1 V;have b4:∀ w,(sizeOf f.type).run P w = .ok ii.size w:=fun w=>by simp[sizeOf,typeInfo,program,Cl,b5]
     have d3:¬ ii.size=0:=by
      intro e0;simp[G9,b5,e0] at h2
     have a5:a.eval L=a.tmps.getD x A9:=by
      cases L <;> simp only[Bm] at h1 <;> try cases h1
      simp only[AM] at h1;subst h1;rfl
     have a4:∀ b o0,a.eval L = .pointer (some ⟨b,o0,none⟩)->(execOp a.eval o).run P w = .ok (.value (.pointer (some ⟨b,o0+f.offset,none⟩))) w:=by
      intro b o0 H;simp only[execOp,J,Instr.fieldAt,Aj,run_underlying e9,W,hf,H,BQ,An,fieldPlace,b4,d3,if_false,Du]
     have h0:=h.reg x;simp only[A8] at q;cases hr:Ag s x with
     | box cs =>
      rw[hr] at h0 q;dsimp only at q;split at q
      ·rename_i c5;subst c5;cases q;obtain⟨b,E,_,_⟩:=h0;have:=a4 b 0 (by rw[a5,E]);refine AI this (G _ _ ?_);exact My (p:=⟨b,0,none⟩) h (Au I D.1) (C7 D.2) (by rw[E];rfl) rfl
      ·cases q
     | ptr d' o0 =>
      rw[hr] at h0 q;dsimp only at q;split at q
      ·rename_i c5;subst c5;cases q;obtain⟨_,p,E,O,e3⟩:=h0;have:=a4 p.block (p.off+o0) (by rw[a5,e3]);refine AI this (G _ _ ?_);have hp:=My (off:=o0+f.offset) h (Au I D.1) (C7 D.2) E O;rw[<- DC] at hp;exact hp
      ·cases q
     | mem cs =>
      rw[hr] at h0 q;cases q;obtain⟨b,o0,E,O,e3⟩:=h0;have:=a4 b o0 (by rw[a5,E]);refine AI this (G _ _ ?_);refine LC h (Au I D.1) (fun d3=>O (fun hn=>d3 (by rw[hn];simp))) (e3.drop _)
     | val x=>rw[hr] at q;cases q
     | own _ _ _=>rw[hr] at q;cases q
     | agn _ _ _ _=>rw[hr] at q;cases q
     | bxl _=>rw[hr] at q;cases q
     | dup d=>rw[hr] at q;cases q
     | sub _ _ _ _=>rw[hr] at q;cases q
     | bxh cs ls =>
      rw[hr] at h0 q;dsimp only at q;split at q
      ·rename_i c5;subst c5;cases q;obtain⟨b,vs,T,E,_⟩:=h0;have:=a4 b 0 (by rw[a5,E]);refine AI this (G _ _ ?_);exact My (p:=⟨b,0,none⟩) h (Au I D.1) (C7 D.2) (by rw[E];rfl) rfl
      ·cases q
     | agh _ _=>rw[hr] at q;cases q
     | mp _=>rw[hr] at q;cases q
     | agf _ _=>rw[hr] at q;cases q
     | bxf cs us =>
      rw[hr] at h0 q;dsimp only at q;split at q
      ·rename_i c5;subst c5;cases q;obtain⟨b,vs,T,E,_⟩:=h0;have:=a4 b 0 (by rw[a5,E]);refine AI this (G _ _ ?_);exact My (p:=⟨b,0,none⟩) h (Au I D.1) (C7 D.2) (by rw[E];rfl) rfl
      ·cases q
     | bxg cs =>
      rw[hr] at h0 q;dsimp only at q;split at q
      ·rename_i c5;subst c5;cases q;obtain⟨b,E,_,_⟩:=h0;have:=a4 b 0 (by rw[a5,E]);refine AI this (G _ _ ?_);exact My (p:=⟨b,0,none⟩) h (Au I D.1) (C7 D.2) (by rw[E];rfl) rfl
      ·cases q
     | dead=>rw[hr] at q;cases q
    ·cases A
   ·cases A
  ·cases A
 case ld x d n one =>
  simp only[Cq] at A;split at A
  ·rename_i t L J;simp only[U] at A;obtain⟨h1,h2⟩:=A;have a5:a.eval L=a.tmps.getD x A9:=by
    cases L <;> simp only[Bm] at h1 <;> try cases h1
    simp only[AM] at h1;subst h1;rfl
   have h0:=h.reg x;have a9:∀ (b c8 off:Nat) (cs:List AV) (y:AV),a.eval L = .pointer (some ⟨b,c8+off,none⟩)->Gq Y (fun b=>X0 b\/XS s a.tmps b) w b c8 cs->Ad cs off n one=some y ->
     (∀ a' w',Rel Y X0 roots w0 (BD s o.dst (.val y)) a' w'->K' a' w')->o.wp P a w K' Q:=by
    intro b c8 off cs y H hm ht b9;obtain⟨v,a4,hr⟩:=MM (P:=P) h2 hm ht;refine AI (v:=v) ?_ (b9 _ _ (h.put (Au I D) hr));simp only[execOp,J,Hg,H,BQ,Aj,An,W,a4]
   simp only[A8] at q;cases hr:Ag s x with
   | box cs =>
    rw[hr] at h0 q;dsimp only at q;split at q
    ·simp only[S] at q;obtain⟨y,hy,H⟩:=q;cases H;obtain⟨b,E,_,e3⟩:=h0;exact a9 b 0 0 cs y (by rw[a5,E]) e3.mem hy G
    ·cases q
   | ptr d' off =>
    rw[hr] at h0 q;dsimp only at q;split at q
    ·rename_i hd;subst hd;have V:=h.reg d';cases a2:Ag s d' with
     | box cs =>
      rw[a2] at V q;simp only[S] at q;obtain⟨y,hy,H⟩:=q;cases H;obtain⟨b,E,_,e3⟩:=V;obtain⟨_,p,M,g2,g3⟩:=h0;rw[E] at M;cases M;exact a9 b 0 off cs y (by rw[a5,g3]) e3.mem hy G
     | val x=>rw[a2] at q;cases q
     | ptr _ _=>rw[a2] at q;cases q
     | mem _=>rw[a2] at q;cases q
     | own k n cs =>
      rw[a2] at V q;simp only[S] at q;obtain⟨y,hy,H⟩:=q;cases H;obtain⟨_,p,M,g2,g3⟩:=h0;rcases V with ⟨E,_⟩ | ⟨b,cap,E,_,_,_,e3,_⟩
      ·rw[E] at M;cases M
      ·rw[E] at M;cases M;exact a9 b 0 off cs y (by rw[a5,g3]) e3.mem hy G
     | agn _ _ _ _=>rw[a2] at q;cases q
     | bxl _=>rw[a2] at q;cases q
     | dup d=>rw[a2] at q;cases q
     | sub _ _ _ _=>rw[a2] at q;cases q
     | bxh _ _=>rw[a2] at q;cases q
     | agh _ _=>rw[a2] at q;cases q
     | mp _=>rw[a2] at q;cases q
     | agf _ _=>rw[a2] at q;cases q
     | bxf _ _=>rw[a2] at q;cases q
     | bxg cs =>
      rw[a2] at V q;simp only[S] at q;obtain⟨y,hy,H⟩:=q;cases H;obtain⟨b,E,_,e3⟩:=V;obtain⟨_,p,M,g2,g3⟩:=h0;rw[E] at M;cases M;exact a9 b 0 off cs y (by rw[a5,g3]) e3.mem hy G
     | dead=>rw[a2] at q;cases q
    ·cases q
   | mem cs =>
    rw[hr] at h0 q;simp only[S] at q;obtain⟨y,hy,H⟩:=q;cases H;obtain⟨b,off,E,_,e3⟩:=h0;exact a9 b off 0 cs y (by simp[a5,E]) e3 hy G
   | val x=>rw[hr] at q;cases q
   | own _ _ _=>rw[hr] at q;cases q
   | agn _ _ _ _=>rw[hr] at q;cases q
   | bxl _=>rw[hr] at q;cases q
   | dup d=>rw[hr] at q;cases q
   | sub _ _ _ _=>rw[hr] at q;cases q
   | bxh _ _=>rw[hr] at q;cases q
   | agh _ _=>rw[hr] at q;cases q
   | mp _=>rw[hr] at q;cases q
   | agf _ _=>rw[hr] at q;cases q
   | bxf _ _=>rw[hr] at q;cases q
   | bxg _=>rw[hr] at q;cases q
   | dead=>rw[hr] at q;cases q
  ·cases A
 case st x d n v =>
  simp only[Cq] at A;split at A
  ·rename_i t L v' J;simp only[U] at A;obtain⟨⟨h1,h2⟩,V⟩:=A;have a5:a.eval L=a.tmps.getD x A9:=by
    cases L <;> simp only[Bm] at h1 <;> try cases h1
    simp only[AM] at h1;subst h1;rfl
   have N:o.dst=none:=by simpa [B2] using D
   have h0:=h.reg x;simp only[A8] at q;split at q
   ·cases q
   ·rename_i va k8;split at q
    ·cases q
    ·rename_i ys k9;obtain⟨hn,hc⟩:=ND (BG h V k8) k9;have a9:∀ (b off:Nat) (cs a8:List AV),Ag s d = .box cs->a.tmps.getD d A9 = .pointer (some ⟨b,0,none⟩)->a.eval L = .pointer (some ⟨b,off,none⟩)->Cg cs off ys=some a8 ->
       (∀ a' w',Rel Y X0 roots w0 (s.set d (.box a8)) a' w'->K' a' w')->o.wp P a w K' Q:=by
      intro b off cs a8 c7 b6 H hl b9;have h4:=h.reg d;rw[c7] at h4;obtain⟨b',E,hB,e3⟩:=h4;rw[b6] at E;cases E;have hX:(fun b=>X0 b\/XS s a.tmps b) b := .inr ⟨d,by rw[c7];rfl,by rw[b6];rfl⟩;obtain⟨w',a4,M,g2,g3,g4,g5,g6,g7⟩:=UB (P:=P) (FV h2) e3 hX hc hn hl;have c9:(execOp a.eval o).run P w = .ok .skip w':=by
       simp only[execOp,J,G0,H,BQ,Aj,An,W,a4]
      simp only[Cn,c9,BN];rw[N];refine b9 _ _ (Rel.store h c7 rfl rfl (by rw[b6];rfl) hB M g2 g3 g4 g5 (fun X hX => ?_));exact⟨b,b6,hB,g6.mono fun c hc => .inl ((hX c).1 hc)⟩
     have l0:∀ (b off:Nat) (cs a8:List AV),Ag s d = .bxg cs->a.tmps.getD d A9 = .pointer (some ⟨b,0,none⟩)->a.eval L = .pointer (some ⟨b,off,none⟩)->Cg cs off ys=some a8 ->
       (∀ a' w',Rel Y X0 roots w0 (s.set d (.bxg a8)) a' w'->K' a' w')->o.wp P a w K' Q:=by
      intro b off cs a8 c7 b6 H hl b9;have h4:=h.reg d;rw[c7] at h4;obtain⟨b',E,hB,e3⟩:=h4;rw[b6] at E;cases E;have hX:(fun b=>X0 b\/XS s a.tmps b) b := .inr ⟨d,by rw[c7];rfl,by rw[b6];rfl⟩;obtain⟨w',a4,M,g2,g3,g4,g5,g6,g7⟩:=UB (P:=P) (FV h2) e3 hX hc hn hl;have c9:(execOp a.eval o).run P w = .ok .skip w':=by
       simp only[execOp,J,G0,H,BQ,Aj,An,W,a4]
      simp only[Cn,c9,BN];rw[N];refine b9 _ _ (Rel.store h c7 rfl rfl (by rw[b6];rfl) hB.1 M g2 g3 g4 g5 (fun X hX => ?_));exact⟨b,b6,hB,g6.mono fun c hc => .inl ((hX c).1 hc)⟩
     have l1:∀ (b off k m:Nat) (cs a8:List AV),Ag s d = .own k m cs->Ax (a.tmps.getD d A9)=some b->a.eval L = .pointer (some ⟨b,off,none⟩)->Cg cs off ys=some a8 ->
       (∀ a' w',Rel Y X0 roots w0 (s.set d (.own k m a8)) a' w'->K' a' w')->o.wp P a w K' Q:=by
      intro b off k m cs a8 c7 b6 H hl b9;obtain⟨b',cap,E,O,e3,e4,e5,e6,f2⟩:=(h.ownLow c7).resolve_left (fun hh=>by rw[hh.1] at b6;cases b6);have l2:b'=b:=by rw[E] at b6;simpa [Ax,C6] using b6
      subst l2;obtain⟨w',a4,M,g2,g3,g4,g5,g6,g7⟩:=UB (P:=P) (FV h2) e5 (.inr f2) hc hn hl;have c9:(execOp a.eval o).run P w = .ok .skip w':=by
       simp only[execOp,J,G0,H,BQ,Aj,An,W,a4]
      simp only[Cn,c9,BN];rw[N];refine b9 _ _ (Rel.store h c7 rfl rfl b6 e4 M g2 g3 g4 g5 (fun X hX => ?_));refine .inr ⟨b',cap,E,O,by rw[(MN hl).2.1];exact e3,e4,g6.mono fun c hc => .inl ((hX c).1 hc),g7 _ e6⟩
     rw[N] at G;cases hr:Ag s x with
     | box cs =>
      rw[hr] at h0 q;dsimp only at q;split at q
      ·rename_i c5;subst c5;simp only[S] at q;obtain⟨a8,hl,H⟩:=q;cases H;obtain⟨b,E,_,_⟩:=h0;exact a9 b 0 cs a8 hr E (by rw[a5,E]) hl G
      ·cases q
     | ptr d' off =>
      rw[hr] at h0 q;dsimp only at q;split at q
      ·rename_i hd;subst hd;have h5:=h.reg d';cases a2:Ag s d' with
       | box cs =>
        rw[a2] at h5 q;simp only[S] at q;obtain⟨a8,hl,H⟩:=q;cases H;obtain⟨b,E,_,e3⟩:=h5;obtain⟨_,p,M,g2,g3⟩:=h0;rw[E] at M;cases M;exact a9 b off cs a8 a2 E (by rw[a5,g3];simp) hl G
       | val x=>rw[a2] at q;cases q
       | ptr _ _=>rw[a2] at q;cases q
       | mem _=>rw[a2] at q;cases q
       | own k m cs =>
        rw[a2] at h5 q;simp only[S] at q;obtain⟨a8,hl,H⟩:=q;cases H;obtain⟨_,p,M,g2,g3⟩:=h0;rcases h5 with ⟨E,_⟩ | ⟨b,cap,E,_,_,_,e3,_⟩
        ·rw[E] at M;cases M
        ·rw[E] at M;cases M;exact l1 b off k m cs a8 a2 (by rw[E];rfl) (by rw[a5,g3];simp) hl G
       | agn _ _ _ _=>rw[a2] at q;cases q
       | bxl _=>rw[a2] at q;cases q
       | dup d=>rw[a2] at q;cases q
       | sub _ _ _ _=>rw[a2] at q;cases q
       | bxh _ _=>rw[a2] at q;cases q
       | agh _ _=>rw[a2] at q;cases q
       | mp _=>rw[a2] at q;cases q
       | agf _ _=>rw[a2] at q;cases q
       | bxf _ _=>rw[a2] at q;cases q
       | bxg cs =>
        rw[a2] at h5 q;simp only[S] at q;obtain⟨a8,hl,H⟩:=q;cases H;obtain⟨b,E,n5,e3⟩:=h5;obtain⟨_,p,M,g2,g3⟩:=h0;rw[E] at M;cases M;exact l0 b off cs a8 a2 E (by rw[a5,g3];simp) hl G
       | dead=>rw[a2] at q;cases q
      ·cases q
     | val x=>rw[hr] at q;cases q
     | mem _=>rw[hr] at q;cases q
     | own _ _ _=>rw[hr] at q;cases q
     | agn _ _ _ _=>rw[hr] at q;cases q
     | bxl _=>rw[hr] at q;cases q
     | dup d=>rw[hr] at q;cases q
     | sub _ _ _ _=>rw[hr] at q;cases q
     | bxh _ _=>rw[hr] at q;cases q
     | agh _ _=>rw[hr] at q;cases q
     | mp _=>rw[hr] at q;cases q
     | agf _ _=>rw[hr] at q;cases q
     | bxf _ _=>rw[hr] at q;cases q
     | bxg _=>rw[hr] at q;cases q
     | dead=>rw[hr] at q;cases q
  ·cases A
 case ixa x i k =>
  simp only[Cq] at A;split at A
  ·rename_i t L i' J;simp only[U] at A;obtain⟨⟨h1,h2⟩,A⟩:=A;split at A
   ·rename_i e hu;simp only[A8] at q;split at q
    ·rename_i ki iv hi;have d1:=BG h h2 hi;generalize d4:a.eval i'=ivv at d1;cases d1;have a5:a.eval L=a.tmps.getD x A9:=by
      cases L <;> simp only[Bm] at h1 <;> try cases h1
      simp only[AM] at h1;subst h1;rfl
     have h0:=h.reg x;split at q
     ·rename_i n cs hr;rw[hr] at h0;split at q
      ·rename_i hb;cases q;rw[<- a5] at h0;generalize a1:a.eval L=xv at h0;cases h0 with
       | nil0=>exact absurd hb (by omega)
       | e0 _ _=>exact absurd hb (by omega)
       | sl b off _ cap _ f hd hn hX hY hcell i3 =>
        have i4:Gq Y (fun b=>X0 b\/XS s a.tmps b) w b off cs:=⟨hd,fun j hj=>⟨f j,hcell j hj,i3 j hj⟩⟩;refine AI (v := .pointer (some ⟨b,off+iv.toNat*k,none⟩)) ?_ (G _ _ ?_)
        ·simp only[execOp,J,N7,Aj,d4,asIntOf,An,W,run_underlying hu,a1,hb,and_self,if_true,FV A,Du]
        ·refine LC h (Au I D) (fun d3=>hX (fun hn=>d3 (by rw[hn];simp))) (i4.drop _)
      ·cases q
     ·cases q
    ·cases q
   ·cases A
  ·cases A
 case six x i =>
  simp only[Cq] at A;split at A
  ·rename_i t L i' J;simp only[U] at A;obtain⟨⟨h1,h2⟩,A⟩:=A;split at A
   ·rename_i hu;simp only[A8] at q;split at q
    ·rename_i bs ki iv R hi;simp only[S] at q;obtain⟨c,hc,H⟩:=q;cases H;have d1:=BG h h2 hi;generalize d4:a.eval i'=ivv at d1;cases d1;have a3:=BG h h1 R;generalize a1:a.eval L=xv at a3;cases a3;refine AI (v := .int .u8 c.toNat) ?_ (G _ _ (h.put (Au I D) (.int _ _)));simp only[execOp,J,Apn,Aj,d4,asIntOf,An,W,run_underlying hu,a1,hc]
    ·cases q
   ·cases A
  ·cases A
 case ext x i =>
  simp only[Cq] at A;split at A
  ·rename_i L i' J;simp only[U,AM] at A;obtain⟨h1,rfl⟩:=A;simp only[A8] at q;split at q
   ·rename_i vs R;simp only[S] at q;obtain⟨y,hy,H⟩:=q;cases H;have a3:=BG h h1 R;generalize a1:a.eval L=xv at a3;cases a3 with
    | tup us _ hs hr =>
     obtain⟨d5,l3⟩:=Az.1 hy;have j7:i'<us.size:=by omega
     refine AI (v:=us[i']) ?_ (G _ _ (h.put (Au I D) (l3 ▸ hr i' j7 d5)));simp only[execOp,J,Instr.extract,a1,AE j7,Aj,An,W]
   ·cases q
  ·cases A
 case len x =>
  simp only[Cq] at A;split at A
  ·rename_i args ts J;unfold nY at A;split at A
   ·rename_i L t f3 f4;simp only[U] at A;obtain⟨h1,h2⟩:=A;have E:args=#[L]:=by rw[<- D6 (xs:=args),f3]
    have O:ts=#[t]:=by rw[<- D6 (xs:=ts),f4]
    subst E O;split at h2
    ·rename_i e hu;simp only[A8] at q;have a9:∀ (c8:Option Addr) (n c:Nat),a.eval L = .slice c8 n c->(∀ a' w',Rel Y X0 roots w0 (BD s o.dst (.val (.int .i64 n))) a' w'->K' a' w')->o.wp P a w K' Q:=by
      intro c8 n c H b9;refine AI (v := .int .i64 n) ?_ (b9 _ _ (h.put (Au I D) (.int _ _)));simp[execOp,J,resolve,invoke,builtin,H0,H,run_underlying hu,goInt]
     split at q
     ·rename_i R;cases q;have a3:=BG h h1 R;generalize a1:a.eval L=xv at a3;cases a3;exact a9 _ _ _ a1 G
     ·rename_i n cs R;cases q;have a3:=BG h h1 R;generalize a1:a.eval L=xv at a3;cases a3 <;> exact a9 _ _ _ a1 G
     ·cases q
    ·cases h2
   ·cases A
  ·cases A
 case mx xs =>
  simp only[Cq] at A;split at A
  ·rename_i args ts J;simp only[A8] at q;split at q
   ·rename_i k n l R;simp only[S] at q;obtain⟨m,hm,H⟩:=q;cases H;obtain⟨E,O⟩:=Hi h A R;cases b7:args.toList with
    | nil=>rw[b7] at E;simp at E
    | cons x0 d6 =>
     have c0:C d6=C l:=by rw[b7] at E;simpa using E
     have h0:=O 0 (by rw[b7];simp) (by simp);simp only[b7,Bk] at h0;generalize a1:a.eval x0=xv at h0;cases h0;have i5:=Yg (P:=P) (Y:=Y) (X:=fun b=>X0 b\/XS s a.tmps b) (w:=w) (vs:=d6.map a.eval) (l:=l) (by simpa using c0) (fun i M g2=>by
      have:=O (i+1) (by rw[b7];simp at M |-;omega) (by simp;omega);simpa [b7] using this) hm
     refine AI (v := .int k m) ?_ (G _ _ (h.put (Au I D) (.int _ _)));have i6:(args.map a.eval).toList = .int k n::d6.map a.eval:=by rw[CO,b7,Bg,a1]
     simp only[execOp,J,resolve,invoke,builtin,AIz,Aj,An,W,i6,i5]
   ·cases q
  ·cases A
 case mn xs =>
  simp only[Cq] at A;split at A
  ·rename_i args ts J;simp only[A8] at q;split at q
   ·rename_i k n l R;simp only[S] at q;obtain⟨m,hm,H⟩:=q;cases H;obtain⟨E,O⟩:=Hi h A R;cases b7:args.toList with
    | nil=>rw[b7] at E;simp at E
    | cons x0 d6 =>
     have c0:C d6=C l:=by rw[b7] at E;simpa using E
     have h0:=O 0 (by rw[b7];simp) (by simp);simp only[b7,Bk] at h0;generalize a1:a.eval x0=xv at h0;cases h0;have i5:=Yh (P:=P) (Y:=Y) (X:=fun b=>X0 b\/XS s a.tmps b) (w:=w) (vs:=d6.map a.eval) (l:=l) (by simpa using c0) (fun i M g2=>by
      have:=O (i+1) (by rw[b7];simp at M |-;omega) (by simp;omega);simpa [b7] using this) hm
     refine AI (v := .int k m) ?_ (G _ _ (h.put (Au I D) (.int _ _)));have i6:(args.map a.eval).toList = .int k n::d6.map a.eval:=by rw[CO,b7,Bg,a1]
     simp only[execOp,J,resolve,invoke,builtin,AJa,Aj,An,W,i6,i5]
   ·cases q
  ·cases A
 case call f xs =>
  simp only[Cq] at A;split at A
  ·rename_i f' args ts J;simp only[U,AM] at A;obtain⟨⟨rfl,h1⟩,h2⟩:=A;simp only[A8] at q;split at q
   ·rename_i vs R;simp only[S] at q;obtain⟨y,hy,H⟩:=q;cases H;obtain⟨E,O⟩:=Hi h h1 R;split at h2
    ·rename_i fn i7;simp only[U,Bl] at h2;obtain⟨f5,i9⟩:=h2;have j0:¬ fn.body=none:=by intro e0;rw[e0] at f5;cases f5
     have f6:¬ fn.name = "runtime.NumGoroutine" := by simpa using i9
     have a4:(execOp a.eval o).run P w = .ok (.enter f' (args.map a.eval)) w:=by
      simp[execOp,J,resolve,EU,Jq,invoke,callFunc,program,Cl,i7,f6,j0]
     have j1:=hF.plain f' vs y hy Y (fun b=>X0 b\/XS s a.tmps b) w (args.map a.eval) h.lowX h.lowYw (by simpa using E) (fun i M g2=>by
      have:=O i (by simpa using M) g2;simpa using this)
     simp only[Cn,a4,BN];refine j1.mono fun e w' ⟨v,H,hb,hr⟩ => ?_;subst H;refine G _ _ ?_;cases N:o.dst with
     | none =>
      refine⟨h.dfr,h.size,h.below.trans hb,h.low,h.lowY,fun t => ?_,h.inj⟩;exact FN.world (h.reg t) hb
     | some d =>
      refine BB (ks:=[]) h hb (fun u hu => .inr (Au I D d N u hu)) (fun H=>(by cases H)) (fun X _ g2 => ?_);exact (hr.thawed (fun b hb=>Ip (h.lowX b hb)) (fun b hb=>Ip (h.lowYw b hb))).mono fun b hb => .inl (g2 rfl b hb)
    ·cases h2
   ·cases q
  ·cases A
 case clo f xs =>
  simp only[Cq] at A;split at A
  ·rename_i f' args ts J;simp only[U,AM] at A;obtain⟨⟨rfl,h1⟩,h2⟩:=A;simp only[A8] at q;split at q
   ·rename_i vs R;simp only[S] at q;obtain⟨y,hy,H⟩:=q;cases H;obtain⟨E,O⟩:=Hi h h1 R;split at h2
    ·rename_i fn i7;simp only[U,Bl] at h2;obtain⟨f5,i9⟩:=h2;have j0:¬ fn.body=none:=by intro e0;rw[e0] at f5;cases f5
     have f6:¬ fn.name = "runtime.NumGoroutine" := by simpa using i9
     have a4:(execOp a.eval o).run P w = .ok (.enter f' (args.map a.eval)) w:=by
      simp[execOp,J,resolve,EU,Jq,invoke,callFunc,program,Cl,i7,f6,j0]
     have j1:=hF.plain f' vs y hy Y (fun b=>X0 b\/XS s a.tmps b) w (args.map a.eval) h.lowX h.lowYw (by simpa using E) (fun i M g2=>by
      have:=O i (by simpa using M) g2;simpa using this)
     simp only[Cn,a4,BN];refine j1.mono fun e w' ⟨v,H,hb,hr⟩ => ?_;subst H;refine G _ _ ?_;simp only[B2,U] at D;obtain⟨d,N⟩:=A7.1 D.2;rw[N];cases y
     case fresh k n cs =>
      simp only[Eh] at hr;refine BB (ks:=[]) h hb (fun u hu => .inr (Au I D.1 d N u hu)) (fun _ b hb=>(EG.block hr hb).1) (fun X M _ => ?_);exact KI h.below.from_ hr M
     case frs bb k n cs =>
      simp only[Eh] at hr;refine BB (ks:=[]) h hb (fun u hu => .inr (Au I D.1 d N u hu)) (fun _ b hb=>(Kb.block hr hb).1) (fun X M _ => ?_);obtain⟨u,rfl,hr⟩:=hr;rw[Fg _ hr] at M;refine⟨u,rfl,KI h.below.from_ ?_ M⟩;rw[Fg _ hr] at hr;exact hr
     case gb =>
      simp only[Eh] at hr;obtain⟨b',rfl,q2,q3⟩:=hr;refine BB (ks:=[]) h hb (fun u hu => .inr (Au I D.1 d N u hu)) (fun _ b hb=>by simp only[Ax,C6,Am,Ac] at hb;exact hb ▸ q2) (fun X M _ => ?_);exact⟨b',rfl,h.below.from_ _ q2,q3.mono fun c hc => .inl ((M c hc).imp id And.right)⟩
     case io =>
      simp only[Eh] at hr;refine BB (ks:=[]) h hb (fun u hu => .inr (Au I D.1 d N u hu)) (fun H=>(by cases H)) (fun X _ g2 => ?_);exact Rd.io _ _ _ (hr.mono fun b hb => .inl (g2 rfl b hb))
     case frh=>exact BB (ks:=[]) h hb (fun u hu => .inr (Au I D.1 d N u hu)) (fun H=>(by cases H)) (fun X _ _=>trivial)
     all_goals
      refine BB (ks:=[]) h hb (fun u hu => .inr (Au I D.1 d N u hu)) (fun H=>(by cases H)) (fun X _ g2 => ?_);exact Rd.mono hr fun b hb => .inl (g2 rfl b hb)
    ·cases h2
   ·cases q
  ·cases A
 case cpy x =>
  have R:=Pe (a:=a) (P:=P) (w:=w) A;simp only[B2,U] at D;simp only[A8] at q;have h0:=h.reg x;split at q
  ·rename_i v hr;cases q;rw[hr] at h0;exact AI R (G _ _ (h.put (Au I D.1) h0))
  ·cases q;exact AI R (G _ _ (h.putDup (Au I D.1) (C7 D.2)))
  ·cases q
 case cpo x =>
  have R:=Pe (a:=a) (P:=P) (w:=w) A;simp only[B2,U] at D;simp only[A8] at q;cases q;exact AI R (G _ _ (h.putDup (Au I D.1) (C7 D.2)))
 case tra x =>
  have R:=Pe (a:=a) (P:=P) (w:=w) A;simp only[B2,U] at D;simp only[A8] at q;have h0:=h.reg x;split at q
  ·rename_i v hr;cases q;rw[hr] at h0;exact AI R (G _ _ (h.put (Au I D.1) h0))
  ·rename_i cs hr;cases q;obtain⟨d,N⟩:=A7.1 D.2;rw[hr] at h0;obtain⟨b,E,O,e3⟩:=h0;refine AI R (G _ _ ?_);rw[N];exact h.pass (by rw[hr];rfl) rfl (fun u hu=>Au I D.1 d N u hu) (fun X M=>⟨b,E,O,e3.mono fun c hc => .inl (M c hc)⟩)
  ·rename_i k n cs hr;cases q;obtain⟨d,N⟩:=A7.1 D.2;refine AI R (G _ _ ?_);rw[N];rcases h.ownLow hr with ⟨E,rfl,rfl⟩ | ⟨b,cap,E,O,e3,e4,e5,e6,f2⟩
   ·rw[E];exact Jt (ow:=true) (ks:=[x]) h (fun u hu => .inr (Au I D.1 d N u hu))
   refine Rel.shift h hr (b:=b) (by rw[E];rfl) (fun u hu=>Au I D.1 d N u hu) rfl rfl rfl rfl (fun _ _=>rfl) (fun _=>by rw[E];rfl) (fun X M _ => ?_);exact .inr ⟨b,cap,E,O,e3,e4,e5.mono fun c hc => .inl (M c hc),e6⟩
  ·rename_i b k n cs hr;cases q;obtain⟨d,N⟩:=A7.1 D.2;rw[hr] at h0;refine AI R (G _ _ ?_);rw[N];exact h.pass (by rw[hr];rfl) rfl (fun u hu=>Au I D.1 d N u hu) (fun X M=>Kb.mono h0 fun c hc => .inl (M c hc))
  ·rename_i ks hr;cases q;obtain⟨d,N⟩:=A7.1 D.2;rw[hr] at h0;refine AI R (G _ _ ?_);rw[N];exact h.pass (by rw[hr];rfl) rfl (fun u hu=>Au I D.1 d N u hu) (fun X _=>h0)
  ·cases q
 case frz x =>
  have R:=Pe (a:=a) (P:=P) (w:=w) A;simp only[A8] at q;have h0:=h.reg x;split at q
  ·rename_i v hr;cases q;rw[hr] at h0;exact AI R (G _ _ (h.put (Au I D) h0))
  ·rename_i k n cs hr;cases q;have hf:=h.freeze hr;have h1:=hf.reg x;have d5:x<C s:=by
    rcases CH x (C s) with d5 | l4
    ·exact d5
    ·simp only[Ag,Z,AX l4] at hr;cases hr
   rw[Cf,Ae ⟨rfl,d5⟩] at h1;refine AI R (G _ _ (hf.put (fun d hd t ht => ?_) h1));have l5:=Au I D d hd t ht;rw[Cf];split
   ·rfl
   ·exact l5
  ·cases q
 case mks z n =>
  simp only[Cq] at A;split at A
  ·rename_i t l c J;simp only[U] at A;obtain⟨⟨⟨h1,h2⟩,V⟩,h4⟩:=A;simp only[B2,U] at D;obtain⟨d,N⟩:=A7.1 D.2;simp only[A8] at q;split at q
   ·rename_i kk m hn;split at q
    ·rename_i hb;cases q;have hl:=BG h h1 hn;have hc:=BG h h2 hn;generalize l6:a.eval l=lv at hl;generalize e8:a.eval c=cv at hc;cases hl;cases hc;obtain⟨e,cells,a4,j2⟩:=wM (P:=P) (Y:=Y) (X:=fun b=>X0 b\/XS s a.tmps b) (w:=w) (kl:=kk) (kc:=kk) V h4 hb.1 hb.2;have c9:(execOp a.eval o).run P w = .ok (.value (.slice (some ⟨w.heap.size,0,none⟩) m.toNat m.toNat)) (w.alloc (.cells cells e)):=by
      simp only[execOp,J,l6,e8,Aj,a4,W,An]
     simp only[Cn,c9,BN];refine G _ _ ?_;rw[N];exact Yi h (fun u hu=>Au I D.1 d N u hu) j2 (J7 z m.toNat)
    ·cases q
   ·cases q
  ·cases A
 case blo k n z ps =>
  simp only[Cq] at A;split at A
  ·rename_i t len c6 J;simp only[U] at A;obtain⟨A,m0⟩:=A;simp only[A8,S] at q;obtain⟨cs,d0,H⟩:=q;cases H;simp only[nX,U,AM] at A;obtain⟨rfl,A⟩:=A;obtain⟨e',i',n6,j8,g8,m1,n7,_,_,_⟩:=EN m0;split at A
   ·rename_i e hu;split at A
    ·rename_i ii b5;obtain rfl:e=e':=by rw[hu] at j8;cases j8;rfl
     obtain rfl:ii=i':=by rw[b5] at g8;cases g8;rfl
     simp only[U,DI] at A;obtain⟨⟨⟨h1,h2⟩,V⟩,hp⟩:=A;split at V
     ·rename_i zv d8;simp only[U,DI,AM] at V;obtain⟨⟨V,h4⟩,h5⟩:=V;have h7:0<C zv.cells.toList:=by simp only[B3];omega
      have h8:C zv.cells.toList=ii.size:=by simp only[B3];exact V
      obtain⟨hd,hg⟩:=NK (Y:=Y) (X:=fun b=>X0 b\/XS s a.tmps b) (w:=w) h7 len z h5 (by rw[h4,h8]);have f0:(sizeOf e).run P w = .ok ii.size w:=by simp[sizeOf,typeInfo,program,Cl,b5]
      have h9:(zeroValue e).run P w = .ok zv w:=by simp[zeroValue,typeInfo,program,Cl,b5,d8]
      have i0:Dl Y (fun b=>X0 b\/XS s a.tmps b) w ((FK (len*ii.size)).map fun j=>zv.cells[j % zv.cells.size]!) z:=by
       refine⟨hd,by simp[h4],fun i M g2 => ?_⟩;obtain⟨u,i1,i2⟩:=hg i g2;have E:zv.cells[i % zv.cells.size]! = u:=by
        have:zv.cells[i % zv.cells.size]? = some u:=by simpa using i1
        simp[getElem!_def,this]
       simp only[O3,V',E];exact i2
      obtain⟨a7,E,O⟩:=Pb h (place:=fun i=>some (i*ii.size,ii.size)) (fun i off n hi=>by
       simp only[U,AM] at hi;rw[hi.1,hi.2]) hp i0 d0
      have c0:DH (fun i=>some (i*ii.size,ii.size)) ((FK (len*ii.size)).map fun j=>zv.cells[j % zv.cells.size]!) (c6.map fun p=>(p.1,a.eval p.2)).toList=some a7:=by rw[CO];exact E
      have e3:len*ii.size=0->(FK (len*ii.size)).map (fun j=>(#[]:Array Value)[j % (#[]:Array Value).size]!)=(FK (len*ii.size)).map fun j=>zv.cells[j % zv.cells.size]! := fun hh=>by rw[hh];simp
      have f1:¬ len*ii.size>2^24:=by omega
      simp only[B2,U] at D;obtain⟨d,N⟩:=A7.1 D.2;have a4:(execOp a.eval o).run P w = .ok (.value (.slice (some ⟨w.heap.size,0,none⟩) len len)) (w.alloc (.cells a7 e)):=by
       by_cases d2:len*ii.size=0
       ·simp only[execOp,J,HX,Aj,run_underlying hu,W,f0,f1,if_false,Ae d2,An,e3 d2,c0,newRow,run_newObj_alloc]
       ·simp only[execOp,J,HX,Aj,run_underlying hu,W,f0,f1,if_false,d2,An,h9,c0,newRow,run_newObj_alloc]
      simp only[Cn,a4,BN];refine G _ _ ?_;rw[N];refine Yi h (fun u hu=>Au I D.1 d N u hu) O ?_;rw[RL d0,h4,m1]
     ·cases V
    ·cases A
   ·cases A
  ·cases A
 case apd ow x y k B =>
  simp only[Cq] at A;split at A
  ·rename_i args ts J;unfold Ye at A;split at A
   ·rename_i L y' t t' f3 f4;simp only[U] at A;obtain⟨⟨⟨⟨h1,h2⟩,V⟩,h4⟩,h5⟩:=A;have E:args=#[L,y']:=by rw[<- D6 (xs:=args),f3]
    have O:ts=#[t,t']:=by rw[<- D6 (xs:=ts),f4]
    subst E O;simp only[B2,U] at D;obtain⟨d,N⟩:=A7.1 D.2;have d7:∀ u,(u,d)∈roots->BF (Ag s u)=false:=fun u hu=>Au I D.1 d N u hu;have a6:∀ {v:Value} {w':World},(Bi #[t,t'] o.type #[a.eval L,a.eval y']).run P w = .ok v w'->(execOp a.eval o).run P w = .ok (.value v) w':=by
     intro v w' hh;simp[execOp,J,resolve,invoke,builtin,hh]
    simp only[A8] at q;split at q
    ·-- n8 to append
     rename_i hy;have b8:=BG h h2 hy;generalize b0:a.eval y'=yv at b8 a6;cases b8;split at q
     ·rename_i a3;cases q;have f7:=BG h h1 (oH a3);generalize a1:a.eval L=xv at f7 a6;cases f7;have hr:=a6 (append_nil (P:=P) (w:=w) (ty:=o.type) V h4);exact AI hr (G _ _ (h.put (Au I D.1) .nil))
     ·rename_i k' n cs a3;obtain⟨nx,rfl⟩:=wN a3;simp only[Opd.reg] at a3;split at q
      ·rename_i j3;subst j3;cases q;rcases h.ownLow a3 with ⟨E,rfl,rfl⟩ | ⟨b,cap,E,O,e3,e4,e5,e6,f2⟩
       ·have a1:a.eval L = .slice none 0 0:=by rw[B5 h1,E]
        rw[a1] at a6;have hr:=a6 (append_nil (P:=P) (w:=w) (ty:=o.type) V h4);refine AI hr (G _ _ ?_);rw[N];exact Jt (ks:=[nx]) h (fun u hu => .inr (d7 u hu))
       have a1:a.eval L = .slice (some ⟨b,0,none⟩) n cap:=by rw[B5 h1,E]
       rw[a1] at a6;have hr:=a6 (NI (P:=P) (w:=w) (ty:=o.type) V h4 O);refine AI hr (G _ _ ?_);rw[N];refine Rel.shift h a3 (b:=b) (by rw[E];rfl) d7 rfl rfl rfl rfl (fun _ _=>rfl) (fun _=>rfl) (fun X M g2 => ?_);exact Q8 (.inr ⟨b,cap,rfl,O,e3,e4,e5.mono fun c hc => .inl (M c hc),e6⟩) (fun H=>by subst H;exact fun c hc=>by cases hc;exact g2 rfl) h.lowY
      ·cases q
     ·cases q
    ·rename_i m ys hy;have b8:=oD (BG h h2 hy);split at q
     ·rename_i d9;have j9:a.eval L = .slice none 0 0->m<=B->∀ ks:List Nat,(∀ a' w',Rel Y X0 roots w0 (BD (A5 s (ks.map fun u=>(u,Reg.dead))) (some d) (if ow then .own k m ys else .val (.sl m ys))) a' w'->K' a' w')->o.wp P a w K' Q:=by
       intro a1 k0 ks b9;rw[a1] at a6;rcases LD m with hm | hm
       ·subst hm;have j4:ys=[]:=Bb (by simpa using d9);subst j4;have hr:(execOp a.eval o).run P w = .ok (.value (.slice none 0 0)) w:=by
         rcases b8 with ⟨_,_,b0 | ⟨p,c,b0⟩⟩ | ⟨b,off,cap,b0,_⟩
         ·rw[b0] at a6;exact a6 (append_nil (P:=P) (w:=w) (ty:=o.type) V h4)
         ·rw[b0] at a6;exact a6 (H4 (P:=P) (w:=w) (ty:=o.type) V h4)
         ·rw[b0] at a6;exact a6 (H4 (P:=P) (w:=w) (ty:=o.type) V h4)
        refine AI hr (b9 _ _ ?_);rw[N];exact Jt (ks:=ks) h (fun u hu => .inr (d7 u hu))
       ·obtain⟨v',w',a4,j5,g9⟩:=IR (P:=P) (ty:=o.type) (n:=0) (cs:=[]) V h4 h5 (.inl ⟨rfl,rfl,rfl,hm⟩) (by simp) b8 hm d9 (by omega);have hr:=a6 a4;simp only[Cn,hr,BN];refine b9 _ _ ?_;rw[N];simp only[AH,Dg] at g9;exact Js (ks:=ks) h j5 (fun u hu => .inr (d7 u hu)) g9
      split at q
      ·rename_i a3;have f7:=BG h h1 (oH a3);generalize a1:a.eval L=xv at f7;cases f7;split at q
       ·rename_i k0;cases q;rw[N] at G;exact j9 a1 k0 [] G
       ·cases q
      ·rename_i k' n cs a3;obtain⟨nx,rfl⟩:=wN a3;simp only[Opd.reg] at a3;split at q
       ·rename_i j3;obtain⟨rfl,f6⟩:=j3;cases q;rcases h.ownLow a3 with ⟨E,rfl,rfl⟩ | ⟨b,cap,E,O,e3,e4,e5,e6,f2⟩
        ·rw[N] at G;simp only[AH,Dg] at G;exact j9 (by rw[B5 h1,E]) (by omega) [nx] G
        have a1:a.eval L = .slice (some ⟨b,0,none⟩) n cap:=by rw[B5 h1,E]
        rw[a1] at a6;by_cases k1:m=0
        ·subst k1;have j4:ys=[]:=Bb (by simpa using d9);subst j4;have hr:(execOp a.eval o).run P w = .ok (.value (.slice (some ⟨b,0,none⟩) n cap)) w:=by
          rcases b8 with ⟨_,_,b0 | ⟨p,c,b0⟩⟩ | ⟨b',n9,o2,b0,_⟩
          ·rw[b0] at a6;exact a6 (NI (P:=P) (w:=w) (ty:=o.type) V h4 O)
          ·rw[b0] at a6;exact a6 (J8 (P:=P) (w:=w) (ty:=o.type) V h4 O)
          ·rw[b0] at a6;exact a6 (J8 (P:=P) (w:=w) (ty:=o.type) V h4 O)
         refine AI hr (G _ _ ?_);rw[N];refine Rel.shift h a3 (b:=b) (by rw[E];rfl) d7 rfl rfl rfl rfl (fun _ _=>rfl) (fun _=>rfl) (fun X M g2 => ?_);simp only[Bv,Df] at g2 |-;exact Q8 (.inr ⟨b,cap,rfl,O,e3,e4,e5.mono fun c hc => .inl (M c hc),e6⟩) (fun H=>by subst H;exact fun c hc=>by cases hc;exact g2 rfl) h.lowY
        by_cases k2:n+m<=cap
        ·obtain⟨w',a4,M,g2,g3,g4,g5,g6,g7⟩:=Tj (P:=P) (ty:=o.type) V h4 k2 (Y:=Y) (X:=fun b=>X0 b\/XS s a.tmps b) (.inr f2) e5 e6 e3 b8 k1 d9;have hr:=a6 a4;simp only[Cn,hr,BN];refine G _ _ ?_;rw[N];refine Rel.shift h a3 (b:=b) (by rw[E];rfl) d7 M g2 g3 g4 g5 (fun _=>rfl) (fun X q1 q2 => ?_);exact Q8 (.inr ⟨b,cap,rfl,k2,by rw[Ah,e3,d9,EC],e4,g6.mono fun c hc => .inl (q1 c hc),g7⟩) (fun H=>by subst H;exact fun c hc=>by cases hc;exact q2 rfl) h.lowY
        ·obtain⟨v',w',a4,j5,g9⟩:=IR (P:=P) (ty:=o.type) V h4 h5 (.inr ⟨b,cap,rfl,by omega,e5.mem⟩) e3 b8 (by omega) d9 f6;have hr:=a6 a4;simp only[Cn,hr,BN];refine G _ _ ?_;rw[N];exact Js (ks:=[nx]) h j5 (fun u hu => .inr (d7 u hu)) g9
       ·cases q
      ·cases q
     ·cases q
    ·cases q
   ·cases A
  ·cases A
 case sli x lo hi mx k =>
  simp only[Cq] at A;split at A
  ·rename_i t L m2 g8 m3 J;simp only[U] at A;obtain⟨⟨⟨⟨h1,h2⟩,V⟩,h4⟩,h5⟩:=A;have a6:∀ {v:Value},(F9 t (a.eval L) (m2.map a.eval) (g8.map a.eval) (m3.map a.eval)).run P w = .ok v w->(execOp a.eval o).run P w = .ok (.value v) w:=by
    intro v hh;simp only[execOp,J,Aj,hh,W,An]
   simp only[A8] at q;split at q
   ·rename_i R;have a3:=BG h h1 R;generalize a1:a.eval L=xv at a3 a6;cases a3;split at q
    ·rename_i b1 b2 b3;split at q
     ·rename_i c4;cases q;have hb:=GB (P:=P) (w:=w) (len:=0) (cap:=0) (m:=0) (h:=0) (l:=0) (A8u h h4 b1 rfl (Ay _)) (Awf h V h4 b2 c4 (fun _=>Ay _) (fun _=>Ay _)) (Alk h h2 b3 (Ay _));have hr:=a6 (NJ h5 hb);exact AI hr (G _ _ (h.put (Au I D) .nil))
     ·cases q
    ·cases q
   ·rename_i n cs R;have a3:=BG h h1 R;split at q
    ·rename_i m hh l b1 b2 b3;split at q
     ·rename_i hc;cases q;obtain⟨c1,c2,c3,c4⟩:=hc;obtain⟨ad,cap,hv,o3,k3,m4⟩:=Apz (k:=k) (m:=if mx.isSome then m else Awe (a.eval L)) a3 c1 (by omega);rw[hv] at a6 k3;have hb:=GB (P:=P) (w:=w) (len:=n) (cap:=cap) (m:=if mx.isSome then m else cap) (h:=hh) (l:=l) (AFt h h4 b1 (by omega)) (Awf h V h4 b2 c4 (fun hs=>by rw[Ae hs];exact c2) (fun hs=>by rw[Al hs];omega)) (Alk h h2 b3 c1);have hr:=a6 (NJ h5 hb);refine AI hr (G _ _ (h.put (Au I D) (k3 ?_ (fun hn => ?_))))
      ·simp only[Awe];split
       ·exact c2
       ·omega
      ·have h0:=m4 hn;simp only[Awe];split
       ·omega
       ·exact h0
     ·cases q
    ·cases q
   ·cases q
  ·cases A
 case nlo k =>
  simp only[Cq] at A;simp only[A8] at q;cases q;simp only[B2,U] at D;obtain⟨d,N⟩:=A7.1 D.2;have hr:(execOp a.eval o).run P w = .ok (.value (.slice none 0 0)) w:=by
   split at A
   ·rename_i J;simp[execOp,J,Jq]
   ·rename_i J;simp[execOp,J,Jq]
   ·cases A
  refine AI hr (G _ _ ?_);rw[N];exact Jt (ow:=true) (ks:=[]) h (fun u hu => .inr (Au I D.1 d N u hu))
 case bdo y x ls =>
  simp only[Cq] at A;split at A
  ·rename_i t c6 J;obtain⟨a',L,m5,h1,h2,a4⟩:=Apx A;simp only[B2,U] at D;obtain⟨d,N⟩:=A7.1 D.2;simp only[A8] at q;split at q
   ·rename_i b hb;split at q
    ·rename_i k n cs hr;split at q
     case isFalse=>cases q
     rename_i m6;cases q;have m7:∀ t∈oks++ls,BF (Ag s t)=false:=Wi I m6;have k4:=BG h h1 hb;generalize m8:a.eval a'=bv at k4;cases k4;have a5:=B5 (a:=a) h2;have h0:=h.reg x;rw[hr] at h0;have hcell:(a.tmps.getD x A9).cells=#[a.tmps.getD x A9]:=by
      rcases h0 with ⟨e,_⟩ | ⟨_,_,e,_⟩ <;> rw[e] <;> rfl
     have m9:(c6.map fun p=>(p.1,a.eval p.2))=#[(0,.bool b),(1,a.tmps.getD x A9)]:=by
      apply Array.toList_inj.1;rw[CO,m5];simp[m8,a5]
     refine AI (v := .agg #[.bool b,a.tmps.getD x A9]) ?_ (G _ _ ?_)
     ·simp only[execOp,J,Aj];rw[show (c6.map fun x:Nat × Operand=>match x with | (i,x)=>(i,a.eval x))=(c6.map fun p=>(p.1,a.eval p.2)) from rfl,m9,a4 b _ hcell w]
      rfl
     ·rw[N];exact h.pass (by rw[hr];rfl) (Fg (.st b) h0) (fun u hu=>Au m7 D.1 d N u hu) (fun X M=>⟨_,rfl,EG.mono h0 fun c hc => .inl (M c hc)⟩)
    ·cases q
   ·cases q
  ·cases A
 case stl x v =>
  simp only[Cq] at A;split at A
  ·rename_i t L v' J;simp only[U] at A;obtain⟨⟨h1,h2⟩,V⟩:=A;simp only[B2,U,JL,CX,DI] at D;obtain⟨N,n0⟩:=D;simp only[A8] at q;split at q
   ·rename_i cs hr;split at q
    ·rename_i bb k n ds n1;split at q
     ·rename_i d0;cases q;have a5:=B5 (a:=a) h1;have n2:=B5 (a:=a) V;have h0:=h.reg x;rw[hr] at h0;obtain⟨b,E,hB,hd,vs,T,O,e3,_⟩:=h0;have h5:=h.reg v;rw[n1] at h5;obtain⟨u,hu,h5⟩:=h5;have hcell:u.oneCell'=true:=by
       rcases h5 with ⟨e,_⟩ | ⟨_,_,e,_⟩ <;> rw[e] <;> rfl
      have b4:=FV h2;have n3:=run_storeCells_at (P:=P) b 0 T [.bool bb,u] 0 vs w O (by simp;omega) (by
       intro y hy;simp only[Aw,A3,or_false] at hy;rcases hy with rfl | rfl
       ·rfl
       ·exact hcell)
      have c9:(execOp a.eval o).run P w = .ok .skip (w.setRow b (vs.toList.take (0+0)++[.bool bb,u]++vs.toList.drop (0+0+C [SW bb,u])).toArray):=by
       have j2:(Value.agg #[.bool bb,u]).cells=#[.bool bb,u]:=rfl;simp only[execOp,J,G0,a5,E,n2,hu,wJ,BQ,Aj,An,W,storeVar,b4,j2];simp only[CS,B1,Fr,ne_eq,not_true_eq_false,if_false];rw[n3];rfl
      simp only[Cn,c9,BN];rw[N] at G |-;refine G _ _ (Rel.store (w':=w.setRow b _) h hr rfl rfl (by rw[E];rfl) hB rfl rfl rfl (Eg _ _ _) (fun c hc=>Dp _ _ _ _ hc) (fun X hX => ?_));have d5:b<w.heap.size:=(AR.1 O).1;refine⟨n0,b,E,hB,by rw[Eg];exact d5,fun i hi => ?_⟩;rw[DE (setRow_heap w b vs _ T (0,0) O),hu];match i,hi with
      | 0,_=>rfl
      | 1,_=>rfl
     ·cases q
    ·cases q
   ·cases q
  ·cases A
 case ixo x d i k =>
  simp only[Cq] at A;split at A
  ·rename_i t L i' J;simp only[U] at A;obtain⟨⟨h1,h2⟩,A⟩:=A;obtain⟨e,ii,zv,hu,b5,hs,o4,_,_,_⟩:=EN A;have b4:(sizeOf e).run P w = .ok k w:=by simp[sizeOf,typeInfo,program,Cl,b5,hs]
   simp only[B2,U] at D;simp only[A8] at q;split at q
   ·rename_i ki iv hi;have d1:=BG h h2 hi;generalize d4:a.eval i'=ivv at d1;cases d1;have a5:=B5 (a:=a) h1;have h0:=h.reg x;split at q
    ·rename_i n cs hr;rw[hr] at h0;split at q
     ·rename_i hb;cases q;rw[<- a5] at h0;generalize a1:a.eval L=xv at h0;cases h0 with
      | nil0=>exact absurd hb (by omega)
      | e0 _ _=>exact absurd hb (by omega)
      | sl b off _ cap _ f hd hn hX hY hcell i3 =>
       have i4:Gq Y (fun b=>X0 b\/XS s a.tmps b) w b off cs:=⟨hd,fun j hj=>⟨f j,hcell j hj,i3 j hj⟩⟩;refine AI (v := .pointer (some ⟨b,off+iv.toNat*k,none⟩)) ?_ (G _ _ ?_)
       ·simp only[execOp,J,N7,Aj,d4,asIntOf,An,W,run_underlying hu,a1,hb,and_self,if_true,b4,Du]
       ·refine LC h (Au I D.1) (fun d3=>hX (fun hn=>d3 (by rw[hn];simp))) (i4.drop _)
     ·cases q
    ·rename_i d' hr;split at q
     ·rename_i hd;subst hd;split at q
      ·rename_i k' n cs a2;split at q
       ·rename_i hb;obtain⟨rfl,hb⟩:=hb;cases q;rw[hr] at h0;obtain⟨b,cap,E,_⟩:=(h.ownLow a2).resolve_left (fun hh=>by omega);have a1:a.eval L = .slice (some ⟨b,0,none⟩) n cap:=by rw[a5,h0.2,E]
        refine AI (v := .pointer (some ⟨b,0+iv.toNat*k',none⟩)) ?_ (G _ _ ?_)
        ·simp only[execOp,J,N7,Aj,d4,asIntOf,An,W,run_underlying hu,a1,hb,and_self,if_true,b4,Du]
        ·exact My (p:=⟨b,0,none⟩) h (Au I D.1) (C7 D.2) (by rw[E];rfl) rfl
       ·cases q
      ·cases q
     ·cases q
    ·rename_i k' n cs a2;split at q
     ·rename_i hb;obtain⟨rfl,rfl,hb⟩:=hb;cases q;obtain⟨b,cap,E,_⟩:=(h.ownLow a2).resolve_left (fun hh=>by omega);have a1:a.eval L = .slice (some ⟨b,0,none⟩) n cap:=by rw[a5,E]
      refine AI (v := .pointer (some ⟨b,0+iv.toNat*k',none⟩)) ?_ (G _ _ ?_)
      ·simp only[execOp,J,N7,Aj,d4,asIntOf,An,W,run_underlying hu,a1,hb,and_self,if_true,b4,Du]
      ·exact My (p:=⟨b,0,none⟩) h (Au I D.1) (C7 D.2) (by rw[E];rfl) rfl
     ·cases q
    ·cases q
   ·cases q
  ·cases A
 case lno x d =>
  simp only[Cq] at A;split at A
  ·rename_i args ts J;unfold nY at A;split at A
   ·rename_i L t f3 f4;simp only[U] at A;obtain⟨h1,h2⟩:=A;have E:args=#[L]:=by rw[<- D6 (xs:=args),f3]
    have O:ts=#[t]:=by rw[<- D6 (xs:=ts),f4]
    subst E O;split at h2
    ·rename_i e hu;simp only[A8] at q;have a9:∀ (c8:Option Addr) (n c:Nat),a.eval L = .slice c8 n c->(∀ a' w',Rel Y X0 roots w0 (BD s o.dst (.val (.int .i64 n))) a' w'->K' a' w')->o.wp P a w K' Q:=by
      intro c8 n c H b9;refine AI (v := .int .i64 n) ?_ (b9 _ _ (h.put (Au I D) (.int _ _)));simp[execOp,J,resolve,invoke,builtin,H0,H,run_underlying hu,goInt]
     have a5:=B5 (a:=a) h1;have h0:=h.reg x;split at q
     ·rename_i hr;cases q;rw[hr,<- a5] at h0;generalize a1:a.eval L=xv at h0;cases h0;exact a9 _ _ _ a1 G
     ·rename_i n cs hr;cases q;rw[hr,<- a5] at h0;generalize a1:a.eval L=xv at h0;cases h0 <;> exact a9 _ _ _ a1 G
     ·rename_i d' hr;split at q
      ·rename_i hd;subst hd;split at q
       ·rename_i k n cs a2;cases q;rw[hr] at h0;rcases h.ownLow a2 with ⟨E,rfl,_⟩ | ⟨b,cap,E,_⟩
        ·exact a9 _ _ _ (by rw[a5,h0.2,E]) G
        ·exact a9 _ _ _ (by rw[a5,h0.2,E]) G
       ·cases q
      ·cases q
     ·rename_i k n cs hr;cases q;rcases h.ownLow hr with ⟨E,rfl,_⟩ | ⟨b,cap,E,_⟩
      ·exact a9 _ _ _ (by rw[a5,E]) G
      ·exact a9 _ _ _ (by rw[a5,E]) G
     ·cases q
    ·cases h2
   ·cases A
  ·cases A
theorem simK[Looks P]{o:Oper}{k:K}{oks:List Nat}{F:Bh}{r:Reg}{l:List (Nat × Reg)}{e:Act->World->Prop}(h:Rel Y X0 roots w0 s a w)(f:GA P F)(g:Cq P o.op k=true)(i:∀ t∈oks,BF (Ag s t)=false)(j:B2 roots oks o.dst k=true)
  (b:A8 F s k=some (r,l)) (n:∀ a' w',Rel Y X0 roots w0 (BD (A5 s l) o.dst r) a' w'->e a' w'):o.wp P a w e Q:=by
 by_cases p:Axi k=false
 ·exact Axj h f p g i j b n
 cases k <;> first | exact absurd rfl p | skip
 rename_i y k B ls;simp only[A8] at b;split at b
 case h_2=>cases b
 rename_i m u q;split at b
 case isFalse=>cases b
 rename_i hc;cases b;refine Axj (k := .apd true (.c .nil) y k B) (oks:=oks++ls) (F:=F) h f rfl g (fun t d => ?_) j ?_ n
 ·rcases AK.1 d with d | d
  ·exact i t d
  ·exact NA (AKf.1 hc.1 t d)
 ·simp only[A8,q,Ae hc.2.1,Opd.reg,Ae hc.2.2,if_true]
end
def Yo(ops:Array Oper):Option (Nat × Bool)->Option (Nat × Bool)->Bool
 | none,none=>true
 | some (j,b),some (t,b')=>(ops[j]?).bind (·.dst)==some t&&b==b'
 | _,_=>false
def Alm(roots:List (Nat × Nat))(io:IOp):Bool:=io.g.isNone || CM roots io.ks io.dst
def oOk(P:Program)(roots:List (Nat × Nat))(ops:Array Oper)(o:Oper)(io:IOp):Bool :=
 Cq P o.op io.k&&o.dst==io.dst&&B2 roots io.ks io.dst io.k&&Yo ops o.guard io.g&&Alm roots io
section
variable {P:Program} {Y X0:Nat->Prop} {roots:List (Nat × Nat)} {w0:Base} {w:World} {s:H} {a:Act} {Q:Exit->Act->World->Prop}
theorem lI(h:Rel Y X0 roots w0 s a w){ops:Array Oper}{o:Oper}{g:Option (Nat × Bool)}{b:Bool}(f:Yo ops o.guard g=true)(d:EF s g=some b):J5 o (yielded ops a.tmps)=b:=by
 unfold Yo at f;split at f
 next h1=>simp only[EF,Ac] at d;subst d;simp[J5,h1]
 ·rename_i j k t n h1;simp only[U,AM] at f;obtain⟨h2,rfl⟩:=f;have h0:=h.reg t;simp only[EF] at d;simp only[J5,h1,yielded,h2,AFn];have l:∀ v,a.tmps.getD t A9=v->v ≠ A9->a.tmps[t]? = some v:=by
   intro v e m;rw[A4] at e;cases i:a.tmps[t]? with
   | none=>rw[i] at e;exact absurd e.symm m
   | some u=>rw[i] at e;simp at e;rw[e]
  cases hr:Ag s t with
  | val x =>
   rw[hr] at d h0;generalize e:a.tmps.getD t A9=v at h0;cases h0 with
   | bool c =>
    dsimp only at d;rw[l _ e (by nofun)];simp only[Ac] at d;rw[<- d];cases c <;> cases k <;> rfl
   | undef =>
    dsimp only at d;simp only[Ac] at d;rw[<- d];rw[A4] at e;cases i:a.tmps[t]? with
    | none=>simp
    | some u=>rw[i] at e;simp at e;rw[e];simp[A9]
   | int _ _=>cases d
   | str _=>cases d
   | agg _ _ _ _ _=>cases d
   | tup _ _ _ _=>cases d
   | nil=>cases d
   | nil0=>cases d
   | e0 _ _=>cases d
   | sl _ _ _ _ _ _ _ _ _ _ _=>cases d
   | pt _ _ _ _ _ _ _ _=>cases d
   | fnc _ _ _ _=>cases d
   | io _ _ _ _=>cases d
  | box _=>rw[hr] at d;cases d
  | ptr _ _=>rw[hr] at d;cases d
  | mem _=>rw[hr] at d;cases d
  | own _ _ _=>rw[hr] at d;cases d
  | agn _ _ _ _=>rw[hr] at d;cases d
  | bxl _=>rw[hr] at d;cases d
  | dup _=>rw[hr] at d;cases d
  | sub _ _ _ _=>rw[hr] at d;cases d
  | bxh _ _=>rw[hr] at d;cases d
  | agh _ _=>rw[hr] at d;cases d
  | mp _=>rw[hr] at d;cases d
  | agf _ _=>rw[hr] at d;cases d
  | bxf _ _=>rw[hr] at d;cases d
  | bxg _=>rw[hr] at d;cases d
  | dead=>rw[hr] at d;cases d
 ·cases f
theorem Axk[Looks P]{ops:Array Oper}{i:Nat}{o:Oper}{io:IOp}{F:Bh}{s':H}{f:Act->World->Prop}(h:Rel Y X0 roots w0 s a w)(q:GA P F)(hi:ops[i]? = some o)(ho:oOk P roots ops o io=true)
  (b:Ee F io s=some s') (e:∀ a' w',Rel Y X0 roots w0 s' a' w'->f a' w'):wpOp P ops Q i f a w:=by
 simp only[oOk,U,AM] at ho;obtain⟨⟨⟨⟨h1,h2⟩,j⟩,k⟩,c⟩:=ho;simp only[Ee,Hh] at b;have m:∀ t∈io.ks,BF (Ag (kill s io.ks) t)=false:=fun t u=>by rw[C_,Ae u];rfl
 have h:=h.kill io.ks;generalize kill s io.ks=s at *
 simp only[wpOp,hi];split at b
 ·cases b
 ·rename_i d;cases b;rw[lI h k d];simp only[AC,if_false];rw[h2];refine e _ _ (h.put ?_ .undef);simp only[Alm,CD] at c;rcases c with c | c
  ·cases n:io.g with
   | none=>rw[n] at d;cases d
   | some p=>rw[n] at c;cases c
  ·exact Au m c
 ·rename_i d;rw[lI h k d];simp only[if_true];split at b
  ·cases b
  next r l v=>cases b;rw[<- h2] at e j;exact .inl (simK h q h1 m j v e)
def NM(P:Program)(roots:List (Nat × Nat))(ops:Array Oper):List Oper->List IOp->Bool
 | [],[]=>true
 | o::l,io::m=>oOk P roots ops o io&&NM P roots ops l m
 | _,_=>false
theorem Sl{ops:Array Oper}:∀ {l:List Oper} {m:List IOp},NM P roots ops l m=true->C l=C m/\∀ (i:Nat) (o:Oper) (io:IOp),l[i]? = some o->m[i]? = some io->oOk P roots ops o io=true
 | [],[],_=>⟨rfl,fun i o io h=>(by simp at h)⟩
 | o::l,io::m,h=>by
  simp only[NM,U] at h;obtain⟨a,b⟩:=Sl h.2;refine⟨by simp[a],fun i o' c h1 h2 => ?_⟩;cases i with
  | zero=>simp at h1 h2;subst h1 h2;exact h.1
  | succ i=>simp at h1 h2;exact b i o' c h1 h2
 | [],_::_,h=>by cases h
 | _::_,[],h=>by cases h
theorem Aln[Looks P]{ops:Array Oper}{F:Bh}(e:GA P F):∀ {l:List Oper} {m:List IOp} {k:Nat} {s s':H} {a:Act} {w:World},(∀ j,l[j]? = ops[k+j]?)->NM P roots ops l m=true->Rel Y X0 roots w0 s a w ->
  CY F m s=some s'->(∀ a' w',Rel Y X0 roots w0 s' a' w'->Q .normal a' w')->wpOps P ops Q (WS k (C l)) a w
 | [],[],k,s,s',a,w,_,_,h,b,d=>by
  simp only[CY,Ac] at b;subst b;exact d _ _ h
 | o::l,io::m,k,s,s',a,w,hl,c,h,b,d=>by
  simp only[NM,U] at c;simp only[CY] at b;cases h1:Ee F io s with
  | none=>rw[h1] at b;cases b
  | some g =>
   rw[h1] at b;have hi:ops[k]? = some o:=by simpa using (hl 0).symm
   rw[B1,List.range'_succ,wpOps_cons];exact Axk h e hi c.1 h1 fun a' w' f=>Aln e (fun j=>by have:=hl (j+1);simpa [DC,KG 1 j] using this) c.2 f b d
 | [],_::_,_,_,_,_,_,_,c,_,_,_=>by cases c
 | _::_,[],_,_,_,_,_,_,c,_,_,_=>by cases c
def Fu(o:Oper):List Nat:=(o.after.toList.filter (Region.binds .any)).map (·.on)
def Hj:List Oper->List (List Nat)->List (List Nat)
 | [],a=>a
 | o::l,a=>Hj l (a++[(Fu o++(Fu o).flatMap fun p=>a.getD p []).eraseDups])
theorem wU:∀ (l done:List Oper) (a:List (List Nat)),C a=C done ->
  (∀ (i j:Nat),j∈a.getD i []->∃ o,done[i]? = some o/\∃ p∈Fu o,j=p\/(p<i/\j∈a.getD p [])) ->
  ∀ (i j:Nat),j∈(Hj l a).getD i []->∃ o,(done++l)[i]? = some o/\∃ p∈Fu o,j=p\/(p<i/\j∈(Hj l a).getD p []):=by
 intro l;induction l with
 | nil=>intro done a _ h i j b;simpa [Hj] using h i j b
 | cons o l k =>
  intro done a f h i j b;simp only[Hj] at b |-;have:=k (done++[o]) (a++[(Fu o++(Fu o).flatMap fun p=>a.getD p []).eraseDups]) (by simp[f]) (fun i j b => ?_) i j b
  ·simpa using this
  ·have g:∀ (q x:Nat),x∈a.getD q []->q<C a:=by
    intro q x c;rcases CH q (C a) with h1 | h1
    ·exact h1
    ·rw[Z,AX h1] at c;cases c
   have keep:∀ (q x:Nat),x∈a.getD q []->x∈(a++[(Fu o++(Fu o).flatMap fun p=>a.getD p []).eraseDups]).getD q []:=by
    intro q x c;rw[Z,AO (g q x c),<- Z];exact c
   rcases CH i (C a) with h1 | h1
   ·rw[Z,AO h1,<- Z] at b;obtain⟨o',m,p,e,d⟩:=h i j b;refine⟨o',by rw[AO (by omega)];exact m,p,e,?_⟩;rcases d with d | ⟨d,n⟩
    ·exact .inl d
    ·exact .inr ⟨d,keep p j n⟩
   ·have hi:i=C a:=by
     rcases CH (C a) i with h2 | h2
     ·rw[Z,AX (by simp;omega)] at b;cases b
     ·omega
    subst hi;rw[Z,A_ (Ay _)] at b;simp only[Wo,C2,F6,List.mem_eraseDups,AK,Q2] at b;refine⟨o,by rw[f,A_ (Ay _)];simp,?_⟩;rcases b with b | ⟨p,e,b⟩
    ·exact⟨j,b,.inl rfl⟩
    ·exact⟨p,e,.inr ⟨g p j b,keep p j b⟩⟩
def wV(anc:List (List Nat))(io:List IOp):Bool :=
 io.zipIdx.all fun (b,i)=>(io.take i).zipIdx.all fun (a,j)=>Sg a b || (anc.getD i []).contains j
def QA(ops:List Oper):Bool:=ops.zipIdx.all fun (o,i)=>(Fu o).all fun p=>decide (p<i)
def Tn(ops:Array Oper)(io:List IOp):Bool:=QA ops.toList&&wV (Hj ops.toList []) io
theorem oK{ops:Array Oper}{io:List IOp}(h:Tn ops io=true) :
  (∀ (i:Nat) (o:Oper),ops[i]? = some o->∀ p∈Fu o,p<i) /\
  ∀ (i j:Nat) (a b:IOp),j<i->io[j]? = some a->io[i]? = some b->Sg a b=true\/j∈(Hj ops.toList []).getD i []:=by
 simp only[Tn,U] at h;constructor
 ·intro i o ho p c;have h1:=h.1;simp only[QA,AKf,Prod.forall] at h1;have:=h1 o i (by rw[HY];simpa using ho) p c;simpa using this
 ·intro i j x b d e hi;have h1:=h.2;simp only[wV,AKf,Prod.forall] at h1;have h2:=h1 b i (by rw[HY];simpa using hi);have:=h2 x j (by rw[HY,B8 d];simpa using e);simpa using this
end
section
variable {P:Program} {Y X0:Nat->Prop} {roots:List (Nat × Nat)} {w0:Base} {Q:Exit->Act->World->Prop}
def De(n:Nat)(a:Array Bool):List Nat:=(AZ n).filter fun i => !a.getD i true
theorem F2{n i:Nat}{a:Array Bool}:i∈De n a↔i<n/\a.getD i true=false:=by
 simp[De]
theorem Ju(a:Array Bool)(i j:Nat)(d:Bool):(a.setIfInBounds i true).getD j d=if i=j/\i<a.size then true else a.getD j d:=by
 simp only[A4,Kc];by_cases h:i=j
 ·subst h;by_cases h2:i<a.size <;> simp[h2]
 ·simp[h]
theorem RM{l:List Nat}(hs:l.Pairwise (·<·)){i:Nat}(hi:i∈l):∃ a c,l=a++i::c/\(∀ j∈a,j<i)/\l.filter (fun j=>decide (j ≠ i))=a++c:=by
 induction l with
 | nil=>cases hi
 | cons k l f =>
  rw[XQ] at hs;by_cases d:k=i
  ·subst d;refine⟨[],l,rfl,fun j b=>(by cases b),?_⟩;simp only[Dg];rw[A8q (by simp)];refine Afo.2 fun j b => ?_;have:=hs.1 j b;simp;omega
  ·have e:i∈l:=by
    cases hi with
    | head=>exact absurd rfl d
    | tail _ h=>exact h
   obtain⟨a,c,g,m,n⟩:=f hs.2 e;refine⟨k::a,c,by rw[g];rfl,fun j b => ?_,?_⟩
   ·cases b with
    | head=>exact hs.1 i e
    | tail _ h=>exact m j h
   ·rw[A8r (by simp[d]),n];rfl
theorem IS(n:Nat)(a:Array Bool):(De n a).Pairwise (·<·):=AJg _ List.pairwise_lt_range
theorem Pf{n i:Nat}{a:Array Bool}(hi:i<a.size):De n (a.setIfInBounds i true)=(De n a).filter fun j=>decide (j ≠ i):=by
 unfold De;rw[List.filter_filter];apply List.filter_congr;intro j _;rw[Ju];by_cases h:i=j
 ·subst h;simp[hi]
 ·have b:¬ j=i:=fun e=>h e.symm;simp[h,b]
def To(io:List IOp)(i:Nat):IOp:=io.getD i ⟨none,.mov (.c .undef),none,[]⟩
def Tp(ops:Array Oper)(a:Array Bool):Prop:=∀ (i:Nat) (o:Oper),ops[i]? = some o->a.getD i false=true->∀ p∈Fu o,a.getD p false=true
theorem Pg{ops:Array Oper}{a:Array Bool}(hc:Tp ops a):∀ (i:Nat) (o:Oper),ops[i]? = some o->(∀ p∈Fu o,a.getD p false=true)->∀ j∈(Hj ops.toList []).getD i [],a.getD j false=true:=by
 intro i;induction i using WQ with
 | _ i f =>
  intro o ho c j g;obtain⟨o',b,p,d,k⟩:=wU ops.toList [] [] rfl (fun i j h=>(by simp at h)) i j g;simp only[Dg,E4] at b;rw[ho] at b;cases b;rcases k with rfl | ⟨l,m⟩
  ·exact c _ d
  ·have hl:=c p d;have e:p<ops.size:=by
    have:=(AR.1 ho).1;omega
   exact f p l ops[p] (by simp[e]) (hc p ops[p] (by simp[e]) hl) j m
theorem A8x[Looks P]{ops:Array Oper}{io:List IOp}{F:Bh}{y:H}(M:GA P F)(N:NM P roots ops ops.toList io=true)(O:Tn ops io=true)(z:∀ a' w',Rel Y X0 roots w0 y a' w'->Q .normal a' w') :
  ∀ (g:Nat) (b:Array Bool) (s:H) (a:Act) (w:World),b.size=ops.size->Tp ops b->C (De ops.size b)<=g->Rel Y X0 roots w0 s a w ->
   CY F ((De ops.size b).map (To io)) s=some y->wpAny P .any ops Q g b a w:=by
 obtain⟨R,S⟩:=oK O;obtain⟨T,U⟩:=Sl N;have A:C io=ops.size:=by simpa using T.symm
 have V:∀ (b:Array Bool),b.size=ops.size->Hf .any ops b=[]->De ops.size b=[]:=by
  intro b l hr;cases n:De ops.size b with
  | nil=>rfl
  | cons i W =>
   exfalso;have hi:=F2.1 (n ▸ AKh:i∈De ops.size b);have hs:=IS ops.size b;rw[n,XQ] at hs;have B:i∈Hf .any ops b:=by
    rw[mem_ready];refine⟨hi.2,ops[i],by simp[hi.1],fun e r hb => ?_⟩;have d:e.on∈Fu ops[i]:=by
     simp only[Fu,Cb,Gj];exact⟨e,⟨by simpa using r,hb⟩,rfl⟩
    have a9:=R i ops[i] (by simp[hi.1]) e.on d;cases f:b.getD e.on true with
    | false =>
     have:e.on∈De ops.size b:=F2.2 ⟨by omega,f⟩;rw[n] at this;cases this with
     | head=>omega
     | tail _ h=>have:=hs.1 _ h;omega
    | true =>
     have t:e.on<b.size:=by omega
     simp only[A4,AE t,F6] at f |-;exact f
   rw[hr] at B;cases B
 intro g;induction g with
 | zero =>
  intro b s a w l hc hl h c;have h0:De ops.size b=[]:=Bb (by omega);rw[h0] at c;simp only[C1,CY,Ac] at c;subst c;refine⟨?_,z _ _ h⟩;cases hr:Hf .any ops b with
  | nil=>rfl
  | cons i W =>
   have hi:i∈Hf .any ops b:=by rw[hr];exact AKh
   rw[mem_ready] at hi;obtain⟨h1,o,h2,_⟩:=hi;have:i∈De ops.size b:=F2.2 ⟨(AR.1 h2).1,h1⟩;rw[h0] at this;cases this
 | succ g X =>
  intro b s a w l hc hl h c;refine⟨fun hr => ?_,fun i hi => ?_⟩
  ·rw[V b l hr] at c;simp only[C1,CY,Ac] at c;subst c;exact z _ _ h
  ·rw[mem_ready] at hi;obtain⟨h1,o,h2,h3⟩:=hi;have hin:i<ops.size:=(AR.1 h2).1;have a1:i∈De ops.size b:=F2.2 ⟨hin,h1⟩;obtain⟨a2,b0,u,e2,D⟩:=RM (IS _ _) a1;have E:∀ p∈Fu o,b.getD p false=true:=by
    intro p d;simp only[Fu,Cb,Gj] at d;obtain⟨e,⟨r,hb⟩,rfl⟩:=d;exact h3 e (by simpa using r) hb
   have G:io[i]? = some (To io i):=by
    simp only[To,Z,Af (A ▸ hin),F6]
   have a3:∀ q∈a2.map (To io),Sg q (To io i)=true:=by
    intro q I;rw[Cb] at I;obtain⟨j,J,rfl⟩:=I;have a4:=e2 j J;have a5:j∈De ops.size b:=by rw[u];exact B9 _ J
    have m:=F2.1 a5;have a6:io[j]? = some (To io j):=by
     simp only[To,Z,Af (A ▸ m.1),F6]
    rcases S i j _ _ a4 a6 G with f | f
    ·exact f
    ·have K:=Pg hc i o h2 E j f;have t:j<b.size:=by omega
     simp only[A4,AE t,F6] at K m;rw[K] at m;cases m.2
   rw[u,DU,Bg] at c;obtain⟨s1,a7,L⟩:=nR a3 c;rw[<- DU,<- D,<- Pf (by omega)] at L;refine Axk h M h2 (U i o _ (by simpa using h2) G) a7 fun a' w' h' => ?_;refine X (b.setIfInBounds i true) s1 a' w' (by simpa using l) ?_ ?_ h' L
   ·intro k ok v x p d;rw[Ju] at x;rw[Ju];split
    ·rfl
    ·split at x
     next a8=>obtain⟨rfl,_⟩:=a8;rw[h2] at v;cases v;exact E p d
     ·exact hc k ok v x p d
   ·rw[Pf (by omega),D];rw[u] at hl;simp at hl |-;omega
theorem Aqc[Looks P]{ops:Array Oper}{io:List IOp}{F:Bh}{s b:H}{a:Act}{w:World}{id:Nat}(e:P.follows .mixedOrders=true)(f:GA P F)(c:NM P roots ops ops.toList io=true)(g:Tn ops io=true)
  (h:Rel Y X0 roots w0 s a w) (j:CY F io s=some b) (k:∀ a' w',Rel Y X0 roots w0 b a' w'->Q .normal a' w'):(iO id ops true).wp P Q a w:=by
 have l:=(Sl c).1;refine wp_region_any e ?_;have d:De ops.size (DY ops.size false)=AZ ops.size:=by
  unfold De;refine Afo.2 fun i hi => ?_;have:i<ops.size:=by simpa using hi
  simp[A4,this]
 refine A8x f c g k ops.size _ s a _ (by simp) ?_ (by rw[d];simp) ⟨h.dfr,h.size,⟨h.below.os,h.below.tape,h.below.output,h.below.size,h.below.block⟩,h.low,h.lowY,fun t=>FN.world (h.reg t) ⟨rfl,rfl,rfl,Ay _,fun _ _=>rfl⟩,h.inj⟩ ?_
 ·intro i o ho hl;have hi:=(AR.1 ho).1;simp[A4,hi] at hl
 ·rw[d];have:(AZ ops.size).map (To io)=io:=by
   apply AJl;intro i;have m:C io=ops.size:=by simpa using l.symm
   by_cases hi:i<ops.size
   ·simp[hi,To,Z,Af (m ▸ hi)]
   ·rw[AX (by simp;omega),AX (by omega)]
  rw[this];exact j
theorem Aqd[Looks P]{ops:Array Oper}{io:List IOp}{F:Bh}{s b:H}{a:Act}{w:World}{id:Nat}(c:GA P F)(d:NM P roots ops ops.toList io=true)
  (h:Rel Y X0 roots w0 s a w) (e:CY F io s=some b) (f:∀ a' w',Rel Y X0 roots w0 b a' w'->Q .normal a' w'):(iO id ops false).wp P Q a w:=by
 refine wp_region ?_;have:=Aln (Q:=Q) c (k:=0) (fun j=>by simp) d h e f;rw[AFr];simpa using this
end
end Go.Ai
