/- Texts of the proof of ContactPlaces: part 10 of 17. -/
import Derived.OrdersIn
import Derived.RangeFuncRecord
import Derived.Test.YtenfgdobfjofkaaGreatCpl9
namespace Go.Hp
open Go.Ai Go.RowKit
open _root_.Array renaming foldl_toList->PK,getD_eq_getD_getElem?->Av,getElem?_append_left->RI,getElem?_eq_getElem->A4,getElem?_eq_some_iff->A8,getElem?_setIfInBounds_ne->MX,getElem?_setIfInBounds_self_of_lt->aJ,length_toList->Bt,mapM_eq_mapM_toList->Ke,replicate->Dq
open Bool renaming and_eq_true->U,false_and->M7,false_eq_true->AC,or_eq_true->C7
open Classical renaming epsilon->Agg,epsilon_spec_aux->iA
open Go renaming undef->A0
open Go.Act renaming eval->If,put->aM
open Go.Calls renaming mono->iB
open Go.CallsIn renaming mono->Yk
open Go.Code renaming region->Yv
open Go.Deferred renaming ofValue->D_
open Go.Exit renaming inBlock->Aau
open Go.Fence renaming wide->H7
open Go.Frame renaming atR->A1a
open Go.Region renaming ready->Gg,wanted->Iv
open Go.Result renaming andThen_ok->Aa
open Go.RowKit.Below renaming heap_alloc->F7
open Go.Sem renaming run->Cn,run_bind->Am,run_map->Abc,run_pure->Ap
open Go.Value renaming func->A0n
open Go.World renaming putObj_heap_other->DO,putObj_heap_same->Arq,putObj_size->Qn
open Go.stepG renaming exec->A0m
open Int renaming rec->Ark
open List renaming all_eq_true->A6,append_nil->UF,eq_nil_of_length_eq_zero->A_,getD_eq_getElem?_getD->Z,getElem?_eq_getElem->Ad,getElem?_eq_none->AS,getElem?_eq_some_iff->AZ,getElem?_take_of_lt->BO,getElem_append_left->CD,getElem_append_right->C3,getElem_cons_zero->Bk,getElem_toArray->DV,length->C,length_cons->BF,mapM_cons->EX,mem_append->AF,mem_append_left->EF,mem_append_right->J5,mem_cons->Aw,mem_cons_of_mem->AI,mem_cons_self->A1,mem_filter->H4,mem_map->Dv,mem_range'_1->A1e,mem_zipIdx_iff_getElem?->GS,nil_append->C',pairwise_cons->U1,range->A',range'->TH,range_eq_range'->Aya,rec->BG,size_toArray->Cr,take_add_one->A1j,take_of_length_le->Ej
open Nat renaming add_assoc->Fs,add_comm->S',beq->Au,beq_refl->DM,ble->CM,blt->Jd,blt_eq->Jx,eq_of_beq_eq_true->Aj,le_of_ble_eq_true->SR,le_refl->Ar,le_trans->AR,lt_of_lt_of_le->Ba,lt_or_ge->C6,lt_succ_self->EQ,lt_trichotomy->A1i,not_lt->Agz,rec->Nu,strongRecOn->qR,sub_zero->Tc,zero_add->AJ,zero_le->Cj
open Ne renaming symm->EG
open Option renaming bind_some->Axy,getD_some->EA,rec->GQ
open Option.some renaming inj->AM,injEq->Ab
open Prod.mk renaming injEq->BP
def W0(rd:Option Nat):Fence:={ fn:=fun _=>True,depth:=none,alive:=false,round:=rd }
def SM(μ:Mu)(l:List HV)(vs:Array Value):Prop:=vs.size=C l/\∀ (j:Nat) (h1:j<C l) (h2:j<vs.size),VR μ l[j] vs[j]
theorem SM.append{μ:Mu}{l m:List HV}{us vs:Array Value}(h:SM μ l us)(g:SM μ m vs):SM μ (l++m) (us++vs):=by
 have a:=h.1;have c:=g.1;refine⟨by simp[a,c],fun j h1 h2 => ?_⟩;by_cases b:j<C l
 ·rw[CD b,Array.getElem_append_left (by omega)];exact h.2 j b _
 ·rw[C3 (by omega),Array.getElem_append_right (by omega)];have:=g.2 (j-C l) (by simp at h1;omega) (by simp at h2;omega);simpa [a] using this
def KA(μ:Mu)(s:HS)(w:World)(s':HS)(x:HV):Ending->World->Prop
 | .returned v,w'=>∃ μ',HR μ' s'.h w'/\Step μ s w μ' s' w'/\VR μ' x v
 | _,_=>False
structure HOk (P:Program) (call:B0):Prop where
 qt:QC call
 only:∀ {fv args s r},call fv args s=some r->(∃ fn fs cs,fv = .f fn fs cs)\/∃ b,fv = .y b
 fn:∀ {fn fs cs args s x s'},call (.f fn fs cs) args s=some (x,s')->(∃ F c,P.funcs[fn]? = some F/\O4 F=true/\F.body=some c)/\∀ {μ:Mu} {w:World} {vals:Array Value},HR μ s.h w->D1 μ s.nx s'.nx->SM μ (fs++args++cs) vals->CallsIn H7 0 P fn vals w (KA μ s w s' x)
 yd:∀ {b args s x s'},call (.y b) args s=some (x,s')->∀ {μ:Mu} {w:World} {vals:Array Value} {q:Nat × Nat},HR μ s.h w->D1 μ s.nx s'.nx->μ b=some q->SM μ args vals ->
  ∃ fn tmps asx bd,(Instr.yield q.1 vals).run P w = .ok (.round q.1 fn tmps asx bd) w/\RoundIn H7 0 P q.1 fn tmps asx bd w (KA μ s w s' x)
section
variable {P:Program} {call:B0} {n:Nat} {rd:Option Nat} {ρ:En} {s s':HS} {μ:Mu} {a:Act} {w:World} {o:Oper} {ops:Array Oper} {Q:Exit->Act->World->Prop}
theorem gJ{op:Op}(h:Pp op=true):∃ c f,op = .call c/\c.callee = .value f:=by
 cases op <;> try (cases h;done)
 rename_i c;simp only[Pp] at h;split at h
 next f hf=>exact⟨c,f,rfl,hf⟩
 ·cases h
theorem wJ{c:Call}{f:Operand}{fn:Nat}{F:Func}{g:Code}{us d:Array Value}(h:o.op = .call c)(i:c.callee = .value f)(j:a.eval f = .func (.func fn) us d)(k:P.funcs[fn]? = some F)(b:O4 F=true)(hb:F.body=some g) :
  (execOp a.eval o).run P w = .ok (.enter fn (us++c.args.map a.eval++d)) w:=by
 have hn:¬ F.name = "runtime.NumGoroutine" := by
  unfold O4 at b;intro e;rw[e] at b;cases b
 simp[execOp,h,resolve,i,j,D_,invoke,callFunc,program,Cn,k,hn,hb]
theorem Aqo(hc:HOk P call)(H:HR μ s.h w)(F:FR μ n ρ a.tmps){x:HV}(hf:D1 μ s.nx s'.nx)(h:(A2 P o.op).run call ρ s=some (x,s')){K:Act->World->Prop}
  (j:∀ v μ' w',HR μ' s'.h w'->Step μ s w μ' s' w'->VR μ' x v->K (a.put o.dst v) w'):o.wpIn (W0 rd) 0 P a w K Q:=by
 have G:o.semAt (W0 rd).round a.eval=execOp a.eval o:=Oper.semAt_eq _ _ _ fun c e=>by rw[e] at h;cases h
 refine⟨fun _ _=>trivial,?_⟩;rw[G];cases B:Pp o.op
 ·obtain⟨v,μ',w',g,h1,h2,C⟩:=Atv (P:=P) H F hf B h;rcases g with g | ⟨g,rfl⟩
  ·rw[g];exact j v μ' w' h1 h2 C
  ·rw[g];exact j _ μ' w' h1 h2 C
 ·obtain⟨c,f,l,m⟩:=gJ B;have d:=h;rw[l] at d;simp only[A2,m] at d;obtain⟨fv,I,d⟩:=BB d;obtain⟨vs,J,d⟩:=BB d;obtain⟨D,E⟩:=Pj F J;have k:=B_ F I;rcases hc.only d with ⟨fn,fs,cs,rfl⟩ | ⟨b,rfl⟩
  ·obtain⟨⟨Fn,X,p,r,L⟩,M⟩:=hc.fn d;generalize hu:a.eval f=u at k;cases k with
   | f _ _ _ us N O R S T =>
    rw[wJ (P:=P) (w:=w) l m hu p r L];refine⟨fun e=>(by cases e),?_⟩;have U:SM μ (fs++vs++cs) (us++c.args.map a.eval++N):=SM.append (SM.append ⟨O,S⟩ ⟨D,E⟩) ⟨R,T⟩;have V:=M H hf U;exact Yk (F:=W0 rd) V fun e w' i=>by
     cases e with
     | returned v=>obtain⟨μ',t,z,A⟩:=i;exact j v μ' w' t z A
     | panicked _=>exact i.elim
     | outgrown=>exact i.elim
  ·generalize hu:a.eval f=u at k;cases k with
   | y W =>
    rename_i q;obtain⟨fn,tmps,asx,bd,p,r⟩:=hc.yd d H hf W (vals:=c.args.map a.eval) ⟨D,E⟩;have g:(execOp a.eval o).run P w = .ok (.round q.1 fn tmps asx bd) w:=by
     simp only[execOp,l,resolve,m,hu,D_,Am,Ap,Aa,invoke];have:(#[]:Array Value)++c.args.map a.eval=c.args.map a.eval:=by simp
     rw[this];exact p
    rw[g];refine⟨fun e=>(by cases e),?_⟩;exact RoundIn.mono (F:=W0 rd) r fun e w' i=>by
     cases e with
     | returned v=>obtain⟨μ',t,z,A⟩:=i;exact j v μ' w' t z A
     | panicked _=>exact i.elim
     | outgrown=>exact i.elim
theorem gK{j t:Nat}{b b':Bool}(h:Pq ops (some (j,b))=some (t,b')):(ops[j]?).bind (·.dst)=some t/\b'=b:=by
 simp only[Pq] at h;split at h
 ·rename_i o ho;split at h
  next t' a=>cases h;exact⟨by simp[ho,a],rfl⟩
  ·cases h
 ·cases h
theorem SN{tm:Array Value}(h:∀ q x,Pq ops o.guard=some q->ρ.get q.1=some x->VR μ x (tm.getD q.1 A0)){b:Bool}(e:O3 ρ ops o.guard=some b):Iv o (yielded ops tm)=b:=by
 cases f:o.guard with
 | none =>
  rw[f] at e;simp only[O3,Ab] at e;subst e;simp[Iv,f]
 | some p =>
  obtain⟨j,n⟩:=p;rw[f] at e h;simp only[O3] at e;obtain⟨⟨t,i⟩,k,d⟩:=BB e;clear e;obtain⟨h2,rfl⟩:=gK k;have l:∀ v,tm.getD t A0=v->v ≠ A0->tm[t]? = some v:=by
   intro v a m;rw[Av] at a;cases g:tm[t]? with
   | none=>rw[g] at a;exact absurd a.symm m
   | some u=>rw[g] at a;simp at a;rw[a]
  simp only[Iv,f,yielded,h2,Axy];cases hr:ρ.get t with
  | none=>rw[hr] at d;cases d
  | some x =>
   have h0:=h (t,i) x k hr;simp only at h0;rw[hr] at d;generalize a:tm.getD t A0=v at h0;cases x <;> try (cases d;done)
   ·cases h0;simp only[Ab] at d;rw[l _ a (by nofun),<- d];rename_i c;cases c <;> cases i <;> rfl
   ·cases h0;simp only[Ab] at d;rw[<- d];rw[Av] at a;cases g:tm[t]? with
    | none=>simp
    | some u=>rw[g] at a;simp at a;rw[a];simp[A0]
theorem FR.put(F:FR μ n ρ a.tmps){μ':Mu}(f:∀ a r,μ a=some r->μ' a=some r){d:Option Nat}(hd:Qd n d=true){x:HV}{v:Value}(g:VR μ' x v):FR μ' n (K8 ρ d x) (a.put d v).tmps:=by
 cases d with
 | none=>exact F.mono f
 | some d =>
  have hd:Jd d n=true:=hd;rw[Jx] at hd;have hs:=F.1;refine⟨by simpa [aM] using hs,fun t y b => ?_⟩;rw[Afn] at b;have e:(a.put (some d) v).tmps=a.tmps.setIfInBounds d v:=rfl;rw[e];by_cases c:t=d
  ·subst c;rw[Af rfl] at b;cases b;rw[Av,aJ (by omega)];exact g
  ·rw[Ak fun e=>c (AM e).symm] at b;rw[Av,MX (EG c),<- Av];exact (F.2 t y b).mono f
theorem KB(a:Act)(d:Option Nat)(v:Value):(a.put d v).defers=a.defers:=by cases d <;> rfl
theorem D1.left{μ:Mu}{a b c:Nat}(h:D1 μ a c)(e:b<=c):D1 μ a b:=fun d h1 h2=>h d h1 (by omega)
theorem D1.right{μ μ':Mu}{s a:HS}{w w':World}{c:Nat}(h:D1 μ s.nx c)(q:s.nx<=a.nx)(st:Step μ s w μ' a w'):D1 μ' a.nx c:=fun d h1 h2=>by rw [st.stay d (by omega)];exact h d (by omega) h2
theorem wK(hc:HOk P call)(H:HR μ s.h w)(F:FR μ n ρ a.tmps){i:Nat}{ρ':En}(hi:ops[i]? = some o)(hf:D1 μ s.nx s'.nx)(h:(Dz P call n ops o).run ρ s=some (ρ',s')){K:Act->World->Prop}
  (d:∀ a' μ' w',HR μ' s'.h w'->FR μ' n ρ' a'.tmps->a'.defers=a.defers->Step μ s w μ' s' w'->K a' w'):wpOpIn (W0 rd) 0 P ops Q i K a w:=by
 obtain⟨hd,b,hb,f⟩:=Yf h;have g:=SN (tm:=a.tmps) (fun q x _ c=>F.2 _ _ c) hb;unfold wpOpIn;simp only[hi,g];rcases f with ⟨rfl,x,c,rfl⟩ | ⟨rfl,rfl,rfl⟩
 ·simp only[if_true];exact Aqo hc H F hf c fun v μ' w' h1 h2 j=>d _ μ' w' h1 (F.put h2.le hd j) (KB _ _ _) h2
 ·simp only[AC,if_false];exact⟨fun _ _=>trivial,d _ μ w H (F.put (fun _ _ e=>e) hd .u) (KB _ _ _) (Step.refl _ _ _)⟩
theorem Aac(hc:HOk P call){a0:Act}{μ0:Mu}{b:HS}{w0:World}{ρ':En}:∀ {l:List Oper} {k:Nat} {ρ:En} {s:HS} {μ:Mu} {a:Act} {w:World},(∀ j,l[j]? = ops[k+j]?)->HR μ s.h w->FR μ n ρ a.tmps->a.defers=a0.defers->Step μ0 b w0 μ s w->Qt b s->D1 μ0 b.nx s'.nx ->
  (Cx P call n ops l).run ρ s=some (ρ',s')->(∀ a' μ' w',HR μ' s'.h w'->FR μ' n ρ' a'.tmps->a'.defers=a0.defers->Step μ0 b w0 μ' s' w'->Q .normal a' w')->wpOpsIn (W0 rd) 0 P ops Q (TH k (C l)) a w
 | [],k,ρ,s,μ,a,w,_,H,F,hd,st,_,_,h,c=>by
  cases h;exact c _ _ _ H F hd st
 | o::l,k,ρ,s,μ,a,w,hl,H,F,hd,st,q,hf,h,c=>by
  obtain⟨ρ1,r,h1,h2⟩:=T7 h;have d:=pS hc.qt h1;have e:=SL hc.qt h2;have f:=hf.right q.nx st;have hi:ops[k]? = some o:=by simpa using (hl 0).symm
  rw[BF,List.range'_succ,wpOpsIn_cons];refine wK hc H F hi (f.left e.nx) h1 fun a' μ' w' g i m p => ?_;exact Aac hc (fun j=>by have:=hl (j+1);simpa [Fs,S' 1 j] using this) g i (m.trans hd) (st.trans p q d (hf.left (AR d.nx e.nx))) (q.trans d) hf h2 c
end
noncomputable section
section
variable {P:Program} {call:B0} {n:Nat} {rd:Option Nat} {ops:Array Oper} {Q:Exit->Act->World->Prop}
variable {h0:Tr HO} {ρ0:En} {rs:List Rec} {ρs:Nat->En} {nxs:Nat->Nat} {lgs:Nat->List Nat}
abbrev GP(ops:Array Oper)(i:Nat):List Nat:=(Gl ops.toList []).getD i []
structure Dw (P:Program) (call:B0) (n:Nat) (ops:Array Oper) (h0:Tr HO) (rs:List Rec) (ρs:Nat->En) (nxs:Nat->Nat) (lgs:Nat->List Nat):Prop where
 len:rs.length=ops.size
 op:∀ i o,ops[i]? = some o->∃ r,rs[i]? = some r/\RecF P call ops (ρs i) h0 (nxs i) (nxs (i+1)) (lgs i) (rs.take i) (GP ops i) o r/\Qd n o.dst=true/\ρs (i+1)=K8 (ρs i) o.dst r.v
 apart:∀ i j r r',j<i->rs[j]? = some r->rs[i]? = some r'->BN j (GP ops i)=false->Apart r r' (lgs i)
theorem A0l{k:Nat}(hc:QC call)(e:k=ops.size)(h:DR P call n ops h0 (Gl ops.toList []) rs ρs nxs lgs k):Dw P call n ops h0 rs ρs nxs lgs:=by
 subst e;refine⟨h.len,fun i o ho => ?_,fun i j r r' hji hr a hm => ?_⟩
 ·have hi:=(A8.1 ho).1;obtain⟨o',r,h1,h2,b,c,_,d⟩:=h.op i hi;rw[ho] at h1;cases h1;exact⟨r,h2,pU hc b,c,d⟩
 ·have hi:i<ops.size:=by
   have:=(AZ.1 a).1;have:=h.len;omega
  obtain⟨o',r1,h1,h2,b,c,f,d⟩:=h.op i hi;rw[a] at h2;cases h2;refine gI (O6 f j r ?_ (by simpa using hm));rw[BO hji];exact hr
namespace Dw
variable (h:Dw P call n ops h0 rs ρs nxs lgs)
include h
theorem recd{i:Nat}{r:Rec}(hr:rs[i]? = some r):∃ o,ops[i]? = some o/\RecF P call ops (ρs i) h0 (nxs i) (nxs (i+1)) (lgs i) (rs.take i) (GP ops i) o r/\Qd n o.dst=true/\ρs (i+1)=K8 (ρs i) o.dst r.v:=by
 have hi:i<ops.size:=by
  have:=(AZ.1 hr).1;have:=h.len;omega
 obtain⟨r',h1,h2⟩:=h.op i ops[i] (by simp[hi]);rw[hr] at h1;cases h1;exact⟨ops[i],by simp[hi],h2⟩
theorem lgd(hc:QC call){i a:Nat}{r:Rec}(hr:rs[i]? = some r)(b:a∈lgs i):(∃ o,(Is (GP ops i) h0 (rs.take i)).get a=some o/\∀ l,r.vis=some l->a∈l)\/(nxs i<=a/\a<nxs (i+1)):=by
 obtain⟨o,ho,hf,_⟩:=h.recd hr;rcases hf.run with ⟨_,c,d⟩ | ⟨_,_,_,_,hl⟩
 ·rcases (gA hc d).lgd a b with e | ⟨x,e⟩ | e
  ·cases e
  ·obtain⟨f,g⟩:=A0k e;exact .inl ⟨x,f,fun l hl=>g l (by rw[<- c];exact hl)⟩
  ·exact .inr e
 ·rw[hl] at b;cases b
theorem rdom(hc:QC call){i a:Nat}{r:Rec}{x:HO}(hr:rs[i]? = some r)(hm:BN a r.ks=true)(b:r.h.get a=some x):(∃ o,(Is (GP ops i) h0 (rs.take i)).get a=some o)\/(nxs i<=a/\a<nxs (i+1)):=by
 obtain⟨o,ho,hf,_⟩:=h.recd hr;rcases hf.run with ⟨_,d,c⟩ | ⟨_,_,_,hn,hl⟩
 ·rcases (gA hc c).dom a x b with ⟨y,e⟩ | e
  ·exact .inl ⟨y,(A0k e).1⟩
  ·exact .inr e
 ·rcases (hf.ks a).1 hm with e | e
  ·rw[hl] at e;cases e
  ·exact .inr e
theorem nx_step(hc:QC call){i:Nat}(hi:i<ops.size):nxs i<=nxs (i+1):=by
 obtain⟨r,hr,hf,_⟩:=h.op i ops[i] (by simp[hi]);rcases hf.run with ⟨_,b,a⟩ | ⟨_,_,_,hn,hl⟩
 ·exact (gA hc a).nx
 ·omega
theorem nx_mono (hc : QC call) {i j : Nat} (h1 : i <= j) (h2 : j <= ops.size) : nxs i <= nxs j := by
  induction j with
  | zero => have : i = 0 := by omega
            rw [this]; exact          Ar _
  | succ j ih =>
    rcases           C6 i (j + 1) with h3 | h3
    · exact           AR (ih (by omega) (by omega)) (h.nx_step hc (by omega))
    · have : i = j + 1 := by omega
      rw [this]; exact          Ar _
theorem view_dom(hc:QC call):∀ (i:Nat) {a:Nat} {x:HO},i<=ops.size->(Is (GP ops i) h0 (rs.take i)).get a=some x->(∃ o,h0.get a=some o)\/(nxs 0<=a/\a<nxs i):=by
 intro i;induction i using qR with
 | _ i f =>
  intro a x hi hx;rw[A0j] at hx;split at hx
  ·cases hx
  ·rcases gG (D:=fun j=>BN j (GP ops i)) (a:=a) (rs:=rs.take i) (i:=0) (b:=h0.get a) with e | ⟨k,r,c,m,g,l⟩
   ·rw[e] at hx;exact .inl ⟨x,hx⟩
   ·have d:k<i:=by
     have:=(AZ.1 c).1;simp at this;omega
    rw[BO d] at c;rw[l] at hx;have n:=h.nx_mono hc (i:=0) (j:=k) (Cj _) (by omega);have p:=h.nx_mono hc (i:=k+1) (j:=i) (by omega) hi;have q:=h.nx_step hc (i:=k) (by omega);rcases h.rdom hc c g hx with ⟨y,e⟩ | e
    ·rcases f k d (by omega) e with e | e
     ·exact .inl e
     ·exact .inr ⟨e.1,by omega⟩
    ·exact .inr ⟨by omega,by omega⟩
omit h in
theorem A1h{i j a:Nat}{r:Rec}{x:HO}(hji:j<i)(hr:rs[j]? = some r)(hm:BN a r.ks=true)(hx:(Is (GP ops i) h0 (rs.take i)).get a=some x):BN j (GP ops i)=true:=by
 rw[A0j] at hx
 split at hx
 ·cases hx
 ·rename_i hh
  have:=wH (by simpa using hh) j r (by rw[BO hji];exact hr) hm
  simpa using this
theorem disjoint(hc:QC call)(c:∀ a o,h0.get a=some o->¬ (nxs 0<=a/\a<nxs ops.size)){i j a:Nat}{r r':Rec}(hji:j<i)(hr:rs[j]? = some r)(b:rs[i]? = some r')(hm:BN j (GP ops i)=false)(h1:BN a r.ks=true)(h2:BN a r'.ks=true):False:=by
 have hi:i<ops.size:=by
  have:=(AZ.1 b).1;have:=h.len;omega
 obtain⟨o,_,hf,_⟩:=h.recd hr;obtain⟨o',_,d,_⟩:=h.recd b;have g:nxs i<=a/\a<nxs (i+1):=by
  rcases (d.ks a).1 h2 with e | e
  ·rcases h.lgd hc b e with ⟨x,hx,_⟩ | e
   ·have:=A1h hji hr h1 hx;rw[hm] at this;cases this
   ·exact e
  ·exact e
 have k:=h.nx_mono hc (i:=j+1) (j:=i) (by omega) (by omega);have l:=h.nx_step hc (i:=j) (by omega);rcases (hf.ks a).1 h1 with e | e
 ·rcases h.lgd hc hr e with ⟨x,hx,_⟩ | e
  ·rcases h.view_dom hc j (by omega) hx with ⟨y,f⟩ | e
   ·have m:=h.nx_mono hc (i:=0) (j:=i) (Cj _) (by omega);have n:=h.nx_mono hc (i:=i+1) (j:=ops.size) (by omega) (Ar _);exact c a y f ⟨by omega,by omega⟩
   ·omega
  ·omega
 ·omega
theorem tmps{i:Nat}(hi:i<=ops.size)(a:ρs 0=ρ0)(t:Nat):(ρs i).get t=HZ (fun _=>true) t (rs.take i) 0 (ρ0.get t):=by
 induction i with
 | zero=>rw[a];rfl
 | succ i b =>
  obtain⟨r,hr,hf,hd,c⟩:=h.op i ops[i] (by simp);have f:i<C rs:=by have:=h.len;omega
  have g:rs[i]=r:=by rw[Ad f] at hr;exact AM hr
  rw[c,Afn,A1j,hr];simp only[Option.toList];rw[gH,b (by omega),hf.d];by_cases e:ops[i].dst=some t
  ·rw[Af e,e];simp
  ·rw[Ak e];have:(ops[i].dst==some t)=false:=by simpa using e
   rw[this];simp
end Dw
def DL(a:Array Bool)(i:Nat):Bool:=a.getD i false
theorem Afo{b:Array Bool}(c:Q3 ops b){i j:Nat}(hi:DL b i=true)(hm:BN j (GP ops i)=true):DL b j=true:=by
 cases ho:ops[i]? with
 | none =>
  exfalso;have hm:=Fv.1 hm;have d:∀ (l:List Oper) (a:List (List Nat)),C (Gl l a)=C a+C l:=by
   intro l;induction l with
   | nil=>intro a;simp[Gl]
   | cons o l e=>intro a;simp only[Gl];rw[e];simp;omega
  have:(Gl ops.toList [])[i]? = none:=by
   rw[AS];rw[d];have:=Array.getElem?_eq_none_iff.1 ho;simpa using this
  unfold GP at hm;rw[Z,this] at hm;simp at hm
 | some o=>exact Nq c i o ho (c i o ho hi) j (Fv.1 hm)
structure Sd (μ0:Mu) (h0:Tr HO) (w0:World) (μ:Mu) (w:World) (free:Nat->Prop):Prop where
 le:∀ a r,μ0 a=some r->μ a=some r
 os:w.os=w0.os
 tape:w.tape=w0.tape
 out:w.output=w0.output
 size:w0.heap.size<=w.heap.size
 new:∀ b r,μ b=some r->μ0 b=some r\/(∃ a o,h0.get a=some o/\μ0 a=some r)\/w0.heap.size<=r.1
 frame:∀ r,r<w0.heap.size->(∀ a o q,h0.get a=some o->μ0 a=some q->q.1 ≠ r)->w.heap[r]? = w0.heap[r]?
 stay:∀ b,free b->μ b=μ0 b
structure Inv (P:Program) (n:Nat) (h0:Tr HO) (ρ0:En) (rs:List Rec) (nxs:Nat->Nat) (k:Nat) (μ0:Mu) (w0:World) (a0:Act) (D:Nat->Bool) (μ:Mu) (a:Act) (w:World):Prop where
 size:a.tmps.size=n
 defers:a.defers=a0.defers
 tmp:∀ t x,HZ D t rs 0 (ρ0.get t)=some x->VR μ x (a.tmps.getD t A0)
 obj:∀ b o,Dd D b rs 0 (h0.get b)=some o->∃ r,μ b=some r/\OR μ w r o
 inj:∀ b b' o o' r r',Dd D b rs 0 (h0.get b)=some o->Dd D b' rs 0 (h0.get b')=some o'->μ b=some r->μ b'=some r'->r.1=r'.1->b=b'
 lt:∀ b r,μ b=some r->r.1<w.heap.size
 st:Sd μ0 h0 w0 μ w fun b=>∀ i,i<k->D i=true->¬ (nxs i<=b/\b<nxs (i+1))
end
end
noncomputable section
section
variable {P:Program} {call:B0} {n:Nat} {rd:Option Nat} {ops:Array Oper} {Q:Exit->Act->World->Prop}
variable {h0:Tr HO} {ρ0:En} {rs:List Rec} {ρs:Nat->En} {nxs:Nat->Nat} {lgs:Nat->List Nat}
variable {μ0 μ:Mu} {a0 a:Act} {w0 w:World} {listed:Array Bool}
namespace Dw
variable (h:Dw P call n ops h0 rs ρs nxs lgs)
include h
theorem hd_dom(hc:QC call){D:Nat->Bool}{e:Nat}{x:HO}(c:Dd D e rs 0 (h0.get e)=some x):(∃ o,h0.get e=some o)\/(nxs 0<=e/\e<nxs ops.size):=by
 rcases gG (D:=D) (a:=e) (rs:=rs) (i:=0) (b:=h0.get e) with d | ⟨k,r,d,_,l,m⟩
 ·rw[d] at c;exact .inl ⟨x,c⟩
 ·have n:k<ops.size:=by
   have:=(AZ.1 d).1;have:=h.len;omega
  have p:=h.nx_mono hc (i:=0) (j:=k) (Cj _) (by omega);have q:=h.nx_mono hc (i:=k+1) (j:=ops.size) (by omega) (Ar _);have s:=h.nx_mono hc (i:=k) (j:=ops.size) (by omega) (Ar _);rw[m] at c;rcases h.rdom hc d l c with ⟨y,g⟩ | g
  ·rcases h.view_dom hc k (by omega) g with f | f
   ·exact .inl f
   ·exact .inr ⟨f.1,by omega⟩
  ·exact .inr ⟨by omega,by omega⟩
theorem view_sub(hc:QC call)(p:∀ a o,h0.get a=some o->¬ (nxs 0<=a/\a<nxs ops.size)){D:Nat->Bool}{i:Nat}{o:Oper}{r:Rec}(hr:rs[i]? = some r)(q:r.vis=It (ρs i) o)(s:D i=false)(t:∀ j,BN j (GP ops i)=true->D j=true)(u:∀ j,i<j->D j=true->BN i (GP ops j)=false){b:Nat}{x:HO}
  (c:(ML (Is (GP ops i) h0 (rs.take i)) (It (ρs i) o)).get b=some x):Dd D b rs 0 (h0.get b)=some x:=by
 obtain⟨c,v⟩:=A0k c;have hi:i<ops.size:=by
  have:=(AZ.1 hr).1;have:=h.len;omega
 have w:=c;rw[A0j] at c;split at c
 ·cases c
 ·rename_i k;have k:aD (GP ops i) b (rs.take i) 0=false:=by simpa using k
  rw[<- c];have z:Dd (fun j=>BN j (GP ops i)) b (rs.take i) 0 (h0.get b)=Dd (fun j=>decide (j<i)&&BN j (GP ops i)) b (rs.take i) 0 (h0.get b):=Jw fun j r' g _=>by
   have:j<i:=by
    have:=(AZ.1 g).1;simp at this;omega
   simp[this]
  rw[z,pT fun j r' A _ _=>by simp;omega];refine Jw fun j r' g m => ?_;simp only[AJ];rcases A1i j i with f | f | f
  ·have:=wH k j r' (by rw[BO f];exact g) m;rw[AJ] at this;rw[this,t j this];simp[f]
  ·subst f;rw[s];simp
  ·have B:¬ j<i:=by omega
   simp only[B,decide_false,M7];cases C:D j with
   | false=>rfl
   | true =>
    exfalso;obtain⟨o',_,E,_⟩:=h.recd g;have A:j<ops.size:=by
     have:=(AZ.1 g).1;have:=h.len;omega
    rcases (E.ks b).1 m with e | e
    ·obtain⟨l,h1,h2⟩:=(h.apart j i r r' f hr g (u j f C)).d b e;exact h2 (v l (by rw[<- q];exact h1))
    ·have F:=h.nx_mono hc (i:=i) (j:=j) (by omega) (by omega);have G:=h.nx_mono hc (i:=0) (j:=j) (Cj _) (by omega);have H:=h.nx_mono hc (i:=j+1) (j:=ops.size) (by omega) (Ar _);rcases h.view_dom hc i (by omega) w with ⟨y,n⟩ | n
     ·exact p b y n ⟨by omega,by omega⟩
     ·omega
theorem tmp_sub(l:ρs 0=ρ0){D:Nat->Bool}{i:Nat}{r:Rec}(hr:rs[i]? = some r)(m:D i=false)(n:∀ j,BN j (GP ops i)=true->D j=true)(o:∀ j,i<j->D j=true->BN i (GP ops j)=false){t:Nat}{x:HV}(e:t∈r.tm)
  (f:(ρs i).get t=some x):HZ D t rs 0 (ρ0.get t)=some x:=by
 have hi:i<ops.size:=by
  have:=(AZ.1 hr).1;have:=h.len;omega
 rw[h.tmps (by omega) l] at f;rw[<- f];have p:HZ (fun _=>true) t (rs.take i) 0 (ρ0.get t)=HZ (fun j=>decide (j<i)) t (rs.take i) 0 (ρ0.get t):=O5 fun j r' d _=>by
  have:j<i:=by
   have:=(AZ.1 d).1;simp at this;omega
  simp[this]
 rw[p,wI fun j r' u _ _=>by simp;omega];refine O5 fun j r' d g => ?_;simp only[AJ];rcases A1i j i with c | c | c
 ·simp only[c,decide_true];cases k:BN j (GP ops i) with
  | true=>exact n j k
  | false=>exact absurd e ((h.apart i j r' r c d hr k).a t g)
 ·subst c;rw[m];simp
 ·have q:¬ j<i:=by omega
  simp only[q,decide_false];cases s:D j with
  | false=>rfl
  | true=>exact absurd e ((h.apart j i r r' c hr d (o j c s)).b t g)
end Dw
theorem Aty{i j:Nat}(hi:i<listed.size):DL (listed.setIfInBounds i true) j=if i=j then true else DL listed j:=by
 unfold DL;rw[Il];by_cases e:i=j
 ·rw[Af ⟨e,hi⟩,Af e]
 ·rw[Ak (fun h=>e h.1),Ak e]
theorem pV(hc:HOk P call)(h:Dw P call n ops h0 rs ρs nxs lgs)(a6:∀ a o,h0.get a=some o->¬ (nxs 0<=a/\a<nxs ops.size))(a7:ρs 0=ρ0)(a8:D1 μ0 (nxs 0) (nxs ops.size))(a9:Q3 ops listed)(d2:listed.size=ops.size)
  (I:Inv P n h0 ρ0 rs nxs ops.size μ0 w0 a0 (DL listed) μ a w) {i:Nat} {o:Oper} (hi:ops[i]? = some o) (b0:listed.getD i true=false) (c2:∀ p∈E1 o,listed.getD p false=true) {K:Act->World->Prop}
  (hK:∀ a' μ' w',Inv P n h0 ρ0 rs nxs ops.size μ0 w0 a0 (DL (listed.setIfInBounds i true)) μ' a' w'->K a' w'):wpOpIn (W0 rd) 0 P ops Q i K a w:=by
 have b1:i<ops.size:=(A8.1 hi).1;obtain⟨r,hr,hf,hd,_⟩:=h.op i o hi;have O:DL listed i=false:=by
  unfold DL;rw[Av,A4 (by omega)] at b0 |-;exact b0
 have a1:∀ j,BN j (GP ops i)=true->DL listed j=true:=fun j l=>Nq a9 i o hi c2 j (Fv.1 l);have R:∀ j,i<j->DL listed j=true->BN i (GP ops j)=false:=by
  intro j _ m;cases l:BN i (GP ops j) with
  | false=>rfl
  | true =>
   have:=Afo a9 m l;rw[O] at this;cases this
 have C:∀ j,DL (listed.setIfInBounds i true) j=if i=j then true else DL listed j:=fun j=>Aty (by omega);have c3:FR μ n (SG (ρs i) (Mx ops o)) a.tmps:=⟨I.size,fun t x g=>by
  obtain⟨h1,h2⟩:=Qf g;exact I.tmp t x (h.tmp_sub a7 hr O a1 R (by rw[hf.tm];exact h1) h2)⟩
 have b2:∀ q x,Pq ops o.guard=some q->(ρs i).get q.1=some x->VR μ x (a.tmps.getD q.1 A0):=by
  intro q x T g;refine I.tmp q.1 x (h.tmp_sub a7 hr O a1 R ?_ g);rw[hf.tm];unfold Mx;rw[T];exact A1
 have b3:∀ (μ':Mu) (v:Value),(∀ b q,μ b=some q->μ' b=some q)->VR μ' r.v v->∀ t x,HZ (DL (listed.setIfInBounds i true)) t rs 0 (ρ0.get t)=some x->VR μ' x ((a.put o.dst v).tmps.getD t A0):=by
  intro μ' v c4 U t x g;by_cases S:o.dst=some t
  ·have a2:=Yg (D:=DL (listed.setIfInBounds i true)) (t:=t) (rs:=rs) (i:=0) (k:=i) (r:=r) (b:=ρ0.get t) hr (by rw[AJ,C,Af rfl]) (by rw[hf.d];exact S) fun j r' m A l=>by
    rw[AJ,C,Ak (by omega)];cases E:DL listed j with
    | false=>rfl
    | true=>exact ((h.apart j i r r' m hr A (R j m E)).c t (by rw[hf.d];exact S) l).elim
   rw[a2] at g;cases g;rw[S] at hd |-;have hd:Jd t n=true:=hd;rw[Jx] at hd;have hs:=I.size;show VR μ' r.v ((a.tmps.setIfInBounds t v).getD t A0);rw[Av,aJ (by omega)];exact U
  ·have f:HZ (DL (listed.setIfInBounds i true)) t rs 0 (ρ0.get t)=HZ (DL listed) t rs 0 (ρ0.get t):=O5 fun j r' A l=>by
    rw[AJ,C];by_cases e:i=j
    ·subst e;rw[hr] at A;cases A;exact absurd (hf.d.symm.trans l) S
    ·rw[Ak e]
   rw[f] at g;have hold:=(I.tmp t x g).mono c4;cases c5:o.dst with
   | none=>exact hold
   | some d =>
    have b4:t ≠ d:=fun e=>S (by rw[c5,e]);show VR μ' x ((a.tmps.setIfInBounds d v).getD t A0);rw[Av,MX (EG b4),<- Av];exact hold
 have b5:∀ v,(a.put o.dst v).tmps.size=n:=by
  intro v;rw[<- I.size];cases o.dst <;> simp[aM]
 unfold wpOpIn;rcases hf.run with ⟨hw,U,b6⟩ | ⟨hw,U,c6,d3,c7⟩
 ·-- it is wanted
  have a3:=SN b2 hw;simp only[hi,a3,if_true];have F:∀ b x,(ML (Is (GP ops i) h0 (rs.take i)) (It (ρs i) o)).get b=some x->Dd (DL listed) b rs 0 (h0.get b)=some x:=fun b x g=>h.view_sub hc.qt a6 hr U O a1 R g;have hH:HR μ (ML (Is (GP ops i) h0 (rs.take i)) (It (ρs i) o)) w:=⟨fun b x g=>I.obj b x (F b x g),fun b b' x B q V g M=>I.inj b b' x B q V (F b x g) (F b' B M),I.lt⟩;have m0:=h.nx_mono hc.qt (i:=0) (j:=i) (Cj _) (by omega);have m1:=h.nx_mono hc.qt (i:=i+1) (j:=ops.size) (by omega) (Ar _);have d4:=h.nx_step hc.qt b1;have b7:D1 μ (nxs i) (nxs (i+1)):=by
   intro b h1 h2;rw[I.st.stay b fun j m E hb => ?_]
   ·exact a8 b (by omega) (by omega)
   ·have b4:j ≠ i:=fun e=>by rw[e,O] at E;cases E
    rcases C6 j i with c8 | c8
    ·have:=h.nx_mono hc.qt (i:=j+1) (j:=i) (by omega) (by omega);omega
    ·have:=h.nx_mono hc.qt (i:=i+1) (j:=j) (by omega) (by omega);omega
  have T:=gA hc.qt b6;refine Aqo (s:=⟨ML (Is (GP ops i) h0 (rs.take i)) (It (ρs i) o),nxs i,[]⟩) (s':=⟨r.h,nxs (i+1),lgs i⟩) hc hH c3 b7 b6 fun v μ' w' hH' st hvv=>hK _ μ' w' ?_;have c9:∀ b,BN b r.ks=false->r.h.get b=(ML (Is (GP ops i) h0 (rs.take i)) (It (ρs i) o)).get b:=by
   intro b hb;refine T.keep b (fun e => ?_) fun e => ?_
   ·rw[(hf.ks b).2 (.inl e)] at hb;cases hb
   ·rw[(hf.ks b).2 (.inr e)] at hb;cases hb
  have W:∀ b x,Dd (DL (listed.setIfInBounds i true)) b rs 0 (h0.get b)=some x->r.h.get b=some x\/((ML (Is (GP ops i) h0 (rs.take i)) (It (ρs i) o)).get b=none/\Dd (DL listed) b rs 0 (h0.get b)=some x):=by
   intro b x g;cases l:BN b r.ks with
   | true =>
    have a2:=TB (D:=DL (listed.setIfInBounds i true)) (a:=b) (rs:=rs) (i:=0) (k:=i) (r:=r) (b:=h0.get b) hr (by rw[AJ,C,Af rfl]) l fun j r' m A L=>by
     rw[AJ,C,Ak (by omega)];cases E:DL listed j with
     | false=>rfl
     | true=>exact (h.disjoint hc.qt a6 m hr A (R j m E) l L).elim
    rw[a2] at g;exact .inl g
   | false =>
    have f:Dd (DL (listed.setIfInBounds i true)) b rs 0 (h0.get b)=Dd (DL listed) b rs 0 (h0.get b):=Jw fun j r' A L=>by
     rw[AJ,C];by_cases e:i=j
     ·subst e;rw[hr] at A;cases A;rw[l] at L;cases L
     ·rw[Ak e]
    rw[f] at g;cases hs:(ML (Is (GP ops i) h0 (rs.take i)) (It (ρs i) o)).get b with
    | none=>exact .inr ⟨rfl,g⟩
    | some y =>
     have:=F b y hs;rw[g] at this;cases this;exact .inl ((c9 b l).trans hs)
  have b8:∀ b c x y p q,r.h.get b=some x->(ML (Is (GP ops i) h0 (rs.take i)) (It (ρs i) o)).get c=none->Dd (DL listed) c rs 0 (h0.get c)=some y->μ' b=some p->μ' c=some q->p.1=q.1->b=c:=by
   intro b c x y p q hb d0 G hp H b9;obtain⟨qc,X,_⟩:=I.obj c y G;have:=st.le c qc X;rw[H] at this;cases this;rcases st.new b p hp with e | ⟨d,z,f,J⟩ | e
   ·rcases T.dom b x hb with ⟨z,f⟩ | f
    ·exact I.inj b c z y p q (F b z f) G e X b9
    ·rw[b7 b f.1 f.2] at e;cases e
   ·have:=I.inj d c z y p q (F d z f) G J X b9;rw[this,d0] at f;cases f
   ·have:=I.lt c q X;omega
  refine⟨b5 v,(KB _ _ _).trans I.defers,b3 μ' v st.le hvv,fun b x g => ?_,fun b b' x B p N g M h1 h2 Y => ?_,hH'.lt,?_⟩
  ·rcases W b x g with hb | ⟨a4,hbx⟩
   ·exact hH'.obj b x hb
   ·obtain⟨q,h1,h2⟩:=I.obj b x hbx;refine⟨q,st.le _ _ h1,h2.same st.le (st.frame q.1 h2.lt fun c y V G H e => ?_)⟩;have:=I.inj c b y x V q (F c y G) hbx H h1 e;have c0:(ML (Is (GP ops i) h0 (rs.take i)) (It (ρs i) o)).get c=some y:=G;rw[this,a4] at c0;cases c0
  ·rcases W b x g with hb | ⟨a4,hbx⟩
   ·rcases W b' B M with a5 | ⟨hbn',hbx'⟩
    ·exact hH'.inj b b' x B p N hb a5 h1 h2 Y
    ·exact b8 b b' x B p N hb hbn' hbx' h1 h2 Y
   ·rcases W b' B M with a5 | ⟨hbn',hbx'⟩
    ·exact (b8 b' b B x N p a5 a4 hbx h2 h1 Y.symm).symm
    ·obtain⟨q,g1,_⟩:=I.obj b x hbx;obtain⟨V,c1,_⟩:=I.obj b' B hbx';have f:=st.le _ _ g1;have J:=st.le _ _ c1;rw[h1] at f;cases f;rw[h2] at J;cases J;exact I.inj b b' x B p N hbx hbx' g1 c1 Y
  ·have back:∀ e y q,(ML (Is (GP ops i) h0 (rs.take i)) (It (ρs i) o)).get e=some y->μ e=some q->(∃ b z,h0.get b=some z/\μ0 b=some q)\/w0.heap.size<=q.1:=by
    intro e y q he H;rcases I.st.new e q H with f | f | f
    ·rcases h.hd_dom hc.qt (F e y he) with ⟨z,Z⟩ | Z
     ·exact .inl ⟨e,z,Z,f⟩
     ·rw[a8 e Z.1 Z.2] at f;cases f
    ·exact .inl f
    ·exact .inr f
   refine⟨fun b q e=>st.le b q (I.st.le b q e),st.os.trans I.st.os,st.tape.trans I.st.tape,st.out.trans I.st.out,AR I.st.size st.size,fun b q e => ?_,fun q H hn => ?_,fun b hb => ?_⟩
   ·rcases st.new b q e with e | ⟨d,z,f,J⟩ | e
    ·exact I.st.new b q e
    ·rcases back d z q f J with e3 | e3
     ·exact .inr (.inl e3)
     ·exact .inr (.inr e3)
    ·exact .inr (.inr (AR I.st.size e))
   ·rw[st.frame q (Ba H I.st.size) fun c y p G hp e => ?_]
    ·exact I.st.frame q H hn
    ·rcases back c y p G hp with ⟨b,z,f,J⟩ | e3
     ·exact hn b z p f J e
     ·omega
   ·rw[st.stay b fun e=>hb i b1 (by rw[C,Af rfl]) e];exact I.st.stay b fun j m E=>hb j m (by rw[C];split;rfl;exact E)
 ·-- it is not
  have a3:=SN b2 hw;simp only[hi,a3,AC,if_false];refine⟨fun _ _=>trivial,hK _ μ w ?_⟩;have d1:∀ b,BN b r.ks=false:=by
   intro b;cases l:BN b r.ks with
   | false=>rfl
   | true =>
    rcases (hf.ks b).1 l with e | e
    ·rw[c7] at e;cases e
    ·omega
  have f:∀ b,Dd (DL (listed.setIfInBounds i true)) b rs 0 (h0.get b)=Dd (DL listed) b rs 0 (h0.get b):=fun b=>Jw fun j r' A L=>by
   rw[AJ,C];by_cases e:i=j
   ·subst e;rw[hr] at A;cases A;rw[d1 b] at L;cases L
   ·rw[Ak e]
  refine⟨b5 _,(KB _ _ _).trans I.defers,b3 μ _ (fun _ _ e=>e) (by rw[c6];exact .u),fun b x g=>I.obj b x (by rw[<- f];exact g),fun b b' x B p N g M=>I.inj b b' x B p N (by rw[<- f];exact g) (by rw[<- f];exact M),I.lt,?_⟩;exact⟨I.st.le,I.st.os,I.st.tape,I.st.out,I.st.size,I.st.new,I.st.frame,fun b hb=>I.st.stay b fun j m E=>hb j m (by rw[C];split;rfl;exact E)⟩
end
end
noncomputable section
section
variable {P:Program} {call:B0} {n:Nat} {rd:Option Nat} {ops:Array Oper} {Q:Exit->Act->World->Prop}
variable {h0:Tr HO} {ρ0:En} {rs:List Rec} {ρs:Nat->En} {nxs:Nat->Nat} {lgs:Nat->List Nat}
variable {μ0 μ:Mu} {a0 a:Act} {w0 w:World}
theorem gL(h:OG ops.toList=true):∀ (i:Nat) (o:Oper),ops[i]? = some o->∀ p∈E1 o,p<i:=by
 intro i o ho p a;simp only[OG,A6,Prod.forall] at h;have:=h o i (by rw[GS];simpa using ho) p a;simpa using this
theorem Afp(f:∀ (i:Nat) (o:Oper),ops[i]? = some o->∀ p∈E1 o,p<i){a:Array Bool}(l:a.size=ops.size)(hr:Gg .any ops a=[]):CA ops.size a=[]:=by
 cases b:CA ops.size a with
 | nil=>rfl
 | cons i m =>
  exfalso;have hi:=E6.1 (b ▸ A1:i∈CA ops.size a);have hs:=HE ops.size a;rw[b,U1] at hs;have d:i∈Gg .any ops a:=by
   rw[mem_ready];refine⟨hi.2,ops[i],by simp[hi.1],fun e g hb => ?_⟩;have j:e.on∈E1 ops[i]:=by
    simp only[E1,Dv,H4];exact⟨e,⟨by simpa using g,hb⟩,rfl⟩
   have n:=f i ops[i] (by simp[hi.1]) e.on j;cases c:a.getD e.on true with
   | false =>
    have:e.on∈CA ops.size a:=E6.2 ⟨by omega,c⟩;rw[b] at this;cases this with
    | head=>omega
    | tail _ h=>have:=hs.1 _ h;omega
   | true =>
    have k:e.on<a.size:=by omega
    simp only[Av,A4 k,EA] at c |-;exact c
  rw[hr] at d;cases d
theorem wL(hc:HOk P call)(h:Dw P call n ops h0 rs ρs nxs lgs)(s:∀ (i:Nat) (o:Oper),ops[i]? = some o->∀ p∈E1 o,p<i)(t:∀ a o,h0.get a=some o->¬ (nxs 0<=a/\a<nxs ops.size))(u:ρs 0=ρ0)(v:D1 μ0 (nxs 0) (nxs ops.size))
  (x:∀ (D:Nat->Bool) μ a w,(∀ j,j<ops.size->D j=true)->Inv P n h0 ρ0 rs nxs ops.size μ0 w0 a0 D μ a w->Q .normal a w) :
  ∀ (d:Nat) (b:Array Bool) (μ:Mu) (a:Act) (w:World),b.size=ops.size->Q3 ops b->C (CA ops.size b)<=d->Inv P n h0 ρ0 rs nxs ops.size μ0 w0 a0 (DL b) μ a w->wpAnyIn (W0 rd) 0 P .any ops Q d b a w:=by
 have done:∀ (b:Array Bool) (μ:Mu) (a:Act) (w:World),b.size=ops.size->CA ops.size b=[]->Inv P n h0 ρ0 rs nxs ops.size μ0 w0 a0 (DL b) μ a w->Q .normal a w:=by
  intro b μ a w c y I;refine x (DL b) μ a w (fun j z => ?_) I;cases g:DL b j with
  | true=>rfl
  | false =>
   have:j∈CA ops.size b:=by
    rw[E6];refine⟨z,?_⟩;unfold DL at g;rw[Av,A4 (by omega)] at g |-;exact g
   rw[y] at this;cases this
 intro d;induction d with
 | zero =>
  intro b μ a w c l hl I;have e0:CA ops.size b=[]:=A_ (by omega);refine⟨?_,done b μ a w c e0 I⟩;cases hr:Gg .any ops b with
  | nil=>rfl
  | cons i K =>
   have hi:i∈Gg .any ops b:=by rw[hr];exact A1
   rw[mem_ready] at hi;obtain⟨h1,o,h2,_⟩:=hi;have:i∈CA ops.size b:=E6.2 ⟨(A8.1 h2).1,h1⟩;rw[e0] at this;cases this
 | succ d A =>
  intro b μ a w c l hl I;refine⟨fun hr=>done b μ a w c (Afp s c hr) I,fun i hi => ?_⟩;rw[mem_ready] at hi;obtain⟨h1,o,h2,B⟩:=hi;have hin:i<ops.size:=(A8.1 h2).1;have E:i∈CA ops.size b:=E6.2 ⟨hin,h1⟩;have r:∀ p∈E1 o,b.getD p false=true:=by
   intro p f;simp only[E1,Dv,H4] at f;obtain⟨e,⟨F,hb⟩,rfl⟩:=f;exact B e (by simpa using F) hb
  refine pV hc h t u v l c I h2 h1 r fun a' μ' w' I' => ?_;refine A (b.setIfInBounds i true) μ' a' w' (by simpa using c) ?_ ?_ I'
  ·intro k ok m q p f;rw[Il] at q;rw[Il];split
   ·rfl
   ·split at q
    next G=>obtain⟨rfl,_⟩:=G;rw[h2] at m;cases m;exact r p f
    ·exact l k ok m q p f
  ·rw[Np (by omega)];obtain⟨L,M,H,_,J⟩:=P2 (HE _ _) E;rw[J];rw[H] at hl;simp at hl |-;omega
theorem TC{ρ ρ':En}{s s':HS}(hc:QC call)(h:Ux P call n ops ρ s=some (ρ',s')):OG ops.toList=true/\∃ rs ρs nxs lgs,Dw P call n ops s.h rs ρs nxs lgs/\ρs 0=ρ/\nxs 0=s.nx/\ρs ops.size=ρ'/\s'.h=Ps rs s.h/\s'.nx=nxs ops.size/\∀ a,a∈s'.lg↔(∃ i,i<ops.size/\a∈lgs i)\/a∈s.lg:=by
 obtain⟨hb,h⟩:=A9 h;obtain⟨rs,ρs,nxs,lgs,b,f,g,c,k,d,e⟩:=Yh (ancs:=Gl ops.toList []) ops.toList (Gl ops.toList []) 0 ρ s.nx [] [] (fun _=>ρ) (fun _=>s.nx) (fun _=>[]) (fun j=>by simp) (fun j=>by simp)
  ⟨rfl,fun i hi=>by omega⟩ rfl rfl (fun a=>⟨fun h=>(by cases h),fun ⟨i,hi,_⟩=>(by omega)⟩) h
 simp only[AJ,Bt] at b c d e;exact⟨hb,rs,ρs,nxs,lgs,A0l hc rfl b,f,g,c,k,d,e⟩
theorem wM{ρ ρ':En}{s s':HS}(hc:QC call)(h:Ux P call n ops ρ s=some (ρ',s')):Qt s s':=by
 obtain⟨_,rs,ρs,nxs,lgs,b,q,t,u,k,v,d⟩:=TC hc h;have w:=b.nx_mono hc (i:=0) (j:=ops.size) (Cj _) (Ar _);have m:∀ {i a:Nat} {r:Rec},rs[i]? = some r->BN a r.ks=true->a∈s'.lg\/(s.nx<=a/\a<s'.nx):=by
  intro i a r hr f;obtain⟨o,ho,hf,_⟩:=b.recd hr;have hi:=(A8.1 ho).1;rcases (hf.ks a).1 f with e | e
  ·exact .inl ((d a).2 (.inl ⟨i,hi,e⟩))
  ·have p:=b.nx_mono hc (i:=0) (j:=i) (Cj _) (by omega);have l:=b.nx_mono hc (i:=i+1) (j:=ops.size) (by omega) (Ar _);exact .inr ⟨by omega,by omega⟩
 refine⟨by omega,fun a g=>(d a).2 (.inr g),fun a x c => ?_,fun a h1 h2 => ?_,fun a g => ?_⟩
 ·rw[k,K9 a rs 0] at c;rcases b.hd_dom hc c with e | e
  ·exact .inl e
  ·exact .inr ⟨by omega,by omega⟩
 ·rw[k,K9 a rs 0];exact IP fun j r hr f=>by
   rcases m hr f with e | e
   ·exact absurd e h1
   ·exact absurd e h2
 ·rcases (d a).1 g with ⟨i,hi,e⟩ | e
  ·obtain⟨r,hr,_⟩:=b.op i ops[i] (by simp[hi]);rcases b.lgd hc hr e with ⟨x,c,_⟩ | e
   ·rcases b.view_dom hc i (by omega) c with e | e
    ·exact .inr (.inl e)
    ·have l:=b.nx_mono hc (i:=i) (j:=ops.size) (by omega) (Ar _);exact .inr (.inr ⟨by omega,by omega⟩)
   ·have p:=b.nx_mono hc (i:=0) (j:=i) (Cj _) (by omega);have l:=b.nx_mono hc (i:=i+1) (j:=ops.size) (by omega) (Ar _);exact .inr (.inr ⟨by omega,by omega⟩)
  ·exact .inl e
theorem Aqp(y:P.follows .mixedOrders=true)(hc:HOk P call){ρ ρ':En}{s s':HS}{id:Nat}(H:HR μ s.h w)(F:FR μ n ρ a.tmps)(hf:D1 μ s.nx s'.nx)(h:Ux P call n ops ρ s=some (ρ',s'))
  (z:∀ a' μ' w',HR μ' s'.h w'->FR μ' n ρ' a'.tmps->a'.defers=a.defers->Step μ s w μ' s' w'->Q .normal a' w'):(Yv id ops true).wpIn (W0 rd) 0 P Q a w:=by
 obtain⟨hb,rs,ρs,nxs,lgs,c,l,A,B,E,G,M⟩:=TC hc.qt h;have m:D1 μ (nxs 0) (nxs ops.size):=by rw[A,<- G];exact hf
 have J:∀ b o,s.h.get b=some o->¬ (nxs 0<=b/\b<nxs ops.size):=by
  intro b o K hr;obtain⟨q,p,_⟩:=H.obj b o K;rw[m b hr.1 hr.2] at p;cases p
 refine wpIn_region_any y (wL (μ0:=μ) (w0:=w) (a0:=a) hc c (gL hb) J l m (fun D μ' a' w' u I => ?_) ops.size _ μ a _ (by simp) ?_ ?_ ?_)
 ·have f:∀ b,Dd D b rs 0 (s.h.get b)=s'.h.get b:=by
   intro b;rw[E,K9 b rs 0];refine Jw fun j r hr _ => ?_;have:j<ops.size:=by
    have:=(AZ.1 hr).1;have:=c.len;omega
   rw[AJ,u j this]
  refine z a' μ' w' ⟨fun b o hb=>I.obj b o (by rw[f];exact hb),fun b b' o o' q g h1 h2=>I.inj b b' o o' q g (by rw[f];exact h1) (by rw[f];exact h2),I.lt⟩ ⟨I.size,fun t x d=>I.tmp t x ?_⟩ I.defers ?_
  ·rw[<- B,c.tmps (Ar _) l,Ej (by rw[c.len];exact Ar _)] at d;rw[<- d];refine O5 fun j r hr _ => ?_;have:j<ops.size:=by
    have:=(AZ.1 hr).1;have:=c.len;omega
   rw[AJ,u j this]
  ·refine⟨I.st.le,I.st.os,I.st.tape,I.st.out,I.st.size,I.st.new,I.st.frame,fun b hb=>I.st.stay b fun i hi _ hr=>hb ?_⟩;have N:=c.nx_mono hc.qt (i:=0) (j:=i) (Cj _) (by omega);have O:=c.nx_mono hc.qt (i:=i+1) (j:=ops.size) (by omega) (Ar _);omega
 ·intro i o ho hl;have hi:=(A8.1 ho).1;simp[Av,hi] at hl
 ·have:C (CA ops.size (Dq ops.size false))<=C (A' ops.size):=List.length_filter_le _ _;simpa using this
 ·have v:∀ j,DL (Dq ops.size false) j=false:=by
   intro j;unfold DL;by_cases L:j<ops.size <;> simp[Av,L]
  have k:∀ b,Dd (DL (Dq ops.size false)) b rs 0 (s.h.get b)=s.h.get b:=fun b=>IP fun j r _ _=>v _;refine⟨F.1,rfl,fun t x d=>F.2 t x ?_,fun b o hb => ?_,fun b b' o o' q g h1 h2=>H.inj b b' o o' q g (by rw[<- k];exact h1) (by rw[<- k];exact h2),H.lt,⟨fun _ _ e=>e,rfl,rfl,rfl,Ar _,fun _ _ e => .inl e,fun _ _ _=>rfl,fun _ _=>rfl⟩⟩
  ·rw[My fun j r _ _=>v _] at d;exact d
  ·rw[k] at hb;obtain⟨q,h1,h2⟩:=H.obj b o hb;exact⟨q,h1,h2.same (fun _ _ e=>e) rfl⟩
theorem Yl(hc:QC call){a:Bool}{ρ ρ':En}{s s':HS}(h:(evR P call n ops a).run ρ s=some (ρ',s')):Qt s s':=by
 cases a
 ·exact SL hc h
 ·exact wM hc h
theorem wN(d:P.follows .mixedOrders=true)(hc:HOk P call){b:Bool}{ρ ρ':En}{s s':HS}{id:Nat}(H:HR μ s.h w)(F:FR μ n ρ a.tmps)(hf:D1 μ s.nx s'.nx)(h:(evR P call n ops b).run ρ s=some (ρ',s'))
  (c:∀ a' μ' w',HR μ' s'.h w'->FR μ' n ρ' a'.tmps->a'.defers=a.defers->Step μ s w μ' s' w'->Q .normal a' w'):(Yv id ops b).wpIn (W0 rd) 0 P Q a w:=by
 cases b
 ·refine wpIn_region ?_;rw[Aya];have:=Aac (Q:=Q) (rd:=rd) hc (a0:=a) (k:=0) (l:=ops.toList) (fun j=>by simp) H F rfl (Step.refl _ _ _) (Qt.refl _) hf h c;simpa using this
 ·exact Aqp d hc H F hf h c
end
end
noncomputable section
section
variable {P:Program} {call:B0} {n:Nat} {fuel:Nat}
theorem KD{r:RC}{k:En->HS->RC}{q:Ex × En × HS}(h:SI r k=some q):(∃ ρ s,r=some (.norm,ρ,s)/\k ρ s=some q)\/(r=some q/\q.1 ≠ .norm):=by
 obtain⟨⟨ex,ρ,s⟩,h1,h⟩:=BB h;cases ex with
 | norm=>exact .inl ⟨ρ,s,h1,h⟩
 | exit i=>cases h;exact .inr ⟨h1,nofun⟩
 | ret=>cases h;exact .inr ⟨h1,nofun⟩
theorem O7{id:Nat}{r:RC}{q:Ex × En × HS}(h:Pt id r=some q):∃ ex,r=some (ex,q.2)/\((ex = .exit id/\q.1 = .norm)\/(ex=q.1/\ex ≠ .exit id)):=by
 obtain⟨⟨ex,ρ,s⟩,h1,h⟩:=BB h;cases ex with
 | norm=>cases h;exact⟨_,h1,.inr ⟨rfl,nofun⟩⟩
 | ret=>cases h;exact⟨_,h1,.inr ⟨rfl,nofun⟩⟩
 | exit i =>
  cases hb:Au i id
  ·have h:Dh (Au i id) (some (Ex.norm,ρ,s)) (some (Ex.exit i,ρ,s))=some q:=h;rw[hb] at h;cases h;exact⟨_,h1,.inr ⟨rfl,fun e=>by cases e;rw[DM] at hb;cases hb⟩⟩
  ·have h:Dh (Au i id) (some (Ex.norm,ρ,s)) (some (Ex.exit i,ρ,s))=some q:=h;rw[hb] at h;cases h;have:=Aj hb;subst this;exact⟨_,h1,.inl ⟨rfl,rfl⟩⟩
theorem LD{α:Type}{o:Option HO}{k:En->Nat->List Nat->Code->Code->LoopState->Option Code->Option α}{x:α}(h:asL o k=some x):∃ ρ n ps asx bd st j,o=some (.l ρ n ps asx bd st j)/\k ρ n ps asx bd st j=some x:=by
 unfold asL at h;split at h
 ·exact⟨_,_,_,_,_,_,_,rfl,h⟩
 ·cases h
theorem pW{a:MC}(b:∀ ρ s ex ρ' s',a.run ρ s=some (ex,ρ',s')->Qt s s'):∀ (f:Nat) {ρ s ex ρ' s'},Qe f a ρ s=some (ex,ρ',s')->Qt s s':=by
 intro f;induction f with
 | zero=>intro ρ s ex ρ' s' h;cases h
 | succ f c =>
  intro ρ s ex ρ' s' h;have h:SI (a.run ρ s) (Qe f a)=some (ex,ρ',s'):=h;rcases KD h with ⟨ρ1,d,h1,h2⟩ | ⟨h1,_⟩
  ·exact (b _ _ _ _ _ h1).trans (c h2)
  ·exact b _ _ _ _ _ h1
theorem KE(hc:QC call){rd:Bool}:∀ (c:Code) {ρ:En} {s:HS} {ex:Ex} {ρ':En} {s':HS},(B1 P call n rd fuel c).run ρ s=some (ex,ρ',s')->Qt s s':=by
 intro c;induction c with
 | skip=>intro ρ s ex ρ' s' h;cases h;exact Qt.refl _
 | label l=>intro ρ s ex ρ' s' h;cases h;exact Qt.refl _
 | exit id=>intro ρ s ex ρ' s' h;cases h;exact Qt.refl _
 | ret=>intro ρ s ex ρ' s' h;cases h;exact Qt.refl _
 | goto l=>intro ρ s ex ρ' s' h;cases h
 | refuse w=>intro ρ s ex ρ' s' h;cases h
 | region id ops i =>
  intro ρ s ex ρ' s' h;have h:Aqm (evR P call n ops i) ρ s=some (ex,ρ',s'):=h;obtain⟨⟨ρ1,k⟩,h1,h⟩:=BB h;cases h;exact Yl hc h1
 | seq a b e g =>
  intro ρ s ex ρ' s' h;have h:SI ((B1 P call n rd fuel a).run ρ s) (B1 P call n rd fuel b).run=some (ex,ρ',s'):=h;rcases KD h with ⟨ρ1,k,h1,h2⟩ | ⟨h1,_⟩
  ·exact (e h1).trans (g h2)
  ·exact e h1
 | cond x a b e g =>
  intro ρ s ex ρ' s' h;have h:wF x (B1 P call n rd fuel a) (B1 P call n rd fuel b) ρ s=some (ex,ρ',s'):=h;obtain⟨v,_,h⟩:=BB h;obtain⟨t,_,h⟩:=Ph h;cases t
  ·exact g h
  ·exact e h
 | block id a d =>
  intro ρ s ex ρ' s' h;have h:Pt id ((B1 P call n rd fuel a).run ρ s)=some (ex,ρ',s'):=h;obtain⟨m,h1,_⟩:=O7 h;exact d h1
 | loop a d =>
  intro ρ s ex ρ' s' h;exact pW (a:=B1 P call n rd fuel a) (fun _ _ _ _ _ h=>d h) fuel h
 | scope a d=>intro ρ s ex ρ' s' h;exact d h
 | rangeFunc f ps asx bd _ _ =>
  intro ρ s ex ρ' s' h;cases rd
  ·have h:gF call n f ps.toList asx bd ρ s=some (ex,ρ',s'):=h;obtain⟨fv,_,h⟩:=BB h;obtain⟨_,h⟩:=A9 h;obtain⟨⟨x,o⟩,h1,h⟩:=BB h;obtain⟨ρ1,p,q,r,u,st,j,h2,h⟩:=LD h;obtain⟨_,h⟩:=A9 h;obtain⟨m,_,h⟩:=BB h;cases h;exact ((Qt.new _ _).trans (hc _ _ _ _ _ h1)).trans (Qt.turn h2)
  ·cases h
def MK(B:Nat)(μ:Mu)(h:Tr HO)(a:List Deferred)(w:World):Prop :=
 ∃ rs:List Nat,a=rs.map (fun r=>{ target := .collected r,args:=#[] })/\rs.Nodup/\∀ r∈rs,B<=r/\w.heap[r]? = some (.deferred (some []))/\∀ b o q,h.get b=some o->μ b=some q->q.1 ≠ r
theorem MK.nil{B:Nat}{μ:Mu}{h:Tr HO}{w:World}:MK B μ h [] w:=⟨[],rfl,List.nodup_nil,fun r hr=>by cases hr⟩
theorem MK.step{B:Nat}{μ μ':Mu}{s s':HS}{i:List Deferred}{w w':World}(h:MK B μ s.h i w)(st:Step μ s w μ' s' w')(q:Qt s s')(hf:D1 μ s.nx s'.nx):MK B μ' s'.h i w':=by
 obtain⟨rs,h1,h2,k⟩:=h;refine⟨rs,h1,h2,fun r hr => ?_⟩;obtain⟨l,j,f⟩:=k r hr;have m:=(A8.1 j).1;refine⟨l,(st.frame r m fun b o p hb g=>f b o p hb g).trans j,fun b o p hb g e => ?_⟩;rcases st.new b p g with a | ⟨c,o',a,d⟩ | a
 ·rcases q.dom b o hb with ⟨o',d⟩ | d
  ·exact f b o' p d a e
  ·rw[hf b d.1 d.2] at a;cases a
 ·exact f c o' p a d e
 ·omega
theorem HR.alloc{μ:Mu}{h:Tr HO}{w:World}(H:HR μ h w)(x:Obj):HR μ h (w.alloc x) :=
 ⟨fun b o hb=>let ⟨q,h1,h2⟩:=H.obj b o hb; ⟨q,h1,h2.same (fun _ _ e=>e) (F7 _ _ _ h2.lt)⟩,H.inj,fun b q hb=>by have:=H.lt b q hb;show q.1<(w.heap.push _).size;simp;omega⟩
theorem Step.before{μ μ':Mu}{s s':HS}{w a w':World}(st:Step μ s a μ' s' w')(c:a.os=w.os)(d:a.tape=w.tape)(ho:a.output=w.output)(hs:w.heap.size<=a.heap.size)(f:∀ r,r<w.heap.size->a.heap[r]? = w.heap[r]?):Step μ s w μ' s' w' :=
 ⟨st.le,st.os.trans c,st.tape.trans d,st.out.trans ho,AR hs st.size,fun b q e=>(st.new b q e).imp id (fun e=>e.imp id fun e=>AR hs e),fun r hr hn=>(st.frame r (Ba hr hs) hn).trans (f r hr),st.stay⟩
theorem Qg{μ:Mu}{s:HS}{w:World}(H:HR μ s.h w){b:Nat}{q:Nat × Nat}{ρ:En}{m:Nat}{ps:List Nat}{asx bd:Code}{st:LoopState}{j:Option Code}(hb:s.h.get b=some (.l ρ m ps asx bd st j))(d:μ b=some q)(a:LoopState)(c:Option Code) :
  ∃ L:Loop,w.heap[q.1]? = some (.loop L)/\L.state=st/\L.pending=j/\L.params=ps.toArray/\L.assign=asx/\L.body=bd/\FR μ m ρ L.tmps /\
   HR μ (H2 s b (.l ρ m ps asx bd a c)).h (w.putObj q.1 (.loop { L with state:=a,pending:=c }))/\Step μ s w μ (H2 s b (.l ρ m ps asx bd a c)) (w.putObj q.1 (.loop { L with state:=a,pending:=c })):=by
 obtain⟨L,h1,h2,e,f,i,k,g⟩:=H.at hb d;have n:=(A8.1 h1).1;refine⟨L,h1,i,k,h2,e,f,g,H.turn hb d (by simp) (fun b hb=>DO hb) ⟨_,Arq n,h2,e,f,rfl,rfl,g⟩,Step.turn hb d rfl rfl rfl (by simp) fun b hb=>DO hb⟩
theorem FR.flush{μ:Mu}{ρ:En}{tm:Array Value}(F:FR μ n ρ tm):FR μ n ρ.flush tm:=⟨F.1,fun t x a=>F.2 t x (PF a)⟩
theorem wO{a:MC}{f:Nat}{ρ:En}{s:HS}{q:Ex × En × HS}(h:Qe (f+1) a ρ s=some q):(∃ ρ1 b,a.run ρ s=some (.norm,ρ1,b)/\Qe f a ρ1 b=some q)\/(a.run ρ s=some q/\q.1 ≠ .norm):=KD h
section
variable{b:Frame}{a:Act}{c:Code}{k:List Item}{cs:List Frame}{w:World}
theorem GF:step P (lone (b.atR a (.code (.scope c)::k)) cs w) = .next (lone (b.atR a (.code c :: .inScope c::k)) cs w) :=
 step_lone_go (by simp[stepG,A0m,A1a])
theorem Ym:step P (lone (b.atR a (.inScope c::k)) cs w) = .next (lone (b.atR a k) cs w) :=
 step_lone_go (by simp[stepG,A0m,A1a])
end
theorem pX{F:Fence}{m:Nat}{Q:Exit->Act->World->Prop}{a:Act}{w:World}{c:Code}(h:c.wpIn F m P (Exit.noGoto Q) a w):(Code.scope c).wpIn F m P Q a w:=by
 intro b k cs o hb hr;have h0:(lone (b.atR a (.code (.scope c)::k)) cs w).fenced P F:=fenced_calm hb hr rfl;obtain⟨e,d,i,f,g⟩:=h b (.inScope c::k) cs o hb hr;cases e with
 | normal=>exact⟨.normal,d,i,f,.head h0 GF (StepsIn.trans g (.one (fenced_calm (fr:=b.atR d (.inScope c::k)) hb hr rfl) Ym))⟩
 | exit id =>
  have n:exitTo id (.inScope c::k)=exitTo id k:=by simp[exitTo]
  exact⟨.exit id,d,i,f,fun p j => .head h0 GF (g.1 p (by rw[n];exact j)),fun q j=>let ⟨k₁,h1,h2⟩:=g.2 q (by rw[n];exact j); ⟨k₁,h1,.head h0 GF h2⟩⟩
 | goto l=>exact f.elim
 | ret=>exact⟨_,d,i,f,.of_steps (.one h0 GF) g⟩
 | panic r=>exact⟨_,d,i,f,.of_steps (.one h0 GF) g⟩
 | outgrown=>exact⟨_,d,i,f,.of_steps (.one h0 GF) g⟩
theorem Yn(hm:P.follows .mixedOrders=true)(hc:HOk P call){B:Nat}{rd:Option Nat}:∀ (c:Code) {ρ:En} {s:HS} {ex:Ex} {ρ':En} {s':HS} {μ:Mu} {a:Act} {w:World} {Q:Exit->Act->World->Prop},(B1 P call n rd.isSome fuel c).run ρ s=some (ex,ρ',s') ->
  HR μ s.h w->FR μ n ρ a.tmps->MK B μ s.h a.defers w->B<=w.heap.size->D1 μ s.nx s'.nx->(∀ μ' a' w',HR μ' s'.h w'->FR μ' n ρ' a'.tmps->MK B μ' s'.h a'.defers w'->Step μ s w μ' s' w'->Q (Q4 ex) a' w')->c.wpIn (W0 rd) 0 P Q a w:=by
 intro c;induction c with
 | skip=>intro ρ s ex ρ' s' μ a w Q h H F M C hf g;cases h;exact wpIn_skip (g _ _ _ H F M (Step.refl _ _ _))
 | label l=>intro ρ s ex ρ' s' μ a w Q h H F M C hf g;cases h;exact wpIn_label (g _ _ _ H F M (Step.refl _ _ _))
 | exit id=>intro ρ s ex ρ' s' μ a w Q h H F M C hf g;cases h;exact wpIn_exit (g _ _ _ H F M (Step.refl _ _ _))
 | ret=>intro ρ s ex ρ' s' μ a w Q h H F M C hf g;cases h;exact wpIn_ret (g _ _ _ H F M (Step.refl _ _ _))
 | goto l=>intro ρ s ex ρ' s' μ a w Q h;cases h
 | refuse y=>intro ρ s ex ρ' s' μ a w Q h;cases h
 | region id ops c4 =>
  intro ρ s ex ρ' s' μ a w Q h H F M C hf g;have h:Aqm (evR P call n ops c4) ρ s=some (ex,ρ',s'):=h;obtain⟨⟨ρ1,N⟩,h1,h⟩:=BB h;cases h;exact wN hm hc H F hf h1 fun a' μ' w' A d I G=>g _ _ _ A d.flush (by rw[I];exact M.step G (Yl hc.qt h1) hf) G
 | seq x y b3 a7 =>
  intro ρ s ex ρ' s' μ a w Q h H F M C hf g;have h:SI ((B1 P call n rd.isSome fuel x).run ρ s) (B1 P call n rd.isSome fuel y).run=some (ex,ρ',s'):=h;refine wpIn_seq ?_;rcases KD h with ⟨ρ1,N,h1,h2⟩ | ⟨h1,T⟩
  ·have J:=KE hc.qt x h1;have E:=KE hc.qt y h2;refine b3 h1 H F M C (hf.left E.nx) fun μ1 K D A d I G => ?_;refine a7 h2 A d I (AR C G.size) (hf.right J.nx G) fun μ2 Y Z k1 U k3 k4 => ?_;exact g _ _ _ k1 U k3 (G.trans k4 J E (hf.left E.nx))
  ·refine b3 h1 H F M C hf fun μ1 K D A d I G => ?_;have:=g _ _ _ A d I G;cases ex with
   | norm=>exact absurd rfl T
   | exit i=>exact this
   | ret=>exact this
 | cond x y z a7 c5 =>
  intro ρ s ex ρ' s' μ a w Q h H F M C hf g;have h:wF x (B1 P call n rd.isSome fuel y) (B1 P call n rd.isSome fuel z) ρ s=some (ex,ρ',s'):=h;obtain⟨v,hv,h⟩:=BB h;obtain⟨t,rfl,h⟩:=Ph h;have h1:=B_ F hv;generalize hu:a.eval x=u at h1;cases h1;cases t
  ·exact wpIn_cond_false hu (c5 h H F M C hf g)
  ·exact wpIn_cond_true hu (a7 h H F M C hf g)
 | block id x S =>
  intro ρ s ex ρ' s' μ a w Q h H F M C hf g;have h:Pt id ((B1 P call n rd.isSome fuel x).run ρ s)=some (ex,ρ',s'):=h;obtain⟨b4,h1,V⟩:=O7 h;refine wpIn_block (S h1 H F M C hf fun μ1 K D A d I G => ?_);have:=g _ _ _ A d I G;rcases V with ⟨rfl,rfl⟩ | ⟨rfl,T⟩
  ·simp only[Q4,Aau,if_true];exact this
  ·cases b4 with
   | norm=>exact this
   | ret=>exact this
   | exit i =>
    simp only[Q4,Aau];rw[Ak (fun e:i=id=>T (by rw[e]))];exact this
 | scope x S =>
  intro ρ s ex ρ' s' μ a w Q h H F M C hf g;refine pX (S h H F M C hf fun μ1 K D A d I G => ?_);have:=g _ _ _ A d I G;cases ex with
  | norm=>exact this
  | exit i=>exact this
  | ret=>exact this
 | loop x S =>
  intro ρ s ex ρ' s' μ a w Q h H F M C hf g;have h:Qe fuel (B1 P call n rd.isSome fuel x) ρ s=some (ex,ρ',s'):=h;have V:∀ ρ s ex ρ' s',(B1 P call n rd.isSome fuel x).run ρ s=some (ex,ρ',s')->Qt s s':=fun _ _ _ _ _ h=>KE hc.qt x h;let p:Act->World->Nat->Prop:=fun K D m=>∃ ρ1 N μ1,HR μ1 N.h D/\FR μ1 n ρ1 K.tmps/\MK B μ1 N.h K.defers D/\Step μ s w μ1 N D/\Qt s N/\Qe m (B1 P call n rd.isSome fuel x) ρ1 N=some (ex,ρ',s')
  let ν:Act->World->Nat:=fun a w=>@Agg Nat ⟨0⟩ fun m=>p a w m/\∀ k,p a w k->m<=k
  have hν:∀ a w,(∃ m,p a w m)->p a w (ν a w)/\∀ k,p a w k->ν a w<=k:=fun a w he=>@iA Nat ⟨0⟩ _ (P3 he);refine wpIn_loop (fun a w=>∃ m,p a w m) ν ⟨fuel,ρ,s,μ,H,F,M,Step.refl _ _ _,Qt.refl _,h⟩ ?_;intro K D hI;obtain⟨⟨ρ1,N,μ1,H1,F1,W,Px,J,b5⟩,d9⟩:=hν K D hI;generalize e0:ν K D=m at *
  cases m with
  | zero=>cases b5
  | succ m =>
   have b6:B<=D.heap.size:=AR C Px.size;rcases wO b5 with ⟨ρ2,O,h1,h2⟩ | ⟨h1,T⟩
   ·have E:=V _ _ _ _ _ h1;have X:=pW V m h2;have a8:=hf.right J.nx Px;refine S h1 H1 F1 W b6 (a8.left X.nx) fun μ2 Y Z A d I G => ?_;have R:p Y Z m:=⟨ρ2,O,μ2,A,d,I,Px.trans G J E (hf.left (AR E.nx X.nx)),J.trans E,h2⟩;refine⟨⟨m,R⟩,?_⟩;have:=(hν Y Z ⟨m,R⟩).2 m R;omega
   ·have E:=V _ _ _ _ _ h1;have a8:=hf.right J.nx Px;refine S h1 H1 F1 W b6 a8 fun μ2 Y Z A d I G => ?_;have:=g _ _ _ A d I (Px.trans G J E (hf.left E.nx));cases ex with
    | norm=>exact absurd rfl T
    | exit i=>exact this
    | ret=>exact this
 | rangeFunc f ps asx bd _ _ =>
  intro ρ s ex ρ' s' μ a w Q h H F M C hf g;cases rd with
  | some l=>cases h
  | none =>
   have h:gF call n f ps.toList asx bd ρ s=some (ex,ρ',s'):=h;obtain⟨fv,c6,h⟩:=BB h;obtain⟨c7,h⟩:=A9 h;obtain⟨⟨x,O⟩,h1,h⟩:=BB h;obtain⟨ρ1,n1,b7,b8,b9,st,j,h2,h⟩:=LD h;obtain⟨c0,h⟩:=A9 h;obtain⟨b4,hj,h⟩:=BB h;cases h;have J:Qt s (FT s (.l ρ n ps.toList asx bd .ready none)):=Qt.new _ _;have E:=hc.qt _ _ _ _ _ h1;have X:Qt O (H2 O s.nx (.l ρ1 n1 b7 b8 b9 .exhausted j)):=Qt.turn h2;have c1:=B_ F c6;rcases hc.only h1 with ⟨fn,fs,cs,rfl⟩ | ⟨b,rfl⟩;rotate_left
   ·cases c7
   generalize hu:a.eval f=u at c1;cases c1 with
   | f _ _ _ us a3 c8 c9 d0 d1 =>
    obtain⟨⟨Fn,cd,k1,U,k3⟩,k4⟩:=hc.fn h1;have hμ:μ s.nx=none:=hf s.nx (Ar _) (Ba (EQ _) E.nx);refine wpIn_rangeFunc fun a4 _ => ?_;have hD:=H.alloc (.deferred (some []));obtain⟨H1,Px⟩:=KT hD hμ (x := .loop { state := .ready,pending:=none,fn:=a4,tmps:=a.tmps,params:=ps,assign:=asx,body:=bd,defers:=w.heap.size }) 0 (o := .l ρ n ps.toList asx bd .ready none)
     fun μ' w' d2 hw=>⟨_,hw,by simp,rfl,rfl,rfl,rfl,F.mono d2⟩
    have a9:(w.alloc (.deferred (some []))).heap.size=w.heap.size+1:=by show (w.heap.push _).size=_;simp
    have a5:=Px.before (w:=w) rfl rfl rfl (by omega) (fun r hr=>F7 _ _ _ hr);have M0:MK B μ s.h ([{ target := .collected w.heap.size,args:=#[] }]++a.defers) (w.alloc (.deferred (some []))):=by
     obtain⟨rs,e1,e2,e3⟩:=M;refine⟨w.heap.size::rs,by rw[e1];rfl,List.nodup_cons.2 ⟨fun hm => ?_,e2⟩,fun r hr => ?_⟩
     ·have:=(A8.1 (e3 _ hm).2.1).1;omega
     ·rcases Aw.1 hr with rfl | hr
      ·exact⟨C,by show (w.heap.push _)[w.heap.size]? = _;simp,fun b o q _ hq=>by have:=H.lt b q hq;omega⟩
      ·obtain⟨A,d,I⟩:=e3 r hr;exact⟨A,(F7 _ _ _ (A8.1 d).1).trans d,I⟩
    have W:=M0.step Px J (hf.left E.nx);have c2:Di μ s.nx ((w.alloc (.deferred (some []))).heap.size,0) s.nx=some ((w.alloc (.deferred (some []))).heap.size,0):=by simp[Di]
    have d3:SM (Di μ s.nx ((w.alloc (.deferred (some []))).heap.size,0)) (fs++[.y s.nx]++cs) (us++#[.func (.yield (w.heap.size+1)) #[] #[]]++a3):=by
     refine SM.append (SM.append ⟨c8,fun i A d=>(d0 i A d).mono Px.le⟩ ⟨rfl,fun i A d => ?_⟩) ⟨c9,fun i A d=>(d1 i A d).mono Px.le⟩;have:i=0:=by simpa using A
     subst this;show VR _ (.y s.nx) (.func (.yield (w.heap.size+1)) #[] #[]);rw[<- a9];exact VR.y c2
    have c3:=k4 H1 (hf.right J.nx a5) d3;obtain⟨D,a6⟩:∃ D:World,(w.alloc (.deferred (some []))).alloc (.loop { state := .ready,pending:=none,fn:=a4,tmps:=a.tmps,params:=ps,assign:=asx,body:=bd,defers:=w.heap.size })=D:=⟨_,rfl⟩;have d4:(Instr.enterLoop a4 a.tmps ps asx bd none).run P w = .ok (w.heap.size+1,[{ target := .collected w.heap.size,args:=#[] }]) D:=by rw[<- a6];exact run_enterLoop_outer a4 a.tmps ps asx bd
    have d5:CallsIn H7 0 P fn (us++#[.func (.yield (w.heap.size+1)) #[] #[]]++a3) D (KA (Di μ s.nx ((w.alloc (.deferred (some []))).heap.size,0)) (FT s (.l ρ n ps.toList asx bd .ready none)) D O x):=by rw[<- a6];exact c3
    rw[a6] at a5 W;clear c3 a6;refine⟨w.heap.size+1,_,_,{ target := .fn (.func fn) a3,args:=us++#[.func (.yield (w.heap.size+1)) #[] #[]] },D,fn,us++#[.func (.yield (w.heap.size+1)) #[] #[]]++a3,D,d4,?_,fun _ _=>trivial,?_,nofun,?_⟩
    ·have hy:Array.map a.eval #[Operand.const (A0n (Go.Fn.yield (w.heap.size+1)) #[] #[])]=#[A0n (Go.Fn.yield (w.heap.size+1)) #[] #[]]:=by simp[If]
     simp only[resolve,hu,D_,Ap,hy]
    ·have hn:¬ Fn.name = "runtime.NumGoroutine" := by
      unfold O4 at U;intro e;rw[e] at U;cases U
     simp[invoke,callFunc,program,Cn,k1,hn,k3]
    ·refine Yk (F:=W0 none) d5 ?_;intro e w3 R;cases e with
     | panicked _=>exact R.elim
     | outgrown=>exact R.elim
     | returned v =>
      obtain⟨μ3,A,d,_⟩:=R;have d6:=d.le _ _ c2;obtain⟨L,e1,e2,e3,_,_,_,_,e4,e5⟩:=Qg A h2 d6 .exhausted j;have hb:L.state ≠ .busy:=by rw[e2];intro e;rw[e] at c0;cases c0
      have b0:=run_endLoop (P:=P) e1 hb;rw[e3] at b0;rw[a9] at b0;have b1:Step μ s w μ3 (H2 O s.nx (.l ρ1 n1 b7 b8 b9 .exhausted j)) (w3.putObj ((w.alloc (.deferred (some []))).heap.size) (.loop { L with state := .exhausted,pending:=j })) :=
       (a5.trans d J E (hf.left E.nx)).trans e5 (J.trans E) X (hf.left (Ar _))
      have M3:=(W.step d E (hf.right J.nx a5)).step e5 X (fun c e6 d7=>by
       have:c<O.nx:=d7;omega)
      refine⟨j,_,b0,?_⟩;have d8:FR μ3 n ρ a.tmps:=F.mono b1.le;rw[a9] at e4 b1 M3;have b2:=g μ3 { a with defers:=[{ target := .collected w.heap.size,args:=#[] }]++a.defers } _ e4 d8 M3 b1;cases j with
      | none=>cases hj;exact b2
      | some c =>
       cases c <;> try (cases hj;done)
       ·cases hj;exact wpIn_exit b2
       ·cases hj;exact wpIn_ret b2
end
end
noncomputable section
theorem aE(g:Tr HV)(m t:Nat):∀ (l:List HV) (i:Nat) (a:List (Nat × HV)),(En.mk (SJ l i a) g m).get t=if i<=t/\t<i+C l then l[t-i]? else (En.mk a g m).get t
 | [],i,a=>by
  rw[Ak (fun h=>by simp at h;omega)];rfl
 | x::xs,i,a=>by
  show (En.mk (SJ xs (i+1) ((i,x)::a)) g m).get t=_;rw[aE g m t xs (i+1) ((i,x)::a),Ru];by_cases h:i=t
  ·subst h;rw[Ak (by omega),DM,Af (by simp)];simp[cnd_true]
  ·have hb:Au i t=false:=by
    cases hb:Au i t
    ·rfl
    ·exact absurd (Aj hb) h
   simp only[hb,cnd_false];by_cases h2:i+1<=t/\t<i+1+C xs
   ·rw[Af h2,Af (by simp;omega)];have:t-i=(t-(i+1))+1:=by omega
    rw[this];rfl
   ·rw[Ak h2,Ak (by simp;omega)]
theorem Aqq{μ:Mu}{l:List HV}{vals:Array Value}{n ms:Nat}(h:SM μ l vals)(hn:C l<=n):FR μ n (En.flush ⟨SJ l 0 [],.e,ms⟩) (vals++Dq (n-vals.size) A0):=by
 have c:=h.1;refine FR.flush ⟨by simp;omega,fun t x a => ?_⟩;rw[aE] at a;split at a
 next d=>obtain⟨b,rfl⟩:=AZ.1 a;simp only[Tc] at b |-;have h2:=h.2 t b (by omega);rw[Av,RI (by omega),A4 (by omega)];exact h2
 ·rw[Oz] at a;cases hb:Rt ms t <;> rw[hb] at a <;> cases a
section
variable {P:Program} {call:B0} {fuel:Nat} {mk:Nat->Nat}
theorem gM{n:Nat}{ρ:En}{s:HS}{μ:Mu}{tm:Array Value}{w:World}(H:HR μ s.h w)(F:FR μ n ρ tm):∀ {rs:List ResultVar} {vs:List HV},R6 P ρ s rs=some vs ->
  ∃ us:List Value,(rs.mapM (Ha tm)).run P w = .ok us w/\C us=C vs/\∀ (i:Nat) (h1:i<C vs) (h2:i<C us),VR μ vs[i] us[i]
 | [],vs,h=>by
  cases h;exact⟨[],rfl,rfl,fun i h1=>by cases h1⟩
 | .tmp t::l,vs,h=>by
  obtain⟨v,a,h⟩:=BB (k:=fun v=>bO (R6 P ρ s l) fun vs=>some (v::vs)) h;obtain⟨j,c,h⟩:=BB h;cases h;obtain⟨us,d,e,f⟩:=gM H F c;refine⟨tm.getD t A0::us,?_,by simp[e],fun i h1 h2 => ?_⟩
  ·simp only[EX,Am,Ha,Ap,Aa,d]
  ·cases i with
   | zero=>exact F.2 t v a
   | succ i=>exact f i (by simpa using h1) (by simpa using h2)
 | .cell t m::l,vs,h=>by
  obtain⟨v,a,h⟩:=BB (k:=fun v=>vQ v fun b off=>XQ (s.h.get b) fun cs=>bO (R0 P m) fun q=>bO (S7 cs off q.1 q.2) fun v=>bO (R6 P ρ s l) fun vs=>some (v::vs)) h;obtain⟨b,off,rfl,h⟩:=GD h;obtain⟨cs,o,h⟩:=DH h;obtain⟨⟨k,one⟩,p,h⟩:=BB h;obtain⟨v,g,h⟩:=BB h;obtain⟨j,c,h⟩:=BB h;cases h;obtain⟨us,d,e,f⟩:=gM H F c;have h0:=F.2 t _ a;generalize hu:tm.getD t A0=u at h0;cases h0;rename_i r hr;rw[Pg] at g;obtain⟨u,x,y⟩:=zS (P:=P) H (Pk p) o hr g;refine⟨u::us,?_,by simp[e],fun i h1 h2 => ?_⟩
  ·simp only[EX,Am,Ha,hu,asAddr,Ap,Aa,x,d]
  ·cases i with
   | zero=>exact y
   | succ i=>exact f i (by simpa using h1) (by simpa using h2)
theorem Atz{n:Nat}{ρ:En}{s:HS}{μ:Mu}{tm:Array Value}{w:World}{fn:Func}(H:HR μ s.h w)(F:FR μ n ρ tm){vs:List HV}(h:R6 P ρ s fn.results.toList=some vs):∃ v,(results fn tm).run P w = .ok v w/\VR μ (pR vs) v:=by
 obtain⟨us,c,a,b⟩:=gM H F h;have d:(results fn tm).run P w = .ok (if h:us.toArray.size=1 then us.toArray[0] else .tuple us.toArray) w:=by
  rw[Th,Ke];simp only[Am,Abc,c,Aa,Ap]
 refine⟨_,d,?_⟩;have tup:C vs ≠ 1->VR μ (.t vs) (if h:us.toArray.size=1 then us.toArray[0] else .tuple us.toArray):=fun e=>by
  rw[dif_neg (by simp only[Cr];omega)];exact .t _ _ (by simpa using a) fun j h1 h2=>by simpa using b j h1 (by simpa using h2)
 match vs,a,b,tup with
 | [],_,_,tup=>exact tup (by simp)
 | [x],a,b,_ =>
  have hl:us.toArray.size=1:=by simpa using a
  rw[dif_pos hl];have:=b 0 (by simp) (by simp at a;omega);simp only[Bk] at this;show VR μ x _;simpa only [DV] using this
 | x::y::l,_,_,tup=>exact tup (by simp)
theorem HR.put_other{μ:Mu}{h:Tr HO}{w:World}(H:HR μ h w){r:Nat}{x:Obj}(hr:∀ b o q,h.get b=some o->μ b=some q->q.1 ≠ r):HR μ h (w.putObj r x) :=
 ⟨fun b o hb=>let ⟨q,h1,h2⟩:=H.obj b o hb; ⟨q,h1,h2.same (fun _ _ e=>e) (DO (hr b o q hb h1))⟩,H.inj,fun b q a=>by rw[Qn];exact H.lt b q a⟩
theorem Step.put_new{μ μ':Mu}{s s':HS}{w w':World}(st:Step μ s w μ' s' w'){r:Nat}{x:Obj}(hr:w.heap.size<=r):Step μ s w μ' s' (w'.putObj r x) :=
 ⟨st.le,st.os,st.tape,st.out,by rw[Qn];exact st.size,st.new,fun k a hn=>(DO (by omega)).trans (st.frame k a hn),st.stay⟩
theorem Yo{fn:Func}{tm:Array Value}{R:Ending->World->Prop}{n:Nat}{ρ:En}{μ0 μ:Mu}{c s:HS}{w0:World}{vs:List HV}(F:FR μ n ρ tm)(d:R6 P ρ s fn.results.toList=some vs)
  (f:∀ v w,HR μ s.h w->Step μ0 c w0 μ s w->VR μ (pR vs) v->R (.returned v) w) :
  ∀ (rs:List Nat) (w:World),rs.Nodup->(∀ r∈rs,w0.heap.size<=r/\w.heap[r]? = some (.deferred (some []))/\∀ b o q,s.h.get b=some o->μ b=some q->q.1 ≠ r)->HR μ s.h w->Step μ0 c w0 μ s w ->
   LeavesInM H7 0 P fn tm R (rs.map fun r=>{ target := .collected r,args:=#[] }) .returning w
 | [],w,_,_,H,st=>by
  obtain⟨v,h1,h2⟩:=Atz (P:=P) (fn:=fn) H F d;exact⟨v,h1,f v w H st h2⟩
 | r::rs,w,a,g,H,st=>by
  obtain⟨h1,h2,j⟩:=g r (A1 ..);rw[List.nodup_cons] at a;refine⟨nofun,.inl ⟨r,_,rfl,run_takeDeferred h2,?_⟩⟩;refine Yo F d f rs _ a.2 (fun r' i => ?_) (H.put_other j) (st.put_new h1);obtain⟨k,l,m⟩:=g r' (AI _ i);exact⟨k,(DO fun e=>a.1 (by rw[<- e];exact i)).trans l,m⟩
theorem Qh{fn:Nat}{l:List HV}{s s':HS}{x:HV}(h:(aC P call fuel mk fn).run l s=some (x,s')):∃ F c,P.funcs[fn]? = some F/\O4 F=true/\F.body=some c/\C l<=F.ntmps /\
  ∃ ex ρ vs,(B1 P call F.ntmps false fuel c).run (En.flush ⟨SJ l 0 [],.e,mk fn⟩) s=some (ex,ρ,s')/\Aab ex=true/\R6 P ρ s' F.results.toList=some vs/\x=pR vs:=by
 unfold aC at h;split at h
 ·rename_i F a;split at h
  ·rename_i c hc;cases hn:O4 F
   ·rw[hn] at h;cases h
   ·rw[hn] at h;have h:Axu P F.ntmps (mk fn) F.results.toList (B1 P call F.ntmps false fuel c) l s=some (x,s'):=h;obtain⟨h1,h⟩:=A9 h;obtain⟨⟨ex,ρ,f⟩,h2,h⟩:=BB h;obtain⟨b,h⟩:=A9 h;obtain⟨vs,d,h⟩:=BB h;cases h;rw[Rv] at h1;exact⟨F,c,a,hn,hc,SR h1,ex,ρ,vs,h2,b,d,rfl⟩
  ·cases h
 ·cases h
theorem A0o(b:P.follows .mixedOrders=true)(hc:HOk P call){fn:Nat}{l:List HV}{s s':HS}{x:HV}(h:(aC P call fuel mk fn).run l s=some (x,s')){μ:Mu}{w:World}{vals:Array Value}(H:HR μ s.h w)(hf:D1 μ s.nx s'.nx)(d:SM μ l vals) :
  CallsIn H7 0 P fn vals w (KA μ s w s' x):=by
 obtain⟨F,c,e,hn,hb,hl,ex,ρ,vs,h1,h2,f,rfl⟩:=Qh h;refine callsIn_of_wp_marks e hb trivial ?_;refine Yn (rd:=none) b hc (B:=w.heap.size) c h1 H (Aqq d hl) MK.nil (Ar _) hf fun μ' a' w' g j k m => ?_;obtain⟨rs,n,o,p⟩:=k;have a:LeavesInM H7 0 P F a'.tmps (KA μ s w s' (pR vs)) a'.defers .returning w':=by
  rw[n];exact Yo j f (fun v u q r t=>⟨μ',q,r,t⟩) rs w' o p g m
 cases ex with
 | norm=>exact a
 | ret=>exact a
 | exit i=>cases h2
theorem aF{μ:Mu}{n:Nat}:∀ {ps:List Nat} {xs:List HV} {ρ ρ':En} {us:List Value} {tm:Array Value},Ye ps xs n ρ=some ρ'->C us=C xs->(∀ (j:Nat) (h1:j<C xs) (h2:j<C us),VR μ xs[j] us[j])->FR μ n ρ tm ->
  C ps=C xs/\FR μ n ρ' ((ps.zip us).foldl (fun t p=>t.setIfInBounds p.1 p.2) tm)
 | [],[],ρ,ρ',us,tm,h,hl,b,F=>by
  cases h;exact⟨rfl,F⟩
 | p::ps,x::xs,ρ,ρ',[],tm,h,hl,b,F=>by cases hl
 | p::ps,x::xs,ρ,ρ',u::us,tm,h,hl,b,F=>by
  obtain⟨c,h⟩:=A9 (k:=Ye ps xs n (ρ.set p x)) h;have f:FR μ n (K8 ρ (some p) x) (({ tmps:=tm,defers:=[] }:Act).put (some p) u).tmps:=FR.put (a:={ tmps:=tm,defers:=[] }) F (fun _ _ e=>e) (d:=some p) c (b 0 (by simp) (by simp));obtain⟨g,i⟩:=aF (us:=us) h (by simpa using hl) (fun j h1 h2=>b (j+1) (by simp;omega) (by simp;omega)) f;exact⟨by simp[g],i⟩
 | [],_::_,_,_,_,_,h,_,_,_=>by cases h
 | _::_,[],_,_,_,_,h,_,_,_=>by cases h
theorem PI{st:LoopState}{j:Option Code}(h:R7 st j=true):st = .ready/\j=none:=by
 unfold R7 at h;split at h
 ·exact⟨rfl,rfl⟩
 ·cases h
def Yp:Ex->LoopState
 | .norm => .ready
 | _ => .done
theorem TD{b:Nat}{args:List HV}{s s':HS}{x:HV}(h:R8 P call fuel b args s=some (x,s')):∃ ρ n ps asx bd ρ' ρ1 a ρ2 d e f g ex ρ3 c ρ4 k m o p q r,
  s.h.get b=some (.l ρ n ps asx bd .ready none)/\Ye ps args n ρ=some ρ'/\(B1 P call n true fuel asx).run ρ' s=some (.norm,ρ1,a)/\a.h.get b=some (.l ρ2 d e f g .ready none) /\
  (B1 P call n true fuel bd).run ρ1 (H2 a b (.l ρ2 d e f g .busy none))=some (ex,ρ3,c)/\c.h.get b=some (.l ρ4 k m o p q r) /\
  x = .b (I8 ex).isNone/\s'=H2 c b (.l ρ4 k m o p (Yp ex) (I8 ex)):=by
 obtain⟨ρ,n,ps,asx,bd,st,j,h1,h⟩:=LD h;obtain⟨hr,h⟩:=A9 h;obtain⟨rfl,rfl⟩:=PI hr;obtain⟨ρ',h2,h⟩:=BB h;obtain⟨⟨u,ρ1,a⟩,v,h⟩:=BB h;obtain⟨t,h⟩:=A9 h;obtain⟨ρ2,d,e,f,g,H5,B,w,h⟩:=LD h;obtain⟨y,h⟩:=A9 h;obtain⟨rfl,rfl⟩:=PI y;obtain⟨⟨ex,ρ3,c⟩,z,h⟩:=BB h;obtain⟨ρ4,k,m,o,p,q,r,A,h⟩:=LD h;cases h;cases u with
 | norm=>exact⟨ρ,n,ps,asx,bd,ρ',ρ1,a,ρ2,d,e,f,g,ex,ρ3,c,ρ4,k,m,o,p,q,r,h1,h2,v,w,z,A,rfl,by cases ex <;> rfl⟩
 | exit i=>cases t
 | ret=>cases t
theorem Afq(hc:QC call){b:Nat}{args:List HV}{s s':HS}{x:HV}(h:R8 P call fuel b args s=some (x,s')):Qt s s':=by
 obtain⟨ρ,n,ps,asx,bd,ρ',ρ1,f,ρ2,g,i,j,k,ex,ρ3,l,ρ4,m,o,p,q,r,t,h1,h2,a,c,d,e,rfl,rfl⟩:=TD h;exact (((KE hc asx a).trans (Qt.turn c)).trans (KE hc bd d)).trans (Qt.turn e)
theorem Afr(z:P.follows .mixedOrders=true)(hc:HOk P call){b:Nat}{args:List HV}{s s':HS}{x:HV}(h:R8 P call fuel b args s=some (x,s')){μ:Mu}{w:World}{vals:Array Value}{q:Nat × Nat}(H:HR μ s.h w)(hf:D1 μ s.nx s'.nx)(A:μ b=some q)(m:SM μ args vals) :
  ∃ fn tmps asx bd,(Instr.yield q.1 vals).run P w = .ok (.round q.1 fn tmps asx bd) w/\RoundIn H7 0 P q.1 fn tmps asx bd w (KA μ s w s' x):=by
 obtain⟨ρ,n,ps,asx,bd,ρ',ρ1,D,ρ2,V,W,X,Y,ex,ρ3,o,ρ4,E,F,G,I,a8,j4,h1,h2,J,K,M,N,rfl,rfl⟩:=TD h;obtain⟨L,Z,O,e3,e4,e5,e6,e7⟩:=H.at h1 A;have a3:∀ (j:Nat) (h1:j<C args) (h2:j<C vals.toList),VR μ args[j] vals.toList[j]:=fun j r u=>by simpa using m.2 j r (by simpa using u)
 obtain⟨r,u⟩:=aF (us:=vals.toList) h2 (by simpa using m.1) a3 e7;have a4:(L.params.zip vals).foldl (fun tmps (t,a)=>tmps.setIfInBounds t a) L.tmps=(ps.zip vals.toList).foldl (fun t p=>t.setIfInBounds p.1 p.2) L.tmps:=by
  rw[O,<- PK];simp[Array.toList_zip]
 have g:=KE hc.qt asx J;have d:Qt D (H2 D b (.l ρ2 V W X Y .busy none)):=Qt.turn K;have f:=KE hc.qt bd M;have e:Qt o (H2 o b (.l ρ4 E F G I (Yp ex) (I8 ex))):=Qt.turn N;refine⟨_,_,_,_,run_yield Z (by rw[O,m.1];simpa using r.symm),?_⟩;rw[a4,e3,e4];refine roundIn_of_wpIn trivial ?_;refine Yn (rd:=some q.1) z hc (B:=w.heap.size) asx J H u MK.nil (Ar _) (hf.left (AR d.nx (AR f.nx e.nx))) fun μ1 a1 w1 k1 k2 k3 k => ?_;have Q:=k.le _ _ A;obtain⟨R,l1,l2,l3,_,_,_,_,l4,S⟩:=Qg k1 K Q .busy none;have T:=run_beginRound (P:=P) l1 l2;have a5:({ R with state := .busy }:Loop)={ R with state := .busy,pending:=none }:=by rw[<- l3]
 rw[a5] at T;have a6:=hf.right g.nx k;have Px:=k.trans S g d (hf.left (AR d.nx (AR f.nx e.nx)));refine⟨_,T,?_⟩;refine Yn (rd:=some q.1) z hc (B:=w.heap.size) bd M l4 k2 (k3.step S d fun c c1 c2=>absurd c2 (Agz.2 c1)) (by rw[Qn];exact k.size) (a6.left e.nx) fun μ2 a2 w2 m1 m2 m3 U => ?_;have a7:=U.le _ _ Q;obtain⟨L2,v,u2,u3,_,_,_,_,u4,u5⟩:=Qg m1 N a7 (Yp ex) (I8 ex);have H5:=(Px.trans U (g.trans d) f (hf.left (AR f.nx e.nx))).trans u5 ((g.trans d).trans f) e (hf.left e.nx);have y:KA μ s w (H2 o b (.l ρ4 E F G I (Yp ex) (I8 ex))) (.b (I8 ex).isNone) (.returned (.bool (I8 ex).isNone)) (w2.putObj q.1 (.loop { L2 with state:=Yp ex,pending:=I8 ex })):=⟨μ2,u4,H5,.b _⟩;cases ex with
 | norm=>exact⟨_,_,run_endRound none v,y⟩
 | ret=>exact⟨_,_,run_endRound (some .ret) v,y⟩
 | exit i=>exact⟨_,_,run_endRound (some (.exit i)) v,y⟩
theorem Aqr(hc:QC call){fn:Nat}{l:List HV}{s s':HS}{x:HV}(h:(aC P call fuel mk fn).run l s=some (x,s')):Qt s s':=by
 obtain⟨F,c,_,_,_,_,ex,ρ,vs,h1,_⟩:=Qh h;exact KE hc c h1
theorem pY(e:P.follows .mixedOrders=true)(a:HOk P call):HOk P (SK P call fuel mk):=by
 refine⟨fun f l s x s' h => ?_,fun {fv args s r} h => ?_,fun {fn fs cs args s x s'} h => ?_,fun {b args s x s'} h μ w vals q H hf g d => ?_⟩
 ·cases f <;> try (cases h;done)
  ·exact Aqr a.qt h
  ·exact Afq a.qt h
 ·cases fv <;> try (cases h;done)
  ·exact .inl ⟨_,_,_,rfl⟩
  ·exact .inr ⟨_,rfl⟩
 ·have h:(aC P call fuel mk fn).run (fs++args++cs) s=some (x,s'):=h;obtain⟨F,c,h1,h2,i,_⟩:=Qh h;exact⟨⟨F,c,h1,h2,i⟩,fun {μ w vals} H hf d=>A0o e a h H hf d⟩
 ·have h:R8 P call fuel b args s=some (x,s'):=h;exact Afr e a h H hf g d
theorem pZ:HOk P (fun _ _ _=>none):=⟨fun _ _ _ _ _ h=>(by cases h),fun h=>(by cases h),fun h=>(by cases h),fun h=>(by cases h)⟩
theorem Aad(a:P.follows .mixedOrders=true):∀ d,HOk P (Ia P fuel mk d)
 | 0=>pZ
 | d+1=>pY a (Aad a d)
theorem Aae(hc:HOk P call){fn:Nat}{l:List HV}{vals:Array Value}(hl:SM (fun _=>none) l vals){x:HV}{s':HS}(h:call (.f fn [] []) l ⟨.e,0,[]⟩=some (x,s'))(w:World) :
  Calls P fn vals w fun e w'=>∃ v μ,e = .returned v/\VR μ x v/\Below w.heap.size w w':=by
 have H:HR (fun _=>none) (Tr.e:Tr HO) w:=⟨fun a o h=>(by cases h),fun a a' o o' r r' h=>(by cases h),fun a r h=>(by cases h)⟩;have:=(hc.fn h).2 (μ:=fun _=>none) (w:=w) (vals:=vals) H (fun _ _ _=>rfl) (by rw[C',UF];exact hl);refine callsIn_wide.1 (Yk this fun e w' b => ?_);cases e with
 | returned v =>
  obtain⟨μ,_,st,c⟩:=b;exact⟨v,μ,rfl,c,st.os,st.tape,st.out,st.size,fun k d=>st.frame k d fun a o q g=>(by cases g)⟩
 | panicked _=>exact b.elim
 | outgrown=>exact b.elim
def okB(o:Option (HV × HS)):Bool:=match o with | some (.b true,_)=>true | _=>false
theorem qA(hc:HOk P call){fn:Nat}(h:okB (call (.f fn [] []) [] ⟨.e,0,[]⟩)=true)(w:World) :
  Calls P fn #[] w fun e w'=>e = .returned (.bool true)/\Below w.heap.size w w':=by
 unfold okB at h;split at h
 next s' hs=>refine iB (Aae hc ⟨rfl,fun j h1=>(by cases h1)⟩ hs w) fun e w' a => ?_;obtain⟨v,μ,rfl,b,hb⟩:=a;cases b;exact⟨rfl,hb⟩
 ·cases h
end
end
noncomputable section
def eqI(m n:Int):Bool:=Ark (motive:=fun _=>Bool) (fun a=>Ark (motive:=fun _=>Bool) (fun b=>Au a b) (fun _=>false) n) (fun a=>Ark (motive:=fun _=>Bool) (fun _=>false) (fun b=>Au a b) n) m
theorem Aua{m n:Int}(h:eqI m n=true):m=n:=by
 cases m <;> cases n <;> try (cases h;done)
 ·exact congrArg Int.ofNat (Aj h)
 ·exact congrArg Int.negSucc (Aj h)
def Aqs:Cap->Cap->Bool
 | .k a,.k b=>Au a b
 | .d a,.d b=>Au a b
 | _,_=>false
theorem Afs{a b:Cap}(h:Aqs a b=true):a=b:=by
 cases a <;> cases b <;> try (cases h;done)
 ·exact congrArg Cap.k (Aj h)
 ·exact congrArg Cap.d (Aj h)
def gN:HV->HV->Bool
 | .b x,.b y=>x==y
 | .i k m,.i e n=>k==e&&eqI m n
 | .u,.u=>true
 | .pn,.pn=>true
 | .p a o,.p b q=>Au a b&&Au o q
 | .sn,.sn=>true
 | .s a o n c,.s b q m d=>Au a b&&Au o q&&Au n m&&Aqs c d
 | .mn,.mn=>true
 | .m a,.m b=>Au a b
 | .y a,.y b=>Au a b
 | _,_=>false
theorem Aaf{x y:HV}(h:gN x y=true):x=y:=by
 cases x <;> cases y <;> first | (cases h;done) | rfl | skip
 ·simpa [gN] using h
 ·simp only[gN,U,AW] at h;rw[h.1,Aua h.2]
 ·simp only[gN,U] at h;rw[Aj h.1,Aj h.2]
 ·simp only[gN,U] at h;rw[Aj h.1.1.1,Aj h.1.1.2,Aj h.1.2,Afs h.2]
 ·rw[Aj h]
 ·rw[Aj h]
def qB(l m:List HV):Bool:=BG (motive:=fun _=>List HV->Bool) (fun m=>BG (motive:=fun _=>Bool) true (fun _ _ _=>false) m)
 (fun x _ a m=>BG (motive:=fun _=>Bool) false (fun y b _=>Dh (gN x y) (a b) false) m) l m
theorem Uy:∀ {l m:List HV},qB l m=true->l=m
 | [],[],_=>rfl
 | [],_::_,h=>by cases h
 | _::_,[],h=>by cases h
 | x::l,y::m,h=>by
  have h:Dh (gN x y) (qB l m) false=true:=h;cases hb:gN x y
  ·rw[hb] at h;cases h
  ·rw[hb] at h;rw[Aaf hb,Uy h]
def eqV:HV->HV->Bool
 | .g l,.g m=>qB l m
 | .t l,.t m=>qB l m
 | x,y=>gN x y
theorem Aub{x y:HV}(h:eqV x y=true):x=y:=by
 unfold eqV at h;split at h
 ·rw[Uy h]
 ·rw[Uy h]
 ·exact Aaf h
def qC(l m:List HV):Bool:=BG (motive:=fun _=>List HV->Bool) (fun m=>BG (motive:=fun _=>Bool) true (fun _ _ _=>false) m)
 (fun x _ a m=>BG (motive:=fun _=>Bool) false (fun y b _=>Dh (eqV x y) (a b) false) m) l m
theorem qD:∀ {l m:List HV},qC l m=true->l=m
 | [],[],_=>rfl
 | [],_::_,h=>by cases h
 | _::_,[],h=>by cases h
 | x::l,y::m,h=>by
  have h:Dh (eqV x y) (qC l m) false=true:=h;cases hb:eqV x y
  ·rw[hb] at h;cases h
  ·rw[hb] at h;rw[Aub hb,qD h]
structure Pc where
 fn:Nat
 args:List HV
 nx:Nat
 hin:List (Nat × List HV)
 x:HV
 nx':Nat
 tch:List Nat
 out:List (Nat × List HV)
def He(l:List (Nat × List HV))(h:Tr HO):Tr HO:=BG (motive:=fun _=>Tr HO->Tr HO) (fun h=>h) (fun p _ a h=>(a h).set p.1 (some (.c p.2))) l h
theorem H3(a:Nat):∀ (l:List (Nat × List HV)) (h:Tr HO),((He l h).get a=h.get a/\∀ p∈l,p.1 ≠ a)\/∃ p,p∈l/\p.1=a/\(He l h).get a=some (.c p.2)
 | [],h => .inl ⟨rfl,fun p b=>by cases b⟩
 | q::l,h=>by
  have e:He (q::l) h=(He l h).set q.1 (some (.c q.2)):=rfl;rw[e,Cf];by_cases d:a=q.1
  ·rw[Af d];exact .inr ⟨q,A1 ..,d.symm,rfl⟩
  ·rw[Ak d];rcases H3 a l h with ⟨h1,h2⟩ | ⟨p,h1,h2,f⟩
   ·exact .inl ⟨h1,fun p b=>by
     rcases Aw.1 b with rfl | b
     ·exact fun e=>d e.symm
     ·exact h2 p b⟩
   ·exact .inr ⟨p,AI _ h1,h2,f⟩
def Pc.sIn(p:Pc):HS:=⟨He p.hin .e,p.nx,[]⟩
def Pc.after(p:Pc)(s:HS):HS:=⟨He p.out s.h,p.nx',p.tch++TH p.nx (p.nx'-p.nx)++s.lg⟩
def qE(l:List (Nat × List HV))(h:Tr HO):Bool:=BG (motive:=fun _=>Bool) true (fun p _ a=>GQ (motive:=fun _=>Bool) false (fun o=>HO.rec (motive:=fun _=>Bool) (fun cs=>Dh (qB p.2 cs) a false) (fun _=>false) (fun _ _ _ _ _ _ _=>false) (fun _ _=>false) o) (h.get p.1)) l
theorem Yq{h:Tr HO}:∀ {l:List (Nat × List HV)},qE l h=true->∀ p∈l,h.get p.1=some (.c p.2)
 | [],_,p,i=>by cases i
 | q::l,hi,p,i=>by
  have hi:GQ (motive:=fun _=>Bool) false (fun o=>HO.rec (motive:=fun _=>Bool) (fun cs=>Dh (qB q.2 cs) (qE l h) false) (fun _=>false) (fun _ _ _ _ _ _ _=>false) (fun _ _=>false) o) (h.get q.1)=true:=hi;cases j:h.get q.1 with
  | none=>rw[j] at hi;cases hi
  | some o =>
   rw[j] at hi;cases o with
   | c cs =>
    have hi:Dh (qB q.2 cs) (qE l h) false=true:=hi;cases hb:qB q.2 cs
    ·rw[hb] at hi;cases hi
    ·rw[hb] at hi;rcases Aw.1 i with rfl | i
     ·rw[j,Uy hb]
     ·exact Yq hi p i
   | m es=>cases hi
   | l a b c d e f g=>cases hi
   | it a b=>cases hi
def Pc.fits(p:Pc)(fv:HV)(args:List HV)(s:HS):Bool :=
 match fv with
 | .f fn [] []=>Dh (Au fn p.fn) (Dh (qC args p.args) (qE p.hin s.h) false) false
 | _=>false
def Pc.look(p:Pc)(r:Option (HV × HS)):Option (HV × Nat × List (Option HO) × Bool) :=
 bO r fun q=>some (q.1,q.2.nx,p.out.map (fun o=>q.2.h.get o.1),q.2.lg.all fun a=>BN a p.tch || (CM p.nx a&&Jd a q.2.nx))
def Pc.wf(p:Pc):Bool:=p.tch.all (fun a=>(p.hin.any fun o=>Au o.1 a)&&p.out.any fun o=>Au o.1 a)&&p.out.all (fun o=>BN o.1 p.tch || (CM p.nx o.1&&Jd o.1 p.nx'))
variable {P:Program}
structure Snd (P:Program) (p:Pc):Prop where
 wf:p.wf=true
 run:∃ (call:B0) (s':HS),HOk P call/\call (.f p.fn [] []) p.args p.sIn=some (p.x,s')/\s'.nx=p.nx'/\(∀ o∈p.out,s'.h.get o.1=some (.c o.2))/\∀ a∈s'.lg,a∈p.tch\/(p.nx<=a/\a<p.nx')
theorem Gb{p:Pc}{call:B0}(hc:HOk P call)(d:p.wf=true)(h:p.look (call (.f p.fn [] []) p.args p.sIn)=some (p.x,p.nx',p.out.map (fun o=>some (.c o.2)),true)):Snd P p:=by
 refine⟨d,?_⟩;obtain⟨⟨x,s'⟩,h1,h2⟩:=BB h;simp only[Ab,BP] at h2;obtain⟨e,b,g,i⟩:=h2;subst e;refine⟨call,s',hc,h1,b,fun o ho => ?_,fun a j => ?_⟩
 ·exact List.map_inj_left.1 g o ho
 ·have:=A6.1 i a j;simp only[C7,U,Fv] at this;rcases this with h | ⟨h1,h2⟩
  ·exact .inl h
  ·exact .inr ⟨SR h1,by rw[<- b];exact by rwa [Jx] at h2⟩
def Aag(a:Tr Pc)(call:B0):B0:=fun fv args s =>
 GQ (motive:=fun _=>RH) (call fv args s) (fun p=>Dh (p.fits fv args s&&Au p.nx s.nx) (some (p.x,p.after s)) (call fv args s)) (a.get s.nx)
theorem Mz{a:Tr Pc}{call:B0}{fv:HV}{args:List HV}{s:HS}{r:HV × HS}(h:Aag a call fv args s=some r):call fv args s=some r\/∃ p,a.get s.nx=some p/\fv = .f p.fn [] []/\args=p.args/\p.nx=s.nx/\(∀ o∈p.hin,s.h.get o.1=some (.c o.2))/\r=(p.x,p.after s):=by
 unfold Aag at h;cases b:a.get s.nx with
 | none=>rw[b] at h;exact .inl h
 | some p =>
  rw[b] at h;have h:Dh (p.fits fv args s&&Au p.nx s.nx) (some (p.x,p.after s)) (call fv args s)=some r:=h;cases hf:(p.fits fv args s&&Au p.nx s.nx)
  ·rw[hf] at h;exact .inl h
  ·rw[hf] at h;simp only[U] at hf;obtain⟨h1,h2⟩:=hf;unfold Pc.fits at h1;split at h1
   ·rename_i _ fn _;cases hb:Au fn p.fn
    ·rw[hb] at h1;cases h1
    rw[hb] at h1;have h1:Dh (qC args p.args) (qE p.hin s.h) false=true:=h1;cases hc:qC args p.args
    ·rw[hc] at h1;cases h1
    rw[hc] at h1;cases h;exact .inr ⟨p,rfl,by rw[Aj hb],qD hc,Aj h2,Yq h1,rfl⟩
   ·cases h1
theorem HR.sub{μ:Mu}{h b:Tr HO}{w:World}(H:HR μ h w)(hs:∀ a o,b.get a=some o->h.get a=some o):HR μ b w :=
 ⟨fun a o c=>H.obj a o (hs a o c),fun a a' o o' r r' h1 h2=>H.inj a a' o o' r r' (hs _ _ h1) (hs _ _ h2),H.lt⟩
theorem qF{p:Pc}{a:Nat}{o:HO}(h:p.sIn.h.get a=some o):∃ q∈p.hin,q.1=a/\o = .c q.2:=by
 rcases H3 a p.hin .e with ⟨h1,_⟩ | ⟨q,h1,h2,b⟩
 ·have h0:(He p.hin .e).get a=some o:=h;rw[h1] at h0;cases h0
 ·have h0:(He p.hin .e).get a=some o:=h;rw[b] at h0;exact⟨q,h1,h2,(AM h0).symm⟩
section
variable {p:Pc} {s s':HS}
theorem M2(h:p.wf=true){a:Nat}(b:a∈p.tch):(∃ o∈p.hin,o.1=a)/\∃ o∈p.out,o.1=a:=by
 simp only[Pc.wf,U,A6] at h;have:=h.1 a b;simp only[List.any_eq_true] at this;obtain⟨⟨o,h1,h2⟩,o',c,d⟩:=this;exact⟨⟨o,h1,Aj h2⟩,o',c,Aj d⟩
theorem Qi(h:p.wf=true){o:Nat × List HV}(ho:o∈p.out):o.1∈p.tch\/(p.nx<=o.1/\o.1<p.nx'):=by
 simp only[Pc.wf,U,A6] at h;have:=h.2 o ho;simp only[C7,U,Fv] at this;exact this.imp id fun ⟨h1,h2⟩=>⟨SR h1,by rwa [Jx] at h2⟩
theorem wP(b:p.wf=true)(q:Qt p.sIn s')(i:s'.nx=p.nx')(ho:∀ o∈p.out,s'.h.get o.1=some (.c o.2))(hl:∀ a∈s'.lg,a∈p.tch\/(p.nx<=a/\a<p.nx'))(hin:∀ o∈p.hin,s.h.get o.1=some (.c o.2)){a:Nat}{o:HO}(h:(p.after s).h.get a=some o) :
  (s'.h.get a=some o/\((∃ q∈p.hin,q.1=a)\/(p.nx<=a/\a<p.nx')))\/(s.h.get a=some o/\((∀ q∈p.hin,q.1 ≠ a)\/(p.nx<=a/\a<p.nx'))):=by
 have h0:(He p.out s.h).get a=some o:=h;rcases H3 a p.out s.h with ⟨h1,h2⟩ | ⟨x,h1,h2,j⟩
 ·rw[h1] at h0;by_cases hn:p.nx<=a/\a<p.nx'
  ·exact .inr ⟨h0,.inr hn⟩
  by_cases hi:∃ q∈p.hin,q.1=a
  ·left;obtain⟨x,f,g⟩:=hi;have k:¬ a∈p.tch:=fun l=>by obtain⟨_,y,m,n⟩:=M2 b l;exact h2 y m n
   have r:¬ a∈s'.lg:=fun e=>by rcases hl a e with e | e;exact k e;exact hn e
   have t:=q.keep a r (by rw[i];exact hn);rw[t];refine⟨?_,.inl ⟨x,f,g⟩⟩;rcases H3 a p.hin .e with ⟨_,d⟩ | ⟨y,u,d,v⟩
   ·exact absurd g (d x f)
   ·show (He p.hin .e).get a=some o;rw[v];have:=hin y u;rw[d,h0] at this;exact this.symm
  ·exact .inr ⟨h0,.inl fun q w e=>hi ⟨q,w,e⟩⟩
 ·rw[j] at h0;cases h0;left;have:=ho x h1;rw[h2] at this;refine⟨this,?_⟩;rcases Qi b h1 with e | e
  ·rw[h2] at e;exact .inl (M2 b e).1
  ·rw[h2] at e;exact .inr e
theorem Aft(d:p.wf=true)(k:p.nx<=p.nx')(hs:p.nx=s.nx)(hin:∀ o∈p.hin,s.h.get o.1=some (.c o.2)):Qt s (p.after s) where
 nx:=by show s.nx<=p.nx';rw[<- hs];exact k
 lg a b:=J5 _ b
 dom a o h:=by
  have h0:(He p.out s.h).get a=some o:=h;rcases H3 a p.out s.h with ⟨h1,_⟩ | ⟨x,h1,h2,l⟩
  ·rw[h1] at h0;exact .inl ⟨o,h0⟩
  ·rcases Qi d h1 with e | e
   ·obtain⟨y,f,g⟩:=(M2 d e).1;have:=hin y f;rw[g,h2] at this;exact .inl ⟨_,this⟩
   ·rw[h2,hs] at e;exact .inr e
 keep a h1 h2:=by
  show (He p.out s.h).get a=s.h.get a;rcases H3 a p.out s.h with ⟨i,_⟩ | ⟨x,i,j,m⟩
  ·exact i
  ·rcases Qi d i with e | e
   ·rw[j] at e;exact absurd (EF _ (EF _ e)) h1
   ·rw[j,hs] at e;exact absurd e h2
 lgd a b:=by
  have b:a∈p.tch++TH p.nx (p.nx'-p.nx)++s.lg:=b;rcases AF.1 b with b | b
  ·rcases AF.1 b with b | b
   ·obtain⟨y,f,g⟩:=(M2 d b).1;have:=hin y f;rw[g] at this;exact .inr (.inl ⟨_,this⟩)
   ·rw[A1e] at b;refine .inr (.inr ⟨by rw[<- hs];exact b.1,?_⟩);show a<p.nx';omega
  ·exact .inl b
theorem wQ(C:Snd P p)(hs:p.nx=s.nx)(hin:∀ o∈p.hin,s.h.get o.1=some (.c o.2)){μ:Mu}{w:World}{vals:Array Value}(H:HR μ s.h w)(hf:D1 μ s.nx (p.after s).nx)(J:SM μ ([]++p.args++[]) vals) :
  CallsIn H7 0 P p.fn vals w (KA μ s w (p.after s) p.x):=by
 obtain⟨c0,u,h1,h2,l,K,L⟩:=C.run;have M:=C.wf;have q:=h1.qt _ _ _ _ _ h2;obtain⟨g1,N⟩:=h1.fn h2;have n:∀ a o,p.sIn.h.get a=some o->s.h.get a=some o:=fun a o f=>by
  obtain⟨x,h1,h2,l⟩:=qF f;rw[l,<- h2];exact hin x h1
 have O:D1 μ p.sIn.nx u.nx:=fun c c1 c2=>hf c (by rw[<- hs];exact c1) (by show c<p.nx';rw[<- l];exact c2);refine Yk (F:=H7) (N (H.sub n) O J) fun e w' y => ?_;cases e with
 | panicked _=>exact y.elim
 | outgrown=>exact y.elim
 | returned v =>
  obtain⟨μ',z,d,Q⟩:=y;have D:∀ {a o},s.h.get a=some o->(∀ q∈p.hin,q.1 ≠ a)->∀ r,μ a=some r->∀ b k r2,p.sIn.h.get b=some k->μ b=some r2->r2.1 ≠ r.1:=by
   intro a o f R r hr b k r2 hb m e;have:=H.inj b a k o r2 r (n _ _ hb) f m hr e;obtain⟨x,i,j,_⟩:=qF hb;exact R x i (j.trans this)
  have S:∀ {a o},s.h.get a=some o->¬ (p.nx<=a/\a<p.nx'):=by
   intro a o f hn;obtain⟨r,hr,_⟩:=H.obj a o f;rw[hf a (by rw[<- hs];exact hn.1) hn.2] at hr;cases hr
  have A:∀ {a o},(p.after s).h.get a=some o->u.h.get a=some o/\((∃ q∈p.hin,q.1=a)\/(p.nx<=a/\a<p.nx'))\/(s.h.get a=some o/\∀ q∈p.hin,q.1 ≠ a):=by
   intro a o f;rcases wP M q l K L hin f with h | ⟨h,g | g⟩
   ·exact .inl h
   ·exact .inr ⟨h,g⟩
   ·exact absurd g (S h)
  have E:∀ {a o},u.h.get a=some o->((∃ q∈p.hin,q.1=a)\/(p.nx<=a/\a<p.nx'))->∀ {r},μ' a=some r->∀ {b k},s.h.get b=some k->(∀ q∈p.hin,q.1 ≠ b)->∀ {r2},μ b=some r2->r.1 ≠ r2.1:=by
   intro a o f B r hr b k hb G r2 m e;rcases d.new a r hr with h | ⟨c,T,U,V⟩ | h
   ·rcases B with ⟨x,i,j⟩ | hn
    ·have:=hin x i;rw[j] at this;have:=H.inj a b _ _ r r2 this hb h m e;exact G x i (j.trans this)
    ·rw[hf a (by rw[<- hs];exact hn.1) hn.2] at h;cases h
   ·exact D hb G r2 m c T r U V e
   ·have:=H.lt b r2 m;omega
  refine⟨μ',⟨fun a o f => ?_,fun a a' o o' r r' f W hr t e => ?_,z.lt⟩,⟨d.le,d.os,d.tape,d.out,d.size,fun b r hb=>(d.new b r hb).imp id fun h=>h.imp (fun ⟨a,o,i,j⟩=>⟨a,o,n _ _ i,j⟩) id,fun r hr hn=>d.frame r hr fun a o q i j=>hn a o q (n _ _ i) j,fun b hb=>d.stay b (by rw[l];show ¬ (p.nx<=b/\b<p.nx');rw[hs];exact hb)⟩,Q⟩
  ·rcases A f with ⟨h,_⟩ | ⟨h,hn⟩
   ·exact z.obj a o h
   ·obtain⟨r,hr,X⟩:=H.obj a o h;exact⟨r,d.le _ _ hr,X.same d.le (d.frame r.1 (H.lt _ _ hr) fun b k r2 i j=>D h hn r hr b k r2 i j)⟩
  ·have back:∀ {a o r},s.h.get a=some o->μ' a=some r->μ a=some r:=by
    intro a o r h1 h2;obtain⟨r0,I,_⟩:=H.obj a o h1;have:=d.le _ _ I;rw[h2] at this;rw[I,this]
   rcases A f with ⟨h,B⟩ | ⟨h,hn⟩ <;> rcases A W with ⟨g,Y⟩ | ⟨g,Z⟩
   ·exact z.inj a a' o o' r r' h g hr t e
   ·exact absurd e (E h B hr g Z (back g t))
   ·exact absurd e.symm (E g Y t h hn (back h hr))
   ·exact H.inj a a' o o' r r' h g (back h hr) (back g t) e
theorem Auc(a:Snd P p):∃ F c,P.funcs[p.fn]? = some F/\O4 F=true/\F.body=some c:=by
 obtain⟨c0,b,h1,h2,d,e,f⟩:=a.run;exact (h1.fn h2).1
theorem Aud(a:Snd P p):p.nx<=p.nx':=by
 obtain⟨c0,c,h1,h2,b,d,e⟩:=a.run;have:=(h1.qt _ _ _ _ _ h2).nx;rw[b] at this;exact this
end
theorem Aqt{d:Tr Pc}{call:B0}(hc:HOk P call)(c:∀ k p,d.get k=some p->Snd P p):HOk P (Aag d call) where
 qt f l s x s' h:=by
  rcases Mz h with h | ⟨p,a,rfl,rfl,hs,hin,e⟩
  ·exact hc.qt _ _ _ _ _ h
  ·cases e;exact Aft (c _ _ a).wf (Aud (c _ _ a)) hs hin
 only h:=by
  rcases Mz h with h | ⟨p,a,rfl,_⟩
  ·exact hc.only h
  ·exact .inl ⟨_,_,_,rfl⟩
 fn {fn fs cs args s x s'} h:=by
  rcases Mz h with h | ⟨p,a,e0,rfl,hs,hin,e⟩
  ·exact hc.fn h
  ·cases e0;cases e;exact⟨Auc (c _ _ a),fun H hf g=>wQ (c _ _ a) hs hin H hf g⟩
 yd {b args s x s'} h:=by
  rcases Mz h with h | ⟨p,a,e0,_⟩
  ·exact hc.yd h
  ·cases e0
def Py(P:Program)(a:Nat)(mk:Nat->Nat)(b:Tr Pc)(d:Nat):B0 :=
 Nu (motive:=fun _=>B0) (fun _ _ _=>none) (fun _ c=>Aag b (fun fv args s=>SK P c a mk fv args s)) d
def E4(P:Program)(a:Tr Pc):Prop:=∀ k p,a.get k=some p->Snd P p
theorem E4.nil:E4 P .e:=fun k p h=>by cases h
theorem E4.add{b:Tr Pc}(h:E4 P b){k:Nat}{p:Pc}(c:Snd P p):E4 P (b.set k (some p)):=fun j q a=>by
 rw[Cf] at a;split at a
 ·cases a;exact c
 ·exact h j q a
theorem Fr(a:P.follows .mixedOrders=true){e:Nat}{mk:Nat->Nat}{b:Tr Pc}(c:E4 P b):∀ d,HOk P (Py P e mk b d)
 | 0=>pZ
 | d+1=>Aqt (pY a (Fr a c d)) c
end
end Go.Hp
