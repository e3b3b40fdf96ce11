/- Texts of the proof of ContactStates: part 10 of 18. -/
import Derived.OrdersIn
import Derived.RangeFuncRecord
import Derived.Test.YtenfgdobfjofkaaGreatCst9
namespace Go.Hp
open Go.Ai Go.RowKit
open _root_.Array renaming foldl_toList->Si,getD_eq_getD_getElem?->A4,getElem?_append_left->U8,getElem?_eq_getElem->AE,getElem?_eq_some_iff->AR,getElem?_setIfInBounds_ne->Jo,getElem?_setIfInBounds_self_of_lt->nK,length_toList->B3,map->AFp,mapM_eq_mapM_toList->L5,replicate->DY
open Bool renaming and_eq_true->U,false_and->Ea,false_eq_true->AC,or_eq_true->CD
open Classical renaming epsilon->Avh,epsilon_spec_aux->vV
open Go renaming undef->A9
open Go.Act renaming eval->Jq,put->nO
open Go.Calls renaming mono->vW
open Go.CallsIn renaming mono->iG
open Go.Code renaming region->iO
open Go.Deferred renaming ofValue->EU
open Go.Exit renaming inBlock->Apm
open Go.Fence renaming wide->II
open Go.Frame renaming atR->AJi
open Go.Region renaming ready->Hf,wanted->J5
open Go.Result renaming andThen_ok->W
open Go.RowKit.Below renaming heap_alloc->FM
open Go.Sem renaming run->Cl,run_bind->Aj,run_map->Apv,run_pure->An
open Go.Value renaming func->AIv
open Go.World renaming putObj_heap_other->EA,putObj_heap_same->A8o,putObj_size->SY
open Go.stepG renaming exec->AIu
open Int renaming rec->A8j
open List renaming all_eq_true->AKf,append_nil->Df,eq_nil_of_length_eq_zero->Bb,getD_eq_getElem?_getD->Z,getElem?_eq_getElem->Af,getElem?_eq_none->AX,getElem?_eq_some_iff->Az,getElem?_take_of_lt->B8,getElem_append_left->Dj,getElem_append_right->Dd,getElem_cons_zero->Bk,getElem_toArray->EI,length->C,length_cons->B1,mapM_cons->Gz,mem_append->AK,mem_append_left->B9,mem_append_right->BT,mem_cons->Aw,mem_cons_of_mem->AJ,mem_cons_self->AKh,mem_filter->Gj,mem_map->Cb,mem_range'_1->AJn,mem_zipIdx_iff_getElem?->HY,nil_append->Dg,pairwise_cons->XQ,range->AZ,range'->WS,range_eq_range'->AFr,rec->BZ,size_toArray->CS,take_add_one->AJm,take_of_length_le->E_
open Nat renaming add_assoc->DC,add_comm->KG,beq->AKi,beq_refl->E7,ble->Dq,blt->Ks,blt_eq->KD,eq_of_beq_eq_true->Ao,le_of_ble_eq_true->Ap,le_refl->Ay,le_trans->AA,lt_of_lt_of_le->Bf,lt_or_ge->CH,lt_succ_self->FJ,lt_trichotomy->Avp,rec->Pj,strongRecOn->WQ,sub_zero->Wh,zero_add->AH,zero_le->B_
open Ne renaming symm->CW
open Option renaming bind_some->AFn,getD_some->F6,rec->HW
open Option.some renaming inj->AY,injEq->Ac
open Prod.mk renaming injEq->Cc
def W0(rd:Option Nat):Fence:={ fn:=fun _=>True,depth:=none,alive:=false,round:=rd }
def VY(μ:Mu)(l:List HV)(vs:Array Value):Prop:=vs.size=C l/\∀ (j:Nat) (h1:j<C l) (h2:j<vs.size),VR μ l[j] vs[j]
theorem VY.append{μ:Mu}{l m:List HV}{us vs:Array Value}(h:VY μ l us)(g:VY μ m vs):VY μ (l++m) (us++vs):=by
 have a:=h.1;have c:=g.1;refine⟨by simp[a,c],fun j h1 h2 => ?_⟩;by_cases b:j<C l
 ·rw[Dj b,Array.getElem_append_left (by omega)];exact h.2 j b _
 ·rw[Dd (by omega),Array.getElem_append_right (by omega)];have:=g.2 (j-C l) (by simp at h1;omega) (by simp at h2;omega);simpa [a] using this
def Mm(μ:Mu)(s:HS)(w:World)(s':HS)(x:HV):Ending->World->Prop
 | .returned v,w'=>∃ μ',HR μ' s'.h w'/\Step μ s w μ' s' w'/\VR μ' x v
 | _,_=>False
structure HOk (P:Program) (call:BI):Prop where
 qt:QC call
 only:∀ {fv args s r},call fv args s=some r->(∃ fn fs cs,fv = .f fn fs cs)\/∃ b,fv = .y b
 fn:∀ {fn fs cs args s x s'},call (.f fn fs cs) args s=some (x,s')->(∃ F c,P.funcs[fn]? = some F/\Qy F=true/\F.body=some c)/\∀ {μ:Mu} {w:World} {vals:Array Value},HR μ s.h w->D_ μ s.nx s'.nx->VY μ (fs++args++cs) vals->CallsIn II 0 P fn vals w (Mm μ s w s' x)
 yd:∀ {b args s x s'},call (.y b) args s=some (x,s')->∀ {μ:Mu} {w:World} {vals:Array Value} {q:Nat × Nat},HR μ s.h w->D_ μ s.nx s'.nx->μ b=some q->VY μ args vals ->
  ∃ fn tmps asx bd,(Instr.yield q.1 vals).run P w = .ok (.round q.1 fn tmps asx bd) w/\RoundIn II 0 P q.1 fn tmps asx bd w (Mm μ s w s' x)
section
variable {P:Program} {call:BI} {n:Nat} {rd:Option Nat} {ρ:En} {s s':HS} {μ:Mu} {a:Act} {w:World} {o:Oper} {ops:Array Oper} {Q:Exit->Act->World->Prop}
theorem vD{op:Op}(h:R1 op=true):∃ c f,op = .call c/\c.callee = .value f:=by
 cases op <;> try (cases h;done)
 rename_i c;simp only[R1] at h;split at h
 next f hf=>exact⟨c,f,rfl,hf⟩
 ·cases h
theorem Akp{c:Call}{f:Operand}{fn:Nat}{F:Func}{g:Code}{us d:Array Value}(h:o.op = .call c)(i:c.callee = .value f)(j:a.eval f = .func (.func fn) us d)(k:P.funcs[fn]? = some F)(b:Qy F=true)(hb:F.body=some g) :
  (execOp a.eval o).run P w = .ok (.enter fn (us++c.args.map a.eval++d)) w:=by
 have hn:¬ F.name = "runtime.NumGoroutine" := by
  unfold Qy at b;intro e;rw[e] at b;cases b
 simp[execOp,h,resolve,i,j,EU,invoke,callFunc,program,Cl,k,hn,hb]
theorem A7m(hc:HOk P call)(H:HR μ s.h w)(F:FR μ n ρ a.tmps){x:HV}(hf:D_ μ s.nx s'.nx)(h:(A8 P o.op).run call ρ s=some (x,s')){K:Act->World->Prop}
  (j:∀ v μ' w',HR μ' s'.h w'->Step μ s w μ' s' w'->VR μ' x v->K (a.put o.dst v) w'):o.wpIn (W0 rd) 0 P a w K Q:=by
 have G:o.semAt (W0 rd).round a.eval=execOp a.eval o:=Oper.semAt_eq _ _ _ fun c e=>by rw[e] at h;cases h
 refine⟨fun _ _=>trivial,?_⟩;rw[G];cases B:R1 o.op
 ·obtain⟨v,μ',w',g,h1,h2,C⟩:=ABp (P:=P) H F hf B h;rcases g with g | ⟨g,rfl⟩
  ·rw[g];exact j v μ' w' h1 h2 C
  ·rw[g];exact j _ μ' w' h1 h2 C
 ·obtain⟨c,f,l,m⟩:=vD B;have d:=h;rw[l] at d;simp only[A8,m] at d;obtain⟨fv,I,d⟩:=BY d;obtain⟨vs,J,d⟩:=BY d;obtain⟨D,E⟩:=Rv F J;have k:=Cy F I;rcases hc.only d with ⟨fn,fs,cs,rfl⟩ | ⟨b,rfl⟩
  ·obtain⟨⟨Fn,Y,p,r,L⟩,M⟩:=hc.fn d;generalize hu:a.eval f=u at k;cases k with
   | f _ _ _ us N O R S T =>
    rw[Akp (P:=P) (w:=w) l m hu p r L];refine⟨fun e=>(by cases e),?_⟩;have U:VY μ (fs++vs++cs) (us++c.args.map a.eval++N):=VY.append (VY.append ⟨O,S⟩ ⟨D,E⟩) ⟨R,T⟩;have V:=M H hf U;exact iG (F:=W0 rd) V fun e w' i=>by
     cases e with
     | returned v=>obtain⟨μ',t,z,A⟩:=i;exact j v μ' w' t z A
     | panicked _=>exact i.elim
     | outgrown=>exact i.elim
  ·generalize hu:a.eval f=u at k;cases k with
   | y X =>
    rename_i q;obtain⟨fn,tmps,asx,bd,p,r⟩:=hc.yd d H hf X (vals:=c.args.map a.eval) ⟨D,E⟩;have g:(execOp a.eval o).run P w = .ok (.round q.1 fn tmps asx bd) w:=by
     simp only[execOp,l,resolve,m,hu,EU,Aj,An,W,invoke];have:(#[]:Array Value)++c.args.map a.eval=c.args.map a.eval:=by simp
     rw[this];exact p
    rw[g];refine⟨fun e=>(by cases e),?_⟩;exact RoundIn.mono (F:=W0 rd) r fun e w' i=>by
     cases e with
     | returned v=>obtain⟨μ',t,z,A⟩:=i;exact j v μ' w' t z A
     | panicked _=>exact i.elim
     | outgrown=>exact i.elim
theorem vE{j t:Nat}{b b':Bool}(h:R4 ops (some (j,b))=some (t,b')):(ops[j]?).bind (·.dst)=some t/\b'=b:=by
 simp only[R4] at h;split at h
 ·rename_i o ho;split at h
  next t' a=>cases h;exact⟨by simp[ho,a],rfl⟩
  ·cases h
 ·cases h
theorem VZ{tm:Array Value}(h:∀ q x,R4 ops o.guard=some q->ρ.get q.1=some x->VR μ x (tm.getD q.1 A9)){b:Bool}(e:Qx ρ ops o.guard=some b):J5 o (yielded ops tm)=b:=by
 cases f:o.guard with
 | none =>
  rw[f] at e;simp only[Qx,Ac] at e;subst e;simp[J5,f]
 | some p =>
  obtain⟨j,n⟩:=p;rw[f] at e h;simp only[Qx] at e;obtain⟨⟨t,i⟩,k,d⟩:=BY e;clear e;obtain⟨h2,rfl⟩:=vE k;have l:∀ v,tm.getD t A9=v->v ≠ A9->tm[t]? = some v:=by
   intro v a m;rw[A4] at a;cases g:tm[t]? with
   | none=>rw[g] at a;exact absurd a.symm m
   | some u=>rw[g] at a;simp at a;rw[a]
  simp only[J5,f,yielded,h2,AFn];cases hr:ρ.get t with
  | none=>rw[hr] at d;cases d
  | some x =>
   have h0:=h (t,i) x k hr;simp only at h0;rw[hr] at d;generalize a:tm.getD t A9=v at h0;cases x <;> try (cases d;done)
   ·cases h0;simp only[Ac] at d;rw[l _ a (by nofun),<- d];rename_i c;cases c <;> cases i <;> rfl
   ·cases h0;simp only[Ac] at d;rw[<- d];rw[A4] at a;cases g:tm[t]? with
    | none=>simp
    | some u=>rw[g] at a;simp at a;rw[a];simp[A9]
theorem FR.put(F:FR μ n ρ a.tmps){μ':Mu}(f:∀ a r,μ a=some r->μ' a=some r){d:Option Nat}(hd:Qw n d=true){x:HV}{v:Value}(g:VR μ' x v):FR μ' n (L0 ρ d x) (a.put d v).tmps:=by
 cases d with
 | none=>exact F.mono f
 | some d =>
  have hd:Ks d n=true:=hd;rw[KD] at hd;have hs:=F.1;refine⟨by simpa [nO] using hs,fun t y b => ?_⟩;rw[nE] at b;have e:(a.put (some d) v).tmps=a.tmps.setIfInBounds d v:=rfl;rw[e];by_cases c:t=d
  ·subst c;rw[Ae rfl] at b;cases b;rw[A4,nK (by omega)];exact g
  ·rw[Al fun e=>c (AY e).symm] at b;rw[A4,Jo (CW c),<- A4];exact (F.2 t y b).mono f
theorem Mn(a:Act)(d:Option Nat)(v:Value):(a.put d v).defers=a.defers:=by cases d <;> rfl
theorem D_.left{μ:Mu}{a b c:Nat}(h:D_ μ a c)(e:b<=c):D_ μ a b:=fun d h1 h2=>h d h1 (by omega)
theorem D_.right{μ μ':Mu}{s a:HS}{w w':World}{c:Nat}(h:D_ μ s.nx c)(q:s.nx<=a.nx)(st:Step μ s w μ' a w'):D_ μ' a.nx c:=fun d h1 h2=>by rw [st.stay d (by omega)];exact h d (by omega) h2
theorem Akq(hc:HOk P call)(H:HR μ s.h w)(F:FR μ n ρ a.tmps){i:Nat}{ρ':En}(hi:ops[i]? = some o)(hf:D_ μ s.nx s'.nx)(h:(Ee P call n ops o).run ρ s=some (ρ',s')){K:Act->World->Prop}
  (d:∀ a' μ' w',HR μ' s'.h w'->FR μ' n ρ' a'.tmps->a'.defers=a.defers->Step μ s w μ' s' w'->K a' w'):wpOpIn (W0 rd) 0 P ops Q i K a w:=by
 obtain⟨hd,b,hb,f⟩:=hJ h;have g:=VZ (tm:=a.tmps) (fun q x _ c=>F.2 _ _ c) hb;unfold wpOpIn;simp only[hi,g];rcases f with ⟨rfl,x,c,rfl⟩ | ⟨rfl,rfl,rfl⟩
 ·simp only[if_true];exact A7m hc H F hf c fun v μ' w' h1 h2 j=>d _ μ' w' h1 (F.put h2.le hd j) (Mn _ _ _) h2
 ·simp only[AC,if_false];exact⟨fun _ _=>trivial,d _ μ w H (F.put (fun _ _ e=>e) hd .u) (Mn _ _ _) (Step.refl _ _ _)⟩
theorem Aov(hc:HOk P call){a0:Act}{μ0:Mu}{b:HS}{w0:World}{ρ':En}:∀ {l:List Oper} {k:Nat} {ρ:En} {s:HS} {μ:Mu} {a:Act} {w:World},(∀ j,l[j]? = ops[k+j]?)->HR μ s.h w->FR μ n ρ a.tmps->a.defers=a0.defers->Step μ0 b w0 μ s w->Qt b s->D_ μ0 b.nx s'.nx ->
  (CY P call n ops l).run ρ s=some (ρ',s')->(∀ a' μ' w',HR μ' s'.h w'->FR μ' n ρ' a'.tmps->a'.defers=a0.defers->Step μ0 b w0 μ' s' w'->Q .normal a' w')->wpOpsIn (W0 rd) 0 P ops Q (WS k (C l)) a w
 | [],k,ρ,s,μ,a,w,_,H,F,hd,st,_,_,h,c=>by
  cases h;exact c _ _ _ H F hd st
 | o::l,k,ρ,s,μ,a,w,hl,H,F,hd,st,q,hf,h,c=>by
  obtain⟨ρ1,r,h1,h2⟩:=WG h;have d:=Adw hc.qt h1;have e:=VX hc.qt h2;have f:=hf.right q.nx st;have hi:ops[k]? = some o:=by simpa using (hl 0).symm
  rw[B1,List.range'_succ,wpOpsIn_cons];refine Akq hc H F hi (f.left e.nx) h1 fun a' μ' w' g i m p => ?_;exact Aov hc (fun j=>by have:=hl (j+1);simpa [DC,KG 1 j] using this) g i (m.trans hd) (st.trans p q d (hf.left (AA d.nx e.nx))) (q.trans d) hf h2 c
end
noncomputable section
section
variable {P:Program} {call:BI} {n:Nat} {rd:Option Nat} {ops:Array Oper} {Q:Exit->Act->World->Prop}
variable {h0:Tr HO} {ρ0:En} {rs:List Rec} {ρs:Nat->En} {nxs:Nat->Nat} {lgs:Nat->List Nat}
abbrev D9(ops:Array Oper)(i:Nat):List Nat:=(Hj ops.toList []).getD i []
structure Dw (P:Program) (call:BI) (n:Nat) (ops:Array Oper) (h0:Tr HO) (rs:List Rec) (ρs:Nat->En) (nxs:Nat->Nat) (lgs:Nat->List Nat):Prop where
 len:rs.length=ops.size
 op:∀ i o,ops[i]? = some o->∃ r,rs[i]? = some r/\RecF P call ops (ρs i) h0 (nxs i) (nxs (i+1)) (lgs i) (rs.take i) (D9 ops i) o r/\Qw n o.dst=true/\ρs (i+1)=L0 (ρs i) o.dst r.v
 apart:∀ i j r r',j<i->rs[j]? = some r->rs[i]? = some r'->BM j (D9 ops i)=false->Apart r r' (lgs i)
theorem AIt{k:Nat}(hc:QC call)(e:k=ops.size)(h:DR P call n ops h0 (Hj ops.toList []) rs ρs nxs lgs k):Dw P call n ops h0 rs ρs nxs lgs:=by
 subst e;refine⟨h.len,fun i o ho => ?_,fun i j r r' hji hr a hm => ?_⟩
 ·have hi:=(AR.1 ho).1;obtain⟨o',r,h1,h2,b,c,_,d⟩:=h.op i hi;rw[ho] at h1;cases h1;exact⟨r,h2,Adx hc b,c,d⟩
 ·have hi:i<ops.size:=by
   have:=(Az.1 a).1;have:=h.len;omega
  obtain⟨o',r1,h1,h2,b,c,f,d⟩:=h.op i hi;rw[a] at h2;cases h2;refine vC (Qz f j r ?_ (by simpa using hm));rw[B8 hji];exact hr
namespace Dw
variable (h:Dw P call n ops h0 rs ρs nxs lgs)
include h
theorem recd{i:Nat}{r:Rec}(hr:rs[i]? = some r):∃ o,ops[i]? = some o/\RecF P call ops (ρs i) h0 (nxs i) (nxs (i+1)) (lgs i) (rs.take i) (D9 ops i) o r/\Qw n o.dst=true/\ρs (i+1)=L0 (ρs i) o.dst r.v:=by
 have hi:i<ops.size:=by
  have:=(Az.1 hr).1;have:=h.len;omega
 obtain⟨r',h1,h2⟩:=h.op i ops[i] (by simp[hi]);rw[hr] at h1;cases h1;exact⟨ops[i],by simp[hi],h2⟩
theorem lgd(hc:QC call){i a:Nat}{r:Rec}(hr:rs[i]? = some r)(b:a∈lgs i):(∃ o,(GZ (D9 ops i) h0 (rs.take i)).get a=some o/\∀ l,r.vis=some l->a∈l)\/(nxs i<=a/\a<nxs (i+1)):=by
 obtain⟨o,ho,hf,_⟩:=h.recd hr;rcases hf.run with ⟨_,c,d⟩ | ⟨_,_,_,_,hl⟩
 ·rcases (R2 hc d).lgd a b with e | ⟨x,e⟩ | e
  ·cases e
  ·obtain⟨f,g⟩:=SO e;exact .inl ⟨x,f,fun l hl=>g l (by rw[<- c];exact hl)⟩
  ·exact .inr e
 ·rw[hl] at b;cases b
theorem rdom(hc:QC call){i a:Nat}{r:Rec}{x:HO}(hr:rs[i]? = some r)(hm:BM a r.ks=true)(b:r.h.get a=some x):(∃ o,(GZ (D9 ops i) h0 (rs.take i)).get a=some o)\/(nxs i<=a/\a<nxs (i+1)):=by
 obtain⟨o,ho,hf,_⟩:=h.recd hr;rcases hf.run with ⟨_,d,c⟩ | ⟨_,_,_,hn,hl⟩
 ·rcases (R2 hc c).dom a x b with ⟨y,e⟩ | e
  ·exact .inl ⟨y,(SO e).1⟩
  ·exact .inr e
 ·rcases (hf.ks a).1 hm with e | e
  ·rw[hl] at e;cases e
  ·exact .inr e
theorem nx_step(hc:QC call){i:Nat}(hi:i<ops.size):nxs i<=nxs (i+1):=by
 obtain⟨r,hr,hf,_⟩:=h.op i ops[i] (by simp[hi]);rcases hf.run with ⟨_,b,a⟩ | ⟨_,_,_,hn,hl⟩
 ·exact (R2 hc a).nx
 ·omega
theorem nx_mono (hc : QC call) {i j : Nat} (h1 : i <= j) (h2 : j <= ops.size) : nxs i <= nxs j := by
  induction j with
  | zero => have : i = 0 := by omega
            rw [this]; exact          Ay _
  | succ j ih =>
    rcases           CH i (j + 1) with h3 | h3
    · exact           AA (ih (by omega) (by omega)) (h.nx_step hc (by omega))
    · have : i = j + 1 := by omega
      rw [this]; exact          Ay _
theorem view_dom(hc:QC call):∀ (i:Nat) {a:Nat} {x:HO},i<=ops.size->(GZ (D9 ops i) h0 (rs.take i)).get a=some x->(∃ o,h0.get a=some o)\/(nxs 0<=a/\a<nxs i):=by
 intro i;induction i using WQ with
 | _ i f =>
  intro a x hi hx;rw[SM] at hx;split at hx
  ·cases hx
  ·rcases Oz (D:=fun j=>BM j (D9 ops i)) (a:=a) (rs:=rs.take i) (i:=0) (b:=h0.get a) with e | ⟨k,r,c,m,g,l⟩
   ·rw[e] at hx;exact .inl ⟨x,hx⟩
   ·have d:k<i:=by
     have:=(Az.1 c).1;simp at this;omega
    rw[B8 d] at c;rw[l] at hx;have n:=h.nx_mono hc (i:=0) (j:=k) (B_ _) (by omega);have p:=h.nx_mono hc (i:=k+1) (j:=i) (by omega) hi;have q:=h.nx_step hc (i:=k) (by omega);rcases h.rdom hc c g hx with ⟨y,e⟩ | e
    ·rcases f k d (by omega) e with e | e
     ·exact .inl e
     ·exact .inr ⟨e.1,by omega⟩
    ·exact .inr ⟨by omega,by omega⟩
omit h in
theorem Aus{i j a:Nat}{r:Rec}{x:HO}(hji:j<i)(hr:rs[j]? = some r)(hm:BM a r.ks=true)(hx:(GZ (D9 ops i) h0 (rs.take i)).get a=some x):BM j (D9 ops i)=true:=by
 rw[SM] at hx
 split at hx
 ·cases hx
 ·rename_i hh
  have:=SN (by simpa using hh) j r (by rw[B8 hji];exact hr) hm
  simpa using this
theorem disjoint(hc:QC call)(c:∀ a o,h0.get a=some o->¬ (nxs 0<=a/\a<nxs ops.size)){i j a:Nat}{r r':Rec}(hji:j<i)(hr:rs[j]? = some r)(b:rs[i]? = some r')(hm:BM j (D9 ops i)=false)(h1:BM a r.ks=true)(h2:BM a r'.ks=true):False:=by
 have hi:i<ops.size:=by
  have:=(Az.1 b).1;have:=h.len;omega
 obtain⟨o,_,hf,_⟩:=h.recd hr;obtain⟨o',_,d,_⟩:=h.recd b;have g:nxs i<=a/\a<nxs (i+1):=by
  rcases (d.ks a).1 h2 with e | e
  ·rcases h.lgd hc b e with ⟨x,hx,_⟩ | e
   ·have:=Aus hji hr h1 hx;rw[hm] at this;cases this
   ·exact e
  ·exact e
 have k:=h.nx_mono hc (i:=j+1) (j:=i) (by omega) (by omega);have l:=h.nx_step hc (i:=j) (by omega);rcases (hf.ks a).1 h1 with e | e
 ·rcases h.lgd hc hr e with ⟨x,hx,_⟩ | e
  ·rcases h.view_dom hc j (by omega) hx with ⟨y,f⟩ | e
   ·have m:=h.nx_mono hc (i:=0) (j:=i) (B_ _) (by omega);have n:=h.nx_mono hc (i:=i+1) (j:=ops.size) (by omega) (Ay _);exact c a y f ⟨by omega,by omega⟩
   ·omega
  ·omega
 ·omega
theorem tmps{i:Nat}(hi:i<=ops.size)(a:ρs 0=ρ0)(t:Nat):(ρs i).get t=Hz (fun _=>true) t (rs.take i) 0 (ρ0.get t):=by
 induction i with
 | zero=>rw[a];rfl
 | succ i b =>
  obtain⟨r,hr,hf,hd,c⟩:=h.op i ops[i] (by simp);have f:i<C rs:=by have:=h.len;omega
  have g:rs[i]=r:=by rw[Af f] at hr;exact AY hr
  rw[c,nE,AJm,hr];simp only[Option.toList];rw[U1,b (by omega),hf.d];by_cases e:ops[i].dst=some t
  ·rw[Ae e,e];simp
  ·rw[Al e];have:(ops[i].dst==some t)=false:=by simpa using e
   rw[this];simp
end Dw
def DL(a:Array Bool)(i:Nat):Bool:=a.getD i false
theorem Aut{b:Array Bool}(c:Tp ops b){i j:Nat}(hi:DL b i=true)(hm:BM j (D9 ops i)=true):DL b j=true:=by
 cases ho:ops[i]? with
 | none =>
  exfalso;have hm:=Gx.1 hm;have d:∀ (l:List Oper) (a:List (List Nat)),C (Hj l a)=C a+C l:=by
   intro l;induction l with
   | nil=>intro a;simp[Hj]
   | cons o l e=>intro a;simp only[Hj];rw[e];simp;omega
  have:(Hj ops.toList [])[i]? = none:=by
   rw[AX];rw[d];have:=Array.getElem?_eq_none_iff.1 ho;simpa using this
  unfold D9 at hm;rw[Z,this] at hm;simp at hm
 | some o=>exact Pg c i o ho (c i o ho hi) j (Gx.1 hm)
structure Sd (μ0:Mu) (h0:Tr HO) (w0:World) (μ:Mu) (w:World) (free:Nat->Prop):Prop where
 le:∀ a r,μ0 a=some r->μ a=some r
 os:w.os=w0.os
 tape:w.tape=w0.tape
 out:w.output=w0.output
 size:w0.heap.size<=w.heap.size
 new:∀ b r,μ b=some r->μ0 b=some r\/(∃ a o,h0.get a=some o/\μ0 a=some r)\/w0.heap.size<=r.1
 frame:∀ r,r<w0.heap.size->(∀ a o q,h0.get a=some o->μ0 a=some q->q.1 ≠ r)->w.heap[r]? = w0.heap[r]?
 stay:∀ b,free b->μ b=μ0 b
structure Inv (P:Program) (n:Nat) (h0:Tr HO) (ρ0:En) (rs:List Rec) (nxs:Nat->Nat) (k:Nat) (μ0:Mu) (w0:World) (a0:Act) (D:Nat->Bool) (μ:Mu) (a:Act) (w:World):Prop where
 size:a.tmps.size=n
 defers:a.defers=a0.defers
 tmp:∀ t x,Hz D t rs 0 (ρ0.get t)=some x->VR μ x (a.tmps.getD t A9)
 obj:∀ b o,Di D b rs 0 (h0.get b)=some o->∃ r,μ b=some r/\OR μ w r o
 inj:∀ b b' o o' r r',Di D b rs 0 (h0.get b)=some o->Di D b' rs 0 (h0.get b')=some o'->μ b=some r->μ b'=some r'->r.1=r'.1->b=b'
 lt:∀ b r,μ b=some r->r.1<w.heap.size
 st:Sd μ0 h0 w0 μ w fun b=>∀ i,i<k->D i=true->¬ (nxs i<=b/\b<nxs (i+1))
end
end
noncomputable section
section
variable {P:Program} {call:BI} {n:Nat} {rd:Option Nat} {ops:Array Oper} {Q:Exit->Act->World->Prop}
variable {h0:Tr HO} {ρ0:En} {rs:List Rec} {ρs:Nat->En} {nxs:Nat->Nat} {lgs:Nat->List Nat}
variable {μ0 μ:Mu} {a0 a:Act} {w0 w:World} {listed:Array Bool}
namespace Dw
variable (h:Dw P call n ops h0 rs ρs nxs lgs)
include h
theorem hd_dom(hc:QC call){D:Nat->Bool}{e:Nat}{x:HO}(c:Di D e rs 0 (h0.get e)=some x):(∃ o,h0.get e=some o)\/(nxs 0<=e/\e<nxs ops.size):=by
 rcases Oz (D:=D) (a:=e) (rs:=rs) (i:=0) (b:=h0.get e) with d | ⟨k,r,d,_,l,m⟩
 ·rw[d] at c;exact .inl ⟨x,c⟩
 ·have n:k<ops.size:=by
   have:=(Az.1 d).1;have:=h.len;omega
  have p:=h.nx_mono hc (i:=0) (j:=k) (B_ _) (by omega);have q:=h.nx_mono hc (i:=k+1) (j:=ops.size) (by omega) (Ay _);have s:=h.nx_mono hc (i:=k) (j:=ops.size) (by omega) (Ay _);rw[m] at c;rcases h.rdom hc d l c with ⟨y,g⟩ | g
  ·rcases h.view_dom hc k (by omega) g with f | f
   ·exact .inl f
   ·exact .inr ⟨f.1,by omega⟩
  ·exact .inr ⟨by omega,by omega⟩
theorem view_sub(hc:QC call)(p:∀ a o,h0.get a=some o->¬ (nxs 0<=a/\a<nxs ops.size)){D:Nat->Bool}{i:Nat}{o:Oper}{r:Rec}(hr:rs[i]? = some r)(q:r.vis=I6 (ρs i) o)(s:D i=false)(t:∀ j,BM j (D9 ops i)=true->D j=true)(u:∀ j,i<j->D j=true->BM i (D9 ops j)=false){b:Nat}{x:HO}
  (c:(N2 (GZ (D9 ops i) h0 (rs.take i)) (I6 (ρs i) o)).get b=some x):Di D b rs 0 (h0.get b)=some x:=by
 obtain⟨c,v⟩:=SO c;have hi:i<ops.size:=by
  have:=(Az.1 hr).1;have:=h.len;omega
 have w:=c;rw[SM] at c;split at c
 ·cases c
 ·rename_i k;have k:hU (D9 ops i) b (rs.take i) 0=false:=by simpa using k
  rw[<- c];have z:Di (fun j=>BM j (D9 ops i)) b (rs.take i) 0 (h0.get b)=Di (fun j=>decide (j<i)&&BM j (D9 ops i)) b (rs.take i) 0 (h0.get b):=HH fun j r' g _=>by
   have:j<i:=by
    have:=(Az.1 g).1;simp at this;omega
   simp[this]
  rw[z,WL fun j r' A _ _=>by simp;omega];refine HH fun j r' g m => ?_;simp only[AH];rcases Avp j i with f | f | f
  ·have:=SN k j r' (by rw[B8 f];exact g) m;rw[AH] at this;rw[this,t j this];simp[f]
  ·subst f;rw[s];simp
  ·have B:¬ j<i:=by omega
   simp only[B,decide_false,Ea];cases C:D j with
   | false=>rfl
   | true =>
    exfalso;obtain⟨o',_,E,_⟩:=h.recd g;have A:j<ops.size:=by
     have:=(Az.1 g).1;have:=h.len;omega
    rcases (E.ks b).1 m with e | e
    ·obtain⟨l,h1,h2⟩:=(h.apart j i r r' f hr g (u j f C)).d b e;exact h2 (v l (by rw[<- q];exact h1))
    ·have F:=h.nx_mono hc (i:=i) (j:=j) (by omega) (by omega);have G:=h.nx_mono hc (i:=0) (j:=j) (B_ _) (by omega);have H:=h.nx_mono hc (i:=j+1) (j:=ops.size) (by omega) (Ay _);rcases h.view_dom hc i (by omega) w with ⟨y,n⟩ | n
     ·exact p b y n ⟨by omega,by omega⟩
     ·omega
theorem tmp_sub(l:ρs 0=ρ0){D:Nat->Bool}{i:Nat}{r:Rec}(hr:rs[i]? = some r)(m:D i=false)(n:∀ j,BM j (D9 ops i)=true->D j=true)(o:∀ j,i<j->D j=true->BM i (D9 ops j)=false){t:Nat}{x:HV}(e:t∈r.tm)
  (f:(ρs i).get t=some x):Hz D t rs 0 (ρ0.get t)=some x:=by
 have hi:i<ops.size:=by
  have:=(Az.1 hr).1;have:=h.len;omega
 rw[h.tmps (by omega) l] at f;rw[<- f];have p:Hz (fun _=>true) t (rs.take i) 0 (ρ0.get t)=Hz (fun j=>decide (j<i)) t (rs.take i) 0 (ρ0.get t):=JZ fun j r' d _=>by
  have:j<i:=by
   have:=(Az.1 d).1;simp at this;omega
  simp[this]
 rw[p,iB fun j r' u _ _=>by simp;omega];refine JZ fun j r' d g => ?_;simp only[AH];rcases Avp j i with c | c | c
 ·simp only[c,decide_true];cases k:BM j (D9 ops i) with
  | true=>exact n j k
  | false=>exact absurd e ((h.apart i j r' r c d hr k).a t g)
 ·subst c;rw[m];simp
 ·have q:¬ j<i:=by omega
  simp only[q,decide_false];cases s:D j with
  | false=>rfl
  | true=>exact absurd e ((h.apart j i r r' c hr d (o j c s)).b t g)
end Dw
theorem ABs{i j:Nat}(hi:i<listed.size):DL (listed.setIfInBounds i true) j=if i=j then true else DL listed j:=by
 unfold DL;rw[Ju];by_cases e:i=j
 ·rw[Ae ⟨e,hi⟩,Ae e]
 ·rw[Al (fun h=>e h.1),Al e]
theorem Ady(hc:HOk P call)(h:Dw P call n ops h0 rs ρs nxs lgs)(a6:∀ a o,h0.get a=some o->¬ (nxs 0<=a/\a<nxs ops.size))(a7:ρs 0=ρ0)(a8:D_ μ0 (nxs 0) (nxs ops.size))(a9:Tp ops listed)(d3:listed.size=ops.size)
  (I:Inv P n h0 ρ0 rs nxs ops.size μ0 w0 a0 (DL listed) μ a w) {i:Nat} {o:Oper} (hi:ops[i]? = some o) (b0:listed.getD i true=false) (c3:∀ p∈Fu o,listed.getD p false=true) {K:Act->World->Prop}
  (hK:∀ a' μ' w',Inv P n h0 ρ0 rs nxs ops.size μ0 w0 a0 (DL (listed.setIfInBounds i true)) μ' a' w'->K a' w'):wpOpIn (W0 rd) 0 P ops Q i K a w:=by
 have b1:i<ops.size:=(AR.1 hi).1;obtain⟨r,hr,hf,hd,_⟩:=h.op i o hi;have O:DL listed i=false:=by
  unfold DL;rw[A4,AE (by omega)] at b0 |-;exact b0
 have a1:∀ j,BM j (D9 ops i)=true->DL listed j=true:=fun j l=>Pg a9 i o hi c3 j (Gx.1 l);have R:∀ j,i<j->DL listed j=true->BM i (D9 ops j)=false:=by
  intro j _ m;cases l:BM i (D9 ops j) with
  | false=>rfl
  | true =>
   have:=Aut a9 m l;rw[O] at this;cases this
 have C:∀ j,DL (listed.setIfInBounds i true) j=if i=j then true else DL listed j:=fun j=>ABs (by omega);have c4:FR μ n (VT (ρs i) (Oy ops o)) a.tmps:=⟨I.size,fun t x g=>by
  obtain⟨h1,h2⟩:=SP g;exact I.tmp t x (h.tmp_sub a7 hr O a1 R (by rw[hf.tm];exact h1) h2)⟩
 have b2:∀ q x,R4 ops o.guard=some q->(ρs i).get q.1=some x->VR μ x (a.tmps.getD q.1 A9):=by
  intro q x T g;refine I.tmp q.1 x (h.tmp_sub a7 hr O a1 R ?_ g);rw[hf.tm];unfold Oy;rw[T];exact AKh
 have b3:∀ (μ':Mu) (v:Value),(∀ b q,μ b=some q->μ' b=some q)->VR μ' r.v v->∀ t x,Hz (DL (listed.setIfInBounds i true)) t rs 0 (ρ0.get t)=some x->VR μ' x ((a.put o.dst v).tmps.getD t A9):=by
  intro μ' v c5 U t x g;by_cases S:o.dst=some t
  ·have a2:=iA (D:=DL (listed.setIfInBounds i true)) (t:=t) (rs:=rs) (i:=0) (k:=i) (r:=r) (b:=ρ0.get t) hr (by rw[AH,C,Ae rfl]) (by rw[hf.d];exact S) fun j r' m A l=>by
    rw[AH,C,Al (by omega)];cases E:DL listed j with
    | false=>rfl
    | true=>exact ((h.apart j i r r' m hr A (R j m E)).c t (by rw[hf.d];exact S) l).elim
   rw[a2] at g;cases g;rw[S] at hd |-;have hd:Ks t n=true:=hd;rw[KD] at hd;have hs:=I.size;show VR μ' r.v ((a.tmps.setIfInBounds t v).getD t A9);rw[A4,nK (by omega)];exact U
  ·have f:Hz (DL (listed.setIfInBounds i true)) t rs 0 (ρ0.get t)=Hz (DL listed) t rs 0 (ρ0.get t):=JZ fun j r' A l=>by
    rw[AH,C];by_cases e:i=j
    ·subst e;rw[hr] at A;cases A;exact absurd (hf.d.symm.trans l) S
    ·rw[Al e]
   rw[f] at g;have hold:=(I.tmp t x g).mono c5;cases c6:o.dst with
   | none=>exact hold
   | some d =>
    have b4:t ≠ d:=fun e=>S (by rw[c6,e]);show VR μ' x ((a.tmps.setIfInBounds d v).getD t A9);rw[A4,Jo (CW b4),<- A4];exact hold
 have b5:∀ v,(a.put o.dst v).tmps.size=n:=by
  intro v;rw[<- I.size];cases o.dst <;> simp[nO]
 unfold wpOpIn;rcases hf.run with ⟨hw,U,b6⟩ | ⟨hw,U,c7,d4,c8⟩
 ·-- it is wanted
  have a3:=VZ b2 hw;simp only[hi,a3,if_true];have F:∀ b x,(N2 (GZ (D9 ops i) h0 (rs.take i)) (I6 (ρs i) o)).get b=some x->Di (DL listed) b rs 0 (h0.get b)=some x:=fun b x g=>h.view_sub hc.qt a6 hr U O a1 R g;have hH:HR μ (N2 (GZ (D9 ops i) h0 (rs.take i)) (I6 (ρs i) o)) w:=⟨fun b x g=>I.obj b x (F b x g),fun b b' x B q V g M=>I.inj b b' x B q V (F b x g) (F b' B M),I.lt⟩;have m0:=h.nx_mono hc.qt (i:=0) (j:=i) (B_ _) (by omega);have m1:=h.nx_mono hc.qt (i:=i+1) (j:=ops.size) (by omega) (Ay _);have d5:=h.nx_step hc.qt b1;have b7:D_ μ (nxs i) (nxs (i+1)):=by
   intro b h1 h2;rw[I.st.stay b fun j m E hb => ?_]
   ·exact a8 b (by omega) (by omega)
   ·have b4:j ≠ i:=fun e=>by rw[e,O] at E;cases E
    rcases CH j i with c9 | c9
    ·have:=h.nx_mono hc.qt (i:=j+1) (j:=i) (by omega) (by omega);omega
    ·have:=h.nx_mono hc.qt (i:=i+1) (j:=j) (by omega) (by omega);omega
  have T:=R2 hc.qt b6;refine A7m (s:=⟨N2 (GZ (D9 ops i) h0 (rs.take i)) (I6 (ρs i) o),nxs i,[]⟩) (s':=⟨r.h,nxs (i+1),lgs i⟩) hc hH c4 b7 b6 fun v μ' w' hH' st hvv=>hK _ μ' w' ?_;have d0:∀ b,BM b r.ks=false->r.h.get b=(N2 (GZ (D9 ops i) h0 (rs.take i)) (I6 (ρs i) o)).get b:=by
   intro b hb;refine T.keep b (fun e => ?_) fun e => ?_
   ·rw[(hf.ks b).2 (.inl e)] at hb;cases hb
   ·rw[(hf.ks b).2 (.inr e)] at hb;cases hb
  have W:∀ b x,Di (DL (listed.setIfInBounds i true)) b rs 0 (h0.get b)=some x->r.h.get b=some x\/((N2 (GZ (D9 ops i) h0 (rs.take i)) (I6 (ρs i) o)).get b=none/\Di (DL listed) b rs 0 (h0.get b)=some x):=by
   intro b x g;cases l:BM b r.ks with
   | true =>
    have a2:=WK (D:=DL (listed.setIfInBounds i true)) (a:=b) (rs:=rs) (i:=0) (k:=i) (r:=r) (b:=h0.get b) hr (by rw[AH,C,Ae rfl]) l fun j r' m A L=>by
     rw[AH,C,Al (by omega)];cases E:DL listed j with
     | false=>rfl
     | true=>exact (h.disjoint hc.qt a6 m hr A (R j m E) l L).elim
    rw[a2] at g;exact .inl g
   | false =>
    have f:Di (DL (listed.setIfInBounds i true)) b rs 0 (h0.get b)=Di (DL listed) b rs 0 (h0.get b):=HH fun j r' A L=>by
     rw[AH,C];by_cases e:i=j
     ·subst e;rw[hr] at A;cases A;rw[l] at L;cases L
     ·rw[Al e]
    rw[f] at g;cases hs:(N2 (GZ (D9 ops i) h0 (rs.take i)) (I6 (ρs i) o)).get b with
    | none=>exact .inr ⟨rfl,g⟩
    | some y =>
     have:=F b y hs;rw[g] at this;cases this;exact .inl ((d0 b l).trans hs)
  have b8:∀ b c x y p q,r.h.get b=some x->(N2 (GZ (D9 ops i) h0 (rs.take i)) (I6 (ρs i) o)).get c=none->Di (DL listed) c rs 0 (h0.get c)=some y->μ' b=some p->μ' c=some q->p.1=q.1->b=c:=by
   intro b c x y p q hb d1 G hp H b9;obtain⟨qc,X,_⟩:=I.obj c y G;have:=st.le c qc X;rw[H] at this;cases this;rcases st.new b p hp with e | ⟨d,z,f,J⟩ | e
   ·rcases T.dom b x hb with ⟨z,f⟩ | f
    ·exact I.inj b c z y p q (F b z f) G e X b9
    ·rw[b7 b f.1 f.2] at e;cases e
   ·have:=I.inj d c z y p q (F d z f) G J X b9;rw[this,d1] at f;cases f
   ·have:=I.lt c q X;omega
  refine⟨b5 v,(Mn _ _ _).trans I.defers,b3 μ' v st.le hvv,fun b x g => ?_,fun b b' x B p N g M h1 h2 Y => ?_,hH'.lt,?_⟩
  ·rcases W b x g with hb | ⟨a4,hbx⟩
   ·exact hH'.obj b x hb
   ·obtain⟨q,h1,h2⟩:=I.obj b x hbx;refine⟨q,st.le _ _ h1,h2.same st.le (st.frame q.1 h2.lt fun c y V G H e => ?_)⟩;have:=I.inj c b y x V q (F c y G) hbx H h1 e;have c0:(N2 (GZ (D9 ops i) h0 (rs.take i)) (I6 (ρs i) o)).get c=some y:=G;rw[this,a4] at c0;cases c0
  ·rcases W b x g with hb | ⟨a4,hbx⟩
   ·rcases W b' B M with a5 | ⟨hbn',hbx'⟩
    ·exact hH'.inj b b' x B p N hb a5 h1 h2 Y
    ·exact b8 b b' x B p N hb hbn' hbx' h1 h2 Y
   ·rcases W b' B M with a5 | ⟨hbn',hbx'⟩
    ·exact (b8 b' b B x N p a5 a4 hbx h2 h1 Y.symm).symm
    ·obtain⟨q,g1,_⟩:=I.obj b x hbx;obtain⟨V,c1,_⟩:=I.obj b' B hbx';have f:=st.le _ _ g1;have J:=st.le _ _ c1;rw[h1] at f;cases f;rw[h2] at J;cases J;exact I.inj b b' x B p N hbx hbx' g1 c1 Y
  ·have c2:∀ e y q,(N2 (GZ (D9 ops i) h0 (rs.take i)) (I6 (ρs i) o)).get e=some y->μ e=some q->(∃ b z,h0.get b=some z/\μ0 b=some q)\/w0.heap.size<=q.1:=by
    intro e y q he H;rcases I.st.new e q H with f | f | f
    ·rcases h.hd_dom hc.qt (F e y he) with ⟨z,Z⟩ | Z
     ·exact .inl ⟨e,z,Z,f⟩
     ·rw[a8 e Z.1 Z.2] at f;cases f
    ·exact .inl f
    ·exact .inr f
   refine⟨fun b q e=>st.le b q (I.st.le b q e),st.os.trans I.st.os,st.tape.trans I.st.tape,st.out.trans I.st.out,AA I.st.size st.size,fun b q e => ?_,fun q H hn => ?_,fun b hb => ?_⟩
   ·rcases st.new b q e with e | ⟨d,z,f,J⟩ | e
    ·exact I.st.new b q e
    ·rcases c2 d z q f J with e3 | e3
     ·exact .inr (.inl e3)
     ·exact .inr (.inr e3)
    ·exact .inr (.inr (AA I.st.size e))
   ·rw[st.frame q (Bf H I.st.size) fun c y p G hp e => ?_]
    ·exact I.st.frame q H hn
    ·rcases c2 c y p G hp with ⟨b,z,f,J⟩ | e3
     ·exact hn b z p f J e
     ·omega
   ·rw[st.stay b fun e=>hb i b1 (by rw[C,Ae rfl]) e];exact I.st.stay b fun j m E=>hb j m (by rw[C];split;rfl;exact E)
 ·-- it is not
  have a3:=VZ b2 hw;simp only[hi,a3,AC,if_false];refine⟨fun _ _=>trivial,hK _ μ w ?_⟩;have d2:∀ b,BM b r.ks=false:=by
   intro b;cases l:BM b r.ks with
   | false=>rfl
   | true =>
    rcases (hf.ks b).1 l with e | e
    ·rw[c8] at e;cases e
    ·omega
  have f:∀ b,Di (DL (listed.setIfInBounds i true)) b rs 0 (h0.get b)=Di (DL listed) b rs 0 (h0.get b):=fun b=>HH fun j r' A L=>by
   rw[AH,C];by_cases e:i=j
   ·subst e;rw[hr] at A;cases A;rw[d2 b] at L;cases L
   ·rw[Al e]
  refine⟨b5 _,(Mn _ _ _).trans I.defers,b3 μ _ (fun _ _ e=>e) (by rw[c7];exact .u),fun b x g=>I.obj b x (by rw[<- f];exact g),fun b b' x B p N g M=>I.inj b b' x B p N (by rw[<- f];exact g) (by rw[<- f];exact M),I.lt,?_⟩;exact⟨I.st.le,I.st.os,I.st.tape,I.st.out,I.st.size,I.st.new,I.st.frame,fun b hb=>I.st.stay b fun j m E=>hb j m (by rw[C];split;rfl;exact E)⟩
end
end
noncomputable section
section
variable {P:Program} {call:BI} {n:Nat} {rd:Option Nat} {ops:Array Oper} {Q:Exit->Act->World->Prop}
variable {h0:Tr HO} {ρ0:En} {rs:List Rec} {ρs:Nat->En} {nxs:Nat->Nat} {lgs:Nat->List Nat}
variable {μ0 μ:Mu} {a0 a:Act} {w0 w:World}
theorem vF(h:QA ops.toList=true):∀ (i:Nat) (o:Oper),ops[i]? = some o->∀ p∈Fu o,p<i:=by
 intro i o ho p a;simp only[QA,AKf,Prod.forall] at h;have:=h o i (by rw[HY];simpa using ho) p a;simpa using this
theorem Auu(f:∀ (i:Nat) (o:Oper),ops[i]? = some o->∀ p∈Fu o,p<i){a:Array Bool}(l:a.size=ops.size)(hr:Hf .any ops a=[]):De ops.size a=[]:=by
 cases b:De ops.size a with
 | nil=>rfl
 | cons i m =>
  exfalso;have hi:=F2.1 (b ▸ AKh:i∈De ops.size a);have hs:=IS ops.size a;rw[b,XQ] at hs;have d:i∈Hf .any ops a:=by
   rw[mem_ready];refine⟨hi.2,ops[i],by simp[hi.1],fun e g hb => ?_⟩;have j:e.on∈Fu ops[i]:=by
    simp only[Fu,Cb,Gj];exact⟨e,⟨by simpa using g,hb⟩,rfl⟩
   have n:=f i ops[i] (by simp[hi.1]) e.on j;cases c:a.getD e.on true with
   | false =>
    have:e.on∈De ops.size a:=F2.2 ⟨by omega,c⟩;rw[b] at this;cases this with
    | head=>omega
    | tail _ h=>have:=hs.1 _ h;omega
   | true =>
    have k:e.on<a.size:=by omega
    simp only[A4,AE k,F6] at c |-;exact c
  rw[hr] at d;cases d
theorem Akr(hc:HOk P call)(h:Dw P call n ops h0 rs ρs nxs lgs)(s:∀ (i:Nat) (o:Oper),ops[i]? = some o->∀ p∈Fu o,p<i)(t:∀ a o,h0.get a=some o->¬ (nxs 0<=a/\a<nxs ops.size))(u:ρs 0=ρ0)(v:D_ μ0 (nxs 0) (nxs ops.size))
  (x:∀ (D:Nat->Bool) μ a w,(∀ j,j<ops.size->D j=true)->Inv P n h0 ρ0 rs nxs ops.size μ0 w0 a0 D μ a w->Q .normal a w) :
  ∀ (d:Nat) (b:Array Bool) (μ:Mu) (a:Act) (w:World),b.size=ops.size->Tp ops b->C (De ops.size b)<=d->Inv P n h0 ρ0 rs nxs ops.size μ0 w0 a0 (DL b) μ a w->wpAnyIn (W0 rd) 0 P .any ops Q d b a w:=by
 have done:∀ (b:Array Bool) (μ:Mu) (a:Act) (w:World),b.size=ops.size->De ops.size b=[]->Inv P n h0 ρ0 rs nxs ops.size μ0 w0 a0 (DL b) μ a w->Q .normal a w:=by
  intro b μ a w c y I;refine x (DL b) μ a w (fun j z => ?_) I;cases g:DL b j with
  | true=>rfl
  | false =>
   have:j∈De ops.size b:=by
    rw[F2];refine⟨z,?_⟩;unfold DL at g;rw[A4,AE (by omega)] at g |-;exact g
   rw[y] at this;cases this
 intro d;induction d with
 | zero =>
  intro b μ a w c l hl I;have e0:De ops.size b=[]:=Bb (by omega);refine⟨?_,done b μ a w c e0 I⟩;cases hr:Hf .any ops b with
  | nil=>rfl
  | cons i K =>
   have hi:i∈Hf .any ops b:=by rw[hr];exact AKh
   rw[mem_ready] at hi;obtain⟨h1,o,h2,_⟩:=hi;have:i∈De ops.size b:=F2.2 ⟨(AR.1 h2).1,h1⟩;rw[e0] at this;cases this
 | succ d A =>
  intro b μ a w c l hl I;refine⟨fun hr=>done b μ a w c (Auu s c hr) I,fun i hi => ?_⟩;rw[mem_ready] at hi;obtain⟨h1,o,h2,B⟩:=hi;have hin:i<ops.size:=(AR.1 h2).1;have E:i∈De ops.size b:=F2.2 ⟨hin,h1⟩;have r:∀ p∈Fu o,b.getD p false=true:=by
   intro p f;simp only[Fu,Cb,Gj] at f;obtain⟨e,⟨F,hb⟩,rfl⟩:=f;exact B e (by simpa using F) hb
  refine Ady hc h t u v l c I h2 h1 r fun a' μ' w' I' => ?_;refine A (b.setIfInBounds i true) μ' a' w' (by simpa using c) ?_ ?_ I'
  ·intro k ok m q p f;rw[Ju] at q;rw[Ju];split
   ·rfl
   ·split at q
    next G=>obtain⟨rfl,_⟩:=G;rw[h2] at m;cases m;exact r p f
    ·exact l k ok m q p f
  ·rw[Pf (by omega)];obtain⟨L,M,H,_,J⟩:=RM (IS _ _) E;rw[J];rw[H] at hl;simp at hl |-;omega
theorem WM{ρ ρ':En}{s s':HS}(hc:QC call)(h:XM P call n ops ρ s=some (ρ',s')):QA ops.toList=true/\∃ rs ρs nxs lgs,Dw P call n ops s.h rs ρs nxs lgs/\ρs 0=ρ/\nxs 0=s.nx/\ρs ops.size=ρ'/\s'.h=R6 rs s.h/\s'.nx=nxs ops.size/\∀ a,a∈s'.lg↔(∃ i,i<ops.size/\a∈lgs i)\/a∈s.lg:=by
 obtain⟨hb,h⟩:=AS h;obtain⟨rs,ρs,nxs,lgs,b,f,g,c,k,d,e⟩:=iC (ancs:=Hj ops.toList []) ops.toList (Hj ops.toList []) 0 ρ s.nx [] [] (fun _=>ρ) (fun _=>s.nx) (fun _=>[]) (fun j=>by simp) (fun j=>by simp)
  ⟨rfl,fun i hi=>by omega⟩ rfl rfl (fun a=>⟨fun h=>(by cases h),fun ⟨i,hi,_⟩=>(by omega)⟩) h
 simp only[AH,B3] at b c d e;exact⟨hb,rs,ρs,nxs,lgs,AIt hc rfl b,f,g,c,k,d,e⟩
theorem Aks{ρ ρ':En}{s s':HS}(hc:QC call)(h:XM P call n ops ρ s=some (ρ',s')):Qt s s':=by
 obtain⟨_,rs,ρs,nxs,lgs,b,q,t,u,k,v,d⟩:=WM hc h;have w:=b.nx_mono hc (i:=0) (j:=ops.size) (B_ _) (Ay _);have m:∀ {i a:Nat} {r:Rec},rs[i]? = some r->BM a r.ks=true->a∈s'.lg\/(s.nx<=a/\a<s'.nx):=by
  intro i a r hr f;obtain⟨o,ho,hf,_⟩:=b.recd hr;have hi:=(AR.1 ho).1;rcases (hf.ks a).1 f with e | e
  ·exact .inl ((d a).2 (.inl ⟨i,hi,e⟩))
  ·have p:=b.nx_mono hc (i:=0) (j:=i) (B_ _) (by omega);have l:=b.nx_mono hc (i:=i+1) (j:=ops.size) (by omega) (Ay _);exact .inr ⟨by omega,by omega⟩
 refine⟨by omega,fun a g=>(d a).2 (.inr g),fun a x c => ?_,fun a h1 h2 => ?_,fun a g => ?_⟩
 ·rw[k,Ml a rs 0] at c;rcases b.hd_dom hc c with e | e
  ·exact .inl e
  ·exact .inr ⟨by omega,by omega⟩
 ·rw[k,Ml a rs 0];exact JY fun j r hr f=>by
   rcases m hr f with e | e
   ·exact absurd e h1
   ·exact absurd e h2
 ·rcases (d a).1 g with ⟨i,hi,e⟩ | e
  ·obtain⟨r,hr,_⟩:=b.op i ops[i] (by simp[hi]);rcases b.lgd hc hr e with ⟨x,c,_⟩ | e
   ·rcases b.view_dom hc i (by omega) c with e | e
    ·exact .inr (.inl e)
    ·have l:=b.nx_mono hc (i:=i) (j:=ops.size) (by omega) (Ay _);exact .inr (.inr ⟨by omega,by omega⟩)
   ·have p:=b.nx_mono hc (i:=0) (j:=i) (B_ _) (by omega);have l:=b.nx_mono hc (i:=i+1) (j:=ops.size) (by omega) (Ay _);exact .inr (.inr ⟨by omega,by omega⟩)
  ·exact .inl e
theorem A7n(y:P.follows .mixedOrders=true)(hc:HOk P call){ρ ρ':En}{s s':HS}{id:Nat}(H:HR μ s.h w)(F:FR μ n ρ a.tmps)(hf:D_ μ s.nx s'.nx)(h:XM P call n ops ρ s=some (ρ',s'))
  (z:∀ a' μ' w',HR μ' s'.h w'->FR μ' n ρ' a'.tmps->a'.defers=a.defers->Step μ s w μ' s' w'->Q .normal a' w'):(iO id ops true).wpIn (W0 rd) 0 P Q a w:=by
 obtain⟨hb,rs,ρs,nxs,lgs,c,l,A,B,E,G,M⟩:=WM hc.qt h;have m:D_ μ (nxs 0) (nxs ops.size):=by rw[A,<- G];exact hf
 have J:∀ b o,s.h.get b=some o->¬ (nxs 0<=b/\b<nxs ops.size):=by
  intro b o K hr;obtain⟨q,p,_⟩:=H.obj b o K;rw[m b hr.1 hr.2] at p;cases p
 refine wpIn_region_any y (Akr (μ0:=μ) (w0:=w) (a0:=a) hc c (vF hb) J l m (fun D μ' a' w' u I => ?_) ops.size _ μ a _ (by simp) ?_ ?_ ?_)
 ·have f:∀ b,Di D b rs 0 (s.h.get b)=s'.h.get b:=by
   intro b;rw[E,Ml b rs 0];refine HH fun j r hr _ => ?_;have:j<ops.size:=by
    have:=(Az.1 hr).1;have:=c.len;omega
   rw[AH,u j this]
  refine z a' μ' w' ⟨fun b o hb=>I.obj b o (by rw[f];exact hb),fun b b' o o' q g h1 h2=>I.inj b b' o o' q g (by rw[f];exact h1) (by rw[f];exact h2),I.lt⟩ ⟨I.size,fun t x d=>I.tmp t x ?_⟩ I.defers ?_
  ·rw[<- B,c.tmps (Ay _) l,E_ (by rw[c.len];exact Ay _)] at d;rw[<- d];refine JZ fun j r hr _ => ?_;have:j<ops.size:=by
    have:=(Az.1 hr).1;have:=c.len;omega
   rw[AH,u j this]
  ·refine⟨I.st.le,I.st.os,I.st.tape,I.st.out,I.st.size,I.st.new,I.st.frame,fun b hb=>I.st.stay b fun i hi _ hr=>hb ?_⟩;have N:=c.nx_mono hc.qt (i:=0) (j:=i) (B_ _) (by omega);have O:=c.nx_mono hc.qt (i:=i+1) (j:=ops.size) (by omega) (Ay _);omega
 ·intro i o ho hl;have hi:=(AR.1 ho).1;simp[A4,hi] at hl
 ·have:C (De ops.size (DY ops.size false))<=C (AZ ops.size):=List.length_filter_le _ _;simpa using this
 ·have v:∀ j,DL (DY ops.size false) j=false:=by
   intro j;unfold DL;by_cases L:j<ops.size <;> simp[A4,L]
  have k:∀ b,Di (DL (DY ops.size false)) b rs 0 (s.h.get b)=s.h.get b:=fun b=>JY fun j r _ _=>v _;refine⟨F.1,rfl,fun t x d=>F.2 t x ?_,fun b o hb => ?_,fun b b' o o' q g h1 h2=>H.inj b b' o o' q g (by rw[<- k];exact h1) (by rw[<- k];exact h2),H.lt,⟨fun _ _ e=>e,rfl,rfl,rfl,Ay _,fun _ _ e => .inl e,fun _ _ _=>rfl,fun _ _=>rfl⟩⟩
  ·rw[O0 fun j r _ _=>v _] at d;exact d
  ·rw[k] at hb;obtain⟨q,h1,h2⟩:=H.obj b o hb;exact⟨q,h1,h2.same (fun _ _ e=>e) rfl⟩
theorem iH(hc:QC call){a:Bool}{ρ ρ':En}{s s':HS}(h:(evR P call n ops a).run ρ s=some (ρ',s')):Qt s s':=by
 cases a
 ·exact VX hc h
 ·exact Aks hc h
theorem Akt(d:P.follows .mixedOrders=true)(hc:HOk P call){b:Bool}{ρ ρ':En}{s s':HS}{id:Nat}(H:HR μ s.h w)(F:FR μ n ρ a.tmps)(hf:D_ μ s.nx s'.nx)(h:(evR P call n ops b).run ρ s=some (ρ',s'))
  (c:∀ a' μ' w',HR μ' s'.h w'->FR μ' n ρ' a'.tmps->a'.defers=a.defers->Step μ s w μ' s' w'->Q .normal a' w'):(iO id ops b).wpIn (W0 rd) 0 P Q a w:=by
 cases b
 ·refine wpIn_region ?_;rw[AFr];have:=Aov (Q:=Q) (rd:=rd) hc (a0:=a) (k:=0) (l:=ops.toList) (fun j=>by simp) H F rfl (Step.refl _ _ _) (Qt.refl _) hf h c;simpa using this
 ·exact A7n d hc H F hf h c
end
end
noncomputable section
section
variable {P:Program} {call:BI} {n:Nat} {fuel:Nat}
theorem Mo{r:RC}{k:En->HS->RC}{q:Ex × En × HS}(h:VU r k=some q):(∃ ρ s,r=some (.norm,ρ,s)/\k ρ s=some q)\/(r=some q/\q.1 ≠ .norm):=by
 obtain⟨⟨ex,ρ,s⟩,h1,h⟩:=BY h;cases ex with
 | norm=>exact .inl ⟨ρ,s,h1,h⟩
 | exit i=>cases h;exact .inr ⟨h1,nofun⟩
 | ret=>cases h;exact .inr ⟨h1,nofun⟩
theorem Q0{id:Nat}{r:RC}{q:Ex × En × HS}(h:R7 id r=some q):∃ ex,r=some (ex,q.2)/\((ex = .exit id/\q.1 = .norm)\/(ex=q.1/\ex ≠ .exit id)):=by
 obtain⟨⟨ex,ρ,s⟩,h1,h⟩:=BY h;cases ex with
 | norm=>cases h;exact⟨_,h1,.inr ⟨rfl,nofun⟩⟩
 | ret=>cases h;exact⟨_,h1,.inr ⟨rfl,nofun⟩⟩
 | exit i =>
  cases hb:AKi i id
  ·have h:DO (AKi i id) (some (Ex.norm,ρ,s)) (some (Ex.exit i,ρ,s))=some q:=h;rw[hb] at h;cases h;exact⟨_,h1,.inr ⟨rfl,fun e=>by cases e;rw[E7] at hb;cases hb⟩⟩
  ·have h:DO (AKi i id) (some (Ex.norm,ρ,s)) (some (Ex.exit i,ρ,s))=some q:=h;rw[hb] at h;cases h;have:=Ao hb;subst this;exact⟨_,h1,.inl ⟨rfl,rfl⟩⟩
theorem N3{α:Type}{o:Option HO}{k:En->Nat->List Nat->Code->Code->LoopState->Option Code->Option α}{x:α}(h:asL o k=some x):∃ ρ n ps asx bd st j,o=some (.l ρ n ps asx bd st j)/\k ρ n ps asx bd st j=some x:=by
 unfold asL at h;split at h
 ·exact⟨_,_,_,_,_,_,_,rfl,h⟩
 ·cases h
theorem Adz{a:MC}(b:∀ ρ s ex ρ' s',a.run ρ s=some (ex,ρ',s')->Qt s s'):∀ (f:Nat) {ρ s ex ρ' s'},SL f a ρ s=some (ex,ρ',s')->Qt s s':=by
 intro f;induction f with
 | zero=>intro ρ s ex ρ' s' h;cases h
 | succ f c =>
  intro ρ s ex ρ' s' h;have h:VU (a.run ρ s) (SL f a)=some (ex,ρ',s'):=h;rcases Mo h with ⟨ρ1,d,h1,h2⟩ | ⟨h1,_⟩
  ·exact (b _ _ _ _ _ h1).trans (c h2)
  ·exact b _ _ _ _ _ h1
theorem Mp(hc:QC call){rd:Bool}:∀ (c:Code) {ρ:En} {s:HS} {ex:Ex} {ρ':En} {s':HS},(BJ P call n rd fuel c).run ρ s=some (ex,ρ',s')->Qt s s':=by
 intro c;induction c with
 | skip=>intro ρ s ex ρ' s' h;cases h;exact Qt.refl _
 | label l=>intro ρ s ex ρ' s' h;cases h;exact Qt.refl _
 | exit id=>intro ρ s ex ρ' s' h;cases h;exact Qt.refl _
 | ret=>intro ρ s ex ρ' s' h;cases h;exact Qt.refl _
 | goto l=>intro ρ s ex ρ' s' h;cases h
 | refuse w=>intro ρ s ex ρ' s' h;cases h
 | region id ops i =>
  intro ρ s ex ρ' s' h;have h:A7k (evR P call n ops i) ρ s=some (ex,ρ',s'):=h;obtain⟨⟨ρ1,k⟩,h1,h⟩:=BY h;cases h;exact iH hc h1
 | seq a b e g =>
  intro ρ s ex ρ' s' h;have h:VU ((BJ P call n rd fuel a).run ρ s) (BJ P call n rd fuel b).run=some (ex,ρ',s'):=h;rcases Mo h with ⟨ρ1,k,h1,h2⟩ | ⟨h1,_⟩
  ·exact (e h1).trans (g h2)
  ·exact e h1
 | cond x a b e g =>
  intro ρ s ex ρ' s' h;have h:Akn x (BJ P call n rd fuel a) (BJ P call n rd fuel b) ρ s=some (ex,ρ',s'):=h;obtain⟨v,_,h⟩:=BY h;obtain⟨t,_,h⟩:=Rt h;cases t
  ·exact g h
  ·exact e h
 | block id a d =>
  intro ρ s ex ρ' s' h;have h:R7 id ((BJ P call n rd fuel a).run ρ s)=some (ex,ρ',s'):=h;obtain⟨m,h1,_⟩:=Q0 h;exact d h1
 | loop a d =>
  intro ρ s ex ρ' s' h;exact Adz (a:=BJ P call n rd fuel a) (fun _ _ _ _ _ h=>d h) fuel h
 | scope a d=>intro ρ s ex ρ' s' h;exact d h
 | rangeFunc f ps asx bd _ _ =>
  intro ρ s ex ρ' s' h;cases rd
  ·have h:vB call n f ps.toList asx bd ρ s=some (ex,ρ',s'):=h;obtain⟨fv,_,h⟩:=BY h;obtain⟨_,h⟩:=AS h;obtain⟨⟨x,o⟩,h1,h⟩:=BY h;obtain⟨ρ1,p,q,r,u,st,j,h2,h⟩:=N3 h;obtain⟨_,h⟩:=AS h;obtain⟨m,_,h⟩:=BY h;cases h;exact ((Qt.new _ _).trans (hc _ _ _ _ _ h1)).trans (Qt.turn h2)
  ·cases h
def MK(B:Nat)(μ:Mu)(h:Tr HO)(a:List Deferred)(w:World):Prop :=
 ∃ rs:List Nat,a=rs.map (fun r=>{ target := .collected r,args:=#[] })/\rs.Nodup/\∀ r∈rs,B<=r/\w.heap[r]? = some (.deferred (some []))/\∀ b o q,h.get b=some o->μ b=some q->q.1 ≠ r
theorem MK.nil{B:Nat}{μ:Mu}{h:Tr HO}{w:World}:MK B μ h [] w:=⟨[],rfl,List.nodup_nil,fun r hr=>by cases hr⟩
theorem MK.step{B:Nat}{μ μ':Mu}{s s':HS}{i:List Deferred}{w w':World}(h:MK B μ s.h i w)(st:Step μ s w μ' s' w')(q:Qt s s')(hf:D_ μ s.nx s'.nx):MK B μ' s'.h i w':=by
 obtain⟨rs,h1,h2,k⟩:=h;refine⟨rs,h1,h2,fun r hr => ?_⟩;obtain⟨l,j,f⟩:=k r hr;have m:=(AR.1 j).1;refine⟨l,(st.frame r m fun b o p hb g=>f b o p hb g).trans j,fun b o p hb g e => ?_⟩;rcases st.new b p g with a | ⟨c,o',a,d⟩ | a
 ·rcases q.dom b o hb with ⟨o',d⟩ | d
  ·exact f b o' p d a e
  ·rw[hf b d.1 d.2] at a;cases a
 ·exact f c o' p a d e
 ·omega
theorem HR.alloc{μ:Mu}{h:Tr HO}{w:World}(H:HR μ h w)(x:Obj):HR μ h (w.alloc x) :=
 ⟨fun b o hb=>let ⟨q,h1,h2⟩:=H.obj b o hb; ⟨q,h1,h2.same (fun _ _ e=>e) (FM _ _ _ h2.lt)⟩,H.inj,fun b q hb=>by have:=H.lt b q hb;show q.1<(w.heap.push _).size;simp;omega⟩
theorem Step.before{μ μ':Mu}{s s':HS}{w a w':World}(st:Step μ s a μ' s' w')(c:a.os=w.os)(d:a.tape=w.tape)(ho:a.output=w.output)(hs:w.heap.size<=a.heap.size)(f:∀ r,r<w.heap.size->a.heap[r]? = w.heap[r]?):Step μ s w μ' s' w' :=
 ⟨st.le,st.os.trans c,st.tape.trans d,st.out.trans ho,AA hs st.size,fun b q e=>(st.new b q e).imp id (fun e=>e.imp id fun e=>AA hs e),fun r hr hn=>(st.frame r (Bf hr hs) hn).trans (f r hr),st.stay⟩
theorem SQ{μ:Mu}{s:HS}{w:World}(H:HR μ s.h w){b:Nat}{q:Nat × Nat}{ρ:En}{m:Nat}{ps:List Nat}{asx bd:Code}{st:LoopState}{j:Option Code}(hb:s.h.get b=some (.l ρ m ps asx bd st j))(d:μ b=some q)(a:LoopState)(c:Option Code) :
  ∃ L:Loop,w.heap[q.1]? = some (.loop L)/\L.state=st/\L.pending=j/\L.params=ps.toArray/\L.assign=asx/\L.body=bd/\FR μ m ρ L.tmps /\
   HR μ (IE s b (.l ρ m ps asx bd a c)).h (w.putObj q.1 (.loop { L with state:=a,pending:=c }))/\Step μ s w μ (IE s b (.l ρ m ps asx bd a c)) (w.putObj q.1 (.loop { L with state:=a,pending:=c })):=by
 obtain⟨L,h1,h2,e,f,i,k,g⟩:=H.at hb d;have n:=(AR.1 h1).1;refine⟨L,h1,i,k,h2,e,f,g,H.turn hb d (by simp) (fun b hb=>EA hb) ⟨_,A8o n,h2,e,f,rfl,rfl,g⟩,Step.turn hb d rfl rfl rfl (by simp) fun b hb=>EA hb⟩
theorem FR.flush{μ:Mu}{ρ:En}{tm:Array Value}(F:FR μ n ρ tm):FR μ n ρ.flush tm:=⟨F.1,fun t x a=>F.2 t x (RZ a)⟩
theorem Aku{a:MC}{f:Nat}{ρ:En}{s:HS}{q:Ex × En × HS}(h:SL (f+1) a ρ s=some q):(∃ ρ1 b,a.run ρ s=some (.norm,ρ1,b)/\SL f a ρ1 b=some q)\/(a.run ρ s=some q/\q.1 ≠ .norm):=Mo h
section
variable{b:Frame}{a:Act}{c:Code}{k:List Item}{cs:List Frame}{w:World}
theorem HI:step P (lone (b.atR a (.code (.scope c)::k)) cs w) = .next (lone (b.atR a (.code c :: .inScope c::k)) cs w) :=
 step_lone_go (by simp[stepG,AIu,AJi])
theorem iI:step P (lone (b.atR a (.inScope c::k)) cs w) = .next (lone (b.atR a k) cs w) :=
 step_lone_go (by simp[stepG,AIu,AJi])
end
theorem Aea{F:Fence}{m:Nat}{Q:Exit->Act->World->Prop}{a:Act}{w:World}{c:Code}(h:c.wpIn F m P (Exit.noGoto Q) a w):(Code.scope c).wpIn F m P Q a w:=by
 intro b k cs o hb hr;have h0:(lone (b.atR a (.code (.scope c)::k)) cs w).fenced P F:=fenced_calm hb hr rfl;obtain⟨e,d,i,f,g⟩:=h b (.inScope c::k) cs o hb hr;cases e with
 | normal=>exact⟨.normal,d,i,f,.head h0 HI (StepsIn.trans g (.one (fenced_calm (fr:=b.atR d (.inScope c::k)) hb hr rfl) iI))⟩
 | exit id =>
  have n:exitTo id (.inScope c::k)=exitTo id k:=by simp[exitTo]
  exact⟨.exit id,d,i,f,fun p j => .head h0 HI (g.1 p (by rw[n];exact j)),fun q j=>let ⟨k₁,h1,h2⟩:=g.2 q (by rw[n];exact j); ⟨k₁,h1,.head h0 HI h2⟩⟩
 | goto l=>exact f.elim
 | ret=>exact⟨_,d,i,f,.of_steps (.one h0 HI) g⟩
 | panic r=>exact⟨_,d,i,f,.of_steps (.one h0 HI) g⟩
 | outgrown=>exact⟨_,d,i,f,.of_steps (.one h0 HI) g⟩
theorem iJ(hm:P.follows .mixedOrders=true)(hc:HOk P call){B:Nat}{rd:Option Nat}:∀ (c:Code) {ρ:En} {s:HS} {ex:Ex} {ρ':En} {s':HS} {μ:Mu} {a:Act} {w:World} {Q:Exit->Act->World->Prop},(BJ P call n rd.isSome fuel c).run ρ s=some (ex,ρ',s') ->
  HR μ s.h w->FR μ n ρ a.tmps->MK B μ s.h a.defers w->B<=w.heap.size->D_ μ s.nx s'.nx->(∀ μ' a' w',HR μ' s'.h w'->FR μ' n ρ' a'.tmps->MK B μ' s'.h a'.defers w'->Step μ s w μ' s' w'->Q (Tq ex) a' w')->c.wpIn (W0 rd) 0 P Q a w:=by
 intro c;induction c with
 | skip=>intro ρ s ex ρ' s' μ a w Q h H F M C hf g;cases h;exact wpIn_skip (g _ _ _ H F M (Step.refl _ _ _))
 | label l=>intro ρ s ex ρ' s' μ a w Q h H F M C hf g;cases h;exact wpIn_label (g _ _ _ H F M (Step.refl _ _ _))
 | exit id=>intro ρ s ex ρ' s' μ a w Q h H F M C hf g;cases h;exact wpIn_exit (g _ _ _ H F M (Step.refl _ _ _))
 | ret=>intro ρ s ex ρ' s' μ a w Q h H F M C hf g;cases h;exact wpIn_ret (g _ _ _ H F M (Step.refl _ _ _))
 | goto l=>intro ρ s ex ρ' s' μ a w Q h;cases h
 | refuse y=>intro ρ s ex ρ' s' μ a w Q h;cases h
 | region id ops c4 =>
  intro ρ s ex ρ' s' μ a w Q h H F M C hf g;have h:A7k (evR P call n ops c4) ρ s=some (ex,ρ',s'):=h;obtain⟨⟨ρ1,N⟩,h1,h⟩:=BY h;cases h;exact Akt hm hc H F hf h1 fun a' μ' w' A d I G=>g _ _ _ A d.flush (by rw[I];exact M.step G (iH hc.qt h1) hf) G
 | seq x y b3 a7 =>
  intro ρ s ex ρ' s' μ a w Q h H F M C hf g;have h:VU ((BJ P call n rd.isSome fuel x).run ρ s) (BJ P call n rd.isSome fuel y).run=some (ex,ρ',s'):=h;refine wpIn_seq ?_;rcases Mo h with ⟨ρ1,N,h1,h2⟩ | ⟨h1,T⟩
  ·have J:=Mp hc.qt x h1;have E:=Mp hc.qt y h2;refine b3 h1 H F M C (hf.left E.nx) fun μ1 K D A d I G => ?_;refine a7 h2 A d I (AA C G.size) (hf.right J.nx G) fun μ2 Y Z k1 U k3 k4 => ?_;exact g _ _ _ k1 U k3 (G.trans k4 J E (hf.left E.nx))
  ·refine b3 h1 H F M C hf fun μ1 K D A d I G => ?_;have:=g _ _ _ A d I G;cases ex with
   | norm=>exact absurd rfl T
   | exit i=>exact this
   | ret=>exact this
 | cond x y z a7 c5 =>
  intro ρ s ex ρ' s' μ a w Q h H F M C hf g;have h:Akn x (BJ P call n rd.isSome fuel y) (BJ P call n rd.isSome fuel z) ρ s=some (ex,ρ',s'):=h;obtain⟨v,hv,h⟩:=BY h;obtain⟨t,rfl,h⟩:=Rt h;have h1:=Cy F hv;generalize hu:a.eval x=u at h1;cases h1;cases t
  ·exact wpIn_cond_false hu (c5 h H F M C hf g)
  ·exact wpIn_cond_true hu (a7 h H F M C hf g)
 | block id x S =>
  intro ρ s ex ρ' s' μ a w Q h H F M C hf g;have h:R7 id ((BJ P call n rd.isSome fuel x).run ρ s)=some (ex,ρ',s'):=h;obtain⟨b4,h1,V⟩:=Q0 h;refine wpIn_block (S h1 H F M C hf fun μ1 K D A d I G => ?_);have:=g _ _ _ A d I G;rcases V with ⟨rfl,rfl⟩ | ⟨rfl,T⟩
  ·simp only[Tq,Apm,if_true];exact this
  ·cases b4 with
   | norm=>exact this
   | ret=>exact this
   | exit i =>
    simp only[Tq,Apm];rw[Al (fun e:i=id=>T (by rw[e]))];exact this
 | scope x S =>
  intro ρ s ex ρ' s' μ a w Q h H F M C hf g;refine Aea (S h H F M C hf fun μ1 K D A d I G => ?_);have:=g _ _ _ A d I G;cases ex with
  | norm=>exact this
  | exit i=>exact this
  | ret=>exact this
 | loop x S =>
  intro ρ s ex ρ' s' μ a w Q h H F M C hf g;have h:SL fuel (BJ P call n rd.isSome fuel x) ρ s=some (ex,ρ',s'):=h;have V:∀ ρ s ex ρ' s',(BJ P call n rd.isSome fuel x).run ρ s=some (ex,ρ',s')->Qt s s':=fun _ _ _ _ _ h=>Mp hc.qt x h;let p:Act->World->Nat->Prop:=fun K D m=>∃ ρ1 N μ1,HR μ1 N.h D/\FR μ1 n ρ1 K.tmps/\MK B μ1 N.h K.defers D/\Step μ s w μ1 N D/\Qt s N/\SL m (BJ P call n rd.isSome fuel x) ρ1 N=some (ex,ρ',s')
  let ν:Act->World->Nat:=fun a w=>@Avh Nat ⟨0⟩ fun m=>p a w m/\∀ k,p a w k->m<=k
  have hν:∀ a w,(∃ m,p a w m)->p a w (ν a w)/\∀ k,p a w k->ν a w<=k:=fun a w he=>@vV Nat ⟨0⟩ _ (RN he);refine wpIn_loop (fun a w=>∃ m,p a w m) ν ⟨fuel,ρ,s,μ,H,F,M,Step.refl _ _ _,Qt.refl _,h⟩ ?_;intro K D hI;obtain⟨⟨ρ1,N,μ1,H1,F1,W,S5,J,b5⟩,d9⟩:=hν K D hI;generalize e0:ν K D=m at *
  cases m with
  | zero=>cases b5
  | succ m =>
   have b6:B<=D.heap.size:=AA C S5.size;rcases Aku b5 with ⟨ρ2,O,h1,h2⟩ | ⟨h1,T⟩
   ·have E:=V _ _ _ _ _ h1;have X:=Adz V m h2;have a8:=hf.right J.nx S5;refine S h1 H1 F1 W b6 (a8.left X.nx) fun μ2 Y Z A d I G => ?_;have R:p Y Z m:=⟨ρ2,O,μ2,A,d,I,S5.trans G J E (hf.left (AA E.nx X.nx)),J.trans E,h2⟩;refine⟨⟨m,R⟩,?_⟩;have:=(hν Y Z ⟨m,R⟩).2 m R;omega
   ·have E:=V _ _ _ _ _ h1;have a8:=hf.right J.nx S5;refine S h1 H1 F1 W b6 a8 fun μ2 Y Z A d I G => ?_;have:=g _ _ _ A d I (S5.trans G J E (hf.left E.nx));cases ex with
    | norm=>exact absurd rfl T
    | exit i=>exact this
    | ret=>exact this
 | rangeFunc f ps asx bd _ _ =>
  intro ρ s ex ρ' s' μ a w Q h H F M C hf g;cases rd with
  | some l=>cases h
  | none =>
   have h:vB call n f ps.toList asx bd ρ s=some (ex,ρ',s'):=h;obtain⟨fv,c6,h⟩:=BY h;obtain⟨c7,h⟩:=AS h;obtain⟨⟨x,O⟩,h1,h⟩:=BY h;obtain⟨ρ1,n1,b7,b8,b9,st,j,h2,h⟩:=N3 h;obtain⟨c0,h⟩:=AS h;obtain⟨b4,hj,h⟩:=BY h;cases h;have J:Qt s (GS s (.l ρ n ps.toList asx bd .ready none)):=Qt.new _ _;have E:=hc.qt _ _ _ _ _ h1;have X:Qt O (IE O s.nx (.l ρ1 n1 b7 b8 b9 .exhausted j)):=Qt.turn h2;have c1:=Cy F c6;rcases hc.only h1 with ⟨fn,fs,cs,rfl⟩ | ⟨b,rfl⟩;rotate_left
   ·cases c7
   generalize hu:a.eval f=u at c1;cases c1 with
   | f _ _ _ us a3 c8 c9 d0 d1 =>
    obtain⟨⟨Fn,cd,k1,U,k3⟩,k4⟩:=hc.fn h1;have hμ:μ s.nx=none:=hf s.nx (Ay _) (Bf (FJ _) E.nx);refine wpIn_rangeFunc fun a4 _ => ?_;have hD:=H.alloc (.deferred (some []));obtain⟨H1,S5⟩:=MG hD hμ (x := .loop { state := .ready,pending:=none,fn:=a4,tmps:=a.tmps,params:=ps,assign:=asx,body:=bd,defers:=w.heap.size }) 0 (o := .l ρ n ps.toList asx bd .ready none)
     fun μ' w' d2 hw=>⟨_,hw,by simp,rfl,rfl,rfl,rfl,F.mono d2⟩
    have a9:(w.alloc (.deferred (some []))).heap.size=w.heap.size+1:=by show (w.heap.push _).size=_;simp
    have a5:=S5.before (w:=w) rfl rfl rfl (by omega) (fun r hr=>FM _ _ _ hr);have M0:MK B μ s.h ([{ target := .collected w.heap.size,args:=#[] }]++a.defers) (w.alloc (.deferred (some []))):=by
     obtain⟨rs,e1,e2,e3⟩:=M;refine⟨w.heap.size::rs,by rw[e1];rfl,List.nodup_cons.2 ⟨fun hm => ?_,e2⟩,fun r hr => ?_⟩
     ·have:=(AR.1 (e3 _ hm).2.1).1;omega
     ·rcases Aw.1 hr with rfl | hr
      ·exact⟨C,by show (w.heap.push _)[w.heap.size]? = _;simp,fun b o q _ hq=>by have:=H.lt b q hq;omega⟩
      ·obtain⟨A,d,I⟩:=e3 r hr;exact⟨A,(FM _ _ _ (AR.1 d).1).trans d,I⟩
    have W:=M0.step S5 J (hf.left E.nx);have c2:DP μ s.nx ((w.alloc (.deferred (some []))).heap.size,0) s.nx=some ((w.alloc (.deferred (some []))).heap.size,0):=by simp[DP]
    have d3:VY (DP μ s.nx ((w.alloc (.deferred (some []))).heap.size,0)) (fs++[.y s.nx]++cs) (us++#[.func (.yield (w.heap.size+1)) #[] #[]]++a3):=by
     refine VY.append (VY.append ⟨c8,fun i A d=>(d0 i A d).mono S5.le⟩ ⟨rfl,fun i A d => ?_⟩) ⟨c9,fun i A d=>(d1 i A d).mono S5.le⟩;have:i=0:=by simpa using A
     subst this;show VR _ (.y s.nx) (.func (.yield (w.heap.size+1)) #[] #[]);rw[<- a9];exact VR.y c2
    have c3:=k4 H1 (hf.right J.nx a5) d3;obtain⟨D,a6⟩:∃ D:World,(w.alloc (.deferred (some []))).alloc (.loop { state := .ready,pending:=none,fn:=a4,tmps:=a.tmps,params:=ps,assign:=asx,body:=bd,defers:=w.heap.size })=D:=⟨_,rfl⟩;have d4:(Instr.enterLoop a4 a.tmps ps asx bd none).run P w = .ok (w.heap.size+1,[{ target := .collected w.heap.size,args:=#[] }]) D:=by rw[<- a6];exact run_enterLoop_outer a4 a.tmps ps asx bd
    have d5:CallsIn II 0 P fn (us++#[.func (.yield (w.heap.size+1)) #[] #[]]++a3) D (Mm (DP μ s.nx ((w.alloc (.deferred (some []))).heap.size,0)) (GS s (.l ρ n ps.toList asx bd .ready none)) D O x):=by rw[<- a6];exact c3
    rw[a6] at a5 W;clear c3 a6;refine⟨w.heap.size+1,_,_,{ target := .fn (.func fn) a3,args:=us++#[.func (.yield (w.heap.size+1)) #[] #[]] },D,fn,us++#[.func (.yield (w.heap.size+1)) #[] #[]]++a3,D,d4,?_,fun _ _=>trivial,?_,nofun,?_⟩
    ·have hy:AFp a.eval #[Operand.const (AIv (Go.Fn.yield (w.heap.size+1)) #[] #[])]=#[AIv (Go.Fn.yield (w.heap.size+1)) #[] #[]]:=by simp[Jq]
     simp only[resolve,hu,EU,An,hy]
    ·have hn:¬ Fn.name = "runtime.NumGoroutine" := by
      unfold Qy at U;intro e;rw[e] at U;cases U
     simp[invoke,callFunc,program,Cl,k1,hn,k3]
    ·refine iG (F:=W0 none) d5 ?_;intro e w3 R;cases e with
     | panicked _=>exact R.elim
     | outgrown=>exact R.elim
     | returned v =>
      obtain⟨μ3,A,d,_⟩:=R;have d6:=d.le _ _ c2;obtain⟨L,e1,e2,e3,_,_,_,_,e4,e5⟩:=SQ A h2 d6 .exhausted j;have hb:L.state ≠ .busy:=by rw[e2];intro e;rw[e] at c0;cases c0
      have b0:=run_endLoop (P:=P) e1 hb;rw[e3] at b0;rw[a9] at b0;have b1:Step μ s w μ3 (IE O s.nx (.l ρ1 n1 b7 b8 b9 .exhausted j)) (w3.putObj ((w.alloc (.deferred (some []))).heap.size) (.loop { L with state := .exhausted,pending:=j })) :=
       (a5.trans d J E (hf.left E.nx)).trans e5 (J.trans E) X (hf.left (Ay _))
      have M3:=(W.step d E (hf.right J.nx a5)).step e5 X (fun c e6 d7=>by
       have:c<O.nx:=d7;omega)
      refine⟨j,_,b0,?_⟩;have d8:FR μ3 n ρ a.tmps:=F.mono b1.le;rw[a9] at e4 b1 M3;have b2:=g μ3 { a with defers:=[{ target := .collected w.heap.size,args:=#[] }]++a.defers } _ e4 d8 M3 b1;cases j with
      | none=>cases hj;exact b2
      | some c =>
       cases c <;> try (cases hj;done)
       ·cases hj;exact wpIn_exit b2
       ·cases hj;exact wpIn_ret b2
end
end
noncomputable section
theorem nF(g:Tr HV)(m t:Nat):∀ (l:List HV) (i:Nat) (a:List (Nat × HV)),(En.mk (VV l i a) g m).get t=if i<=t/\t<i+C l then l[t-i]? else (En.mk a g m).get t
 | [],i,a=>by
  rw[Al (fun h=>by simp at h;omega)];rfl
 | x::xs,i,a=>by
  show (En.mk (VV xs (i+1) ((i,x)::a)) g m).get t=_;rw[nF g m t xs (i+1) ((i,x)::a),Uo];by_cases h:i=t
  ·subst h;rw[Al (by omega),E7,Ae (by simp)];simp[cnd_true]
  ·have hb:AKi i t=false:=by
    cases hb:AKi i t
    ·rfl
    ·exact absurd (Ao hb) h
   simp only[hb,cnd_false];by_cases h2:i+1<=t/\t<i+1+C xs
   ·rw[Ae h2,Ae (by simp;omega)];have:t-i=(t-(i+1))+1:=by omega
    rw[this];rfl
   ·rw[Al h2,Al (by simp;omega)]
theorem A7o{μ:Mu}{l:List HV}{vals:Array Value}{n ms:Nat}(h:VY μ l vals)(hn:C l<=n):FR μ n (En.flush ⟨VV l 0 [],.e,ms⟩) (vals++DY (n-vals.size) A9):=by
 have c:=h.1;refine FR.flush ⟨by simp;omega,fun t x a => ?_⟩;rw[nF] at a;split at a
 next d=>obtain⟨b,rfl⟩:=Az.1 a;simp only[Wh] at b |-;have h2:=h.2 t b (by omega);rw[A4,U8 (by omega),AE (by omega)];exact h2
 ·rw[Qr] at a;cases hb:Un ms t <;> rw[hb] at a <;> cases a
section
variable {P:Program} {call:BI} {fuel:Nat} {mk:Nat->Nat}
theorem vG{n:Nat}{ρ:En}{s:HS}{μ:Mu}{tm:Array Value}{w:World}(H:HR μ s.h w)(F:FR μ n ρ tm):∀ {rs:List ResultVar} {vs:List HV},Uy P ρ s rs=some vs ->
  ∃ us:List Value,(rs.mapM (G_ tm)).run P w = .ok us w/\C us=C vs/\∀ (i:Nat) (h1:i<C vs) (h2:i<C us),VR μ vs[i] us[i]
 | [],vs,h=>by
  cases h;exact⟨[],rfl,rfl,fun i h1=>by cases h1⟩
 | .tmp t::l,vs,h=>by
  obtain⟨v,a,h⟩:=BY (k:=fun v=>bO (Uy P ρ s l) fun vs=>some (v::vs)) h;obtain⟨j,c,h⟩:=BY h;cases h;obtain⟨us,d,e,f⟩:=vG H F c;refine⟨tm.getD t A9::us,?_,by simp[e],fun i h1 h2 => ?_⟩
  ·simp only[Gz,Aj,G_,An,W,d]
  ·cases i with
   | zero=>exact F.2 t v a
   | succ i=>exact f i (by simpa using h1) (by simpa using h2)
 | .cell t m::l,vs,h=>by
  obtain⟨v,a,h⟩:=BY (k:=fun v=>asP v fun b off=>gJ (s.h.get b) fun cs=>bO (Ut P m) fun q=>bO (VJ cs off q.1 q.2) fun v=>bO (Uy P ρ s l) fun vs=>some (v::vs)) h;obtain⟨b,off,rfl,h⟩:=HF h;obtain⟨cs,o,h⟩:=E3 h;obtain⟨⟨k,one⟩,p,h⟩:=BY h;obtain⟨v,g,h⟩:=BY h;obtain⟨j,c,h⟩:=BY h;cases h;obtain⟨us,d,e,f⟩:=vG H F c;have h0:=F.2 t _ a;generalize hu:tm.getD t A9=u at h0;cases h0;rename_i r hr;rw[Rs] at g;obtain⟨u,x,y⟩:=Aol (P:=P) H (Rx p) o hr g;refine⟨u::us,?_,by simp[e],fun i h1 h2 => ?_⟩
  ·simp only[Gz,Aj,G_,hu,asAddr,An,W,x,d]
  ·cases i with
   | zero=>exact y
   | succ i=>exact f i (by simpa using h1) (by simpa using h2)
theorem ABt{n:Nat}{ρ:En}{s:HS}{μ:Mu}{tm:Array Value}{w:World}{fn:Func}(H:HR μ s.h w)(F:FR μ n ρ tm){vs:List HV}(h:Uy P ρ s fn.results.toList=some vs):∃ v,(results fn tm).run P w = .ok v w/\VR μ (Adv vs) v:=by
 obtain⟨us,c,a,b⟩:=vG H F h;have d:(results fn tm).run P w = .ok (if h:us.toArray.size=1 then us.toArray[0] else .tuple us.toArray) w:=by
  rw[Wp,L5];simp only[Aj,Apv,c,W,An]
 refine⟨_,d,?_⟩;have tup:C vs ≠ 1->VR μ (.t vs) (if h:us.toArray.size=1 then us.toArray[0] else .tuple us.toArray):=fun e=>by
  rw[dif_neg (by simp only[CS];omega)];exact .t _ _ (by simpa using a) fun j h1 h2=>by simpa using b j h1 (by simpa using h2)
 match vs,a,b,tup with
 | [],_,_,tup=>exact tup (by simp)
 | [x],a,b,_ =>
  have hl:us.toArray.size=1:=by simpa using a
  rw[dif_pos hl];have:=b 0 (by simp) (by simp at a;omega);simp only[Bk] at this;show VR μ x _;simpa only [EI] using this
 | x::y::l,_,_,tup=>exact tup (by simp)
theorem HR.put_other{μ:Mu}{h:Tr HO}{w:World}(H:HR μ h w){r:Nat}{x:Obj}(hr:∀ b o q,h.get b=some o->μ b=some q->q.1 ≠ r):HR μ h (w.putObj r x) :=
 ⟨fun b o hb=>let ⟨q,h1,h2⟩:=H.obj b o hb; ⟨q,h1,h2.same (fun _ _ e=>e) (EA (hr b o q hb h1))⟩,H.inj,fun b q a=>by rw[SY];exact H.lt b q a⟩
theorem Step.put_new{μ μ':Mu}{s s':HS}{w w':World}(st:Step μ s w μ' s' w'){r:Nat}{x:Obj}(hr:w.heap.size<=r):Step μ s w μ' s' (w'.putObj r x) :=
 ⟨st.le,st.os,st.tape,st.out,by rw[SY];exact st.size,st.new,fun k a hn=>(EA (by omega)).trans (st.frame k a hn),st.stay⟩
theorem iK{fn:Func}{tm:Array Value}{R:Ending->World->Prop}{n:Nat}{ρ:En}{μ0 μ:Mu}{c s:HS}{w0:World}{vs:List HV}(F:FR μ n ρ tm)(d:Uy P ρ s fn.results.toList=some vs)
  (f:∀ v w,HR μ s.h w->Step μ0 c w0 μ s w->VR μ (Adv vs) v->R (.returned v) w) :
  ∀ (rs:List Nat) (w:World),rs.Nodup->(∀ r∈rs,w0.heap.size<=r/\w.heap[r]? = some (.deferred (some []))/\∀ b o q,s.h.get b=some o->μ b=some q->q.1 ≠ r)->HR μ s.h w->Step μ0 c w0 μ s w ->
   LeavesInM II 0 P fn tm R (rs.map fun r=>{ target := .collected r,args:=#[] }) .returning w
 | [],w,_,_,H,st=>by
  obtain⟨v,h1,h2⟩:=ABt (P:=P) (fn:=fn) H F d;exact⟨v,h1,f v w H st h2⟩
 | r::rs,w,a,g,H,st=>by
  obtain⟨h1,h2,j⟩:=g r (AKh ..);rw[List.nodup_cons] at a;refine⟨nofun,.inl ⟨r,_,rfl,run_takeDeferred h2,?_⟩⟩;refine iK F d f rs _ a.2 (fun r' i => ?_) (H.put_other j) (st.put_new h1);obtain⟨k,l,m⟩:=g r' (AJ _ i);exact⟨k,(EA fun e=>a.1 (by rw[<- e];exact i)).trans l,m⟩
theorem SR{fn:Nat}{l:List HV}{s s':HS}{x:HV}(h:(nD P call fuel mk fn).run l s=some (x,s')):∃ F c,P.funcs[fn]? = some F/\Qy F=true/\F.body=some c/\C l<=F.ntmps /\
  ∃ ex ρ vs,(BJ P call F.ntmps false fuel c).run (En.flush ⟨VV l 0 [],.e,mk fn⟩) s=some (ex,ρ,s')/\Aou ex=true/\Uy P ρ s' F.results.toList=some vs/\x=Adv vs:=by
 unfold nD at h;split at h
 ·rename_i F a;split at h
  ·rename_i c hc;cases hn:Qy F
   ·rw[hn] at h;cases h
   ·rw[hn] at h;have h:AFj P F.ntmps (mk fn) F.results.toList (BJ P call F.ntmps false fuel c) l s=some (x,s'):=h;obtain⟨h1,h⟩:=AS h;obtain⟨⟨ex,ρ,f⟩,h2,h⟩:=BY h;obtain⟨b,h⟩:=AS h;obtain⟨vs,d,h⟩:=BY h;cases h;rw[Up] at h1;exact⟨F,c,a,hn,hc,Ap h1,ex,ρ,vs,h2,b,d,rfl⟩
  ·cases h
 ·cases h
theorem AIw(b:P.follows .mixedOrders=true)(hc:HOk P call){fn:Nat}{l:List HV}{s s':HS}{x:HV}(h:(nD P call fuel mk fn).run l s=some (x,s')){μ:Mu}{w:World}{vals:Array Value}(H:HR μ s.h w)(hf:D_ μ s.nx s'.nx)(d:VY μ l vals) :
  CallsIn II 0 P fn vals w (Mm μ s w s' x):=by
 obtain⟨F,c,e,hn,hb,hl,ex,ρ,vs,h1,h2,f,rfl⟩:=SR h;refine callsIn_of_wp_marks e hb trivial ?_;refine iJ (rd:=none) b hc (B:=w.heap.size) c h1 H (A7o d hl) MK.nil (Ay _) hf fun μ' a' w' g j k m => ?_;obtain⟨rs,n,o,p⟩:=k;have a:LeavesInM II 0 P F a'.tmps (Mm μ s w s' (Adv vs)) a'.defers .returning w':=by
  rw[n];exact iK j f (fun v u q r t=>⟨μ',q,r,t⟩) rs w' o p g m
 cases ex with
 | norm=>exact a
 | ret=>exact a
 | exit i=>cases h2
theorem nG{μ:Mu}{n:Nat}:∀ {ps:List Nat} {xs:List HV} {ρ ρ':En} {us:List Value} {tm:Array Value},hC ps xs n ρ=some ρ'->C us=C xs->(∀ (j:Nat) (h1:j<C xs) (h2:j<C us),VR μ xs[j] us[j])->FR μ n ρ tm ->
  C ps=C xs/\FR μ n ρ' ((ps.zip us).foldl (fun t p=>t.setIfInBounds p.1 p.2) tm)
 | [],[],ρ,ρ',us,tm,h,hl,b,F=>by
  cases h;exact⟨rfl,F⟩
 | p::ps,x::xs,ρ,ρ',[],tm,h,hl,b,F=>by cases hl
 | p::ps,x::xs,ρ,ρ',u::us,tm,h,hl,b,F=>by
  obtain⟨c,h⟩:=AS (k:=hC ps xs n (ρ.set p x)) h;have f:FR μ n (L0 ρ (some p) x) (({ tmps:=tm,defers:=[] }:Act).put (some p) u).tmps:=FR.put (a:={ tmps:=tm,defers:=[] }) F (fun _ _ e=>e) (d:=some p) c (b 0 (by simp) (by simp));obtain⟨g,i⟩:=nG (us:=us) h (by simpa using hl) (fun j h1 h2=>b (j+1) (by simp;omega) (by simp;omega)) f;exact⟨by simp[g],i⟩
 | [],_::_,_,_,_,_,h,_,_,_=>by cases h
 | _::_,[],_,_,_,_,h,_,_,_=>by cases h
theorem Sb{st:LoopState}{j:Option Code}(h:Uz st j=true):st = .ready/\j=none:=by
 unfold Uz at h;split at h
 ·exact⟨rfl,rfl⟩
 ·cases h
def iL:Ex->LoopState
 | .norm => .ready
 | _ => .done
theorem WN{b:Nat}{args:List HV}{s s':HS}{x:HV}(h:U0 P call fuel b args s=some (x,s')):∃ ρ n ps asx bd ρ' ρ1 a ρ2 d e f g ex ρ3 c ρ4 k m o p q r,
  s.h.get b=some (.l ρ n ps asx bd .ready none)/\hC ps args n ρ=some ρ'/\(BJ P call n true fuel asx).run ρ' s=some (.norm,ρ1,a)/\a.h.get b=some (.l ρ2 d e f g .ready none) /\
  (BJ P call n true fuel bd).run ρ1 (IE a b (.l ρ2 d e f g .busy none))=some (ex,ρ3,c)/\c.h.get b=some (.l ρ4 k m o p q r) /\
  x = .b (JK ex).isNone/\s'=IE c b (.l ρ4 k m o p (iL ex) (JK ex)):=by
 obtain⟨ρ,n,ps,asx,bd,st,j,h1,h⟩:=N3 h;obtain⟨hr,h⟩:=AS h;obtain⟨rfl,rfl⟩:=Sb hr;obtain⟨ρ',h2,h⟩:=BY h;obtain⟨⟨u,ρ1,a⟩,v,h⟩:=BY h;obtain⟨t,h⟩:=AS h;obtain⟨ρ2,d,e,f,g,IW,B,w,h⟩:=N3 h;obtain⟨y,h⟩:=AS h;obtain⟨rfl,rfl⟩:=Sb y;obtain⟨⟨ex,ρ3,c⟩,z,h⟩:=BY h;obtain⟨ρ4,k,m,o,p,q,r,A,h⟩:=N3 h;cases h;cases u with
 | norm=>exact⟨ρ,n,ps,asx,bd,ρ',ρ1,a,ρ2,d,e,f,g,ex,ρ3,c,ρ4,k,m,o,p,q,r,h1,h2,v,w,z,A,rfl,by cases ex <;> rfl⟩
 | exit i=>cases t
 | ret=>cases t
theorem Auv(hc:QC call){b:Nat}{args:List HV}{s s':HS}{x:HV}(h:U0 P call fuel b args s=some (x,s')):Qt s s':=by
 obtain⟨ρ,n,ps,asx,bd,ρ',ρ1,f,ρ2,g,i,j,k,ex,ρ3,l,ρ4,m,o,p,q,r,t,h1,h2,a,c,d,e,rfl,rfl⟩:=WN h;exact (((Mp hc asx a).trans (Qt.turn c)).trans (Mp hc bd d)).trans (Qt.turn e)
theorem Auw(z:P.follows .mixedOrders=true)(hc:HOk P call){b:Nat}{args:List HV}{s s':HS}{x:HV}(h:U0 P call fuel b args s=some (x,s')){μ:Mu}{w:World}{vals:Array Value}{q:Nat × Nat}(H:HR μ s.h w)(hf:D_ μ s.nx s'.nx)(A:μ b=some q)(m:VY μ args vals) :
  ∃ fn tmps asx bd,(Instr.yield q.1 vals).run P w = .ok (.round q.1 fn tmps asx bd) w/\RoundIn II 0 P q.1 fn tmps asx bd w (Mm μ s w s' x):=by
 obtain⟨ρ,n,ps,asx,bd,ρ',ρ1,D,ρ2,V,W,X,Y,ex,ρ3,o,ρ4,E,F,G,I,a8,j4,h1,h2,J,K,M,N,rfl,rfl⟩:=WN h;obtain⟨L,Z,O,e3,e4,e5,e6,e7⟩:=H.at h1 A;have a3:∀ (j:Nat) (h1:j<C args) (h2:j<C vals.toList),VR μ args[j] vals.toList[j]:=fun j r u=>by simpa using m.2 j r (by simpa using u)
 obtain⟨r,u⟩:=nG (us:=vals.toList) h2 (by simpa using m.1) a3 e7;have a4:(L.params.zip vals).foldl (fun tmps (t,a)=>tmps.setIfInBounds t a) L.tmps=(ps.zip vals.toList).foldl (fun t p=>t.setIfInBounds p.1 p.2) L.tmps:=by
  rw[O,<- Si];simp[Array.toList_zip]
 have g:=Mp hc.qt asx J;have d:Qt D (IE D b (.l ρ2 V W X Y .busy none)):=Qt.turn K;have f:=Mp hc.qt bd M;have e:Qt o (IE o b (.l ρ4 E F G I (iL ex) (JK ex))):=Qt.turn N;refine⟨_,_,_,_,run_yield Z (by rw[O,m.1];simpa using r.symm),?_⟩;rw[a4,e3,e4];refine roundIn_of_wpIn trivial ?_;refine iJ (rd:=some q.1) z hc (B:=w.heap.size) asx J H u MK.nil (Ay _) (hf.left (AA d.nx (AA f.nx e.nx))) fun μ1 a1 w1 k1 k2 k3 k => ?_;have Q:=k.le _ _ A;obtain⟨R,l1,l2,l3,_,_,_,_,l4,S⟩:=SQ k1 K Q .busy none;have T:=run_beginRound (P:=P) l1 l2;have a5:({ R with state := .busy }:Loop)={ R with state := .busy,pending:=none }:=by rw[<- l3]
 rw[a5] at T;have a6:=hf.right g.nx k;have S5:=k.trans S g d (hf.left (AA d.nx (AA f.nx e.nx)));refine⟨_,T,?_⟩;refine iJ (rd:=some q.1) z hc (B:=w.heap.size) bd M l4 k2 (k3.step S d fun c c1 c2=>absurd c2 (Nat.not_lt.2 c1)) (by rw[SY];exact k.size) (a6.left e.nx) fun μ2 a2 w2 m1 m2 m3 U => ?_;have a7:=U.le _ _ Q;obtain⟨L2,v,u2,u3,_,_,_,_,u4,u5⟩:=SQ m1 N a7 (iL ex) (JK ex);have IW:=(S5.trans U (g.trans d) f (hf.left (AA f.nx e.nx))).trans u5 ((g.trans d).trans f) e (hf.left e.nx);have y:Mm μ s w (IE o b (.l ρ4 E F G I (iL ex) (JK ex))) (.b (JK ex).isNone) (.returned (.bool (JK ex).isNone)) (w2.putObj q.1 (.loop { L2 with state:=iL ex,pending:=JK ex })):=⟨μ2,u4,IW,.b _⟩;cases ex with
 | norm=>exact⟨_,_,run_endRound none v,y⟩
 | ret=>exact⟨_,_,run_endRound (some .ret) v,y⟩
 | exit i=>exact⟨_,_,run_endRound (some (.exit i)) v,y⟩
theorem A7p(hc:QC call){fn:Nat}{l:List HV}{s s':HS}{x:HV}(h:(nD P call fuel mk fn).run l s=some (x,s')):Qt s s':=by
 obtain⟨F,c,_,_,_,_,ex,ρ,vs,h1,_⟩:=SR h;exact Mp hc c h1
theorem Aeb(e:P.follows .mixedOrders=true)(a:HOk P call):HOk P (VW P call fuel mk):=by
 refine⟨fun f l s x s' h => ?_,fun {fv args s r} h => ?_,fun {fn fs cs args s x s'} h => ?_,fun {b args s x s'} h μ w vals q H hf g d => ?_⟩
 ·cases f <;> try (cases h;done)
  ·exact A7p a.qt h
  ·exact Auv a.qt h
 ·cases fv <;> try (cases h;done)
  ·exact .inl ⟨_,_,_,rfl⟩
  ·exact .inr ⟨_,rfl⟩
 ·have h:(nD P call fuel mk fn).run (fs++args++cs) s=some (x,s'):=h;obtain⟨F,c,h1,h2,i,_⟩:=SR h;exact⟨⟨F,c,h1,h2,i⟩,fun {μ w vals} H hf d=>AIw e a h H hf d⟩
 ·have h:U0 P call fuel b args s=some (x,s'):=h;exact Auw e a h H hf g d
theorem Aec:HOk P (fun _ _ _=>none):=⟨fun _ _ _ _ _ h=>(by cases h),fun h=>(by cases h),fun h=>(by cases h),fun h=>(by cases h)⟩
theorem Aow(a:P.follows .mixedOrders=true):∀ d,HOk P (Jm P fuel mk d)
 | 0=>Aec
 | d+1=>Aeb a (Aow a d)
theorem Aox(hc:HOk P call){fn:Nat}{l:List HV}{vals:Array Value}(hl:VY (fun _=>none) l vals){x:HV}{s':HS}(h:call (.f fn [] []) l ⟨.e,0,[]⟩=some (x,s'))(w:World) :
  Calls P fn vals w fun e w'=>∃ v μ,e = .returned v/\VR μ x v/\Below w.heap.size w w':=by
 have H:HR (fun _=>none) (Tr.e:Tr HO) w:=⟨fun a o h=>(by cases h),fun a a' o o' r r' h=>(by cases h),fun a r h=>(by cases h)⟩;have:=(hc.fn h).2 (μ:=fun _=>none) (w:=w) (vals:=vals) H (fun _ _ _=>rfl) (by rw[Dg,Df];exact hl);refine callsIn_wide.1 (iG this fun e w' b => ?_);cases e with
 | returned v =>
  obtain⟨μ,_,st,c⟩:=b;exact⟨v,μ,rfl,c,st.os,st.tape,st.out,st.size,fun k d=>st.frame k d fun a o q g=>(by cases g)⟩
 | panicked _=>exact b.elim
 | outgrown=>exact b.elim
def okB(o:Option (HV × HS)):Bool:=match o with | some (.b true,_)=>true | _=>false
theorem Aed(hc:HOk P call){fn:Nat}(h:okB (call (.f fn [] []) [] ⟨.e,0,[]⟩)=true)(w:World) :
  Calls P fn #[] w fun e w'=>e = .returned (.bool true)/\Below w.heap.size w w':=by
 unfold okB at h;split at h
 next s' hs=>refine vW (Aox hc ⟨rfl,fun j h1=>(by cases h1)⟩ hs w) fun e w' a => ?_;obtain⟨v,μ,rfl,b,hb⟩:=a;cases b;exact⟨rfl,hb⟩
 ·cases h
end
end
noncomputable section
def eqI(m n:Int):Bool:=A8j (motive:=fun _=>Bool) (fun a=>A8j (motive:=fun _=>Bool) (fun b=>AKi a b) (fun _=>false) n) (fun a=>A8j (motive:=fun _=>Bool) (fun _=>false) (fun b=>AKi a b) n) m
theorem ABu{m n:Int}(h:eqI m n=true):m=n:=by
 cases m <;> cases n <;> try (cases h;done)
 ·exact congrArg Int.ofNat (Ao h)
 ·exact congrArg Int.negSucc (Ao h)
def A7q:Cap->Cap->Bool
 | .k a,.k b=>AKi a b
 | .d a,.d b=>AKi a b
 | _,_=>false
theorem Aux{a b:Cap}(h:A7q a b=true):a=b:=by
 cases a <;> cases b <;> try (cases h;done)
 ·exact congrArg Cap.k (Ao h)
 ·exact congrArg Cap.d (Ao h)
def vH:HV->HV->Bool
 | .b x,.b y=>x==y
 | .i k m,.i e n=>k==e&&eqI m n
 | .u,.u=>true
 | .pn,.pn=>true
 | .p a o,.p b q=>AKi a b&&AKi o q
 | .sn,.sn=>true
 | .s a o n c,.s b q m d=>AKi a b&&AKi o q&&AKi n m&&A7q c d
 | .mn,.mn=>true
 | .m a,.m b=>AKi a b
 | .y a,.y b=>AKi a b
 | _,_=>false
theorem Aoy{x y:HV}(h:vH x y=true):x=y:=by
 cases x <;> cases y <;> first | (cases h;done) | rfl | skip
 ·simpa [vH] using h
 ·simp only[vH,U,AM] at h;rw[h.1,ABu h.2]
 ·simp only[vH,U] at h;rw[Ao h.1,Ao h.2]
 ·simp only[vH,U] at h;rw[Ao h.1.1.1,Ao h.1.1.2,Ao h.1.2,Aux h.2]
 ·rw[Ao h]
 ·rw[Ao h]
def Yj(l m:List HV):Bool:=BZ (motive:=fun _=>List HV->Bool) (fun m=>BZ (motive:=fun _=>Bool) true (fun _ _ _=>false) m)
 (fun x _ a m=>BZ (motive:=fun _=>Bool) false (fun y b _=>DO (vH x y) (a b) false) m) l m
theorem XN:∀ {l m:List HV},Yj l m=true->l=m
 | [],[],_=>rfl
 | [],_::_,h=>by cases h
 | _::_,[],h=>by cases h
 | x::l,y::m,h=>by
  have h:DO (vH x y) (Yj l m) false=true:=h;cases hb:vH x y
  ·rw[hb] at h;cases h
  ·rw[hb] at h;rw[Aoy hb,XN h]
def eqV:HV->HV->Bool
 | .g l,.g m=>Yj l m
 | .t l,.t m=>Yj l m
 | x,y=>vH x y
theorem ABv{x y:HV}(h:eqV x y=true):x=y:=by
 unfold eqV at h;split at h
 ·rw[XN h]
 ·rw[XN h]
 ·exact Aoy h
def Aee(l m:List HV):Bool:=BZ (motive:=fun _=>List HV->Bool) (fun m=>BZ (motive:=fun _=>Bool) true (fun _ _ _=>false) m)
 (fun x _ a m=>BZ (motive:=fun _=>Bool) false (fun y b _=>DO (eqV x y) (a b) false) m) l m
theorem Aef:∀ {l m:List HV},Aee l m=true->l=m
 | [],[],_=>rfl
 | [],_::_,h=>by cases h
 | _::_,[],h=>by cases h
 | x::l,y::m,h=>by
  have h:DO (eqV x y) (Aee l m) false=true:=h;cases hb:eqV x y
  ·rw[hb] at h;cases h
  ·rw[hb] at h;rw[ABv hb,Aef h]
structure Pc where
 fn:Nat
 args:List HV
 nx:Nat
 hin:List (Nat × List HV)
 x:HV
 nx':Nat
 tch:List Nat
 out:List (Nat × List HV)
def Im(l:List (Nat × List HV))(h:Tr HO):Tr HO:=BZ (motive:=fun _=>Tr HO->Tr HO) (fun h=>h) (fun p _ a h=>(a h).set p.1 (some (.c p.2))) l h
theorem IF(a:Nat):∀ (l:List (Nat × List HV)) (h:Tr HO),((Im l h).get a=h.get a/\∀ p∈l,p.1 ≠ a)\/∃ p,p∈l/\p.1=a/\(Im l h).get a=some (.c p.2)
 | [],h => .inl ⟨rfl,fun p b=>by cases b⟩
 | q::l,h=>by
  have e:Im (q::l) h=(Im l h).set q.1 (some (.c q.2)):=rfl;rw[e,CA];by_cases d:a=q.1
  ·rw[Ae d];exact .inr ⟨q,AKh ..,d.symm,rfl⟩
  ·rw[Al d];rcases IF a l h with ⟨h1,h2⟩ | ⟨p,h1,h2,f⟩
   ·exact .inl ⟨h1,fun p b=>by
     rcases Aw.1 b with rfl | b
     ·exact fun e=>d e.symm
     ·exact h2 p b⟩
   ·exact .inr ⟨p,AJ _ h1,h2,f⟩
def Pc.sIn(p:Pc):HS:=⟨Im p.hin .e,p.nx,[]⟩
def Pc.after(p:Pc)(s:HS):HS:=⟨Im p.out s.h,p.nx',p.tch++WS p.nx (p.nx'-p.nx)++s.lg⟩
def Aeg(l:List (Nat × List HV))(h:Tr HO):Bool:=BZ (motive:=fun _=>Bool) true (fun p _ a=>HW (motive:=fun _=>Bool) false (fun o=>HO.rec (motive:=fun _=>Bool) (fun cs=>DO (Yj p.2 cs) a false) (fun _=>false) (fun _ _ _ _ _ _ _=>false) (fun _ _=>false) o) (h.get p.1)) l
theorem iM{h:Tr HO}:∀ {l:List (Nat × List HV)},Aeg l h=true->∀ p∈l,h.get p.1=some (.c p.2)
 | [],_,p,i=>by cases i
 | q::l,hi,p,i=>by
  have hi:HW (motive:=fun _=>Bool) false (fun o=>HO.rec (motive:=fun _=>Bool) (fun cs=>DO (Yj q.2 cs) (Aeg l h) false) (fun _=>false) (fun _ _ _ _ _ _ _=>false) (fun _ _=>false) o) (h.get q.1)=true:=hi;cases j:h.get q.1 with
  | none=>rw[j] at hi;cases hi
  | some o =>
   rw[j] at hi;cases o with
   | c cs =>
    have hi:DO (Yj q.2 cs) (Aeg l h) false=true:=hi;cases hb:Yj q.2 cs
    ·rw[hb] at hi;cases hi
    ·rw[hb] at hi;rcases Aw.1 i with rfl | i
     ·rw[j,XN hb]
     ·exact iM hi p i
   | m es=>cases hi
   | l a b c d e f g=>cases hi
   | it a b=>cases hi
def Pc.fits(p:Pc)(fv:HV)(args:List HV)(s:HS):Bool :=
 match fv with
 | .f fn [] []=>DO (AKi fn p.fn) (DO (Aee args p.args) (Aeg p.hin s.h) false) false
 | _=>false
def Pc.look(p:Pc)(r:Option (HV × HS)):Option (HV × Nat × List (Option HO) × Bool) :=
 bO r fun q=>some (q.1,q.2.nx,p.out.map (fun o=>q.2.h.get o.1),q.2.lg.all fun a=>BM a p.tch || (Dq p.nx a&&Ks a q.2.nx))
def Pc.wf(p:Pc):Bool:=p.tch.all (fun a=>(p.hin.any fun o=>AKi o.1 a)&&p.out.any fun o=>AKi o.1 a)&&p.out.all (fun o=>BM o.1 p.tch || (Dq p.nx o.1&&Ks o.1 p.nx'))
variable {P:Program}
structure Snd (P:Program) (p:Pc):Prop where
 wf:p.wf=true
 run:∃ (call:BI) (s':HS),HOk P call/\call (.f p.fn [] []) p.args p.sIn=some (p.x,s')/\s'.nx=p.nx'/\(∀ o∈p.out,s'.h.get o.1=some (.c o.2))/\∀ a∈s'.lg,a∈p.tch\/(p.nx<=a/\a<p.nx')
theorem Hb{p:Pc}{call:BI}(hc:HOk P call)(d:p.wf=true)(h:p.look (call (.f p.fn [] []) p.args p.sIn)=some (p.x,p.nx',p.out.map (fun o=>some (.c o.2)),true)):Snd P p:=by
 refine⟨d,?_⟩;obtain⟨⟨x,s'⟩,h1,h2⟩:=BY h;simp only[Ac,Cc] at h2;obtain⟨e,b,g,i⟩:=h2;subst e;refine⟨call,s',hc,h1,b,fun o ho => ?_,fun a j => ?_⟩
 ·exact List.map_inj_left.1 g o ho
 ·have:=AKf.1 i a j;simp only[CD,U,Gx] at this;rcases this with h | ⟨h1,h2⟩
  ·exact .inl h
  ·exact .inr ⟨Ap h1,by rw[<- b];exact by rwa [KD] at h2⟩
def Aoz(a:Tr Pc)(call:BI):BI:=fun fv args s =>
 HW (motive:=fun _=>RH) (call fv args s) (fun p=>DO (p.fits fv args s&&AKi p.nx s.nx) (some (p.x,p.after s)) (call fv args s)) (a.get s.nx)
theorem O1{a:Tr Pc}{call:BI}{fv:HV}{args:List HV}{s:HS}{r:HV × HS}(h:Aoz a call fv args s=some r):call fv args s=some r\/∃ p,a.get s.nx=some p/\fv = .f p.fn [] []/\args=p.args/\p.nx=s.nx/\(∀ o∈p.hin,s.h.get o.1=some (.c o.2))/\r=(p.x,p.after s):=by
 unfold Aoz at h;cases b:a.get s.nx with
 | none=>rw[b] at h;exact .inl h
 | some p =>
  rw[b] at h;have h:DO (p.fits fv args s&&AKi p.nx s.nx) (some (p.x,p.after s)) (call fv args s)=some r:=h;cases hf:(p.fits fv args s&&AKi p.nx s.nx)
  ·rw[hf] at h;exact .inl h
  ·rw[hf] at h;simp only[U] at hf;obtain⟨h1,h2⟩:=hf;unfold Pc.fits at h1;split at h1
   ·rename_i _ fn _;cases hb:AKi fn p.fn
    ·rw[hb] at h1;cases h1
    rw[hb] at h1;have h1:DO (Aee args p.args) (Aeg p.hin s.h) false=true:=h1;cases hc:Aee args p.args
    ·rw[hc] at h1;cases h1
    rw[hc] at h1;cases h;exact .inr ⟨p,rfl,by rw[Ao hb],Aef hc,Ao h2,iM h1,rfl⟩
   ·cases h1
theorem HR.sub{μ:Mu}{h b:Tr HO}{w:World}(H:HR μ h w)(hs:∀ a o,b.get a=some o->h.get a=some o):HR μ b w :=
 ⟨fun a o c=>H.obj a o (hs a o c),fun a a' o o' r r' h1 h2=>H.inj a a' o o' r r' (hs _ _ h1) (hs _ _ h2),H.lt⟩
theorem Aeh{p:Pc}{a:Nat}{o:HO}(h:p.sIn.h.get a=some o):∃ q∈p.hin,q.1=a/\o = .c q.2:=by
 rcases IF a p.hin .e with ⟨h1,_⟩ | ⟨q,h1,h2,b⟩
 ·have h0:(Im p.hin .e).get a=some o:=h;rw[h1] at h0;cases h0
 ·have h0:(Im p.hin .e).get a=some o:=h;rw[b] at h0;exact⟨q,h1,h2,(AY h0).symm⟩
section
variable {p:Pc} {s s':HS}
theorem O2(h:p.wf=true){a:Nat}(b:a∈p.tch):(∃ o∈p.hin,o.1=a)/\∃ o∈p.out,o.1=a:=by
 simp only[Pc.wf,U,AKf] at h;have:=h.1 a b;simp only[List.any_eq_true] at this;obtain⟨⟨o,h1,h2⟩,o',c,d⟩:=this;exact⟨⟨o,h1,Ao h2⟩,o',c,Ao d⟩
theorem SS(h:p.wf=true){o:Nat × List HV}(ho:o∈p.out):o.1∈p.tch\/(p.nx<=o.1/\o.1<p.nx'):=by
 simp only[Pc.wf,U,AKf] at h;have:=h.2 o ho;simp only[CD,U,Gx] at this;exact this.imp id fun ⟨h1,h2⟩=>⟨Ap h1,by rwa [KD] at h2⟩
theorem Akv(b:p.wf=true)(q:Qt p.sIn s')(i:s'.nx=p.nx')(ho:∀ o∈p.out,s'.h.get o.1=some (.c o.2))(hl:∀ a∈s'.lg,a∈p.tch\/(p.nx<=a/\a<p.nx'))(hin:∀ o∈p.hin,s.h.get o.1=some (.c o.2)){a:Nat}{o:HO}(h:(p.after s).h.get a=some o) :
  (s'.h.get a=some o/\((∃ q∈p.hin,q.1=a)\/(p.nx<=a/\a<p.nx')))\/(s.h.get a=some o/\((∀ q∈p.hin,q.1 ≠ a)\/(p.nx<=a/\a<p.nx'))):=by
 have h0:(Im p.out s.h).get a=some o:=h;rcases IF a p.out s.h with ⟨h1,h2⟩ | ⟨x,h1,h2,j⟩
 ·rw[h1] at h0;by_cases hn:p.nx<=a/\a<p.nx'
  ·exact .inr ⟨h0,.inr hn⟩
  by_cases hi:∃ q∈p.hin,q.1=a
  ·left;obtain⟨x,f,g⟩:=hi;have k:¬ a∈p.tch:=fun l=>by obtain⟨_,y,m,n⟩:=O2 b l;exact h2 y m n
   have r:¬ a∈s'.lg:=fun e=>by rcases hl a e with e | e;exact k e;exact hn e
   have t:=q.keep a r (by rw[i];exact hn);rw[t];refine⟨?_,.inl ⟨x,f,g⟩⟩;rcases IF a p.hin .e with ⟨_,d⟩ | ⟨y,u,d,v⟩
   ·exact absurd g (d x f)
   ·show (Im p.hin .e).get a=some o;rw[v];have:=hin y u;rw[d,h0] at this;exact this.symm
  ·exact .inr ⟨h0,.inl fun q w e=>hi ⟨q,w,e⟩⟩
 ·rw[j] at h0;cases h0;left;have:=ho x h1;rw[h2] at this;refine⟨this,?_⟩;rcases SS b h1 with e | e
  ·rw[h2] at e;exact .inl (O2 b e).1
  ·rw[h2] at e;exact .inr e
theorem Auy(d:p.wf=true)(k:p.nx<=p.nx')(hs:p.nx=s.nx)(hin:∀ o∈p.hin,s.h.get o.1=some (.c o.2)):Qt s (p.after s) where
 nx:=by show s.nx<=p.nx';rw[<- hs];exact k
 lg a b:=BT _ b
 dom a o h:=by
  have h0:(Im p.out s.h).get a=some o:=h;rcases IF a p.out s.h with ⟨h1,_⟩ | ⟨x,h1,h2,l⟩
  ·rw[h1] at h0;exact .inl ⟨o,h0⟩
  ·rcases SS d h1 with e | e
   ·obtain⟨y,f,g⟩:=(O2 d e).1;have:=hin y f;rw[g,h2] at this;exact .inl ⟨_,this⟩
   ·rw[h2,hs] at e;exact .inr e
 keep a h1 h2:=by
  show (Im p.out s.h).get a=s.h.get a;rcases IF a p.out s.h with ⟨i,_⟩ | ⟨x,i,j,m⟩
  ·exact i
  ·rcases SS d i with e | e
   ·rw[j] at e;exact absurd (B9 _ (B9 _ e)) h1
   ·rw[j,hs] at e;exact absurd e h2
 lgd a b:=by
  have b:a∈p.tch++WS p.nx (p.nx'-p.nx)++s.lg:=b;rcases AK.1 b with b | b
  ·rcases AK.1 b with b | b
   ·obtain⟨y,f,g⟩:=(O2 d b).1;have:=hin y f;rw[g] at this;exact .inr (.inl ⟨_,this⟩)
   ·rw[AJn] at b;refine .inr (.inr ⟨by rw[<- hs];exact b.1,?_⟩);show a<p.nx';omega
  ·exact .inl b
theorem Akw(D:Snd P p)(hs:p.nx=s.nx)(hin:∀ o∈p.hin,s.h.get o.1=some (.c o.2)){μ:Mu}{w:World}{vals:Array Value}(H:HR μ s.h w)(hf:D_ μ s.nx (p.after s).nx)(K:VY μ ([]++p.args++[]) vals) :
  CallsIn II 0 P p.fn vals w (Mm μ s w (p.after s) p.x):=by
 obtain⟨c0,y,h1,h2,l,L,M⟩:=D.run;have N:=D.wf;have q:=h1.qt _ _ _ _ _ h2;obtain⟨g1,O⟩:=h1.fn h2;have n:∀ a o,p.sIn.h.get a=some o->s.h.get a=some o:=fun a o f=>by
  obtain⟨x,h1,h2,l⟩:=Aeh f;rw[l,<- h2];exact hin x h1
 have Q:D_ μ p.sIn.nx y.nx:=fun c c1 c2=>hf c (by rw[<- hs];exact c1) (by show c<p.nx';rw[<- l];exact c2);refine iG (F:=II) (O (H.sub n) Q K) fun e w' z => ?_;cases e with
 | panicked _=>exact z.elim
 | outgrown=>exact z.elim
 | returned v =>
  obtain⟨μ',A,d,R⟩:=z;have E:∀ {a o},s.h.get a=some o->(∀ q∈p.hin,q.1 ≠ a)->∀ r,μ a=some r->∀ b k r2,p.sIn.h.get b=some k->μ b=some r2->r2.1 ≠ r.1:=by
   intro a o f S r hr b k r2 hb m e;have:=H.inj b a k o r2 r (n _ _ hb) f m hr e;obtain⟨x,i,j,_⟩:=Aeh hb;exact S x i (j.trans this)
  have T:∀ {a o},s.h.get a=some o->¬ (p.nx<=a/\a<p.nx'):=by
   intro a o f hn;obtain⟨r,hr,_⟩:=H.obj a o f;rw[hf a (by rw[<- hs];exact hn.1) hn.2] at hr;cases hr
  have B:∀ {a o},(p.after s).h.get a=some o->y.h.get a=some o/\((∃ q∈p.hin,q.1=a)\/(p.nx<=a/\a<p.nx'))\/(s.h.get a=some o/\∀ q∈p.hin,q.1 ≠ a):=by
   intro a o f;rcases Akv N q l L M hin f with h | ⟨h,g | g⟩
   ·exact .inl h
   ·exact .inr ⟨h,g⟩
   ·exact absurd g (T h)
  have G:∀ {a o},y.h.get a=some o->((∃ q∈p.hin,q.1=a)\/(p.nx<=a/\a<p.nx'))->∀ {r},μ' a=some r->∀ {b k},s.h.get b=some k->(∀ q∈p.hin,q.1 ≠ b)->∀ {r2},μ b=some r2->r.1 ≠ r2.1:=by
   intro a o f C r hr b k hb I r2 m e;rcases d.new a r hr with h | ⟨c,U,V,W⟩ | h
   ·rcases C with ⟨x,i,j⟩ | hn
    ·have:=hin x i;rw[j] at this;have:=H.inj a b _ _ r r2 this hb h m e;exact I x i (j.trans this)
    ·rw[hf a (by rw[<- hs];exact hn.1) hn.2] at h;cases h
   ·exact E hb I r2 m c U r V W e
   ·have:=H.lt b r2 m;omega
  refine⟨μ',⟨fun a o f => ?_,fun a a' o o' r r' f X hr t e => ?_,A.lt⟩,⟨d.le,d.os,d.tape,d.out,d.size,fun b r hb=>(d.new b r hb).imp id fun h=>h.imp (fun ⟨a,o,i,j⟩=>⟨a,o,n _ _ i,j⟩) id,fun r hr hn=>d.frame r hr fun a o q i j=>hn a o q (n _ _ i) j,fun b hb=>d.stay b (by rw[l];show ¬ (p.nx<=b/\b<p.nx');rw[hs];exact hb)⟩,R⟩
  ·rcases B f with ⟨h,_⟩ | ⟨h,hn⟩
   ·exact A.obj a o h
   ·obtain⟨r,hr,Y⟩:=H.obj a o h;exact⟨r,d.le _ _ hr,Y.same d.le (d.frame r.1 (H.lt _ _ hr) fun b k r2 i j=>E h hn r hr b k r2 i j)⟩
  ·have u:∀ {a o r},s.h.get a=some o->μ' a=some r->μ a=some r:=by
    intro a o r h1 h2;obtain⟨r0,J,_⟩:=H.obj a o h1;have:=d.le _ _ J;rw[h2] at this;rw[J,this]
   rcases B f with ⟨h,C⟩ | ⟨h,hn⟩ <;> rcases B X with ⟨g,Z⟩ | ⟨g,a1⟩
   ·exact A.inj a a' o o' r r' h g hr t e
   ·exact absurd e (G h C hr g a1 (u g t))
   ·exact absurd e.symm (G g Z t h hn (u h hr))
   ·exact H.inj a a' o o' r r' h g (u h hr) (u g t) e
theorem ABw(a:Snd P p):∃ F c,P.funcs[p.fn]? = some F/\Qy F=true/\F.body=some c:=by
 obtain⟨c0,b,h1,h2,d,e,f⟩:=a.run;exact (h1.fn h2).1
theorem ABx(a:Snd P p):p.nx<=p.nx':=by
 obtain⟨c0,c,h1,h2,b,d,e⟩:=a.run;have:=(h1.qt _ _ _ _ _ h2).nx;rw[b] at this;exact this
end
theorem A7r{d:Tr Pc}{call:BI}(hc:HOk P call)(c:∀ k p,d.get k=some p->Snd P p):HOk P (Aoz d call) where
 qt f l s x s' h:=by
  rcases O1 h with h | ⟨p,a,rfl,rfl,hs,hin,e⟩
  ·exact hc.qt _ _ _ _ _ h
  ·cases e;exact Auy (c _ _ a).wf (ABx (c _ _ a)) hs hin
 only h:=by
  rcases O1 h with h | ⟨p,a,rfl,_⟩
  ·exact hc.only h
  ·exact .inl ⟨_,_,_,rfl⟩
 fn {fn fs cs args s x s'} h:=by
  rcases O1 h with h | ⟨p,a,e0,rfl,hs,hin,e⟩
  ·exact hc.fn h
  ·cases e0;cases e;exact⟨ABw (c _ _ a),fun H hf g=>Akw (c _ _ a) hs hin H hf g⟩
 yd {b args s x s'} h:=by
  rcases O1 h with h | ⟨p,a,e0,_⟩
  ·exact hc.yd h
  ·cases e0
def RE(P:Program)(a:Nat)(mk:Nat->Nat)(b:Tr Pc)(d:Nat):BI :=
 Pj (motive:=fun _=>BI) (fun _ _ _=>none) (fun _ c=>Aoz b (fun fv args s=>VW P c a mk fv args s)) d
def Fw(P:Program)(a:Tr Pc):Prop:=∀ k p,a.get k=some p->Snd P p
theorem Fw.nil:Fw P .e:=fun k p h=>by cases h
theorem Fw.add{b:Tr Pc}(h:Fw P b){k:Nat}{p:Pc}(c:Snd P p):Fw P (b.set k (some p)):=fun j q a=>by
 rw[CA] at a;split at a
 ·cases a;exact c
 ·exact h j q a
theorem Gn(a:P.follows .mixedOrders=true){e:Nat}{mk:Nat->Nat}{b:Tr Pc}(c:Fw P b):∀ d,HOk P (RE P e mk b d)
 | 0=>Aec
 | d+1=>A7r (Aeb a (Gn a c d)) c
end
end Go.Hp
