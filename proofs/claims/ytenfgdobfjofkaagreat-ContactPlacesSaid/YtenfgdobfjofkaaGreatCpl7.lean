/- Texts of the proof of ContactPlaces: part 7 of 17. -/
import Derived.KernelRfl
import Derived.Test.YtenfgdobfjofkaaGreatCpl6
namespace Go.Proofs.YtenfgdobfjofkaaGreat
open Go.Ai
set_option maxRecDepth 100000
open Bool renaming and_eq_true->U,and_false->Fz,and_self->DN,and_true->FX,eq_false_or_eq_true->Ah,false_eq_true->AC,or_eq_true->C7,or_false->Atm
open Decidable renaming decide->E
open Go.Ai.AV renaming agg->M,bool->I,fresh->P,int->A,sl->G,tup->Dj
open Go.Ai.Reg renaming box->Q,own->An,val->X
open Go.IntKind renaming bits->Bu,i64->D,u32->Bm,u64->A3,wrap->J
open Go.Proofs.Tryz renaming prog->g
open Int renaming emod_add_mul_ediv->qX,emod_lt_of_pos->Aej,emod_nonneg->Arn,fdiv->Bd,fdiv_eq_ediv_of_nonneg->Fl,lt_of_le_of_lt->Aeq,mul_add->Pv,mul_assoc->Aat,mul_comm->Gc,mul_ediv_add_emod->qW,mul_le_mul->P9,mul_le_mul_of_nonneg_left->Cz,mul_nonneg->F3,mul_one->Arj,mul_pos->Fo,mul_sub->A0z,natAbs->Ax,neg_mul_neg->qS,pow_succ->EV,pow_zero->hJ,sub_self->Azu,toNat->L,toNat_natCast->Ao,zero_add->Axz,zero_sub->LF
open List renaming all_cons->H',all_nil->Axo,any_cons->rA,any_nil->Axn,drop->R,drop_eq_getElem_cons->Jf,drop_eq_nil_of_le->KF,drop_zero->DF,eq_nil_of_length_eq_zero->A_,eq_of_mem_replicate->J6,getD->O,getD_eq_getElem?_getD->Z,getElem?_drop->C8,getElem?_eq_getElem->Ad,getElem?_eq_none->AS,getElem?_map->E5,getElem?_range->A0t,getElem?_set_ne->Do,getElem_mem->Bl,getElem_set_self->No,length->C,length_append->Ac,length_drop->ET,length_eq_zero_iff->Uz,length_map->Bx,length_range->Cm,length_replicate->Cp,length_set->Az,map_append->hU,mem_append->AF,mem_cons->Aw,mem_of_mem_take->B8,mem_singleton->Be,not_mem_nil->AD,range->A',replicate->AK,set_set->E9,take->CV,take_add_one->A1j,take_append_of_le_length->EC,take_length->aH,take_of_length_le->Ej
open Nat renaming add_assoc->Fs,add_le_add->Yw,add_zero->Bn,le_refl->Ar,le_trans->AR,lt_or_ge->C6,sub_zero->Tc,zero_add->AJ,zero_le->Cj
open Option renaming toList_some->Auh
noncomputable section
section
variable {t:Tbl} {s:St} {lv px py xc:Int}
theorem at_i{xs:LI}{i:Int}(_:0<=i)(h:i.toNat<C xs):Ae (R (L i*1) (H cI xs)) 0 1 true=some (A D xs[i.toNat]):=by
 have:=DP (c:=cI) (k:=1) (fun _=>rfl) h (j:=0) (by omega);rw[DF] at this;exact this
theorem Axb{xs:List Bool}{i:Int}(_:0<=i)(h:i.toNat<C xs):Ae (R (L i*1) (H cO xs)) 0 1 true=some (I xs[i.toNat]):=by
 have:=DP (c:=cO) (k:=1) (fun _=>rfl) h (j:=0) (by omega);rw[DF] at this;exact this
theorem Of{α:Type}{c:α->u}{k:Nat}(hc:∀ e,C (c e)=k){es:List α}{i:Nat}(h:i<C es){j n:Nat}(a:j+n<=k):Ae (R j (R (i*k) (H c es))) 0 n false=some (M (((c es[i]).drop j).take n)):=by
 rw[QE hc h,List.drop_append_of_le_length (by rw[hc];omega)];simp only[Ae,AC,if_false,AJ,DF];rw[Af (by rw[Ac,ET,hc];omega),EC (by rw[ET,hc];omega)]
def MG(f g:Nat)(xs a:u):Prop:=∃ b,RQ f xs (I b)/\RQ g a (I b)
structure Alike (t:Tbl) (s:St) (px py:Int):Prop where
 c0:∀ (e:El) (_:e∈t.ws),MG 57 60 [.agg [.int .i64 px,.int .i64 py],.agg [.int .i64 (e.n 2),.int .i64 (e.n 3)],.agg [.int .i64 (e.n 4),.int .i64 (e.n 5)],.int .i64 t.r0] [.agg [.int .i64 px,.int .i64 py],.agg [.int .i64 (e.n 2),.int .i64 (e.n 3)],.agg [.int .i64 (e.n 4),.int .i64 (e.n 5)],.int .i64 t.r0]
 c1:∀ (e:El) (_:e∈t.ar),MG 61 65 [.agg [.int .i64 px,.int .i64 py],.agg (AH e),.int .i64 t.r0] [.agg [.int .i64 px,.int .i64 py],.agg (AH e),.int .i64 t.r0]
 c2:∀ (e:El) (_:e∈t.po),MG 62 66 [.agg [.int .i64 px,.int .i64 py],.agg [.int .i64 (e.n 1),.int .i64 (e.n 2)],.int .i64 (J D (t.r0+e.n 3))] [.agg [.int .i64 px,.int .i64 py],.agg [.int .i64 (e.n 1),.int .i64 (e.n 2)],.int .i64 (J D (t.r0+e.n 3))]
 c3:∀ (e:El) (_:e∈t.fl) (x:Int) (_:x∈s.ks),MG 63 67 [.agg [.int .i64 px,.int .i64 py],.agg (cF e),.int .i64 x,.int .i64 t.r0] [.agg [.int .i64 px,.int .i64 py],.agg (cF e),.int .i64 x,.int .i64 t.r0]
 c4:∀ (e:El) (_:e∈s.bs),MG 64 68 [.agg [.int .i64 px,.int .i64 py],.agg [.int .i64 (e.n 3),.int .i64 (e.n 4)],.int .i64 (J D (2*t.r0))] [.agg [.int .i64 px,.int .i64 py],.agg [.int .i64 (e.n 3),.int .i64 (e.n 4)],.int .i64 (J D (2*t.r0))]
theorem eI{i:Int}(h1:w FI (CP t s lv px py xc false i) .norm (CP t s lv px py xc false (i+1)))(h2:w FK (CS t s lv px py xc false i) .norm (CS t s lv px py xc false (i+1)))(h:(w (.loop FI) (CP t s lv px py xc false (i+1)) xZ0 (CP t s lv px py xc false (C t.ws))/\w (.loop FK) (CS t s lv px py xc false (i+1)) xZ0 (CS t s lv px py xc false (C t.ws)))\/∃ v,w (.loop FI) (CP t s lv px py xc false (i+1)) .ret (CP t s lv px py xc true v)/\w (.loop FK) (CS t s lv px py xc false (i+1)) .ret (CS t s lv px py xc true v)) :
  (w (.loop FI) (CP t s lv px py xc false i) xZ0 (CP t s lv px py xc false (C t.ws))/\w (.loop FK) (CS t s lv px py xc false i) xZ0 (CS t s lv px py xc false (C t.ws)))\/∃ v,w (.loop FI) (CP t s lv px py xc false i) .ret (CP t s lv px py xc true v)/\w (.loop FK) (CS t s lv px py xc false i) .ret (CS t s lv px py xc true v):=by
 rcases h with ⟨a,b⟩ | ⟨v,a,b⟩
 ·exact .inl ⟨Ay h1 a,Ay h2 b⟩
 ·exact .inr ⟨v,Ay h1 a,Ay h2 b⟩
theorem jl0(m:TOk t)(hs:s.ok t.r1.toNat (C t.fl) (C t.ws))(o:Alike t s px py):∀ (d:Nat) {i:Int},i+(d:Int)=(C t.ws:Int)->0<=i ->
  (w (.loop FI) (CP t s lv px py xc false i) xZ0 (CP t s lv px py xc false (C t.ws))/\w (.loop FK) (CS t s lv px py xc false i) xZ0 (CS t s lv px py xc false (C t.ws)))\/∃ v,w (.loop FI) (CP t s lv px py xc false i) .ret (CP t s lv px py xc true v)/\w (.loop FK) (CS t s lv px py xc false i) .ret (CS t s lv px py xc true v)
 | 0,i,h,h0=>by
  have e:i=(C t.ws:Int):=by omega
  subst e;exact .inl ⟨f (WN t s lv px py xc false _ (AG (by omega))),f (Xk t s lv px py xc false _ (AG (by omega)))⟩
 | d+1,i,h,h0=>by
  have K:=m.l8;have N:=m.r1;have F:=hs;obtain⟨_,hb,O,_,P,_⟩:=F;have hi:i.toNat<C t.ws:=by omega
  have u:J D (i+1)=i+1:=Bb (by omega) (by omega);have hr:=CH (c:=cW) (k:=13) (fun _=>rfl) hi;have b:E (i<(C t.ws:Int))=true:=AN (by omega);have p:i.toNat<C s.az:=by omega
  have x:=Axb h0 p;have y:=ZK s i _ (AN (by omega)) ⟨by omega,by omega⟩ x;obtain⟨q,z,A⟩:=o.c0 _ (Bl hi);have G:∀ j,j<13->Ae (R j (R (L i*13) (H cW t.ws))) 0 1 true=(cW t.ws[i.toNat])[j]? := fun j p=>DP (c:=cW) (k:=13) (fun _=>rfl) hi p;have I:∀ j n,j+n<=13->Ae (R j (R (L i*13) (H cW t.ws))) 0 n false=some (M (((cW t.ws[i.toNat]).drop j).take n)):=fun j n p=>Of (c:=cW) (k:=13) (fun _=>rfl) hi p;generalize t.ws[i.toNat]=e at hr z A G I;have B:E (i>=(C s.az:Int))=false:=AG (by omega);rcases Ah (e.n 1==lv) with a | a
  ·rcases Ah ((e.n 0) != 2) with g | g
   ·rcases Ah (s.az[i.toNat]) with l | l
    ·have h1:=WI t s lv px py xc (false) i (s.az[i.toNat]) e b a g l ⟨by omega,by omega⟩ hr y;have h2:=Xf t s lv px py xc (false) i (s.az[i.toNat]) e b a g B l ⟨by omega,by omega⟩ ⟨by omega,by omega⟩ hr x;rw[u] at h1 h2;exact eI h1 h2 (jl0 m hs o d (i:=i+1) (by omega) (by omega))
    ·rcases Ah (q) with r | r
     ·exact .inr ⟨i,f (WJ t s lv px py xc (false) i q (s.az[i.toNat]) e b a g l r ⟨by omega,by omega⟩ hr y z),f (Xg t s lv px py xc (false) i q (s.az[i.toNat]) e b a g B l r ⟨by omega,by omega⟩ ⟨by omega,by omega⟩ hr x A)⟩
     ·have h1:=WK t s lv px py xc (false) i q (s.az[i.toNat]) e b a g l r ⟨by omega,by omega⟩ hr y z;have h2:=Xh t s lv px py xc (false) i q (s.az[i.toNat]) e b a g B l r ⟨by omega,by omega⟩ ⟨by omega,by omega⟩ hr x A;rw[u] at h1 h2;exact eI h1 h2 (jl0 m hs o d (i:=i+1) (by omega) (by omega))
   ·have h1:=WL t s lv px py xc (false) i e b a g ⟨by omega,by omega⟩ hr;have h2:=Xi t s lv px py xc (false) i e b a g ⟨by omega,by omega⟩ hr;rw[u] at h1 h2;exact eI h1 h2 (jl0 m hs o d (i:=i+1) (by omega) (by omega))
  ·have h1:=WM t s lv px py xc (false) i e b a ⟨by omega,by omega⟩ hr;have h2:=Xj t s lv px py xc (false) i e b a ⟨by omega,by omega⟩ hr;rw[u] at h1 h2;exact eI h1 h2 (jl0 m hs o d (i:=i+1) (by omega) (by omega))
theorem Anh{i:Int}(h1:w G6 (D7 t s lv px py xc false i) .norm (D7 t s lv px py xc false (i+1)))(h2:w G9 (DA t s lv px py xc false i) .norm (DA t s lv px py xc false (i+1)))(h:(w (.loop G6) (D7 t s lv px py xc false (i+1)) xZ2 (D7 t s lv px py xc false (C t.ar))/\w (.loop G9) (DA t s lv px py xc false (i+1)) xZ2 (DA t s lv px py xc false (C t.ar)))\/∃ v,w (.loop G6) (D7 t s lv px py xc false (i+1)) .ret (D7 t s lv px py xc true v)/\w (.loop G9) (DA t s lv px py xc false (i+1)) .ret (DA t s lv px py xc true v)) :
  (w (.loop G6) (D7 t s lv px py xc false i) xZ2 (D7 t s lv px py xc false (C t.ar))/\w (.loop G9) (DA t s lv px py xc false i) xZ2 (DA t s lv px py xc false (C t.ar)))\/∃ v,w (.loop G6) (D7 t s lv px py xc false i) .ret (D7 t s lv px py xc true v)/\w (.loop G9) (DA t s lv px py xc false i) .ret (DA t s lv px py xc true v):=by
 rcases h with ⟨a,b⟩ | ⟨v,a,b⟩
 ·exact .inl ⟨Ay h1 a,Ay h2 b⟩
 ·exact .inr ⟨v,Ay h1 a,Ay h2 b⟩
theorem jl1(m:TOk t)(hs:s.ok t.r1.toNat (C t.fl) (C t.ws))(p:Alike t s px py):∀ (d:Nat) {i:Int},i+(d:Int)=(C t.ar:Int)->0<=i ->
  (w (.loop G6) (D7 t s lv px py xc false i) xZ2 (D7 t s lv px py xc false (C t.ar))/\w (.loop G9) (DA t s lv px py xc false i) xZ2 (DA t s lv px py xc false (C t.ar)))\/∃ v,w (.loop G6) (D7 t s lv px py xc false i) .ret (D7 t s lv px py xc true v)/\w (.loop G9) (DA t s lv px py xc false i) .ret (DA t s lv px py xc true v)
 | 0,i,h,h0=>by
  have e:i=(C t.ar:Int):=by omega
  subst e;exact .inl ⟨f (WR t s lv px py xc false _ (AG (by omega))),f (Xo t s lv px py xc false _ (AG (by omega)))⟩
 | d+1,i,h,h0=>by
  have A:=m.l9;have B:=m.r1;have y:=hs;obtain⟨_,hb,F,_,G,_⟩:=y;have hi:i.toNat<C t.ar:=by omega
  have x:J D (i+1)=i+1:=Bb (by omega) (by omega);have hr:=CH (c:=AH) (k:=12) (fun _=>rfl) hi;have b:E (i<(C t.ar:Int))=true:=AN (by omega);obtain⟨g,q,r⟩:=p.c1 _ (Bl hi);have o:∀ j,j<12->Ae (R j (R (L i*12) (H AH t.ar))) 0 1 true=(AH t.ar[i.toNat])[j]? := fun j u=>DP (c:=AH) (k:=12) (fun _=>rfl) hi u;have z:∀ j n,j+n<=12->Ae (R j (R (L i*12) (H AH t.ar))) 0 n false=some (M (((AH t.ar[i.toNat]).drop j).take n)):=fun j n u=>Of (c:=AH) (k:=12) (fun _=>rfl) hi u;generalize t.ar[i.toNat]=e at hr q r o z;rcases Ah (e.n 0==lv) with a | a
  ·rcases Ah (g) with l | l
   ·exact .inr ⟨i,f (WO t s lv px py xc (false) i g e b a l ⟨by omega,by omega⟩ hr q),f (Xl t s lv px py xc (false) i g e b a l ⟨by omega,by omega⟩ (o 1 (by omega)) hr r)⟩
   ·have h1:=WP t s lv px py xc (false) i g e b a l ⟨by omega,by omega⟩ hr q;have h2:=Xm t s lv px py xc (false) i g e b a l ⟨by omega,by omega⟩ (o 1 (by omega)) hr r;rw[x] at h1 h2;exact Anh h1 h2 (jl1 m hs p d (i:=i+1) (by omega) (by omega))
  ·have h1:=WQ t s lv px py xc (false) i e b a ⟨by omega,by omega⟩ hr;have h2:=Xn t s lv px py xc (false) i e b a ⟨by omega,by omega⟩ (o 1 (by omega));rw[x] at h1 h2;exact Anh h1 h2 (jl1 m hs p d (i:=i+1) (by omega) (by omega))
theorem Ani{i:Int}(h1:w G7 (D8 t s lv px py xc false i) .norm (D8 t s lv px py xc false (i+1)))(h2:w GA (DB t s lv px py xc false i) .norm (DB t s lv px py xc false (i+1)))(h:(w (.loop G7) (D8 t s lv px py xc false (i+1)) xZ4 (D8 t s lv px py xc false (C t.po))/\w (.loop GA) (DB t s lv px py xc false (i+1)) xZ4 (DB t s lv px py xc false (C t.po)))\/∃ v,w (.loop G7) (D8 t s lv px py xc false (i+1)) .ret (D8 t s lv px py xc true v)/\w (.loop GA) (DB t s lv px py xc false (i+1)) .ret (DB t s lv px py xc true v)) :
  (w (.loop G7) (D8 t s lv px py xc false i) xZ4 (D8 t s lv px py xc false (C t.po))/\w (.loop GA) (DB t s lv px py xc false i) xZ4 (DB t s lv px py xc false (C t.po)))\/∃ v,w (.loop G7) (D8 t s lv px py xc false i) .ret (D8 t s lv px py xc true v)/\w (.loop GA) (DB t s lv px py xc false i) .ret (DB t s lv px py xc true v):=by
 rcases h with ⟨a,b⟩ | ⟨v,a,b⟩
 ·exact .inl ⟨Ay h1 a,Ay h2 b⟩
 ·exact .inr ⟨v,Ay h1 a,Ay h2 b⟩
theorem jl2(o:TOk t)(hs:s.ok t.r1.toNat (C t.fl) (C t.ws))(q:Alike t s px py):∀ (d:Nat) {i:Int},i+(d:Int)=(C t.po:Int)->0<=i ->
  (w (.loop G7) (D8 t s lv px py xc false i) xZ4 (D8 t s lv px py xc false (C t.po))/\w (.loop GA) (DB t s lv px py xc false i) xZ4 (DB t s lv px py xc false (C t.po)))\/∃ v,w (.loop G7) (D8 t s lv px py xc false i) .ret (D8 t s lv px py xc true v)/\w (.loop GA) (DB t s lv px py xc false i) .ret (DB t s lv px py xc true v)
 | 0,i,h,h0=>by
  have e:i=(C t.po:Int):=by omega
  subst e;exact .inl ⟨f (WV t s lv px py xc false _ (AG (by omega))),f (Xs t s lv px py xc false _ (AG (by omega)))⟩
 | d+1,i,h,h0=>by
  have B:=o.l10;have F:=o.r1;have A:=hs;obtain⟨_,hb,G,_,I,_⟩:=A;have hi:i.toNat<C t.po:=by omega
  have z:J D (i+1)=i+1:=Bb (by omega) (by omega);have hr:=CH (c:=p) (k:=11) (fun _=>rfl) hi;have b:E (i<(C t.po:Int))=true:=AN (by omega);obtain⟨l,r,u⟩:=q.c2 _ (Bl hi);have g:∀ j,j<11->Ae (R j (R (L i*11) (H p t.po))) 0 1 true=(p t.po[i.toNat])[j]? := fun j x=>DP (c:=p) (k:=11) (fun _=>rfl) hi x;have y:∀ j n,j+n<=11->Ae (R j (R (L i*11) (H p t.po))) 0 n false=some (M (((p t.po[i.toNat]).drop j).take n)):=fun j n x=>Of (c:=p) (k:=11) (fun _=>rfl) hi x;generalize t.po[i.toNat]=e at hr r u g y;rcases Ah (e.n 0==lv) with a | a
  ·rcases Ah (l) with m | m
   ·exact .inr ⟨i,f (WS t s lv px py xc (false) i l e b a m ⟨by omega,by omega⟩ hr r),f (Xp t s lv px py xc (false) i l e b a m ⟨by omega,by omega⟩ (g 1 (by omega)) (y 2 2 (by omega)) (g 4 (by omega)) u)⟩
   ·have h1:=WT t s lv px py xc (false) i l e b a m ⟨by omega,by omega⟩ hr r;have h2:=Xq t s lv px py xc (false) i l e b a m ⟨by omega,by omega⟩ (g 1 (by omega)) (y 2 2 (by omega)) (g 4 (by omega)) u;rw[z] at h1 h2;exact Ani h1 h2 (jl2 o hs q d (i:=i+1) (by omega) (by omega))
  ·have h1:=WU t s lv px py xc (false) i e b a ⟨by omega,by omega⟩ hr;have h2:=Xr t s lv px py xc (false) i e b a ⟨by omega,by omega⟩ (g 1 (by omega));rw[z] at h1 h2;exact Ani h1 h2 (jl2 o hs q d (i:=i+1) (by omega) (by omega))
theorem Anj{i:Int}(h1:w G8 (D9 t s lv px py xc false i) .norm (D9 t s lv px py xc false (i+1)))(h2:w GB (DC t s lv px py xc false i) .norm (DC t s lv px py xc false (i+1)))(h:(w (.loop G8) (D9 t s lv px py xc false (i+1)) xZ6 (D9 t s lv px py xc false (C t.fl))/\w (.loop GB) (DC t s lv px py xc false (i+1)) xZ6 (DC t s lv px py xc false (C t.fl)))\/∃ v,w (.loop G8) (D9 t s lv px py xc false (i+1)) .ret (D9 t s lv px py xc true v)/\w (.loop GB) (DC t s lv px py xc false (i+1)) .ret (DC t s lv px py xc true v)) :
  (w (.loop G8) (D9 t s lv px py xc false i) xZ6 (D9 t s lv px py xc false (C t.fl))/\w (.loop GB) (DC t s lv px py xc false i) xZ6 (DC t s lv px py xc false (C t.fl)))\/∃ v,w (.loop G8) (D9 t s lv px py xc false i) .ret (D9 t s lv px py xc true v)/\w (.loop GB) (DC t s lv px py xc false i) .ret (DC t s lv px py xc true v):=by
 rcases h with ⟨a,b⟩ | ⟨v,a,b⟩
 ·exact .inl ⟨Ay h1 a,Ay h2 b⟩
 ·exact .inr ⟨v,Ay h1 a,Ay h2 b⟩
theorem jl3(p:TOk t)(hs:s.ok t.r1.toNat (C t.fl) (C t.ws))(u:Alike t s px py):∀ (d:Nat) {i:Int},i+(d:Int)=(C t.fl:Int)->0<=i ->
  (w (.loop G8) (D9 t s lv px py xc false i) xZ6 (D9 t s lv px py xc false (C t.fl))/\w (.loop GB) (DC t s lv px py xc false i) xZ6 (DC t s lv px py xc false (C t.fl)))\/∃ v,w (.loop G8) (D9 t s lv px py xc false i) .ret (D9 t s lv px py xc true v)/\w (.loop GB) (DC t s lv px py xc false i) .ret (DC t s lv px py xc true v)
 | 0,i,h,h0=>by
  have e:i=(C t.fl:Int):=by omega
  subst e;exact .inl ⟨f (WZ t s lv px py xc false _ (AG (by omega))),f (Xw t s lv px py xc false _ (AG (by omega)))⟩
 | d+1,i,h,h0=>by
  have F:=p.l11;have G:=p.r1;have A:=hs;obtain⟨_,hb,I,_,K,_⟩:=A;have hi:i.toNat<C t.fl:=by omega
  have z:J D (i+1)=i+1:=Bb (by omega) (by omega);have hr:=CH (c:=cF) (k:=15) (fun _=>rfl) hi;have b:E (i<(C t.fl:Int))=true:=AN (by omega);have g:i.toNat<C s.ks:=by omega
  have q:=at_i h0 g;obtain⟨l,x,y⟩:=u.c3 _ (Bl hi) _ (Bl g);have r:∀ j,j<15->Ae (R j (R (L i*15) (H cF t.fl))) 0 1 true=(cF t.fl[i.toNat])[j]? := fun j g=>DP (c:=cF) (k:=15) (fun _=>rfl) hi g;have B:∀ j n,j+n<=15->Ae (R j (R (L i*15) (H cF t.fl))) 0 n false=some (M (((cF t.fl[i.toNat]).drop j).take n)):=fun j n g=>Of (c:=cF) (k:=15) (fun _=>rfl) hi g;generalize t.fl[i.toNat]=e at hr x y r B;have m:E (i<(C s.ks:Int))=true:=AN (by omega);rcases Ah (e.n 0==lv) with a | a
  ·rcases Ah (l) with o | o
   ·exact .inr ⟨i,f (WW t s lv px py xc (false) i l e (s.ks[i.toNat]) b a m o ⟨by omega,by omega⟩ ⟨by omega,by omega⟩ hr q x),f (Xt t s lv px py xc (false) i l e (s.ks[i.toNat]) b m a o ⟨by omega,by omega⟩ ⟨by omega,by omega⟩ (r 1 (by omega)) hr q y)⟩
   ·have h1:=WX t s lv px py xc (false) i l e (s.ks[i.toNat]) b a m o ⟨by omega,by omega⟩ ⟨by omega,by omega⟩ hr q x;have h2:=Xu t s lv px py xc (false) i l e (s.ks[i.toNat]) b m a o ⟨by omega,by omega⟩ ⟨by omega,by omega⟩ (r 1 (by omega)) hr q y;rw[z] at h1 h2;exact Anj h1 h2 (jl3 p hs u d (i:=i+1) (by omega) (by omega))
  ·have h1:=WY t s lv px py xc (false) i e b a ⟨by omega,by omega⟩ hr;have h2:=Xv t s lv px py xc (false) i e b m a ⟨by omega,by omega⟩ (r 1 (by omega));rw[z] at h1 h2;exact Anj h1 h2 (jl3 p hs u d (i:=i+1) (by omega) (by omega))
theorem eJ{i:Int}(h1:w FJ (CQ t s lv px py xc false i) .norm (CQ t s lv px py xc false (i+1)))(h2:w FL (CT t s lv px py xc false i) .norm (CT t s lv px py xc false (i+1)))(h:(w (.loop FJ) (CQ t s lv px py xc false (i+1)) xZ8 (CQ t s lv px py xc false (C s.bs))/\w (.loop FL) (CT t s lv px py xc false (i+1)) xZ8 (CT t s lv px py xc false (C s.bs)))\/∃ v,w (.loop FJ) (CQ t s lv px py xc false (i+1)) .ret (CQ t s lv px py xc true v)/\w (.loop FL) (CT t s lv px py xc false (i+1)) .ret (CT t s lv px py xc true v)) :
  (w (.loop FJ) (CQ t s lv px py xc false i) xZ8 (CQ t s lv px py xc false (C s.bs))/\w (.loop FL) (CT t s lv px py xc false i) xZ8 (CT t s lv px py xc false (C s.bs)))\/∃ v,w (.loop FJ) (CQ t s lv px py xc false i) .ret (CQ t s lv px py xc true v)/\w (.loop FL) (CT t s lv px py xc false i) .ret (CT t s lv px py xc true v):=by
 rcases h with ⟨a,b⟩ | ⟨v,a,b⟩
 ·exact .inl ⟨Ay h1 a,Ay h2 b⟩
 ·exact .inr ⟨v,Ay h1 a,Ay h2 b⟩
theorem jl4(m:TOk t)(hs:s.ok t.r1.toNat (C t.fl) (C t.ws))(o:Alike t s px py):∀ (d:Nat) {i:Int},i+(d:Int)=(C s.bs:Int)->0<=i ->
  (w (.loop FJ) (CQ t s lv px py xc false i) xZ8 (CQ t s lv px py xc false (C s.bs))/\w (.loop FL) (CT t s lv px py xc false i) xZ8 (CT t s lv px py xc false (C s.bs)))\/∃ v,w (.loop FJ) (CQ t s lv px py xc false i) .ret (CQ t s lv px py xc true v)/\w (.loop FL) (CT t s lv px py xc false i) .ret (CT t s lv px py xc true v)
 | 0,i,h,h0=>by
  have e:i=(C s.bs:Int):=by omega
  subst e;exact .inl ⟨f (Xe t s lv px py xc false _ (AG (by omega))),f (X3 t s lv px py xc false _ (AG (by omega)))⟩
 | d+1,i,h,h0=>by
  have F:=m.r1;have z:=hs;obtain⟨_,hb,G,_,I,_⟩:=z;have hi:i.toNat<C s.bs:=by omega
  have r:J D (i+1)=i+1:=Bb (by omega) (by omega);have hr:=CH (c:=cB) (k:=7) (fun _=>rfl) hi;have b:E (i<(C s.bs:Int))=true:=AN (by omega);obtain⟨p,u,x⟩:=o.c4 _ (Bl hi);have A:∀ j,j<7->Ae (R j (R (L i*7) (H cB s.bs))) 0 1 true=(cB s.bs[i.toNat])[j]? := fun j y=>DP (c:=cB) (k:=7) (fun _=>rfl) hi y;have B:∀ j n,j+n<=7->Ae (R j (R (L i*7) (H cB s.bs))) 0 n false=some (M (((cB s.bs[i.toNat]).drop j).take n)):=fun j n y=>Of (c:=cB) (k:=7) (fun _=>rfl) hi y;generalize s.bs[i.toNat]=e at hr u x A B;rcases Ah (i != xc) with a | a
  ·rcases Ah ((e.n 0) != 0) with g | g
   ·rcases Ah (e.n 2==lv) with l | l
    ·rcases Ah (p) with q | q
     ·exact .inr ⟨i,f (W_ t s lv px py xc (false) i p e b a g l q ⟨by omega,by omega⟩ hr u),f (Xx t s lv px py xc (false) i p e b a g l q ⟨by omega,by omega⟩ hr x)⟩
     ·have h1:=Xa t s lv px py xc (false) i p e b a g l q ⟨by omega,by omega⟩ hr u;have h2:=Xy t s lv px py xc (false) i p e b a g l q ⟨by omega,by omega⟩ hr x;rw[r] at h1 h2;exact eJ h1 h2 (jl4 m hs o d (i:=i+1) (by omega) (by omega))
    ·have h1:=Xb t s lv px py xc (false) i e b a g l ⟨by omega,by omega⟩ hr;have h2:=Xz t s lv px py xc (false) i e b a g l ⟨by omega,by omega⟩ hr;rw[r] at h1 h2;exact eJ h1 h2 (jl4 m hs o d (i:=i+1) (by omega) (by omega))
   ·have h1:=Xc t s lv px py xc (false) i e b a g ⟨by omega,by omega⟩ hr;have h2:=X1 t s lv px py xc (false) i e b a g ⟨by omega,by omega⟩ hr;rw[r] at h1 h2;exact eJ h1 h2 (jl4 m hs o d (i:=i+1) (by omega) (by omega))
  ·have h1:=Xd t s lv px py xc (false) i e b a ⟨by omega,by omega⟩ hr;have h2:=X2 t s lv px py xc (false) i e b a ⟨by omega,by omega⟩ hr;rw[r] at h1 h2;exact eJ h1 h2 (jl4 m hs o d (i:=i+1) (by omega) (by omega))
theorem jb0(f:TOk t)(hs:s.ok t.r1.toNat (C t.fl) (C t.ws))(g:Alike t s px py){ra a:ICode}(h:∃ b,w ra (Gw t s lv px py xc false) .ret (IY b)/\w a (Gx t s lv px py xc false) .ret (IZ b)) :
  ∃ b,w (.seq (.seq dW (.block 0 (.loop FI))) ra) (Gw t s lv px py xc false) .ret (IY b)/\w (.seq (.seq eC (.block 0 (.loop FK))) a) (Gx t s lv px py xc false) .ret (IZ b):=by
 have c:=mW t s lv px py xc false;have e:=nD t s lv px py xc false;rcases jl0 (lv:=lv) (xc:=xc) f hs g (C t.ws) (i:=0) (by omega) (by omega) with ⟨x,y⟩ | ⟨v,x,y⟩
 ·obtain⟨b,p,q⟩:=h;exact⟨b,T (T c (A7 [2,4,5,6,8,10] (m x) (by kernel_rfl))) p,T (T e (A7 [2,4,5,6,8,10] (m y) (by kernel_rfl))) q⟩
 ·exact⟨true,d (T c (A7 [10] (n x) (by kernel_rfl))),d (T e (A7 [10] (n y) (by kernel_rfl)))⟩
theorem jb1(f:TOk t)(hs:s.ok t.r1.toNat (C t.fl) (C t.ws))(g:Alike t s px py){ra a:ICode}(h:∃ b,w ra (Gw t s lv px py xc false) .ret (IY b)/\w a (Gx t s lv px py xc false) .ret (IZ b)) :
  ∃ b,w (.seq (.seq dX (.block 2 (.loop G6))) ra) (Gw t s lv px py xc false) .ret (IY b)/\w (.seq (.seq eD (.block 2 (.loop G9))) a) (Gx t s lv px py xc false) .ret (IZ b):=by
 have c:=mX t s lv px py xc false;have e:=nE t s lv px py xc false;rcases jl1 (lv:=lv) (xc:=xc) f hs g (C t.ar) (i:=0) (by omega) (by omega) with ⟨x,y⟩ | ⟨v,x,y⟩
 ·obtain⟨b,p,q⟩:=h;exact⟨b,T (T c (A7 [2,4,5,6,8,10] (m x) (by kernel_rfl))) p,T (T e (A7 [2,4,5,6,8,10] (m y) (by kernel_rfl))) q⟩
 ·exact⟨true,d (T c (A7 [10] (n x) (by kernel_rfl))),d (T e (A7 [10] (n y) (by kernel_rfl)))⟩
theorem jb2(f:TOk t)(hs:s.ok t.r1.toNat (C t.fl) (C t.ws))(g:Alike t s px py){ra a:ICode}(h:∃ b,w ra (Gw t s lv px py xc false) .ret (IY b)/\w a (Gx t s lv px py xc false) .ret (IZ b)) :
  ∃ b,w (.seq (.seq dY (.block 4 (.loop G7))) ra) (Gw t s lv px py xc false) .ret (IY b)/\w (.seq (.seq eE (.block 4 (.loop GA))) a) (Gx t s lv px py xc false) .ret (IZ b):=by
 have c:=mY t s lv px py xc false;have e:=nF t s lv px py xc false;rcases jl2 (lv:=lv) (xc:=xc) f hs g (C t.po) (i:=0) (by omega) (by omega) with ⟨x,y⟩ | ⟨v,x,y⟩
 ·obtain⟨b,p,q⟩:=h;exact⟨b,T (T c (A7 [2,4,5,6,8,10] (m x) (by kernel_rfl))) p,T (T e (A7 [2,4,5,6,8,10] (m y) (by kernel_rfl))) q⟩
 ·exact⟨true,d (T c (A7 [10] (n x) (by kernel_rfl))),d (T e (A7 [10] (n y) (by kernel_rfl)))⟩
theorem jb3(f:TOk t)(hs:s.ok t.r1.toNat (C t.fl) (C t.ws))(g:Alike t s px py){ra a:ICode}(h:∃ b,w ra (Gw t s lv px py xc false) .ret (IY b)/\w a (Gx t s lv px py xc false) .ret (IZ b)) :
  ∃ b,w (.seq (.seq dZ (.block 6 (.loop G8))) ra) (Gw t s lv px py xc false) .ret (IY b)/\w (.seq (.seq eF (.block 6 (.loop GB))) a) (Gx t s lv px py xc false) .ret (IZ b):=by
 have c:=mZ t s lv px py xc false;have e:=nG t s lv px py xc false;rcases jl3 (lv:=lv) (xc:=xc) f hs g (C t.fl) (i:=0) (by omega) (by omega) with ⟨x,y⟩ | ⟨v,x,y⟩
 ·obtain⟨b,p,q⟩:=h;exact⟨b,T (T c (A7 [2,4,5,6,8,10] (m x) (by kernel_rfl))) p,T (T e (A7 [2,4,5,6,8,10] (m y) (by kernel_rfl))) q⟩
 ·exact⟨true,d (T c (A7 [10] (n x) (by kernel_rfl))),d (T e (A7 [10] (n y) (by kernel_rfl)))⟩
theorem jb4(f:TOk t)(hs:s.ok t.r1.toNat (C t.fl) (C t.ws))(g:Alike t s px py){ra a:ICode}(h:∃ b,w ra (Gw t s lv px py xc false) .ret (IY b)/\w a (Gx t s lv px py xc false) .ret (IZ b)) :
  ∃ b,w (.seq (.seq eA (.block 8 (.loop FJ))) ra) (Gw t s lv px py xc false) .ret (IY b)/\w (.seq (.seq eG (.block 8 (.loop FL))) a) (Gx t s lv px py xc false) .ret (IZ b):=by
 have c:=nA t s lv px py xc false;have e:=nH t s lv px py xc false;rcases jl4 (lv:=lv) (xc:=xc) f hs g (C s.bs) (i:=0) (by omega) (by omega) with ⟨x,y⟩ | ⟨v,x,y⟩
 ·obtain⟨b,p,q⟩:=h;exact⟨b,T (T c (A7 [2,4,5,6,8,10] (m x) (by kernel_rfl))) p,T (T e (A7 [2,4,5,6,8,10] (m y) (by kernel_rfl))) q⟩
 ·exact⟨true,d (T c (A7 [10] (n x) (by kernel_rfl))),d (T e (A7 [10] (n y) (by kernel_rfl)))⟩
def St.cs(s:St):u:=[A D s.k,G (C s.bs) (H cB s.bs),G (C s.ks) (H cI s.ks),G (C s.ss) (H cI s.ss),G (C s.az) (H cO s.az),A Bm s.co]
theorem ZL(a:TOk t)(hs:s.ok t.r1.toNat (C t.fl) (C t.ws))(c:Alike t s px py):MG 16 17 [t.av,M s.cs,A D lv,M [A D px,A D py],A D xc] [t.av,M s.cs,A D lv,M [A D px,A D py],A D xc]:=by
 obtain⟨b,p,q⟩:=jb0 (lv:=lv) (xc:=xc) a hs c (jb1 a hs c (jb2 a hs c (jb3 a hs c (jb4 a hs c ⟨false,eB t s lv px py xc false,eH t s lv px py xc false⟩))));refine⟨b,BR (fn:=iF g Q7) (s:=IY b) (ex := .ret) rfl rfl ?_ (by nofun) rfl,BR (fn:=iF g Q8) (s:=IZ b) (ex := .ret) rfl rfl ?_ (by nofun) rfl⟩
 ·rw[Anf];exact T (mV t s lv px py xc) p
 ·rw[Ang];exact T (nC t s lv px py xc) q
end
theorem Bw:AQ Cy []:=AQ.nil _
def Ank(t:Tbl)(s:St)(a:Int):V:=W 2 (vi a::Q [A D t.r0,A D t.r1,A D t.r2,A D t.r3,A D t.r4,A D t.r5,A D t.r6,G (C t.tr) (H cI t.tr),G (C t.ws) (H cW t.ws),G (C t.ar) (H AH t.ar),G (C t.po) (H p t.po),G (C t.fl) (H cF t.fl),G (C t.zo) (H cZ t.zo),G (C t.sa) (H AU t.sa),G (C t.la) (H cL t.la),G (C t.ra) (H cR t.ra),G (C t.dr) (H cD t.dr),G (C t.ln) (H cK t.ln)]::Q [A D s.k,G (C s.bs) (H cB s.bs),G (C s.ks) (H cI s.ks),G (C s.ss) (H cI s.ss),G (C s.az) (H cO s.az),A Bm s.co]::W 94 [])
def S1(a:Nat)(co:u):V:=W 6 (An 1 a co::W 92 [])
def Og(t:Tbl)(s:St)(a:Int)(b:Nat)(co:u):V:=W 2 (vi a::Q [A D t.r0,A D t.r1,A D t.r2,A D t.r3,A D t.r4,A D t.r5,A D t.r6,G (C t.tr) (H cI t.tr),G (C t.ws) (H cW t.ws),G (C t.ar) (H AH t.ar),G (C t.po) (H p t.po),G (C t.fl) (H cF t.fl),G (C t.zo) (H cZ t.zo),G (C t.sa) (H AU t.sa),G (C t.la) (H cL t.la),G (C t.ra) (H cR t.ra),G (C t.dr) (H cD t.dr),G (C t.ln) (H cK t.ln)]::Q [A D s.k,G (C s.bs) (H cB s.bs),G (C s.ks) (H cI s.ks),G (C s.ss) (H cI s.ss),G (C s.az) (H cO s.az),A Bm s.co]::W 2 (An 1 b co::W 91 []))
def tT(t:Tbl)(s:St)(a:Int)(b:El)(c:Nat)(co:u):V:=W 2 (vi a::Q [A D t.r0,A D t.r1,A D t.r2,A D t.r3,A D t.r4,A D t.r5,A D t.r6,G (C t.tr) (H cI t.tr),G (C t.ws) (H cW t.ws),G (C t.ar) (H AH t.ar),G (C t.po) (H p t.po),G (C t.fl) (H cF t.fl),G (C t.zo) (H cZ t.zo),G (C t.sa) (H AU t.sa),G (C t.la) (H cL t.la),G (C t.ra) (H cR t.ra),G (C t.dr) (H cD t.dr),G (C t.ln) (H cK t.ln)]::Q [A D s.k,G (C s.bs) (H cB s.bs),G (C s.ks) (H cI s.ks),G (C s.ss) (H cI s.ss),G (C s.az) (H cO s.az),A Bm s.co]::W 2 (An 1 c co::Q [A D (b.n 0),A D (b.n 1),A D (b.n 2),A D (b.n 3),A D (b.n 4),A D (b.n 5),A D (b.n 6)]::W 90 []))
def zH:ICode := .region false [o1 3 (.box (.t 0) [11,39,91]),o1 4 (.box (.t 1) [19,25,34]),o1 6 (.nlo 1)]
theorem nJ(t:Tbl)(s:St)(a:Int)   : w zH (CX (iF g Z0) [M [A D t.r0,A D t.r1,A D t.r2,A D t.r3,A D t.r4,A D t.r5,A D t.r6,G (C t.tr) (H cI t.tr),G (C t.ws) (H cW t.ws),G (C t.ar) (H AH t.ar),G (C t.po) (H p t.po),G (C t.fl) (H cF t.fl),G (C t.zo) (H cZ t.zo),G (C t.sa) (H AU t.sa),G (C t.la) (H cL t.la),G (C t.ra) (H cR t.ra),G (C t.dr) (H cD t.dr),G (C t.ln) (H cK t.ln)],M [A D s.k,G (C s.bs) (H cB s.bs),G (C s.ks) (H cI s.ks),G (C s.ss) (H cI s.ss),G (C s.az) (H cO s.az),A Bm s.co],A D a]) .norm (Ank t s a):=B Bw [] [2,3,4] a0
def zI:ICode := .region false [o1 11 (.adr 3 3 8),o1 12 (.ld 11 3 1 true),o1 13 (.len (.t 12)),o1 14 (.mks [.bool false] (.t 13)),⟨some 7,.tra 14,none,[47,60,61,63,70,96]⟩]
theorem nK(t:Tbl)(s:St)(a:Int)(b:0<=(C t.ws:Int)/\(C t.ws:Int)<=1048576):w zI (Ank t s a) .norm (Og t s a (L (C t.ws)) (CE [I false] (L (C t.ws)))):=B Bw [] [2,3,4,7] (Bp b)
def OZ:ICode:=CG Z0 96 14
section
variable(t:Tbl)(s:St)(bi:Int)(a:Nat)(co:u)
theorem YR(c1:E (bi<0)=true):w OZ (Og t s bi a co) .ret (S1 a co):=B Bw [q,q,q] [6] (Im c1 GJ GJ)
theorem YS(c1:E (bi<0)=false)(c2:E (bi>=(C s.bs:Int))=true):w OZ (Og t s bi a co) .ret (S1 a co):=B Bw [Y,q,q] [6] (Im c1 c2 GJ)
theorem YT(b:El)(c1:E (bi<0)=false)(c2:E (bi>=(C s.bs:Int))=false)(c3:(b.n 0==0)=true)(c:0<=bi/\bi<C s.bs)(d:Ae (R 0 (R (L bi*7) (H cB s.bs))) 0 1 true=some (A D (b.n 0))):w OZ (Og t s bi a co) .ret (S1 a co):=B Bw [Y,Y,.v (A D (b.n 0)),q] [6] (GK c1 c2 c d c3)
theorem YU(b:El)(c1:E (bi<0)=false)(c2:E (bi>=(C s.bs:Int))=false)(c3:(b.n 0==0)=false)(c:0<=bi/\bi<C s.bs)(d:Ae (R 0 (R (L bi*7) (H cB s.bs))) 0 1 true=some (A D (b.n 0))):w OZ (Og t s bi a co) .norm (Og t s bi a co):=B Bw [Y,Y,.v (A D (b.n 0)),Y] [2,3,4,7] (GK c1 c2 c d c3)
end
def eK:ICode := .region false [o1 34 (.adr 4 4 1),o1 35 (.ld 34 4 1 true),oM 36 2,o1 37 (.ixa 35 (.t 36) 7),o1 38 (.ld 37 37 7 false),o1 8 (.new [.int .i64 0,.int .i64 0,.int .i64 0,.int .i64 0,.int .i64 0,.int .i64 0,.int .i64 0] [51,77,85]),oN (.st 8 8 7 (.t 38))]
theorem nL(t:Tbl)(s:St)(a:Int)(c:Nat)(co:u)(b:El)(d:0<=a/\a<C s.bs)(e:Ae (R (L a*7) (H cB s.bs)) 0 7 false=some (M [A D (b.n 0),A D (b.n 1),A D (b.n 2),A D (b.n 3),A D (b.n 4),A D (b.n 5),A D (b.n 6)])):w eK (Og t s a c co) .norm (tT t s a b c co):=B Bw [.v (M [A D (b.n 0),A D (b.n 1),A D (b.n 2),A D (b.n 3),A D (b.n 4),A D (b.n 5),A D (b.n 6)])] [2,3,4,7,8] (GY d e)
def Fj(t:Tbl)(s:St)(a:Int)(b:El)(c:Nat)(co:u)(i:Int):V:=W 2 (vi a::Q [A D t.r0,A D t.r1,A D t.r2,A D t.r3,A D t.r4,A D t.r5,A D t.r6,G (C t.tr) (H cI t.tr),G (C t.ws) (H cW t.ws),G (C t.ar) (H AH t.ar),G (C t.po) (H p t.po),G (C t.fl) (H cF t.fl),G (C t.zo) (H cZ t.zo),G (C t.sa) (H AU t.sa),G (C t.la) (H cL t.la),G (C t.ra) (H cR t.ra),G (C t.dr) (H cD t.dr),G (C t.ln) (H cK t.ln)]::Q [A D s.k,G (C s.bs) (H cB s.bs),G (C s.ks) (H cI s.ks),G (C s.ss) (H cI s.ss),G (C s.az) (H cO s.az),A Bm s.co]::W 2 (An 1 c co::Q [A D (b.n 0),A D (b.n 1),A D (b.n 2),A D (b.n 3),A D (b.n 4),A D (b.n 5),A D (b.n 6)]::W 31 (X (G (C t.ws) (H cW t.ws))::vi (C t.ws:Int)::vi i::W 56 [])))
def tU:ICode := .region false [o1 39 (.adr 3 3 8),o1 40 (.ld 39 3 1 true),o1 41 (.len (.t 40)),o1 42 (.mov (.c (.int .i64 0)))]
theorem tV(t:Tbl)(s:St)(a:Int)(b:El)(c:Nat)(co:u)   : w tU (tT t s a b c co) .norm (Fj t s a b c co 0):=B Bw [] UV a0
def I_:ICode:=CG Z0 91 500
section
variable(t:Tbl)(s:St)(h:Int)(b:El)(d:Nat)(co:u)(i:Int)
theorem eL(z g c:Bool)(e:El)(v:Int)(a x:u)(c1:E (i<C t.ws)=true)(c2:(e.n 1==b.n 2)=true)(c3:c=true)(c4:(e.n 0==2)=true)(F:E (v>0)=true)(j:0<=i/\i<C t.ws)(f:0<=i/\i<d)(m:Ae (R (L i*13) (H cW t.ws)) 0 13 false=some (M [.str e.s,A D (e.n 0),A D (e.n 1),A D (e.n 2),A D (e.n 3),A D (e.n 4),A D (e.n 5),A D (e.n 6),A D (e.n 7),A D (e.n 8),A D (e.n 9),A D (e.n 10),A D (e.n 11)]))(o:RQ 54 [M [A D s.k,G (C s.bs) (H cB s.bs),G (C s.ks) (H cI s.ks),G (C s.ss) (H cI s.ss),G (C s.az) (H cO s.az),A Bm s.co],A D i] (I g))(p:BE co (L i*1) [I (!g)]=some a)(y:Ae a (L i*1) 1 true=some (I c))(K:RQ 56 [M [A D (e.n 4),A D (e.n 5)],M [A D (e.n 2),A D (e.n 3)]] (M [A D (J D ((e.n 4)-(e.n 2))),A D (J D ((e.n 5)-(e.n 3)))]))(N:RQ 56 [M [A D (b.n 3),A D (b.n 4)],M [A D (e.n 2),A D (e.n 3)]] (M [A D (J D ((b.n 3)-(e.n 2))),A D (J D ((b.n 4)-(e.n 3)))]))(O:RQ 55 [M [A D (J D ((e.n 4)-(e.n 2))),A D (J D ((e.n 5)-(e.n 3)))],M [A D (J D ((b.n 3)-(e.n 2))),A D (J D ((b.n 4)-(e.n 3)))]] (A D v))(P:RQ 57 [M [A D (b.n 3),A D (b.n 4)],M [A D (e.n 2),A D (e.n 3)],M [A D (e.n 4),A D (e.n 5)],A D t.r0] (I z))(Q:BE a (L i*1) [I (!z)]=some x):w I_ (Fj t s h b d co i) .norm (Fj t s h b d x (J D (i+1))):=B Bw [q,.v (M [.str e.s,A D (e.n 0),A D (e.n 1),A D (e.n 2),A D (e.n 3),A D (e.n 4),A D (e.n 5),A D (e.n 6),A D (e.n 7),A D (e.n 8),A D (e.n 9),A D (e.n 10),A D (e.n 11)]),q,.r (I g),.l a,.v (I c),q,q,.r (M [A D (J D ((e.n 4)-(e.n 2))),A D (J D ((e.n 5)-(e.n 3)))]),.r (M [A D (J D ((b.n 3)-(e.n 2))),A D (J D ((b.n 4)-(e.n 3)))]),.r (A D v),q,.r (I z),.l x] UV (LX c1 j m c2 o f p f (Ig y c3 c4 K N O F P f Q))
theorem eM(g c:Bool)(e:El)(v:Int)(a x:u)(c1:E (i<C t.ws)=true)(c2:(e.n 1==b.n 2)=true)(c3:c=true)(c4:(e.n 0==2)=true)(F:E (v>0)=false)(j:0<=i/\i<C t.ws)(f:0<=i/\i<d)(m:Ae (R (L i*13) (H cW t.ws)) 0 13 false=some (M [.str e.s,A D (e.n 0),A D (e.n 1),A D (e.n 2),A D (e.n 3),A D (e.n 4),A D (e.n 5),A D (e.n 6),A D (e.n 7),A D (e.n 8),A D (e.n 9),A D (e.n 10),A D (e.n 11)]))(o:RQ 54 [M [A D s.k,G (C s.bs) (H cB s.bs),G (C s.ks) (H cI s.ks),G (C s.ss) (H cI s.ss),G (C s.az) (H cO s.az),A Bm s.co],A D i] (I g))(p:BE co (L i*1) [I (!g)]=some a)(y:Ae a (L i*1) 1 true=some (I c))(K:RQ 56 [M [A D (e.n 4),A D (e.n 5)],M [A D (e.n 2),A D (e.n 3)]] (M [A D (J D ((e.n 4)-(e.n 2))),A D (J D ((e.n 5)-(e.n 3)))]))(N:RQ 56 [M [A D (b.n 3),A D (b.n 4)],M [A D (e.n 2),A D (e.n 3)]] (M [A D (J D ((b.n 3)-(e.n 2))),A D (J D ((b.n 4)-(e.n 3)))]))(O:RQ 55 [M [A D (J D ((e.n 4)-(e.n 2))),A D (J D ((e.n 5)-(e.n 3)))],M [A D (J D ((b.n 3)-(e.n 2))),A D (J D ((b.n 4)-(e.n 3)))]] (A D v))(P:BE a (L i*1) [I false]=some x):w I_ (Fj t s h b d co i) .norm (Fj t s h b d x (J D (i+1))):=B Bw [q,.v (M [.str e.s,A D (e.n 0),A D (e.n 1),A D (e.n 2),A D (e.n 3),A D (e.n 4),A D (e.n 5),A D (e.n 6),A D (e.n 7),A D (e.n 8),A D (e.n 9),A D (e.n 10),A D (e.n 11)]),q,.r (I g),.l a,.v (I c),q,q,.r (M [A D (J D ((e.n 4)-(e.n 2))),A D (J D ((e.n 5)-(e.n 3)))]),.r (M [A D (J D ((b.n 3)-(e.n 2))),A D (J D ((b.n 4)-(e.n 3)))]),.r (A D v),Y,.l x] UV (LX c1 j m c2 o f p f (Y3 y c3 c4 K N O F f P))
theorem eO(g c:Bool)(e:El)(a:u)(c1:E (i<C t.ws)=true)(c2:(e.n 1==b.n 2)=true)(c3:c=true)(c4:(e.n 0==2)=false)(j:0<=i/\i<C t.ws)(f:0<=i/\i<d)(m:Ae (R (L i*13) (H cW t.ws)) 0 13 false=some (M [.str e.s,A D (e.n 0),A D (e.n 1),A D (e.n 2),A D (e.n 3),A D (e.n 4),A D (e.n 5),A D (e.n 6),A D (e.n 7),A D (e.n 8),A D (e.n 9),A D (e.n 10),A D (e.n 11)]))(o:RQ 54 [M [A D s.k,G (C s.bs) (H cB s.bs),G (C s.ks) (H cI s.ks),G (C s.ss) (H cI s.ss),G (C s.az) (H cO s.az),A Bm s.co],A D i] (I g))(p:BE co (L i*1) [I (!g)]=some a)(y:Ae a (L i*1) 1 true=some (I c)):w I_ (Fj t s h b d co i) .norm (Fj t s h b d a (J D (i+1))):=B Bw [q,.v (M [.str e.s,A D (e.n 0),A D (e.n 1),A D (e.n 2),A D (e.n 3),A D (e.n 4),A D (e.n 5),A D (e.n 6),A D (e.n 7),A D (e.n 8),A D (e.n 9),A D (e.n 10),A D (e.n 11)]),q,.r (I g),.l a,.v (I c),q,Y] UV (Lk c1 j m c2 o f p f y c3 c4)
theorem Rj(g c:Bool)(e:El)(a:u)(c1:E (i<C t.ws)=true)(c2:(e.n 1==b.n 2)=true)(c3:c=false)(j:0<=i/\i<C t.ws)(f:0<=i/\i<d)(m:Ae (R (L i*13) (H cW t.ws)) 0 13 false=some (M [.str e.s,A D (e.n 0),A D (e.n 1),A D (e.n 2),A D (e.n 3),A D (e.n 4),A D (e.n 5),A D (e.n 6),A D (e.n 7),A D (e.n 8),A D (e.n 9),A D (e.n 10),A D (e.n 11)]))(o:RQ 54 [M [A D s.k,G (C s.bs) (H cB s.bs),G (C s.ks) (H cI s.ks),G (C s.ss) (H cI s.ss),G (C s.az) (H cO s.az),A Bm s.co],A D i] (I g))(p:BE co (L i*1) [I (!g)]=some a)(y:Ae a (L i*1) 1 true=some (I c)):w I_ (Fj t s h b d co i) .norm (Fj t s h b d a (J D (i+1))):=B Bw [q,.v (M [.str e.s,A D (e.n 0),A D (e.n 1),A D (e.n 2),A D (e.n 3),A D (e.n 4),A D (e.n 5),A D (e.n 6),A D (e.n 7),A D (e.n 8),A D (e.n 9),A D (e.n 10),A D (e.n 11)]),q,.r (I g),.l a,.v (I c),Y,Y] UV (Lk c1 j m c2 o f p f y c3 Dr)
theorem Rk(c:Bool)(e:El)(a:u)(c1:E (i<C t.ws)=true)(c2:(e.n 1==b.n 2)=false)(c3:c=false)(j:0<=i/\i<C t.ws)(f:0<=i/\i<d)(m:Ae (R (L i*13) (H cW t.ws)) 0 13 false=some (M [.str e.s,A D (e.n 0),A D (e.n 1),A D (e.n 2),A D (e.n 3),A D (e.n 4),A D (e.n 5),A D (e.n 6),A D (e.n 7),A D (e.n 8),A D (e.n 9),A D (e.n 10),A D (e.n 11)]))(o:BE co (L i*1) [I false]=some a)(p:Ae a (L i*1) 1 true=some (I c)):w I_ (Fj t s h b d co i) .norm (Fj t s h b d a (J D (i+1))):=B Bw [q,.v (M [.str e.s,A D (e.n 0),A D (e.n 1),A D (e.n 2),A D (e.n 3),A D (e.n 4),A D (e.n 5),A D (e.n 6),A D (e.n 7),A D (e.n 8),A D (e.n 9),A D (e.n 10),A D (e.n 11)]),Y,.l a,.v (I c),Y,Y] UV (Ig c1 j m c2 f o f p c3 Dr)
theorem eP(c1:E (i<C t.ws)=false):w I_ (Fj t s h b d co i) xZ0 (Fj t s h b d co i):=B Bw [Y] UV (Bp c1)
end
def X4:ICode := .seq (.region false [o1 98 (.tra 7),o1 6 (.tra 98)]) (.ret)
theorem eQ(t:Tbl)(s:St)(c:Int)(b:El)(a:Nat)(co:u)   : w X4 (tT t s c b a co) .ret (S1 a co):=B Bw [] [6] a0
def Anl(t:Tbl)(s:St)(a:Int):V:=W 2 (vi a::Q [A D t.r0,A D t.r1,A D t.r2,A D t.r3,A D t.r4,A D t.r5,A D t.r6,G (C t.tr) (H cI t.tr),G (C t.ws) (H cW t.ws),G (C t.ar) (H AH t.ar),G (C t.po) (H p t.po),G (C t.fl) (H cF t.fl),G (C t.zo) (H cZ t.zo),G (C t.sa) (H AU t.sa),G (C t.la) (H cL t.la),G (C t.ra) (H cR t.ra),G (C t.dr) (H cD t.dr),G (C t.ln) (H cK t.ln)]::Q [A D s.k,G (C s.bs) (H cB s.bs),G (C s.ks) (H cI s.ks),G (C s.ss) (H cI s.ss),G (C s.az) (H cO s.az),A Bm s.co]::W 106 [])
def S2(a:Nat)(co:u):V:=W 6 (An 1 a co::W 104 [])
def Oh(t:Tbl)(s:St)(a:Int)(b:Nat)(co:u):V:=W 2 (vi a::Q [A D t.r0,A D t.r1,A D t.r2,A D t.r3,A D t.r4,A D t.r5,A D t.r6,G (C t.tr) (H cI t.tr),G (C t.ws) (H cW t.ws),G (C t.ar) (H AH t.ar),G (C t.po) (H p t.po),G (C t.fl) (H cF t.fl),G (C t.zo) (H cZ t.zo),G (C t.sa) (H AU t.sa),G (C t.la) (H cL t.la),G (C t.ra) (H cR t.ra),G (C t.dr) (H cD t.dr),G (C t.ln) (H cK t.ln)]::Q [A D s.k,G (C s.bs) (H cB s.bs),G (C s.ks) (H cI s.ks),G (C s.ss) (H cI s.ss),G (C s.az) (H cO s.az),A Bm s.co]::W 2 (An 1 b co::W 103 []))
def tW(t:Tbl)(s:St)(a:Int)(b:El)(c:Nat)(co:u):V:=W 2 (vi a::Q [A D t.r0,A D t.r1,A D t.r2,A D t.r3,A D t.r4,A D t.r5,A D t.r6,G (C t.tr) (H cI t.tr),G (C t.ws) (H cW t.ws),G (C t.ar) (H AH t.ar),G (C t.po) (H p t.po),G (C t.fl) (H cF t.fl),G (C t.zo) (H cZ t.zo),G (C t.sa) (H AU t.sa),G (C t.la) (H cL t.la),G (C t.ra) (H cR t.ra),G (C t.dr) (H cD t.dr),G (C t.ln) (H cK t.ln)]::Q [A D s.k,G (C s.bs) (H cB s.bs),G (C s.ks) (H cI s.ks),G (C s.ss) (H cI s.ss),G (C s.az) (H cO s.az),A Bm s.co]::W 2 (An 1 c co::Q [A D (b.n 0),A D (b.n 1),A D (b.n 2),A D (b.n 3),A D (b.n 4),A D (b.n 5),A D (b.n 6)]::W 102 []))
def zJ:ICode := .region false [o1 3 (.box (.t 0) [11,40,46,104]),o1 4 (.box (.t 1) [19,25,34,60,65]),o1 6 (.nlo 1)]
theorem nM(t:Tbl)(s:St)(a:Int)   : w zJ (CX (iF g Z1) [M [A D t.r0,A D t.r1,A D t.r2,A D t.r3,A D t.r4,A D t.r5,A D t.r6,G (C t.tr) (H cI t.tr),G (C t.ws) (H cW t.ws),G (C t.ar) (H AH t.ar),G (C t.po) (H p t.po),G (C t.fl) (H cF t.fl),G (C t.zo) (H cZ t.zo),G (C t.sa) (H AU t.sa),G (C t.la) (H cL t.la),G (C t.ra) (H cR t.ra),G (C t.dr) (H cD t.dr),G (C t.ln) (H cK t.ln)],M [A D s.k,G (C s.bs) (H cB s.bs),G (C s.ks) (H cI s.ks),G (C s.ss) (H cI s.ss),G (C s.az) (H cO s.az),A Bm s.co],A D a]) .norm (Anl t s a):=B Bw [] [2,3,4] a0
def zK:ICode := .region false [o1 11 (.adr 3 3 8),o1 12 (.ld 11 3 1 true),o1 13 (.len (.t 12)),o1 14 (.mks [.bool false] (.t 13)),⟨some 7,.tra 14,none,[51,73,77,79,81,109]⟩]
theorem nN(t:Tbl)(s:St)(a:Int)(b:0<=(C t.ws:Int)/\(C t.ws:Int)<=1048576):w zK (Anl t s a) .norm (Oh t s a (L (C t.ws)) (CE [I false] (L (C t.ws)))):=B Bw [] [2,3,4,7] (Bp b)
def O':ICode:=CG Z1 96 14
section
variable(t:Tbl)(s:St)(bi:Int)(a:Nat)(co:u)
theorem YV(c1:E (bi<0)=true):w O' (Oh t s bi a co) .ret (S2 a co):=B Bw [q,q,q] [6] (Im c1 GJ GJ)
theorem YW(c1:E (bi<0)=false)(c2:E (bi>=(C s.bs:Int))=true):w O' (Oh t s bi a co) .ret (S2 a co):=B Bw [Y,q,q] [6] (Im c1 c2 GJ)
theorem YX(b:El)(c1:E (bi<0)=false)(c2:E (bi>=(C s.bs:Int))=false)(c3:(b.n 0==0)=true)(c:0<=bi/\bi<C s.bs)(d:Ae (R 0 (R (L bi*7) (H cB s.bs))) 0 1 true=some (A D (b.n 0))):w O' (Oh t s bi a co) .ret (S2 a co):=B Bw [Y,Y,.v (A D (b.n 0)),q] [6] (GK c1 c2 c d c3)
theorem YY(b:El)(c1:E (bi<0)=false)(c2:E (bi>=(C s.bs:Int))=false)(c3:(b.n 0==0)=false)(c:0<=bi/\bi<C s.bs)(d:Ae (R 0 (R (L bi*7) (H cB s.bs))) 0 1 true=some (A D (b.n 0))):w O' (Oh t s bi a co) .norm (Oh t s bi a co):=B Bw [Y,Y,.v (A D (b.n 0)),Y] [2,3,4,7] (GK c1 c2 c d c3)
end
def eR:ICode := .region false [o1 34 (.adr 4 4 1),o1 35 (.ld 34 4 1 true),oM 36 2,o1 37 (.ixa 35 (.t 36) 7),o1 38 (.ld 37 37 7 false),o1 8 (.new [.int .i64 0,.int .i64 0,.int .i64 0,.int .i64 0,.int .i64 0,.int .i64 0,.int .i64 0] [55,89,98]),oN (.st 8 8 7 (.t 38))]
theorem nO(t:Tbl)(s:St)(a:Int)(c:Nat)(co:u)(b:El)(d:0<=a/\a<C s.bs)(e:Ae (R (L a*7) (H cB s.bs)) 0 7 false=some (M [A D (b.n 0),A D (b.n 1),A D (b.n 2),A D (b.n 3),A D (b.n 4),A D (b.n 5),A D (b.n 6)])):w eR (Oh t s a c co) .norm (tW t s a b c co):=B Bw [.v (M [A D (b.n 0),A D (b.n 1),A D (b.n 2),A D (b.n 3),A D (b.n 4),A D (b.n 5),A D (b.n 6)])] [2,3,4,7,8] (GY d e)
def EK(t:Tbl)(s:St)(a:Int)(b:El)(c:Nat)(co:u)(i:Int):V:=W 2 (vi a::Q [A D t.r0,A D t.r1,A D t.r2,A D t.r3,A D t.r4,A D t.r5,A D t.r6,G (C t.tr) (H cI t.tr),G (C t.ws) (H cW t.ws),G (C t.ar) (H AH t.ar),G (C t.po) (H p t.po),G (C t.fl) (H cF t.fl),G (C t.zo) (H cZ t.zo),G (C t.sa) (H AU t.sa),G (C t.la) (H cL t.la),G (C t.ra) (H cR t.ra),G (C t.dr) (H cD t.dr),G (C t.ln) (H cK t.ln)]::Q [A D s.k,G (C s.bs) (H cB s.bs),G (C s.ks) (H cI s.ks),G (C s.ss) (H cI s.ss),G (C s.az) (H cO s.az),A Bm s.co]::W 2 (An 1 c co::Q [A D (b.n 0),A D (b.n 1),A D (b.n 2),A D (b.n 3),A D (b.n 4),A D (b.n 5),A D (b.n 6)]::vi i::W 101 []))
def tX:ICode := .region false [o1 9 (.mov (.c (.int .i64 0)))]
theorem tY(t:Tbl)(s:St)(a:Int)(b:El)(c:Nat)(co:u)   : w tX (tW t s a b c co) .norm (EK t s a b c co 0):=B Bw [] Tn a0
def Iq:ICode:=CG Z1 91 500
section
variable(t:Tbl)(s:St)(h:Int)(b:El)(c:Nat)(co:u)(i:Int)
theorem eT(F av f:Bool)(e:El)(v:Int)(a g:u)(c1:E (i<C t.ws)=true)(c2:(e.n 1==b.n 2)=true)(c3:E (i>=(C s.az:Int))=false)(c4:(e.n 0==2)=true)(x:f=true)(G:E (v>0)=true)(k:0<=i/\i<C t.ws)(j:0<=i/\i<C s.az)(d:0<=i/\i<c)(m:Ae (R (L i*13) (H cW t.ws)) 0 13 false=some (M [.str e.s,A D (e.n 0),A D (e.n 1),A D (e.n 2),A D (e.n 3),A D (e.n 4),A D (e.n 5),A D (e.n 6),A D (e.n 7),A D (e.n 8),A D (e.n 9),A D (e.n 10),A D (e.n 11)]))(o:Ae (R (L i*1) (H cO s.az)) 0 1 true=some (I av))(p:BE co (L i*1) [I (!av)]=some a)(y:Ae a (L i*1) 1 true=some (I f))(z:RQ 59 [M [A D (e.n 4),A D (e.n 5)],M [A D (e.n 2),A D (e.n 3)]] (M [A D (J D ((e.n 4)-(e.n 2))),A D (J D ((e.n 5)-(e.n 3)))]))(K:RQ 59 [M [A D (b.n 3),A D (b.n 4)],M [A D (e.n 2),A D (e.n 3)]] (M [A D (J D ((b.n 3)-(e.n 2))),A D (J D ((b.n 4)-(e.n 3)))]))(N:RQ 58 [M [A D (J D ((e.n 4)-(e.n 2))),A D (J D ((e.n 5)-(e.n 3)))],M [A D (J D ((b.n 3)-(e.n 2))),A D (J D ((b.n 4)-(e.n 3)))]] (A D v))(O:RQ 60 [M [A D (b.n 3),A D (b.n 4)],M [A D (e.n 2),A D (e.n 3)],M [A D (e.n 4),A D (e.n 5)],A D t.r0] (I F))(P:BE a (L i*1) [I (!F)]=some g):w Iq (EK t s h b c co i) .norm (EK t s h b c g (J D (i+1))):=B Bw [q,.v (M [.str e.s,A D (e.n 0),A D (e.n 1),A D (e.n 2),A D (e.n 3),A D (e.n 4),A D (e.n 5),A D (e.n 6),A D (e.n 7),A D (e.n 8),A D (e.n 9),A D (e.n 10),A D (e.n 11)]),q,Y,.v (I av),q,Y,.l a,q,.v (I f),q,.r (M [A D (J D ((e.n 4)-(e.n 2))),A D (J D ((e.n 5)-(e.n 3)))]),.r (M [A D (J D ((b.n 3)-(e.n 2))),A D (J D ((b.n 4)-(e.n 3)))]),.r (A D v),q,.r (I F),.l g] Tn (ac c1 (ac k (LX m c2 c3 j o c2 c3 d (Jc p c4 d y x z K N G O d P))))
theorem eU(av f:Bool)(e:El)(v:Int)(a g:u)(c1:E (i<C t.ws)=true)(c2:(e.n 1==b.n 2)=true)(c3:E (i>=(C s.az:Int))=false)(c4:(e.n 0==2)=true)(x:f=true)(G:E (v>0)=false)(k:0<=i/\i<C t.ws)(j:0<=i/\i<C s.az)(d:0<=i/\i<c)(m:Ae (R (L i*13) (H cW t.ws)) 0 13 false=some (M [.str e.s,A D (e.n 0),A D (e.n 1),A D (e.n 2),A D (e.n 3),A D (e.n 4),A D (e.n 5),A D (e.n 6),A D (e.n 7),A D (e.n 8),A D (e.n 9),A D (e.n 10),A D (e.n 11)]))(o:Ae (R (L i*1) (H cO s.az)) 0 1 true=some (I av))(p:BE co (L i*1) [I (!av)]=some a)(y:Ae a (L i*1) 1 true=some (I f))(z:RQ 59 [M [A D (e.n 4),A D (e.n 5)],M [A D (e.n 2),A D (e.n 3)]] (M [A D (J D ((e.n 4)-(e.n 2))),A D (J D ((e.n 5)-(e.n 3)))]))(K:RQ 59 [M [A D (b.n 3),A D (b.n 4)],M [A D (e.n 2),A D (e.n 3)]] (M [A D (J D ((b.n 3)-(e.n 2))),A D (J D ((b.n 4)-(e.n 3)))]))(N:RQ 58 [M [A D (J D ((e.n 4)-(e.n 2))),A D (J D ((e.n 5)-(e.n 3)))],M [A D (J D ((b.n 3)-(e.n 2))),A D (J D ((b.n 4)-(e.n 3)))]] (A D v))(O:BE a (L i*1) [I false]=some g):w Iq (EK t s h b c co i) .norm (EK t s h b c g (J D (i+1))):=B Bw [q,.v (M [.str e.s,A D (e.n 0),A D (e.n 1),A D (e.n 2),A D (e.n 3),A D (e.n 4),A D (e.n 5),A D (e.n 6),A D (e.n 7),A D (e.n 8),A D (e.n 9),A D (e.n 10),A D (e.n 11)]),q,Y,.v (I av),q,Y,.l a,q,.v (I f),q,.r (M [A D (J D ((e.n 4)-(e.n 2))),A D (J D ((e.n 5)-(e.n 3)))]),.r (M [A D (J D ((b.n 3)-(e.n 2))),A D (J D ((b.n 4)-(e.n 3)))]),.r (A D v),Y,.l g] Tn (ac c1 (LX k m c2 c3 j o c2 c3 (Jc d p c4 d y x z K N G d O)))
theorem eV(av f:Bool)(e:El)(a g:u)(c1:E (i<C t.ws)=true)(c2:(e.n 1==b.n 2)=true)(c3:E (i>=(C s.az:Int))=false)(c4:(e.n 0==2)=true)(x:f=false)(k:0<=i/\i<C t.ws)(j:0<=i/\i<C s.az)(d:0<=i/\i<c)(m:Ae (R (L i*13) (H cW t.ws)) 0 13 false=some (M [.str e.s,A D (e.n 0),A D (e.n 1),A D (e.n 2),A D (e.n 3),A D (e.n 4),A D (e.n 5),A D (e.n 6),A D (e.n 7),A D (e.n 8),A D (e.n 9),A D (e.n 10),A D (e.n 11)]))(o:Ae (R (L i*1) (H cO s.az)) 0 1 true=some (I av))(p:BE co (L i*1) [I (!av)]=some a)(y:Ae a (L i*1) 1 true=some (I f))(z:BE a (L i*1) [I false]=some g):w Iq (EK t s h b c co i) .norm (EK t s h b c g (J D (i+1))):=B Bw [q,.v (M [.str e.s,A D (e.n 0),A D (e.n 1),A D (e.n 2),A D (e.n 3),A D (e.n 4),A D (e.n 5),A D (e.n 6),A D (e.n 7),A D (e.n 8),A D (e.n 9),A D (e.n 10),A D (e.n 11)]),q,Y,.v (I av),q,Y,.l a,q,.v (I f),Y,Y,.l g] Tn (LX c1 k m c2 c3 j o c2 (Ig c3 d p c4 d y x Dr d z))
theorem Rl(av:Bool)(e:El)(a:u)(c1:E (i<C t.ws)=true)(c2:(e.n 1==b.n 2)=true)(c3:E (i>=(C s.az:Int))=false)(c4:(e.n 0==2)=false)(k:0<=i/\i<C t.ws)(j:0<=i/\i<C s.az)(d:0<=i/\i<c)(m:Ae (R (L i*13) (H cW t.ws)) 0 13 false=some (M [.str e.s,A D (e.n 0),A D (e.n 1),A D (e.n 2),A D (e.n 3),A D (e.n 4),A D (e.n 5),A D (e.n 6),A D (e.n 7),A D (e.n 8),A D (e.n 9),A D (e.n 10),A D (e.n 11)]))(o:Ae (R (L i*1) (H cO s.az)) 0 1 true=some (I av))(p:BE co (L i*1) [I (!av)]=some a):w Iq (EK t s h b c co i) .norm (EK t s h b c a (J D (i+1))):=B Bw [q,.v (M [.str e.s,A D (e.n 0),A D (e.n 1),A D (e.n 2),A D (e.n 3),A D (e.n 4),A D (e.n 5),A D (e.n 6),A D (e.n 7),A D (e.n 8),A D (e.n 9),A D (e.n 10),A D (e.n 11)]),q,Y,.v (I av),q,Y,.l a,Y] Tn (Jc c1 k m c2 c3 j o c2 c3 d p c4)
theorem YZ(f:Bool)(e:El)(a g:u)(c1:E (i<C t.ws)=true)(c2:(e.n 1==b.n 2)=false)(c3:(e.n 0==2)=true)(c4:f=false)(k:0<=i/\i<C t.ws)(j:0<=i/\i<c)(d:Ae (R (L i*13) (H cW t.ws)) 0 13 false=some (M [.str e.s,A D (e.n 0),A D (e.n 1),A D (e.n 2),A D (e.n 3),A D (e.n 4),A D (e.n 5),A D (e.n 6),A D (e.n 7),A D (e.n 8),A D (e.n 9),A D (e.n 10),A D (e.n 11)]))(m:BE co (L i*1) [I false]=some a)(o:Ae a (L i*1) 1 true=some (I f))(p:BE a (L i*1) [I false]=some g):w Iq (EK t s h b c co i) .norm (EK t s h b c g (J D (i+1))):=B Bw [q,.v (M [.str e.s,A D (e.n 0),A D (e.n 1),A D (e.n 2),A D (e.n 3),A D (e.n 4),A D (e.n 5),A D (e.n 6),A D (e.n 7),A D (e.n 8),A D (e.n 9),A D (e.n 10),A D (e.n 11)]),Y,.l a,q,.v (I f),Y,Y,.l g] Tn (LX c1 k d c2 j m c3 j (GK o c4 Dr j p))
theorem Y_(e:El)(a:u)(c1:E (i<C t.ws)=true)(c2:(e.n 1==b.n 2)=false)(c3:(e.n 0==2)=false)(k:0<=i/\i<C t.ws)(j:0<=i/\i<c)(d:Ae (R (L i*13) (H cW t.ws)) 0 13 false=some (M [.str e.s,A D (e.n 0),A D (e.n 1),A D (e.n 2),A D (e.n 3),A D (e.n 4),A D (e.n 5),A D (e.n 6),A D (e.n 7),A D (e.n 8),A D (e.n 9),A D (e.n 10),A D (e.n 11)]))(m:BE co (L i*1) [I false]=some a):w Iq (EK t s h b c co i) .norm (EK t s h b c a (J D (i+1))):=B Bw [q,.v (M [.str e.s,A D (e.n 0),A D (e.n 1),A D (e.n 2),A D (e.n 3),A D (e.n 4),A D (e.n 5),A D (e.n 6),A D (e.n 7),A D (e.n 8),A D (e.n 9),A D (e.n 10),A D (e.n 11)]),Y,.l a,Y] Tn (Jn c1 k d c2 j m c3)
theorem Za(c1:E (i<C t.ws)=false):w Iq (EK t s h b c co i) xZ0 (EK t s h b c co i):=B Bw [Y] Tn (Bp c1)
end
def X5:ICode := .seq (.region false [o1 110 (.tra 7),o1 6 (.tra 110)]) (.ret)
theorem eX(t:Tbl)(s:St)(c:Int)(b:El)(a:Nat)(co:u)   : w X5 (tW t s c b a co) .ret (S2 a co):=B Bw [] [6] a0
theorem HW{os:List Bool}{i:Nat}(h:i<C os)(x:Bool):Ae (H cO (os.set i x)) (i*1) 1 true=some (I x):=by
 have g:=DP (c:=cO) (k:=1) (fun _=>rfl) (es:=os.set i x) (i:=i) (by rw[Az];exact h) (j:=0) (by omega);rw[DF] at g;simp only[Ae,if_true,C8,Bn] at g |-;rw[g,No];rfl
theorem Anm{a b c d:Int}(f:Sm a)(hb:Sm b)(hc:Sm c)(hd:Sm d):RQ 56 [M [A D a,A D b],M [A D c,A D d]] (M [A D (J D (a-c)),A D (J D (b-d))]) /\
  RQ 59 [M [A D a,A D b],M [A D c,A D d]] (M [A D (J D (a-c)),A D (J D (b-d))]):=by
 unfold Sm at f hb hc hd;have i:e a b=true:=C5 (by omega);have j:e c d=true:=C5 (by omega);have k:e (J D (a-c)) (J D (b-d))=true:=by
  rw[Bb (n:=a-c) (by omega) (by omega),Bb (n:=b-d) (by omega) (by omega)];exact C5 (by omega)
 have h:=xR a b c d;have g:=xZ a b c d;unfold Vt at h;unfold Vz at g;rw[i,j] at h g;simp only[Ds,k,if_true] at h g;exact⟨h,g⟩
theorem Adv(a b c d:Int):∃ v,RQ 55 [M [A D a,A D b],M [A D c,A D d]] (A D v)/\RQ 58 [M [A D a,A D b],M [A D c,A D d]] (A D v):=by
 have h:=xS a b c d;have g:=yA a b c d;unfold Vu at h;unfold V0 at g;cases f:e a b <;> rw[f] at h g
 ·exact⟨_,h,g⟩
 ·cases i:e c d <;> rw[i] at h g
  ·exact⟨_,h,g⟩
  ·exact⟨_,h,g⟩
section
variable {t:Tbl} {s:St} {bi:Int} {b:El}
theorem X6{c os:List Bool}{i:Int}(h1:w I_ (Fj t s bi b (C t.ws) (H cO os) i) .norm (Fj t s bi b (C t.ws) (H cO c) (i+1)))(h2:w Iq (EK t s bi b (C t.ws) (H cO os) i) .norm (EK t s bi b (C t.ws) (H cO c) (i+1)))(h:∃ a:List Bool,C a=C t.ws/\w (.loop I_) (Fj t s bi b (C t.ws) (H cO c) (i+1)) xZ0 (Fj t s bi b (C t.ws) (H cO a) (C t.ws))/\w (.loop Iq) (EK t s bi b (C t.ws) (H cO c) (i+1)) xZ0 (EK t s bi b (C t.ws) (H cO a) (C t.ws))):∃ a:List Bool,C a=C t.ws/\w (.loop I_) (Fj t s bi b (C t.ws) (H cO os) i) xZ0 (Fj t s bi b (C t.ws) (H cO a) (C t.ws))/\w (.loop Iq) (EK t s bi b (C t.ws) (H cO os) i) xZ0 (EK t s bi b (C t.ws) (H cO a) (C t.ws)):=by
 obtain⟨a,hl,x,y⟩:=h;exact⟨a,hl,Ay h1 x,Ay h2 y⟩
theorem Kz(o:TOk t)(hs:s.ok t.r1.toNat (C t.fl) (C t.ws))(hb:b.ok)(hc:∀ e∈t.ws,e.ok)
  (p:∀ e∈t.ws,MG 57 60 [M [A D (b.n 3),A D (b.n 4)],M [A D (e.n 2),A D (e.n 3)],M [A D (e.n 4),A D (e.n 5)],A D t.r0] [M [A D (b.n 3),A D (b.n 4)],M [A D (e.n 2),A D (e.n 3)],M [A D (e.n 4),A D (e.n 5)],A D t.r0]) :
  ∀ (d:Nat) {i:Int} {os:List Bool},i+(d:Int)=(C t.ws:Int)->0<=i->C os=C t.ws->∃ F:List Bool,C F=C t.ws/\w (.loop I_) (Fj t s bi b (C t.ws) (H cO os) i) xZ0 (Fj t s bi b (C t.ws) (H cO F) (C t.ws))/\w (.loop Iq) (EK t s bi b (C t.ws) (H cO os) i) xZ0 (EK t s bi b (C t.ws) (H cO F) (C t.ws))
 | 0,i,os,h,h0,m=>by
  have e:i=(C t.ws:Int):=by omega
  subst e;exact⟨os,m,f (eP t s bi b _ _ _ (AG (by omega))),f (Za t s bi b _ _ _ (AG (by omega)))⟩
 | d+1,i,os,h,h0,m=>by
  have Q:=o.l8;have O:=hs;obtain⟨_,_,_,_,R,_⟩:=O;have hi:i.toNat<C t.ws:=by omega
  have P:i.toNat<C s.az:=by omega
  have q:J D (i+1)=i+1:=Bb (by omega) (by omega);have hr:=CH (c:=cW) (k:=13) (fun _=>rfl) hi;have x:=Axb h0 P;have y:=ZK s i _ (AN (by omega)) ⟨by omega,by omega⟩ x;obtain⟨r,G,I⟩:=p _ (Bl hi);have u:=hc _ (Bl hi);generalize t.ws[i.toNat]=e at hr G I u;obtain⟨sa,K⟩:=Anm (u.n 4) (u.n 5) (u.n 2) (u.n 3);obtain⟨L,N⟩:=Anm (hb.n 3) (hb.n 4) (u.n 2) (u.n 3);obtain⟨v,cr,dr⟩:=Adv (J D (e.n 4-e.n 2)) (J D (e.n 5-e.n 3)) (J D (b.n 3-e.n 2)) (J D (b.n 4-e.n 3));have j:E (i<(C t.ws:Int))=true:=AN (by omega);have z:E (i>=(C s.az:Int))=false:=AG (by omega);rcases Ah (e.n 1==b.n 2) with a | a
  ·rcases Ah (s.az[i.toNat]) with l | l
   ·rcases Ah (e.n 0==2) with g | g
    ·have h1:=Rj t s bi b (C t.ws) (H cO os) i s.az[i.toNat] ((!s.az[i.toNat])) e (H cO (os.set i.toNat (!s.az[i.toNat]))) j a (by rw[l];rfl) ⟨by omega,by omega⟩ ⟨by omega,by omega⟩ hr y (De (c:=cO) (k:=1) (fun _=>rfl) (i:=i.toNat) (by omega) (!s.az[i.toNat])) (HW (by omega) (!s.az[i.toNat]));have h2:=eV t s bi b (C t.ws) (H cO os) i s.az[i.toNat] ((!s.az[i.toNat])) e (H cO (os.set i.toNat (!s.az[i.toNat]))) (H cO ((os.set i.toNat (!s.az[i.toNat])).set i.toNat false)) j a z g (by rw[l];rfl) ⟨by omega,by omega⟩ ⟨by omega,by omega⟩ ⟨by omega,by omega⟩ hr x (De (c:=cO) (k:=1) (fun _=>rfl) (i:=i.toNat) (by omega) (!s.az[i.toNat])) (HW (by omega) (!s.az[i.toNat])) (De (c:=cO) (k:=1) (fun _=>rfl) (i:=i.toNat) (by rw[Az];omega) false);rw[q] at h1 h2;rw[E9] at h2;rw[show false=(!s.az[i.toNat]) from (by first | rfl | (rw[l];rfl))] at h2
     exact X6 h1 h2 (Kz o hs hb hc p d (i:=i+1) (os:=os.set i.toNat (!s.az[i.toNat])) (by omega) (by omega) (by rw[Az];exact m))
    ·have h1:=Rj t s bi b (C t.ws) (H cO os) i s.az[i.toNat] ((!s.az[i.toNat])) e (H cO (os.set i.toNat (!s.az[i.toNat]))) j a (by rw[l];rfl) ⟨by omega,by omega⟩ ⟨by omega,by omega⟩ hr y (De (c:=cO) (k:=1) (fun _=>rfl) (i:=i.toNat) (by omega) (!s.az[i.toNat])) (HW (by omega) (!s.az[i.toNat]));have h2:=Rl t s bi b (C t.ws) (H cO os) i s.az[i.toNat] e (H cO (os.set i.toNat (!s.az[i.toNat]))) j a z g ⟨by omega,by omega⟩ ⟨by omega,by omega⟩ ⟨by omega,by omega⟩ hr x (De (c:=cO) (k:=1) (fun _=>rfl) (i:=i.toNat) (by omega) (!s.az[i.toNat]));rw[q] at h1 h2;exact X6 h1 h2 (Kz o hs hb hc p d (i:=i+1) (os:=os.set i.toNat (!s.az[i.toNat])) (by omega) (by omega) (by rw[Az];exact m))
   ·rcases Ah (e.n 0==2) with g | g
    ·rcases Ah (E (v>0)) with B | B
     ·have h1:=eL t s bi b (C t.ws) (H cO os) i r s.az[i.toNat] ((!s.az[i.toNat])) e v (H cO (os.set i.toNat (!s.az[i.toNat]))) (H cO ((os.set i.toNat (!s.az[i.toNat])).set i.toNat (!r))) j a (by rw[l];rfl) g B ⟨by omega,by omega⟩ ⟨by omega,by omega⟩ hr y (De (c:=cO) (k:=1) (fun _=>rfl) (i:=i.toNat) (by omega) (!s.az[i.toNat])) (HW (by omega) (!s.az[i.toNat])) sa L cr G (De (c:=cO) (k:=1) (fun _=>rfl) (i:=i.toNat) (by rw[Az];omega) (!r));have h2:=eT t s bi b (C t.ws) (H cO os) i r s.az[i.toNat] ((!s.az[i.toNat])) e v (H cO (os.set i.toNat (!s.az[i.toNat]))) (H cO ((os.set i.toNat (!s.az[i.toNat])).set i.toNat (!r))) j a z g (by rw[l];rfl) B ⟨by omega,by omega⟩ ⟨by omega,by omega⟩ ⟨by omega,by omega⟩ hr x (De (c:=cO) (k:=1) (fun _=>rfl) (i:=i.toNat) (by omega) (!s.az[i.toNat])) (HW (by omega) (!s.az[i.toNat])) K N dr I (De (c:=cO) (k:=1) (fun _=>rfl) (i:=i.toNat) (by rw[Az];omega) (!r));rw[q] at h1 h2;rw[E9] at h1;rw[E9] at h2;exact X6 h1 h2 (Kz o hs hb hc p d (i:=i+1) (os:=os.set i.toNat (!r)) (by omega) (by omega) (by rw[Az];exact m))
     ·have h1:=eM t s bi b (C t.ws) (H cO os) i s.az[i.toNat] ((!s.az[i.toNat])) e v (H cO (os.set i.toNat (!s.az[i.toNat]))) (H cO ((os.set i.toNat (!s.az[i.toNat])).set i.toNat false)) j a (by rw[l];rfl) g B ⟨by omega,by omega⟩ ⟨by omega,by omega⟩ hr y (De (c:=cO) (k:=1) (fun _=>rfl) (i:=i.toNat) (by omega) (!s.az[i.toNat])) (HW (by omega) (!s.az[i.toNat])) sa L cr (De (c:=cO) (k:=1) (fun _=>rfl) (i:=i.toNat) (by rw[Az];omega) false);have h2:=eU t s bi b (C t.ws) (H cO os) i s.az[i.toNat] ((!s.az[i.toNat])) e v (H cO (os.set i.toNat (!s.az[i.toNat]))) (H cO ((os.set i.toNat (!s.az[i.toNat])).set i.toNat false)) j a z g (by rw[l];rfl) B ⟨by omega,by omega⟩ ⟨by omega,by omega⟩ ⟨by omega,by omega⟩ hr x (De (c:=cO) (k:=1) (fun _=>rfl) (i:=i.toNat) (by omega) (!s.az[i.toNat])) (HW (by omega) (!s.az[i.toNat])) K N dr (De (c:=cO) (k:=1) (fun _=>rfl) (i:=i.toNat) (by rw[Az];omega) false);rw[q] at h1 h2;rw[E9] at h1;rw[E9] at h2;exact X6 h1 h2 (Kz o hs hb hc p d (i:=i+1) (os:=os.set i.toNat false) (by omega) (by omega) (by rw[Az];exact m))
    ·have h1:=eO t s bi b (C t.ws) (H cO os) i s.az[i.toNat] ((!s.az[i.toNat])) e (H cO (os.set i.toNat (!s.az[i.toNat]))) j a (by rw[l];rfl) g ⟨by omega,by omega⟩ ⟨by omega,by omega⟩ hr y (De (c:=cO) (k:=1) (fun _=>rfl) (i:=i.toNat) (by omega) (!s.az[i.toNat])) (HW (by omega) (!s.az[i.toNat]));have h2:=Rl t s bi b (C t.ws) (H cO os) i s.az[i.toNat] e (H cO (os.set i.toNat (!s.az[i.toNat]))) j a z g ⟨by omega,by omega⟩ ⟨by omega,by omega⟩ ⟨by omega,by omega⟩ hr x (De (c:=cO) (k:=1) (fun _=>rfl) (i:=i.toNat) (by omega) (!s.az[i.toNat]));rw[q] at h1 h2;exact X6 h1 h2 (Kz o hs hb hc p d (i:=i+1) (os:=os.set i.toNat (!s.az[i.toNat])) (by omega) (by omega) (by rw[Az];exact m))
  ·rcases Ah (e.n 0==2) with g | g
   ·have h1:=Rk t s bi b (C t.ws) (H cO os) i (false) e (H cO (os.set i.toNat false)) j a rfl ⟨by omega,by omega⟩ ⟨by omega,by omega⟩ hr (De (c:=cO) (k:=1) (fun _=>rfl) (i:=i.toNat) (by omega) false) (HW (by omega) false);have h2:=YZ t s bi b (C t.ws) (H cO os) i (false) e (H cO (os.set i.toNat false)) (H cO ((os.set i.toNat false).set i.toNat false)) j a g rfl ⟨by omega,by omega⟩ ⟨by omega,by omega⟩ hr (De (c:=cO) (k:=1) (fun _=>rfl) (i:=i.toNat) (by omega) false) (HW (by omega) false) (De (c:=cO) (k:=1) (fun _=>rfl) (i:=i.toNat) (by rw[Az];omega) false);rw[q] at h1 h2;rw[E9] at h2;exact X6 h1 h2 (Kz o hs hb hc p d (i:=i+1) (os:=os.set i.toNat false) (by omega) (by omega) (by rw[Az];exact m))
   ·have h1:=Rk t s bi b (C t.ws) (H cO os) i (false) e (H cO (os.set i.toNat false)) j a rfl ⟨by omega,by omega⟩ ⟨by omega,by omega⟩ hr (De (c:=cO) (k:=1) (fun _=>rfl) (i:=i.toNat) (by omega) false) (HW (by omega) false);have h2:=Y_ t s bi b (C t.ws) (H cO os) i e (H cO (os.set i.toNat false)) j a g ⟨by omega,by omega⟩ ⟨by omega,by omega⟩ hr (De (c:=cO) (k:=1) (fun _=>rfl) (i:=i.toNat) (by omega) false);rw[q] at h1 h2;exact X6 h1 h2 (Kz o hs hb hc p d (i:=i+1) (os:=os.set i.toNat false) (by omega) (by omega) (by rw[Az];exact m))
theorem Atc:(iF g Z0).body = .seq zH (.seq zI (.seq OZ (.seq eK (.seq (.seq tU (.block 0 (.loop I_))) X4)))):=by kernel_rfl
theorem eY{os:List Bool}(hl:C t.ws<=10)(h:w (.seq OZ (.seq eK (.seq (.seq tU (.block 0 (.loop I_))) X4))) (Og t s bi (C t.ws) (H cO (AK (C t.ws) false))) .ret (S1 (C t.ws) (H cO os))) :
  RQ 14 [t.av,M s.cs,A D bi] (P 1 (C t.ws) (H cO os)):=by
 have a:=nK t s bi ⟨by omega,by omega⟩;rw[show CE [I false] (L (C t.ws))=H cO (AK (C t.ws) false) from G3 (c:=cO) false (C t.ws)] at a;refine BR (fn:=iF g Z0) (s:=S1 (C t.ws) (H cO os)) (ex := .ret) rfl rfl ?_ (by nofun) rfl;rw[Atc];exact T (nJ t s bi) (T a h)
theorem Atd:(iF g Z1).body = .seq zJ (.seq zK (.seq O' (.seq eR (.seq (.seq tX (.block 0 (.loop Iq))) X5)))):=by kernel_rfl
theorem eZ{os:List Bool}(hl:C t.ws<=10)(h:w (.seq O' (.seq eR (.seq (.seq tX (.block 0 (.loop Iq))) X5))) (Oh t s bi (C t.ws) (H cO (AK (C t.ws) false))) .ret (S2 (C t.ws) (H cO os))) :
  RQ 15 [t.av,M s.cs,A D bi] (P 1 (C t.ws) (H cO os)):=by
 have a:=nN t s bi ⟨by omega,by omega⟩;rw[show CE [I false] (L (C t.ws))=H cO (AK (C t.ws) false) from G3 (c:=cO) false (C t.ws)] at a;refine BR (fn:=iF g Z1) (s:=S2 (C t.ws) (H cO os)) (ex := .ret) rfl rfl ?_ (by nofun) rfl;rw[Atd];exact T (nM t s bi) (T a h)
theorem Adw(h:TOk t)(hs:s.ok t.r1.toNat (C t.fl) (C t.ws))
  (o:∀ b∈s.bs,∀ e∈t.ws,MG 57 60 [M [A D (b.n 3),A D (b.n 4)],M [A D (e.n 2),A D (e.n 3)],M [A D (e.n 4),A D (e.n 5)],A D t.r0] [M [A D (b.n 3),A D (b.n 4)],M [A D (e.n 2),A D (e.n 3)],M [A D (e.n 4),A D (e.n 5)],A D t.r0]) :
  ∃ os:List Bool,C os=C t.ws/\RQ 14 [t.av,M s.cs,A D bi] (P 1 (C t.ws) (H cO os))/\RQ 15 [t.av,M s.cs,A D bi] (P 1 (C t.ws) (H cO os)):=by
 have hl:=h.l8;rcases Ah (E (bi<0)) with c1 | c1
 ·exact⟨_,Cp,eY hl (d (YR t s bi _ _ c1)),eZ hl (d (YV t s bi _ _ c1))⟩
 rcases Ah (E (bi>=(C s.bs:Int))) with c2 | c2
 ·exact⟨_,Cp,eY hl (d (YS t s bi _ _ c1 c2)),eZ hl (d (YW t s bi _ _ c1 c2))⟩
 have r:=of_decide_eq_false c1;have u:=of_decide_eq_false c2;have f:bi.toNat<C s.bs:=by omega
 have a:0<=bi/\bi<(C s.bs:Int):=by omega
 have g:Ae (R 0 (R (L bi*7) (H cB s.bs))) 0 1 true=some (A D (s.bs[bi.toNat].n 0)):=DP (c:=cB) (k:=7) (fun _=>rfl) f (j:=0) (by omega);rcases Ah (s.bs[bi.toNat].n 0==0) with c3 | c3
 ·exact⟨_,Cp,eY hl (d (YT t s bi _ _ _ c1 c2 c3 a g)),eZ hl (d (YX t s bi _ _ _ c1 c2 c3 a g))⟩
 have l:=CH (c:=cB) (k:=7) (fun _=>rfl) f;have p:=hs;obtain⟨_,_,_,_,_,q,_⟩:=p;obtain⟨os,ho,x,y⟩:=Kz (bi:=bi) h hs (q _ (Bl f)) h.ws (o _ (Bl f)) (C t.ws) (i:=0) (os:=AK (C t.ws) false) (by omega) (by omega) Cp;refine⟨os,ho,eY hl (T (YU t s bi _ _ _ c1 c2 c3 a g) (T (nL t s bi _ _ _ a l) (T (T (tV t s bi _ _ _) (A7 [2,3,4,7,8] (m x) (by kernel_rfl))) (eQ t s bi s.bs[bi.toNat] _ _)))),?_⟩;exact eZ hl (T (YY t s bi _ _ _ c1 c2 c3 a g) (T (nO t s bi _ _ _ a l) (T (T (tY t s bi _ _ _) (A7 [2,3,4,7,8] (m y) (by kernel_rfl))) (eX t s bi s.bs[bi.toNat] _ _))))
end
theorem Ann{s:St}{a b c:Nat}(h:s.ok a b c):s.av a b c = M s.cs:=by
 obtain⟨_,h1,h2,d,e,_⟩:=h;unfold St.av St.cs;rw[h1,h2,d,e]
theorem tZ{t:Tbl}{l:LI}(a:TOk t)(hl:C l<4611686018427387904)(c:∀ (s:St) (px py:Int),s.ok t.r1.toNat (C t.fl) (C t.ws)->Alike t s px py) :
  ∃ s:St,s.ok t.r1.toNat (C t.fl) (C t.ws)/\RQ 11 [t.av,G (C l) (li l)] (M s.cs):=by
 have h1:=a.r1;have d:=a.l8;have e:=a.l11;obtain⟨s,hs,hr⟩:=Acw (l:=l) hl (r0:=t.r0) (r1:=t.r1) (r2:=t.r2) (r3:=t.r3) (r4:=t.r4) (r5:=t.r5) (r6:=t.r6) (fs:=t.fl) (ws:=t.ws) (m7:=C t.tr) (m9:=C t.ar) (m10:=C t.po) (m12:=C t.zo) (m13:=C t.sa) (m14:=C t.la) (m15:=C t.ra) (m16:=C t.dr) (m17:=C t.ln)
  (d7:=H cI t.tr) (d9:=H AH t.ar) (d10:=H p t.po) (d12:=H cZ t.zo) (d13:=H AU t.sa) (d14:=H cL t.la) (d15:=H cR t.ra) (d16:=H cD t.dr) (d17:=H cK t.ln)
  (by omega) a.fl (by omega) (by omega) (fun s x y r i h _ _ _ _ _=>by
   obtain⟨b,_,hb⟩:=ZL (lv:=r) (xc:=(i:Int)) a h (c s x y h);rw[<- Ann h] at hb;exact⟨b,hb⟩)
 rw[Ann hs] at hr;exact⟨s,hs,hr⟩
theorem Dg:AQ Cy []:=AQ.nil _
def zL(a b:LI)(px py:Int):V:=X (G (C a) (li a))::X (G (C b) (li b))::W 3 (Q [A D px,A D py]::W 67 [])
def Axc(t:Tbl)(a:LI)(px py:Int):V:=W 1 (X (G (C a) (li a))::W 3 (Q [A D px,A D py]::W 1 (Q [A D t.r0,A D t.r1,A D t.r2,A D t.r3,A D t.r4,A D t.r5,A D t.r6,G (C t.tr) (H cI t.tr),G (C t.ws) (H cW t.ws),G (C t.ar) (H AH t.ar),G (C t.po) (H p t.po),G (C t.fl) (H cF t.fl),G (C t.zo) (H cZ t.zo),G (C t.sa) (H AU t.sa),G (C t.la) (H cL t.la),G (C t.ra) (H cR t.ra),G (C t.dr) (H cD t.dr),G (C t.ln) (H cK t.ln)]::W 65 [])))
def Ano(t:Tbl)(s:St)(px py:Int):V:=W 5 (Q [A D px,A D py]::W 1 (Q [A D t.r0,A D t.r1,A D t.r2,A D t.r3,A D t.r4,A D t.r5,A D t.r6,G (C t.tr) (H cI t.tr),G (C t.ws) (H cW t.ws),G (C t.ar) (H AH t.ar),G (C t.po) (H p t.po),G (C t.fl) (H cF t.fl),G (C t.zo) (H cZ t.zo),G (C t.sa) (H AU t.sa),G (C t.la) (H cL t.la),G (C t.ra) (H cR t.ra),G (C t.dr) (H cD t.dr),G (C t.ln) (H cK t.ln)]::Q [A D s.k,G (C s.bs) (H cB s.bs),G (C s.ks) (H cI s.ks),G (C s.ss) (H cI s.ss),G (C s.az) (H cO s.az),A Bm s.co]::W 64 []))
def Axd(z:Bool):V:=W 6 (X (I z)::W 66 [])
def Anp:ICode := .region false [o1 5 (.box (.t 2) []),o1 6 (.mov (.c (.bool false)))]
theorem Adx(a b:LI)(px py:Int)   : w Anp (CX (iF g iY) [G (C a) (li a),G (C b) (li b),M [A D px,A D py]]) .norm (zL a b px py):=B Dg [] [0,1,5] a0
def Anq:ICode:=CG iY 97 6
theorem Ady(a b:LI)(px py:Int)(c:RQ 8 [] (I true)):w Anq (zL a b px py) .norm (zL a b px py):=B Dg [.r (I true),Y] [0,1,5] (GY c Dr)
def Anr:ICode := .region false [oM 16 0,oC 17 9 [16],o1 7 (.new [.int .i64 0,.int .i64 0,.int .i64 0,.int .i64 0,.int .i64 0,.int .i64 0,.int .i64 0,.sl 0 [],.sl 0 [],.sl 0 [],.sl 0 [],.sl 0 [],.sl 0 [],.sl 0 [],.sl 0 [],.sl 0 [],.sl 0 [],.sl 0 []] []),oN (.st 7 7 18 (.t 17))]
theorem Adz(a b:LI)(px py:Int)(t:Tbl)(c:RQ 9 [G (C a) (li a)] (M [A D t.r0,A D t.r1,A D t.r2,A D t.r3,A D t.r4,A D t.r5,A D t.r6,G (C t.tr) (H cI t.tr),G (C t.ws) (H cW t.ws),G (C t.ar) (H AH t.ar),G (C t.po) (H p t.po),G (C t.fl) (H cF t.fl),G (C t.zo) (H cZ t.zo),G (C t.sa) (H AU t.sa),G (C t.la) (H cL t.la),G (C t.ra) (H cR t.ra),G (C t.dr) (H cD t.dr),G (C t.ln) (H cK t.ln)])):w Anr (zL a b px py) .norm (Axc t b px py):=B Dg [.r (M [A D t.r0,A D t.r1,A D t.r2,A D t.r3,A D t.r4,A D t.r5,A D t.r6,G (C t.tr) (H cI t.tr),G (C t.ws) (H cW t.ws),G (C t.ar) (H AH t.ar),G (C t.po) (H p t.po),G (C t.fl) (H cF t.fl),G (C t.zo) (H cZ t.zo),G (C t.sa) (H AU t.sa),G (C t.la) (H cL t.la),G (C t.ra) (H cR t.ra),G (C t.dr) (H cD t.dr),G (C t.ln) (H cK t.ln)])] [1,5,7] (Bp c)
def Ans:ICode := .region false [o1 18 (.ld 7 7 18 false),oM 19 1,oC 20 11 [18,19],o1 8 (.new [.int .i64 0,.sl 0 [],.sl 0 [],.sl 0 [],.sl 0 [],.int .u32 0] [22]),oN (.st 8 8 6 (.t 20))]
theorem Aea(t:Tbl)(a:LI)(px py:Int)(s:St)(b:RQ 11 [M [A D t.r0,A D t.r1,A D t.r2,A D t.r3,A D t.r4,A D t.r5,A D t.r6,G (C t.tr) (H cI t.tr),G (C t.ws) (H cW t.ws),G (C t.ar) (H AH t.ar),G (C t.po) (H p t.po),G (C t.fl) (H cF t.fl),G (C t.zo) (H cZ t.zo),G (C t.sa) (H AU t.sa),G (C t.la) (H cL t.la),G (C t.ra) (H cR t.ra),G (C t.dr) (H cD t.dr),G (C t.ln) (H cK t.ln)],G (C a) (li a)] (M [A D s.k,G (C s.bs) (H cB s.bs),G (C s.ks) (H cI s.ks),G (C s.ss) (H cI s.ss),G (C s.az) (H cO s.az),A Bm s.co])):w Ans (Axc t a px py) .norm (Ano t s px py):=B Dg [.r (M [A D s.k,G (C s.bs) (H cB s.bs),G (C s.ks) (H cI s.ks),G (C s.ss) (H cI s.ss),G (C s.az) (H cO s.az),A Bm s.co])] [5,7,8] (Bp b)
section
variable(t:Tbl)(s:St)(px py:Int)
def X7(i:Int):V:=W 5 (Q [A D px,A D py]::W 1 (Q [A D t.r0,A D t.r1,A D t.r2,A D t.r3,A D t.r4,A D t.r5,A D t.r6,G (C t.tr) (H cI t.tr),G (C t.ws) (H cW t.ws),G (C t.ar) (H AH t.ar),G (C t.po) (H p t.po),G (C t.fl) (H cF t.fl),G (C t.zo) (H cZ t.zo),G (C t.sa) (H AU t.sa),G (C t.la) (H cL t.la),G (C t.ra) (H cR t.ra),G (C t.dr) (H cD t.dr),G (C t.ln) (H cK t.ln)]::Q [A D s.k,G (C s.bs) (H cB s.bs),G (C s.ks) (H cI s.ks),G (C s.ss) (H cI s.ss),G (C s.az) (H cO s.az),A Bm s.co]::vi i::W 63 []))
def T0(os:List Bool)(i j:Int):V:=W 5 (Q [A D px,A D py]::W 1 (Q [A D t.r0,A D t.r1,A D t.r2,A D t.r3,A D t.r4,A D t.r5,A D t.r6,G (C t.tr) (H cI t.tr),G (C t.ws) (H cW t.ws),G (C t.ar) (H AH t.ar),G (C t.po) (H p t.po),G (C t.fl) (H cF t.fl),G (C t.zo) (H cZ t.zo),G (C t.sa) (H AU t.sa),G (C t.la) (H cL t.la),G (C t.ra) (H cR t.ra),G (C t.dr) (H cD t.dr),G (C t.ln) (H cK t.ln)]::Q [A D s.k,G (C s.bs) (H cB s.bs),G (C s.ks) (H cI s.ks),G (C s.ss) (H cI s.ss),G (C s.az) (H cO s.az),A Bm s.co]::vi i::X (G (C t.ws) (H cO os))::X (G (C t.ws) (H cO os))::vi j::W 60 []))
def T1(i lv:Int):V:=W 5 (Q [A D px,A D py]::W 1 (Q [A D t.r0,A D t.r1,A D t.r2,A D t.r3,A D t.r4,A D t.r5,A D t.r6,G (C t.tr) (H cI t.tr),G (C t.ws) (H cW t.ws),G (C t.ar) (H AH t.ar),G (C t.po) (H p t.po),G (C t.fl) (H cF t.fl),G (C t.zo) (H cZ t.zo),G (C t.sa) (H AU t.sa),G (C t.la) (H cL t.la),G (C t.ra) (H cR t.ra),G (C t.dr) (H cD t.dr),G (C t.ln) (H cK t.ln)]::Q [A D s.k,G (C s.bs) (H cB s.bs),G (C s.ks) (H cI s.ks),G (C s.ss) (H cI s.ss),G (C s.az) (H cO s.az),A Bm s.co]::vi i::W 3 (vi lv::W 59 [])))
end
def Axe:ICode := .region false [o1 9 (.mov (.c (.int .i64 (-1))))]
theorem Ant(t:Tbl)(s:St)(px py:Int)   : w Axe (Ano t s px py) .norm (X7 t s px py (-1)):=B Dg [] [5,7,8,9] a0
def zM:ICode:=CG iY 82 256308
section
variable(t:Tbl)(s:St)(px py:Int)(os:List Bool)(i j:Int)
theorem uA(av:Bool)(c1:E (j<C t.ws)=true)(c2:(av==av)=true)(a:0<=j/\j<C t.ws)(b:Ae (R (L j*1) (H cO os)) 0 1 true=some (I av)):w zM (T0 t s px py os i j) .norm (T0 t s px py os i (J D (j+1))):=B Dg [q,.v (I av),.v (I av),Y] sK (Kf c1 a b a b (show (!(av==av))=false from (by rw [c2];rfl)))
theorem uB(c1:E (j<C t.ws)=false):w zM (T0 t s px py os i j) xZ2 (T0 t s px py os i j):=B Dg [Y] sK (Bp c1)
end
def zN:ICode:=CG iY 82 256316
section
variable(t:Tbl)(s:St)(px py i lv:Int)
theorem uC(a:Bool)(c1:E (lv<=2)=true)(c2:(a==a)=true)(b:RQ 16 [M [A D t.r0,A D t.r1,A D t.r2,A D t.r3,A D t.r4,A D t.r5,A D t.r6,G (C t.tr) (H cI t.tr),G (C t.ws) (H cW t.ws),G (C t.ar) (H AH t.ar),G (C t.po) (H p t.po),G (C t.fl) (H cF t.fl),G (C t.zo) (H cZ t.zo),G (C t.sa) (H AU t.sa),G (C t.la) (H cL t.la),G (C t.ra) (H cR t.ra),G (C t.dr) (H cD t.dr),G (C t.ln) (H cK t.ln)],M [A D s.k,G (C s.bs) (H cB s.bs),G (C s.ks) (H cI s.ks),G (C s.ss) (H cI s.ss),G (C s.az) (H cO s.az),A Bm s.co],A D lv,M [A D px,A D py],A D i] (I a))(c:RQ 17 [M [A D t.r0,A D t.r1,A D t.r2,A D t.r3,A D t.r4,A D t.r5,A D t.r6,G (C t.tr) (H cI t.tr),G (C t.ws) (H cW t.ws),G (C t.ar) (H AH t.ar),G (C t.po) (H p t.po),G (C t.fl) (H cF t.fl),G (C t.zo) (H cZ t.zo),G (C t.sa) (H AU t.sa),G (C t.la) (H cL t.la),G (C t.ra) (H cR t.ra),G (C t.dr) (H cD t.dr),G (C t.ln) (H cK t.ln)],M [A D s.k,G (C s.bs) (H cB s.bs),G (C s.ks) (H cI s.ks),G (C s.ss) (H cI s.ss),G (C s.az) (H cO s.az),A Bm s.co],A D lv,M [A D px,A D py],A D i] (I a)):w zN (T1 t s px py i lv) .norm (T1 t s px py i (J D (lv+1))):=B Dg [q,.r (I a),.r (I a),Y] [5,7,8,9,13] (Jm c1 b c (show (!(a==a))=false from (by rw [c2];rfl)))
theorem uD(c1:E (lv<=2)=false):w zN (T1 t s px py i lv) xZ4 (T1 t s px py i lv):=B Dg [Y] [5,7,8,9,13] (Bp c1)
end
def zO:ICode:=CG iY 91 500
section
variable(t:Tbl)(s:St)(px py i:Int)
theorem uE(os:List Bool)(j lv:Int)(c1:E (i<=C s.bs)=true)(c2:((C t.ws:Int) != (C t.ws:Int))=false)(a:RQ 14 [M [A D t.r0,A D t.r1,A D t.r2,A D t.r3,A D t.r4,A D t.r5,A D t.r6,G (C t.tr) (H cI t.tr),G (C t.ws) (H cW t.ws),G (C t.ar) (H AH t.ar),G (C t.po) (H p t.po),G (C t.fl) (H cF t.fl),G (C t.zo) (H cZ t.zo),G (C t.sa) (H AU t.sa),G (C t.la) (H cL t.la),G (C t.ra) (H cR t.ra),G (C t.dr) (H cD t.dr),G (C t.ln) (H cK t.ln)],M [A D s.k,G (C s.bs) (H cB s.bs),G (C s.ks) (H cI s.ks),G (C s.ss) (H cI s.ss),G (C s.az) (H cO s.az),A Bm s.co],A D i] (P 1 (C t.ws) (H cO os)))(b:RQ 15 [M [A D t.r0,A D t.r1,A D t.r2,A D t.r3,A D t.r4,A D t.r5,A D t.r6,G (C t.tr) (H cI t.tr),G (C t.ws) (H cW t.ws),G (C t.ar) (H AH t.ar),G (C t.po) (H p t.po),G (C t.fl) (H cF t.fl),G (C t.zo) (H cZ t.zo),G (C t.sa) (H AU t.sa),G (C t.la) (H cL t.la),G (C t.ra) (H cR t.ra),G (C t.dr) (H cD t.dr),G (C t.ln) (H cK t.ln)],M [A D s.k,G (C s.bs) (H cB s.bs),G (C s.ks) (H cI s.ks),G (C s.ss) (H cI s.ss),G (C s.az) (H cO s.az),A Bm s.co],A D i] (P 1 (C t.ws) (H cO os)))(c:w (.loop zM) (T0 t s px py os i 0) xZ2 (T0 t s px py os i j))(e:w (.loop zN) (T1 t s px py i (-1)) xZ4 (T1 t s px py i lv)):w zO (X7 t s px py i) .norm (X7 t s px py (J D (i+1))):=T (B (t:=W 5 (Q [A D px,A D py]::W 1 (Q [A D t.r0,A D t.r1,A D t.r2,A D t.r3,A D t.r4,A D t.r5,A D t.r6,G (C t.tr) (H cI t.tr),G (C t.ws) (H cW t.ws),G (C t.ar) (H AH t.ar),G (C t.po) (H p t.po),G (C t.fl) (H cF t.fl),G (C t.zo) (H cZ t.zo),G (C t.sa) (H AU t.sa),G (C t.la) (H cL t.la),G (C t.ra) (H cR t.ra),G (C t.dr) (H cD t.dr),G (C t.ln) (H cK t.ln)]::Q [A D s.k,G (C s.bs) (H cB s.bs),G (C s.ks) (H cI s.ks),G (C s.ss) (H cI s.ss),G (C s.az) (H cO s.az),A Bm s.co]::vi i::W 63 []))) Dg [q] [5,7,8,9] (Bp c1)) (T (Bc (BZ (B3 (T (B Dg [.r (P 1 (C t.ws) (H cO os)),.r (P 1 (C t.ws) (H cO os)),Y] sK (Im a b c2)) (T (m c) (T (B Dg [] [5,7,8,9,13] a0) (m e))))))) (B Dg [] [5,7,8,9] a0))
theorem uF(c1:E (i<=C s.bs)=false):w zO (X7 t s px py i) xZ0 (X7 t s px py i):=d (B Dg [Y] [5,7,8,9] (Bp c1))
end
def zP:ICode := .seq (.region false [o1 6 (.mov (.c (.bool true)))]) (.ret)
theorem uG(t:Tbl)(s:St)(px py:Int)   : w zP (Ano t s px py) .ret (Axd true):=B Dg [] [6] a0
theorem Azs:(iF g iY).body = .seq Anp (.seq Anq (.seq Anr (.seq Ans (.seq (.seq Axe (.block 0 (.loop zO))) zP)))):=by kernel_rfl
def ZM:Prop:=∀ (t:Tbl) (s:St) (px py:Int),TOk t->s.ok t.r1.toNat (C t.fl) (C t.ws)->Alike t s px py
section
variable {t:Tbl} {s:St} {px py:Int}
theorem Azt{xs:List Bool}{j:Int}(h:j.toNat<C xs):Ae (R (L j*1) (H cO xs)) 0 1 true=some (I xs[j.toNat]):=by
 have:=DP (c:=cO) (k:=1) (fun _=>rfl) h (j:=0) (by omega);rw[DF] at this;exact this
theorem Axf{os:List Bool}{i:Int}(ho:C os=C t.ws)(hl:C t.ws<=10):∀ (d:Nat) {j:Int},j+(d:Int)=(C t.ws:Int)->0<=j->∃ v,w (.loop zM) (T0 t s px py os i j) xZ2 (T0 t s px py os i v)
 | 0,j,h,h0=>⟨j,f (uB t s px py os i j (AG (by omega)))⟩
 | d+1,j,h,h0=>by
  have a:j.toNat<C os:=by omega
  have h1:=uA t s px py os i j _ (AN (by omega)) (by simp) ⟨by omega,by omega⟩ (Azt a);rw[Bb (n:=j+1) (by omega) (by omega)] at h1;obtain⟨v,h2⟩:=Axf ho hl d (j:=j+1) (by omega) (by omega);exact⟨v,Ay h1 h2⟩
theorem Axg{i:Int}(a:TOk t)(hs:s.ok t.r1.toNat (C t.fl) (C t.ws))(b:Alike t s px py):∀ (d:Nat) {lv:Int},lv+(d:Int)=3 -> -1<=lv->∃ v,w (.loop zN) (T1 t s px py i lv) xZ4 (T1 t s px py i v)
 | 0,lv,h,h0=>⟨lv,f (uD t s px py i lv (AG (by omega)))⟩
 | d+1,lv,h,h0=>by
  obtain⟨c,r1,r2⟩:=ZL (lv:=lv) (xc:=i) a hs b;have h1:=uC t s px py i lv c (AN (by omega)) (by simp) r1 r2;rw[Bb (n:=lv+1) (by omega) (by omega)] at h1;obtain⟨v,h2⟩:=Axg a hs b d (lv:=lv+1) (by omega) (by omega);exact⟨v,Ay h1 h2⟩
theorem Axh(a:TOk t)(hs:s.ok t.r1.toNat (C t.fl) (C t.ws))(c:∀ px py,Alike t s px py):∀ (d:Nat) {i:Int},i+(d:Int)=(C s.bs:Int)+1 -> -1<=i->∃ v,w (.loop zO) (X7 t s px py i) xZ0 (X7 t s px py v)
 | 0,i,h,h0=>⟨i,f (uF t s px py i (AG (by omega)))⟩
 | d+1,i,h,h0=>by
  have o:=a.r1;have g:=hs;obtain⟨_,hb,_⟩:=g;obtain⟨os,ho,r1,r2⟩:=Adw (bi:=i) a hs (fun b _ e k=>(c (b.n 3) (b.n 4)).c0 e k);obtain⟨j,l⟩:=Axf (s:=s) (px:=px) (py:=py) (i:=i) ho a.l8 (C t.ws) (j:=0) (by omega) (by omega);obtain⟨lv,m⟩:=Axg (i:=i) a hs (c px py) 4 (lv := -1) (by omega) (by omega);have h1:=uE t s px py i os j lv (AN (by omega)) (by simp) r1 r2 l m;rw[Bb (n:=i+1) (by omega) (by omega)] at h1;obtain⟨v,h2⟩:=Axh a hs c d (i:=i+1) (by omega) (by omega);exact⟨v,Ay h1 h2⟩
end
theorem fA{b a:LI}{px py:Int}(h1:C b<4611686018427387904)(h2:C a<4611686018427387904)(e:RQ 8 [] (I true))(d:ZM) :
  RQ 4 [G (C b) (li b),G (C a) (li a),M [A D px,A D py]] (I true):=by
 obtain⟨t,c,f⟩:=tS h1;obtain⟨s,hs,rs⟩:=tZ c h2 (fun s px py h=>d t s px py c h);have k:=c.r1;have j:=hs;obtain⟨_,hb,_⟩:=j;obtain⟨v,h⟩:=Axh (px:=px) (py:=py) c hs (fun px py=>d t s px py c hs) (C s.bs+2) (i := -1) (by omega) (by omega);refine BR (fn:=iF g iY) (s:=Axd true) (ex := .ret) rfl rfl ?_ (by nofun) rfl;rw[Azs];exact T (Adx b a px py) (T (Ady b a px py e) (T (Adz b a px py t f) (T (Aea t a px py s rs)
  (T (T (Ant t s px py) (A7 [5,7,8] (m h) (by kernel_rfl))) (uG t s px py)))))
def TB0:Bo:=[]
theorem EL:AQ Cy TB0:=AQ.nil _
def fB:ICode:=CG sA 94 56
section
variable(N:Nat)(cs:u)
def Oi(n:Int):V:=X (G N cs)::W 1 (An 1 0 []::vi n::W 18 [])
theorem Anu(n x:Int)(c1:E (n>0)=true)(c2:(x==0)=true)(a:0<=J D (n-1)/\J D (n-1)<(N:Int))(b:Ae (R (L (J D (n-1))*1) cs) 0 1 true=some (A Bm x)):w fB (Oi N cs n) .norm (Oi N cs (J D (n-1))):=BU EL 300 [q,.v (A Bm x),q] P6 (Jm c1 a b c2) (by kernel_rfl)
theorem Anv(n x:Int)(c1:E (n>0)=true)(c2:(x==0)=false)(a:0<=J D (n-1)/\J D (n-1)<(N:Int))(b:Ae (R (L (J D (n-1))*1) cs) 0 1 true=some (A Bm x)):w fB (Oi N cs n) xZ0 (Oi N cs n):=BU EL 300 [q,.v (A Bm x),Y] P6 (Jm c1 a b c2) (by kernel_rfl)
theorem Anw(n:Int)(c1:E (n>0)=false):w fB (Oi N cs n) xZ0 (Oi N cs n):=BU EL 300 [Y,Y] P6 (GY c1 Dr) (by kernel_rfl)
end
theorem Aeb(xs:LI)(d:C xs<=35184372088832):∀ m,m<=C xs->w (.loop fB) (Oi (C xs) (lm xs) m) xZ0 (Oi (C xs) (lm xs) (BW xs m)):=by
 intro m;induction m with
 | zero =>
  intro _;exact f (Anw (C xs) (lm xs) ((0:Nat)) (by simp))
 | succ m c =>
  intro e;have a:J D ((m+1:Nat)-1)=(m:Int):=wrz
  have b:=J2 (xs:=xs) (i:=m) (by omega);simp only[BW];by_cases h0:O xs m 0=0
  ·rw[Af h0];have h1:=Anu (C xs) (lm xs) ((m+1:Nat)) (O xs m 0) (by simp) (by rw[h0];rfl) (by rw[a];omega) (by rw[a,Ao];exact b);rw[a] at h1;exact Ay h1 (c (by omega))
  ·rw[Ak h0];exact f (Anv (C xs) (lm xs) ((m+1:Nat)) (O xs m 0) (by simp) (by simpa using h0) (by rw[a];omega) (by rw[a,Ao];exact b))
theorem II{xs:LI}(c:C xs<=35184372088832):RQ 211 [y lm xs] (P 1 (C (l xs)) (lm (l xs))):=by
 have d:=N1 xs (C xs);have a:C (l xs)=BW xs (C xs):=by simp[l];omega
 have hl:=Aeb xs c (C xs) (Ar _);have e:0<=L (BW xs (C xs))/\L (BW xs (C xs))<=C xs/\C xs<=C xs/\(false=true->true=true):=by rw[Ao];exact⟨by omega,d,Ar _,fun h=>by cases h⟩
 have b:CV ((L (BW xs (C xs))-0)*1) (R (0*1) (lm xs))=lm (l xs):=by
  rw[Ao];simp[lm,l,List.map_take]
 have i:C (CV ((L (BW xs (C xs))-0)*1) (R (0*1) (lm xs)))=(L (BW xs (C xs))-0)*1:=by
  rw[b,Tp,a,Ao];omega
 have j:(L (BW xs (C xs))-0)<=35184372088832:=by rw[Ao];omega
 have:=BR (prog:=Cy) (f:=211) (args:=[y lm xs]) (r := P 1 (L (BW xs (C xs))-0) (CV ((L (BW xs (C xs))-0)*1) (R (0*1) (lm xs)))) (fn:=iF g sA) (s:=(X (y lm xs)::W 1 (An 1 ((L (BW xs (C xs)))-0) (CV (((L (BW xs (C xs)))-0)*1) (R (0*1) (lm xs)))::vi (BW xs (C xs):Int)::W 14 (X (y lm xs)::vi (BW xs (C xs):Int)::X (G ((L (BW xs (C xs)))-0) (CV (((L (BW xs (C xs)))-0)*1) (R (0*1) (lm xs))))::W 1 [])))) (ex := .ret) rfl rfl
  (T (C0 (t:=(X (y lm xs)::W 1 (An 1 0 []::W 19 []))) (ex := .norm) (ps:=[]) EL 300 [] [0,2] (by kernel_rfl) trivial)
  (T (C0 (t:=(X (y lm xs)::W 1 (An 1 0 []::vi (C xs:Int)::W 18 []))) (ex := .norm) (ps:=[]) EL 300 [] P6 (by kernel_rfl) trivial)
  (T (m hl)
  (C0 (t:=(X (y lm xs)::W 1 (An 1 ((L (BW xs (C xs)))-0) (CV (((L (BW xs (C xs)))-0)*1) (R (0*1) (lm xs)))::vi (BW xs (C xs):Int)::W 14 (X (y lm xs)::vi (BW xs (C xs):Int)::X (G ((L (BW xs (C xs)))-0) (CV (((L (BW xs (C xs)))-0)*1) (R (0*1) (lm xs))))::W 1 [])))) (ex := .ret) (ps:=[0<=(BW xs (C xs):Int),0<=L (BW xs (C xs))/\L (BW xs (C xs))<=C xs/\C xs<=C xs/\(false=true->true=true),C (CV (((L (BW xs (C xs)))-0)*1) (R (0*1) (lm xs)))=((L (BW xs (C xs)))-0)*1,((L (BW xs (C xs)))-0)<=35184372088832]) EL 300 [] [0,2,3,18,19,20] (by kernel_rfl) ⟨(Int.natCast_nonneg _),e,i,j,trivial⟩)))) (by nofun) rfl
 (first|rw[b,Ao,Tc,<- a] at this|(rw[b,Ao,Tc] at this;unfold y at this;rw[<- a] at this));exact this
def Rm(neg:Bool)(xs:LI):AV :=
 match neg with
 | true=>(.frs (.st (E ((C (l xs):Int)>0))) 1 (C (l xs)) (lm (l xs)))
 | false=>(.frs (.st false) 1 (C (l xs)) (lm (l xs)))
theorem Anx(neg:Bool)(xs:LI)(a:C xs<=1048576):RQ 108 [I neg,y lm xs] (Rm neg xs):=by
 unfold Rm;cases neg
 ·exact N (r := .frs (.st false) 1 (C (l xs)) (lm (l xs))) (ps:=[RQ 211 [y lm xs] (P 1 (C (l xs)) (lm (l xs))),false=false]) EL rfl 300 rfl [.r (P 1 (C (l xs)) (lm (l xs))),Y] (by kernel_rfl) ⟨(II (AR a (by decide))),rfl,trivial⟩
 ·exact N (r := .frs (.st (E ((C (l xs):Int)>0))) 1 (C (l xs)) (lm (l xs))) (ps:=[RQ 211 [y lm xs] (P 1 (C (l xs)) (lm (l xs))),true=true]) EL rfl 300 rfl [.r (P 1 (C (l xs)) (lm (l xs))),q] (by kernel_rfl) ⟨(II (AR a (by decide))),rfl,trivial⟩
theorem Mn{neg:Bool}{xs:LI}(hu:DJ xs)(d:C xs<=1048576):RQ 108 [I neg,y lm xs] (HG (if neg then -z xs else z xs)):=by
 have h:=Anx neg xs d;have e:Rm neg xs=HG (if neg then -z xs else z xs):=by
  have f:=Fa hu;have a:=RS hu;have g:C (l xs)=0↔z xs=0:=by
   rw[a,Uz,PP];omega
  cases neg with
  | false =>
   have b:Ax (z xs)=(z xs).toNat:=by omega
   have c:decide (z xs<0)=false:=by simp;omega
   simp only[Rm,HG,AC,if_false,b,c,a]
  | true =>
   have b:Ax (-z xs)=(z xs).toNat:=by omega
   have c:decide ((C (l xs):Int)>0)=decide (-z xs<0):=by
    rw[decide_eq_decide];omega
   simp only[Rm,HG,if_true,b,c,<- a]
 rw[<- e];exact h
theorem ZN{u:Int}(h:0<=u/\u<18446744073709551616):DJ [J Bm u,J Bm (Bd u (2^(min (L 32) (Bu .u64))))]/\z [J Bm u,J Bm (Bd u (2^(min (L 32) (Bu .u64))))]=u:=by
 have e:Bd u (2^(min (L 32) (Bu .u64)))=u / 4294967296:=by
  show Bd u 4294967296=_;rw[Fl _ (by omega)]
 rw[e,NB,NB];refine⟨fun x a => ?_,?_⟩
 ·simp only[Aw,AD,or_false] at a;rcases a with rfl | rfl <;> omega
 ·simp only[z];omega
theorem Aec(n:Int)(c1:decide (n<0)=true)(a:RQ 108 [I (E (n<0)),G 2 [A Bm (J Bm (J A3 (0-(J A3 n)))),A Bm (J Bm (Bd (J A3 (0-(J A3 n))) (2^(min (L 32) (Bu .u64)))))]] (.frs (.st (E (n<0))) 1 (C (o (Ax n))) (lm (o (Ax n))))):RQ 33 [A D n] (M [I (E (n<0)),y lm (o (Ax n))]):=N (ps:=[E (n<0)=true,¬ (32:Int)<0,RQ 108 [I (E (n<0)),G 2 [A Bm (J Bm (J A3 (0-(J A3 n)))),A Bm (J Bm (Bd (J A3 (0-(J A3 n))) (2^(min (L 32) (Bu .u64)))))]] (.frs (.st (E (n<0))) 1 (C (o (Ax n))) (lm (o (Ax n))))]) EL rfl 300 rfl [q,.r (.frs (.st (E (n<0))) 1 (C (o (Ax n))) (lm (o (Ax n))))] (by kernel_rfl) ⟨c1,(by decide),a,trivial⟩
theorem Aed(n:Int)(c1:decide (n<0)=false)(a:RQ 108 [I (E (n<0)),G 2 [A Bm (J Bm (J A3 n)),A Bm (J Bm (Bd (J A3 n) (2^(min (L 32) (Bu .u64)))))]] (.frs (.st (E (n<0))) 1 (C (o (Ax n))) (lm (o (Ax n))))):RQ 33 [A D n] (M [I (E (n<0)),y lm (o (Ax n))]):=N (ps:=[E (n<0)=false,¬ (32:Int)<0,RQ 108 [I (E (n<0)),G 2 [A Bm (J Bm (J A3 n)),A Bm (J Bm (Bd (J A3 n) (2^(min (L 32) (Bu .u64)))))]] (.frs (.st (E (n<0))) 1 (C (o (Ax n))) (lm (o (Ax n))))]) EL rfl 300 rfl [Y,.r (.frs (.st (E (n<0))) 1 (C (o (Ax n))) (lm (o (Ax n))))] (by kernel_rfl) ⟨c1,(by decide),a,trivial⟩
theorem K0{n:Int}(hn : -9223372036854775808<=n/\n<=9223372036854775807):RQ 33 [A D n] (B4 n):=by
 cases c1:decide (n<0) with
 | true =>
  have h0:n<0:=by simpa using c1
  have a:J A3 (0-J A3 n) = -n:=by rw[Es,Es];omega
  obtain⟨b,c⟩:=ZN (u:=J A3 (0-J A3 n)) (by rw[a];omega);refine Aec n c1 ?_;have:=Mn (neg:=true) b (by simp);have e:(if true=true then -z [J Bm (J A3 (0-J A3 n)),J Bm (Bd (J A3 (0-J A3 n)) (2^(min (L 32) (Bu .u64))))] else z [J Bm (J A3 (0-J A3 n)),J Bm (Bd (J A3 (0-J A3 n)) (2^(min (L 32) (Bu .u64))))])=n:=by
   rw[c,Af rfl,a];omega
  rw[e,HG,c1] at this;rw[c1];exact this
 | false =>
  have h0:¬ n<0:=by simpa using c1
  have a:J A3 n=n:=by rw[Es];omega
  obtain⟨b,c⟩:=ZN (u:=J A3 n) (by rw[a];omega);refine Aed n c1 ?_;have:=Mn (neg:=false) b (by simp);have e:(if false=true then -z [J Bm (J A3 n),J Bm (Bd (J A3 n) (2^(min (L 32) (Bu .u64))))] else z [J Bm (J A3 n),J Bm (Bd (J A3 n) (2^(min (L 32) (Bu .u64))))])=n:=by
   rw[Ak (by decide),c,a]
  rw[e,HG,c1] at this;rw[c1];exact this
def TBA:Bo:=TB0
theorem Ch:AQ Cy TBA:=EL
def Oj:ICode:=CG bH 93 116
section
variable(N:Nat)(cs:u)(M:Nat)(a:u)
def GM(v i:Int):V:=X (G N cs)::X (G M a)::W 2 (vi v::vi i::W 35 [])
theorem Any(v i x y:Int)(c1:E (i>=0)=true)(c2:(x != y)=true)(c3:E (x<y)=true)(b:0<=i/\i<N)(c:Ae (R (L i*1) cs) 0 1 true=some (A Bm x))(d:0<=i/\i<M)(e:Ae (R (L i*1) a) 0 1 true=some (A Bm y))(f:0<=i/\i<N)(g:Ae (R (L i*1) cs) 0 1 true=some (A Bm x))(h:0<=i/\i<M)(j:Ae (R (L i*1) a) 0 1 true=some (A Bm y)):w Oj (GM N cs M a v i) .ret (GM N cs M a (-1) i):=BU Ch 300 [q,.v (A Bm x),.v (A Bm y),q,.v (A Bm x),.v (A Bm y),q] sJ (Lk c1 b c d e c2 f g h j c3) (by kernel_rfl)
theorem Anz(v i x y:Int)(c1:E (i>=0)=true)(c2:(x != y)=true)(c3:E (x<y)=false)(b:0<=i/\i<N)(c:Ae (R (L i*1) cs) 0 1 true=some (A Bm x))(d:0<=i/\i<M)(e:Ae (R (L i*1) a) 0 1 true=some (A Bm y))(f:0<=i/\i<N)(g:Ae (R (L i*1) cs) 0 1 true=some (A Bm x))(h:0<=i/\i<M)(j:Ae (R (L i*1) a) 0 1 true=some (A Bm y)):w Oj (GM N cs M a v i) .ret (GM N cs M a 1 i):=BU Ch 300 [q,.v (A Bm x),.v (A Bm y),q,.v (A Bm x),.v (A Bm y),Y] sJ (Lk c1 b c d e c2 f g h j c3) (by kernel_rfl)
theorem Aoa(v i x y:Int)(c1:E (i>=0)=true)(c2:(x != y)=false)(b:0<=i/\i<N)(c:Ae (R (L i*1) cs) 0 1 true=some (A Bm x))(d:0<=i/\i<M)(e:Ae (R (L i*1) a) 0 1 true=some (A Bm y)):w Oj (GM N cs M a v i) .norm (GM N cs M a v (J D (i-1))):=BU Ch 300 [q,.v (A Bm x),.v (A Bm y),Y] sJ (Kf c1 b c d e c2) (by kernel_rfl)
theorem Aob(v i:Int)(c1:E (i>=0)=false):w Oj (GM N cs M a v i) xZ0 (GM N cs M a v i):=BU Ch 300 [Y] sJ (Bp c1) (by kernel_rfl)
end
def Eu(a b:Int):Int:=if a<b then -1 else if b<a then 1 else 0
def Fm(n:Int):Int:=if n<0 then -1 else if 0<n then 1 else 0
def Ol(xs a:LI):Nat->Int
 | 0=>0
 | m+1=>if O xs m 0=O a m 0 then Ol xs a m else if O xs m 0<O a m 0 then -1 else 1
theorem Om(xs:LI)(m:Nat)(h:m<C xs):z (xs.take (m+1))=z (xs.take m)+4294967296^m*O xs m 0:=by
 rw[A1j,Ad h,Auh,LY];have:C (xs.take m)=m:=by simp;omega
 rw[this];simp[z,Z,Ad h]
theorem ZO{A B x y P:Int}(a:0<=A/\A<P)(b:0<=B/\B<P)(h:x<y):A+P*x<B+P*y:=by
 have:=Cz (show x+1<=y by omega) (show 0<=P by omega);rw[Pv,Arj] at this;omega
theorem Aee{xs a:LI}(k:DJ xs)(l:DJ a):∀ m,m<=C xs->m<=C a->Ol xs a m=Eu (z (xs.take m)) (z (a.take m)):=by
 intro m;induction m with
 | zero=>intro _ _;simp[Ol,Eu,z]
 | succ m n =>
  intro h1 h2;simp only[Ol];rw[Om xs m (by omega),Om a m (by omega)];have f:DJ (xs.take m):=fun x b=>k x (B8 b);have g:DJ (a.take m):=fun x b=>l x (B8 b);have i:=Fa f;have c:=JF f;have j:=Fa g;have d:=JF g;rw[show C (xs.take m)=m by simp;omega] at c;rw[show C (a.take m)=m by simp;omega] at d;by_cases h:O xs m 0=O a m 0
  ·rw[Af h,n (by omega) (by omega),h];unfold Eu;congr 1
   ·rw[eq_iff_iff];omega
   ·congr 1;rw[eq_iff_iff];omega
  ·rw[Ak h];by_cases e:O xs m 0<O a m 0
   ·rw[Af e];have:=ZO ⟨i,c⟩ ⟨j,d⟩ e;unfold Eu;rw[Af this]
   ·rw[Ak e];have:=ZO ⟨j,d⟩ ⟨i,c⟩ (show O a m 0<O xs m 0 by omega);unfold Eu;rw[Ak (by omega),Af this]
theorem Aef(xs a:LI)(n:C xs<=1048576)(hl:C xs=C a):∀ m,m<=C xs ->
  (Ol xs a m=0/\w (.loop Oj) (GM (C xs) (lm xs) (C a) (lm a) 0 (m-1)) xZ0 (GM (C xs) (lm xs) (C a) (lm a) 0 (-1))) \/
  (Ol xs a m ≠ 0/\∃ j,w (.loop Oj) (GM (C xs) (lm xs) (C a) (lm a) 0 (m-1)) .ret (GM (C xs) (lm xs) (C a) (lm a) (Ol xs a m) j)):=by
 intro m;induction m with
 | zero =>
  intro _;left;refine⟨rfl,?_⟩;exact f (Aob (C xs) (lm xs) (C a) (lm a) 0 ((0:Nat)-1) (by simp))
 | succ m k =>
  intro o;have e0:((m+1:Nat):Int)-1=(m:Int):=by omega
  have l:J D (m-1)=(m:Int)-1:=Bb (by omega) (by omega);have b:=J2 (xs:=xs) (i:=m) (by omega);have c:=J2 (xs:=a) (i:=m) (by omega);rw[e0];simp only[Ol];by_cases h:O xs m 0=O a m 0
  ·rw[Af h];have h1:=Aoa (C xs) (lm xs) (C a) (lm a) 0 m (O xs m 0) (O a m 0) (by simp) (by simpa using h) (by omega) (by rw[Ao];exact b) (by omega) (by rw[Ao];exact c);rw[l] at h1;rcases k (by omega) with ⟨e,g⟩ | ⟨e,j,g⟩
   ·exact .inl ⟨e,Ay h1 g⟩
   ·exact .inr ⟨e,j,Ay h1 g⟩
  ·rw[Ak h];right;by_cases d:O xs m 0<O a m 0
   ·rw[Af d];refine⟨by decide,(m:Int),?_⟩;exact f (Any (C xs) (lm xs) (C a) (lm a) 0 m (O xs m 0) (O a m 0) (by simp) (by simpa using h) (by simpa using d) (by omega) (by rw[Ao];exact b) (by omega) (by rw[Ao];exact c) (by omega) (by rw[Ao];exact b) (by omega) (by rw[Ao];exact c))
   ·rw[Ak d];refine⟨by decide,(m:Int),?_⟩;exact f (Anz (C xs) (lm xs) (C a) (lm a) 0 m (O xs m 0) (O a m 0) (by simp) (by simpa using h) (by simpa using d) (by omega) (by rw[Ao];exact b) (by omega) (by rw[Ao];exact c) (by omega) (by rw[Ao];exact b) (by omega) (by rw[Ao];exact c))
section
variable(xs a:LI)
theorem nP(h:((C xs:Int) != (C a:Int))=true)(h2:E ((C xs:Int)<(C a:Int))=true):RQ 227 [y lm xs,y lm a] (A D (-1)):=N (ps:=[((C xs:Int) != (C a:Int))=true,E ((C xs:Int)<(C a:Int))=true]) Ch rfl 300 rfl [q,q] (by kernel_rfl) ⟨h,h2,trivial⟩
theorem nQ(h:((C xs:Int) != (C a:Int))=true)(h2:E ((C xs:Int)<(C a:Int))=false):RQ 227 [y lm xs,y lm a] (A D 1):=N (ps:=[((C xs:Int) != (C a:Int))=true,E ((C xs:Int)<(C a:Int))=false]) Ch rfl 300 rfl [q,Y] (by kernel_rfl) ⟨h,h2,trivial⟩
theorem nR(h:((C xs:Int) != (C a:Int))=false)(hl:w (.loop Oj) (GM (C xs) (lm xs) (C a) (lm a) 0 (J D (C xs-1))) xZ0 (GM (C xs) (lm xs) (C a) (lm a) 0 (-1))):RQ 227 [y lm xs,y lm a] (A D 0):=IU bH (X (y lm xs)::X (y lm a)::W 2 (vi 0::vi (-1)::W 35 [])) (T (BU (t:=(vl xs::vl a::W 2 (vi 0::W 36 []))) Ch 300 [] [0,1,4] a0) (T (BU (t:=(vl xs::vl a::W 2 (vi 0::W 1 (vl xs::vi (C xs:Int)::vl a::vi (C a:Int)::X (I ((C xs:Int) != (C a:Int)))::W 30 [])))) Ch 300 [Y] [0,1,4,6,7,8,9,10] (Bp h)) (T (T (BU (t:=(vl xs::vl a::W 2 (vi 0::vi (J D (C xs-1))::W 35 []))) Ch 300 [] sJ a0) (m hl)) (BU (t:=(vl xs::vl a::W 2 (vi 0::vi (-1)::W 35 []))) (ex := .ret) Ch 300 [] sJ a0))))
theorem nS(r j:Int)(h:((C xs:Int) != (C a:Int))=false)(hl:w (.loop Oj) (GM (C xs) (lm xs) (C a) (lm a) 0 (J D (C xs-1))) .ret (GM (C xs) (lm xs) (C a) (lm a) r j)):RQ 227 [y lm xs,y lm a] (A D r):=IU bH (X (y lm xs)::X (y lm a)::W 2 (vi r::vi j::W 35 [])) (T (BU (t:=(vl xs::vl a::W 2 (vi 0::W 36 []))) Ch 300 [] [0,1,4] a0) (T (BU (t:=(vl xs::vl a::W 2 (vi 0::W 1 (vl xs::vi (C xs:Int)::vl a::vi (C a:Int)::X (I ((C xs:Int) != (C a:Int)))::W 30 [])))) Ch 300 [Y] [0,1,4,6,7,8,9,10] (Bp h)) (d (T (BU (t:=(vl xs::vl a::W 2 (vi 0::vi (J D (C xs-1))::W 35 []))) Ch 300 [] sJ a0) (n hl)))))
end
theorem ZP{xs a:LI}(b:Hk xs)(c:Hk a)(h:C xs<C a):z xs<z a:=by
 have h1:=JF b.1;have h2:=RT c (by intro e;rw[e] at h;simp at h);have:=Tq (show C xs<=C a-1 by omega);omega
theorem On{xs a:LI}(b:Hk xs)(c:Hk a)(k:C xs<=1048576):RQ 227 [y lm xs,y lm a] (A D (Eu (z xs) (z a))):=by
 by_cases hl:C xs=C a
 ·have h:((C xs:Int) != (C a:Int))=false:=by rw[hl];simp
  have d:=Aee b.1 c.1 (C xs) (Ar _) (by omega);rw[aH,hl,aH,<- hl] at d;have g:J D (C xs-1)=(C xs:Int)-1:=Bb (by omega) (by omega);rcases Aef xs a k hl (C xs) (Ar _) with ⟨i,f⟩ | ⟨i,j,f⟩
  ·rw[<- d,i];exact nR xs a h (by rw[g];exact f)
  ·rw[<- d];exact nS xs a _ j h (by rw[g];exact f)
 ·have h:((C xs:Int) != (C a:Int))=true:=by simp;omega
  by_cases l:C xs<C a
  ·have e:Eu (z xs) (z a) = -1:=by unfold Eu;rw[Af (ZP b c l)]
   rw[e];exact nP xs a h (by simp;omega)
  ·have:=ZP c b (by omega);have e:Eu (z xs) (z a)=1:=by unfold Eu;rw[Ak (by omega),Af this]
   rw[e];exact nQ xs a h (by simp;omega)
theorem fC(n:Nat):l (o n)=o n:=by
 have:=RS (DZ n).1;rw[this,Gn,Ao]
theorem FM{n:Nat}(a:C (o n)<=1048576):RQ 211 [y lm (o n)] (P 1 (C (o n)) (lm (o n))):=by
 have:=II (AR a (by decide));rwa [fC] at this
section
variable(neg:Bool)(m:Nat)
def Uk:AV :=
 match (C (o m):Int)==0 with
 | true=>(A D 0)
 | false=>(match neg with
 | true=>(A D (-1))
 | false=>A D 1)
theorem Aoc(a:C (o m)<=1048576):RQ 153 [M [I neg,y lm (o m)]] (Uk neg m):=by
 unfold Uk;cases c1:((C (o m):Int)==0)
 ·cases neg
  ·exact N (r := A D 1) (ps:=[RQ 211 [y lm (o m)] (P 1 (C (o m)) (lm (o m))),((C (o m):Int)==0)=false,false=false]) Ch rfl 300 rfl [.r (P 1 (C (o m)) (lm (o m))),Y,Y] (by kernel_rfl) ⟨(FM a),c1,rfl,trivial⟩
  ·exact N (r := A D (-1)) (ps:=[RQ 211 [y lm (o m)] (P 1 (C (o m)) (lm (o m))),((C (o m):Int)==0)=false,true=true]) Ch rfl 300 rfl [.r (P 1 (C (o m)) (lm (o m))),Y,q] (by kernel_rfl) ⟨(FM a),c1,rfl,trivial⟩
 ·exact N (r := A D 0) (ps:=[RQ 211 [y lm (o m)] (P 1 (C (o m)) (lm (o m))),((C (o m):Int)==0)=true]) Ch rfl 300 rfl [.r (P 1 (C (o m)) (lm (o m))),q] (by kernel_rfl) ⟨(FM a),c1,trivial⟩
def CJ:Int:=if m=0 then 0 else if neg then -1 else 1
end
theorem H0{neg:Bool}{m:Nat}(b:C (o m)<=1048576):RQ 153 [M [I neg,y lm (o m)]] (A D (CJ neg m)):=by
 have h:=Aoc neg m b;have e:Uk neg m = A D (CJ neg m):=by
  unfold Uk CJ;have c:C (o m)=0↔m=0:=by rw[Uz,PP]
  by_cases h0:m=0
  ·have a:((C (o m):Int)==0)=true:=by rw[AW];omega
   rw[a,Af h0]
  ·have a:((C (o m):Int)==0)=false:=by rw[H8];omega
   rw[a,Ak h0];cases neg <;> rfl
 rw[<- e];exact h
theorem nT(n:Int):CJ (E (n<0)) (Ax n)=Fm n:=by
 unfold CJ Fm;by_cases h0:n=0
 ·subst h0;rfl
 ·rw[Ak (by omega)];by_cases h1:n<0
  ·simp[h1]
  ·have h2:0<n:=by omega
   simp[h1,h2]
section
variable(c:Bool)(a:Nat)(d:Bool)(b:Nat)
def Ul:AV :=
 match decide (CJ c a<CJ d b) with
 | true=>(A D (-1))
 | false=>(match decide (CJ c a>CJ d b) with
 | true=>(A D 1)
 | false=>(match decide (CJ c a<0) with
 | true=>(A D (J D (0-(Eu (z (o a)) (z (o b))))))
 | false=>A D (Eu (z (o a)) (z (o b)))))
theorem Aod(e:C (o a)<=1048576)(hb:C (o b)<=1048576):RQ 142 [M [I c,y lm (o a)],M [I d,y lm (o b)]] (Ul c a d b):=by
 unfold Ul;cases c1:(E (CJ c a<CJ d b))
 ·cases c2:(E (CJ c a>CJ d b))
  ·cases c3:(E (CJ c a<0))
   ·exact N (r := A D (Eu (z (o a)) (z (o b)))) (ps:=[RQ 153 [M [I c,y lm (o a)]] (A D (CJ c a)),RQ 153 [M [I d,y lm (o b)]] (A D (CJ d b)),E (CJ c a<CJ d b)=false,E (CJ c a>CJ d b)=false,RQ 211 [y lm (o a)] (P 1 (C (o a)) (lm (o a))),RQ 211 [y lm (o b)] (P 1 (C (o b)) (lm (o b))),RQ 227 [y lm (o a),y lm (o b)] (A D (Eu (z (o a)) (z (o b)))),E (CJ c a<0)=false]) Ch rfl 300 rfl [.r (A D (CJ c a)),.r (A D (CJ d b)),Y,Y,.r (P 1 (C (o a)) (lm (o a))),.r (P 1 (C (o b)) (lm (o b))),.r (A D (Eu (z (o a)) (z (o b)))),Y] (by kernel_rfl) ⟨(H0 e),H0 hb,c1,c2,FM e,FM hb,On (DZ _) (DZ _) e,c3,trivial⟩
   ·exact N (r := A D (J D (0-(Eu (z (o a)) (z (o b)))))) (ps:=[RQ 153 [M [I c,y lm (o a)]] (A D (CJ c a)),RQ 153 [M [I d,y lm (o b)]] (A D (CJ d b)),E (CJ c a<CJ d b)=false,E (CJ c a>CJ d b)=false,RQ 211 [y lm (o a)] (P 1 (C (o a)) (lm (o a))),RQ 211 [y lm (o b)] (P 1 (C (o b)) (lm (o b))),RQ 227 [y lm (o a),y lm (o b)] (A D (Eu (z (o a)) (z (o b)))),E (CJ c a<0)=true]) Ch rfl 300 rfl [.r (A D (CJ c a)),.r (A D (CJ d b)),Y,Y,.r (P 1 (C (o a)) (lm (o a))),.r (P 1 (C (o b)) (lm (o b))),.r (A D (Eu (z (o a)) (z (o b)))),q] (by kernel_rfl) ⟨(H0 e),H0 hb,c1,c2,FM e,FM hb,On (DZ _) (DZ _) e,c3,trivial⟩
  ·exact N (r := A D 1) (ps:=[RQ 153 [M [I c,y lm (o a)]] (A D (CJ c a)),RQ 153 [M [I d,y lm (o b)]] (A D (CJ d b)),E (CJ c a<CJ d b)=false,E (CJ c a>CJ d b)=true]) Ch rfl 300 rfl [.r (A D (CJ c a)),.r (A D (CJ d b)),Y,q] (by kernel_rfl) ⟨(H0 e),H0 hb,c1,c2,trivial⟩
 ·exact N (r := A D (-1)) (ps:=[RQ 153 [M [I c,y lm (o a)]] (A D (CJ c a)),RQ 153 [M [I d,y lm (o b)]] (A D (CJ d b)),E (CJ c a<CJ d b)=true]) Ch rfl 300 rfl [.r (A D (CJ c a)),.r (A D (CJ d b)),q] (by kernel_rfl) ⟨(H0 e),H0 hb,c1,trivial⟩
end
theorem Aoe{a b:Int}(i:C (o (Ax a))<=1048576)(hb:C (o (Ax b))<=1048576):RQ 142 [B4 a,B4 b] (A D (Eu a b)):=by
 have h:=Aod (E (a<0)) (Ax a) (E (b<0)) (Ax b) i hb;have e:Ul (E (a<0)) (Ax a) (E (b<0)) (Ax b) = A D (Eu a b):=by
  unfold Ul;rw[Gn,Gn,nT,nT];have hr : -1<=Eu (Ax a) (Ax b)/\Eu (Ax a) (Ax b)<=1:=by unfold Eu;split <;> (try split) <;> omega
  rw[wqz];have sa:(Fm a = -1/\a<0)\/(Fm a=0/\a=0)\/(Fm a=1/\0<a):=by unfold Fm;split <;> (try split) <;> omega
  have j:(Fm b = -1/\b<0)\/(Fm b=0/\b=0)\/(Fm b=1/\0<b):=by unfold Fm;split <;> (try split) <;> omega
  rcases sa with ⟨c,f⟩ | ⟨c,f⟩ | ⟨c,f⟩ <;> rcases j with ⟨d,g⟩ | ⟨d,g⟩ | ⟨d,g⟩ <;> rw[c,d] <;> unfold Eu;all_goals (simp only[Int.reduceLT,Int.reduceNeg,gt_iff_lt,decide_true,decide_false,Int.lt_irrefl])
  all_goals (congr 1; (repeat' split) <;> omega)
 rw[<- e];exact h
def TBB:Bo:=TBA
theorem DD:AQ Cy TBB:=Ch
def Um:ICode:=CG bI 93 116
def Un:ICode:=CG bI 85 29844
section
variable(la:Nat)(b:u)(a:Nat)(bs:u)(n:Nat)
def K1(cs:u)(i:Int):V:=X (G la b)::X (G a bs)::W 2 (An 1 0 []::An 1 n cs::vi i::W 59 [])
def K3(cs:u)(i c k:Int):V:=X (G la b)::X (G a bs)::W 2 (An 1 0 []::An 1 n cs::vi i::X (A A3 c)::vi k::W 57 [])
theorem Aeg(cs d:u)(i c k x y z:Int)(c1:E (k<a)=true)(e:0<=J D (i+k)/\J D (i+k)<(n:Int))(f:Ae cs (L (J D (i+k))*1) 1 true=some (A Bm z))(g:0<=i/\i<la)(j:Ae (R (L i*1) b) 0 1 true=some (A Bm x))(o:0<=k/\k<a)(p:Ae (R (L k*1) bs) 0 1 true=some (A Bm y))(r:0<=J D (i+k)/\J D (i+k)<(n:Int))(s:BE cs (L (J D (i+k))*1) [A Bm (J Bm (J A3 (c+J A3 (J A3 z+J A3 (J A3 x*J A3 y)))))]=some d):w Un (K3 la b a bs n cs i c k) .norm (K3 la b a bs n d i (Bd (J A3 (c+J A3 (J A3 z+J A3 (J A3 x*J A3 y)))) (2^(min (L 32) (Bu .u64)))) (J D (k+1))):=BU DD 300 [q,.v (A Bm z),.v (A Bm x),.v (A Bm y),.l d] [0,1,4,5,6,7,8] (Ig c1 e f g j o p r s sw7) (by kernel_rfl)
theorem Aeh(cs:u)(i c k:Int)(c1:E (k<a)=false):w Un (K3 la b a bs n cs i c k) xZ2 (K3 la b a bs n cs i c k):=BU DD 300 [Y] [0,1,4,5,6,7,8] (Bp c1) (by kernel_rfl)
theorem uH(cs:u)(i:Int)(h:E (i<la)=false):w Um (K1 la b a bs n cs i) xZ0 (K1 la b a bs n cs i):=BU DD 300 [Y] UT (Bp (show (E (i<(la:Int)))=false from h)) (by kernel_rfl)
theorem nU(cs d es:u)(i c k:Int)(h:E (i<la)=true)(hl:w (.loop Un) (K3 la b a bs n cs i 0 0) xZ2 (K3 la b a bs n d i c k))(B:0<=J D (i+a)/\J D (i+a)<(n:Int))(C:BE d (L (J D (i+a))*1) [A Bm (J Bm c)]=some es):w Um (K1 la b a bs n cs i) .norm (K1 la b a bs n es (J D (i+1))):=T (BU (t:=(X (G la b)::X (G a bs)::W 2 (An 1 0 []::An 1 n cs::vi i::W 8 (vi i::X (G la b)::vi (la:Int)::X (I (E (i<(la:Int))))::W 47 [])))) DD 300 [q] [0,1,4,5,6,15,16,17,18] (Bp (show (E (i<(la:Int)))=true from h))) (T (Bc (T (BU (t:=(X (G la b)::X (G a bs)::W 2 (An 1 0 []::An 1 n cs::vi i::X (A A3 0)::W 7 (vi i::X (G la b)::vi (la:Int)::X (I (E (i<(la:Int))))::W 47 [])))) DD 300 [] [0,1,4,5,6,7,15,16,17,18] a0) (T (T (BU (t:=(X (G la b)::X (G a bs)::W 2 (An 1 0 []::An 1 n cs::vi i::X (A A3 0)::vi 0::W 57 []))) DD 300 [] [0,1,4,5,6,7,8] a0) (m hl)) (BU (t:=(X (G la b)::X (G a bs)::W 2 (An 1 0 []::An 1 n es::vi i::X (A A3 c)::vi k::W 48 (.dup 5::vi i::X (G a bs)::vi (a:Int)::vi (J D (i+a))::X (A A3 c)::X (A Bm (J Bm c))::.ptr 5 (L (J D (i+a))*1)::W 1 [])))) DD 300 [.l es] [0,1,4,5,6,7,8,57,58,59,60,61,62,63,64] (GY B C))))) (BU (t:=(X (G la b)::X (G a bs)::W 2 (An 1 0 []::An 1 n es::vi (J D (i+1))::W 59 []))) DD 300 [] UT a0))
end
def Ir(a:Int)(bs:LI)(i:Nat):Nat->Nat->LI->Int->LI × Int
 | 0,_,out,c=>(out,c)
 | r+1,k,out,c=>Ir a bs i r (k+1) (out.set (i+k) ((c+(O out (i+k) 0+a*O bs k 0)) % 4294967296)) ((c+(O out (i+k) 0+a*O bs k 0)) / 4294967296)
theorem nV{a b c o:Int}(d:0<=a/\a<4294967296)(hb:0<=b/\b<4294967296)(hc:0<=c/\c<4294967296)(ho:0<=o/\o<4294967296) :
  0<=a*b/\a*b<=18446744065119617025/\0<=c+(o+a*b)/\c+(o+a*b)<18446744073709551616:=by
 have h1:=F3 d.1 hb.1;have h2:a*b<=4294967295*4294967295:=P9 (by omega) (by omega) hb.1 (by omega);omega
theorem Ro{xs:LI}{i j:Nat}{v:Int}(h:i ≠ j):O (xs.set i v) j 0=O xs j 0:=by
 simp only[Z,Do h]
theorem Aei{a:Int}{bs:LI}{i:Nat}(d:0<=a/\a<4294967296)(hb:DJ bs):∀ (r k:Nat) (out:LI) (c:Int),r+k=C bs->i+C bs<=C out->DJ out->0<=c/\c<4294967296 ->
  C (Ir a bs i r k out c).1=C out/\DJ (Ir a bs i r k out c).1/\(0<=(Ir a bs i r k out c).2/\(Ir a bs i r k out c).2<4294967296) /\
  z (Ir a bs i r k out c).1+4294967296^(i+C bs)*(Ir a bs i r k out c).2=z out+4294967296^(i+k)*(c+a*z (bs.drop k)) /\
  ∀ j,i+C bs<=j->O (Ir a bs i r k out c).1 j 0=O out j 0:=by
 intro r;induction r with
 | zero =>
  intro k out c e _ hu hc;have f:k=C bs:=by omega
  subst f;refine⟨rfl,hu,hc,?_,fun _ _=>rfl⟩;simp[Ir,z]
 | succ r g =>
  intro k out c e hl hu hc;have h:=FU hb k;have l:=FU hu (i+k);obtain⟨E,F,G,H⟩:=nV d h hc l;have n:i+k<C out:=by omega
  simp only[Ir];generalize I:c+(O out (i+k) 0+a*O bs k 0)=W at *
  have s:0<=W % 4294967296/\W % 4294967296<4294967296:=by omega
  obtain⟨t,u,v,w,x⟩:=g (k+1) (out.set (i+k) (W % 4294967296)) (W / 4294967296) (by omega) (by simpa using hl) (U_ hu s) (by omega);refine⟨by simpa using t,u,v,?_,fun j y => ?_⟩
  ·rw[w,Z4 out (i+k) _ n];have hd:z (bs.drop k)=O bs k 0+4294967296*z (bs.drop (k+1)):=by
    rw[Jf (show k<C bs by omega)];simp[z,Z,Ad (show k<C bs by omega)]
   rw[hd];have A:(4294967296:Int)^(i+(k+1))=4294967296^(i+k)*4294967296:=by rw[<- Fs,EV]
   rw[A];generalize (4294967296:Int)^(i+k)=p at *
   generalize z (bs.drop (k+1))=V at *
   have B:W=4294967296*(W / 4294967296)+W % 4294967296:=by omega
   have D:c=W-O out (i+k) 0-a*O bs k 0:=by omega
   rw[D];generalize W / 4294967296=q at *
   generalize W % 4294967296=m at *
   generalize O out (i+k) 0=o at *
   generalize O bs k 0=b at *
   subst B;grind
  ·rw[x j y,Ro (by omega)]
theorem uI(a bs:LI)(e:DJ a)(hb:DJ bs)(n i:Nat)(hn:n<=1048576)(hi:i<C a)(B:i+C bs<=n):∀ (r k:Nat) (out:LI) (c:Int),r+k=C bs->C out=n->DJ out->0<=c/\c<4294967296 ->
  w (.loop Un) (K3 (C a) (lm a) (C bs) (lm bs) n (lm out) i c k) xZ2
   (K3 (C a) (lm a) (C bs) (lm bs) n (lm (Ir (O a i 0) bs i r k out c).1) i (Ir (O a i 0) bs i r k out c).2 (C bs)):=by
 intro r;induction r with
 | zero =>
  intro k out c g _ _ _;have h:k=C bs:=by omega
  subst h;exact f (Aeh (C a) (lm a) (C bs) (lm bs) n (lm out) i c (C bs) (by simp))
 | succ r j =>
  intro k out c g hl hu hc;have l:=FU e i;have m:=FU hb k;have o:=FU hu (i+k);obtain⟨E,F,G,H⟩:=nV l m hc o;have b:J D (i+k)=((i+k:Nat):Int):=wrz
  have p:J D (k+1)=((k+1:Nat):Int):=wrz
  have q:=Aip (xs:=out) (i:=i+k) (by omega);have s:=J2 (xs:=a) (i:=i) hi;have t:=J2 (xs:=bs) (i:=k) (by omega);have u:=jL (xs:=out) (i:=i+k) (v:=(c+(O out (i+k) 0+O a i 0*O bs k 0)) % 4294967296) (by omega);have d:J A3 (c+J A3 (J A3 (O out (i+k) 0)+J A3 (J A3 (O a i 0)*J A3 (O bs k 0))))=c+(O out (i+k) 0+O a i 0*O bs k 0):=by
   have x:J A3 (O a i 0)=O a i 0:=by rw[Es];omega
   have y:J A3 (O bs k 0)=O bs k 0:=by rw[Es];omega
   have z:J A3 (O out (i+k) 0)=O out (i+k) 0:=by rw[Es];omega
   rw[x,y,z,Es,Es,Es];omega
  have A:Bd (c+(O out (i+k) 0+O a i 0*O bs k 0)) (2^(min (L 32) (Bu .u64)))=(c+(O out (i+k) 0+O a i 0*O bs k 0)) / 4294967296:=by
   show Bd _ 4294967296=_;rw[Fl _ (by omega)]
  have h1:=Aeg (C a) (lm a) (C bs) (lm bs) n (lm out) (lm (out.set (i+k) ((c+(O out (i+k) 0+O a i 0*O bs k 0)) % 4294967296))) i c k (O a i 0) (O bs k 0) (O out (i+k) 0)
   (by simp;omega) (by rw[b];omega) (by rw[b,Ao];exact q) (by omega) (by rw[Ao];exact s) (by omega) (by rw[Ao];exact t) (by rw[b];omega) (by rw[b,Ao,d,NB];exact u)
  rw[d,A,p] at h1;exact Ay h1 (j (k+1) _ _ (by omega) (by simpa using hl) (U_ hu (by omega)) (by omega))
theorem uJ(a bs:LI)(k:DJ a)(hb:DJ bs)(s:C a+C bs<=1048576):∀ (r i:Nat) (out:LI),r+i=C a->C out=C a+C bs->DJ out->(∀ j,i+C bs<=j->O out j 0=0) ->
  ∃ b,C b=C a+C bs/\DJ b/\z b=z out+4294967296^i*(z (a.drop i)*z bs) /\
   w (.loop Um) (K1 (C a) (lm a) (C bs) (lm bs) (C a+C bs) (lm out) i) xZ0 (K1 (C a) (lm a) (C bs) (lm bs) (C a+C bs) (lm b) (C a)):=by
 intro r;induction r with
 | zero =>
  intro i out hi hl hu _;have t:i=C a:=by omega
  subst t;refine⟨out,hl,hu,by simp[z],?_⟩;exact f (uH (C a) (lm a) (C bs) (lm bs) (C a+C bs) (lm out) (C a) (by simp))
 | succ r u =>
  intro i out hi hl hu l;have x:=FU k i;have e:i<C a:=by omega
  have hin:=uI a bs k hb (C a+C bs) i s e (by omega) (C bs) 0 out 0 (by omega) hl hu (by omega);obtain⟨y,m,n,g,h⟩:=Aei (i:=i) x hb (C bs) 0 out 0 (by omega) (by omega) hu (by omega);generalize Ir (O a i 0) bs i (C bs) 0 out 0=q at *
  obtain⟨d,c⟩:=q;dsimp only at y m n g h hin;have o:J D (i+C bs)=((i+C bs:Nat):Int):=wrz
  have A:J D (i+1)=((i+1:Nat):Int):=wrz
  have B:J Bm c=c:=by rw[NB];omega
  have E:=jL (xs:=d) (i:=i+C bs) (v:=c) (by omega);have h1:=nU (C a) (lm a) (C bs) (lm bs) (C a+C bs) (lm out) (lm d) (lm (d.set (i+C bs) c)) i c (C bs) (by simp;omega) hin (by rw[o];omega) (by rw[o,Ao,B];exact E);rw[A] at h1;obtain⟨b,F,G,H,I⟩:=u (i+1) (d.set (i+C bs) c) (by omega) (by simp;omega) (U_ m n) (fun j L=>by rw[Ro (by omega),h j (by omega),l j (by omega)]);refine⟨b,F,G,?_,Ay h1 I⟩;have K:z (d.set (i+C bs) c)=z out+4294967296^i*(O a i 0*z bs):=by
   rw[Z4 d _ _ (by omega),h _ (Ar _),l _ (Ar _)];simp only[Bn,DF,Axz,Int.sub_zero] at g |-;exact g
  have hd:z (a.drop i)=O a i 0+4294967296*z (a.drop (i+1)):=by
   rw[Jf e];simp[z,Z,Ad e]
  rw[H,K,hd,EV];generalize (4294967296:Int)^i=p at *
  generalize z (a.drop (i+1))=V at *
  grind
theorem T2{a bs:LI}(d:DJ a)(hb:DJ bs)(e:C a+C bs<=1048576) :
  ∃ out,C out=C a+C bs/\DJ out/\z out=z a*z bs/\RQ 228 [y lm a,y lm bs] (P 1 (C out) (lm out)):=by
 have b:J D (C a+C bs)=((C a+C bs:Nat):Int):=wrz
 have c:L (J D (C a+C bs))=C a+C bs:=by rw[b,Ao]
 obtain⟨out,h1,h2,h,i⟩:=uJ a bs d hb e (C a) 0 (AK (C a+C bs) 0) (by omega) (by simp) (fun x k=>by rw[J6 k];omega) (fun j _=>by simp[Z,List.getElem?_replicate];split <;> rfl);refine⟨out,h1,h2,?_,?_⟩
 ·rw[h,jM];simp
 have l:0<=J D (C a+C bs)/\J D (C a+C bs)<=1048576:=by rw[b];omega
 have hl:w (.loop Um) (K1 (C a) (lm a) (C bs) (lm bs) (L (J D (C a+C bs))) (CE [A Bm 0] (L (J D (C a+C bs)))) 0) xZ0 (K1 (C a) (lm a) (C bs) (lm bs) (L (J D (C a+C bs))) (lm out) (C a)):=by
  rw[c,Abs];exact i
 have:=BR (prog:=Cy) (f:=228) (args:=[y lm a,y lm bs]) (r := P 1 (L (J D (C a+C bs))) (lm out)) (fn:=iF g bI) (s:=(X (y lm a)::X (y lm bs)::W 2 (An 1 (L (J D (C a+C bs))) (lm out)::W 1 (vi (C a:Int)::W 59 [])))) (ex := .ret) rfl rfl
  (T (C0 (t:=(X (y lm a)::X (y lm bs)::W 2 (An 1 0 []::W 61 []))) (ex := .norm) (ps:=[]) DD 300 [] [0,1,4] (by kernel_rfl) trivial)
  (T (C0 (t:=(X (y lm a)::X (y lm bs)::W 2 (An 1 0 []::An 1 (L (J D (C a+C bs))) (CE [A Bm 0] (L (J D (C a+C bs))))::W 3 (X (y lm a)::vi (C a:Int)::X (y lm bs)::vi (C bs:Int)::vi (J D (C a+C bs))::W 52 [])))) (ex := .norm) (ps:=[0<=J D (C a+C bs)/\J D (C a+C bs)<=1048576]) DD 300 [] [0,1,4,5,9,10,11,12,13] (by kernel_rfl) ⟨l,trivial⟩)
  (T (T (C0 (t:=(X (y lm a)::X (y lm bs)::W 2 (An 1 0 []::An 1 (L (J D (C a+C bs))) (CE [A Bm 0] (L (J D (C a+C bs))))::vi 0::W 59 []))) (ex := .norm) (ps:=[]) DD 300 [] UT (by kernel_rfl) trivial)
  (m hl))
  (C0 (t:=(X (y lm a)::X (y lm bs)::W 2 (An 1 (L (J D (C a+C bs))) (lm out)::W 1 (vi (C a:Int)::W 59 [])))) (ex := .ret) (ps:=[]) DD 300 [] [0,1,4,6] (by kernel_rfl) trivial)))) (by nofun) rfl
 rw[c,<- h1] at this;exact this
theorem Aof(e:Bool)(a:Nat)(f:Bool)(b:Nat)(d:Bool)(c:Nat)(out:LI)(g:C (o a)<=1048576)(hb:C (o b)<=1048576)(h:RQ 228 [y lm (o a),y lm (o b)] (P 1 (C out) (lm out)))(i:RQ 108 [I (!(e==f)),y lm out] (.frs (.st d) 1 (C (o c)) (lm (o c)))):RQ 143 [M [I e,y lm (o a)],M [I f,y lm (o b)]] (M [I d,y lm (o c)]):=N (ps:=[RQ 211 [y lm (o a)] (P 1 (C (o a)) (lm (o a))),RQ 211 [y lm (o b)] (P 1 (C (o b)) (lm (o b))),RQ 228 [y lm (o a),y lm (o b)] (P 1 (C out) (lm out)),RQ 108 [I (!(e==f)),y lm out] (.frs (.st d) 1 (C (o c)) (lm (o c)))]) DD rfl 300 rfl [.r (P 1 (C (o a)) (lm (o a))),.r (P 1 (C (o b)) (lm (o b))),.r (P 1 (C out) (lm out)),.r (.frs (.st d) 1 (C (o c)) (lm (o c)))] (by kernel_rfl) ⟨(FM g),FM hb,h,i,trivial⟩
theorem P'{a b:Int}(i:C (o (Ax a))+C (o (Ax b))<=1048576):RQ 143 [B4 a,B4 b] (B4 (a*b)):=by
 obtain⟨out,h1,h2,j,k⟩:=T2 (DZ (Ax a)).1 (DZ (Ax b)).1 i;have h:=Mn (neg := !(decide (a<0)==decide (b<0))) h2 (by omega);rw[j,Gn,Gn] at h;have e:(if (!(decide (a<0)==decide (b<0)))=true then -((Ax a:Int)*(Ax b:Int)) else (Ax a:Int)*(Ax b:Int))=a*b:=by
  by_cases f:a<0 <;> by_cases g:b<0
  ·have c:(Ax a:Int) = -a:=by omega
   have d:(Ax b:Int) = -b:=by omega
   rw[c,d];simp[f,g] <;> grind
  ·have c:(Ax a:Int) = -a:=by omega
   have d:(Ax b:Int)=b:=by omega
   rw[c,d];simp[f,g] <;> grind
  ·have c:(Ax a:Int)=a:=by omega
   have d:(Ax b:Int) = -b:=by omega
   rw[c,d];simp[f,g] <;> grind
  ·have c:(Ax a:Int)=a:=by omega
   have d:(Ax b:Int)=b:=by omega
   rw[c,d];simp[f,g] <;> grind
 rw[e] at h;exact Aof _ _ _ _ _ _ out (by omega) (by omega) k h
def TBC:Bo:=TBB
theorem Ca:AQ Cy TBC:=DD
theorem Aog(a b c d:Int) : -2305843009213693952<=i a b c d/\i a b c d<=2305843009213693952:=by
 unfold i;cases h1:e a b
 ·simp
 cases h2:e c d
 ·simp
 have f:=Ck h1;have g:=Ck h2;have h:=D4 (x:=a) (y:=c) (by omega) (by omega) (by omega) (by omega);have j:=D4 (x:=b) (y:=d) (by omega) (by omega) (by omega) (by omega);simp;omega
theorem uK(a b c d:Int) : -2305843009213693952<=j a b c d/\j a b c d<=2305843009213693952:=by
 unfold j;cases h1:e a b
 ·simp
 cases h2:e c d
 ·simp
 have f:=Ck h1;have g:=Ck h2;have h:=D4 (x:=a) (y:=d) (by omega) (by omega) (by omega) (by omega);have i:=D4 (x:=b) (y:=c) (by omega) (by omega) (by omega) (by omega);simp;omega
theorem GC{n:Int}(h1:E (n<1)=false)(h2:E (n>524288)=false) : -9223372036854775808<=n/\n<=9223372036854775807:=by
 simp at h1 h2;omega
theorem X8(a b c d:Int) : -9223372036854775808<=i a b c d/\i a b c d<=9223372036854775807:=by
 have:=Aog a b c d;omega
theorem Hq(a b c d:Int) : -9223372036854775808<=j a b c d/\j a b c d<=9223372036854775807:=by
 have:=uK a b c d;omega
section
variable(e f a b c d g:Int)
def Jt:Bool :=
 match BL e f 2097152 with
 | true=>(match BL a b 1048576 with
 | true=>(match BL c d 1048576 with
 | true=>(match decide (g<1) with
 | true=>(false)
 | false=>(match decide (g>524288) with
 | true=>(false)
 | false=>(match BS e f a b g with
 | true=>(true)
 | false=>(match BS e f c d g with
 | true=>(true)
 | false=>(match decide (i ((F e f a b).1) ((F e f a b).2) ((F c d a b).1) ((F c d a b).2)>0) with
 | true=>(match decide (i ((F e f a b).1) ((F e f a b).2) ((F c d a b).1) ((F c d a b).2)<i ((F c d a b).1) ((F c d a b).2) ((F c d a b).1) ((F c d a b).2)) with
 | true=>((E (Eu (j ((F c d a b).1) ((F c d a b).2) ((F e f a b).1) ((F e f a b).2)*j ((F c d a b).1) ((F c d a b).2) ((F e f a b).1) ((F e f a b).2)) ((g*g)*i ((F c d a b).1) ((F c d a b).2) ((F c d a b).1) ((F c d a b).2))<0)))
 | false=>false)
 | false=>false)))))
 | false=>false)
 | false=>false)
 | false=>(false)
theorem Ate  : RQ 60 [M [A D e,A D f],M [A D a,A D b],M [A D c,A D d],A D g] (I (Jt e f a b c d g)):=by
 unfold Jt;cases c1:(BL e f 2097152)
 ·exact N (r := I false) (ps:=[(!(BL e f 2097152))=true,true=true,true=true,true=true,true=true]) C2 rfl 300 rfl [q,q,q,q,q] (by kernel_rfl) ⟨(by rw[c1];rfl),rfl,rfl,rfl,rfl,trivial⟩
 ·cases c2:(BL a b 1048576)
  ·exact N (r := I false) (ps:=[(!(BL e f 2097152))=false,(!(BL a b 1048576))=true,true=true,true=true,true=true]) C2 rfl 300 rfl [Y,q,q,q,q] (by kernel_rfl) ⟨(by rw[c1];rfl),(by rw[c2];rfl),rfl,rfl,rfl,trivial⟩
  ·cases c3:(BL c d 1048576)
   ·exact N (r := I false) (ps:=[(!(BL e f 2097152))=false,(!(BL a b 1048576))=false,(!(BL c d 1048576))=true,true=true,true=true]) C2 rfl 300 rfl [Y,Y,q,q,q] (by kernel_rfl) ⟨(by rw[c1];rfl),(by rw[c2];rfl),(by rw[c3];rfl),rfl,rfl,trivial⟩
   ·cases c4:(E (g<1))
    ·cases h:(E (g>524288))
     ·cases k:(BS e f a b g)
      ·cases l:(BS e f c d g)
       ·cases m:(E (i ((F e f a b).1) ((F e f a b).2) ((F c d a b).1) ((F c d a b).2)>0))
        ·exact N (r := I false) (ps:=[(!(BL e f 2097152))=false,(!(BL a b 1048576))=false,(!(BL c d 1048576))=false,E (g<1)=false,E (g>524288)=false,BS e f a b g=false,BS e f c d g=false,RQ 33 [A D (j ((F c d a b).1) ((F c d a b).2) ((F e f a b).1) ((F e f a b).2))] (B4 (j ((F c d a b).1) ((F c d a b).2) ((F e f a b).1) ((F e f a b).2))),RQ 33 [A D g] (B4 g),E (i ((F e f a b).1) ((F e f a b).2) ((F c d a b).1) ((F c d a b).2)>0)=false,false=false]) C2 rfl 300 rfl [Y,Y,Y,Y,Y,Y,Y,.r (B4 (j ((F c d a b).1) ((F c d a b).2) ((F e f a b).1) ((F e f a b).2))),.r (B4 g),Y,Y] (by kernel_rfl) ⟨(by rw[c1];rfl),(by rw[c2];rfl),(by rw[c3];rfl),c4,h,k,l,K0 (Hq _ _ _ _),K0 (GC c4 h),m,rfl,trivial⟩
        ·cases n:(E (i ((F e f a b).1) ((F e f a b).2) ((F c d a b).1) ((F c d a b).2)<i ((F c d a b).1) ((F c d a b).2) ((F c d a b).1) ((F c d a b).2)))
         ·exact N (r := I false) (ps:=[(!(BL e f 2097152))=false,(!(BL a b 1048576))=false,(!(BL c d 1048576))=false,E (g<1)=false,E (g>524288)=false,BS e f a b g=false,BS e f c d g=false,RQ 33 [A D (j ((F c d a b).1) ((F c d a b).2) ((F e f a b).1) ((F e f a b).2))] (B4 (j ((F c d a b).1) ((F c d a b).2) ((F e f a b).1) ((F e f a b).2))),RQ 33 [A D g] (B4 g),E (i ((F e f a b).1) ((F e f a b).2) ((F c d a b).1) ((F c d a b).2)>0)=true,E (i ((F e f a b).1) ((F e f a b).2) ((F c d a b).1) ((F c d a b).2)<i ((F c d a b).1) ((F c d a b).2) ((F c d a b).1) ((F c d a b).2))=false]) C2 rfl 300 rfl [Y,Y,Y,Y,Y,Y,Y,.r (B4 (j ((F c d a b).1) ((F c d a b).2) ((F e f a b).1) ((F e f a b).2))),.r (B4 g),q,Y] (by kernel_rfl) ⟨(by rw[c1];rfl),(by rw[c2];rfl),(by rw[c3];rfl),c4,h,k,l,K0 (Hq _ _ _ _),K0 (GC c4 h),m,n,trivial⟩
         ·exact N (r := I (E (Eu (j ((F c d a b).1) ((F c d a b).2) ((F e f a b).1) ((F e f a b).2)*j ((F c d a b).1) ((F c d a b).2) ((F e f a b).1) ((F e f a b).2)) ((g*g)*i ((F c d a b).1) ((F c d a b).2) ((F c d a b).1) ((F c d a b).2))<0))) (ps:=[(!(BL e f 2097152))=false,(!(BL a b 1048576))=false,(!(BL c d 1048576))=false,E (g<1)=false,E (g>524288)=false,BS e f a b g=false,BS e f c d g=false,RQ 33 [A D (j ((F c d a b).1) ((F c d a b).2) ((F e f a b).1) ((F e f a b).2))] (B4 (j ((F c d a b).1) ((F c d a b).2) ((F e f a b).1) ((F e f a b).2))),RQ 33 [A D g] (B4 g),E (i ((F e f a b).1) ((F e f a b).2) ((F c d a b).1) ((F c d a b).2)>0)=true,E (i ((F e f a b).1) ((F e f a b).2) ((F c d a b).1) ((F c d a b).2)<i ((F c d a b).1) ((F c d a b).2) ((F c d a b).1) ((F c d a b).2))=true,RQ 143 [B4 (j ((F c d a b).1) ((F c d a b).2) ((F e f a b).1) ((F e f a b).2)),B4 (j ((F c d a b).1) ((F c d a b).2) ((F e f a b).1) ((F e f a b).2))] (B4 (j ((F c d a b).1) ((F c d a b).2) ((F e f a b).1) ((F e f a b).2)*j ((F c d a b).1) ((F c d a b).2) ((F e f a b).1) ((F e f a b).2))),RQ 143 [B4 g,B4 g] (B4 (g*g)),RQ 33 [A D (i ((F c d a b).1) ((F c d a b).2) ((F c d a b).1) ((F c d a b).2))] (B4 (i ((F c d a b).1) ((F c d a b).2) ((F c d a b).1) ((F c d a b).2))),RQ 143 [B4 (g*g),B4 (i ((F c d a b).1) ((F c d a b).2) ((F c d a b).1) ((F c d a b).2))] (B4 ((g*g)*i ((F c d a b).1) ((F c d a b).2) ((F c d a b).1) ((F c d a b).2))),RQ 142 [B4 (j ((F c d a b).1) ((F c d a b).2) ((F e f a b).1) ((F e f a b).2)*j ((F c d a b).1) ((F c d a b).2) ((F e f a b).1) ((F e f a b).2)),B4 ((g*g)*i ((F c d a b).1) ((F c d a b).2) ((F c d a b).1) ((F c d a b).2))] (A D (Eu (j ((F c d a b).1) ((F c d a b).2) ((F e f a b).1) ((F e f a b).2)*j ((F c d a b).1) ((F c d a b).2) ((F e f a b).1) ((F e f a b).2)) ((g*g)*i ((F c d a b).1) ((F c d a b).2) ((F c d a b).1) ((F c d a b).2))))]) C2 rfl 300 rfl [Y,Y,Y,Y,Y,Y,Y,.r (B4 (j ((F c d a b).1) ((F c d a b).2) ((F e f a b).1) ((F e f a b).2))),.r (B4 g),q,q,.r (B4 (j ((F c d a b).1) ((F c d a b).2) ((F e f a b).1) ((F e f a b).2)*j ((F c d a b).1) ((F c d a b).2) ((F e f a b).1) ((F e f a b).2))),.r (B4 (g*g)),.r (B4 (i ((F c d a b).1) ((F c d a b).2) ((F c d a b).1) ((F c d a b).2))),.r (B4 ((g*g)*i ((F c d a b).1) ((F c d a b).2) ((F c d a b).1) ((F c d a b).2))),.r (A D (Eu (j ((F c d a b).1) ((F c d a b).2) ((F e f a b).1) ((F e f a b).2)*j ((F c d a b).1) ((F c d a b).2) ((F e f a b).1) ((F e f a b).2)) ((g*g)*i ((F c d a b).1) ((F c d a b).2) ((F c d a b).1) ((F c d a b).2))))] (by kernel_rfl) ⟨(by rw[c1];rfl),(by rw[c2];rfl),(by rw[c3];rfl),c4,h,k,l,K0 (Hq _ _ _ _),K0 (GC c4 h),m,n,P' (AR (Yw (DG (Hq _ _ _ _)).len (DG (Hq _ _ _ _)).len) (by decide)),P' (AR (Yw (DG (GC c4 h)).len (DG (GC c4 h)).len) (by decide)),K0 (X8 _ _ _ _),P' (AR (Yw ((DG (GC c4 h)).mul (DG (GC c4 h))).len (DG (X8 _ _ _ _)).len) (by decide)),Aoe (AR ((DG (Hq _ _ _ _)).mul (DG (Hq _ _ _ _))).len (by decide)) (AR (((DG (GC c4 h)).mul (DG (GC c4 h))).mul (DG (X8 _ _ _ _))).len (by decide)),trivial⟩
       ·exact N (r := I true) (ps:=[(!(BL e f 2097152))=false,(!(BL a b 1048576))=false,(!(BL c d 1048576))=false,E (g<1)=false,E (g>524288)=false,BS e f a b g=false,BS e f c d g=true]) C2 rfl 300 rfl [Y,Y,Y,Y,Y,Y,q] (by kernel_rfl) ⟨(by rw[c1];rfl),(by rw[c2];rfl),(by rw[c3];rfl),c4,h,k,l,trivial⟩
      ·exact N (r := I true) (ps:=[(!(BL e f 2097152))=false,(!(BL a b 1048576))=false,(!(BL c d 1048576))=false,E (g<1)=false,E (g>524288)=false,BS e f a b g=true,true=true]) C2 rfl 300 rfl [Y,Y,Y,Y,Y,q,q] (by kernel_rfl) ⟨(by rw[c1];rfl),(by rw[c2];rfl),(by rw[c3];rfl),c4,h,k,rfl,trivial⟩
     ·exact N (r := I false) (ps:=[(!(BL e f 2097152))=false,(!(BL a b 1048576))=false,(!(BL c d 1048576))=false,E (g<1)=false,E (g>524288)=true]) C2 rfl 300 rfl [Y,Y,Y,Y,q] (by kernel_rfl) ⟨(by rw[c1];rfl),(by rw[c2];rfl),(by rw[c3];rfl),c4,h,trivial⟩
    ·exact N (r := I false) (ps:=[(!(BL e f 2097152))=false,(!(BL a b 1048576))=false,(!(BL c d 1048576))=false,E (g<1)=true,true=true]) C2 rfl 300 rfl [Y,Y,Y,q,q] (by kernel_rfl) ⟨(by rw[c1];rfl),(by rw[c2];rfl),(by rw[c3];rfl),c4,rfl,trivial⟩
end
def In(n x y:Int):Prop := -n<=x/\x<=n /\ -n<=y/\y<=n
theorem L3{n x y:Int}(hn:n<=1073741824)(h:In n x y):e x y=true:=by
 unfold In at h;exact C5 (by omega)
theorem In.mono{n m x y:Int}(h:In n x y)(a:n<=m):In m x y:=by unfold In at *;omega
theorem In.sub{n m k x y a b:Int}(h:In n x y)(c:In m a b)(d:n+m<=k):In k (x-a) (y-b):=by unfold In at *;omega
section
variable{a b c d:Int}
theorem L4(h1:In 536870912 a b)(h2:In 536870912 c d):F a b c d=(a-c,b-d):=by
 unfold F Ds;rw[L3 (by decide) h1,L3 (by decide) h2];unfold In at h1 h2;rw[C5 (by omega)];rfl
theorem JY(h1:In 1073741824 a b)(h2:In 1073741824 c d):i a b c d=a*c+b*d:=by
 unfold i;rw[L3 (by decide) h1,L3 (by decide) h2];rfl
theorem P_(h1:In 1073741824 a b)(h2:In 1073741824 c d):j a b c d=a*d-b*c:=by
 unfold j;rw[L3 (by decide) h1,L3 (by decide) h2];rfl
end
theorem X9{n m x y:Int}(h:In m x y)(a:m<=n):k n x y=true:=by
 unfold In at h;exact kF (by omega)
theorem XA(y:Int):0<=y*y:=by
 rcases Int.le_total 0 y with g | g
 ·exact F3 g g
 ·have:=F3 (show 0 <= -y by omega) (show 0 <= -y by omega);rwa [qS] at this
theorem XB{x n:Int}(h : -n<=x/\x<=n):x*x<=n*n:=(Ep h.1 h.2 h.1 h.2).2
theorem Mo{a b c d R:Int}(e:In 2097152 a b)(f:In 1048576 c d)(h:1<=R/\R<=524288):BT a b c d R=decide ((a-c)*(a-c)+(b-d)*(b-d)<R*R):=by
 unfold BT;have g:In 1073741824 (a-c) (b-d):=In.sub e f (by decide);have i:=XB (x:=R) (n:=524288) (by omega);have:=XA R;rw[X9 e (by decide),X9 f (by decide),AG (show ¬ R<1 by omega),AG (show ¬ R>524288 by omega),L4 (e.mono (by decide)) (f.mono (by decide)),JY g g,Bb (n:=R*R) (by omega) (by omega)]
theorem Aoh(X Y W:Int)(e:0<W):(match decide (X / W<Y / W) with | true=>true | false=>match X / W==Y / W with | true=>decide (X % W<Y % W) | false=>false)=decide (X<Y):=by
 have g:=qW X W;have h:=qW Y W;have i:=Arn X (show W ≠ 0 by omega);have j:=Arn Y (show W ≠ 0 by omega);have k:=Aej X e;have l:=Aej Y e;generalize X / W=a at *
 generalize Y / W=b at *
 generalize X % W=c at *
 generalize Y % W=d at *
 by_cases h1:a<b
 ·rw[AN h1];have:W*(a+1)<=W*b:=Cz (by omega) (by omega);rw[Pv,Arj] at this;symm;rw[decide_eq_true_iff];omega
 ·rw[AG h1];by_cases h2:a=b
  ·subst h2;have:(a==a)=true:=by simp
   rw[this];dsimp only;rw[decide_eq_decide];omega
  ·have f:(a==b)=false:=by simpa using h2
   rw[f];have:W*(b+1)<=W*a:=Cz (by omega) (by omega);rw[Pv,Arj] at this;symm;rw[OA];omega
theorem uL{c R n:Int}(hc:0<=c/\c<=4611686018427387904)(a:1<=R/\R<=524288)(hn:0<=n/\n<=4611686018427387904):Mh c R n=decide (c*c<R*R*n):=by
 unfold Mh;have b:=XB (x:=R) (n:=524288) (by omega);have:=XA R;rw[Bb (n:=R*R) (by omega) (by omega),ME (n:=R*R) (by omega) (by omega),ME (n:=c) (by omega) (by omega),ME (n:=n) (by omega) (by omega)];exact Aoh _ _ _ (by decide)
def zQ(x y u v R:Int):Prop :=
 x*x+y*y<R*R\/(x-u)*(x-u)+(y-v)*(y-v)<R*R\/(0<x*u+y*v/\x*u+y*v<u*u+v*v/\(u*y-v*x)*(u*y-v*x)<R*R*(u*u+v*v))
instance (x y u v R:Int):Decidable (zQ x y u v R):=inferInstanceAs (Decidable (_\/_\/(_/\_/\_)))
theorem uM{c:Int}(h : -4611686018427387904<=c/\c<=4611686018427387904):∃ m,(if J D (0-c)>c then J D (0-c) else c)=m/\0<=m/\m<=4611686018427387904/\m*m=c*c:=by
 rw[Bb (n:=0-c) (by omega) (by omega)];by_cases g:0-c>c
 ·refine⟨-c,by rw[Af g];omega,by omega,by omega,qS c c⟩
 ·exact⟨c,by rw[Ak g],by omega,by omega,rfl⟩
theorem Aek{d e a b f g R:Int}(i:In 2097152 d e)(h:In 1048576 a b)(hb:In 1048576 f g)(l:1<=R/\R<=524288) :
  JJ d e a b f g R=decide (zQ (d-a) (e-b) (f-a) (g-b) R):=by
 unfold JJ;have o:In 3145728 (d-a) (e-b):=In.sub i h (by decide);have hd:In 2097152 (f-a) (g-b):=In.sub hb h (by decide);rw[X9 i (by decide),X9 h (by decide),X9 hb (by decide),AG (show ¬ R<1 by omega),AG (show ¬ R>524288 by omega),Mo i h l,Mo i hb l,
  L4 (i.mono (by decide)) (h.mono (by decide)),L4 (hb.mono (by decide)) (h.mono (by decide))]
 have z:d-f=(d-a)-(f-a):=by omega
 have A:e-g=(e-b)-(g-b):=by omega
 rw[z,A];generalize d-a=x at *
 generalize e-b=y at *
 generalize f-a=u at *
 generalize g-b=v at *
 dsimp only [DN];rw[JY (o.mono (by decide)) (hd.mono (by decide)),JY (hd.mono (by decide)) (hd.mono (by decide)),P_ (hd.mono (by decide)) (o.mono (by decide))];unfold zQ;unfold In at o hd;have F:=Ep (x:=u) (y:=y) (p:=2097152) (q:=3145728) (by omega) (by omega) (by omega) (by omega);have G:=Ep (x:=v) (y:=x) (p:=2097152) (q:=3145728) (by omega) (by omega) (by omega) (by omega);have H:=XB (x:=u) (n:=2097152) (by omega);have I:=XB (x:=v) (n:=2097152) (by omega);have J:=XA u;have K:=XA v;obtain⟨m,B,C,D,E⟩:=uM (c:=u*y-v*x) (by omega);rw[B,uL ⟨C,D⟩ l (by omega),E];by_cases j:x*x+y*y<R*R
 ·simp[j]
 ·by_cases k:(x-u)*(x-u)+(y-v)*(y-v)<R*R
  ·simp[j,k]
  ·by_cases r:x*u+y*v<=0
   ·have s:¬ 0<x*u+y*v:=by omega
    simp[j,k,r,s]
   ·have s:0<x*u+y*v:=by omega
    by_cases w:x*u+y*v>=u*u+v*v
    ·have t:¬ x*u+y*v<u*u+v*v:=by omega
     simp[j,k,r,w,t]
    ·have t:x*u+y*v<u*u+v*v:=by omega
     simp[j,k,r,s,w,t]
theorem CL{m:Int}(h0:0<=m)(h1:m<=4611686018427387904)(x y:Int):BL x y m=k m x y:=by
 unfold BL k;rw[LF,Bb (n := -m) (by omega) (by omega)];by_cases a : -m<=x <;> by_cases b:x<=m <;> by_cases c : -m<=y <;> by_cases d:y<=m <;> simp[a,b,c,d]
theorem IJ(a b c d R:Int):BS a b c d R=BT a b c d R:=by
 unfold BS BT;rw[CL (by decide) (by decide),CL (by decide) (by decide)]
theorem Atf(a b:Int):decide (Eu a b<0)=decide (a<b):=by
 unfold Eu;by_cases h:a<b
 ·simp[h]
 ·by_cases h2:b<a <;> simp[h,h2]
theorem uN(c d a b e f R:Int):Jt c d a b e f R=JJ c d a b e f R:=by
 cases c1:k 2097152 c d
 ·unfold Jt JJ;rw[CL (by decide) (by decide),c1]
 cases c2:k 1048576 a b
 ·unfold Jt JJ;rw[CL (by decide) (by decide),CL (by decide) (by decide),c1,c2];rfl
 cases c3:k 1048576 e f
 ·unfold Jt JJ;rw[CL (by decide) (by decide),CL (by decide) (by decide),CL (by decide) (by decide),c1,c2,c3];rfl
 cases c4:decide (R<1);rotate_left
 ·unfold Jt JJ;rw[CL (by decide) (by decide),CL (by decide) (by decide),CL (by decide) (by decide),c1,c2,c3,c4];rfl
 cases l:decide (R>524288);rotate_left
 ·unfold Jt JJ;rw[CL (by decide) (by decide),CL (by decide) (by decide),CL (by decide) (by decide),c1,c2,c3,c4,l];rfl
 have h:In 2097152 c d:=Hw c1;have g:In 1048576 a b:=Hw c2;have hb:In 1048576 e f:=Hw c3;have m:1<=R/\R<=524288:=by simp at c4 l;omega
 rw[Aek h g hb m];unfold Jt;have o:In 3145728 (c-a) (d-b):=In.sub h g (by decide);have hd:In 2097152 (e-a) (f-b):=In.sub hb g (by decide);rw[CL (by decide) (by decide),CL (by decide) (by decide),CL (by decide) (by decide),c1,c2,c3,c4,l,IJ,IJ,Mo h g m,Mo h hb m,
  L4 (h.mono (by decide)) (g.mono (by decide)),L4 (hb.mono (by decide)) (g.mono (by decide))]
 have q:c-e=(c-a)-(e-a):=by omega
 have r:d-f=(d-b)-(f-b):=by omega
 rw[q,r];generalize c-a=x at *
 generalize d-b=y at *
 generalize e-a=u at *
 generalize f-b=v at *
 dsimp only;rw[JY (o.mono (by decide)) (hd.mono (by decide)),JY (hd.mono (by decide)) (hd.mono (by decide)),P_ (hd.mono (by decide)) (o.mono (by decide)),Atf];unfold zQ;by_cases i:x*x+y*y<R*R
 ·simp[i]
 ·by_cases j:(x-u)*(x-u)+(y-v)*(y-v)<R*R
  ·simp[i,j]
  ·by_cases n:0<x*u+y*v
   ·by_cases p:x*u+y*v<u*u+v*v
    ·simp[i,j,n,p]
    ·simp[i,j,n,p]
   ·simp[i,j,n]
theorem Aoi{p1 p2 q1 q2 n:Int}(h1:1<=n)(h2:n<=2147483648):Vy p1 p2 q1 q2 n=V2 p1 p2 q1 q2 n:=by
 unfold Vy V2;rw[AG (show ¬ n<1 by omega),AG (show ¬ n>2147483648 by omega)]
theorem nW(px py a b r:Int):MG 62 66 [M [A D px,A D py],M [A D a,A D b],A D r] [M [A D px,A D py],M [A D a,A D b],A D r] :=
 ⟨_,xU px py a b r,IJ px py a b r ▸ yB px py a b r⟩
theorem uO(px py a b c d r:Int):MG 57 60 [M [A D px,A D py],M [A D a,A D b],M [A D c,A D d],A D r] [M [A D px,A D py],M [A D a,A D b],M [A D c,A D d],A D r] :=
 ⟨_,xV px py a b c d r,uN px py a b c d r ▸ Ate px py a b c d r⟩
theorem nX{px py a b n:Int}(h1:1<=n)(h2:n<=2147483648):MG 64 68 [M [A D px,A D py],M [A D a,A D b],A D n] [M [A D px,A D py],M [A D a,A D b],A D n] :=
 ⟨_,xY px py a b n,(Aoi (p1:=px) (p2:=py) (q1:=a) (q2:=b) h1 h2).symm ▸ cJ px py a b n⟩
theorem Oo{m:Int}(h0:0<=m)(h1:m<=4611686018427387904)(x y:Int):v x y m=k m x y:=by
 unfold v AY k;rw[Bb (n:=0-m) (by omega) (by omega)];by_cases a : -m<=x <;> by_cases b:x<=m <;> by_cases c : -m<=y <;> by_cases d:y<=m <;> simp[a,b,c,d]
theorem XC(a b c d ex f:Int):(By a b c d ex f).2=decide (EJ a b c d ex f>0)/\((By a b c d ex f).2=true->(By a b c d ex f).1=EJ a b c d ex f):=by
 unfold By EJ;rw[Oo (by decide) (by decide),Oo (by decide) (by decide),Oo (by decide) (by decide)];generalize k 1048576 a b=n;generalize k 1048576 c d=o;generalize k 1048576 ex f=p;generalize i (F c d a b).1 (F c d a b).2 (F c d a b).1 (F c d a b).2=dS;generalize i (F ex f a b).1 (F ex f a b).2 (F ex f a b).1 (F ex f a b).2=dE;generalize j (F c d a b).1 (F c d a b).2 (F ex f a b).1 (F ex f a b).2=cr;generalize B5 dS=r;cases n <;> cases o <;> cases p <;> try exact⟨rfl,fun h=>by cases h⟩
 have e:(dE != dS)=(dS != dE):=by
  by_cases h:dE=dS
  ·rw[h]
  ·rw[bne_iff_ne.2 h,bne_iff_ne.2 (fun g=>h (Eq.symm g))]
 rw[e];simp only[DN];cases h1:(J D (r*r) != dS)
 ·cases h2:(dS != dE)
  ·by_cases l:r<1
   ·rw[AN l];have m:¬ r>262144:=by omega
    rw[AG m];cases q:decide (cr<=0)
    ·exact⟨(AG (show ¬ r>0 by omega)).symm,fun h=>by cases h⟩
    ·exact⟨rfl,fun h=>by cases h⟩
   ·rw[AG l];cases m:decide (r>262144)
    ·cases q:decide (cr<=0)
     ·exact⟨(AN (show r>0 by omega)).symm,fun _=>rfl⟩
     ·exact⟨rfl,fun h=>by cases h⟩
    ·exact⟨rfl,fun h=>by cases h⟩
  ·exact⟨rfl,fun h=>by cases h⟩
 ·exact⟨rfl,fun h=>by cases h⟩
theorem ZQ{a b:Int}(c : -2097152<=a/\a<=2097152)(hb : -2097152<=b/\b<=2097152):B7 a b 256=(a*256,b*256):=by
 unfold B7;rw[C5 (by omega),Bb (n:=a*256) (by omega) (by omega),Bb (n:=b*256) (by omega) (by omega)];have k:Ds (a*256) (b*256)=(a*256,b*256):=by
  unfold Ds;rw[C5 (by omega)];rfl
 cases h:(a==0&&(b==0&&true))
 ·show ((Ds (a*256) (b*256)).1,(Ds (a*256) (b*256)).2)=_;rw[k]
 ·simp only[U,AW] at h;obtain⟨h1,h2,_⟩:=h;subst h1 h2;rfl
theorem Uo{a b c d:Int}(e : -536870912<=a/\a<=536870912)(hb : -536870912<=b/\b<=536870912)(hc : -268435456<=c/\c<=268435456)(hd : -268435456<=d/\d<=268435456):F a b c d=(a-c,b-d):=by
 unfold F;rw[C5 (by omega),C5 (by omega)];unfold Ds;rw[C5 (by omega)];rfl
theorem O_{a b c d:Int}(h:e a b=true)(g:e c d=true):j a b c d=a*d-b*c:=by
 unfold j;rw[h,g];rfl
theorem Ael{a b x y c d:Int}:a*(y*256-d*256)-b*(x*256-c*256)=256*(a*(y-d)-b*(x-c)):=by
 simp only[A0z,Gc _ 256,Int.mul_left_comm _ 256]
theorem uP{a b x y c d:Int}:(x*256-c*256)*b-(y*256-d*256)*a=256*((x-c)*b-(y-d)*a):=by
 simp only[A0z,Int.sub_mul,Gc _ 256,Aat]
theorem uQ{g h i l ex m px py:Int}(hc:k 1048576 g h=true)(hs:k 1048576 i l=true)(n:k 1048576 ex m=true)(o:k 2097152 px py=true)(hr:(Bg g h i l ex m).2=true) :
  GZ g h i l ex m (B7 px py 256).1 (B7 px py 256).2=(E (j (F i l g h).1 (F i l g h).2 (F px py g h).1 (F px py g h).2>0)&&decide (j (F px py g h).1 (F px py g h).2 (F ex m g h).1 (F ex m g h).2>0)):=by
 have c:=Hw hc;have s:=Hw hs;have e:=Hw n;have p:=Hw o;rw[ZQ (a:=px) (b:=py) (by omega) (by omega)];unfold GZ;rw[hr,ZQ (a:=g) (b:=h) (by omega) (by omega),Uo (a:=i) (b:=l) (c:=g) (d:=h) (by omega) (by omega) (by omega) (by omega),Uo (a:=ex) (b:=m) (c:=g) (d:=h) (by omega) (by omega) (by omega) (by omega),
  Uo (a:=px) (b:=py) (c:=g) (d:=h) (by omega) (by omega) (by omega) (by omega)]
 have f:PA (px*256) (py*256)=false:=by
  unfold PA;rw[AG (by omega),AG (by omega),AG (by omega),AG (by omega)]
 dsimp only;rw[f,Uo (a:=px*256) (b:=py*256) (c:=g*256) (d:=h*256) (by omega) (by omega) (by omega) (by omega)];dsimp only;rw[O_ (C5 (by omega)) (C5 (by omega)),O_ (C5 (by omega)) (C5 (by omega)),O_ (C5 (by omega)) (C5 (by omega)),O_ (C5 (by omega)) (C5 (by omega)),Ael,uP];generalize (i-g)*(py-h)-(l-h)*(px-g)=u;generalize (px-g)*(m-h)-(py-h)*(ex-g)=v;by_cases h1:u>0 <;> by_cases h2:v>0
 ·rw[AN (show 256*u>0 by omega),AN (show 256*v>0 by omega),AN h1,AN h2];rfl
 ·rw[AN (show 256*u>0 by omega),AG (show ¬ 256*v>0 by omega),AN h1,AG h2];rfl
 ·rw[AG (show ¬ 256*u>0 by omega),AG h1];rfl
 ·rw[AG (show ¬ 256*u>0 by omega),AG h1];rfl
theorem nY{a b d e ex f:Int}(h:(By a b d e ex f).2=true):k 1048576 a b=true/\k 1048576 d e=true/\k 1048576 ex f=true:=by
 unfold By at h;cases c:(k 1048576 a b&&k 1048576 d e&&k 1048576 ex f)
 ·rw[c] at h;cases h
 ·simp only[U] at c;exact⟨c.1.1,c.1.2,c.2⟩
theorem nZ(u:Int):decide (u>0) = !decide (u<=0):=by
 by_cases h:u>0
 ·rw[AN h,AG (show ¬ u<=0 by omega)];rfl
 ·rw[AG h,AN (show u<=0 by omega)];rfl
theorem oA(px py a b c d ex e R:Int):Ls px py a b c d ex e R=ON px py a b c d ex e R:=by
 obtain⟨r1,r2⟩:=XC a b c d ex e;have f:(Bg a b c d ex e).2=(By a b c d ex e).2:=r1.symm;cases hr:(By a b c d ex e).2
 ·unfold Ls ON;rw[f,hr]
 ·rw[hr] at f;have g:(Bg a b c d ex e).1=(By a b c d ex e).1:=(r2 hr).symm;obtain⟨i,l,m⟩:=nY hr;have n:=fun o=>uQ (px:=px) (py:=py) i l m o f;unfold Ls ON;rw[f,hr,g];cases c1:decide (R<1);rotate_left
  ·rfl
  cases c2:decide (R>=(By a b c d ex e).1);rotate_left
  ·rfl
  cases hb:k 2097152 px py
  ·have t:¬ (-2097152<=px/\px<=2097152 /\ -2097152<=py/\py<=2097152):=fun h=>by
    rw[kF h] at hb;cases hb
   cases p:decide (px < -2097152) <;> cases q:decide (px>2097152) <;> cases r:decide (py < -2097152) <;> cases s:decide (py>2097152) <;> first | rfl | skip
   simp only[OA] at p q r s;omega
  ·have u:=Hw hb;rw[AG (show ¬ px < -2097152 by omega),AG (show ¬ px>2097152 by omega),AG (show ¬ py < -2097152 by omega),AG (show ¬ py>2097152 by omega),IJ,IJ,n hb,nZ,nZ];cases BT px py c d R
   ·cases BT px py ex e R
    ·cases decide (j (F c d a b).1 (F c d a b).2 (F px py a b).1 (F px py a b).2<=0)
     ·cases decide (j (F px py a b).1 (F px py a b).2 (F ex e a b).1 (F ex e a b).2<=0) <;> rfl
     ·rfl
    ·rfl
   ·rfl
theorem uR(px py:Int)(f:ByteArray)(g a b c d ex e rs h i j r:Int):MG 61 65 [M [A D px,A D py],M [.str f,A D g,A D a,A D b,A D c,A D d,A D ex,A D e,A D rs,A D h,A D i,A D j],A D r]
  [M [A D px,A D py],M [.str f,A D g,A D a,A D b,A D c,A D d,A D ex,A D e,A D rs,A D h,A D i,A D j],A D r] :=
 ⟨_,xW px py f g a b c d ex e rs h i j r,oA px py a b c d ex e r ▸ yC px py f g a b c d ex e rs h i j r⟩
section
variable(neg:Bool)(xs:LI)
theorem oD(c1:((C (l xs):Int)==0)=true)(a:RQ 211 [y lm xs] (P 1 (C (l xs)) (lm (l xs)))):RQ 153 [M [I neg,y lm xs]] (A D 0):=Bz (fn:=iF g bG) Ca rfl 400 rfl [.r (P 1 (C (l xs)) (lm (l xs))),q] (GY a c1)
theorem oE(c1:((C (l xs):Int)==0)=false)(c2:neg=true)(a:RQ 211 [y lm xs] (P 1 (C (l xs)) (lm (l xs)))):RQ 153 [M [I neg,y lm xs]] (A D (-1)):=Bz (fn:=iF g bG) Ca rfl 400 rfl [.r (P 1 (C (l xs)) (lm (l xs))),Y,q] (Im a c1 c2)
theorem oF(c1:((C (l xs):Int)==0)=false)(c2:neg=false)(a:RQ 211 [y lm xs] (P 1 (C (l xs)) (lm (l xs)))):RQ 153 [M [I neg,y lm xs]] (A D 1):=Bz (fn:=iF g bG) Ca rfl 400 rfl [.r (P 1 (C (l xs)) (lm (l xs))),Y,Y] (Im a c1 c2)
theorem Aoj(v:Int)(a:RQ 108 [I (!neg),y lm xs] (HG v)):RQ 106 [M [I neg,y lm xs]] (B4 v):=Bz (fn:=iF g Aie) Ca rfl 400 rfl [.r (HG v)] (Bp a)
theorem Aok(v:Int)(a:RQ 108 [I neg,y lm xs] (HG v)):RQ 209 [M [I neg,y lm xs]] (B4 v):=Bz (fn:=iF g Aim) Ca rfl 400 rfl [.r (HG v)] (Bp a)
end
def Oq:ICode:=CG sE 92 244
section
variable(xs a:LI)(n:Nat)(cs:u)(c i:Int)
def GN:V:=X (y lm xs)::X (y lm a)::W 3 (An 1 n cs::X (A A3 c)::vi i::W 46 [])
theorem Aol(c1:E (i<C xs)=true)(c2:E (i<C a)=true)(b:0<=i/\i<C xs)(d:0<=i/\i<C a)(e:n+1<=35184372088832):w Oq (GN xs a n cs c i) .norm (GN xs a (n+1) (cs++([A Bm (J Bm (J A3 (J A3 (c+J A3 (O xs (L i) 0))+J A3 (O a (L i) 0))))]:u)) (Bd (J A3 (J A3 (c+J A3 (O xs (L i) 0))+J A3 (O a (L i) 0))) (2^(min (L 32) (Bu .u64)))) (J D (i+1))):=B Ca [q,q,q,q,.v (A Bm (O xs (L i) 0)),q,.v (A Bm (O a (L i) 0))] P5 (Jc c1 GJ GJ c1 b (Hm b) c2 d (Hm d) (show C ([A Bm (J Bm (J A3 (J A3 (c+J A3 (O xs (L i) 0))+J A3 (O a (L i) 0))))]:u)=1*1 from rfl) e sw7)
theorem Aom(c1:E (i<C xs)=true)(c2:E (i<C a)=false)(b:0<=i/\i<C xs)(d:n+1<=35184372088832):w Oq (GN xs a n cs c i) .norm (GN xs a (n+1) (cs++([A Bm (J Bm (J A3 (c+J A3 (O xs (L i) 0))))]:u)) (Bd (J A3 (c+J A3 (O xs (L i) 0))) (2^(min (L 32) (Bu .u64)))) (J D (i+1))):=B Ca [q,q,q,q,.v (A Bm (O xs (L i) 0)),Y] P5 (Ig c1 GJ GJ c1 b (Hm b) c2 (show C ([A Bm (J Bm (J A3 (c+J A3 (O xs (L i) 0))))]:u)=1*1 from rfl) d sw7)
theorem Aon(c1:E (i<C xs)=false)(c2:E (i<C a)=true)(b:0<=i/\i<C a)(d:n+1<=35184372088832):w Oq (GN xs a n cs c i) .norm (GN xs a (n+1) (cs++([A Bm (J Bm (J A3 (c+J A3 (O a (L i) 0))))]:u)) (Bd (J A3 (c+J A3 (O a (L i) 0))) (2^(min (L 32) (Bu .u64)))) (J D (i+1))):=B Ca [Y,q,q,Y,q,.v (A Bm (O a (L i) 0))] P5 (Ig c1 c2 GJ c1 c2 b (Hm b) (show C ([A Bm (J Bm (J A3 (c+J A3 (O a (L i) 0))))]:u)=1*1 from rfl) d sw7)
theorem Aoo(c1:E (i<C xs)=false)(c2:E (i<C a)=false)(c3:E (c>0)=true)(b:n+1<=35184372088832):w Oq (GN xs a n cs c i) .norm (GN xs a (n+1) (cs++([A Bm (J Bm c)]:u)) (Bd c (2^(min (L 32) (Bu .u64)))) (J D (i+1))):=B Ca [Y,Y,q,Y,Y] P5 (US c1 c2 c3 c1 c2 (show C ([A Bm (J Bm c)]:u)=1*1 from rfl) b sw7)
theorem oH(c1:E (i<C xs)=false)(c2:E (i<C a)=false)(c3:E (c>0)=false):w Oq (GN xs a n cs c i) xZ0 (GN xs a n cs c i):=B Ca [Y,Y,Y] P5 (Im c1 c2 c3)
end
theorem Aop(xs a:LI)(n:Nat)(cs:u)(c i:Int)(b:w (.loop Oq) (GN xs a 0 ([]:u) 0 0) xZ0 (GN xs a n cs c i)):RQ 289 [y lm xs,y lm a] (P 1 n cs):=IU sE (W 1 (X (y lm a)::W 2 (An 1 n cs::W 49 []))) (BZ (BZ (B3 (T (B Ca [] P5 a0) (T (m b) (B Ca [] [1,4] a0))))))
def S3:ICode:=CG sF 92 244
section
variable(xs a:LI)(n:Nat)(cs:u)(c i:Int)
def Ja:V:=X (y lm xs)::X (y lm a)::W 3 (An 1 n cs::X (A A3 c)::vi i::W 34 [])
theorem Aoq(c1:E (i<C xs)=true)(c2:E (i<C a)=true)(b:0<=i/\i<C a)(d:0<=i/\i<C xs)(e:n+1<=35184372088832):w S3 (Ja xs a n cs c i) .norm (Ja xs a (n+1) (cs++([A Bm (J Bm (J A3 ((J A3 ((J A3 (O xs (L i) 0))-(J A3 (O a (L i) 0))))-c)))]:u)) (Bd (J A3 ((J A3 ((J A3 (O xs (L i) 0))-(J A3 (O a (L i) 0))))-c)) (2^(min (L 63) (Bu .u64)))) (J D (i+1))):=B Ca [q,q,.v (A Bm (O a (L i) 0)),.v (A Bm (O xs (L i) 0))] P5 (Y3 c1 c2 b (Hm b) d (Hm d) (show C ([A Bm (J Bm (J A3 ((J A3 ((J A3 (O xs (L i) 0))-(J A3 (O a (L i) 0))))-c)))]:u)=1*1 from rfl) e (show ¬ (63:Int)<0 from (by decide)))
theorem Aor(c1:E (i<C xs)=true)(c2:E (i<C a)=false)(b:0<=i/\i<C xs)(d:n+1<=35184372088832):w S3 (Ja xs a n cs c i) .norm (Ja xs a (n+1) (cs++([A Bm (J Bm (J A3 ((J A3 ((J A3 (O xs (L i) 0))-0))-c)))]:u)) (Bd (J A3 ((J A3 ((J A3 (O xs (L i) 0))-0))-c)) (2^(min (L 63) (Bu .u64)))) (J D (i+1))):=B Ca [q,Y,.v (A Bm (O xs (L i) 0))] P5 (Jn c1 c2 b (Hm b) (show C ([A Bm (J Bm (J A3 ((J A3 ((J A3 (O xs (L i) 0))-0))-c)))]:u)=1*1 from rfl) d (show ¬ (63:Int)<0 from (by decide)))
theorem Aos(c1:E (i<C xs)=false):w S3 (Ja xs a n cs c i) xZ0 (Ja xs a n cs c i):=B Ca [Y] P5 (Bp c1)
end
theorem Aot(xs a:LI)(n:Nat)(cs:u)(c i:Int)(b:w (.loop S3) (Ja xs a 0 ([]:u) 0 0) xZ0 (Ja xs a n cs c i)):RQ 290 [y lm xs,y lm a] (P 1 n cs):=IU sF (W 1 (X (y lm a)::W 2 (An 1 n cs::W 37 []))) (BZ (BZ (B3 (T (B Ca [] P5 a0) (T (m b) (B Ca [] [1,4] a0))))))
theorem L5(xs:LI)(v:Int):lm xs++([A Bm v]:u)=lm (xs++[v]):=by simp [lm]
theorem S4{xs:LI}(h:DJ xs){v:Int}(a:0<=v/\v<4294967296):DJ (xs++[v]):=by
 intro x b;rcases AF.1 b with g | g
 ·exact h x g
 ·rw[Be.1 g];exact a
theorem Qa(xs:LI)(v:Int):z (xs++[v])=z xs+4294967296^C xs*v:=by rw [LY];simp [z]
theorem zR{s:Int}:Bd s (2^(min (L 32) (Bu .u64)))=s / 4294967296:=by
 show Bd s 4294967296=_;rw[Fl _ (by omega)]
theorem Axi{s:Int}:Bd s (2^(min (L 63) (Bu .u64)))=s / 9223372036854775808:=by
 show Bd s 9223372036854775808=_;rw[Fl _ (by omega)]
theorem Aem{xs a:LI}(v:DJ xs)(x:DJ a)(h1:C xs<1048576)(h2:C a<1048576):∀ (r i:Nat) (b:LI) (c:Int),i+r=max (C xs) (C a)->C b=i->DJ b->0<=c/\c<=1 ->
  ∃ (zs:LI) (h j:Int),DJ zs/\C zs<=max (C xs) (C a)+1/\z zs=z b+4294967296^i*(c+z (xs.drop i)+z (a.drop i)) /\
   w (.loop Oq) (GN xs a i (lm b) c (i:Nat)) xZ0 (GN xs a (C zs) (lm zs) h j):=by
 intro r;induction r with
 | zero =>
  intro i b c hi hl hu hc;have q:z (xs.drop i)=0:=OI (by omega);have s:z (a.drop i)=0:=OI (by omega);have l:decide ((i:Int)<(C xs:Int))=false:=by simp;omega
  have n:decide ((i:Int)<(C a:Int))=false:=by simp;omega
  by_cases y:c=0
  ·refine⟨b,c,i,hu,by omega,by rw[q,s,y];simp,?_⟩;rw[hl];exact f (oH xs a i (lm b) c (i:Nat) l n (by simp;omega))
  ·have A:c=1:=by omega
   subst A;refine⟨b++[1],0,J D (i+1),S4 hu (by omega),by simp;omega,by rw[Qa,q,s,hl];simp,?_⟩;have k:=Aoo xs a i (lm b) 1 (i:Nat) l n (by simp) (by omega);rw[zR,NB,show (1:Int) % 4294967296=1 by decide,show (1:Int) / 4294967296=0 by decide,L5] at k;have e:J D (i+1)=((i+1:Nat):Int):=wrz
   rw[e] at k |-;have B:=oH xs a (i+1) (lm (b++[1])) 0 ((i+1:Nat)) (by simp;omega) (by simp;omega) (by simp);have E:C (b++[1])=i+1:=by simp[hl]
   rw[E];exact Ay k (f B)
 | succ r F =>
  intro i b c hi hl hu hc;have L:=FU v i;have M:=FU x i;have e:J D (i+1)=((i+1:Nat):Int):=wrz
  have step:w Oq (GN xs a i (lm b) c (i:Nat)) .norm (GN xs a (i+1) (lm (b++[(c+O xs i 0+O a i 0) % 4294967296])) ((c+O xs i 0+O a i 0) / 4294967296) ((i+1:Nat))):=by
   have t:J A3 (O xs i 0)=O xs i 0:=by rw[Es];omega
   have u:J A3 (O a i 0)=O a i 0:=by rw[Es];omega
   by_cases l:i<C xs <;> by_cases n:i<C a
   ·have k:=Aol xs a i (lm b) c (i:Nat) (by simp;omega) (by simp;omega) (by omega) (by omega) (by omega);have g:J A3 (J A3 (c+O xs i 0)+O a i 0)=c+O xs i 0+O a i 0:=by rw[Es,Es];omega
    simp only[Ao,t,u,g,zR,NB,e,L5] at k;exact k
   ·have k:=Aom xs a i (lm b) c (i:Nat) (by simp;omega) (by simp;omega) (by omega) (by omega);have o:O a i 0=0:=Ft (by omega);have g:J A3 (c+O xs i 0)=c+O xs i 0+O a i 0:=by rw[Es,o];omega
    simp only[Ao,t,g,zR,NB,e,L5] at k;exact k
   ·have k:=Aon xs a i (lm b) c (i:Nat) (by simp;omega) (by simp;omega) (by omega) (by omega);have o:O xs i 0=0:=Ft (by omega);have g:J A3 (c+O a i 0)=c+O xs i 0+O a i 0:=by rw[Es,o];omega
    simp only[Ao,u,g,zR,NB,e,L5] at k;exact k
   ·omega
  obtain⟨zs,h,j,G,H,I,K⟩:=F (i+1) (b++[(c+O xs i 0+O a i 0) % 4294967296]) ((c+O xs i 0+O a i 0) / 4294967296) (by omega) (by simp[hl]) (S4 hu (by omega)) (by omega);refine⟨zs,h,j,G,H,?_,Ay step K⟩;rw[I,Qa,hl,Ln xs i,Ln a i,EV];have hd:=qX (c+O xs i 0+O a i 0) 4294967296;generalize (c+O xs i 0+O a i 0) % 4294967296=m at *
  generalize (c+O xs i 0+O a i 0) / 4294967296=d at *
  generalize (4294967296:Int)^i=p at *
  generalize z (xs.drop (i+1))=X at *
  generalize z (a.drop (i+1))=Y at *
  have:c+(O xs i 0+4294967296*X)+(O a i 0+4294967296*Y)=m+4294967296*(d+X+Y):=by omega
  rw[this];grind
theorem oI{xs a:LI}(b:DJ xs)(c:DJ a)(h1:C xs<1048576)(h2:C a<1048576):∃ zs,DJ zs/\z zs=z xs+z a/\C zs<=max (C xs) (C a)+1/\RQ 289 [y lm xs,y lm a] (P 1 (C zs) (lm zs)):=by
 obtain⟨zs,h,i,d,e,f,g⟩:=Aem b c h1 h2 (max (C xs) (C a)) 0 [] 0 (by omega) rfl (fun x b=>by cases b) (by omega);refine⟨zs,d,by rw[f];simp[z],e,?_⟩;exact Aop xs a _ _ _ _ g
theorem Aen{xs a:LI}(q:DJ xs)(s:DJ a)(H:C a<=C xs)(h1:C xs<=1048576):∀ (r i:Nat) (b:LI) (c:Int),i+r=C xs->C b=i->DJ b->0<=c/\c<=1 ->
  ∃ (zs:LI) (e g:Int),DJ zs/\C zs=C xs/\0<=e/\z zs-4294967296^C xs*e=z b+4294967296^i*(z (xs.drop i)-z (a.drop i)-c) /\
   w (.loop S3) (Ja xs a i (lm b) c (i:Nat)) xZ0 (Ja xs a (C zs) (lm zs) e g):=by
 intro r;induction r with
 | zero =>
  intro i b c hi hl hu hc;have t:z (xs.drop i)=0:=OI (by omega);have u:z (a.drop i)=0:=OI (by omega);have v:C xs=i:=by omega
  refine⟨b,c,i,hu,by omega,hc.1,by rw[t,u,v];grind,?_⟩;rw[hl];exact f (Aos xs a i (lm b) c (i:Nat) (by simp;omega))
 | succ r x =>
  intro i b c hi hl hu hc;have I:=FU q i;have K:=FU s i;have l:J D (i+1)=((i+1:Nat):Int):=wrz
  have step:w S3 (Ja xs a i (lm b) c (i:Nat)) .norm (Ja xs a (i+1) (lm (b++[(O xs i 0-O a i 0-c) % 4294967296])) (-((O xs i 0-O a i 0-c) / 4294967296)) ((i+1:Nat))):=by
   have n:J A3 (O xs i 0)=O xs i 0:=by rw[Es];omega
   have y:J A3 (O a i 0)=O a i 0:=by rw[Es];omega
   by_cases L:i<C a
   ·have k:=Aoq xs a i (lm b) c (i:Nat) (by simp;omega) (by simp;omega) (by omega) (by omega) (by omega);have h:J A3 (J A3 (O xs i 0-O a i 0)-c) % 4294967296=(O xs i 0-O a i 0-c) % 4294967296:=by rw[Es,Es];omega
    have j:J A3 (J A3 (O xs i 0-O a i 0)-c) / 9223372036854775808 = -((O xs i 0-O a i 0-c) / 4294967296):=by rw[Es,Es];omega
    simp only[Ao,n,y,Axi,NB,h,j,l,L5] at k;exact k
   ·have k:=Aor xs a i (lm b) c (i:Nat) (by simp;omega) (by simp;omega) (by omega) (by omega);have o:O a i 0=0:=Ft (by omega);have h:J A3 (J A3 (O xs i 0-0)-c) % 4294967296=(O xs i 0-O a i 0-c) % 4294967296:=by rw[Es,Es,o];omega
    have j:J A3 (J A3 (O xs i 0-0)-c) / 9223372036854775808 = -((O xs i 0-O a i 0-c) / 4294967296):=by rw[Es,Es,o];omega
    simp only[Ao,n,Axi,NB,h,j,l,L5] at k;exact k
  obtain⟨zs,e,g,A,B,E,F,G⟩:=x (i+1) (b++[(O xs i 0-O a i 0-c) % 4294967296]) (-((O xs i 0-O a i 0-c) / 4294967296)) (by omega) (by simp[hl]) (S4 hu (by omega)) (by omega);refine⟨zs,e,g,A,B,E,?_,Ay step G⟩;rw[F,Qa,hl,Ln xs i,Ln a i,EV];have hd:=qX (O xs i 0-O a i 0-c) 4294967296;generalize (O xs i 0-O a i 0-c) % 4294967296=m at *
  generalize (O xs i 0-O a i 0-c) / 4294967296=d at *
  generalize (4294967296:Int)^i=p at *
  generalize z (xs.drop (i+1))=X at *
  generalize z (a.drop (i+1))=Y at *
  have:O xs i 0+4294967296*X-(O a i 0+4294967296*Y)-c=m+4294967296*(d+X-Y):=by omega
  rw[this];grind
theorem T3{xs a:LI}(b:DJ xs)(h:DJ a)(hl:C a<=C xs)(k:z a<=z xs)(h1:C xs<=1048576):∃ zs,DJ zs/\z zs=z xs-z a/\C zs=C xs/\RQ 290 [y lm xs,y lm a] (P 1 (C zs) (lm zs)):=by
 obtain⟨zs,c,l,d,e,m,f,i⟩:=Aen b h hl h1 (C xs) 0 [] 0 (by omega) rfl (fun x b=>by cases b) (by omega);simp only[z,hJ,DF,Int.one_mul,Axz,Int.sub_zero] at f;have j:=JF d;rw[e] at j;have n:=Vb (C xs);have hc:c=0:=by
  generalize (4294967296:Int)^C xs=p at *
  rcases Int.lt_or_le 0 c with g | g
  ·have:p*1<=p*c:=Cz (by omega) (by omega);omega
  ·omega
 subst hc;refine⟨zs,d,by simpa using f,e,?_⟩;exact Aot xs a _ _ _ _ i
theorem L6{neg:Bool}{xs:LI}(hu:DJ xs)(a:C xs<=1048576):RQ 108 [I neg,y lm xs] (HG (rv neg xs)):=Mn hu a
theorem XD{neg:Bool}{xs:LI}(hu:DJ xs)(b:C xs<=1048576):RQ 153 [M [I neg,y lm xs]] (A D (Fm (rv neg xs))):=by
 have a:=II (AR b (by decide));have c:C (l xs)=0↔z xs=0:=by
  have:=Fa hu;rw[RS hu,TK];omega
 have d:=Fa hu;by_cases h0:z xs=0
 ·have h:=oD neg xs (by rw[AW];omega) a;have e:Fm (rv neg xs)=0:=by unfold rv;rw[h0];cases neg <;> rfl
  rw[e];exact h
 ·cases neg with
  | true =>
   have h:=oE true xs (by rw[H8];omega) rfl a;have e:Fm (rv true xs) = -1:=by simp only[rv,if_true,Fm]; (repeat' split) <;> omega
   rw[e];exact h
  | false =>
   have h:=oF false xs (by rw[H8];omega) rfl a;have e:Fm (rv false xs)=1:=by simp only[rv,AC,if_false,Fm]; (repeat' split) <;> omega
   rw[e];exact h
theorem Aou(neg:Bool)(xs:LI):rv (!neg) xs = -(rv neg xs):=by unfold rv;cases neg <;> simp
theorem Aeo{neg:Bool}{xs:LI}(hu:DJ xs)(a:C xs<=1048576):RQ 106 [M [I neg,y lm xs]] (B4 (-(rv neg xs))):=by
 have h:=L6 (neg := !neg) hu a;rw[Aou] at h;exact Aoj neg xs _ h
theorem uS{neg:Bool}{xs:LI}(hu:DJ xs)(a:C xs<=1048576):RQ 209 [M [I neg,y lm xs]] (B4 (rv neg xs)):=Aok neg xs _ (L6 hu a)
section
variable(b d:Bool)(xs a zs:LI)
theorem Aep(v:Int)(e:RQ 211 [y lm xs] (P 1 (C (l xs)) (lm (l xs))))(f:RQ 211 [y lm a] (P 1 (C (l a)) (lm (l a))))(h:RQ 228 [y lm (l xs),y lm (l a)] (P 1 (C zs) (lm zs)))(i:RQ 108 [I (!(b==d)),y lm zs] (HG v)):RQ 143 [M [I b,y lm xs],M [I d,y lm a]] (B4 v):=Bz (fn:=iF g Aig) Ca rfl 400 rfl [.r (P 1 (C (l xs)) (lm (l xs))),.r (P 1 (C (l a)) (lm (l a))),.r (P 1 (C zs) (lm zs)),.r (HG v)] (Jm e f h i)
theorem uT(v:Int)(c1:(b==d)=true)(e:RQ 211 [y lm xs] (P 1 (C (l xs)) (lm (l xs))))(f:RQ 211 [y lm a] (P 1 (C (l a)) (lm (l a))))(h:RQ 289 [y lm (l xs),y lm (l a)] (P 1 (C zs) (lm zs)))(i:RQ 108 [I b,y lm zs] (HG v)):RQ 246 [M [I b,y lm xs],M [I d,y lm a]] (B4 v):=Bz (fn:=iF g bJ) Ca rfl 400 rfl [.r (P 1 (C (l xs)) (lm (l xs))),.r (P 1 (C (l a)) (lm (l a))),q,.r (P 1 (C zs) (lm zs)),.r (HG v)] (GK e f c1 h i)
theorem uU(v c:Int)(c1:(b==d)=false)(c2:E (c>=0)=true)(e:RQ 211 [y lm xs] (P 1 (C (l xs)) (lm (l xs))))(f:RQ 211 [y lm a] (P 1 (C (l a)) (lm (l a))))(h:RQ 227 [y lm (l xs),y lm (l a)] (A D c))(i:RQ 290 [y lm (l xs),y lm (l a)] (P 1 (C zs) (lm zs)))(j:RQ 108 [I b,y lm zs] (HG v)):RQ 246 [M [I b,y lm xs],M [I d,y lm a]] (B4 v):=Bz (fn:=iF g bJ) Ca rfl 400 rfl [.r (P 1 (C (l xs)) (lm (l xs))),.r (P 1 (C (l a)) (lm (l a))),Y,.r (A D c),q,.r (P 1 (C zs) (lm zs)),.r (HG v)] (Jn e f c1 h c2 i j)
theorem uV(v c:Int)(c1:(b==d)=false)(c2:E (c>=0)=false)(e:RQ 211 [y lm xs] (P 1 (C (l xs)) (lm (l xs))))(f:RQ 211 [y lm a] (P 1 (C (l a)) (lm (l a))))(h:RQ 227 [y lm (l xs),y lm (l a)] (A D c))(i:RQ 290 [y lm (l a),y lm (l xs)] (P 1 (C zs) (lm zs)))(j:RQ 108 [I d,y lm zs] (HG v)):RQ 246 [M [I b,y lm xs],M [I d,y lm a]] (B4 v):=Bz (fn:=iF g bJ) Ca rfl 400 rfl [.r (P 1 (C (l xs)) (lm (l xs))),.r (P 1 (C (l a)) (lm (l a))),Y,.r (A D c),Y,.r (P 1 (C zs) (lm zs)),.r (HG v)] (Jn e f c1 h c2 i j)
end
theorem oJ(neg:Bool)(xs:LI):rv neg (l xs)=rv neg xs:=by unfold rv;rw [Gm]
theorem ZR{xs:LI}(h:DJ xs):DJ (l xs):=(Jp h).1
theorem Atg(a b:Bool)(xs c zs:LI)(h:z zs=z xs*z c):rv (!(a==b)) zs=rv a xs*rv b c:=by
 unfold rv;rw[h];generalize z xs=X;generalize z c=Y;cases a <;> cases b <;> simp <;> grind
theorem oK{na nb:Bool}{xs a:LI}(c:DJ xs)(d:DJ a)(h:C xs+C a<=1048576):RQ 143 [M [I na,y lm xs],M [I nb,y lm a]] (B4 (rv na xs*rv nb a)):=by
 have i:=Lm xs;have j:=Lm a;obtain⟨zs,k,e,f,g⟩:=T2 (ZR c) (ZR d) (by omega);have b:=L6 (neg := !(na==nb)) e (by omega);rw[Atg na nb (l xs) (l a) zs f,oJ,oJ] at b;exact Aep na nb xs a zs _ (II (by omega)) (II (by omega)) g b
theorem XE{na nb:Bool}{xs a:LI}(n:DJ xs)(o:DJ a)(h1:C xs<1048576)(h2:C a<1048576):RQ 246 [M [I na,y lm xs],M [I nb,y lm a]] (B4 (rv na xs+rv nb a)):=by
 have p:=Lm xs;have q:=Lm a;have c1:=Jp n;have c2:=Jp o;have h:=II (xs:=xs) (by omega);have i:=II (xs:=a) (by omega);have k:=On c1 c2 (by omega);by_cases hn:na=nb
 ·subst hn;obtain⟨zs,c,d,m,f⟩:=oI c1.1 c2.1 (by omega) (by omega);have b:=L6 (neg:=na) c (by omega);have e:rv na zs=rv na xs+rv na a:=by
   unfold rv;rw[d,Gm,Gm];cases na <;> simp;omega
  rw[e] at b;exact uT na na xs a zs _ (by simp) h i f b
 ·have hb:nb = !na:=by cases na <;> cases nb <;> simp at hn |-
  by_cases hc:Eu (z (l xs)) (z (l a))>=0
  ·have g:z (l a)<=z (l xs):=by unfold Eu at hc;split at hc <;> (try split at hc) <;> omega
   have j:C (l a)<=C (l xs):=PQ c2 (Aeq g (JF c1.1));obtain⟨zs,c,d,m,f⟩:=T3 c1.1 c2.1 j g (by omega);have b:=L6 (neg:=na) c (by omega);have e:rv na zs=rv na xs+rv nb a:=by
    unfold rv;rw[d,Gm,Gm,hb];cases na <;> simp <;> omega
   rw[e] at b;exact uU na nb xs a zs _ _ (by rw[hb];cases na <;> rfl) (by simpa using hc) h i k f b
  ·have g:z (l xs)<=z (l a):=by unfold Eu at hc;split at hc <;> (try split at hc) <;> omega
   have j:C (l xs)<=C (l a):=PQ c1 (Aeq g (JF c2.1));obtain⟨zs,c,d,m,f⟩:=T3 c2.1 c1.1 j g (by omega);have b:=L6 (neg:=nb) c (by omega);have e:rv nb zs=rv na xs+rv nb a:=by
    unfold rv;rw[d,Gm,Gm,hb];cases na <;> simp <;> omega
   rw[e] at b;exact uV na nb xs a zs _ _ (by rw[hb];cases na <;> rfl) (by simpa using hc) h i k f b
def TBD:Bo:=TBC
theorem Bq:AQ Cy TBD:=Ca
def Rp:ICode:=CG bE 94 56
section
variable(rs:BX)(n:Int)
def I7:V:=X (y s rs)::W 2 (vi n::W 31 [])
theorem Aer(c1:E (n>0)=true)(c2:(Fm (AX (O rs (L (J D (n-1))) z0))==0)=true)(a:0<=J D (n-1)/\J D (n-1)<(C rs:Int))(b:RQ 153 [CC (O rs (L (J D (n-1))) z0)] (A D (Fm (AX (O rs (L (J D (n-1))) z0))))):w Rp (I7 rs n) .norm (I7 rs (J D (n-1))):=B Bq [q,.v (CC (O rs (L (J D (n-1))) z0)),.r (A D (Fm (AX (O rs (L (J D (n-1))) z0)))),q] [0,3] (GK c1 a (Hv a) b c2)
theorem Aes(c1:E (n>0)=true)(c2:(Fm (AX (O rs (L (J D (n-1))) z0))==0)=false)(a:0<=J D (n-1)/\J D (n-1)<(C rs:Int))(b:RQ 153 [CC (O rs (L (J D (n-1))) z0)] (A D (Fm (AX (O rs (L (J D (n-1))) z0))))):w Rp (I7 rs n) xZ0 (I7 rs n):=B Bq [q,.v (CC (O rs (L (J D (n-1))) z0)),.r (A D (Fm (AX (O rs (L (J D (n-1))) z0)))),Y] [0,3] (GK c1 a (Hv a) b c2)
theorem Aet(c1:E (n>0)=false):w Rp (I7 rs n) xZ0 (I7 rs n):=B Bq [Y,Y] [0,3] (GY c1 Dr)
end
def Up:ICode:=CG bE 91 500
section
variable(rs:BX)(n:Int)(k:Nat)(cs:u)(i:Int)
def Ju:V:=X (y s rs)::W 2 (vi n::An 2 k cs::vi i::W 29 [])
theorem Aeu(c1:E (i<n)=true)(a:0<=i/\i<C rs)(b:k+1<=1048576)(c:RQ 209 [CC (O rs (L i) z0)] (B4 (AX (O rs (L i) z0)))):w Up (Ju rs n k cs i) .norm (Ju rs n (k+1) (cs++([I (E (AX (O rs (L i) z0)<0)),y lm (o (Ax (AX (O rs (L i) z0))))]:u)) (J D (i+1))):=B Bq [q,.v (CC (O rs (L i) z0)),.r (B4 (AX (O rs (L i) z0)))] jB (Kf c1 a (Hv a) c (show C ([I (E (AX (O rs (L i) z0)<0)),y lm (o (Ax (AX (O rs (L i) z0))))]:u)=1*2 from rfl) b)
theorem Aev(c1:E (i<n)=false):w Up (Ju rs n k cs i) xZ2 (Ju rs n k cs i):=B Bq [Y] jB (Bp c1)
end
theorem Aov(rs:BX)(n i:Int)(k:Nat)(cs:u)(a:w (.loop Rp) (I7 rs (C rs)) xZ0 (I7 rs n))(b:w (.loop Up) (Ju rs n 0 ([]:u) 0) xZ2 (Ju rs n k cs i)):RQ 152 [y s rs] (P 2 k cs):=IU bE (W 2 (An 2 k cs::W 32 [])) (BZ (T (B Bq [] [0,3] a0) (T (m a) (B3 (T (B Bq [] jB a0) (T (m b) (B Bq [] [2] a0)))))))
theorem oL(rs:BX)(r:Rn):s rs++([I r.1,G (C r.2) (lm r.2)]:u)=s (rs++[r]):=by rw [Vd];rfl
theorem MH(g:Nat->Rn)(i:Nat):(A' (i+1)).map g=(A' i).map g++[g i]:=by rw [List.range_succ,hU];rfl
theorem uW{rs:BX}(b:∀ r∈rs,DQ 1048576 r)(g:C rs<=1048576):∀ m,m<=C rs->w (.loop Rp) (I7 rs (m:Nat)) xZ0 (I7 rs (BW (vals rs) m:Nat)):=by
 intro m;induction m with
 | zero=>intro _;exact f (Aet rs ((0:Nat)) (by simp))
 | succ m c =>
  intro h;have a:J D ((m+1:Nat)-1)=(m:Int):=wrz
  obtain⟨d,e⟩:=CY b m;have hs:=XD (neg:=(O rs m z0).1) d e;simp only[BW];rw[FG];by_cases h0:AX (O rs m z0)=0
  ·rw[Af h0];have k:=Aer rs ((m+1:Nat)) (by simp) (by rw[a,Ao,h0];rfl) (by rw[a];omega) (by simp only[a,Ao];exact hs);rw[a] at k;exact Ay k (c (by omega))
  ·rw[Ak h0];exact f (Aes rs ((m+1:Nat)) (by simp) (by rw[a,Ao,H8];unfold Fm; (repeat' split) <;> omega) (by rw[a];omega) (by simp only[a,Ao];exact hs))
theorem uX{rs:BX}(a:∀ r∈rs,DQ 1048576 r)(e:C rs<=1048576)(n:Nat)(hn:n<=C rs) :
  w (.loop Up) (Ju rs (n:Nat) 0 [] 0) xZ2 (Ju rs (n:Nat) n (s ((A' n).map fun j=>cn (AX (O rs j z0)))) (n:Nat)):=by
 refine PT (fun i=>Ju rs (n:Nat) i (s ((A' i).map fun j=>cn (AX (O rs j z0)))) (i:Nat)) n (by nofun) ?_ ?_ 0 (Cj _)
 ·intro i hi;have b:J D (i+1)=((i+1:Nat):Int):=wrz
  obtain⟨c,d⟩:=CY a i;have k:=Aeu rs (n:Nat) i (s ((A' i).map fun j=>cn (AX (O rs j z0)))) (i:Nat) (by simp;omega) (by omega) (by omega) (by simp only[Ao];exact uS c d);refine k.to rfl ?_;simp only[Ao,b];rw[MH,<- oL];rfl
 ·exact Aev rs (n:Nat) n _ (n:Nat) (by simp)
theorem JZ{rs:BX}(b:∀ r∈rs,DQ 1048576 r)(c:C rs<=1048576):RQ 152 [y s rs] (P 2 (C (l (vals rs))) (pk (l (vals rs)))):=by
 have e:=N1 (vals rs) (C rs);have a:C (l (vals rs))=BW (vals rs) (C rs):=by rw[bP,FF]
 have h:=Aov rs _ _ _ _ (uW b c (C rs) (Ar _)) (uX b c _ e);have d:(A' (BW (vals rs) (C rs))).map (fun j=>cn (AX (O rs j z0)))=(l (vals rs)).map cn:=by
  rw[<- Aby,a];apply List.map_congr_left;intro i _;rw[Hl,FG]
 (first|rw[d,<- a] at h|(rw[d] at h;unfold y at h;rw[<- a] at h));exact h
def fD:ICode:=CG rZ 93 116
section
variable(rs:BX)(k:Nat)(cs:u)(i:Int)
def Ot:V:=X (y s rs)::W 1 (An 2 0 []::An 2 k cs::vi i::W 16 [])
theorem Aow(c1:E (i<C rs)=true)(a:0<=i/\i<C rs)(b:k+1<=1048576)(c:RQ 106 [CC (O rs (L i) z0)] (B4 (-(AX (O rs (L i) z0))))):w fD (Ot rs k cs i) .norm (Ot rs (k+1) (cs++([I (E ((-(AX (O rs (L i) z0)))<0)),y lm (o (Ax (-(AX (O rs (L i) z0)))))]:u)) (J D (i+1))):=B Bq [q,.v (CC (O rs (L i) z0)),.r (B4 (-(AX (O rs (L i) z0))))] Z2 (Kf c1 a (Hv a) c (show C ([I (E ((-(AX (O rs (L i) z0)))<0)),y lm (o (Ax (-(AX (O rs (L i) z0)))))]:u)=1*2 from rfl) b)
theorem Aox(c1:E (i<C rs)=false):w fD (Ot rs k cs i) xZ0 (Ot rs k cs i):=B Bq [Y] Z2 (Bp c1)
end
theorem Aoy(rs os a:BX)(i:Int)(k:Nat)(b:w (.loop fD) (Ot rs 0 ([]:u) 0) xZ0 (Ot rs k (s os) i))(c:RQ 152 [G k (s os)] (P 2 (C a) (s a))):RQ 178 [y s rs] (P 2 (C a) (s a)):=IU rZ (W 2 (An 2 (C a) (s a)::W 18 [])) (BZ (B3 (T (B Bq [] Z2 a0) (T (m b) (B Bq [.r (P 2 (C a) (s a))] [2] (Bp c))))))
theorem uY(rs:BX)(i:Int)(c1:E (i<C rs)=true)(a:0<=i/\i<C rs):RQ 247 [y s rs,A D i] (CC (O rs (L i) z0)):=Bz (fn:=iF g sC) Bq rfl 400 rfl [q,.v (CC (O rs (L i) z0))] (Im c1 a (Hv a))
theorem uZ(rs:BX)(i:Int)(c1:E (i<C rs)=false):RQ 247 [y s rs,A D i] (M [I false,G 0 []]):=Bz (fn:=iF g sC) Bq rfl 400 rfl [Y] (Bp c1)
def XF:ICode:=CG rX 93 116
section
variable(rs ss:BX)(k:Nat)(cs:u)(i:Int)
def Jb:V:=X (y s rs)::X (y s ss)::W 2 (An 2 0 []::An 2 k cs::vi i::W 24 [])
theorem Aoz(c1:E (i<C rs)=true)(a:k+1<=1048576)(b:RQ 247 [y s rs,A D i] (CC (O rs (L i) z0)))(c:RQ 247 [y s ss,A D i] (CC (O ss (L i) z0)))(d:RQ 246 [CC (O rs (L i) z0),CC (O ss (L i) z0)] (B4 (AX (O rs (L i) z0)+AX (O ss (L i) z0)))):w XF (Jb rs ss k cs i) .norm (Jb rs ss (k+1) (cs++([I (E ((AX (O rs (L i) z0)+AX (O ss (L i) z0))<0)),y lm (o (Ax (AX (O rs (L i) z0)+AX (O ss (L i) z0))))]:u)) (J D (i+1))):=B Bq [q,q,.r (CC (O rs (L i) z0)),.r (CC (O ss (L i) z0)),.r (B4 (AX (O rs (L i) z0)+AX (O ss (L i) z0)))] UT (Jn c1 GJ b c d (show C ([I (E ((AX (O rs (L i) z0)+AX (O ss (L i) z0))<0)),y lm (o (Ax (AX (O rs (L i) z0)+AX (O ss (L i) z0))))]:u)=1*2 from rfl) a)
theorem Apa(c1:E (i<C rs)=false)(c2:E (i<C ss)=true)(a:k+1<=1048576)(b:RQ 247 [y s rs,A D i] (CC (O rs (L i) z0)))(c:RQ 247 [y s ss,A D i] (CC (O ss (L i) z0)))(d:RQ 246 [CC (O rs (L i) z0),CC (O ss (L i) z0)] (B4 (AX (O rs (L i) z0)+AX (O ss (L i) z0)))):w XF (Jb rs ss k cs i) .norm (Jb rs ss (k+1) (cs++([I (E ((AX (O rs (L i) z0)+AX (O ss (L i) z0))<0)),y lm (o (Ax (AX (O rs (L i) z0)+AX (O ss (L i) z0))))]:u)) (J D (i+1))):=B Bq [Y,q,.r (CC (O rs (L i) z0)),.r (CC (O ss (L i) z0)),.r (B4 (AX (O rs (L i) z0)+AX (O ss (L i) z0)))] UT (Jn c1 c2 b c d (show C ([I (E ((AX (O rs (L i) z0)+AX (O ss (L i) z0))<0)),y lm (o (Ax (AX (O rs (L i) z0)+AX (O ss (L i) z0))))]:u)=1*2 from rfl) a)
theorem Apb(c1:E (i<C rs)=false)(c2:E (i<C ss)=false):w XF (Jb rs ss k cs i) xZ0 (Jb rs ss k cs i):=B Bq [Y,Y] UT (GY c1 c2)
end
theorem Apc(rs ss os a:BX)(i:Int)(k:Nat)(b:w (.loop XF) (Jb rs ss 0 ([]:u) 0) xZ0 (Jb rs ss k (s os) i))(c:RQ 152 [G k (s os)] (P 2 (C a) (s a))):RQ 170 [y s rs,y s ss] (P 2 (C a) (s a)):=IU rX (W 4 (An 2 (C a) (s a)::W 26 [])) (BZ (B3 (T (B Bq [] UT a0) (T (m b) (B Bq [.r (P 2 (C a) (s a))] [4] (Bp c))))))
theorem Apd(rs ss a us:BX)(b:RQ 178 [y s ss] (P 2 (C a) (s a)))(c:RQ 170 [y s rs,y s a] (P 2 (C us) (s us))):RQ 172 [y s rs,y s ss] (P 2 (C us) (s us)):=Bz (fn:=iF g Aik) Bq rfl 400 rfl [.r (P 2 (C a) (s a)),.r (P 2 (C us) (s us))] (GY b c)
def Uq:ICode:=CG RP 86 15652
section
variable(rs ss:BX)(k:Nat)(os:BX)(i j:Int)
def K4:V:=X (y s rs)::X (y s ss)::W 2 (An 2 0 []::An 2 k (s os)::vi i::vi j::W 50 [])
theorem Aew(c1:E (j<C ss)=true)(a:0<=J D (i+j)/\J D (i+j)<(k:Int))(b:C os=k)(c:0<=i/\i<C rs)(d:0<=j/\j<C ss)(e:RQ 143 [CC (O rs (L i) z0),CC (O ss (L j) z0)] (B4 (AX (O rs (L i) z0)*AX (O ss (L j) z0))))(f:RQ 246 [CC (O os (L (J D (i+j))) z0),B4 (AX (O rs (L i) z0)*AX (O ss (L j) z0))] (B4 (AX (O os (L (J D (i+j))) z0)+(AX (O rs (L i) z0)*AX (O ss (L j) z0))))):w Uq (K4 rs ss k os i j) .norm (K4 rs ss k (os.set (L (J D (i+j))) (cn (AX (O os (L (J D (i+j))) z0)+(AX (O rs (L i) z0)*AX (O ss (L j) z0))))) i (J D (j+1))):=B Bq [q,.v (CC (O os (L (J D (i+j))) z0)),.v (CC (O rs (L i) z0)),.v (CC (O ss (L j) z0)),.r (B4 (AX (O rs (L i) z0)*AX (O ss (L j) z0))),.r (B4 (AX (O os (L (J D (i+j))) z0)+(AX (O rs (L i) z0)*AX (O ss (L j) z0)))),.l (s (os.set (L (J D (i+j))) (cn (AX (O os (L (J D (i+j))) z0)+(AX (O rs (L i) z0)*AX (O ss (L j) z0))))))] [0,1,4,5,6,7] (Lk c1 a (Ais b a) c (Hv c) d (Hv d) e f a (Ait (r:=cn (AX (O os (L (J D (i+j))) z0)+(AX (O rs (L i) z0)*AX (O ss (L j) z0)))) b a))
theorem Aex(c1:E (j<C ss)=false):w Uq (K4 rs ss k os i j) xZ2 (K4 rs ss k os i j):=B Bq [Y] [0,1,4,5,6,7] (Bp c1)
end
def fE:ICode:=CG RP 92 244
section
variable(rs ss:BX)(k:Nat)(os:BX)(i:Int)
def Qb:V:=X (y s rs)::X (y s ss)::W 2 (An 2 0 []::An 2 k (s os)::vi i::W 51 [])
theorem Ape(a:BX)(c1:E (i<C rs)=true)(b:w (.loop Uq) (K4 rs ss k os i 0) xZ2 (K4 rs ss k a i (C ss))):w fE (Qb rs ss k os i) .norm (Qb rs ss k a (J D (i+1))):=T (B (t:=(vp rs::vp ss::W 2 (An 2 0 []::An 2 k (s os)::vi i::W 51 []))) Bq [q] UT (Bp c1)) (T (Bc (T (B Bq [] [0,1,4,5,6,7] a0) (m b))) (B Bq [] UT a0))
theorem Apf(c1:E (i<C rs)=false):w fE (Qb rs ss k os i) xZ0 (Qb rs ss k os i):=d (B Bq [Y] UT (Bp c1))
end
theorem vA(rs ss:BX)(c1:((C rs:Int)==0)=true):RQ 173 [y s rs,y s ss] (P 2 0 []):=IU RP (W 4 (An 2 0 []::W 53 [])) (BZ (BZ (B3 (d (B Bq [q,q] [4] (GY c1 GJ))))))
theorem vB(rs ss:BX)(c1:((C rs:Int)==0)=false)(c2:((C ss:Int)==0)=true):RQ 173 [y s rs,y s ss] (P 2 0 []):=IU RP (W 4 (An 2 0 []::W 53 [])) (BZ (BZ (B3 (d (B Bq [Y,q] [4] (GY c1 c2))))))
theorem vC(rs ss os a:BX)(i:Int)(k:Nat)(c1:((C rs:Int)==0)=false)(c2:((C ss:Int)==0)=false)(b:0<=J D (J D (C rs+C ss)-1)/\J D (J D (C rs+C ss)-1)<=1048576)(c:w (.loop fE) ((X (y s rs)::X (y s ss)::W 2 (An 2 0 []::An 2 (L (J D (J D (C rs+C ss)-1))) (CE [I false,G 0 []] (L (J D (J D (C rs+C ss)-1))))::vi 0::W 51 []))) xZ0 (Qb rs ss k os i))(d:RQ 152 [G k (s os)] (P 2 (C a) (s a))):RQ 173 [y s rs,y s ss] (P 2 (C a) (s a)):=IU RP (W 4 (An 2 (C a) (s a)::W 53 [])) (BZ (BZ (B3 (T (B Bq [Y,Y] UT (Im c1 c2 b)) (T (m c) (B Bq [.r (P 2 (C a) (s a))] [4] (Bp d)))))))
theorem Mp(g:Nat->Int)(i:Nat):s ((A' i).map fun j=>cn (g j))++([I (E (g i<0)),y lm (o (Ax (g i)))]:u)=s ((A' (i+1)).map fun j=>cn (g j)):=by
 rw[MH (fun j=>cn (g j)),<- oL];rfl
theorem oO(f:Nat->Int)(n i:Nat):O ((A' n).map f) i 0=if i<n then f i else 0:=by
 rw[Z,E5];by_cases h:i<n
 ·rw[A0t h,Af h];rfl
 ·rw[AS (by simpa using h),Ak h];rfl
theorem ZS{rs:BX}(b:∀ r∈rs,DQ 1048576 r)(g:C rs<=1048576):RQ 178 [y s rs] (P 2 (C (l (Hu (vals rs)))) (pk (l (Hu (vals rs))))):=by
 have h:=PT (prog:=Cy) (c:=fD) (ex := .exit 0) (fin:=Ot rs (C rs) (s ((A' (C rs)).map fun j=>cn (-AX (O rs j z0)))) (C rs:Nat))
  (fun i=>Ot rs i (s ((A' i).map fun j=>cn (-AX (O rs j z0)))) (i:Nat)) (C rs) (by nofun) ?_ ?_ 0 (Cj _)
 ·have m:∀ r∈(A' (C rs)).map (fun j=>cn (-AX (O rs j z0))),DQ 1048576 r:=PR fun j _=>JG (CY b j).fits.neg;have a:=JZ m (by rw[Bx,Cm];exact g);have e:l (vals ((A' (C rs)).map (fun j=>cn (-AX (O rs j z0)))))=l (Hu (vals rs)):=by
   apply J3;intro i;rw[N4,Lo,Vh,<- FG];split
   ·rfl
   ·rw[Ft (by rw[FF];omega)];rfl
  (first|rw[e,Bx,Cm] at a|(rw[e] at a;unfold y at a;rw[Bx,Cm] at a));have d:pk (l (Hu (vals rs)))=s ((l (Hu (vals rs))).map cn):=rfl;(first|rw[d,<- Bx (f:=cn)] at a |-|(rw[d] at a |-;unfold y at a;rw[<- Bx (f:=cn)] at a |-));exact Aoy rs _ _ _ _ h a
 ·intro i hi;have n:J D (i+1)=((i+1:Nat):Int):=wrz
  obtain⟨o,p⟩:=CY b i;have k:=Aow rs i (s ((A' i).map fun j=>cn (-AX (O rs j z0)))) (i:Nat) (by simp;omega) (by omega) (by omega) (by rw[Ao];exact Aeo o p);refine k.to rfl ?_;rw[n,<- Mp (fun j => -AX (O rs j z0)) i,Ao]
 ·exact Aox rs _ _ _ (by simp)
theorem vD{rs:BX}{i:Nat}(h:C rs<=i):O rs i z0=z0:=by rw [Z,AS h];rfl
theorem oP(rs:BX)(i:Nat):RQ 247 [y s rs,A D (i:Nat)] (CC (O rs i z0)):=by
 by_cases h:i<C rs
 ·have:=uY rs (i:Nat) (by simp;omega) (by omega);rw[Ao] at this;exact this
 ·rw[vD (by omega)];exact uZ rs (i:Nat) (by simp;omega)
theorem XG{K:Nat}{rs ss:BX}(hr:∀ r∈rs,DQ K r)(hs:∀ r∈ss,DQ K r)(v:K<1048576)(w:C rs<=1048576)(x:C ss<=1048576) :
  RQ 170 [y s rs,y s ss] (P 2 (C (HH (vals rs) (vals ss))) (pk (HH (vals rs) (vals ss)))):=by
 have h:=PT (prog:=Cy) (c:=XF) (ex := .exit 0) (fin:=Jb rs ss (max (C rs) (C ss)) (s ((A' (max (C rs) (C ss))).map fun j=>cn (AX (O rs j z0)+AX (O ss j z0)))) ((max (C rs) (C ss):Nat)))
  (fun i=>Jb rs ss i (s ((A' i).map fun j=>cn (AX (O rs j z0)+AX (O ss j z0)))) (i:Nat)) (max (C rs) (C ss)) (by nofun) ?_ ?_ 0 (Cj _)
 ·have m:∀ r∈(A' (max (C rs) (C ss))).map (fun j=>cn (AX (O rs j z0)+AX (O ss j z0))),DQ 1048576 r:=PR fun j _=>(JG ((CY hr j).fits.add (CY hs j).fits)).mono (by omega);have a:=JZ m (by rw[Bx,Cm];omega);have e:l (vals ((A' (max (C rs) (C ss))).map (fun j=>cn (AX (O rs j z0)+AX (O ss j z0)))))=HH (vals rs) (vals ss):=by
   unfold HH;apply J3;intro i;rw[N4,oO,Lo,FG,FG,FF,FF]
  (first|rw[e,Bx,Cm] at a|(rw[e] at a;unfold y at a;rw[Bx,Cm] at a));have b:pk (HH (vals rs) (vals ss))=s ((HH (vals rs) (vals ss)).map cn):=rfl;(first|rw[b,<- Bx (f:=cn)] at a |-|(rw[b] at a |-;unfold y at a;rw[<- Bx (f:=cn)] at a |-));exact Apc rs ss _ _ _ _ h a
 ·intro i hi;have n:J D (i+1)=((i+1:Nat):Int):=wrz
  obtain⟨p,z⟩:=CY hr i;obtain⟨q,A⟩:=CY hs i;have d:=XE (na:=(O rs i z0).1) (nb:=(O ss i z0).1) p q (by omega) (by omega);have g:=oP rs i;have k:=oP ss i;have fin:∀ s',Jb rs ss (i+1) (s ((A' i).map fun j=>cn (AX (O rs j z0)+AX (O ss j z0)))++([I (E (AX (O rs (L i) z0)+AX (O ss (L i) z0)<0)),y lm (o (Ax (AX (O rs (L i) z0)+AX (O ss (L i) z0))))]:u)) (J D (i+1))=s'->s'=Jb rs ss (i+1) (s ((A' (i+1)).map fun j=>cn (AX (O rs j z0)+AX (O ss j z0)))) ((i+1:Nat)):=by
   intro s' t;rw[<- t,n,<- Mp (fun j=>AX (O rs j z0)+AX (O ss j z0)) i,Ao]
  by_cases h1:i<C rs
  ·exact (Aoz rs ss i (s ((A' i).map fun j=>cn (AX (O rs j z0)+AX (O ss j z0)))) (i:Nat) (by simp;omega) (by omega) (by rw[Ao];exact g) (by rw[Ao];exact k) (by rw[Ao];exact d)).to rfl (fin _ rfl)
  ·exact (Apa rs ss i (s ((A' i).map fun j=>cn (AX (O rs j z0)+AX (O ss j z0)))) (i:Nat) (by simp;omega) (by simp;omega) (by omega) (by rw[Ao];exact g) (by rw[Ao];exact k) (by rw[Ao];exact d)).to rfl (fin _ rfl)
 ·exact Apb rs ss _ _ _ (by simp;omega) (by simp;omega)
theorem oQ{K:Nat}{rs ss:BX}(hr:∀ r∈rs,DQ K r)(hs:∀ r∈ss,DQ K r)(d:K<1048576)(g:C rs<=1048576)(j:C ss<=1048576) :
  RQ 172 [y s rs,y s ss] (P 2 (C (Tu (vals rs) (vals ss))) (pk (Tu (vals rs) (vals ss)))):=by
 have hn:=ZS (fun r h=>(hs r h).mono (show K<=1048576 by omega)) j;have hf:∀ x∈l (Hu (vals ss)),Co K x:=Vp (Vo (sN hs));have hl:=Lm (Hu (vals ss));rw[Acb,FF] at hl;have c:=XG (ss:=(l (Hu (vals ss))).map cn) hr (Z6 hf) d g (by rw[Bx];omega);rw[jP] at c;have e:HH (vals rs) (l (Hu (vals ss)))=Tu (vals rs) (vals ss):=by
  have h1:l (HH (vals rs) (l (Hu (vals ss))))=l (Tu (vals rs) (vals ss)):=by
   apply J3;intro i;rw[Ma,Hl,Tu,Ma]
  have h2:∀ a b:LI,l (HH a b)=HH a b:=fun a b=>L_ _;rw[h2,Tu,h2] at h1;exact h1
 rw[e] at c;have k:∀ p:LI,pk p=s (p.map cn):=fun _=>rfl;rw[k] at hn c |-;rw[<- Bx (f:=cn)] at hn c |-;exact Apd rs ss _ _ hn c
theorem oR{K:Nat}{rs ss:BX}(hr:∀ r∈rs,DQ K r)(hs:∀ r∈ss,DQ K r)(I:2*K+C rs<1048576)(L:C rs+C ss<=1048576) :
  RQ 173 [y s rs,y s ss] (P 2 (C (Kp (vals rs) (vals ss))) (pk (Kp (vals rs) (vals ss)))):=by
 have u:=fun x=>sS rs ss (C ss) (C rs+C ss-1) x (C rs) (by omega);have o:∀ b:BX,(vals b).take (C b)=vals b:=fun b=>by rw[Ej (by rw[FF];omega)]
 by_cases h1:C rs=0
 ·have d:rs=[]:=A_ h1;subst d;exact vA [] ss (by simp)
 by_cases h2:C ss=0
 ·have d:ss=[]:=A_ h2;subst d;have e:Kp (vals rs) (vals ([]:BX))=[]:=RX rfl;rw[e];exact vB rs [] (by rw[H8];omega) (by simp)
 have v:=Vq (os:=AK (C rs+C ss-1) z0) hr hs (Ts _ _) (C ss) (C rs);have g:=Mb rs ss (AK (C rs+C ss-1) z0) (C ss) (C rs);rw[Cp] at g;have hl:=PT (prog:=Cy) (c:=fE) (ex := .exit 0) (fin:=Qb rs ss (C rs+C ss-1) (Kq rs ss (AK (C rs+C ss-1) z0) (C ss) (C rs)) (C rs:Nat))
  (fun i=>Qb rs ss (C rs+C ss-1) (Kq rs ss (AK (C rs+C ss-1) z0) (C ss) i) (i:Nat)) (C rs) (by nofun) ?_ ?_ 0 (Cj _)
 ·have p:J D (J D (C rs+C ss)-1)=((C rs+C ss-1:Nat):Int):=by
   rw[Bb (n:=(C rs:Int)+(C ss:Int)) (by omega) (by omega),wqz];omega
  have a:=JZ (fun r h=>(v r h).mono (show 2*K+C rs<=1048576 by omega)) (by omega);have q:l (vals (Kq rs ss (AK (C rs+C ss-1) z0) (C ss) (C rs)))=Kp (vals rs) (vals ss):=by
   rw[<- PW];exact PV fun x=>by rw[u x,o,o,N9]
  (first|rw[q,g] at a|(rw[q] at a;unfold y at a;rw[g] at a));have t:pk (Kp (vals rs) (vals ss))=s ((Kp (vals rs) (vals ss)).map cn):=rfl;(first|rw[t,<- Bx (f:=cn)] at a |-|(rw[t] at a |-;unfold y at a;rw[<- Bx (f:=cn)] at a |-));exact vC rs ss _ _ _ _ (by rw[H8];omega) (by rw[H8];omega) (by rw[p];omega) (by rw[p,Ao,Air];exact hl) a
 ·intro i hi;have w:J D (i+1)=((i+1:Nat):Int):=wrz
  have z:=Vq (os:=AK (C rs+C ss-1) z0) hr hs (Ts _ _) (C ss) i;have A:=Mb rs ss (AK (C rs+C ss-1) z0) (C ss) i;rw[Cp] at A;have k:=Ape rs ss (C rs+C ss-1) (Kq rs ss (AK (C rs+C ss-1) z0) (C ss) i) (i:Nat) (Kq rs ss (AK (C rs+C ss-1) z0) (C ss) (i+1)) (by simp;omega) ?_
  ·exact k.to rfl (by rw[w])
  ·rw[Kq];generalize Kq rs ss (AK (C rs+C ss-1) z0) (C ss) i=os at *
   have hin:=PT (prog:=Cy) (c:=Uq) (ex := .exit 2) (fin:=K4 rs ss (C rs+C ss-1) (Pw rs ss os i (C ss)) i (C ss))
    (fun j=>K4 rs ss (C rs+C ss-1) (Pw rs ss os i j) (i:Nat) (j:Nat)) (C ss) (by nofun) ?_ ?_ 0 (Cj _)
   ·exact hin
   ·intro j M;have B:J D (j+1)=((j+1:Nat):Int):=wrz
    have m:J D (i+j)=((i+j:Nat):Int):=wrz
    have N:=NA rs ss os i j;have E:=kB rs ss os i j (i+j) (Ar _);obtain⟨F,Q⟩:=CY hr i;obtain⟨G,R⟩:=CY hs j;obtain⟨H,S⟩:=CY z (i+j);have T:=(Co.mul (CY hr i).fits (CY hs j).fits).len;have k:=Aew rs ss (C rs+C ss-1) (Pw rs ss os i j) (i:Nat) (j:Nat) (by simp;omega) (by rw[m];omega) (by omega) (by omega) (by omega)
     (by simp only[Ao];exact oK F G (by omega))
     (by
      simp only[Ao,m,E];have:=XE (na:=(O os (i+j) z0).1) (nb:=decide (AX (O rs i z0)*AX (O ss j z0)<0)) H (jN (Ax (AX (O rs i z0)*AX (O ss j z0)))) (by omega) (by omega);rw[xM] at this;exact this)
    refine k.to rfl ?_;simp only[Ao,m,B,Pw]
   ·exact Aex rs ss _ _ (i:Nat) (C ss:Nat) (by simp)
 ·exact Apf rs ss _ _ (C rs:Nat) (by simp)
def fF:ICode:=CG rY 93 116
section
variable(xs:LI)(k:Nat)(cs:u)(i:Int)
def Ou:V:=X (G (C xs) (li xs))::W 1 (An 2 0 []::An 2 k cs::vi i::W 16 [])
theorem Apg(c1:E (i<C xs)=true)(a:0<=i/\i<C xs)(b:k+1<=1048576)(c:RQ 33 [A D (O xs (L i) 0)] (B4 (O xs (L i) 0))):w fF (Ou xs k cs i) .norm (Ou xs (k+1) (cs++([I (E (O xs (L i) 0<0)),y lm (o (Ax (O xs (L i) 0)))]:u)) (J D (i+1))):=B Bq [q,.v (A D (O xs (L i) 0)),.r (B4 (O xs (L i) 0))] Z2 (Kf c1 a (RU a) c (show C ([I (E (O xs (L i) 0<0)),y lm (o (Ax (O xs (L i) 0)))]:u)=1*2 from rfl) b)
theorem Aph(c1:E (i<C xs)=false):w fF (Ou xs k cs i) xZ0 (Ou xs k cs i):=B Bq [Y] Z2 (Bp c1)
end
theorem Api(xs:LI)(os a:BX)(i:Int)(k:Nat)(b:w (.loop fF) (Ou xs 0 ([]:u) 0) xZ0 (Ou xs k (s os) i))(c:RQ 152 [G k (s os)] (P 2 (C a) (s a))):RQ 175 [G (C xs) (li xs)] (P 2 (C a) (s a)):=IU rY (W 2 (An 2 (C a) (s a)::W 18 [])) (BZ (B3 (T (B Bq [] Z2 a0) (T (m b) (B Bq [.r (P 2 (C a) (s a))] [2] (Bp c))))))
theorem Aey{xs:LI}(hb:∀ x∈xs,-9223372036854775808<=x/\x<=9223372036854775807)(hn:C xs<=1000):RQ 175 [G (C xs) (li xs)] (P 2 (C ((l xs).map cn)) (s ((l xs).map cn))):=by
 have b:∀ i,-9223372036854775808<=O xs i 0/\O xs i 0<=9223372036854775807:=by
  intro i;rcases C6 i (C xs) with h | h
  ·rw[Z,Ad h];exact hb _ (Bl h)
  ·rw[Ft h];decide
 have h:=PT (prog:=Cy) (c:=fF) (ex := .exit 0) (fin:=Ou xs (C xs) (s ((A' (C xs)).map fun j=>cn (O xs j 0))) (C xs:Nat))
  (fun i=>Ou xs i (s ((A' i).map fun j=>cn (O xs j 0))) (i:Nat)) (C xs) (by nofun) ?_ ?_ 0 (Cj _)
 ·have d:∀ r∈(A' (C xs)).map (fun j=>cn (O xs j 0)),DQ 1048576 r:=PR fun j _=>(JG (DG (b j))).mono (by omega);have a:=JZ d (by rw[Bx,Cm];omega);have e:l (vals ((A' (C xs)).map (fun j=>cn (O xs j 0))))=l xs:=by
   apply J3;intro i;rw[N4,Lo];split
   ·rfl
   ·rw[Ft (by omega)]
  (first|rw[e,Bx,Cm] at a|(rw[e] at a;unfold y at a;rw[Bx,Cm] at a));have f:pk (l xs)=s ((l xs).map cn):=rfl;rw[f] at a;have g:C (l xs)=C ((l xs).map cn):=(Bx ..).symm;rw[g] at a;exact Api xs _ _ _ _ h a
 ·intro i hi;have m:J D (i+1)=((i+1:Nat):Int):=wrz
  have k:=Apg xs i (s ((A' i).map fun j=>cn (O xs j 0))) (i:Nat) (by simp;omega) (by omega) (by omega) (K0 (b _));refine k.to rfl ?_;rw[m,<- Mp (fun j=>O xs j 0) i,Ao]
 ·exact Aph xs _ _ _ (by simp)
def Axj:Bo:=TBD
theorem Bj:AQ Cy Axj:=Bq
def FN(x y m:Int):Bool :=
 match decide (x>=J D (0-m)) with
 | true=>(match decide (x<=m) with
 | true=>(match decide (y>=J D (0-m)) with
 | true=>((E (y<=m)))
 | false=>false)
 | false=>false)
 | false=>false
theorem Apj(x y m:Int)  : RQ 192 [M [A D x,A D y],A D m] (I (FN x y m)):=by
 unfold FN;cases c1:(E (x>=J D (0-m)))
 ·exact N (r := I false) (ps:=[E (x>=J D (0-m))=false,false=false,false=false]) Bj rfl 300 rfl [Y,Y,Y] (by kernel_rfl) ⟨c1,rfl,rfl,trivial⟩
 ·cases c2:(E (x<=m))
  ·exact N (r := I false) (ps:=[E (x>=J D (0-m))=true,E (x<=m)=false,false=false]) Bj rfl 300 rfl [q,Y,Y] (by kernel_rfl) ⟨c1,c2,rfl,trivial⟩
  ·cases c3:(E (y>=J D (0-m)))
   ·exact N (r := I false) (ps:=[E (x>=J D (0-m))=true,E (x<=m)=true,E (y>=J D (0-m))=false]) Bj rfl 300 rfl [q,q,Y] (by kernel_rfl) ⟨c1,c2,c3,trivial⟩
   ·exact N (r := I (E (y<=m))) (ps:=[E (x>=J D (0-m))=true,E (x<=m)=true,E (y>=J D (0-m))=true]) Bj rfl 300 rfl [q,q,q] (by kernel_rfl) ⟨c1,c2,c3,trivial⟩
def Axk:u->Option (AV × List Prop)
 | [M [A D x,A D y],A D m]=>some (I (FN x y m),[])
 | _=>none
def TRR1:Bo:=(192,Axk)::Axj
theorem Ov:AQ Cy TRR1:=AQ.cons Bj (by
 intro args r ps h a;unfold Axk at h;split at h
 ·cases h;exact Apj _ _ _ 
 ·cases h)
section
variable(a b c d h1 h2:Int)
def Rq:Bool :=
 match FN a b 8388608 with
 | true=>(match FN c d 262144 with
 | true=>((FN h1 h2 4096))
 | false=>false)
 | false=>(false)
theorem Ath  : RQ 99 [M [A D a,A D b,A D c,A D d,A D h1,A D h2]] (I (Rq a b c d h1 h2)):=by
 unfold Rq;cases c1:(FN a b 8388608)
 ·exact N (r := I false) (ps:=[FN a b 8388608=false,false=false]) Ov rfl 300 rfl [Y,Y] (by kernel_rfl) ⟨c1,rfl,trivial⟩
 ·cases c2:(FN c d 262144)
  ·exact N (r := I false) (ps:=[FN a b 8388608=true,FN c d 262144=false]) Ov rfl 300 rfl [q,Y] (by kernel_rfl) ⟨c1,c2,trivial⟩
  ·exact N (r := I (FN h1 h2 4096)) (ps:=[FN a b 8388608=true,FN c d 262144=true]) Ov rfl 300 rfl [q,q] (by kernel_rfl) ⟨c1,c2,trivial⟩
end
theorem Aez(a b:Int)(c:RQ 99 [M [A D a,A D b,A D 0,A D 0,A D 0,A D 0]] (I true)):RQ 151 [M [A D a,A D b]] (M [A D a,A D b,A D 0,A D 0,A D 0,A D 0]):=Bz (fn:=iF g Aih) Bj rfl 400 rfl [.r (I true),Y] (GY c Dr)
theorem Afa(c d:Int)(a b:BX)(e:RQ 99 [M [A D c,A D d,A D 0,A D 0,A D 0,A D 0]] (I true))(f:RQ 175 [G 3 [A D c,A D 0,A D 0]] (P 2 (C a) (s a)))(h:RQ 175 [G 3 [A D d,A D 0,A D 0]] (P 2 (C b) (s b))):RQ 245 [M [A D c,A D d,A D 0,A D 0,A D 0,A D 0]] (Dj [y s a,y s b]):=Bz (fn:=iF g Ain) Bj rfl 400 rfl [.r (I true),Y,.r (P 2 (C a) (s a)),.r (P 2 (C b) (s b))] (Jm e Dr f h)
theorem Afb(f h c1 c2:Int)(fx e a b c d:BX)(i:RQ 245 [M [A D f,A D h,A D 0,A D 0,A D 0,A D 0]] (Dj [y s fx,y s e]))(j:RQ 175 [G 1 [A D c1]] (P 2 (C a) (s a)))(k:RQ 172 [y s fx,y s a] (P 2 (C b) (s b)))(l:RQ 175 [G 1 [A D c2]] (P 2 (C c) (s c)))(m:RQ 172 [y s e,y s c] (P 2 (C d) (s d))):RQ 169 [M [A D f,A D h,A D 0,A D 0,A D 0,A D 0],M [A D c1,A D c2]] (Dj [y s b,y s d]):=Bz (fn:=iF g Aii) Bj rfl 400 rfl [.r (Dj [y s fx,y s e]),.r (P 2 (C a) (s a)),.r (P 2 (C b) (s b)),.r (P 2 (C c) (s c)),.r (P 2 (C d) (s d))] (GK i j k l m)
theorem Afc(n:Int)(xs b a:BX)(c:RQ 175 [G 1 [A D n]] (P 2 (C b) (s b)))(d:RQ 173 [y s xs,y s b] (P 2 (C a) (s a))):RQ 171 [y s xs,A D n] (P 2 (C a) (s a)):=Bz (fn:=iF g Aij) Bj rfl 400 rfl [.r (P 2 (C b) (s b)),.r (P 2 (C a) (s a))] (GY c d)
theorem Afd(xs d b c a:BX)(e:RQ 173 [y s xs,y s xs] (P 2 (C b) (s b)))(f:RQ 173 [y s d,y s d] (P 2 (C c) (s c)))(h:RQ 170 [y s b,y s c] (P 2 (C a) (s a))):RQ 177 [y s xs,y s d] (P 2 (C a) (s a)):=Bz (fn:=iF g Ail) Bj rfl 400 rfl [.r (P 2 (C b) (s b)),.r (P 2 (C c) (s c)),.r (P 2 (C a) (s a))] (Im e f h)
section
variable(Q R:Int)(V:ByteArray)(W px py ln lo hi X Y mx rs Z co sw n c:Int)
theorem XH(fx t d h a o i e f u j k v p l m q w x z B F H K L N O S:BX)(c1:E (c<1)=false)(c2:E (c>524288)=false)(n1:RQ 154 [M [.str V,A D W,A D px,A D py,A D ln,I true,A D lo,A D hi,A D X,A D Y,A D mx,A D rs,A D Z,A D co,A D sw]] (I true))(T:RQ 155 [A D n] (I true))(n3:RQ 99 [M [A D Q,A D R,A D 0,A D 0,A D 0,A D 0]] (I true))(n4:RQ 175 [G 2 [A D n,A D (J D (n-n))]] (P 2 (C d) (s d)))(n5:RQ 173 [y s d,y s d] (P 2 (C h) (s h)))(U:RQ 175 [G 1 [A D 65536]] (P 2 (C a) (s a)))(n7:RQ 172 [y s a,y s h] (P 2 (C o) (s o)))(n8:RQ 171 [y s d,A D 512] (P 2 (C i) (s i)))(n9:RQ 178 [y s o] (P 2 (C e) (s e)))(a1:RQ 170 [y s a,y s h] (P 2 (C f) (s f)))(a2:RQ 169 [M [A D Q,A D R,A D 0,A D 0,A D 0,A D 0],M [A D px,A D py]] (Dj [y s fx,y s t]))(a3:RQ 173 [y s fx,y s e] (P 2 (C u) (s u)))(a4:RQ 173 [y s t,y s i] (P 2 (C j) (s j)))(a5:RQ 170 [y s u,y s j] (P 2 (C k) (s k)))(a6:RQ 173 [y s t,y s e] (P 2 (C v) (s v)))(a7:RQ 173 [y s fx,y s i] (P 2 (C p) (s p)))(a8:RQ 172 [y s v,y s p] (P 2 (C l) (s l)))(a9:RQ 177 [y s fx,y s t] (P 2 (C m) (s m)))(b0:RQ 171 [y s f,A D c] (P 2 (C q) (s q)))(b1:RQ 171 [y s f,A D ln] (P 2 (C w) (s w)))(b2:RQ 175 [G 1 [A D (J D (c*c))]] (P 2 (C x) (s x)))(b3:RQ 172 [y s x,y s m] (P 2 (C z) (s z)))(b4:RQ 171 [y s f,A D (J D ((J D (c*c))-(J D (ln*ln))))] (P 2 (C B) (s B)))(b5:RQ 171 [y s k,A D (J D (2*ln))] (P 2 (C F) (s F)))(b6:RQ 170 [y s B,y s F] (P 2 (C H) (s H)))(b7:RQ 173 [y s m,y s f] (P 2 (C K) (s K)))(b8:RQ 172 [y s H,y s K] (P 2 (C L) (s L)))(b9:RQ 172 [y s w,y s k] (P 2 (C N) (s N)))(c0:RQ 172 [y s q,y s l] (P 2 (C O) (s O)))(c3:RQ 170 [y s q,y s l] (P 2 (C S) (s S))):RQ 79 [M [A D Q,A D R,A D 0,A D 0,A D 0,A D 0],M [.str V,A D W,A D px,A D py,A D ln,I true,A D lo,A D hi,A D X,A D Y,A D mx,A D rs,A D Z,A D co,A D sw],A D n,A D n,A D c] (P 1 3 [G 1 [y s z],G 1 [y s L],G 4 [y s k,y s N,y s O,y s S]]):=Bz (fn:=iF g jA) Bj rfl 400 rfl ((.r (I true))::(.b false)::(.r (I true))::(.b false)::(.r (I true))::(.b false)::(.r (I true))::(.b false)::(.b false)::(.b false)::(.r (P 2 (C d) (s d)))::(.r (P 2 (C h) (s h)))::(.r (P 2 (C a) (s a)))::(.r (P 2 (C o) (s o)))::(.r (P 2 (C i) (s i)))::(.b true)::(.r (P 2 (C e) (s e)))::(.r (P 2 (C a) (s a)))::(.r (P 2 (C f) (s f)))::(.r (Dj [y s fx,y s t]))::(.r (P 2 (C u) (s u)))::(.r (P 2 (C j) (s j)))::(.r (P 2 (C k) (s k)))::(.r (P 2 (C v) (s v)))::(.r (P 2 (C p) (s p)))::(.r (P 2 (C l) (s l)))::(.r (P 2 (C m) (s m)))::(.r (P 2 (C q) (s q)))::(.r (P 2 (C w) (s w)))::(.r (P 2 (C x) (s x)))::(.r (P 2 (C z) (s z)))::(.r (P 2 (C B) (s B)))::(.r (P 2 (C F) (s F)))::(.r (P 2 (C H) (s H)))::(.r (P 2 (C K) (s K)))::(.r (P 2 (C L) (s L)))::(.r (P 2 (C N) (s N)))::(.r (P 2 (C O) (s O)))::(.r (P 2 (C S) (s S)))::[]) (ac n1 (ac Dr (ac T (ac Dr (ac T (ac Dr (ac n3 (ac Dr (ac c1 (ac c2 (ac n4 (ac n5 (ac U (ac n7 (ac n8 (ac GJ (ac n9 (ac U (ac a1 (LX a2 a3 a4 a5 a6 a7 a8 a9 (Jc b0 b1 b2 b3 b4 b5 b6 b7 b8 b9 c0 c3)))))))))))))))))))))
theorem TS(fx t d h a o i e f u j k v p l m q w x z B F H K L N O:BX)(c1:E (c<1)=false)(c2:E (c>524288)=false)(n1:RQ 154 [M [.str V,A D W,A D px,A D py,A D ln,I false,A D lo,A D hi,A D X,A D Y,A D mx,A D rs,A D Z,A D co,A D sw]] (I true))(T:RQ 155 [A D n] (I true))(n3:RQ 99 [M [A D Q,A D R,A D 0,A D 0,A D 0,A D 0]] (I true))(n4:RQ 175 [G 2 [A D n,A D (J D (n-n))]] (P 2 (C d) (s d)))(n5:RQ 173 [y s d,y s d] (P 2 (C h) (s h)))(U:RQ 175 [G 1 [A D 65536]] (P 2 (C a) (s a)))(n7:RQ 172 [y s a,y s h] (P 2 (C o) (s o)))(n8:RQ 171 [y s d,A D 512] (P 2 (C i) (s i)))(n9:RQ 170 [y s a,y s h] (P 2 (C e) (s e)))(a1:RQ 169 [M [A D Q,A D R,A D 0,A D 0,A D 0,A D 0],M [A D px,A D py]] (Dj [y s fx,y s t]))(a2:RQ 173 [y s fx,y s o] (P 2 (C f) (s f)))(a3:RQ 173 [y s t,y s i] (P 2 (C u) (s u)))(a4:RQ 170 [y s f,y s u] (P 2 (C j) (s j)))(a5:RQ 173 [y s t,y s o] (P 2 (C k) (s k)))(a6:RQ 173 [y s fx,y s i] (P 2 (C v) (s v)))(a7:RQ 172 [y s k,y s v] (P 2 (C p) (s p)))(a8:RQ 177 [y s fx,y s t] (P 2 (C l) (s l)))(a9:RQ 171 [y s e,A D c] (P 2 (C m) (s m)))(b0:RQ 171 [y s e,A D ln] (P 2 (C q) (s q)))(b1:RQ 175 [G 1 [A D (J D (c*c))]] (P 2 (C w) (s w)))(b2:RQ 172 [y s w,y s l] (P 2 (C x) (s x)))(b3:RQ 171 [y s e,A D (J D ((J D (c*c))-(J D (ln*ln))))] (P 2 (C z) (s z)))(b4:RQ 171 [y s j,A D (J D (2*ln))] (P 2 (C B) (s B)))(b5:RQ 170 [y s z,y s B] (P 2 (C F) (s F)))(b6:RQ 173 [y s l,y s e] (P 2 (C H) (s H)))(b7:RQ 172 [y s F,y s H] (P 2 (C K) (s K)))(b8:RQ 172 [y s q,y s j] (P 2 (C L) (s L)))(b9:RQ 172 [y s m,y s p] (P 2 (C N) (s N)))(c0:RQ 170 [y s m,y s p] (P 2 (C O) (s O))):RQ 79 [M [A D Q,A D R,A D 0,A D 0,A D 0,A D 0],M [.str V,A D W,A D px,A D py,A D ln,I false,A D lo,A D hi,A D X,A D Y,A D mx,A D rs,A D Z,A D co,A D sw],A D n,A D n,A D c] (P 1 3 [G 1 [y s x],G 1 [y s K],G 4 [y s j,y s L,y s N,y s O]]):=Bz (fn:=iF g jA) Bj rfl 400 rfl ((.r (I true))::(.b false)::(.r (I true))::(.b false)::(.r (I true))::(.b false)::(.r (I true))::(.b false)::(.b false)::(.b false)::(.r (P 2 (C d) (s d)))::(.r (P 2 (C h) (s h)))::(.r (P 2 (C a) (s a)))::(.r (P 2 (C o) (s o)))::(.r (P 2 (C i) (s i)))::(.b false)::(.r (P 2 (C a) (s a)))::(.r (P 2 (C e) (s e)))::(.r (Dj [y s fx,y s t]))::(.r (P 2 (C f) (s f)))::(.r (P 2 (C u) (s u)))::(.r (P 2 (C j) (s j)))::(.r (P 2 (C k) (s k)))::(.r (P 2 (C v) (s v)))::(.r (P 2 (C p) (s p)))::(.r (P 2 (C l) (s l)))::(.r (P 2 (C m) (s m)))::(.r (P 2 (C q) (s q)))::(.r (P 2 (C w) (s w)))::(.r (P 2 (C x) (s x)))::(.r (P 2 (C z) (s z)))::(.r (P 2 (C B) (s B)))::(.r (P 2 (C F) (s F)))::(.r (P 2 (C H) (s H)))::(.r (P 2 (C K) (s K)))::(.r (P 2 (C L) (s L)))::(.r (P 2 (C N) (s N)))::(.r (P 2 (C O) (s O)))::[]) (ac n1 (ac Dr (ac T (ac Dr (ac T (ac Dr (ac n3 (ac Dr (ac c1 (ac c2 (ac n4 (ac n5 (ac U (ac n7 (ac n8 (ac Dr (ac U (ac n9 (LX a1 a2 a3 a4 a5 a6 a7 a8 (Jc a9 b0 b1 b2 b3 b4 b5 b6 b7 b8 b9 c0))))))))))))))))))))
end
theorem oS(k l:Int)(c fl a:Bool)(d:ByteArray)(e px py ln lo hi f h mx rs i co j b m:Int)(c1:fl=true)(c2:a=false)(n:RQ 154 [M [.str d,A D e,A D px,A D py,A D ln,I c,A D lo,A D hi,A D f,A D h,A D mx,A D rs,A D i,A D co,A D j]] (I fl))(o:RQ 155 [A D b] (I a)):RQ 79 [M [A D k,A D l,A D 0,A D 0,A D 0,A D 0],M [.str d,A D e,A D px,A D py,A D ln,I c,A D lo,A D hi,A D f,A D h,A D mx,A D rs,A D i,A D co,A D j],A D b,A D b,A D m] (P 1 0 []):=Bz (fn:=iF g jA) Bj rfl 400 rfl [.r (I fl),Y,.r (I a),q,q,q,q,q] (US n (bL c1) o (bM c2) GJ GJ GJ GJ)
theorem oT(j k:Int)(a fl:Bool)(b:ByteArray)(c px py ln lo hi d e mx rs f co h i l:Int)(c1:fl=false)(m:RQ 154 [M [.str b,A D c,A D px,A D py,A D ln,I a,A D lo,A D hi,A D d,A D e,A D mx,A D rs,A D f,A D co,A D h]] (I fl)):RQ 79 [M [A D j,A D k,A D 0,A D 0,A D 0,A D 0],M [.str b,A D c,A D px,A D py,A D ln,I a,A D lo,A D hi,A D d,A D e,A D mx,A D rs,A D f,A D co,A D h],A D i,A D i,A D l] (P 1 0 []):=Bz (fn:=iF g jA) Bj rfl 400 rfl [.r (I fl),q,q,q,q,q,q] (Jn m (bM c1) GJ GJ GJ GJ GJ)
def Ow:ICode:=CG QA 84 62612
section
variable(l:PU)(i:Int)(o b:Bool)(k:Int)
def GO:V:=W 8 (X (I o)::X (G (C l) (QF l))::vi i::X (I b)::vi k::W 63 [])
theorem Apk(a:BX)(c1:E (k<(C (O l (L i) []):Int))=true)(c2:b=true)(c3:E ((C a:Int)>0)=true)(c:0<=i/\i<C l)(d:0<=k/\k<(C (O l (L i) []):Int))(e:0<=(0:Int)/\(0:Int)<(C a:Int))(f:RQ 152 [y s (O (O l (L i) []) (L k) [])] (P 2 (C a) (s a)))(g:RQ 153 [CC (O a (L 0) z0)] (A D (Fm (AX (O a (L 0) z0))))):w Ow (GO l i o b k) .norm (GO l i o (E (Fm (AX (O a (L 0) z0))>0)) (J D (k+1))):=B Bj [.v (y pp (O l (L i) [])),q,.v (y pp (O l (L i) [])),.v (y s (O (O l (L i) []) (L k) [])),.r (P 2 (C a) (s a)),q,q,.v (CC (O a (L 0) z0)),.r (A D (Fm (AX (O a (L 0) z0))))] RR (LX c (Hn c) c1 c (Hn c) d (RV d) f (GK c2 c3 e (Hv e) g))
theorem Apl(a:BX)(c1:E (k<(C (O l (L i) []):Int))=true)(c2:b=true)(c3:E ((C a:Int)>0)=false)(c:0<=i/\i<C l)(d:0<=k/\k<(C (O l (L i) []):Int))(e:RQ 152 [y s (O (O l (L i) []) (L k) [])] (P 2 (C a) (s a))):w Ow (GO l i o b k) .norm (GO l i o false (J D (k+1))):=B Bj [.v (y pp (O l (L i) [])),q,.v (y pp (O l (L i) [])),.v (y s (O (O l (L i) []) (L k) [])),.r (P 2 (C a) (s a)),q,Y] RR (Ig c (Hn c) c1 c (Hn c) d (RV d) e c2 c3)
theorem Apm(a:BX)(c1:E (k<(C (O l (L i) []):Int))=true)(c2:b=false)(c:0<=i/\i<C l)(d:0<=k/\k<(C (O l (L i) []):Int))(e:RQ 152 [y s (O (O l (L i) []) (L k) [])] (P 2 (C a) (s a))):w Ow (GO l i o b k) .norm (GO l i o false (J D (k+1))):=B Bj [.v (y pp (O l (L i) [])),q,.v (y pp (O l (L i) [])),.v (y s (O (O l (L i) []) (L k) [])),.r (P 2 (C a) (s a)),Y,Y] RR (Ig c (Hn c) c1 c (Hn c) d (RV d) e c2 Dr)
theorem Apn(c1:E (k<(C (O l (L i) []):Int))=false)(c:0<=i/\i<C l):w Ow (GO l i o b k) xZ2 (GO l i o b k):=B Bj [.v (y pp (O l (L i) [])),Y] RR (Im c (Hn c) c1)
end
def XI:ICode:=CG QA 92 244
section
variable(l:PU)(i:Int)(o:Bool)
def K5:V:=W 8 (X (I o)::X (G (C l) (QF l))::vi i::W 65 [])
theorem Ati(b:Bool)(k:Int)(c1:E (i<C l)=true)(c2:b=true)(a:w (.loop Ow) (GO l i o true 0) xZ2 (GO l i o b k)):w XI (K5 l i o) .ret (K5 l i true):=T (B (t:=W 8 (X (I o)::X (G (C l) (QF l))::vi i::W 65 [])) Bj [q] N0 (Bp c1)) (d (n (B3 (T (B Bj [] RR a0) (T (m a) (B Bj [q] N0 (Bp c2)))))))
theorem Atj(b:Bool)(k:Int)(c1:E (i<C l)=true)(c2:b=false)(a:w (.loop Ow) (GO l i o true 0) xZ2 (GO l i o b k)):w XI (K5 l i o) .norm (K5 l (J D (i+1)) o):=T (B (t:=W 8 (X (I o)::X (G (C l) (QF l))::vi i::W 65 [])) Bj [q] N0 (Bp c1)) (T (Bc (B3 (T (B Bj [] RR a0) (T (m a) (B (t:=W 8 (X (I o)::X (G (C l) (QF l))::vi i::W 65 [])) Bj [Y] N0 (Bp c2)))))) (B Bj [] N0 a0))
theorem Atk(c1:E (i<C l)=false):w XI (K5 l i o) xZ0 (K5 l i o):=d (B Bj [Y] N0 (Bp c1))
end
section
variable(a b:Int)(f:Bool)(g:ByteArray)(h px py ln lo hi j k mx rs l co o e p:Int)
theorem vE(c1:E (a<(-2097152))=true):RQ 67 [M [A D a,A D b],M [.str g,A D h,A D px,A D py,A D ln,I f,A D lo,A D hi,A D j,A D k,A D mx,A D rs,A D l,A D co,A D o],A D e,A D p] (I false):=IU QA (W 8 (X (I false)::W 67 [])) (BZ (BZ (B3 (d (B Bj [q,q,q,q] [8] (Jm c1 GJ GJ GJ))))))
theorem vF(c1:E (a<(-2097152))=false)(c2:E (a>2097152)=true):RQ 67 [M [A D a,A D b],M [.str g,A D h,A D px,A D py,A D ln,I f,A D lo,A D hi,A D j,A D k,A D mx,A D rs,A D l,A D co,A D o],A D e,A D p] (I false):=IU QA (W 8 (X (I false)::W 67 [])) (BZ (BZ (B3 (d (B Bj [Y,q,q,q] [8] (Jm c1 c2 GJ GJ))))))
theorem vG(c1:E (a<(-2097152))=false)(c2:E (a>2097152)=false)(c3:E (b<(-2097152))=true):RQ 67 [M [A D a,A D b],M [.str g,A D h,A D px,A D py,A D ln,I f,A D lo,A D hi,A D j,A D k,A D mx,A D rs,A D l,A D co,A D o],A D e,A D p] (I false):=IU QA (W 8 (X (I false)::W 67 [])) (BZ (BZ (B3 (d (B Bj [Y,Y,q,q] [8] (Jm c1 c2 c3 GJ))))))
theorem vH(c1:E (a<(-2097152))=false)(c2:E (a>2097152)=false)(c3:E (b<(-2097152))=false)(c4:E (b>2097152)=true):RQ 67 [M [A D a,A D b],M [.str g,A D h,A D px,A D py,A D ln,I f,A D lo,A D hi,A D j,A D k,A D mx,A D rs,A D l,A D co,A D o],A D e,A D p] (I false):=IU QA (W 8 (X (I false)::W 67 [])) (BZ (BZ (B3 (d (B Bj [Y,Y,Y,q] [8] (Jm c1 c2 c3 c4))))))
theorem vI(c:PU)(i:Int)(c1:E (a<(-2097152))=false)(c2:E (a>2097152)=false)(c3:E (b<(-2097152))=false)(c4:E (b>2097152)=false)(s:RQ 151 [M [A D a,A D b]] (M [A D a,A D b,A D 0,A D 0,A D 0,A D 0]))(t:RQ 79 [M [A D a,A D b,A D 0,A D 0,A D 0,A D 0],M [.str g,A D h,A D px,A D py,A D ln,I f,A D lo,A D hi,A D j,A D k,A D mx,A D rs,A D l,A D co,A D o],A D e,A D e,A D p] (P 1 (C c) (QF c)))(u:w (.loop XI) (K5 c 0 false) xZ0 (K5 c i false)):RQ 67 [M [A D a,A D b],M [.str g,A D h,A D px,A D py,A D ln,I f,A D lo,A D hi,A D j,A D k,A D mx,A D rs,A D l,A D co,A D o],A D e,A D p] (I false):=IU QA (W 8 (X (I false)::W 67 [])) (BZ (BZ (B3 (T (B Bj [Y,Y,Y,Y,.r (M [A D a,A D b,A D 0,A D 0,A D 0,A D 0]),.r (P 1 (C c) (QF c))] N0 (Kf c1 c2 c3 c4 s t)) (T (m u) (B Bj [] [8] a0))))))
theorem vJ(c:PU)(i:Int)(c1:E (a<(-2097152))=false)(c2:E (a>2097152)=false)(c3:E (b<(-2097152))=false)(c4:E (b>2097152)=false)(s:RQ 151 [M [A D a,A D b]] (M [A D a,A D b,A D 0,A D 0,A D 0,A D 0]))(t:RQ 79 [M [A D a,A D b,A D 0,A D 0,A D 0,A D 0],M [.str g,A D h,A D px,A D py,A D ln,I f,A D lo,A D hi,A D j,A D k,A D mx,A D rs,A D l,A D co,A D o],A D e,A D e,A D p] (P 1 (C c) (QF c)))(u:w (.loop XI) (K5 c 0 false) .ret (K5 c i true)):RQ 67 [M [A D a,A D b],M [.str g,A D h,A D px,A D py,A D ln,I f,A D lo,A D hi,A D j,A D k,A D mx,A D rs,A D l,A D co,A D o],A D e,A D p] (I true):=IU QA (W 8 (X (I true)::X (G (C c) (QF c))::vi i::W 65 [])) (BZ (BZ (B3 (T (B Bj [Y,Y,Y,Y,.r (M [A D a,A D b,A D 0,A D 0,A D 0,A D 0]),.r (P 1 (C c) (QF c))] N0 (Kf c1 c2 c3 c4 s t)) (d (n u))))))
end
def kp(c:Int):LI:=if c=0 then [] else [c]
def kR(c:Int):BX:=(kp c).map cn
theorem IK(c x:Int):Br (kp c) x=c:=by
 unfold kp;split
 next h=>rw[h];rfl
 ·simp[Br]
theorem oU(c:Int):l (kp c)=kp c:=by
 unfold kp;split
 ·rfl
 next h=>show CV (if c=0 then BW [c] 0 else 1) [c]=[c];rw[Ak h];rfl
theorem XJ{p:LI}{c:Int}(a:l p=p)(h:∀ x,Br p x=c):p=kp c:=by
 rw[<- a,<- oU c];exact PV fun x=>by rw[h,IK]
theorem HX(c:Int):vals (kR c)=kp c:=jP _
theorem IL{K:Nat}{c:Int}(h:Co K c):∀ r∈kR c,DQ K r:=Z6 (fun x a=>by
 unfold kp at a;split at a
 ·cases a
 ·rw[Be.1 a];exact h)
theorem K6(c:Int):C (kR c)<=1:=by
 unfold kR kp;split <;> simp
theorem oV{f:Nat}{xs:u}{p:LI}{c:Int}(h:RQ f xs (P 2 (C p) (pk p)))(e:p=kp c):RQ f xs (P 2 (C (kR c)) (s (kR c))):=by
 subst e;have a:C (kR c)=C (kp c):=Bx _;rw[a];exact h
section
variable{J K:Nat}{a b:Int}
theorem Mq(c:Co J a)(hb:Co K b)(h:J+K<1000):Co (J+K+1) (a+b)/\RQ 170 [y s (kR a),y s (kR b)] (P 2 (C (kR (a+b))) (s (kR (a+b)))):=by
 have d:=K6 a;have e:=K6 b;exact⟨(c.mono (k:=J+K) (by omega)).add (hb.mono (by omega)),oV (XG (K:=J+K) (IL (c.mono (by omega))) (IL (hb.mono (by omega))) (by omega) (by omega) (by omega)) (XJ (PS _ _) fun x=>by rw[Ko,HX,HX,IK,IK])⟩
theorem Ga(c:Co J a)(hb:Co K b)(h:J+K<1000):Co (J+K+1) (a-b)/\RQ 172 [y s (kR a),y s (kR b)] (P 2 (C (kR (a-b))) (s (kR (a-b)))):=by
 have d:=K6 a;have e:=K6 b;exact⟨Int.sub_eq_add_neg ▸ (c.mono (k:=J+K) (by omega)).add (hb.neg.mono (by omega)),oV (oQ (K:=J+K) (IL (c.mono (by omega))) (IL (hb.mono (by omega))) (by omega) (by omega) (by omega)) (XJ (PS _ _) fun x=>by rw[kA,HX,HX,IK,IK])⟩
theorem FO(c:Co J a)(hb:Co K b)(h:J+K<1000):Co (J+K) (a*b)/\RQ 173 [y s (kR a),y s (kR b)] (P 2 (C (kR (a*b))) (s (kR (a*b)))):=by
 have d:=K6 a;have e:=K6 b;exact⟨c.mul hb,oV (oR (K:=J+K) (IL (c.mono (by omega))) (IL (hb.mono (by omega))) (by omega) (by omega)) (XJ (PW _ _) fun x=>by rw[N9,HX,HX,IK,IK])⟩
end
theorem kneg{J:Nat}{a:Int}(b:Co J a)(h:J<1000):Co J (-a)/\RQ 178 [y s (kR a)] (P 2 (C (kR (-a))) (s (kR (-a)))):=by
 have c:=K6 a;exact⟨b.neg,oV (ZS (IL (b.mono (by omega))) (by omega)) (XJ (L_ _) fun x=>by rw[N3,N6,HX,IK])⟩
theorem kof{xs:LI}{a:Int}(d : -9223372036854775808<=a/\a<=9223372036854775807)(b:xs=[a]\/xs=[a,0]\/xs=[a,0,0]):RQ 175 [G (C xs) (li xs)] (P 2 (C (kR a)) (s (kR a))):=by
 have hb:∀ x∈xs,-9223372036854775808<=x/\x<=9223372036854775807:=by
  intro x c;rcases b with rfl | rfl | rfl <;> simp only[Aw,AD,or_false] at c <;> omega
 have hl:C xs<=1000:=by rcases b with rfl | rfl | rfl <;> simp
 have e:l xs=kp a:=XJ (L_ _) fun x=>by
  rw[N3];rcases b with rfl | rfl | rfl <;> simp[Br]
 have:=Aey hb hl;rw[e] at this;exact this
theorem XK{a:Int}(b : -9223372036854775808<=a/\a<=9223372036854775807):Co 2 a/\RQ 175 [G 1 [A D a]] (P 2 (C (kR a)) (s (kR a))):=⟨DG b,kof (xs:=[a]) b (.inl rfl)⟩
theorem Axl{a:Int}(b : -9223372036854775808<=a/\a<=9223372036854775807):Co 2 a/\RQ 175 [G 2 [A D a,A D 0]] (P 2 (C (kR a)) (s (kR a))):=⟨DG b,kof (xs:=[a,0]) b (.inr (.inl rfl))⟩
theorem Axm{a:Int}(b : -9223372036854775808<=a/\a<=9223372036854775807):Co 2 a/\RQ 175 [G 3 [A D a,A D 0,A D 0]] (P 2 (C (kR a)) (s (kR a))):=⟨DG b,kof (xs:=[a,0,0]) b (.inr (.inr rfl))⟩
def J'(p:BX):Bool:=decide (0<O (vals p) 0 0)
theorem XL(c:Int):J' (kR c)=decide (0<c):=by
 unfold J';rw[HX];unfold kp;split
 next h=>rw[h];rfl
 ·rfl
theorem Apo(c:Int):decide (Fm c>0)=decide (0<c):=by
 rw[decide_eq_decide];unfold Fm; (repeat' split) <;> omega
theorem Atl{l:PU}{i:Nat}(hi:i<C l)(j:∀ p∈O l i [],∃ c,p=kR c/\Co 900 c)(hn:C (O l i [])<=1000)(o:Bool) :
  w (.loop Ow) (GO l (i:Nat) o true 0) xZ2 (GO l (i:Nat) o ((O l i []).all J') (C (O l i []):Nat)):=by
 have m:=PT (prog:=Cy) (c:=Ow) (ex := .exit 2) (fin:=GO l (i:Nat) o ((O l i []).all J') (C (O l i []):Nat))
  (fun k=>GO l (i:Nat) o (((O l i []).take k).all J') (k:Nat)) (C (O l i [])) (by nofun) ?_ ?_ 0 (Cj _)
 ·exact m
 ·intro k d;have e:J D (k+1)=((k+1:Nat):Int):=wrz
  have n:O (O l i []) k []∈O l i []:=by
   rw[Z (l:=O l i []),Ad d];exact Bl _
  obtain⟨c,h,hf⟩:=j _ n;have q:((O l i []).take (k+1)).all J'=(((O l i []).take k).all J'&&decide (0<c)):=by
   rw[<- XL c,<- h,List.take_succ_eq_append_getElem d,List.all_append,Z (l:=O l i []),Ad d];simp
  simp only[q];have t:=K6 c;have f:RQ 152 [y s (O (O l (L i) []) (L k) [])] (P 2 (C (kR c)) (s (kR c))):=by
   simp only[Ao];rw[h];exact oV (JZ (IL (hf.mono (by omega))) (by omega)) (by rw[HX,oU])
  have h1:decide ((k:Int)<(C (O l (L i) []):Int))=true:=by simp only[Ao,Dm];omega
  have h2:0<=(i:Int)/\(i:Int)<(C l:Int):=by omega
  have g:0<=(k:Int)/\(k:Int)<(C (O l (L i) []):Int):=by simp only[Ao];omega
  cases hb:((O l i []).take k).all J' with
  | true =>
   by_cases h0:c=0
   ·have a:=Apl l (i:Nat) o true (k:Nat) (kR c) h1 rfl (by rw[h0];rfl) h2 g f;rw[e] at a;rw[h0];exact a
   ·have b:kR c=[cn c]:=by unfold kR kp;rw[Ak h0];rfl
    have hs:=XD (neg:=(cn c).1) (xs:=(cn c).2) (JG hf).1 (AR (JG hf).2 (by decide));have a:=Apk l (i:Nat) o true (k:Nat) (kR c) h1 rfl (by rw[b];rfl) h2 g (by rw[b];simp) f (by rw[b];exact hs);have r:AX (O (kR c) (L 0) z0)=c:=by rw[b];exact Lo c
    rw[e,r,Apo] at a;exact a
  | false =>
   have a:=Apm l (i:Nat) o false (k:Nat) (kR c) h1 rfl h2 g f;rw[e] at a;exact a
 ·have a:=Apn l (i:Nat) o ((O l i []).all J') (C (O l i []):Nat) (by simp only[Ao];simp) (by omega);simp only[aH];exact a
theorem Afe{l:PU}(g:∀ ps∈l,C ps<=1000/\∀ p∈ps,∃ c,p=kR c/\Co 900 c)(hn:C l<=1000):∀ (r i:Nat),i+r=C l ->
  ((l.drop i).any (fun ps=>ps.all J')=true/\∃ a:Int,w (.loop XI) (K5 l (i:Nat) false) .ret (K5 l a true)) \/
  ((l.drop i).any (fun ps=>ps.all J')=false/\∃ a:Int,w (.loop XI) (K5 l (i:Nat) false) xZ0 (K5 l a false)):=by
 intro r;induction r with
 | zero =>
  intro i hi;refine .inr ⟨by rw[KF (by omega)];rfl,_,f (Atk l (i:Nat) false (by simp;omega))⟩
 | succ r j =>
  intro i hi;have b:i<C l:=by omega
  have hd:l.drop i=O l i []::l.drop (i+1):=by
   rw[Jf b,Z,Ad b];rfl
  have h:O l i []∈l:=by rw[Z,Ad b];exact Bl _
  have hin:=Atl b (g _ h).2 (g _ h).1 false;rw[hd,rA];cases hb:(O l i []).all J' with
  | true =>
   rw[hb] at hin;exact .inl ⟨rfl,_,f (Ati l (i:Nat) false true _ (by simp;omega) rfl hin)⟩
  | false =>
   rw[hb] at hin;have d:=Atj l (i:Nat) false false _ (by simp;omega) rfl hin;rw[show J D (i+1)=((i+1:Nat):Int) by rw[wqz];omega] at d;rcases j (i+1) (by omega) with ⟨e,a,q⟩ | ⟨e,a,q⟩
   ·exact .inl ⟨by rw[e];rfl,a,Ay d q⟩
   ·exact .inr ⟨by rw[e];rfl,a,Ay d q⟩
def mz(p1 p2:Int):AV := M [A D p1,A D p2,A D 0,A D 0,A D 0,A D 0]
theorem Pa{p1 p2:Int}(h:In 2097152 p1 p2):RQ 99 [mz p1 p2] (I true):=by
 have a:=Ath p1 p2 0 0 0 0;have e:Rq p1 p2 0 0 0 0=true:=by
  unfold In at h;unfold Rq FN;rw[Bb (n:=0-8388608) (by omega) (by omega)];rw[AN (show p1>=0-8388608 by omega),AN (show p1<=8388608 by omega),AN (show p2>=0-8388608 by omega),AN (show p2<=8388608 by omega)];rfl
 rw[e] at a;exact a
section
variable {p1 p2 px py:Int} (hp:In 2097152 p1 p2) (hc:In 1048576 px py)
include hp hc
theorem oW:(Co 5 (p1-px)/\Co 5 (p2-py))/\RQ 169 [mz p1 p2,M [A D px,A D py]] (Dj [y s (kR (p1-px)),y s (kR (p2-py))]):=by
 have b:=Pa hp;unfold In at hp hc;obtain⟨c,d⟩:=Axm (a:=p1) (by omega);obtain⟨e,f⟩:=Axm (a:=p2) (by omega);obtain⟨g,h⟩:=XK (a:=px) (by omega);obtain⟨i,j⟩:=XK (a:=py) (by omega);obtain⟨k,l⟩:=Ga c g (by decide);obtain⟨m,n⟩:=Ga e i (by decide);exact⟨⟨k,m⟩,Afb p1 p2 px py _ _ _ _ _ _ (Afa p1 p2 _ _ b d f) h l j n⟩
end
theorem Fk{K:Nat}{a n:Int}(b:Co K a)(hn : -9223372036854775808<=n/\n<=9223372036854775807)(h:K<900):Co (K+2) (a*n)/\RQ 171 [y s (kR a),A D n] (P 2 (C (kR (a*n))) (s (kR (a*n)))):=by
 obtain⟨c,d⟩:=XK (a:=n) hn;obtain⟨e,f⟩:=FO b c (by omega);exact⟨e,Afc n _ _ _ d f⟩
theorem XM{J K:Nat}{a b:Int}(c:Co J a)(hb:Co K b)(h:J+K<400):Co (J+J+(K+K)+1) (a*a+b*b)/\RQ 177 [y s (kR a),y s (kR b)] (P 2 (C (kR (a*a+b*b))) (s (kR (a*a+b*b)))):=by
 obtain⟨d,e⟩:=FO c c (by omega);obtain⟨f,g⟩:=FO hb hb (by omega);obtain⟨i,j⟩:=Mq d f (by omega);exact⟨i,Afd _ _ _ _ _ e g j⟩
theorem vK{b m:Int}(a:0<m)(h:b*b<m*m) : -m<b/\b<m:=by
 refine⟨Int.not_le.1 fun g => ?_,Int.not_le.1 fun g => ?_⟩
 ·have:=P9 (show m <= -b by omega) (show m <= -b by omega) (by omega) (by omega);rw[qS] at this;omega
 ·have:=P9 g g (by omega) (by omega);omega
theorem vL{x y c s n L R:Int}(i:c*c+s*s=n*n)(hn:0<n)(l:1<=L)(m:1<=R) :
  (if x*c+y*s<=0 then decide (x*x+y*y<R*R) else if x*c+y*s>=L*n then decide (n*(x*x+y*y+L*L-R*R)<2*L*(x*c+y*s))
   else decide (max (c*y-s*x) (-(c*y-s*x))<R*n)) =
  (E (x*x+y*y<R*R) || (E (0<n*((R*R-L*L)-(x*x+y*y))+2*L*(x*c+y*s)) ||
   (E (0<x*c+y*s)&&(E (0<L*n-(x*c+y*s))&&(E (0<R*n-(c*y-s*x))&&decide (0<R*n+(c*y-s*x))))))):=by
 have o:(x*c+y*s)*(x*c+y*s)+(c*y-s*x)*(c*y-s*x)=(x*x+y*y)*(n*n):=by rw[<- i];grind
 generalize x*c+y*s=a at *
 generalize c*y-s*x=b at *
 generalize x*x+y*y=S at *
 rw[Bool.eq_iff_iff];split
 ·rename_i d;simp only[C7,U,Dm];constructor
  ·intro h;exact Or.inl h
  ·rintro (h | h | h)
   ·exact h
   ·have h2:=Cz d (show 0<=2*L by omega);have f:0<n*(R*R-L*L-S):=by omega
    have p:0<R*R-L*L-S:=Int.pos_of_mul_pos_right f (by omega);have q:=Fo (show 0<L by omega) (show 0<L by omega);omega
   ·omega
 ·split
  ·rename_i d hb;have r:n*(S+L*L-R*R) = -(n*(R*R-L*L-S)):=by grind
   simp only[C7,U,Dm];constructor
   ·intro h;right;left;omega
   ·rintro (h | h | h)
    ·have h1:=Fo hn (show 0<R*R-S by omega);have h2:=Cz hb (show 0<=2*L by omega);have f:=Fo (Fo (show 0<L by omega) (show 0<L by omega)) hn;have j:2*L*(L*n)=2*(L*L*n):=by grind
     have t:n*(S+L*L-R*R)=L*L*n-n*(R*R-S):=by grind
     omega
    ·omega
    ·omega
  ·rename_i d hb;have k:0<R*n:=Fo (by omega) hn;have g:b*b<(R*n)*(R*n)->max b (-b)<R*n:=fun h=>by
    have:=vK k h;omega
   simp only[C7,U,Dm];constructor
   ·intro h;right;right;omega
   ·rintro (h | h | h)
    ·apply g;have h1:=Fo (show 0<R*R-S by omega) (Fo hn hn);have h2:=Fo (show 0<a by omega) (show 0<a by omega);have e:(R*R-S)*(n*n)=R*n*(R*n)-S*(n*n):=by grind
     omega
    ·apply g;have h1:=Fo hn h;have h2:=Fo (show 0<L*n-a by omega) (show 0<L*n-a by omega);have e:n*(n*(R*R-L*L-S)+2*L*a)=R*n*(R*n)-S*(n*n)-(L*n*(L*n)-2*(L*n*a)):=by grind
     have j:(L*n-a)*(L*n-a)=L*n*(L*n)-2*(L*n*a)+a*a:=by grind
     omega
    ·omega
theorem sqnn(y:Int):0<=y*y:=XA y
theorem sqle{x n:Int}(h : -n<=x/\x<=n):x*x<=n*n:=XB h
theorem L7{lo hi x:Int}(h:t lo hi x=true):lo<=x/\x<=hi:=by simpa [t] using h
theorem Pb{lo hi x:Int}(h:lo<=x/\x<=hi):t lo hi x=true:=by simpa [t] using h
theorem XN(n a b:Int):AY n a b=t a b n:=by
 unfold AY t;rw[Bool.eq_iff_iff];simp only[U,Dm];repeat' split
 all_goals (simp_all <;> omega)
theorem vM(x y:Int):v x y 1048576=(t (-1048576) 1048576 x&&t (-1048576) 1048576 y):=by
 unfold v;rw[XN,XN,wqz];cases h:t (-1048576) 1048576 x <;> simp[h]
theorem S5(px py ln lo hi a b mx:Int):V1 px py ln lo hi a b mx=E3 px py ln lo hi a b mx:=by
 unfold V1 E3;simp only[vM,XN];repeat' split
 all_goals (simp_all <;> omega)
theorem S6{px py ln lo hi a b mx:Int}(h:E3 px py ln lo hi a b mx=true):In 1048576 px py/\1<=ln/\ln<=262144:=by
 unfold E3 at h;simp only[U] at h;have h1:=L7 h.1.1.1.1.1.1.1.1.1;have h2:=L7 h.1.1.1.1.1.1.1.1.2;have c:=L7 h.1.1.1.1.1.1.1.2;unfold In;omega
theorem fG{k:Int}(h : -256<=k/\k<=256):0<=k*k/\k*k<=65536:=⟨sqnn k,sqle (n:=256) h⟩
theorem App{k:Int}(a:Bool)(d : -256<=k/\k<=256):x a k 256=((if a then -(65536-k*k) else 65536-k*k),512*k,65536+k*k):=by
 have:=fG d;unfold x;have b:J D (256*256)=65536:=rfl;have c:J D (2*256)=512:=rfl;cases a
 ·simp only[b,c,Bb (n:=k*k) (by omega) (by omega),Bb (n:=65536-k*k) (by omega) (by omega),Bb (n:=512*k) (by omega) (by omega),Bb (n:=65536+k*k) (by omega) (by omega)];rfl
 ·simp only[b,c,Bb (n:=k*k) (by omega) (by omega),Bb (n:=65536-k*k) (by omega) (by omega),Bb (n:=512*k) (by omega) (by omega),Bb (n:=65536+k*k) (by omega) (by omega),Bb (n:=0-(65536-k*k)) (by omega) (by omega)];rw[LF];rfl
def Pd(x y c s n L R:Int):Bool:=decide (x*x+y*y<R*R) || (E (0<n*((R*R-L*L)-(x*x+y*y))+2*L*(x*c+y*s)) ||
   (E (0<x*c+y*s)&&(E (0<L*n-(x*c+y*s))&&(E (0<R*n-(c*y-s*x))&&decide (0<R*n+(c*y-s*x))))))
def L8(a:Bool)(k:Int):Int:=if a then -(65536-k*k) else 65536-k*k
theorem Zb{e f px py ln lo hi o r mx k R:Int}(d:Bool)(s:E3 px py ln lo hi o r mx=true)(j : -256<=k/\k<=256)(t:1<=R/\R<=524288)(l:In 2097152 e f) :
  IF e f px py ln d lo hi o r mx k R=Pd (e-px) (f-py) (L8 d k) (512*k) (65536+k*k) ln R:=by
 have hb:=S6 s;have q:=fG j;unfold IF;have h1:In 3145728 (e-px) (f-py):=In.sub l hb.1 (by decide);have v:=l;unfold In at v;rw[s,Pb j,Pb t,Pb (lo := -2097152) (hi:=2097152) (x:=e) (by omega),Pb (lo := -2097152) (hi:=2097152) (x:=f) (by omega),App d j,L4 (l.mono (by decide)) (hb.1.mono (by decide))];have w:L8 d k*L8 d k+512*k*(512*k)=(65536+k*k)*(65536+k*k):=by unfold L8;split <;> grind
 unfold Pd;rw[<- vL w (by omega) hb.2.1 t.1];have hc : -65536<=L8 d k/\L8 d k<=65536:=by unfold L8;split <;> omega
 rw[show (if d=true then -(65536-k*k) else 65536-k*k)=L8 d k from rfl];generalize L8 d k=c at *
 generalize e-px=a at *
 generalize f-py=b at *
 have hn:65536<=65536+k*k/\65536+k*k<=131072:=by omega
 generalize 65536+k*k=n at *
 dsimp only [DN];have u:In 1073741824 c (512*k):=by unfold In;omega
 have g:=h1.mono (m:=1073741824) (by decide);rw[JY g u,JY g g,P_ u g];unfold In at h1;have A:=Ep (x:=c) (y:=b) (p:=65536) (q:=3145728) (by omega) (by omega) (by omega) (by omega);have B:=Ep (x:=512*k) (y:=a) (p:=131072) (q:=3145728) (by omega) (by omega) (by omega) (by omega);have C:=Ep (x:=a) (y:=c) (p:=3145728) (q:=65536) (by omega) (by omega) (by omega) (by omega);have D:=Ep (x:=b) (y:=512*k) (p:=3145728) (q:=131072) (by omega) (by omega) (by omega) (by omega);have E:=Ep (x:=a) (y:=a) (p:=3145728) (q:=3145728) (by omega) (by omega) (by omega) (by omega);have F:=Ep (x:=b) (y:=b) (p:=3145728) (q:=3145728) (by omega) (by omega) (by omega) (by omega);have G:=Ep (x:=R) (y:=R) (p:=524288) (q:=524288) (by omega) (by omega) (by omega) (by omega);have H:=Ep (x:=ln) (y:=ln) (p:=262144) (q:=262144) (by omega) (by omega) (by omega) (by omega);have I:=Ep (x:=ln) (y:=n) (p:=262144) (q:=131072) (by omega) (by omega) (by omega) (by omega);have J:=Ep (x:=R) (y:=n) (p:=524288) (q:=131072) (by omega) (by omega) (by omega) (by omega);have K:=Ep (x:=n) (y:=a*a+b*b+ln*ln-R*R) (p:=131072) (q:=20134806683648) (by omega) (by omega) (by omega) (by omega);have L:=Ep (x:=2*ln) (y:=a*c+b*(512*k)) (p:=524288) (q:=618475290624) (by omega) (by omega) (by omega) (by omega);rw[Bb (n:=R*R) (by omega) (by omega),Bb (n:=ln*ln) (by omega) (by omega),Bb (n:=ln*n) (by omega) (by omega),Bb (n:=R*n) (by omega) (by omega),Bb (n:=a*a+b*b+ln*ln) (by omega) (by omega),
  Bb (n:=a*a+b*b+ln*ln-R*R) (by omega) (by omega),Bb (n:=n*(a*a+b*b+ln*ln-R*R)) (by omega) (by omega),Bb (n:=2*ln) (by omega) (by omega),Bb (n:=2*ln*(a*c+b*(512*k))) (by omega) (by omega),Bb (n:=0-(c*b-512*k*a)) (by omega) (by omega)]
 have z:(if 0-(c*b-512*k*a)>c*b-512*k*a then 0-(c*b-512*k*a) else c*b-512*k*a)=max (c*b-512*k*a) (-(c*b-512*k*a)):=by split <;> omega
 rw[z];simp only[DN];by_cases h:a*c+b*(512*k)<=0
 ·rw[Af h,AN h]
 ·rw[Ak h,AG h];by_cases i:a*c+b*(512*k)>=ln*n
  ·rw[Af i,AN i]
  ·rw[Ak i,AG i]
theorem ZT(x y c k n L R:Int):(E (0<R*R-(x*x+y*y)) || (E (0<n*(R*R-L*L)+(x*c+y*(k*512))*(2*L)-(x*x+y*y)*n) || (E (0<x*c+y*(k*512))&&(E (0<n*L-(x*c+y*(k*512)))&&(E (0<n*R-(y*c-x*(k*512)))&&decide (0<n*R+(y*c-x*(k*512))))))))=Pd x y c (512*k) n L R:=by
 unfold Pd;rw[Gc k 512];have a:n*(R*R-L*L)+(x*c+y*(512*k))*(2*L)-(x*x+y*y)*n=n*((R*R-L*L)-(x*x+y*y))+2*L*(x*c+y*(512*k)):=by grind
 rw[a,Gc n L,Gc n R,Gc y c,Gc x (512*k)];congr 1;rw[decide_eq_decide];omega
theorem fH(k:Int):NJ k=t (-256) 256 k:=by
 unfold NJ t;by_cases h1:k >= -256
 ·rw[AN h1];rfl
 ·rw[AG h1];rfl
theorem Pe{l:PU}(w:∀ ps∈l,C ps<=1000/\∀ p∈ps,∃ c,p=kR c/\Co 900 c)(hn:C l<=1000){a b:Int}{d:Bool}{f:ByteArray}{g px py ln lo hi j m mx rs n co o k R:Int}(r:In 2097152 a b)
  (h:RQ 79 [mz a b,M [.str f,A D g,A D px,A D py,A D ln,I d,A D lo,A D hi,A D j,A D m,A D mx,A D rs,A D n,A D co,A D o],A D k,A D k,A D R] (P 1 (C l) (QF l))) :
  RQ 67 [M [A D a,A D b],M [.str f,A D g,A D px,A D py,A D ln,I d,A D lo,A D hi,A D j,A D m,A D mx,A D rs,A D n,A D co,A D o],A D k,A D R] (I (l.any fun ps=>ps.all J')):=by
 have hs:RQ 151 [M [A D a,A D b]] (mz a b):=Aez a b (Pa r);unfold In at r;have s:decide (a < -2097152)=false:=AG (by omega);have t:decide (a>2097152)=false:=AG (by omega);have u:decide (b < -2097152)=false:=AG (by omega);have v:decide (b>2097152)=false:=AG (by omega);rcases Afe w hn (C l) 0 (by omega) with ⟨e,i,q⟩ | ⟨e,i,q⟩
 ·have e:(l.any fun ps=>ps.all J')=true:=e;rw[e];exact vJ a b d f g px py ln lo hi j m mx rs n co o k R l i s t u v hs h q
 ·have e:(l.any fun ps=>ps.all J')=false:=e;rw[e];exact vI a b d f g px py ln lo hi j m mx rs n co o k R l i s t u v hs h q
theorem oX{b c:Int}{h:ByteArray}{i px py ln lo hi f g mx rs j co m k R:Int}(o:In 2097152 b c)(d:E3 px py ln lo hi f g mx=true)(u : -256<=k/\k<=256)(hR:1<=R/\R<=524288) :
  RQ 67 [M [A D b,A D c],M [.str h,A D i,A D px,A D py,A D ln,I false,A D lo,A D hi,A D f,A D g,A D mx,A D rs,A D j,A D co,A D m],A D k,A D R] (I (Pd (b-px) (c-py) (L8 false k) (512*k) (65536+k*k) ln R)):=by
 have hb:=S6 d;have q:=fG u;have v:=NH h i px py ln false lo hi f g mx rs j co m;rw[S5,d] at v;have w:=QK k;rw[fH,Pb u] at w;have b7:=Ep (x:=R) (y:=R) (p:=524288) (q:=524288) (by omega) (by omega) (by omega) (by omega);have b8:=Ep (x:=ln) (y:=ln) (p:=262144) (q:=262144) (by omega) (by omega) (by omega) (by omega);have w0:J D (k-k)=0:=by rw[Azu];rfl
 have z:J D (R*R)=R*R:=Bb (by omega) (by omega);have N:J D (R*R-J D (ln*ln))=R*R-ln*ln:=by rw[Bb (n:=ln*ln) (by omega) (by omega),wqz]
 have O:J D (2*ln)=2*ln:=Bb (by omega) (by omega);obtain⟨r,P⟩:=Axl (a:=k) (by omega);obtain⟨B,Q⟩:=FO r r (by decide);obtain⟨C,S⟩:=XK (a:=65536) (by omega);obtain⟨E,T⟩:=Ga C B (by decide);obtain⟨F,u8⟩:=Fk (n:=512) r (by omega) (by decide);obtain⟨fn,U⟩:=Mq C B (by decide);obtain⟨⟨fx,s⟩,V⟩:=oW o hb.1;obtain⟨W,X⟩:=FO fx E (by decide);obtain⟨Y,Z⟩:=FO s F (by decide);obtain⟨t,a1⟩:=Mq W Y (by decide);obtain⟨a2,a3⟩:=FO s E (by decide);obtain⟨a4,a5⟩:=FO fx F (by decide);obtain⟨G,u16⟩:=Ga a2 a4 (by decide);obtain⟨H,a6⟩:=XM fx s (by decide);obtain⟨K,a7⟩:=Fk (n:=R) fn (by omega) (by decide);obtain⟨fl,a8⟩:=Fk (n:=ln) fn (by omega) (by decide);obtain⟨a9,b0⟩:=XK (a:=R*R) (by omega);obtain⟨b1,b2⟩:=Ga a9 H (by decide);obtain⟨b3,b4⟩:=Fk (n:=R*R-ln*ln) fn (by omega) (by decide);obtain⟨b5,b6⟩:=Fk (n:=2*ln) t (by omega) (by decide);obtain⟨b9,c0⟩:=Mq b3 b5 (by decide);obtain⟨c1,c2⟩:=FO H fn (by decide);obtain⟨c3,c4⟩:=Ga b9 c1 (by decide);obtain⟨c5,c6⟩:=Ga fl t (by decide);obtain⟨c7,c8⟩:=Ga K G (by decide);obtain⟨c9,d0⟩:=Mq K G (by decide);have hc:=TS b c h i px py ln lo hi f g mx rs j co m k R _ _ _ _ _ _ _ _ _ _ _ _ _ _ _ _ _ _ _ _ _ _ _ _ _ _ _ (AG (by omega)) (AG (by omega)) v w (Pa o) (by rw[w0];exact P) Q S T u8 U V X Z a1 a3 a5 u16 a6 a7 a8 (by rw[z];exact b0) b2 (by rw[z,N];exact b4) (by rw[O];exact b6) c0 c2 c4 c6 c8 d0;have hr:=Pe (l:=[[kR (R*R-((b-px)*(b-px)+(c-py)*(c-py)))],[kR ((65536+k*k)*(R*R-ln*ln)+((b-px)*(65536-k*k)+(c-py)*(k*512))*(2*ln)-((b-px)*(b-px)+(c-py)*(c-py))*(65536+k*k))],
  [kR ((b-px)*(65536-k*k)+(c-py)*(k*512)),kR ((65536+k*k)*ln-((b-px)*(65536-k*k)+(c-py)*(k*512))),kR ((65536+k*k)*R-((c-py)*(65536-k*k)-(b-px)*(k*512))),kR ((65536+k*k)*R+((c-py)*(65536-k*k)-(b-px)*(k*512)))]]) ?_ (by simp) o hc
 ·have e:L8 false k=(65536-k*k):=rfl;rw[e,<- ZT];simp only[rA,Axn,H',Axo,XL,FX,Atm] at hr;exact hr
 ·intro ps L;simp only[Aw,AD,or_false] at L;rcases L with rfl | rfl | rfl
  ·exact⟨by simp,fun p d=>⟨_,Be.1 d,b1.mono (by decide)⟩⟩
  ·exact⟨by simp,fun p d=>⟨_,Be.1 d,c3.mono (by decide)⟩⟩
  ·refine⟨by simp,fun p d => ?_⟩;simp only[Aw,AD,or_false] at d;rcases d with rfl | rfl | rfl | rfl
   ·exact⟨_,rfl,t.mono (by decide)⟩
   ·exact⟨_,rfl,c5.mono (by decide)⟩
   ·exact⟨_,rfl,c7.mono (by decide)⟩
   ·exact⟨_,rfl,c9.mono (by decide)⟩
theorem vN{b c:Int}{h:ByteArray}{i px py ln lo hi f g mx rs j co m k R:Int}(o:In 2097152 b c)(d:E3 px py ln lo hi f g mx=true)(u : -256<=k/\k<=256)(hR:1<=R/\R<=524288) :
  RQ 67 [M [A D b,A D c],M [.str h,A D i,A D px,A D py,A D ln,I true,A D lo,A D hi,A D f,A D g,A D mx,A D rs,A D j,A D co,A D m],A D k,A D R] (I (Pd (b-px) (c-py) (L8 true k) (512*k) (65536+k*k) ln R)):=by
 have hb:=S6 d;have q:=fG u;have v:=NH h i px py ln true lo hi f g mx rs j co m;rw[S5,d] at v;have w:=QK k;rw[fH,Pb u] at w;have b7:=Ep (x:=R) (y:=R) (p:=524288) (q:=524288) (by omega) (by omega) (by omega) (by omega);have b8:=Ep (x:=ln) (y:=ln) (p:=262144) (q:=262144) (by omega) (by omega) (by omega) (by omega);have w0:J D (k-k)=0:=by rw[Azu];rfl
 have z:J D (R*R)=R*R:=Bb (by omega) (by omega);have N:J D (R*R-J D (ln*ln))=R*R-ln*ln:=by rw[Bb (n:=ln*ln) (by omega) (by omega),wqz]
 have O:J D (2*ln)=2*ln:=Bb (by omega) (by omega);obtain⟨r,P⟩:=Axl (a:=k) (by omega);obtain⟨B,Q⟩:=FO r r (by decide);obtain⟨C,S⟩:=XK (a:=65536) (by omega);obtain⟨T,U⟩:=Ga C B (by decide);obtain⟨E,u8⟩:=Fk (n:=512) r (by omega) (by decide);obtain⟨F,un⟩:=kneg T (by decide);obtain⟨fn,V⟩:=Mq C B (by decide);obtain⟨⟨fx,s⟩,W⟩:=oW o hb.1;obtain⟨X,Y⟩:=FO fx F (by decide);obtain⟨Z,a1⟩:=FO s E (by decide);obtain⟨t,a2⟩:=Mq X Z (by decide);obtain⟨a3,a4⟩:=FO s F (by decide);obtain⟨a5,a6⟩:=FO fx E (by decide);obtain⟨G,u16⟩:=Ga a3 a5 (by decide);obtain⟨H,a7⟩:=XM fx s (by decide);obtain⟨K,a8⟩:=Fk (n:=R) fn (by omega) (by decide);obtain⟨fl,a9⟩:=Fk (n:=ln) fn (by omega) (by decide);obtain⟨b0,b1⟩:=XK (a:=R*R) (by omega);obtain⟨b2,b3⟩:=Ga b0 H (by decide);obtain⟨b4,b5⟩:=Fk (n:=R*R-ln*ln) fn (by omega) (by decide);obtain⟨b6,b9⟩:=Fk (n:=2*ln) t (by omega) (by decide);obtain⟨c0,c1⟩:=Mq b4 b6 (by decide);obtain⟨c2,c3⟩:=FO H fn (by decide);obtain⟨c4,c5⟩:=Ga c0 c2 (by decide);obtain⟨c6,c7⟩:=Ga fl t (by decide);obtain⟨c8,c9⟩:=Ga K G (by decide);obtain⟨d0,d1⟩:=Mq K G (by decide);have hc:=XH b c h i px py ln lo hi f g mx rs j co m k R _ _ _ _ _ _ _ _ _ _ _ _ _ _ _ _ _ _ _ _ _ _ _ _ _ _ _ _ (AG (by omega)) (AG (by omega)) v w (Pa o) (by rw[w0];exact P) Q S U u8 un V W Y a1 a2 a4 a6 u16 a7 a8 a9 (by rw[z];exact b1) b3 (by rw[z,N];exact b5) (by rw[O];exact b9) c1 c3 c5 c7 c9 d1;have hr:=Pe (l:=[[kR (R*R-((b-px)*(b-px)+(c-py)*(c-py)))],[kR ((65536+k*k)*(R*R-ln*ln)+((b-px)*(-(65536-k*k))+(c-py)*(k*512))*(2*ln)-((b-px)*(b-px)+(c-py)*(c-py))*(65536+k*k))],
  [kR ((b-px)*(-(65536-k*k))+(c-py)*(k*512)),kR ((65536+k*k)*ln-((b-px)*(-(65536-k*k))+(c-py)*(k*512))),kR ((65536+k*k)*R-((c-py)*(-(65536-k*k))-(b-px)*(k*512))),kR ((65536+k*k)*R+((c-py)*(-(65536-k*k))-(b-px)*(k*512)))]]) ?_ (by simp) o hc
 ·have e:L8 true k=(-(65536-k*k)):=rfl;rw[e,<- ZT];simp only[rA,Axn,H',Axo,XL,FX,Atm] at hr;exact hr
 ·intro ps L;simp only[Aw,AD,or_false] at L;rcases L with rfl | rfl | rfl
  ·exact⟨by simp,fun p d=>⟨_,Be.1 d,b2.mono (by decide)⟩⟩
  ·exact⟨by simp,fun p d=>⟨_,Be.1 d,c4.mono (by decide)⟩⟩
  ·refine⟨by simp,fun p d => ?_⟩;simp only[Aw,AD,or_false] at d;rcases d with rfl | rfl | rfl | rfl
   ·exact⟨_,rfl,t.mono (by decide)⟩
   ·exact⟨_,rfl,c6.mono (by decide)⟩
   ·exact⟨_,rfl,c8.mono (by decide)⟩
   ·exact⟨_,rfl,d0.mono (by decide)⟩
theorem Ox{c d px py ln:Int}{e:Bool}{lo hi a b mx k R:Int}(h:E3 px py ln lo hi a b mx=false\/t (-256) 256 k=false\/(t (-2097152) 2097152 c&&t (-2097152) 2097152 d)=false):IF c d px py ln e lo hi a b mx k R=false:=by
 unfold IF;rcases h with h | h | h
 ·rw[h];rfl
 ·rw[h,Fz]
 ·rw[h];cases (E3 px py ln lo hi a b mx&&t (-256) 256 k)
  ·rfl
  ·cases t 1 524288 R <;> rfl
theorem oY(a d:Int)(g:ByteArray)(i px py ln:Int)(b:Bool)(lo hi e f mx rs j co m k:Int){R:Int}(s:1<=R/\R<=524288) :
  RQ 67 [M [A D a,A D d],M [.str g,A D i,A D px,A D py,A D ln,I b,A D lo,A D hi,A D e,A D f,A D mx,A D rs,A D j,A D co,A D m],A D k,A D R] (I (IF a d px py ln b lo hi e f mx k R)):=by
 by_cases n:In 2097152 a d
 ·have y:∀ {ps:List BX},ps∈([]:PU)->C ps<=1000/\∀ p∈ps,∃ c,p=kR c/\Co 900 c:=fun h=>by cases h
  have q:=NH g i px py ln b lo hi e f mx rs j co m;rw[S5] at q;have u:=QK k;rw[fH] at u;cases o:E3 px py ln lo hi e f mx
  ·rw[Ox (.inl o)];rw[o] at q;exact Pe (l:=[]) (fun ps h=>y h) (by decide) n (oT a d b false g i px py ln lo hi e f mx rs j co m k R rfl q)
  ·rw[o] at q;cases v:t (-256) 256 k
   ·rw[Ox (.inr (.inl v))];rw[v] at u;exact Pe (l:=[]) (fun ps h=>y h) (by decide) n (oS a d b true false g i px py ln lo hi e f mx rs j co m k R rfl rfl q u)
   ·have w:=L7 v;rw[Zb b o w s n];cases b
    ·exact oX n o w s
    ·exact vN n o w s
 ·rw[Ox (.inr (.inr (by
   rw[Bool.eq_false_iff];intro h;rw[U] at h;have h1:=L7 h.1;have h2:=L7 h.2;exact n (by unfold In;omega))))]
  by_cases r:a < -2097152
  ·exact vE a d b g i px py ln lo hi e f mx rs j co m k R (AN r)
  ·by_cases x:a>2097152
   ·exact vF a d b g i px py ln lo hi e f mx rs j co m k R (AG r) (AN x)
   ·by_cases z:d < -2097152
    ·exact vG a d b g i px py ln lo hi e f mx rs j co m k R (AG r) (AG x) (AN z)
    ·exact vH a d b g i px py ln lo hi e f mx rs j co m k R (AG r) (AG x) (AG z) (AN (by unfold In at n;omega))
theorem vO:ZM:=fun t s px py a _=>by
 have hr:=a.r0;refine⟨fun e _=>uO px py (e.n 2) (e.n 3) (e.n 4) (e.n 5) t.r0,fun e _=>uR px py e.s (e.n 0) (e.n 1) (e.n 2) (e.n 3) (e.n 4) (e.n 5) (e.n 6) (e.n 7) (e.n 8) (e.n 9) (e.n 10) t.r0,fun e _=>nW px py (e.n 1) (e.n 2) _,
  fun e _ x _=>⟨_,xX px py e.s (e.n 0) (e.n 1) (e.n 2) (e.n 3) e.b (e.n 4) (e.n 5) (e.n 6) (e.n 7) (e.n 8) (e.n 9) (e.n 10) (e.n 11) (e.n 12) x t.r0,oY px py e.s (e.n 0) (e.n 1) (e.n 2) (e.n 3) e.b (e.n 4) (e.n 5) (e.n 6) (e.n 7) (e.n 8) (e.n 9) (e.n 10) (e.n 11) (e.n 12) x (by omega)⟩,fun e _ => ?_⟩
 rw[Bb (n:=2*t.r0) (by omega) (by omega)];exact nX (by omega) (by omega)
end
end Go.Proofs.YtenfgdobfjofkaaGreat
