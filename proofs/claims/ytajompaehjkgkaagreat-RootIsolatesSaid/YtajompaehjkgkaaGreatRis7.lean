/- Texts of the proof of RootIsolates: part 7 of 13. -/
import Derived.Test.YtajompaehjkgkaaGreatRis6
namespace Go.Proofs.YtajompaehjkgkaaGreat
open Go.Ai
set_option maxRecDepth 100000
open BitVec renaming ofInt->T,or_comm->TW,toNat_and->N0
open Bool renaming and_false->ID,and_true->KO,eq_iff_iff->aF,false_eq_true->Cf
open Decidable renaming decide->B
open Go.Ai.AV renaming agg->o,bool->D,fresh->L,int->F,sl->H,tup->Ax
open Go.Ai.Reg renaming box->g,own->X,val->C
open Go.IntKind renaming bits->Am,i64->O,u32->Ac,u64->U,wrap->I
open Int renaming add_comm->Ks,add_mul->Hg,add_mul_ediv_left->SO,add_mul_ediv_right->A5s,add_mul_emod_self_left->TO,add_zero->B5,ediv_emod_unique->L4,ediv_eq_zero_of_lt->GK,ediv_lt_of_lt_mul->K4,ediv_nonneg->J3,emod_eq_of_lt->Gh,emod_lt_of_pos->Ey,emod_nonneg->FE,eq_ofNat_of_zero_le->My,eq_of_mul_eq_mul_left->I2,fdiv->d,fdiv_eq_ediv_of_nonneg->t,gcd->C_,le_of_lt->A7,le_refl->Dz,lt_of_lt_of_le->jA,lt_of_mul_lt_mul_left->Fj,lt_of_mul_lt_mul_right->Gi,mul_add->CW,mul_assoc->AH,mul_comm->AA,mul_ediv_add_emod->G2,mul_ediv_cancel_left->BT,mul_emod_mul_of_pos->A5p,mul_eq_zero->KR,mul_le_mul->DJ,mul_le_mul_of_nonneg_left->Ak,mul_le_mul_of_nonneg_right->Ae,mul_lt_mul_of_pos_left->JS,mul_lt_mul_of_pos_right->Cx,mul_neg->EV,mul_nonneg->A6,mul_one->Dn,mul_pos->BL,mul_sub->Hu,mul_zero->AM,natAbs->E,natAbs_natCast->BD,natAbs_pow->N5,natCast_emod->Ast,natCast_mul->CQ,neg_tdiv->Afb,neg_tmod->Afd,not_lt->KD,one_mul->Do,pow_add->BB,pow_mul->iV,pow_succ->A2,pow_zero->CE,sub_self->Tt,sub_zero->EY,tdiv->Aw,tdiv_eq_ediv_of_nonneg->B8,tdiv_neg->Afc,tmod->AD,tmod_eq_emod_of_nonneg->Bs,tmod_neg->Afe,toNat->A,toNat_natCast->R,zero_add->DK,zero_mul->DF
open List renaming all->qT,drop->p,drop_eq_getElem_cons->CL,drop_length->JP,drop_zero->Fe,eq_nil_of_length_eq_zero->A9,getD_eq_getElem?_getD->Z,getElem?_drop->Bu,getElem?_eq_getElem->Af,length->Bh,length_cons->Bv,length_drop->Ep,length_eq_one_iff->A2p,length_map->N,length_nil->Ib,length_pos_iff->An,length_range->B9,length_set->A',map_append->D_,map_congr_left->Gj,map_cons->C2,map_nil->GC,map_take->RI,mem_append->BV,mem_cons_of_mem->Bi,mem_cons_self->By,mem_map->Em,mem_singleton->I3,range->Aq,range_succ->Hq,replicate->Av,replicate_succ->Ft,set_append_right->A5n,set_set->RD,take->B3,take_length->EK,take_of_length_le->Er,take_zero->TQ
open Nat renaming add_assoc->Dw,add_mul->D',add_zero->FR,and_two_pow_sub_one_eq_mod->TX,gcd->Ix,gcd_comm->J5,gcd_rec->Avz,gcd_zero_right->GJ,le_of_dvd->Rf,le_of_lt->WN,le_of_not_lt->Np,le_refl->Ap,lt_of_le_of_lt->Dt,lt_of_lt_of_le->Dk,lt_or_ge->Cp,mod_lt->HB,mul_assoc->EQ,mul_comm->CS,mul_le_mul->Bj,mul_le_mul_left->AL,mul_le_mul_right->AF,mul_succ->Pf,mul_zero->aD,one_mul->Fk,pow_le_pow_right->BF,pow_lt_pow_right->Qf,pow_mul->A6w,pow_pos->BS,sub_self->LV,sub_zero->JV,testBit_and->Awd,testBit_lt_two_pow->dU,zero_add->B_,zero_le->Ba
open Or renaming inr->TP
theorem yK{xs:LI}{d:Int}(hx:AP xs)(hd:0<d/\d<4294967296)(hN:xs.length<=1048576):∀ (i:Nat) (qs:LI) (r:Int),i<=xs.length->qs.length=xs.length->AP qs->0<=r/\r<d->(∀ t,t<i->qs.getD t 0=0) ->
  ∃ qs' r',Ar (.loop V9) (Qb xs d xs.length qs r ((i:Int)-1)) (.exit 0) (Qb xs d xs.length qs' r' (-1))/\qs'.length=xs.length/\AP qs'/\(0<=r'/\r'<d)/\d*Ab qs'+r'=d*Ab qs+4294967296^i*r+Ab (xs.take i):=by
 intro i;induction i with
 | zero =>
  intro qs r _ hl hu hr _;refine⟨qs,r,Ao (Aqq xs d xs.length qs r _ (by simp)) (by nofun),hl,hu,hr,by simp[Ab]⟩
 | succ i ih =>
  intro qs r hi hl hu hr hz;have ei:(((i+1:Nat):Int)-1)=(i:Nat):=by omega
  have ej:I O ((i:Int)-1)=(i:Int)-1:=Bl (by omega) (by omega);have hxi:=AG hx i;have hk:=Aqp xs d xs.length qs r (i:Nat) (by simp) (by omega) (by rw[C8 (by omega)];omega) (by omega) hl;rw[ej,R,MU (by omega) hxi,C8 (n:=d) (by omega)] at hk;have hv0:0<=r*4294967296+xs.getD i 0:=by omega
  rw[B8 hv0,Bs hv0] at hk;generalize hv:r*4294967296+xs.getD i 0=v at *
  have hm:=G2 v d;have hm0:=FE v (show d ≠ 0 by omega);have hm1:=Ey v hd.1;have hq0:0<=v / d:=J3 hv0 (by omega);have hq1:v / d<4294967296:=by
   apply K4 hd.1;have:=Ae (show r<=d-1 by omega) (show (0:Int)<=4294967296 by omega);have:(d-1)*4294967296=4294967296*d-4294967296:=by omega
   omega
  rw[C8 (n:=v / d) (by omega),Q' ⟨hq0,hq1⟩] at hk;obtain⟨qs',r',g1,g2,g3,g4,g5⟩:=ih (qs.set i (v / d)) (v % d) (by omega) (by simpa using hl) (Cw hu ⟨hq0,hq1⟩) ⟨hm0,hm1⟩ (fun t ht=>by rw[Cs (by omega)];exact hz t (by omega));rw[ei];refine⟨qs',r',Cv.loop hk g1,g2,g3,g4,?_⟩;rw[g5,DP _ _ _ (by omega),hz i (by omega),DY xs i (by omega),A2];generalize (4294967296:Int)^i=P at *
  have e2:xs.getD i 0=d*(v / d)+v % d-r*4294967296:=by omega
  rw[e2];grind
theorem Xg{xs:LI}{d:Int}(hx:AP xs)(hd:0<d/\d<4294967296)(hN:xs.length<=1048576):∃ qs r,(qs:LI).length=xs.length/\AP qs/\(0<=r/\r<d)/\d*Ab qs+r=Ab xs/\RQ 187 [sL lm xs,F Ac d] (Ax [sL lm qs,F Ac r]):=by
 obtain⟨qs,r,h1,h2,h3,h4,h5⟩:=yK hx hd hN xs.length (Av xs.length 0) 0 (Ap _) (by simp) (ES _) (by omega) (fun t _=>DA _ _);refine⟨qs,r,h2,h3,h4,?_,?_⟩
 ·rw[h5,EG,EK];omega
 ·have h:=Aqr xs qs d r (-1) xs.length (by omega) (by
   rw[R,Fc,Bl (by omega) (by omega)];exact h1)
  rw[Q' (n:=r) (by omega)] at h;unfold sL;rw[h2];exact h
theorem yL{xs:LI}{s:Nat}(hx:AP xs)(hs:s<32)(hN:xs.length<1048576):∀ (r i:Nat) (os:LI),i+r=xs.length->os.length=xs.length+1->AP os->Ab os=2^s*Ab (xs.take i)->os.getD i 0<2^s->(∀ t,i<t->os.getD t 0=0) ->
  ∃ os',Ar (.loop VC) (Qc xs (s:Nat) (xs.length+1) os (xs.length:Nat) (i:Nat)) (.exit 0) (Qc xs (s:Nat) (xs.length+1) os' (xs.length:Nat) (xs.length:Nat))/\os'.length=xs.length+1/\AP os'/\Ab os'=2^s*Ab xs:=by
 intro r;induction r with
 | zero =>
  intro i os hi hl hu hv _ _;have:i=xs.length:=by omega
  subst this;exact⟨os,Ao (Aqt xs _ _ os _ _ (by simp)) (by nofun),hl,hu,by rw[hv,EK]⟩
 | succ r ih =>
  intro i os hi hl hu hv hc hz;have ei:I O ((i:Int)+1)=((i+1:Nat):Int):=by rw[Bl (by omega) (by omega)];omega
  have hxi:=AG hx i;have hoi:=AG hu i;obtain⟨p0,p1,p2,q,q0,q1⟩:=V' hxi hs;have es:(2:Int)^(min (A (I U (s:Int))) (Am .u64))=2^s:=by
   rw[C8 (by omega),R];congr 1;show min s 64=s;omega
  have hk:=Aqs xs (s:Nat) (xs.length+1) os (xs.length:Nat) (i:Nat) (by simp;omega) (by omega) (by rw[C8 (by omega)];omega) (by omega) hl (by rw[ei];omega) (by simpa using hl);rw[ei,R,R,C8 (n:=xs.getD i 0) (by omega),es,C8 ⟨p0,p1⟩,Yl,DW (xs.getD i 0*2^s),q1] at hk;have hqs:q*2^s<4294967296:=by rw[<- q1];omega
  rw[Aql q0 hqs (by omega) ⟨hoi.1,hc⟩] at hk;have hhi:0<=xs.getD i 0*2^s / 4294967296:=by omega
  have hp2:(2:Int)^s<=4294967296:=by have:=G5 (show s<=32 by omega);rwa [show (2:Int)^32=4294967296 by decide] at this
  rw[Q' ⟨hhi,by omega⟩] at hk;have hsum:0<=q*2^s+os.getD i 0/\q*2^s+os.getD i 0<4294967296:=by
   have hq2:0<=q*2^s:=by rw[<- q1];omega
   refine⟨by omega,?_⟩;have e:(4294967296:Int)=2^(32-s)*2^s:=by
    rw[<- BB,show 32-s+s=32 by omega];decide
   rw[e] at hqs |-;have hp:=BE s;have:=Gi hqs (by omega);have:=Ae (show q+1<=2^(32-s) by omega) (show (0:Int)<=2^s by omega);rw[Hg,Do] at this;omega
  obtain⟨os',g1,g2,g3,g4⟩:=ih (i+1) ((os.set i (q*2^s+os.getD i 0)).set (i+1) (xs.getD i 0*2^s / 4294967296)) (by omega) (by simpa using hl) (Cw (Cw hu hsum) ⟨hhi,by omega⟩) (by
    rw[DP _ _ _ (by simp;omega),DP _ _ _ (by omega),Cs (by omega),hz (i+1) (by omega),hv,DY xs i (by omega),A2];have e3:xs.getD i 0*2^s=4294967296*(xs.getD i 0*2^s / 4294967296)+q*2^s:=by omega
    generalize (4294967296:Int)^i=P at *
    generalize xs.getD i 0*2^s / 4294967296=H at *
    generalize os.getD i 0=o at *
    generalize q*2^s=Q at *
    have e4:(2:Int)^s*(Ab (xs.take i)+P*xs.getD i 0)=2^s*Ab (xs.take i)+P*(xs.getD i 0*2^s):=by grind
    rw[e4,e3];grind) (by
    rw[show ((os.set i (q*2^s+os.getD i 0)).set (i+1) (xs.getD i 0*2^s / 4294967296)).getD (i+1) 0=xs.getD i 0*2^s / 4294967296 by simp[Z,show i+1<os.length by omega]];exact p2) (fun t ht=>by rw[Cs (by omega),Cs (by omega)];exact hz t (by omega))
  exact⟨os',Cv.loop hk g1,g2,g3,g4⟩
theorem Rb{xs:LI}{s:Nat}(hx:AP xs)(hs:s<32)(hN:xs.length<1048576):∃ os,(os:LI).length=xs.length+1/\AP os/\Ab os=2^s*Ab xs/\RQ 189 [sL lm xs,F O (s:Nat)] (L 1 os.length (lm os)):=by
 obtain⟨os,h1,h2,h3,h4⟩:=yL hx hs hN xs.length 0 (Av (xs.length+1) 0) (by omega) (by simp) (ES _) (by rw[EG];simp[Ab]) (by rw[DA];exact BE s) (fun t _=>DA _ _);refine⟨os,h2,h3,h4,?_⟩;have e:I O ((xs.length:Int)+1)=((xs.length+1:Nat):Int):=by rw[Bl (by omega) (by omega)];omega
 have h:=Aqu xs os (s:Nat) (xs.length:Nat) (xs.length:Nat) (xs.length+1) (by rw[e];omega) (by rw[e,R,Fc];exact h1);rw[h2];exact h
section
variable {k:Nat} {us vs:LI} {kq:Nat} {qs:LI} {s:Int} {j m:Nat}
theorem lD(hl:us.length=k)(hk:k<=1048577)(hj:j+m+2<k)(h:Dig m (Ab vs) (Ab (us.drop j)) (vs.getD (m+1) 0) (vs.getD m 0) (us.getD (j+m+2) 0) (us.getD (j+m+1) 0) (us.getD (j+m) 0)):∀ (f:Nat) (g r:Int),g.toNat<=f ->
  DigI (Ab vs) (Ab (us.drop j)) (vs.getD (m+1) 0) (us.getD (j+m+2) 0*4294967296+us.getD (j+m+1) 0) g r->r<4294967296 ->
  ∃ g' r',Ar (.loop HG) (Et k us vs ((m+2:Nat):Int) (vs.getD (m+1) 0) (vs.getD m 0) kq qs s (j:Nat) g r) (.exit 2) (Et k us vs ((m+2:Nat):Int) (vs.getD (m+1) 0) (vs.getD m 0) kq qs s (j:Nat) g' r') /\
   (0<=g'/\g'<4294967296)/\Ab (us.drop j)<(g'+1)*Ab vs/\g'*Ab vs<Ab (us.drop j)+Ab vs:=by
 have ht:=h.htop;have hnx:=h.hnxt;have hz:=h.hz;have e1:I O (I O ((j:Int)+((m+2:Nat):Int))-2)=((j+m:Nat):Int):=by
  rw[Bl (n:=(j:Int)+((m+2:Nat):Int)) (by omega) (by omega),Bl (by omega) (by omega)];omega
 intro f;induction f with
 | zero =>
  intro g r hf i hr;have hg:g=0:=by have:=i.g0;omega
  subst hg;have c2:¬ (r*4294967296+us.getD (j+m) 0<0*vs.getD m 0):=by have:=i.r0;omega
  have k5:=Yn k us vs ((m+2:Nat):Int) (vs.getD (m+1) 0) (vs.getD m 0) kq qs s (j:Nat) 0 r (by simp) (by
   rw[e1,R,MU ⟨i.r0,hr⟩ hz,C8 (n:=0*vs.getD m 0) (by omega),decide_eq_false_iff_not];omega) (by rw[e1];omega) hl
  exact⟨0,r,Ao k5 (by nofun),by omega,i.up,h.out i (by omega) (TP (by omega))⟩
 | succ f ih =>
  intro g r hf i hr;have hg1:=i.gle;have hg0:=i.g0;have hr0:=i.r0;have hgn:0<=g*vs.getD m 0/\g*vs.getD m 0<18446744073709551616:=by
   have a:=A6 hg0 hnx.1;have b:=DJ hg1 (show vs.getD m 0<=4294967295 by omega) hnx.1 (by omega);omega
  have er:I U (r+vs.getD (m+1) 0)=r+vs.getD (m+1) 0:=C8 (by omega);have ecmp:(B (I U (g*vs.getD m 0)>I U ((T (Am .u64) (I U (r*2^(min (A 32) (Am .u64)))) ||| T (Am .u64) (I U (us.getD (A (I O (I O ((j:Int)+((m+2:Nat):Int))-2))) 0))).toNat)):Bool)=decide (r*4294967296+us.getD (j+m) 0<g*vs.getD m 0):=by
   rw[e1,R,MU ⟨hr0,hr⟩ hz,C8 hgn]
  by_cases hc:4294967296<=g\/r*4294967296+us.getD (j+m) 0<g*vs.getD m 0
  ·have i2:=h.step i hc;have hg2:=i2.g0;have eg:I U (g-1)=g-1:=C8 (by omega);by_cases hbig:4294967296<=r+vs.getD (m+1) 0
   ·have hgs:=h.small_g i2 hbig;have hrun:Ar HG (Et k us vs ((m+2:Nat):Int) (vs.getD (m+1) 0) (vs.getD m 0) kq qs s (j:Nat) g r) (.exit 2) (Et k us vs ((m+2:Nat):Int) (vs.getD (m+1) 0) (vs.getD m 0) kq qs s (j:Nat) (I U (g-1)) (I U (r+vs.getD (m+1) 0))):=by
     by_cases hg:4294967296<=g
     ·exact xZ k us vs _ _ _ kq qs s _ g r (by simpa using hg) (by rw[er];simpa using hbig)
     ·exact yB k us vs _ _ _ kq qs s _ g r (by simp;omega) (by rw[ecmp,decide_eq_true_eq];omega) (by rw[er];simpa using hbig) (by rw[e1];omega) hl
    rw[eg,er] at hrun;exact⟨g-1,_,Ao hrun (by nofun),⟨hg2,hgs⟩,i2.up,h.out i2 hgs (Or.inl hbig)⟩
   ·have hrun:Ar HG (Et k us vs ((m+2:Nat):Int) (vs.getD (m+1) 0) (vs.getD m 0) kq qs s (j:Nat) g r) .norm (Et k us vs ((m+2:Nat):Int) (vs.getD (m+1) 0) (vs.getD m 0) kq qs s (j:Nat) (I U (g-1)) (I U (r+vs.getD (m+1) 0))):=by
     by_cases hg:4294967296<=g
     ·exact yA k us vs _ _ _ kq qs s _ g r (by simpa using hg) (by rw[er,decide_eq_false_iff_not];omega)
     ·exact yC k us vs _ _ _ kq qs s _ g r (by simp;omega) (by rw[ecmp,decide_eq_true_eq];omega) (by rw[er,decide_eq_false_iff_not];omega) (by rw[e1];omega) hl
    rw[eg,er] at hrun;obtain⟨g',r',a1,a2⟩:=ih (g-1) (r+vs.getD (m+1) 0) (by omega) i2 (by omega);exact⟨g',r',Cv.loop hrun a1,a2⟩
  ·have k5:=Yn k us vs ((m+2:Nat):Int) (vs.getD (m+1) 0) (vs.getD m 0) kq qs s (j:Nat) g r (by simp;omega) (by rw[ecmp,decide_eq_false_iff_not];omega) (by rw[e1];omega) hl;exact⟨g,r,Ao k5 (by nofun),by omega,i.up,h.out i (by omega) (TP (by omega))⟩
end
section
variable {k:Nat} {vs:LI} {t t2:Int} {kq:Nat} {qs:LI} {s:Int} {j:Nat} {g:Int}
theorem lE(hv:AP vs)(hk:k<=1048577)(hg:0<=g/\g<4294967296)(hj:j+vs.length<=k):∀ (r i:Nat) (us:LI) (b c:Int),r+i=vs.length->us.length=k->AP us->0<=b/\b<=1->0<=c/\c<4294967296 ->
  Ar (.loop ON) (Je k us vs (vs.length:Nat) t t2 kq qs s (j:Nat) g b c (i:Nat)) (.exit 4) (Je k (FL g vs j r i us b c).1 vs (vs.length:Nat) t t2 kq qs s (j:Nat) g (FL g vs j r i us b c).2.1 (FL g vs j r i us b c).2.2 (vs.length:Nat)):=by
 intro r;induction r with
 | zero =>
  intro i us b c hi _ _ _ _;have:i=vs.length:=by omega
  subst this;exact Ao (yE k us vs _ t t2 kq qs s _ g b c _ (by simp)) (by nofun)
 | succ r ih =>
  intro i us b c hi hl hu hb hc;have ei:I O ((i:Int)+1)=((i+1:Nat):Int):=by rw[Bl (by omega) (by omega)];omega
  have eij:I O ((i:Int)+(j:Int))=((i+j:Nat):Int):=by rw[Bl (by omega) (by omega)];omega
  have hvi:=AG hv i;have hui:=AG hu (i+j);have hw:=VW hg hvi hc;have hgv:=A6 hg.1 hvi.1;have h1:=yD k us vs (vs.length:Nat) t t2 kq qs s (j:Nat) g b c (i:Nat) (by simp;omega) (by omega) (by rw[eij];omega) hl;rw[eij,ei,R,R,C8 (n:=vs.getD i 0) (by omega),C8 (n:=us.getD (i+j) 0) (by omega),C8 (n:=g*vs.getD i 0) (by omega),C8 hw,Yl,Aqk,DW (g*vs.getD i 0+c)] at h1;generalize hp:g*vs.getD i 0+c=p at *
  rw[C8 (n:=p % 4294967296) (by omega),B6,B6] at h1;have hstep:FL g vs j (r+1) i us b c=FL g vs j r (i+1) (us.set (i+j) ((us.getD (i+j) 0-p % 4294967296-b) % 4294967296)) (if us.getD (i+j) 0-p % 4294967296-b<0 then 1 else 0) (p / 4294967296):=by rw[FL,hp]
  generalize hd:us.getD (i+j) 0-p % 4294967296-b=d at *
  have e1:I Ac (((us.getD (i+j) 0-p % 4294967296) % 18446744073709551616-b) % 18446744073709551616)=d % 4294967296:=by rw[DW];omega
  have e2:((us.getD (i+j) 0-p % 4294967296) % 18446744073709551616-b) % 18446744073709551616 / 9223372036854775808=(if d<0 then 1 else 0):=by split <;> omega
  rw[e1,e2] at h1;rw[hstep];exact Cv.loop h1 (ih (i+1) _ _ _ (by omega) (by simpa using hl) (Cw hu (by omega)) (by split <;> omega) (by omega))
theorem lF(hv:AP vs)(hk:k<=1048577)(hj:j+vs.length<=k):∀ (r i:Nat) (us:LI) (c:Int),r+i=vs.length->us.length=k->AP us->0<=c/\c<=1 ->
  Ar (.loop QR) (Lh k us vs (vs.length:Nat) t t2 kq qs s (j:Nat) g c (i:Nat)) (.exit 6) (Lh k (HW vs j r i us c).1 vs (vs.length:Nat) t t2 kq qs s (j:Nat) g (HW vs j r i us c).2 (vs.length:Nat)):=by
 intro r;induction r with
 | zero =>
  intro i us c hi _ _ _;have:i=vs.length:=by omega
  subst this;exact Ao (yG k us vs _ t t2 kq qs s _ g c _ (by simp)) (by nofun)
 | succ r ih =>
  intro i us c hi hl hu hc;have ei:I O ((i:Int)+1)=((i+1:Nat):Int):=by rw[Bl (by omega) (by omega)];omega
  have eij:I O ((i:Int)+(j:Int))=((i+j:Nat):Int):=by rw[Bl (by omega) (by omega)];omega
  have hvi:=AG hv i;have hui:=AG hu (i+j);have h1:=yF k us vs (vs.length:Nat) t t2 kq qs s (j:Nat) g c (i:Nat) (by simp;omega) (by rw[eij];omega) hl (by omega);rw[eij,ei,R,R,C8 (n:=vs.getD i 0) (by omega),C8 (n:=us.getD (i+j) 0) (by omega),C8 (n:=us.getD (i+j) 0+vs.getD i 0) (by omega),C8 (n:=us.getD (i+j) 0+vs.getD i 0+c) (by omega),Yl,DW] at h1;exact Cv.loop h1 (ih (i+1) _ _ (by omega) (by simpa using hl) (Cw hu (by omega)) (by omega))
end
theorem Aqy{X c b:Int}(hX:0<=X/\X<4294967296)(hc:0<=c/\c<4294967296)(hb:0<=b/\b<=1) :
  d (I U (I U (I U X-c)-b)) (2^(min (A 63) (Am .u64)))=(if X-c-b<0 then 1 else 0)/\I Ac (I U (I U (I U X-c)-b))=(X-c-b) % 4294967296:=by
 rw[Aqk,C8 (n:=X) (by omega),B6,B6,DW];refine⟨?_,by omega⟩;split <;> omega
section
variable {vs:LI} {m:Nat} {k kq:Nat} {s:Int}
theorem yM(hv:AP vs)(hm:vs.length=m+2)(ht:2147483648<=vs.getD (m+1) 0)(hk:k=kq+vs.length)(hkb:k<=1048577):∀ (i:Nat) (us qs:LI),i<=kq->us.length=k->AP us->qs.length=kq->AP qs->(∀ t,t<i->qs.getD t 0=0)->Ab (us.drop i)<Ab vs ->
  ∃ us' qs',Ar (.loop MG) (H0 k us vs (vs.length:Nat) (vs.getD (m+1) 0) (vs.getD m 0) kq qs s ((i:Int)-1)) (.exit 0) (H0 k us' vs (vs.length:Nat) (vs.getD (m+1) 0) (vs.getD m 0) kq qs' s (-1)) /\
   us'.length=k/\AP us'/\qs'.length=kq/\AP qs'/\Ab us'<Ab vs/\Ab us=Ab vs*(Ab qs'-Ab qs)+Ab us':=by
 intro i;induction i with
 | zero =>
  intro us qs _ h1 h2 h3 h4 _ h6;exact⟨us,qs,Ao (Aqx k us vs _ _ _ kq qs s _ (by simp)) (by nofun),h1,h2,h3,h4,h6,by rw[Tt,AM,DK]⟩
 | succ i ih =>
  intro us qs hi h1 h2 h3 h4 h5 h6;have ei:(((i+1:Nat):Int)-1)=(i:Nat):=by omega
  have ej:I O ((i:Int)-1)=(i:Int)-1:=Bl (by omega) (by omega);have en:I O ((i:Int)+(vs.length:Int))=((i+vs.length:Nat):Int):=by rw[Bl (by omega) (by omega)];omega
  have en1:I O (((i+vs.length:Nat):Int)-1)=((i+m+1:Nat):Int):=by rw[Bl (by omega) (by omega)];omega
  have hD:=sE (us:=us) (vs:=vs) (j:=i) (m:=m) h2 hv hm (by omega) ht h6;have hI:=hD.init;have hr1:=Ey (us.getD (i+m+2) 0*4294967296+us.getD (i+m+1) 0) (show 0<vs.getD (m+1) 0 by omega);have ht2:=hD.htop;obtain⟨g,r,q1,q2,q3,q4⟩:=lD (k:=k) (kq:=kq) (qs:=qs) (s:=s) h1 hkb (by omega) hD _ _ _ (Ap _) hI (by omega);rw[<- hm] at q1;have hn0:0<=us.getD (i+m+2) 0*4294967296+us.getD (i+m+1) 0:=by have:=hD.hx;have:=hD.hy;omega
  have hq0:=hI.g0;have hq1:=hI.gle;have hl5:Ar (.loop HG) (Et k us vs (vs.length:Nat) (vs.getD (m+1) 0) (vs.getD m 0) kq qs s (i:Nat) (I U (Aw (I U ((T (Am .u64) (I U ((I U (us.getD (A (I O ((i:Int)+(vs.length:Int)))) 0))*2^(min (A 32) (Am .u64)))) ||| T (Am .u64) (I U (us.getD (A (I O ((I O ((i:Int)+(vs.length:Int)))-1))) 0))).toNat)) (vs.getD (m+1) 0))) (AD (I U ((T (Am .u64) (I U ((I U (us.getD (A (I O ((i:Int)+(vs.length:Int)))) 0))*2^(min (A 32) (Am .u64)))) ||| T (Am .u64) (I U (us.getD (A (I O ((I O ((i:Int)+(vs.length:Int)))-1))) 0))).toNat)) (vs.getD (m+1) 0))) (.exit 2) (Et k us vs (vs.length:Nat) (vs.getD (m+1) 0) (vs.getD m 0) kq qs s (i:Nat) g r):=by
   rw[en,en1,R,R,show i+vs.length=i+m+2 by omega,C8 (n:=us.getD (i+m+2) 0) (by have:=hD.hx;omega),MU hD.hx hD.hy,B8 hn0,Bs hn0,C8 ⟨hq0,by omega⟩];exact q1
  have hms:=lE (k:=k) (t:=vs.getD (m+1) 0) (t2:=vs.getD m 0) (kq:=kq) (qs:=qs) (s:=s) (j:=i) (g:=g) hv hkb q2 (by omega) vs.length 0 us 0 0 (by omega) h1 h2 (by omega) (by omega);have hmo:=VX (j:=i) q2 hv vs.length 0 us 0 0 (by omega) (by omega) h2 (by omega) (by omega);have hst:=Ts h2 hv (j:=i) (by omega) h6 q2 q3 q4;generalize hM:FL g vs i vs.length 0 us 0 0=M at *
  obtain⟨m1,m2,m3,m4,_,_⟩:=hmo;obtain⟨d1,d2⟩:=Aqy (AG m2 (i+vs.length)) m4 m3;dsimp only at hst;obtain⟨S1,S2⟩:=hst;have fin:∀ (ws:LI) (q:Int),StepOk us vs ws i q->(0<=q/\q<4294967296)->Ar MG (H0 k us vs (vs.length:Nat) (vs.getD (m+1) 0) (vs.getD m 0) kq qs s (i:Nat)) .norm (H0 k ws vs (vs.length:Nat) (vs.getD (m+1) 0) (vs.getD m 0) kq (qs.set i q) s ((i:Int)-1)) ->
    ∃ us' qs',Ar (.loop MG) (H0 k us vs (vs.length:Nat) (vs.getD (m+1) 0) (vs.getD m 0) kq qs s (i:Nat)) (.exit 0) (H0 k us' vs (vs.length:Nat) (vs.getD (m+1) 0) (vs.getD m 0) kq qs' s (-1)) /\
   us'.length=k/\AP us'/\qs'.length=kq/\AP qs'/\Ab us'<Ab vs/\Ab us=Ab vs*(Ab qs'-Ab qs)+Ab us':=by
   intro ws q hs hq hrun;obtain⟨us',qs',a1,a2,a3,a4,a5,a6,a7⟩:=ih ws (qs.set i q) (by omega) (by rw[hs.len];exact h1) hs.u32 (by simpa using h3) (Cw h4 hq) (fun t ht=>by rw[Cs (by omega)];exact h5 t (by omega)) hs.low;refine⟨us',qs',Cv.loop hrun a1,a2,a3,a4,a5,a6,?_⟩;have e:=hs.val;rw[DP _ _ _ (by omega),h5 i (by omega),EY] at a7;generalize (4294967296:Int)^i=P at *
   grind
  rw[ei];by_cases hd:M.1.getD (i+vs.length) 0-M.2.2-M.2.1<0
  ·obtain⟨S2,hg1⟩:=S2 hd;have hu2:AP (M.1.set (i+vs.length) ((M.1.getD (i+vs.length) 0-M.2.2-M.2.1) % 4294967296)):=Cw m2 (by omega);have hab:=lF (k:=k) (t:=vs.getD (m+1) 0) (t2:=vs.getD m 0) (kq:=kq) (qs:=qs) (s:=s) (j:=i) (g:=g-1) hv hkb (by omega) vs.length 0 (M.1.set (i+vs.length) ((M.1.getD (i+vs.length) 0-M.2.2-M.2.1) % 4294967296)) 0 (by omega) (by rw[A',m1];exact h1) hu2 (by omega);have hao:=VY (j:=i) hv vs.length 0 (M.1.set (i+vs.length) ((M.1.getD (i+vs.length) 0-M.2.2-M.2.1) % 4294967296)) 0 (by omega) (by rw[A',m1];omega) hu2 (by omega);obtain⟨b1,b2,b3,_,_⟩:=hao;generalize hB:HW vs i vs.length 0 (M.1.set (i+vs.length) ((M.1.getD (i+vs.length) 0-M.2.2-M.2.1) % 4294967296)) 0=Bb at *
   have eg:I U (g-1)=g-1:=C8 (by omega);have k1:=Aqv k us vs (vs.length:Nat) (vs.getD (m+1) 0) (vs.getD m 0) kq qs s (i:Nat) M.1 Bb.1 g r M.2.1 M.2.2 Bb.2 (by simp) (by rw[en,R,d1,if_pos hd];rfl) (by rw[en];omega) h1 (by rw[en,en1];omega) (by omega) hl5 hms (by rw[m1];exact h1) (by rw[en,R,d2,eg];exact hab) (by rw[b1,A',m1];exact h1) (by omega) h3;rw[en,R,eg,R,Q' (n:=g-1) (by omega),ej,Q' (n:=Bb.2) (by omega),DW] at k1;exact fin _ _ S2 (by omega) k1
  ·have k2:=Aqw k us vs (vs.length:Nat) (vs.getD (m+1) 0) (vs.getD m 0) kq qs s (i:Nat) M.1 g r M.2.1 M.2.2 (by simp) (by rw[en,R,d1,if_neg hd];rfl) (by rw[en];omega) h1 (by rw[en,en1];omega) (by omega) hl5 hms (by rw[m1];exact h1) (by omega) h3;rw[en,R,R,d2,Q' (n:=g) q2,ej] at k2;exact fin _ _ (S1 (by omega)) q2 k2
end
def TQB:Cn:=TQA
theorem Dr:Ca AY TQB:=lC
theorem Aqz(b1 b2 na nb:Bool)(xs ys as1 bs qs rs:LI)(v w:Int)(n1:RQ 143 [o [D b1,sL lm xs]] (Ax [D na,sL lm as1]))(n2:RQ 143 [o [D b2,sL lm ys]] (Ax [D nb,sL lm bs]))(n3:RQ 180 [sL lm as1,sL lm bs] (Ax [sL lm qs,sL lm rs]))(n4:RQ 152 [D (!(na==nb)),sL lm qs] (Ah v))(n5:RQ 152 [D na,sL lm rs] (Ah w)):RQ 158 [o [D b1,sL lm xs],o [D b2,sL lm ys]] (Ax [Ah v,Ah w]):=i (fn:=Vv) Dr rfl 400 rfl [.r (Ax [D na,sL lm as1]),.r (Ax [D nb,sL lm bs]),.r (Ax [sL lm qs,sL lm rs]),.r (Ah v),.r (Ah w)] (S n1 (S n2 (S n3 (S n4 (S n5 a0)))))
def Og(xs:LI)(v:Int)(n:Int)(i:Int):Al:=(Y 3 (C (F U v)::(Y 3 (C (sL lm xs)::(C (F O n)::(C (F O i)::(Y 14 [])))))))
theorem Ara(xs:LI)(v:Int)(n:Int)(i:Int)(c1:B (i<n)=true)(n1:0<=i/\i<(xs.length:Int))(n2:¬ (I U (I O (32*i)))<0):Ar V7 (Og xs v n i) .norm (Og xs (I U ((T (Am .u64) v ||| T (Am .u64) (I U ((I U (xs.getD (A i) 0))*2^(min (A (I U (I O (32*i)))) (Am .u64))))).toNat)) n (I O (i+1))):=(G Dr 400 [.b true,.v (F Ac (xs.getD (A i) 0))] [3,7,8,9] (S c1 (S n1 (S (y n1) (S n2 a0)))))
theorem Arb(xs:LI)(v:Int)(n:Int)(i:Int)(c1:B (i<n)=false):Ar V7 (Og xs v n i) (.exit 0) (Og xs v n i):=(G Dr 400 [.b false] [3,7,8,9] (S c1 a0))
theorem Arc(n:Bool)(xs:LI)(v i m:Int)(hl1:Ar (.loop V7) (Og xs 0 (xs.length:Int) 0) (.exit 0) (Og xs v m i)):RQ 183 [o [D n,sL lm xs]] (F U v):=A8 V8 (Y 2 (C (F U v)::(Y 21 []))) (W (q (Cv.seq (G Dr 400 [] [3,7,8,9] a0) (Cv.seq (Cv.block hl1) (G Dr 400 [] [2] a0)))))
theorem Ard(n v:Int)(n1:RQ 152 [D false,H 2 [F Ac (I Ac n),F Ac (I Ac (d n (2^(min (A 32) (Am .u64)))))]] (Ah v)):RQ 181 [F U n] (Ah v):=i (fn:=V4) Dr rfl 400 rfl [.r (Ah v)] (S Ie (S n1 a0))
def Oh(a:Int)(b:Int):Al:=(C (F U a)::(C (F U b)::(Y 10 [])))
theorem Are(a:Int)(b:Int)(c1:B (b>0)=true)(n1:¬ b=0):Ar V5 (Oh a b) .norm (Oh b (AD a b)):=(G Dr 400 [.b true] [0,1] (S c1 (S n1 a0)))
theorem dP(a:Int)(b:Int)(c1:B (b>0)=false):Ar V5 (Oh a b) (.exit 0) (Oh a b):=(G Dr 400 [.b false] [0,1] (S c1 a0))
theorem Arf(a b a1 b1:Int)(hl1:Ar (.loop V5) (Oh a b) (.exit 0) (Oh a1 b1)):RQ 182 [F U a,F U b] (F U a1):=A8 V6 (Y 4 (C (F U a1)::(Y 7 []))) (Cv.seq (G Dr 400 [] [0,1] a0) (Cv.seq (Cv.block hl1) (G Dr 400 [] [4] a0)))
def GA(x:Rn)(y:Rn)(z:Rn):Al:=(Y 4 (g [D z.1,H z.2.length (lm z.2)]::(g [D x.1,H x.2.length (lm x.2)]::(g [D y.1,H y.2.length (lm y.2)]::(Y 35 [])))))
theorem Arg(x:Rn)(y:Rn)(z:Rn)(ua ub ug g:Int)(c1:B ((y.2.length:Int)>0)=true)(c2:B ((x.2.length:Int)<=2)=true)(c3:B ((y.2.length:Int)<=2)=true)(n1:RQ 183 [As x] (F U ua))(n2:RQ 183 [As y] (F U ub))(n3:RQ 182 [F U ua,F U ub] (F U ug))(n4:RQ 181 [F U ug] (Ah g)):Ar LD (GA x y z) .ret (GA x y (cn g)):=(G Dr 400 [.b true,.b true,.b true,.r (F U ua),.r (F U ub),.r (F U ug),.r (Ah g)] [4,5,6] (S c1 (S c2 (S c3 (S n1 (S n2 (S n3 (S n4 a0))))))))
theorem Arh(x:Rn)(y:Rn)(z:Rn)(q r:Int)(c1:B ((y.2.length:Int)>0)=true)(c2:B ((x.2.length:Int)<=2)=true)(c3:B ((y.2.length:Int)<=2)=false)(n1:RQ 158 [As x,As y] (Ax [Ah q,Ah r])):Ar LD (GA x y z) .norm (GA y (cn r) z):=(G Dr 400 [.b true,.b true,.b false,.r (Ax [Ah q,Ah r])] [4,5,6] (S c1 (S c2 (S c3 (S n1 a0)))))
theorem Ari(x:Rn)(y:Rn)(z:Rn)(q r:Int)(c1:B ((y.2.length:Int)>0)=true)(c2:B ((x.2.length:Int)<=2)=false)(n1:RQ 158 [As x,As y] (Ax [Ah q,Ah r])):Ar LD (GA x y z) .norm (GA y (cn r) z):=(G Dr 400 [.b true,.b false,.b false,.r (Ax [Ah q,Ah r])] [4,5,6] (S c1 (S c2 (S EI (S n1 a0)))))
theorem dQ(x:Rn)(y:Rn)(z:Rn)(c1:B ((y.2.length:Int)>0)=false):Ar LD (GA x y z) (.exit 0) (GA x y z):=(G Dr 400 [.b false] [4,5,6] (S c1 a0))
theorem lH(b1 b2:Bool)(xs ys:LI)(v w:Int)(x y z:Rn)(n1:RQ 160 [o [D b1,sL lm xs]] (Ah v))(n2:RQ 160 [o [D b2,sL lm ys]] (Ah w))(hl3:Ar (.loop LD) (GA (cn v) (cn w) (false,[])) (.exit 0) (GA x y z)):RQ 159 [o [D b1,sL lm xs],o [D b2,sL lm ys]] (As x):=A8 Si (Y 4 (g [D x.1,H x.2.length (lm x.2)]::(Y 37 []))) (W (Cv.seq (G Dr 400 [.r (Ah v),.r (Ah w)] [4,5,6] (S n1 (S n2 a0))) (Cv.seq (Cv.block hl3) (G Dr 400 [] [4] a0))))
theorem lI(b1 b2:Bool)(xs ys:LI)(v w:Int)(x y z:Rn)(n1:RQ 160 [o [D b1,sL lm xs]] (Ah v))(n2:RQ 160 [o [D b2,sL lm ys]] (Ah w))(hl3:Ar (.loop LD) (GA (cn v) (cn w) (false,[])) .ret (GA x y z)):RQ 159 [o [D b1,sL lm xs],o [D b2,sL lm ys]] (As z):=A8 Si (Y 4 (g [D z.1,H z.2.length (lm z.2)]::(g [D x.1,H x.2.length (lm x.2)]::(g [D y.1,H y.2.length (lm y.2)]::(Y 35 []))))) (W (Cv.seq (G Dr 400 [.r (Ah v),.r (Ah w)] [4,5,6] (S n1 (S n2 a0))) (AJ (CJ hl3) (by nofun))))
def TQC:Cn:=TQB
theorem lJ:Ca AY TQC:=Dr
def IL(g:Nat->Int)(i r:Nat):LI:=(Aq i).map g++Av r 0
theorem Xh(g:Nat->Int)(i r:Nat):(IL g i r).length=i+r:=by simp [IL]
theorem lL(g:Nat->Int)(i r:Nat):(IL g i (r+1)).set i (g i)=IL g (i+1) r:=by
 simp only[IL,Hq,D_,C2,GC];rw[A5n _ _ (by simp)];simp[Ft]
def Dh(us:LI)(s:Nat)(i:Nat):Int:=us.getD (i+1) 0 % 2^s*2^(32-s)+us.getD i 0 / 2^s
theorem Rc{us:LI}(hu:AP us){s:Nat}(hs:s<32)(i:Nat):(0<=us.getD i 0 / 2^s/\us.getD i 0 / 2^s<2^(32-s))/\0<=us.getD (i+1) 0 % 2^s/\us.getD (i+1) 0 % 2^s*2^(32-s)<4294967296/\(0<=Dh us s i/\Dh us s i<4294967296):=by
 have h0:=AG hu i;have h1:=AG hu (i+1);have hp:=BE s;have hp2:=BE (32-s);have e:=Q_ (show s<=32 by omega);have a1:=FE (us.getD (i+1) 0) (show (2:Int)^s ≠ 0 by omega);have a2:=Ey (us.getD (i+1) 0) hp;have b0:0<=us.getD i 0 / 2^s:=J3 h0.1 (by omega);have b1:us.getD i 0 / 2^s<2^(32-s):=K4 hp (by rw[<- e];exact h0.2);unfold Dh;generalize us.getD (i+1) 0 % 2^s=x at *
 generalize us.getD i 0 / 2^s=y at *
 have c1:=Ae (show x+1<=2^s by omega) (show (0:Int)<=2^(32-s) by omega);rw[Hg,Do,AA (2^s),<- e] at c1;have c2:=A6 a1 (show (0:Int)<=2^(32-s) by omega);omega
theorem dR{us:LI}(s:Nat)(hs:s<32):∀ n,n<=us.length->2^s*Ab ((Aq n).map (Dh us s))=Ab (us.take n)-us.getD 0 0 % 2^s+4294967296^n*(us.getD n 0 % 2^s):=by
 intro n;induction n with
 | zero =>
  intro _;simp only[List.range_zero,GC,TQ,Ab,CE,AM,Do];generalize us.getD 0 0 % 2^s=w;omega
 | succ n ih =>
  intro hn;have e:=Q_ (show s<=32 by omega);rw[Hq,D_,C2,GC,Gu,N,B9,CW,ih (by omega),DY us n (by omega),A2];have e2:Ab [Dh us s n]=Dh us s n:=by simp[Ab]
  rw[e2];unfold Dh;have e3:=G2 (us.getD n 0) (2^s);generalize us.getD (n+1) 0 % 2^s=x at *
  generalize us.getD n 0 / 2^s=y at *
  generalize us.getD n 0 % 2^s=z at *
  generalize us.getD 0 0 % 2^s=w at *
  generalize us.getD n 0=u at *
  generalize Ab (us.take n)=V at *
  generalize (4294967296:Int)^n=P at *
  rw[e];generalize (2:Int)^(32-s)=T at *
  generalize (2:Int)^s=S at *
  rw[<- e3];grind
theorem lM{us:LI}{k n kq:Nat}{qs:LI}{s:Nat}(hu:AP us)(hl:us.length=k)(hn:n<k)(hk:k<=1048577)(hs:s<32) :
  Ar (.loop MF) (Iu k us (n:Nat) kq qs n (Av n 0) (s:Nat) 0) (.exit 8) (Iu k us (n:Nat) kq qs n ((Aq n).map (Dh us s)) (s:Nat) (n:Nat)):=by
 have h:=Cv.up (prog:=AY) (c:=MF) (ex := .exit 8) (fin:=Iu k us (n:Nat) kq qs n ((Aq n).map (Dh us s)) (s:Nat) (n:Nat))
  (fun i=>Iu k us (n:Nat) kq qs n (IL (Dh us s) i (n-i)) (s:Nat) (i:Nat)) n (by nofun) ?_ ?_ 0 (Ba _)
 ·simpa [IL] using h
 ·intro i hi;obtain⟨r,hr⟩:∃ r,n-i=r+1:=⟨n-i-1,by omega⟩;have e2:n-(i+1)=r:=by omega
  have ei:I O ((i:Int)+1)=((i+1:Nat):Int):=by rw[Bl (by omega) (by omega)];omega
  have hlen:(IL (Dh us s) i (r+1)).length=n:=by rw[Xh];omega
  obtain⟨b1,b2,b3,b4⟩:=Rc hu hs i;have es:I U (s:Int)=(s:Nat):=C8 (by omega);have em:min (A (s:Int)) (Am .u32)=s:=by rw[R];show min s 32=s;omega
  have hp:=BE s;rw[hr,e2,<- lL];have hget:∀ v:Int,((IL (Dh us s) i (r+1)).set i v).getD i 0=v:=fun v=>by simp[Z,show i<(IL (Dh us s) i (r+1)).length by omega]
  have efd:d (us.getD i 0) (2^s)=us.getD i 0 / 2^s:=t _ (by omega);by_cases h0:s=0
  ·subst h0;have k2:=yI k us (n:Nat) kq qs n (IL (Dh us 0) i (r+1)) ((0:Nat):Int) (i:Nat) (by simp;omega) (by simp) (by omega) hl (by rw[es];omega) (by omega) hlen;rw[ei,R,es,em,efd] at k2;have e5:Dh us 0 i=us.getD i 0 / 2^0:=by simp[Dh,Int.emod_one]
   rw[e5];exact k2
  ·have e32:I U (I O (32-(s:Int)))=((32-s:Nat):Int):=by rw[Bl (by omega) (by omega),C8 (by omega)];omega
   have em2:min (A ((32-s:Nat):Int)) (Am .u32)=32-s:=by rw[R];show min (32-s) 32=32-s;omega
   have k1:=yH k us (n:Nat) kq qs n (IL (Dh us s) i (r+1)) (s:Int) (i:Nat) (by simp;omega) (by simp;omega) (by omega) hl (by rw[es];omega) (by omega) hlen (by simpa using hlen) (by rw[ei];omega) (by rw[e32];omega);rw[ei,R,R,es,em,e32,em2,efd,hget,RD,DW (us.getD (i+1) 0*2^(32-s))] at k1;have e6:us.getD (i+1) 0*2^(32-s) % 4294967296=us.getD (i+1) 0 % 2^s*2^(32-s):=by
    rw[Q_ (show s<=32 by omega),AA (us.getD (i+1) 0),A5p _ _ (BE (32-s)),AA]
   rw[e6,Aql b2 b3 (by omega) b1] at k1;exact k1
 ·have k3:=yJ k us (n:Nat) kq qs n ((Aq n).map (Dh us s)) (s:Nat) (n:Nat) (by simp);simpa [IL] using k3
theorem Qd{g:Nat->Int}{n:Nat}(h:∀ i,0<=g i/\g i<4294967296):AP ((Aq n).map g):=fun x hx=>by
 obtain⟨i,_,rfl⟩:=Em.1 hx;exact h i
theorem Xi{xs ys:LI}(hx:F1 xs)(hy:F1 ys)(hy0:ys ≠ [])(h1:xs.length<1048576)(h2:ys.length<1048576):∃ qs rs,AP qs/\AP rs/\(qs:LI).length<=1048576/\(rs:LI).length<=1048576/\Ab qs=Ab xs / Ab ys/\Ab rs=Ab xs % Ab ys /\
  RQ 180 [sL lm xs,sL lm ys] (Ax [sL lm qs,sL lm rs]):=by
 have hyl:=An.2 hy0;have hcmp:=Jd hx hy (by omega);have hx0:=AZ hx.1;have hyp:=IG hy hy0;by_cases hlt:Ab xs<Ab ys
 ·refine⟨[],xs,fun x h=>(nomatch h),hx.1,by simp,by omega,?_,?_,?_⟩
  ·rw[GK hx0 hlt];rfl
  ·rw[Gh hx0 hlt]
  ·exact kZ xs ys _ (by unfold CI;rw[if_pos hlt];rfl) (Ui xs) (by omega) hcmp
 have hcm:decide (CI (Ab xs) (Ab ys)<0)=false:=by unfold CI;rw[if_neg hlt];split <;> rfl
 by_cases hone:ys.length=1
 ·obtain⟨y,rfl⟩:=A2p.1 hone;have e1:Ab [y]=y:=by simp[Ab]
  rw[e1] at hyp;have hyb:=hy.1 y (by simp);obtain⟨qs,r,q1,q2,q3,q4,q5⟩:=Xg hx.1 (d:=y) ⟨hyp,hyb.2⟩ (by omega);have e2:Ab [r]=r:=by simp[Ab]
  have hd:=(L4 hyp (a:=Ab xs) (r:=r) (q:=Ab qs)).2 ⟨by omega,q3.1,q3.2⟩;refine⟨qs,[r],q2,fun x h=>by rw[I3.1 h];omega,by omega,by simp,by rw[e1];exact hd.1.symm,by rw[e1,e2];exact hd.2.symm,?_⟩;exact lA xs [y] qs _ r hcm (by rfl) hcmp (by simp) q5
 ·obtain⟨m,hm⟩:∃ m,ys.length=m+2:=⟨ys.length-2,by omega⟩;have hxl:ys.length<=xs.length:=by
   rcases Cp xs.length ys.length with g | g
   ·exact absurd (IJ hx hy g) hlt
   ·exact g
  have hyt:0<ys.getD (m+1) 0/\ys.getD (m+1) 0<4294967296:=by
   have a:=AG hy.1 (m+1);rcases hy.2 with g | g
   ·exact absurd g hy0
   ·rw[show ys.length-1=m+1 by omega] at g;omega
  obtain⟨s,hs,s1,s2,hlz⟩:=sF hyt;obtain⟨us,u1,u2,u3,hus⟩:=Rb hx.1 hs h1;obtain⟨ws,w1,w2,w3,hws⟩:=Rb hy.1 hs h2;have hp:=BE s;have ysplit:=Dq ys (j:=m+1) (by omega);have yd:=C5 ys (m+1);rw[DQ (xs:=ys) (i:=m+1+1) (by omega),AM,B5] at yd;rw[yd] at ysplit;have ylo:=Ge hy.1 (m+1);have ylo0:=AZ (DS hy.1 (m+1));have hP:=Cy (m+1);have hV1:2147483648*4294967296^(m+1)<=Ab ws:=by
   rw[w3,ysplit];have a:=Ae s1 (show (0:Int)<=4294967296^(m+1) by omega);have b:=A6 (show (0:Int)<=2^s by omega) ylo0;have e:2^s*(Ab (B3 (m+1) ys)+4294967296^(m+1)*ys.getD (m+1) 0)=2^s*Ab (B3 (m+1) ys)+ys.getD (m+1) 0*2^s*4294967296^(m+1):=by grind
   omega
  have hV2:Ab ws<4294967296^(m+2):=by
   have e9:(4294967296:Int)^(m+2)=4294967296^(m+1)*4294967296:=A2 _ _;rw[w3,ysplit];have e0:=Q_ (show s<=32 by omega);have a1:ys.getD (m+1) 0+1<=2^(32-s):=by
    rw[e0] at s2;have:=Gi s2 (by omega);omega
   have a2:=Ae a1 (show (0:Int)<=2^s*4294967296^(m+1) by have:=BL hp hP;omega);have a3:=JS ylo hp;have e1:(ys.getD (m+1) 0+1)*(2^s*4294967296^(m+1))=2^s*(4294967296^(m+1)*ys.getD (m+1) 0)+2^s*4294967296^(m+1):=by grind
   have e2:(2:Int)^(32-s)*(2^s*4294967296^(m+1))=4294967296^(m+1)*4294967296:=by rw[<- AH,<- e0,AA]
   rw[CW];omega
  have hdz:=Jv w2 (n:=m+2) (V:=4294967296^(m+2)) (Dz _) hV2;have hvs:Ab (ws.take (m+2))=Ab ws:=by
   have:=Dq ws (j:=m+2) (by omega);rw[hdz,AM,B5] at this;exact this.symm
  have hvl:(ws.take (m+2)).length=m+2:=by simp;omega
  have hvu:=DS w2 (m+2);generalize hvv:ws.take (m+2)=vs at *
  have hvtop:2147483648<=vs.getD (m+1) 0:=by
   have a:=Dq vs (j:=m+1) (by omega);have b:=C5 vs (m+1);rw[DQ (xs:=vs) (i:=m+1+1) (by omega),AM,B5] at b;rw[b] at a;have c:=Ge hvu (m+1);apply KD.1;intro h;have:=Ak (show vs.getD (m+1) 0+1<=2147483648 by omega) (show (0:Int)<=4294967296^(m+1) by omega);rw[CW,Dn,AA _ 2147483648] at this;omega
  have hini:Ab (us.drop (xs.length-ys.length+1))<Ab vs:=by
   have a:=Dq us (j:=xs.length-ys.length+1) (by omega);have b:=AZ (DS u2 (xs.length-ys.length+1));have c:=DI hx.1;have d:=JS c hp;have e:(4294967296:Int)^xs.length=4294967296^(xs.length-ys.length+1)*4294967296^(m+1):=by rw[<- BB];congr 1;omega
   have hp2:(2:Int)^s<=2147483648:=by
    have:=G5 (show s<=31 by omega);rwa [show (2:Int)^31=2147483648 by decide] at this
   have hQ:=Cy (xs.length-ys.length+1);rw[hvs];apply jA (b:=2^s*4294967296^(m+1))
   ·apply Fj (a:=4294967296^(xs.length-ys.length+1)) _ (by omega);have e2:(4294967296:Int)^(xs.length-ys.length+1)*(2^s*4294967296^(m+1))=2^s*4294967296^xs.length:=by rw[e];grind
    omega
   ·have:=Ae hp2 (show (0:Int)<=4294967296^(m+1) by omega);omega
  obtain⟨us',qs,l1,l2,l3,l4,l5,l6,l7⟩:=yM (k:=xs.length+1) (kq:=xs.length-ys.length+1) (s:=(s:Nat)) hvu hvl hvtop (by omega) (by omega) (xs.length-ys.length+1) us (Av (xs.length-ys.length+1) 0) (Ap _) u1 u2 (by simp) (ES _) (fun t _=>DA _ _) hini;have l8:=lM (us:=us') (k:=xs.length+1) (n:=m+2) (kq:=xs.length-ys.length+1) (qs:=qs) l3 l2 (by omega) (by omega) hs;rw[EG,EY,u3,hvs,w3] at l7;rw[hvs] at l6;have hR:Ab us'=2^s*(Ab xs-Ab ys*Ab qs):=by
   rw[Hu];have:2^s*Ab ys*Ab qs=2^s*(Ab ys*Ab qs):=by grind
   omega
  have us0:=AZ l3;have hR0:0<=Ab xs-Ab ys*Ab qs:=by
   apply KD.1;intro h;have:=Ak (show Ab xs-Ab ys*Ab qs <= -1 by omega) (show (0:Int)<=2^s by omega);omega
  have hR1:Ab xs-Ab ys*Ab qs<Ab ys:=by
   rw[hR,w3] at l6;exact Fj l6 (by omega)
  have hrs:Ab ((Aq (m+2)).map (Dh us' s))=Ab xs-Ab ys*Ab qs:=by
   have a:=dR (us:=us') s hs (m+2) (by omega);have b:us'.getD 0 0 % 2^s=0:=by
    have c:=C5 us' 0;rw[Fe,B_,hR] at c;have e0:=Q_ (show s<=32 by omega);have:us'.getD 0 0=2^s*(Ab xs-Ab ys*Ab qs-2^(32-s)*Ab (us'.drop 1)):=by rw[Hu,<- AH,AA (2^s) (2^(32-s)),<- e0];omega
    rw[this];exact Int.mul_emod_right _ _
   have dz:=Jv l3 (n:=m+2) (V:=Ab ws) (by omega) l6;have c2:us'.getD (m+2) 0=0:=by
    have c:=C5 us' (m+2);rw[dz] at c;have d1:=AZ (Fg l3 (m+2+1));have d2:=AG l3 (m+2);omega
   have d:=Dq us' (j:=m+2) (by omega);rw[dz,AM,B5] at d;rw[b,c2,<- d,hR,Int.zero_emod,AM,EY,B5] at a;exact I2 (by omega) a
  have hd:=(L4 hyp (a:=Ab xs) (r:=Ab xs-Ab ys*Ab qs) (q:=Ab qs)).2 ⟨by omega,hR0,hR1⟩;have e1:I O ((ys.length:Int)-1)=((m+1:Nat):Int):=by rw[Bl (by omega) (by omega)];omega
  have e2:I O ((ys.length:Int)-2)=(m:Int):=by rw[Bl (by omega) (by omega)];omega
  have e3:I O ((xs.length:Int)-(ys.length:Int))=((xs.length-ys.length:Nat):Int):=by rw[Bl (by omega) (by omega)];omega
  have e4:I O (((xs.length-ys.length:Nat):Int)+1)=((xs.length-ys.length+1:Nat):Int):=by rw[Bl (by omega) (by omega)];omega
  have hlv:vs.length=ys.length:=by omega
  have hvv2:ws.take ys.length=vs:=by rw[hm];exact hvv
  have v1:=AG hvu (m+1);have v2:=AG hvu m;refine⟨qs,(Aq (m+2)).map (Dh us' s),l5,Qd (fun i=>(Rc l3 hs i).2.2.2),by omega,by simp;omega,hd.1.symm,by rw[hrs];exact hd.2.symm,?_⟩;have hl11:Ar (.loop MG) (H0 us.length us vs (vs.length:Nat) (vs.getD (m+1) 0) (vs.getD m 0) (xs.length-ys.length+1) (Av (xs.length-ys.length+1) 0) (s:Nat) ((xs.length-ys.length:Nat):Int)) (.exit 0) (H0 us.length us' vs (vs.length:Nat) (vs.getD (m+1) 0) (vs.getD m 0) (xs.length-ys.length+1) qs (s:Nat) (-1)):=by
   rw[u1];refine l1.to ?_ rfl;congr 1;omega
  have h:=lB xs ys us ws us' vs qs ((Aq (m+2)).map (Dh us' s)) _ (s:Nat) (vs.length:Nat) (vs.getD (m+1) 0) (vs.getD m 0) (-1) us.length (xs.length-ys.length+1) (m+2) hcm (by rw[hm,beq_eq_false_iff_ne];omega) hcmp (by rw[e1];omega) (by rw[e1,R];exact hlz) (by omega) (by rw[R];exact⟨by omega,by omega,Ap _,fun _=>rfl⟩) hus hws (by rw[e3,e4];omega) (by rw[e1,R];omega) (by rw[e2,R];omega)
   (by
    rw[e1,e2,e3,e4,R,R,R,R,Fc,Yg,Fe,JV,hvv2,C8 (n:=vs.getD (m+1) 0) (by omega),C8 (n:=vs.getD m 0) (by omega)];unfold H0 at hl11 |-;unfold sL at hl11 |-;rw[hlv] at hl11 |-;exact hl11)
   (by omega) (by
    rw[hvl,R,Fc,u1];exact l8)
  unfold sL;rw[show qs.length=xs.length-ys.length+1 from l4,show ((Aq (m+2)).map (Dh us' s)).length=m+2 by simp];exact h
def TQD:Cn:=TQC
theorem lN:Ca AY TQD:=lJ
def D6(neg:Bool)(xs:LI)(sh:Int)(ms:LI)(lost:Bool)(i:Int):Al:=(Y 1 (C (F O sh)::(g [D neg,sL lm xs]::(Y 1 (g [D false,H 0 []]::(C (sL lm ms)::(X 1 0 []::(C (D lost)::(C (F O i)::(Y 95 []))))))))))
theorem yN(neg:Bool)(xs:LI)(sh:Int)(ms:LI)(lost:Bool)(i:Int)(c1:B (i<(ms.length:Int))=true)(c2:B (i<(I O (Aw sh 32)))=true)(c3:(lost)=true):Ar Gs (D6 neg xs sh ms lost i) .norm (D6 neg xs sh ms true (I O (i+1))):=(G f 400 [.b true,.b true,.b true] [1,2,4,5,6,7,8] (S c1 (S FP (S c2 (S c3 a0)))))
theorem yO(neg:Bool)(xs:LI)(sh:Int)(ms:LI)(lost:Bool)(i:Int)(c1:B (i<(ms.length:Int))=true)(c2:B (i<(I O (Aw sh 32)))=true)(c3:(lost)=false)(n1:0<=i/\i<(ms.length:Int)):Ar Gs (D6 neg xs sh ms lost i) .norm (D6 neg xs sh ms ((ms.getD (A i) 0) != 0) (I O (i+1))):=(G f 400 [.b true,.b true,.b false,.v (F Ac (ms.getD (A i) 0))] [1,2,4,5,6,7,8] (S c1 (S FP (S c2 (S c3 (S n1 (S (y n1) a0)))))))
theorem yP(neg:Bool)(xs:LI)(sh:Int)(ms:LI)(lost:Bool)(i:Int)(c1:B (i<(ms.length:Int))=true)(c2:B (i<(I O (Aw sh 32)))=false):Ar Gs (D6 neg xs sh ms lost i) (.exit 0) (D6 neg xs sh ms lost i):=(G f 400 [.b true,.b false] [1,2,4,5,6,7,8] (S c1 (S FP (S c2 a0))))
theorem yQ(neg:Bool)(xs:LI)(sh:Int)(ms:LI)(lost:Bool)(i:Int)(c1:B (i<(ms.length:Int))=false):Ar Gs (D6 neg xs sh ms lost i) (.exit 0) (D6 neg xs sh ms lost i):=(G f 400 [.b false,.b false] [1,2,4,5,6,7,8] (S c1 (S EI a0)))
def Dl(neg:Bool)(xs:LI)(sh:Int)(ms:LI)(n:Nat)(cs:List AV)(lost:Bool)(s:Int)(i:Int):Al:=(Y 1 (C (F O sh)::(g [D neg,sL lm xs]::(Y 1 (g [D false,H 0 []]::(C (sL lm ms)::(X 1 n cs::(C (D lost)::(Y 1 (C (F U s)::(C (F O i)::(Y 93 []))))))))))))
theorem yR(neg:Bool)(xs:LI)(sh:Int)(ms:LI)(n:Nat)(cs:List AV)(lost:Bool)(s:Int)(i:Int)(c1:B (i<(ms.length:Int))=true)(c2:B ((I O (i+1))<(ms.length:Int))=true)(n1:0<=i/\i<(ms.length:Int))(n2:0<=(I O (i+1))/\(I O (i+1))<(ms.length:Int))(n3:¬ s<0)(n4:n+1<=35184372088832):Ar FU (Dl neg xs sh ms n cs lost s i) .norm (Dl neg xs sh ms (n+1) (cs++([F Ac (I Ac (d (I U ((T (Am .u64) (I U (ms.getD (A i) 0)) ||| T (Am .u64) (I U ((I U (ms.getD (A (I O (i+1))) 0))*2^(min (A 32) (Am .u64))))).toNat)) (2^(min (A s) (Am .u64)))))]:List AV)) lost s (I O (i+1))):=(G f 400 [.b true,.v (F Ac (ms.getD (A i) 0)),.b true,.v (F Ac (ms.getD (A (I O (i+1))) 0))] [1,2,4,5,6,7,9,10] (S c1 (S n1 (S (y n1) (S c2 (S n2 (S (y n2) (S Ie (S n3 (S (show Bh ([F Ac (I Ac (d (I U ((T (Am .u64) (I U (ms.getD (A i) 0)) ||| T (Am .u64) (I U ((I U (ms.getD (A (I O (i+1))) 0))*2^(min (A 32) (Am .u64))))).toNat)) (2^(min (A s) (Am .u64)))))]:List AV)=1*1 from rfl) (S n4 a0)))))))))))
theorem yS(neg:Bool)(xs:LI)(sh:Int)(ms:LI)(n:Nat)(cs:List AV)(lost:Bool)(s:Int)(i:Int)(c1:B (i<(ms.length:Int))=true)(c2:B ((I O (i+1))<(ms.length:Int))=false)(n1:0<=i/\i<(ms.length:Int))(n2:¬ s<0)(n3:n+1<=35184372088832):Ar FU (Dl neg xs sh ms n cs lost s i) .norm (Dl neg xs sh ms (n+1) (cs++([F Ac (I Ac (d (I U (ms.getD (A i) 0)) (2^(min (A s) (Am .u64)))))]:List AV)) lost s (I O (i+1))):=(G f 400 [.b true,.v (F Ac (ms.getD (A i) 0)),.b false] [1,2,4,5,6,7,9,10] (S c1 (S n1 (S (y n1) (S c2 (S n2 (S (show Bh ([F Ac (I Ac (d (I U (ms.getD (A i) 0)) (2^(min (A s) (Am .u64)))))]:List AV)=1*1 from rfl) (S n3 a0))))))))
theorem Yo(neg:Bool)(xs:LI)(sh:Int)(ms:LI)(n:Nat)(cs:List AV)(lost:Bool)(s:Int)(i:Int)(c1:B (i<(ms.length:Int))=false):Ar FU (Dl neg xs sh ms n cs lost s i) (.exit 2) (Dl neg xs sh ms n cs lost s i):=(G f 400 [.b false] [1,2,4,5,6,7,9,10] (S c1 a0))
theorem lO(neg lost:Bool)(xs:LI)(sh i1:Int)(n:Nat)(cs:List AV)(i2 v w:Int)(c1:(B ((I O (Aw sh 32))<(((Aa xs).length:Nat):Int)))=true)(c2:(lost)=true)(c3:(neg)=true)(n1:RQ 99 [sL lm xs] (L 1 ((Aa xs).length) (lm (Aa xs))))(hl2:Ar (.loop Gs) (D6 neg xs sh (Aa xs) false 0) (.exit 0) (D6 neg xs sh (Aa xs) lost i1))(hl3:Ar (.loop FU) (Dl neg xs sh (Aa xs) 0 ([]:List AV) lost (I U (AD sh 32)) (I O (Aw sh 32))) (.exit 2) (Dl neg xs sh (Aa xs) n cs lost (I U (AD sh 32)) i2))(n4:RQ 98 [D neg,H n cs] (CD v))(n5:RQ 49 [F O 1] (Ah 1))(n6:RQ 129 [Ah v,Ah 1] (Ah w)):RQ 128 [o [D neg,sL lm xs],F O sh] (Ah w):=A8 JB (Y 4 (g [D (B (w<0)),H ((M (E w)).length) (lm (M (E w)))]::(Y 99 []))) (W (W (W (q (Cv.seq (G f 400 [.r (L 1 ((Aa xs).length) (lm (Aa xs)))] [1,2,4,5,6,7,8] (S n1 a0)) (Cv.seq (Cv.block hl2) (q (Cv.seq (G f 400 [] [1,2,4,5,6,7,9,10] (S FP (S FP a0))) (Cv.seq (Cv.block hl3) (G f 400 [.b true,.b true,.r (CD v),.b true,.b true,.r (Ah 1),.r (Ah w)] [4] (S FP (S c1 (S c2 (S n4 (S c3 (S Ip (S n5 (S n6 a0))))))))))))))))))
theorem lP(neg lost:Bool)(xs:LI)(sh i1:Int)(n:Nat)(cs:List AV)(i2 v:Int)(c1:(B ((I O (Aw sh 32))<(((Aa xs).length:Nat):Int)))=true)(c2:(lost)=true)(c3:(neg)=false)(n1:RQ 99 [sL lm xs] (L 1 ((Aa xs).length) (lm (Aa xs))))(hl2:Ar (.loop Gs) (D6 neg xs sh (Aa xs) false 0) (.exit 0) (D6 neg xs sh (Aa xs) lost i1))(hl3:Ar (.loop FU) (Dl neg xs sh (Aa xs) 0 ([]:List AV) lost (I U (AD sh 32)) (I O (Aw sh 32))) (.exit 2) (Dl neg xs sh (Aa xs) n cs lost (I U (AD sh 32)) i2))(n4:RQ 98 [D neg,H n cs] (CD v)):RQ 128 [o [D neg,sL lm xs],F O sh] (Ah v):=A8 JB (Y 4 (g [D (B (v<0)),H ((M (E v)).length) (lm (M (E v)))]::(Y 99 []))) (W (W (W (q (Cv.seq (G f 400 [.r (L 1 ((Aa xs).length) (lm (Aa xs)))] [1,2,4,5,6,7,8] (S n1 a0)) (Cv.seq (Cv.block hl2) (q (Cv.seq (G f 400 [] [1,2,4,5,6,7,9,10] (S FP (S FP a0))) (Cv.seq (Cv.block hl3) (G f 400 [.b true,.b true,.r (CD v),.b false,.b false] [4] (S FP (S c1 (S c2 (S n4 (S c3 (S EI a0))))))))))))))))
theorem lQ(neg lost:Bool)(xs:LI)(sh i1:Int)(n:Nat)(cs:List AV)(i2 v w:Int)(c1:(B ((I O (Aw sh 32))<(((Aa xs).length:Nat):Int)))=true)(c2:(lost)=false)(c3:(neg)=true)(c4:((I Ac ((T (Am .u32) ((Aa xs).getD (A (I O (Aw sh 32))) 0) &&& T (Am .u32) (I Ac ((I Ac (1*2^(min (A (I U (AD sh 32))) (Am .u32))))-1))).toNat)) != 0)=true)(n1:RQ 99 [sL lm xs] (L 1 ((Aa xs).length) (lm (Aa xs))))(hl2:Ar (.loop Gs) (D6 neg xs sh (Aa xs) false 0) (.exit 0) (D6 neg xs sh (Aa xs) lost i1))(hl3:Ar (.loop FU) (Dl neg xs sh (Aa xs) 0 ([]:List AV) lost (I U (AD sh 32)) (I O (Aw sh 32))) (.exit 2) (Dl neg xs sh (Aa xs) n cs lost (I U (AD sh 32)) i2))(n4:0<=(I O (Aw sh 32))/\(I O (Aw sh 32))<(((Aa xs).length:Nat):Int))(n5:¬ (I U (AD sh 32))<0)(n6:RQ 98 [D neg,H n cs] (CD v))(n7:RQ 49 [F O 1] (Ah 1))(n8:RQ 129 [Ah v,Ah 1] (Ah w)):RQ 128 [o [D neg,sL lm xs],F O sh] (Ah w):=A8 JB (Y 4 (g [D (B (w<0)),H ((M (E w)).length) (lm (M (E w)))]::(Y 99 []))) (W (W (W (q (Cv.seq (G f 400 [.r (L 1 ((Aa xs).length) (lm (Aa xs)))] [1,2,4,5,6,7,8] (S n1 a0)) (Cv.seq (Cv.block hl2) (q (Cv.seq (G f 400 [] [1,2,4,5,6,7,9,10] (S FP (S FP a0))) (Cv.seq (Cv.block hl3) (G f 400 [.b true,.b false,.v (F Ac ((Aa xs).getD (A (I O (Aw sh 32))) 0)),.r (CD v),.b true,.b true,.r (Ah 1),.r (Ah w)] [4] (S FP (S c1 (S c2 (S FP (S n4 (S (y n4) (S n5 (S n6 (S c3 (S c4 (S n7 (S n8 a0))))))))))))))))))))))
theorem lR(neg lost:Bool)(xs:LI)(sh i1:Int)(n:Nat)(cs:List AV)(i2 v:Int)(c1:(B ((I O (Aw sh 32))<(((Aa xs).length:Nat):Int)))=true)(c2:(lost)=false)(c3:(neg)=true)(c4:((I Ac ((T (Am .u32) ((Aa xs).getD (A (I O (Aw sh 32))) 0) &&& T (Am .u32) (I Ac ((I Ac (1*2^(min (A (I U (AD sh 32))) (Am .u32))))-1))).toNat)) != 0)=false)(n1:RQ 99 [sL lm xs] (L 1 ((Aa xs).length) (lm (Aa xs))))(hl2:Ar (.loop Gs) (D6 neg xs sh (Aa xs) false 0) (.exit 0) (D6 neg xs sh (Aa xs) lost i1))(hl3:Ar (.loop FU) (Dl neg xs sh (Aa xs) 0 ([]:List AV) lost (I U (AD sh 32)) (I O (Aw sh 32))) (.exit 2) (Dl neg xs sh (Aa xs) n cs lost (I U (AD sh 32)) i2))(n4:0<=(I O (Aw sh 32))/\(I O (Aw sh 32))<(((Aa xs).length:Nat):Int))(n5:¬ (I U (AD sh 32))<0)(n6:RQ 98 [D neg,H n cs] (CD v)):RQ 128 [o [D neg,sL lm xs],F O sh] (Ah v):=A8 JB (Y 4 (g [D (B (v<0)),H ((M (E v)).length) (lm (M (E v)))]::(Y 99 []))) (W (W (W (q (Cv.seq (G f 400 [.r (L 1 ((Aa xs).length) (lm (Aa xs)))] [1,2,4,5,6,7,8] (S n1 a0)) (Cv.seq (Cv.block hl2) (q (Cv.seq (G f 400 [] [1,2,4,5,6,7,9,10] (S FP (S FP a0))) (Cv.seq (Cv.block hl3) (G f 400 [.b true,.b false,.v (F Ac ((Aa xs).getD (A (I O (Aw sh 32))) 0)),.r (CD v),.b true,.b false] [4] (S FP (S c1 (S c2 (S FP (S n4 (S (y n4) (S n5 (S n6 (S c3 (S c4 a0))))))))))))))))))))
theorem lS(neg lost:Bool)(xs:LI)(sh i1:Int)(n:Nat)(cs:List AV)(i2 v:Int)(c1:(B ((I O (Aw sh 32))<(((Aa xs).length:Nat):Int)))=true)(c2:(lost)=false)(c3:(neg)=false)(n1:RQ 99 [sL lm xs] (L 1 ((Aa xs).length) (lm (Aa xs))))(hl2:Ar (.loop Gs) (D6 neg xs sh (Aa xs) false 0) (.exit 0) (D6 neg xs sh (Aa xs) lost i1))(hl3:Ar (.loop FU) (Dl neg xs sh (Aa xs) 0 ([]:List AV) lost (I U (AD sh 32)) (I O (Aw sh 32))) (.exit 2) (Dl neg xs sh (Aa xs) n cs lost (I U (AD sh 32)) i2))(n4:0<=(I O (Aw sh 32))/\(I O (Aw sh 32))<(((Aa xs).length:Nat):Int))(n5:¬ (I U (AD sh 32))<0)(n6:RQ 98 [D neg,H n cs] (CD v)):RQ 128 [o [D neg,sL lm xs],F O sh] (Ah v):=A8 JB (Y 4 (g [D (B (v<0)),H ((M (E v)).length) (lm (M (E v)))]::(Y 99 []))) (W (W (W (q (Cv.seq (G f 400 [.r (L 1 ((Aa xs).length) (lm (Aa xs)))] [1,2,4,5,6,7,8] (S n1 a0)) (Cv.seq (Cv.block hl2) (q (Cv.seq (G f 400 [] [1,2,4,5,6,7,9,10] (S FP (S FP a0))) (Cv.seq (Cv.block hl3) (G f 400 [.b true,.b false,.v (F Ac ((Aa xs).getD (A (I O (Aw sh 32))) 0)),.r (CD v),.b false,.b false] [4] (S FP (S c1 (S c2 (S FP (S n4 (S (y n4) (S n5 (S n6 (S c3 (S EI a0))))))))))))))))))))
theorem lT(neg lost:Bool)(xs:LI)(sh i1:Int)(n:Nat)(cs:List AV)(i2 v w:Int)(c1:(B ((I O (Aw sh 32))<(((Aa xs).length:Nat):Int)))=false)(c2:(neg)=true)(c3:(lost)=true)(n1:RQ 99 [sL lm xs] (L 1 ((Aa xs).length) (lm (Aa xs))))(hl2:Ar (.loop Gs) (D6 neg xs sh (Aa xs) false 0) (.exit 0) (D6 neg xs sh (Aa xs) lost i1))(hl3:Ar (.loop FU) (Dl neg xs sh (Aa xs) 0 ([]:List AV) lost (I U (AD sh 32)) (I O (Aw sh 32))) (.exit 2) (Dl neg xs sh (Aa xs) n cs lost (I U (AD sh 32)) i2))(n4:RQ 98 [D neg,H n cs] (CD v))(n5:RQ 49 [F O 1] (Ah 1))(n6:RQ 129 [Ah v,Ah 1] (Ah w)):RQ 128 [o [D neg,sL lm xs],F O sh] (Ah w):=A8 JB (Y 4 (g [D (B (w<0)),H ((M (E w)).length) (lm (M (E w)))]::(Y 99 []))) (W (W (W (q (Cv.seq (G f 400 [.r (L 1 ((Aa xs).length) (lm (Aa xs)))] [1,2,4,5,6,7,8] (S n1 a0)) (Cv.seq (Cv.block hl2) (q (Cv.seq (G f 400 [] [1,2,4,5,6,7,9,10] (S FP (S FP a0))) (Cv.seq (Cv.block hl3) (G f 400 [.b false,.r (CD v),.b true,.b true,.r (Ah 1),.r (Ah w)] [4] (S FP (S c1 (S n4 (S c2 (S c3 (S n5 (S n6 a0)))))))))))))))))
theorem lW(neg lost:Bool)(xs:LI)(sh i1:Int)(n:Nat)(cs:List AV)(i2 v:Int)(c1:(B ((I O (Aw sh 32))<(((Aa xs).length:Nat):Int)))=false)(c2:(neg)=true)(c3:(lost)=false)(n1:RQ 99 [sL lm xs] (L 1 ((Aa xs).length) (lm (Aa xs))))(hl2:Ar (.loop Gs) (D6 neg xs sh (Aa xs) false 0) (.exit 0) (D6 neg xs sh (Aa xs) lost i1))(hl3:Ar (.loop FU) (Dl neg xs sh (Aa xs) 0 ([]:List AV) lost (I U (AD sh 32)) (I O (Aw sh 32))) (.exit 2) (Dl neg xs sh (Aa xs) n cs lost (I U (AD sh 32)) i2))(n4:RQ 98 [D neg,H n cs] (CD v)):RQ 128 [o [D neg,sL lm xs],F O sh] (Ah v):=A8 JB (Y 4 (g [D (B (v<0)),H ((M (E v)).length) (lm (M (E v)))]::(Y 99 []))) (W (W (W (q (Cv.seq (G f 400 [.r (L 1 ((Aa xs).length) (lm (Aa xs)))] [1,2,4,5,6,7,8] (S n1 a0)) (Cv.seq (Cv.block hl2) (q (Cv.seq (G f 400 [] [1,2,4,5,6,7,9,10] (S FP (S FP a0))) (Cv.seq (Cv.block hl3) (G f 400 [.b false,.r (CD v),.b true,.b false] [4] (S FP (S c1 (S n4 (S c2 (S c3 a0)))))))))))))))
theorem lX(neg lost:Bool)(xs:LI)(sh i1:Int)(n:Nat)(cs:List AV)(i2 v:Int)(c1:(B ((I O (Aw sh 32))<(((Aa xs).length:Nat):Int)))=false)(c2:(neg)=false)(n1:RQ 99 [sL lm xs] (L 1 ((Aa xs).length) (lm (Aa xs))))(hl2:Ar (.loop Gs) (D6 neg xs sh (Aa xs) false 0) (.exit 0) (D6 neg xs sh (Aa xs) lost i1))(hl3:Ar (.loop FU) (Dl neg xs sh (Aa xs) 0 ([]:List AV) lost (I U (AD sh 32)) (I O (Aw sh 32))) (.exit 2) (Dl neg xs sh (Aa xs) n cs lost (I U (AD sh 32)) i2))(n4:RQ 98 [D neg,H n cs] (CD v)):RQ 128 [o [D neg,sL lm xs],F O sh] (Ah v):=A8 JB (Y 4 (g [D (B (v<0)),H ((M (E v)).length) (lm (M (E v)))]::(Y 99 []))) (W (W (W (q (Cv.seq (G f 400 [.r (L 1 ((Aa xs).length) (lm (Aa xs)))] [1,2,4,5,6,7,8] (S n1 a0)) (Cv.seq (Cv.block hl2) (q (Cv.seq (G f 400 [] [1,2,4,5,6,7,9,10] (S FP (S FP a0))) (Cv.seq (Cv.block hl3) (G f 400 [.b false,.r (CD v),.b false,.b false] [4] (S FP (S c1 (S n4 (S c2 (S EI a0)))))))))))))))
def MW(xs:LI)(ys:LI)(k:Nat)(qs:LI)(r:Int)(i:Int):Al:=(C (sL lm xs)::(C (sL lm ys)::(Y 2 (X 1 0 []::(X 1 0 []::(X 1 k (lm qs)::(C (F U r)::(C (F O i)::(Y 298 [])))))))))
theorem yT(xs:LI)(ys:LI)(k:Nat)(qs:LI)(r:Int)(i:Int)(c1:B (i>=0)=true)(n1:0<=i/\i<(xs.length:Int))(n2:0<=(0:Int)/\(0:Int)<(ys.length:Int))(n3:¬ (I U (ys.getD (A 0) 0))=0)(n4:0<=i/\i<(k:Int))(n5:qs.length=k):Ar QP (MW xs ys k qs r i) .norm (MW xs ys k (qs.set (A i) (I Ac (I U (Aw (I U ((T (Am .u64) (I U (r*2^(min (A 32) (Am .u64)))) ||| T (Am .u64) (I U (xs.getD (A i) 0))).toNat)) (I U (ys.getD (A 0) 0)))))) (AD (I U ((T (Am .u64) (I U (r*2^(min (A 32) (Am .u64)))) ||| T (Am .u64) (I U (xs.getD (A i) 0))).toNat)) (I U (ys.getD (A 0) 0))) (I O (i-1))):=(G f 400 [.b true,.v (F Ac (xs.getD (A i) 0)),.v (F Ac (ys.getD (A 0) 0)),.l (lm (qs.set (A i) (I Ac (I U (Aw (I U ((T (Am .u64) (I U (r*2^(min (A 32) (Am .u64)))) ||| T (Am .u64) (I U (xs.getD (A i) 0))).toNat)) (I U (ys.getD (A 0) 0))))))),.v (F Ac (ys.getD (A 0) 0))] [0,1,4,5,6,7,8] (S c1 (S Ie (S n1 (S (y n1) (S n2 (S (y n2) (S n3 (S n4 (S (show C4 (lm qs) (A i*1) [F Ac (I Ac (I U (Aw (I U ((T (Am .u64) (I U (r*2^(min (A 32) (Am .u64)))) ||| T (Am .u64) (I U (xs.getD (A i) 0))).toNat)) (I U (ys.getD (A 0) 0)))))]=some (lm (qs.set (A i) (I Ac (I U (Aw (I U ((T (Am .u64) (I U (r*2^(min (A 32) (Am .u64)))) ||| T (Am .u64) (I U (xs.getD (A i) 0))).toNat)) (I U (ys.getD (A 0) 0))))))) from (CY n5 n4)) (S n2 (S (y n2) (S n3 a0)))))))))))))
theorem yU(xs:LI)(ys:LI)(k:Nat)(qs:LI)(r:Int)(i:Int)(c1:B (i>=0)=false):Ar QP (MW xs ys k qs r i) (.exit 0) (MW xs ys k qs r i):=(G f 400 [.b false] [0,1,4,5,6,7,8] (S c1 a0))
def Li(xs:LI)(ys:LI)(s:Int):Al:=(C (sL lm xs)::(C (sL lm ys)::(Y 2 (X 1 0 []::(X 1 0 []::(Y 3 (C (F O s)::(Y 297 []))))))))
theorem yV(xs:LI)(ys:LI)(s:Int)(c1:((I Ac ((T (Am .u32) (I Ac ((ys.getD (A (I O ((ys.length:Int)-1))) 0)*2^(min (A (I U s)) (Am .u32)))) &&& T (Am .u32) 2147483648).toNat))==0)=true)(n1:0<=(I O ((ys.length:Int)-1))/\(I O ((ys.length:Int)-1))<(ys.length:Int))(n2:¬ (I U s)<0):Ar QO (Li xs ys s) .norm (Li xs ys (I O (s+1))):=(G f 400 [.v (F Ac (ys.getD (A (I O ((ys.length:Int)-1))) 0)),.b true] [0,1,4,5,9] (S n1 (S (y n1) (S n2 (S c1 a0)))))
theorem yW(xs:LI)(ys:LI)(s:Int)(c1:((I Ac ((T (Am .u32) (I Ac ((ys.getD (A (I O ((ys.length:Int)-1))) 0)*2^(min (A (I U s)) (Am .u32)))) &&& T (Am .u32) 2147483648).toNat))==0)=false)(n1:0<=(I O ((ys.length:Int)-1))/\(I O ((ys.length:Int)-1))<(ys.length:Int))(n2:¬ (I U s)<0):Ar QO (Li xs ys s) (.exit 2) (Li xs ys s):=(G f 400 [.v (F Ac (ys.getD (A (I O ((ys.length:Int)-1))) 0)),.b false] [0,1,4,5,9] (S n1 (S (y n1) (S n2 (S c1 a0)))))
def Eu(k:Nat)(us:LI)(vs:LI)(n:Int)(kq:Nat)(qs:LI)(s:Int)(j:Int)(g:Int)(r:Int):Al:=(Y 4 (X 1 0 []::(X 1 0 []::(Y 3 (C (F O s)::(C (sL lm vs)::(X 1 k (lm us)::(C (F O n)::(X 1 kq (lm qs)::(C (F O j)::(Y 1 (C (F U g)::(C (F U r)::(Y 289 []))))))))))))))
theorem yX(k:Nat)(us:LI)(vs:LI)(n:Int)(kq:Nat)(qs:LI)(s:Int)(j:Int)(g:Int)(r:Int)(c1:B (g>=4294967296)=true)(c2:(B ((I U (r+(I U (vs.getD (A (I O (n-1))) 0))))>=4294967296))=true)(n1:0<=(I O (n-1))/\(I O (n-1))<(vs.length:Int)):Ar HF (Eu k us vs n kq qs s j g r) (.exit 6) (Eu k us vs n kq qs s j (I U (g-1)) (I U (r+(I U (vs.getD (A (I O (n-1))) 0))))):=(G f 400 [.b true,.b true,.v (F Ac (vs.getD (A (I O (n-1))) 0)),.b true] [4,5,9,10,11,12,13,14,16,17] (S c1 (S Ip (S n1 (S (y n1) (S c2 a0))))))
theorem yY(k:Nat)(us:LI)(vs:LI)(n:Int)(kq:Nat)(qs:LI)(s:Int)(j:Int)(g:Int)(r:Int)(c1:B (g>=4294967296)=true)(c2:(B ((I U (r+(I U (vs.getD (A (I O (n-1))) 0))))>=4294967296))=false)(n1:0<=(I O (n-1))/\(I O (n-1))<(vs.length:Int)):Ar HF (Eu k us vs n kq qs s j g r) .norm (Eu k us vs n kq qs s j (I U (g-1)) (I U (r+(I U (vs.getD (A (I O (n-1))) 0))))):=(G f 400 [.b true,.b true,.v (F Ac (vs.getD (A (I O (n-1))) 0)),.b false] [4,5,9,10,11,12,13,14,16,17] (S c1 (S Ip (S n1 (S (y n1) (S c2 a0))))))
theorem yZ(k:Nat)(us:LI)(vs:LI)(n:Int)(kq:Nat)(qs:LI)(s:Int)(j:Int)(g:Int)(r:Int)(c1:B (g>=4294967296)=false)(c2:B (r<4294967296)=true)(c3:(B ((I U (g*(I U (vs.getD (A (I O (n-2))) 0))))>(I U ((T (Am .u64) (I U (r*2^(min (A 32) (Am .u64)))) ||| T (Am .u64) (I U (us.getD (A (I O ((I O (j+n))-2))) 0))).toNat))))=true)(c4:(B ((I U (r+(I U (vs.getD (A (I O (n-1))) 0))))>=4294967296))=true)(n1:0<=(I O (n-2))/\(I O (n-2))<(vs.length:Int))(n2:0<=(I O ((I O (j+n))-2))/\(I O ((I O (j+n))-2))<(k:Int))(n3:us.length=k)(n4:0<=(I O (n-1))/\(I O (n-1))<(vs.length:Int)):Ar HF (Eu k us vs n kq qs s j g r) (.exit 6) (Eu k us vs n kq qs s j (I U (g-1)) (I U (r+(I U (vs.getD (A (I O (n-1))) 0))))):=(G f 400 [.b false,.b true,.v (F Ac (vs.getD (A (I O (n-2))) 0)),.v (F Ac (us.getD (A (I O ((I O (j+n))-2))) 0)),.b false,.b true,.b true,.v (F Ac (vs.getD (A (I O (n-1))) 0)),.b true] [4,5,9,10,11,12,13,14,16,17] (S c1 (S c2 (S n1 (S (y n1) (S Ie (S n2 (S (Ck n3 n2) (S c1 (S c2 (S c3 (S n4 (S (y n4) (S c4 a0))))))))))))))
theorem zA(k:Nat)(us:LI)(vs:LI)(n:Int)(kq:Nat)(qs:LI)(s:Int)(j:Int)(g:Int)(r:Int)(c1:B (g>=4294967296)=false)(c2:B (r<4294967296)=true)(c3:(B ((I U (g*(I U (vs.getD (A (I O (n-2))) 0))))>(I U ((T (Am .u64) (I U (r*2^(min (A 32) (Am .u64)))) ||| T (Am .u64) (I U (us.getD (A (I O ((I O (j+n))-2))) 0))).toNat))))=true)(c4:(B ((I U (r+(I U (vs.getD (A (I O (n-1))) 0))))>=4294967296))=false)(n1:0<=(I O (n-2))/\(I O (n-2))<(vs.length:Int))(n2:0<=(I O ((I O (j+n))-2))/\(I O ((I O (j+n))-2))<(k:Int))(n3:us.length=k)(n4:0<=(I O (n-1))/\(I O (n-1))<(vs.length:Int)):Ar HF (Eu k us vs n kq qs s j g r) .norm (Eu k us vs n kq qs s j (I U (g-1)) (I U (r+(I U (vs.getD (A (I O (n-1))) 0))))):=(G f 400 [.b false,.b true,.v (F Ac (vs.getD (A (I O (n-2))) 0)),.v (F Ac (us.getD (A (I O ((I O (j+n))-2))) 0)),.b false,.b true,.b true,.v (F Ac (vs.getD (A (I O (n-1))) 0)),.b false] [4,5,9,10,11,12,13,14,16,17] (S c1 (S c2 (S n1 (S (y n1) (S Ie (S n2 (S (Ck n3 n2) (S c1 (S c2 (S c3 (S n4 (S (y n4) (S c4 a0))))))))))))))
theorem Yp(k:Nat)(us:LI)(vs:LI)(n:Int)(kq:Nat)(qs:LI)(s:Int)(j:Int)(g:Int)(r:Int)(c1:B (g>=4294967296)=false)(c2:B (r<4294967296)=true)(c3:(B ((I U (g*(I U (vs.getD (A (I O (n-2))) 0))))>(I U ((T (Am .u64) (I U (r*2^(min (A 32) (Am .u64)))) ||| T (Am .u64) (I U (us.getD (A (I O ((I O (j+n))-2))) 0))).toNat))))=false)(n1:0<=(I O (n-2))/\(I O (n-2))<(vs.length:Int))(n2:0<=(I O ((I O (j+n))-2))/\(I O ((I O (j+n))-2))<(k:Int))(n3:us.length=k):Ar HF (Eu k us vs n kq qs s j g r) (.exit 6) (Eu k us vs n kq qs s j g r):=(G f 400 [.b false,.b true,.v (F Ac (vs.getD (A (I O (n-2))) 0)),.v (F Ac (us.getD (A (I O ((I O (j+n))-2))) 0)),.b false,.b true,.b false] [4,5,9,10,11,12,13,14,16,17] (S c1 (S c2 (S n1 (S (y n1) (S Ie (S n2 (S (Ck n3 n2) (S c1 (S c2 (S c3 a0)))))))))))
def Jf(k:Nat)(us:LI)(vs:LI)(n:Int)(kq:Nat)(qs:LI)(s:Int)(j:Int)(g:Int)(b:Int)(c:Int)(i:Int):Al:=(Y 4 (X 1 0 []::(X 1 0 []::(Y 3 (C (F O s)::(C (sL lm vs)::(X 1 k (lm us)::(C (F O n)::(X 1 kq (lm qs)::(C (F O j)::(Y 1 (C (F U g)::(Y 1 (C (F U b)::(C (F U c)::(C (F O i)::(Y 286 [])))))))))))))))))
theorem zB(k:Nat)(us:LI)(vs:LI)(n:Int)(kq:Nat)(qs:LI)(s:Int)(j:Int)(g:Int)(b:Int)(c:Int)(i:Int)(c1:B (i<n)=true)(n1:0<=i/\i<(vs.length:Int))(n2:0<=(I O (i+j))/\(I O (i+j))<(k:Int))(n3:us.length=k):Ar OM (Jf k us vs n kq qs s j g b c i) .norm (Jf k (us.set (A (I O (i+j))) (I Ac (I U ((I U ((I U (us.getD (A (I O (i+j))) 0))-(I U ((T (Am .u64) (I U (c+(I U (g*(I U (vs.getD (A i) 0)))))) &&& T (Am .u64) 4294967295).toNat))))-b)))) vs n kq qs s j g (d (I U ((I U ((I U (us.getD (A (I O (i+j))) 0))-(I U ((T (Am .u64) (I U (c+(I U (g*(I U (vs.getD (A i) 0)))))) &&& T (Am .u64) 4294967295).toNat))))-b)) (2^(min (A 63) (Am .u64)))) (d (I U (c+(I U (g*(I U (vs.getD (A i) 0)))))) (2^(min (A 32) (Am .u64)))) (I O (i+1))):=(G f 400 [.b true,.v (F Ac (vs.getD (A i) 0)),.v (F Ac (us.getD (A (I O (i+j))) 0)),.l (lm (us.set (A (I O (i+j))) (I Ac (I U ((I U ((I U (us.getD (A (I O (i+j))) 0))-(I U ((T (Am .u64) (I U (c+(I U (g*(I U (vs.getD (A i) 0)))))) &&& T (Am .u64) 4294967295).toNat))))-b)))))] [4,5,9,10,11,12,13,14,16,18,19,20] (S c1 (S n1 (S (y n1) (S n2 (S (Ck n3 n2) (S n2 (S (show C4 (lm us) (A (I O (i+j))*1) [F Ac (I Ac (I U ((I U ((I U (us.getD (A (I O (i+j))) 0))-(I U ((T (Am .u64) (I U (c+(I U (g*(I U (vs.getD (A i) 0)))))) &&& T (Am .u64) 4294967295).toNat))))-b)))]=some (lm (us.set (A (I O (i+j))) (I Ac (I U ((I U ((I U (us.getD (A (I O (i+j))) 0))-(I U ((T (Am .u64) (I U (c+(I U (g*(I U (vs.getD (A i) 0)))))) &&& T (Am .u64) 4294967295).toNat))))-b))))) from (CY n3 n2)) (S WZ (S Ie a0))))))))))
theorem zC(k:Nat)(us:LI)(vs:LI)(n:Int)(kq:Nat)(qs:LI)(s:Int)(j:Int)(g:Int)(b:Int)(c:Int)(i:Int)(c1:B (i<n)=false):Ar OM (Jf k us vs n kq qs s j g b c i) (.exit 8) (Jf k us vs n kq qs s j g b c i):=(G f 400 [.b false] [4,5,9,10,11,12,13,14,16,18,19,20] (S c1 a0))
def Lj(k:Nat)(us:LI)(vs:LI)(n:Int)(kq:Nat)(qs:LI)(s:Int)(j:Int)(g:Int)(c:Int)(i:Int):Al:=(Y 4 (X 1 0 []::(X 1 0 []::(Y 3 (C (F O s)::(C (sL lm vs)::(X 1 k (lm us)::(C (F O n)::(X 1 kq (lm qs)::(C (F O j)::(Y 1 (C (F U g)::(Y 6 (C (F U c)::(C (F O i)::(Y 282 []))))))))))))))))
theorem zF(k:Nat)(us:LI)(vs:LI)(n:Int)(kq:Nat)(qs:LI)(s:Int)(j:Int)(g:Int)(c:Int)(i:Int)(c1:B (i<n)=true)(n1:0<=(I O (i+j))/\(I O (i+j))<(k:Int))(n2:us.length=k)(n3:0<=i/\i<(vs.length:Int)):Ar QQ (Lj k us vs n kq qs s j g c i) .norm (Lj k (us.set (A (I O (i+j))) (I Ac (I U (c+(I U ((I U (us.getD (A (I O (i+j))) 0))+(I U (vs.getD (A i) 0)))))))) vs n kq qs s j g (d (I U (c+(I U ((I U (us.getD (A (I O (i+j))) 0))+(I U (vs.getD (A i) 0)))))) (2^(min (A 32) (Am .u64)))) (I O (i+1))):=(G f 400 [.b true,.v (F Ac (us.getD (A (I O (i+j))) 0)),.v (F Ac (vs.getD (A i) 0)),.l (lm (us.set (A (I O (i+j))) (I Ac (I U (c+(I U ((I U (us.getD (A (I O (i+j))) 0))+(I U (vs.getD (A i) 0)))))))))] [4,5,9,10,11,12,13,14,16,23,24] (S c1 (S n1 (S (Ck n2 n1) (S n3 (S (y n3) (S n1 (S (show C4 (lm us) (A (I O (i+j))*1) [F Ac (I Ac (I U (c+(I U ((I U (us.getD (A (I O (i+j))) 0))+(I U (vs.getD (A i) 0)))))))]=some (lm (us.set (A (I O (i+j))) (I Ac (I U (c+(I U ((I U (us.getD (A (I O (i+j))) 0))+(I U (vs.getD (A i) 0))))))))) from (CY n2 n1)) (S Ie a0)))))))))
theorem zG(k:Nat)(us:LI)(vs:LI)(n:Int)(kq:Nat)(qs:LI)(s:Int)(j:Int)(g:Int)(c:Int)(i:Int)(c1:B (i<n)=false):Ar QQ (Lj k us vs n kq qs s j g c i) (.exit 10) (Lj k us vs n kq qs s j g c i):=(G f 400 [.b false] [4,5,9,10,11,12,13,14,16,23,24] (S c1 a0))
def IM(k:Nat)(us:LI)(vs:LI)(n:Int)(kq:Nat)(qs:LI)(s:Int)(j:Int):Al:=(Y 4 (X 1 0 []::(X 1 0 []::(Y 3 (C (F O s)::(C (sL lm vs)::(X 1 k (lm us)::(C (F O n)::(X 1 kq (lm qs)::(C (F O j)::(Y 292 [])))))))))))
theorem Arj(k:Nat)(us:LI)(vs:LI)(n:Int)(kq:Nat)(qs:LI)(s:Int)(j:Int)(us1 us2:LI)(g r b c cc:Int)(c1:B (j>=0)=true)(c2:((d (I U ((I U ((I U (us1.getD (A (I O (j+n))) 0))-c))-b)) (2^(min (A 63) (Am .u64)))) != 0)=true)(n1:0<=(I O (j+n))/\(I O (j+n))<(k:Int))(n2:us.length=k)(n3:0<=(I O ((I O (j+n))-1))/\(I O ((I O (j+n))-1))<(k:Int))(n4:0<=(I O (n-1))/\(I O (n-1))<(vs.length:Int))(n5:¬ (I U (vs.getD (A (I O (n-1))) 0))=0)(hl6:Ar (.loop HF) (Eu k us vs n kq qs s j (I U (Aw (I U ((T (Am .u64) (I U ((I U (us.getD (A (I O (j+n))) 0))*2^(min (A 32) (Am .u64)))) ||| T (Am .u64) (I U (us.getD (A (I O ((I O (j+n))-1))) 0))).toNat)) (I U (vs.getD (A (I O (n-1))) 0)))) (AD (I U ((T (Am .u64) (I U ((I U (us.getD (A (I O (j+n))) 0))*2^(min (A 32) (Am .u64)))) ||| T (Am .u64) (I U (us.getD (A (I O ((I O (j+n))-1))) 0))).toNat)) (I U (vs.getD (A (I O (n-1))) 0)))) (.exit 6) (Eu k us vs n kq qs s j g r))(hl7:Ar (.loop OM) (Jf k us vs n kq qs s j g 0 0 0) (.exit 8) (Jf k us1 vs n kq qs s j g b c n))(n8:us1.length=k)(hl9:Ar (.loop QQ) (Lj k (us1.set (A (I O (j+n))) (I Ac (I U ((I U ((I U (us1.getD (A (I O (j+n))) 0))-c))-b)))) vs n kq qs s j (I U (g-1)) 0 0) (.exit 10) (Lj k us2 vs n kq qs s j (I U (g-1)) cc n))(n10:us2.length=k)(n11:0<=j/\j<(kq:Int))(n12:qs.length=kq):Ar NV (IM k us vs n kq qs s j) .norm (IM k (us2.set (A (I O (j+n))) (I Ac ((us2.getD (A (I O (j+n))) 0)+(I Ac cc)))) vs n kq (qs.set (A j) (I Ac (I U (g-1)))) s (I O (j-1))):=(Cv.seq (G (t:=(Y 4 (X 1 0 []::(X 1 0 []::(Y 3 (vi s::(vl vs::(X 1 k (lm us)::(vi n::(X 1 kq (lm qs)::(vi j::(Y 292 [])))))))))))) f 400 [.b true] [4,5,9,10,11,12,13,14] (S c1 a0)) (Cv.seq (Cd (W (Cv.seq (G f 400 [.v (F Ac (us.getD (A (I O (j+n))) 0)),.v (F Ac (us.getD (A (I O ((I O (j+n))-1))) 0)),.v (F Ac (vs.getD (A (I O (n-1))) 0)),.v (F Ac (vs.getD (A (I O (n-1))) 0))] [4,5,9,10,11,12,13,14,16,17] (S n1 (S (Ck n2 n1) (S Ie (S n3 (S (Ck n2 n3) (S n4 (S (y n4) (S n5 (S n4 (S (y n4) (S n5 a0)))))))))))) (Cv.seq (Cv.block hl6) (q (Cv.seq (G f 400 [] [4,5,9,10,11,12,13,14,16,18,19,20] a0) (Cv.seq (Cv.block hl7) (W (q (Cv.seq (G (t:=(Y 4 (X 1 0 []::(X 1 0 []::(Y 3 (vi s::(vl vs::(X 1 k (lm (us1.set (A (I O (j+n))) (I Ac (I U ((I U ((I U (us1.getD (A (I O (j+n))) 0))-c))-b)))))::(vi n::(X 1 kq (lm qs)::(vi j::(Y 1 (C (F U g)::(Y 236 (C (D ((d (I U ((I U ((I U (us1.getD (A (I O (j+n))) 0))-c))-b)) (2^(min (A 63) (Am .u64)))) != 0))::(Y 53 [])))))))))))))))) f 400 [.v (F Ac (us1.getD (A (I O (j+n))) 0)),.l (lm (us1.set (A (I O (j+n))) (I Ac (I U ((I U ((I U (us1.getD (A (I O (j+n))) 0))-c))-b)))))] [4,5,9,10,11,12,13,14,16,253] (S n1 (S (Ck n8 n1) (S n1 (S (show C4 (lm us1) (A (I O (j+n))*1) [F Ac (I Ac (I U ((I U ((I U (us1.getD (A (I O (j+n))) 0))-c))-b)))]=some (lm (us1.set (A (I O (j+n))) (I Ac (I U ((I U ((I U (us1.getD (A (I O (j+n))) 0))-c))-b))))) from (CY n8 n1)) (S WZ a0)))))) (Cv.seq (Jb (by rfl) c2 (W (q (Cv.seq (G f 400 [] [4,5,9,10,11,12,13,14,16,23,24] a0) (Cv.seq (Cv.block hl9) (G (t:=(Y 4 (X 1 0 []::(X 1 0 []::(Y 3 (vi s::(vl vs::(X 1 k (lm (us2.set (A (I O (j+n))) (I Ac ((us2.getD (A (I O (j+n))) 0)+(I Ac cc)))))::(vi n::(X 1 kq (lm qs)::(vi j::(Y 1 (C (F U (I U (g-1)))::(Y 290 [])))))))))))))) f 400 [.v (F Ac (us2.getD (A (I O (j+n))) 0)),.l (lm (us2.set (A (I O (j+n))) (I Ac ((us2.getD (A (I O (j+n))) 0)+(I Ac cc)))))] [4,5,9,10,11,12,13,14,16] (S n1 (S (Ck n10 n1) (S n1 (S (show C4 (lm us2) (A (I O (j+n))*1) [F Ac (I Ac ((us2.getD (A (I O (j+n))) 0)+(I Ac cc)))]=some (lm (us2.set (A (I O (j+n))) (I Ac ((us2.getD (A (I O (j+n))) 0)+(I Ac cc))))) from (CY n10 n1)) a0)))))))))) (G (t:=(Y 4 (X 1 0 []::(X 1 0 []::(Y 3 (vi s::(vl vs::(X 1 k (lm (us2.set (A (I O (j+n))) (I Ac ((us2.getD (A (I O (j+n))) 0)+(I Ac cc)))))::(vi n::(X 1 kq (lm (qs.set (A j) (I Ac (I U (g-1)))))::(vi j::(Y 292 [])))))))))))) f 400 [.l (lm (qs.set (A j) (I Ac (I U (g-1)))))] [4,5,9,10,11,12,13,14] (S n11 (S (show C4 (lm qs) (A j*1) [F Ac (I Ac (I U (g-1)))]=some (lm (qs.set (A j) (I Ac (I U (g-1))))) from (CY n12 n11)) a0)))))))))))))) (G f 400 [] [4,5,9,10,11,12,13,14] a0)))
theorem Ark(k:Nat)(us:LI)(vs:LI)(n:Int)(kq:Nat)(qs:LI)(s:Int)(j:Int)(us1:LI)(g r b c:Int)(c1:B (j>=0)=true)(c2:((d (I U ((I U ((I U (us1.getD (A (I O (j+n))) 0))-c))-b)) (2^(min (A 63) (Am .u64)))) != 0)=false)(n1:0<=(I O (j+n))/\(I O (j+n))<(k:Int))(n2:us.length=k)(n3:0<=(I O ((I O (j+n))-1))/\(I O ((I O (j+n))-1))<(k:Int))(n4:0<=(I O (n-1))/\(I O (n-1))<(vs.length:Int))(n5:¬ (I U (vs.getD (A (I O (n-1))) 0))=0)(hl6:Ar (.loop HF) (Eu k us vs n kq qs s j (I U (Aw (I U ((T (Am .u64) (I U ((I U (us.getD (A (I O (j+n))) 0))*2^(min (A 32) (Am .u64)))) ||| T (Am .u64) (I U (us.getD (A (I O ((I O (j+n))-1))) 0))).toNat)) (I U (vs.getD (A (I O (n-1))) 0)))) (AD (I U ((T (Am .u64) (I U ((I U (us.getD (A (I O (j+n))) 0))*2^(min (A 32) (Am .u64)))) ||| T (Am .u64) (I U (us.getD (A (I O ((I O (j+n))-1))) 0))).toNat)) (I U (vs.getD (A (I O (n-1))) 0)))) (.exit 6) (Eu k us vs n kq qs s j g r))(hl7:Ar (.loop OM) (Jf k us vs n kq qs s j g 0 0 0) (.exit 8) (Jf k us1 vs n kq qs s j g b c n))(n8:us1.length=k)(n9:0<=j/\j<(kq:Int))(n10:qs.length=kq):Ar NV (IM k us vs n kq qs s j) .norm (IM k (us1.set (A (I O (j+n))) (I Ac (I U ((I U ((I U (us1.getD (A (I O (j+n))) 0))-c))-b)))) vs n kq (qs.set (A j) (I Ac g)) s (I O (j-1))):=(Cv.seq (G (t:=(Y 4 (X 1 0 []::(X 1 0 []::(Y 3 (vi s::(vl vs::(X 1 k (lm us)::(vi n::(X 1 kq (lm qs)::(vi j::(Y 292 [])))))))))))) f 400 [.b true] [4,5,9,10,11,12,13,14] (S c1 a0)) (Cv.seq (Cd (W (Cv.seq (G f 400 [.v (F Ac (us.getD (A (I O (j+n))) 0)),.v (F Ac (us.getD (A (I O ((I O (j+n))-1))) 0)),.v (F Ac (vs.getD (A (I O (n-1))) 0)),.v (F Ac (vs.getD (A (I O (n-1))) 0))] [4,5,9,10,11,12,13,14,16,17] (S n1 (S (Ck n2 n1) (S Ie (S n3 (S (Ck n2 n3) (S n4 (S (y n4) (S n5 (S n4 (S (y n4) (S n5 a0)))))))))))) (Cv.seq (Cv.block hl6) (q (Cv.seq (G f 400 [] [4,5,9,10,11,12,13,14,16,18,19,20] a0) (Cv.seq (Cv.block hl7) (W (q (Cv.seq (G (t:=(Y 4 (X 1 0 []::(X 1 0 []::(Y 3 (vi s::(vl vs::(X 1 k (lm (us1.set (A (I O (j+n))) (I Ac (I U ((I U ((I U (us1.getD (A (I O (j+n))) 0))-c))-b)))))::(vi n::(X 1 kq (lm qs)::(vi j::(Y 1 (C (F U g)::(Y 236 (C (D ((d (I U ((I U ((I U (us1.getD (A (I O (j+n))) 0))-c))-b)) (2^(min (A 63) (Am .u64)))) != 0))::(Y 53 [])))))))))))))))) f 400 [.v (F Ac (us1.getD (A (I O (j+n))) 0)),.l (lm (us1.set (A (I O (j+n))) (I Ac (I U ((I U ((I U (us1.getD (A (I O (j+n))) 0))-c))-b)))))] [4,5,9,10,11,12,13,14,16,253] (S n1 (S (Ck n8 n1) (S n1 (S (show C4 (lm us1) (A (I O (j+n))*1) [F Ac (I Ac (I U ((I U ((I U (us1.getD (A (I O (j+n))) 0))-c))-b)))]=some (lm (us1.set (A (I O (j+n))) (I Ac (I U ((I U ((I U (us1.getD (A (I O (j+n))) 0))-c))-b))))) from (CY n8 n1)) (S WZ a0)))))) (Cv.seq (Jc (by rfl) c2 (G (t:=(Y 4 (X 1 0 []::(X 1 0 []::(Y 3 (vi s::(vl vs::(X 1 k (lm (us1.set (A (I O (j+n))) (I Ac (I U ((I U ((I U (us1.getD (A (I O (j+n))) 0))-c))-b)))))::(vi n::(X 1 kq (lm qs)::(vi j::(Y 1 (C (F U g)::(Y 290 [])))))))))))))) f 400 [] [4,5,9,10,11,12,13,14,16] a0)) (G (t:=(Y 4 (X 1 0 []::(X 1 0 []::(Y 3 (vi s::(vl vs::(X 1 k (lm (us1.set (A (I O (j+n))) (I Ac (I U ((I U ((I U (us1.getD (A (I O (j+n))) 0))-c))-b)))))::(vi n::(X 1 kq (lm (qs.set (A j) (I Ac g)))::(vi j::(Y 292 [])))))))))))) f 400 [.l (lm (qs.set (A j) (I Ac g)))] [4,5,9,10,11,12,13,14] (S n9 (S (show C4 (lm qs) (A j*1) [F Ac (I Ac g)]=some (lm (qs.set (A j) (I Ac g))) from (CY n10 n9)) a0)))))))))))))) (G f 400 [] [4,5,9,10,11,12,13,14] a0)))
theorem Arl(k:Nat)(us:LI)(vs:LI)(n:Int)(kq:Nat)(qs:LI)(s:Int)(j:Int)(c1:B (j>=0)=false):Ar NV (IM k us vs n kq qs s j) (.exit 4) (IM k us vs n kq qs s j):=(AJ (G f 400 [.b false] [4,5,9,10,11,12,13,14] (S c1 a0)) (by nofun))
theorem lY(xs ys:LI)(cm:Int)(c1:B (cm<0)=true)(n1:RQ 134 [sL lm xs,sL lm ys] (F O cm)):RQ 165 [sL lm xs,sL lm ys] (Ax [H 0 [],sL lm xs]):=A8 PT (Y 1 (C (sL lm ys)::(Y 2 (X 1 0 []::(C (sL lm xs)::(Y 301 [])))))) (W (q (AJ (G f 400 [.r (F O cm),.b true] [1,4,5] (S n1 (S c1 a0))) (by nofun))))
theorem lZ(xs ys qs:LI)(cm r i:Int)(k:Nat)(c1:B (cm<0)=false)(c2:((ys.length:Int)==1)=true)(n1:RQ 134 [sL lm xs,sL lm ys] (F O cm))(n2:0<=(xs.length:Int)/\(xs.length:Int)<=1048576)(hl3:Ar (.loop QP) ((C (sL lm xs)::(C (sL lm ys)::(Y 2 (X 1 0 []::(X 1 0 []::(X 1 (A (xs.length:Int)) (Cu [F Ac 0] (A (xs.length:Int)))::(C (F U 0)::(C (F O (I O ((xs.length:Int)-1)))::(Y 298 [])))))))))) (.exit 0) (MW xs ys k qs r i))(n4:RQ 99 [H k (lm qs)] (L 1 ((Aa qs).length) (lm (Aa qs))))(n5:RQ 99 [H 1 [F Ac (I Ac r)]] (L 1 ((Aa [I Ac r]).length) (lm (Aa [I Ac r])))):RQ 165 [sL lm xs,sL lm ys] (Ax [H ((Aa qs).length) (lm (Aa qs)),H ((Aa [I Ac r]).length) (lm (Aa [I Ac r]))]):=A8 PT (Y 1 (C (sL lm ys)::(Y 2 (X 1 ((Aa qs).length) (lm (Aa qs))::(X 1 ((Aa [I Ac r]).length) (lm (Aa [I Ac r]))::(Y 301 [])))))) (W (q (Cv.seq (G (t:=(vl xs::(vl ys::(Y 2 (X 1 0 []::(X 1 0 []::(Y 26 (C (D ((ys.length:Int)==1))::(Y 274 []))))))))) f 400 [.r (F O cm),.b false] [0,1,4,5,32] (S n1 (S c1 a0))) (AJ (Jb (by rfl) c2 (W (q (Cv.seq (G f 400 [] [0,1,4,5,6,7,8] (S n2 a0)) (Cv.seq (Cv.block hl3) (G f 400 [.r (L 1 ((Aa qs).length) (lm (Aa qs))),.r (L 1 ((Aa [I Ac r]).length) (lm (Aa [I Ac r])))] [1,4,5] (S n4 (S n5 a0)))))))) (by nofun)))))
theorem mA(xs ys qs us vs:LI)(cm s n j U V w:Int)(k kq:Nat)(c1:B (cm<0)=false)(c2:((ys.length:Int)==1)=false)(n1:RQ 134 [sL lm xs,sL lm ys] (F O cm))(hl2:Ar (.loop QO) (Li xs ys 0) (.exit 2) (Li xs ys s))(n3:RQ 84 [o [D false,sL lm ys],F O s] (CD V))(n4:((M (E U)).length)+2<=35184372088832)(n5:RQ 84 [o [D false,sL lm xs],F O s] (CD U))(n6:0<=(if (I O ((ys.length:Int)+1))>(I O ((xs.length:Int)+1)) then (I O ((ys.length:Int)+1)) else (I O ((xs.length:Int)+1)))/\(if (I O ((ys.length:Int)+1))>(I O ((xs.length:Int)+1)) then (I O ((ys.length:Int)+1)) else (I O ((xs.length:Int)+1)))<=(((((M (E U)).length)+2):Nat):Int))(n7:0<=(I O ((((A (if (I O ((ys.length:Int)+1))>(I O ((xs.length:Int)+1)) then (I O ((ys.length:Int)+1)) else (I O ((xs.length:Int)+1)))):Nat):Int)-(((M (E V)).length:Nat):Int)))/\(I O ((((A (if (I O ((ys.length:Int)+1))>(I O ((xs.length:Int)+1)) then (I O ((ys.length:Int)+1)) else (I O ((xs.length:Int)+1)))):Nat):Int)-(((M (E V)).length:Nat):Int)))<=1048576)(hl8:Ar (.loop NV) ((Y 4 (X 1 0 []::(X 1 0 []::(Y 3 (C (F O s)::(C (H ((M (E V)).length) (lm (M (E V))))::(X 1 (A (if (I O ((ys.length:Int)+1))>(I O ((xs.length:Int)+1)) then (I O ((ys.length:Int)+1)) else (I O ((xs.length:Int)+1)))) (B3 (A (if (I O ((ys.length:Int)+1))>(I O ((xs.length:Int)+1)) then (I O ((ys.length:Int)+1)) else (I O ((xs.length:Int)+1)))*1) ((lm (M (E U)))++([F Ac 0,F Ac 0]:List AV)))::(C (F O (((M (E V)).length:Nat):Int))::(X 1 (A (I O ((((A (if (I O ((ys.length:Int)+1))>(I O ((xs.length:Int)+1)) then (I O ((ys.length:Int)+1)) else (I O ((xs.length:Int)+1)))):Nat):Int)-(((M (E V)).length:Nat):Int)))) (Cu [F Ac 0] (A (I O ((((A (if (I O ((ys.length:Int)+1))>(I O ((xs.length:Int)+1)) then (I O ((ys.length:Int)+1)) else (I O ((xs.length:Int)+1)))):Nat):Int)-(((M (E V)).length:Nat):Int)))))::(C (F O (I O ((I O ((((A (if (I O ((ys.length:Int)+1))>(I O ((xs.length:Int)+1)) then (I O ((ys.length:Int)+1)) else (I O ((xs.length:Int)+1)))):Nat):Int)-(((M (E V)).length:Nat):Int)))-1)))::(Y 292 [])))))))))))) (.exit 4) (IM k us vs n kq qs s j))(n9:RQ 99 [H kq (lm qs)] (L 1 ((Aa qs).length) (lm (Aa qs))))(n10:RQ 128 [o [D false,H k (lm us)],F O s] (Ah w)):RQ 165 [sL lm xs,sL lm ys] (Ax [H ((Aa qs).length) (lm (Aa qs)),H ((M (E w)).length) (lm (M (E w)))]):=A8 PT (Y 4 (X 1 ((Aa qs).length) (lm (Aa qs))::(C (H ((M (E w)).length) (lm (M (E w))))::(Y 301 [])))) (W (q (Cv.seq (G (t:=(vl xs::(vl ys::(Y 2 (X 1 0 []::(X 1 0 []::(Y 26 (C (D ((ys.length:Int)==1))::(Y 274 []))))))))) f 400 [.r (F O cm),.b false] [0,1,4,5,32] (S n1 (S c1 a0))) (Cv.seq (Jc (by rfl) c2 (G (t:=(vl xs::(vl ys::(Y 2 (X 1 0 []::(X 1 0 []::(Y 26 (C (D ((ys.length:Int)==1))::(Y 274 []))))))))) f 400 [] [0,1,4,5,32] a0)) (Cv.seq (G f 400 [] [0,1,4,5,9] a0) (Cv.seq (Cv.block hl2) (W (W (W (W (q (Cv.seq (G f 400 [.r (CD V),.r (CD U)] [4,5,9,10,11,12,13,14] (S n3 (S n5 (S (show Bh ([F Ac 0,F Ac 0]:List AV)=2*1 from rfl) (S n4 (S n6 (S n7 a0))))))) (Cv.seq (Cv.block hl8) (G f 400 [.r (L 1 ((Aa qs).length) (lm (Aa qs))),.r (Ah w)] [4,5] (S n9 (S n10 a0))))))))))))))))
def TDA:Cn:=TBE
theorem mB:Ca AY TDA:=f
theorem A6a{p:Int}{s:Nat}(hp:0<=p/\p<18446744073709551616)(hs:s<=63):I U ((T (Am .u64) p &&& T (Am .u64) (2^s-1)).toNat)=p % 2^s:=by
 obtain⟨m,rfl⟩:=My hp.1;have hb:(Am .u64)=64:=rfl;have e1:(T 64 (m:Int)).toNat=m:=ER 64 m (by omega);have h2:2^s<=2^63:=BF (by decide) hs;have h3:0<2^s:=BS (by decide);have ec:((2:Int)^s-1)=((2^s-1:Nat):Int):=by
  have:((2^s:Nat):Int)=(2:Int)^s:=by simp
  omega
 have e2:(T 64 ((2^s-1:Nat):Int)).toNat=2^s-1:=ER 64 (2^s-1) (by omega);rw[hb,N0,e1,ec,e2,TX,B6];have h4:m % 2^s<2^s:=HB _ h3;have e3:((m % 2^s:Nat):Int)=(m:Int) % 2^s:=by simp
 rw[<- e3];omega
theorem mC{p:Int}{s:Nat}(hp:0<=p/\p<4294967296)(hs:s<=31):I Ac ((T (Am .u32) p &&& T (Am .u32) (2^s-1)).toNat)=p % 2^s:=by
 obtain⟨m,rfl⟩:=My hp.1;have hb:(Am .u32)=32:=rfl;have e1:(T 32 (m:Int)).toNat=m:=ER 32 m (by omega);have h2:2^s<=2^31:=BF (by decide) hs;have h3:0<2^s:=BS (by decide);have ec:((2:Int)^s-1)=((2^s-1:Nat):Int):=by
  have:((2^s:Nat):Int)=(2:Int)^s:=by simp
  omega
 have e2:(T 32 ((2^s-1:Nat):Int)).toNat=2^s-1:=ER 32 (2^s-1) (by omega);rw[hb,N0,e1,ec,e2,TX,DW];have h4:m % 2^s<2^s:=HB _ h3;have e3:((m % 2^s:Nat):Int)=(m:Int) % 2^s:=by simp
 rw[<- e3];omega
theorem A6b{p:Int}(hp:0<=p/\p<4294967296):(I Ac ((T (Am .u32) p &&& T (Am .u32) 2147483648).toNat)==0)=decide (p<2147483648):=by
 obtain⟨m,rfl⟩:=My hp.1;have hb:(Am .u32)=32:=rfl;have e1:(T 32 (m:Int)).toNat=m:=ER 32 m (by omega);have e2:(T 32 2147483648).toNat=2147483648:=ER 32 2147483648 (by decide);rw[hb,N0,e1,e2,DW];have hlt:m &&& 2147483648<=2147483648:=Nat.and_le_right;have key:(m &&& 2147483648=0)↔m<2147483648:=by
  constructor
  ·intro h;have hm:m<2^32:=by omega
   have hb31:(m &&& 2^31).testBit 31=false:=by
    have:(m &&& 2^31)=0:=h;rw[this];rfl
   rw[Awd] at hb31;have:(2^31:Nat).testBit 31=true:=by decide
   rw[this,KO] at hb31;refine Nat.lt_pow_two_of_testBit m (n:=31) fun i hi => ?_;rcases Nat.eq_or_lt_of_le hi with h1 | h1
   ·rw[<- h1];exact hb31
   ·exact dU (Dk hm (BF (by decide) (by omega)))
  ·intro h;apply Nat.eq_of_testBit_eq;intro i;rw[Awd,Nat.zero_testBit];by_cases hi:i=31
   ·subst hi;rw[dU (x:=m) (i:=31) (by omega)];rfl
   ·have:(2147483648:Nat).testBit i=false:=by
     rw[show (2147483648:Nat)=2^31 by decide,Nat.testBit_two_pow];simp;omega
    rw[this,ID]
 rw[aF,beq_iff_eq,decide_eq_true_eq];constructor
 ·intro h;have:m &&& 2147483648=0:=by omega
  have:=key.1 this;omega
 ·intro h;have:=key.2 (by omega);omega
theorem Oi{a b:Int}(ha:(M a.natAbs).length<1048576)(hb:(M b.natAbs).length<1048576):RQ 129 [Ah a,Ah b] (Ah (a-b)):=by
 have h:=To (na:=decide (a<0)) (nb:=decide (b<0)) (BI a.natAbs) (BI b.natAbs) ha hb;rw[F8,F8] at h;exact h
theorem Oj{xs:LI}(h:AP xs){v:Int}(hv:0<=v):(Ab xs+v=0)↔(Ab xs=0/\v=0):=by
 have:=AZ h;omega
theorem mD{neg:Bool}{xs ms:LI}{n:Nat}(hu:AP ms)(hn:(n:Int)<=9223372036854775807)(hN:ms.length<=1048576):∀ (r i:Nat),i+r=min ms.length (n / 32) ->
  Ar (.loop Gs) (D6 neg xs (n:Nat) ms (B (Ab (ms.take i) ≠ 0)) (i:Nat)) (.exit 0) (D6 neg xs (n:Nat) ms (B (Ab (ms.take (n / 32)) ≠ 0)) ((min ms.length (n / 32):Nat):Int)):=by
 have e1:I O (Aw (n:Int) 32)=((n / 32:Nat):Int):=by
  rw[B8 (by omega),Bl (by omega) (by omega)];omega
 intro r;induction r with
 | zero =>
  intro i hi;have hi':i=min ms.length (n / 32):=by omega
  have et:ms.take i=ms.take (n / 32):=by
   rcases Nat.le_total ms.length (n / 32) with h | h
   ·rw[Er (by omega),Er h]
   ·rw[hi',Nat.min_eq_right h]
  rw[et,<- hi'];by_cases hl:i<ms.length
  ·exact Ao (yP neg xs _ ms _ _ (by simp;omega) (by rw[e1];simp;omega)) (by nofun)
  ·exact Ao (yQ neg xs _ ms _ _ (by simp;omega)) (by nofun)
 | succ r ih =>
  intro i hi;have ei:I O ((i:Int)+1)=((i+1:Nat):Int):=by rw[Bl (by omega) (by omega)];omega
  have hm:=AG hu i;have hp:=Cy i;have hts:=DY ms i (by omega);have hz:(Ab (ms.take (i+1))=0)↔(Ab (ms.take i)=0/\ms.getD i 0=0):=by
   have hx:=Oj (DS hu i) (A6 (A7 hp) hm.1);rw[<- hts] at hx;rw[hx,KR];constructor
   ·rintro⟨a,b⟩;exact⟨a,by omega⟩
   ·rintro⟨a,b⟩;exact⟨a,.inr b⟩
  have step:Ar Gs (D6 neg xs (n:Nat) ms (B (Ab (ms.take i) ≠ 0)) (i:Nat)) .norm (D6 neg xs (n:Nat) ms (B (Ab (ms.take (i+1)) ≠ 0)) ((i+1:Nat):Int)):=by
   by_cases h0:Ab (ms.take i)=0
   ·have k:=yO neg xs (n:Nat) ms (B (Ab (ms.take i) ≠ 0)) (i:Nat) (by simp;omega) (by rw[e1];simp;omega) (by simp[h0]) (by omega);rw[ei,R] at k;have e2:(ms.getD i 0 != 0)=decide (Ab (ms.take (i+1)) ≠ 0):=by
     rw[aF,bne_iff_ne,decide_eq_true_eq,ne_eq,ne_eq,hz];simp[h0]
    rw[e2] at k;exact k
   ·have k:=yN neg xs (n:Nat) ms (B (Ab (ms.take i) ≠ 0)) (i:Nat) (by simp;omega) (by rw[e1];simp;omega) (by simp[h0]);rw[ei] at k;have e2:true=decide (Ab (ms.take (i+1)) ≠ 0):=by
     symm;rw[decide_eq_true_eq,ne_eq,hz];exact fun h=>h0 h.1
    rw[<- e2];exact k
  exact Cv.loop step (ih (i+1) (by omega))
theorem dV{x y:Int}(hx:0<=x/\x<4294967296){s:Nat}(hs:s<32):(y*4294967296+x) / 2^s % 4294967296=y % 2^s*2^(32-s)+x / 2^s:=by
 have e:=Q_ (show s<=32 by omega);have hp:=BE s;have hp2:=BE (32-s);have h1:(y*4294967296+x) / 2^s=y*2^(32-s)+x / 2^s:=by
  rw[e,<- AH,Ks,A5s _ _ (by omega),Ks]
 have b1:x / 2^s<2^(32-s):=K4 hp (by rw[<- e];exact hx.2);have b0:0<=x / 2^s:=J3 hx.1 (by omega);have m0:=FE y (show (2:Int)^s ≠ 0 by omega);have m1:=Ey y hp;have hy2:=G2 y (2^s);rw[h1];have e3:y*2^(32-s)+x / 2^s=(y % 2^s*2^(32-s)+x / 2^s)+4294967296*(y / 2^s):=by
  rw[e];generalize y % 2^s=a at *
  generalize y / 2^s=b at *
  generalize (2:Int)^(32-s)=T at *
  generalize (2:Int)^s=S at *
  generalize x / S=z at *
  rw[<- hy2];grind
 rw[e3,TO];apply Gh
 ·have:=A6 m0 (show (0:Int)<=2^(32-s) by omega);omega
 ·have c1:=Ae (show y % 2^s+1<=2^s by omega) (show (0:Int)<=2^(32-s) by omega);rw[Hg,Do,AA (2^s),<- e] at c1;omega
theorem mE{neg lost:Bool}{xs ms:LI}{sh:Int}{s k:Nat}(hu:AP ms)(hs:s<32)(hN:ms.length<=1048576)(hk:k<=ms.length):∀ (r i:Nat),i+r=ms.length-k ->
  Ar (.loop FU) (Dl neg xs sh ms i (lm ((Aq i).map (Dh (ms.drop k) s))) lost (s:Nat) ((k+i:Nat):Int)) (.exit 2) (Dl neg xs sh ms (ms.length-k) (lm ((Aq (ms.length-k)).map (Dh (ms.drop k) s))) lost (s:Nat) (ms.length:Nat)):=by
 intro r;induction r with
 | zero =>
  intro i hi;have hi':i=ms.length-k:=by omega
  subst hi';have e0:((k+(ms.length-k):Nat):Int)=(ms.length:Nat):=by omega
  rw[e0];exact Ao (Yo neg xs sh ms _ _ lost _ _ (by simp)) (by nofun)
 | succ r ih =>
  intro i hi;have ei:I O (((k+i:Nat):Int)+1)=((k+(i+1):Nat):Int):=by rw[Bl (by omega) (by omega)];omega
  have hx:=AG hu (k+i);have hy:=AG hu (k+i+1);have gx:(ms.drop k).getD i 0=ms.getD (k+i) 0:=by simp[Z,Bu]
  have gy:(ms.drop k).getD (i+1) 0=ms.getD (k+i+1) 0:=by simp[Z,Bu,Dw]
  have em:min (A (s:Int)) (Am .u64)=s:=by rw[R];show min s 64=s;omega
  have hR:Dh (ms.drop k) s i=(ms.getD (k+i+1) 0*4294967296+ms.getD (k+i) 0) / 2^s % 4294967296:=by
   rw[dV hx hs];unfold Dh;rw[gx,gy]
  have hstep:Ar FU (Dl neg xs sh ms i (lm ((Aq i).map (Dh (ms.drop k) s))) lost (s:Nat) ((k+i:Nat):Int)) .norm (Dl neg xs sh ms (i+1) (lm ((Aq (i+1)).map (Dh (ms.drop k) s))) lost (s:Nat) ((k+(i+1):Nat):Int)):=by
   have el:lm ((Aq (i+1)).map (Dh (ms.drop k) s))=lm ((Aq i).map (Dh (ms.drop k) s))++([F Ac (Dh (ms.drop k) s i)]:List AV):=by
    rw[Hq,D_,C2,GC,H8]
   rw[el,hR];by_cases h1:k+i+1<ms.length
   ·have kk:=yR neg xs sh ms i (lm ((Aq i).map (Dh (ms.drop k) s))) lost (s:Nat) ((k+i:Nat):Int) (by simp;omega) (by rw[ei];simp;omega) (by omega) (by rw[ei];omega) (by omega) (by omega);rw[ei,R,R,em] at kk;have w1:I U ((T (Am .u64) (I U (ms.getD (k+i) 0)) ||| T (Am .u64) (I U ((I U (ms.getD (k+(i+1)) 0))*2^(min (A 32) (Am .u64))))).toNat)=ms.getD (k+i+1) 0*4294967296+ms.getD (k+i) 0:=by
     rw[TW,C8 (n:=ms.getD (k+(i+1)) 0) (by rw[<- Dw];omega),<- Dw];exact MU hy hx
    have hpos:0<=ms.getD (k+i+1) 0*4294967296+ms.getD (k+i) 0:=by omega
    rw[w1,t _ (by have:=BE s;omega),DW] at kk;exact kk
   ·have hz:ms.getD (k+i+1) 0=0:=Bw (by omega);have kk:=yS neg xs sh ms i (lm ((Aq i).map (Dh (ms.drop k) s))) lost (s:Nat) ((k+i:Nat):Int) (by simp;omega) (by rw[ei];simp;omega) (by omega) (by omega) (by omega);rw[ei,R,em,C8 (n:=ms.getD (k+i) 0) (by omega),t _ (by have:=BE s;omega),DW] at kk;rw[hz,DF,DK];exact kk
  exact Cv.loop hstep (ih (i+1) (by omega))
theorem dW{ms:LI}{s k:Nat}(hs:s<32)(hk:k<=ms.length) :
  Ab ms=4294967296^k*(2^s*Ab ((Aq (ms.length-k)).map (Dh (ms.drop k) s))+ms.getD k 0 % 2^s)+Ab (ms.take k):=by
 have h1:=Dq ms hk;have h2:=dR (us:=ms.drop k) s hs (ms.length-k) (by simp);have g0:(ms.drop k).getD 0 0=ms.getD k 0:=by simp[Z,Bu]
 have g1:(ms.drop k).getD (ms.length-k) 0=0:=Bw (by simp);rw[Er (by simp),g0,g1,Int.zero_emod,AM,B5] at h2;rw[h2,h1];generalize Ab (ms.drop k)=X;generalize Ab (ms.take k)=Y;generalize ms.getD k 0 % 2^s=z;have:X-z+z=X:=by omega
 rw[this];omega
theorem Wb{neg:Bool}{xs:LI}(hu:AP xs)(n:Nat)(hn:(n:Int)<=9223372036854775807)(hN:xs.length<1048576):RQ 128 [o [D neg,sL lm xs],F O (n:Nat)] (Ah (rv neg xs / 2^n)):=by
 have t1:=Bq xs;have tu:=OR hu;have e1:I O (Aw (n:Int) 32)=((n / 32:Nat):Int):=by
  rw[B8 (by omega),Bl (by omega) (by omega)];omega
 have e2:I U (AD (n:Int) 32)=((n % 32:Nat):Int):=by
  rw[Bs (by omega),B6];omega
 have hs:n % 32<32:=HB _ (by decide);have hmag:=DX (xs:=xs) (by omega);have ha:=mD (neg:=neg) (xs:=xs) (n:=n) tu hn (by omega) (min (Aa xs).length (n / 32)) 0 (by omega);rw[TQ] at ha;have e0:decide (Ab ([]:LI) ≠ 0)=false:=rfl;rw[e0] at ha;have hof:=sB (n:=1) (by omega);have hp:=HV n;have hP:=Cy (n / 32);have hS:=BE (n % 32);rw[<- VU neg xs];generalize hms:Aa xs=ms at *
 have fin:∀ (q l:Int),0<=l->l<2^n->Ab ms=2^n*q+l->rv neg ms / 2^n=if neg=true/\l ≠ 0 then -q-1 else if neg then -q else q:=by
  intro q l hl0 hl1 hv;have hpn:=BE n;unfold rv;rw[hv];cases neg with
  | false=>simp only[Cf,if_false,false_and];rw[Ks,SO _ _ (by omega),GK hl0 hl1];omega
  | true =>
   simp only[if_true,true_and];by_cases h0:l=0
   ·rw[if_neg (by simp[h0]),h0,B5,<- EV,BT _ (by omega)]
   ·rw[if_pos (by simpa using h0)];have : -(2^n*q+l)=(2^n-l)+2^n*(-q-1):=by rw[Hu,EV];omega
    rw[this,SO _ _ (by omega),GK (by omega) (by omega)];omega
 by_cases hk:n / 32<ms.length
 ·-- some M are left
  have hb:=mE (neg:=neg) (lost:=decide (Ab (ms.take (n / 32)) ≠ 0)) (xs:=xs) (ms:=ms) (sh:=(n:Int)) (s:=n % 32) (k:=n / 32) tu hs (by omega) (by omega) (ms.length-n / 32) 0 (by omega);have c1:decide ((I O (Aw (n:Int) 32))<(ms.length:Int))=true:=by rw[e1];simp;omega
  have hall:=dW (ms:=ms) hs (show n / 32<=ms.length by omega);have ux:AP ((Aq (ms.length-n / 32)).map (Dh (ms.drop (n / 32)) (n % 32))):=Qd fun i=>(Rc (Fg tu _) hs i).2.2.2;have hmk:=Gd (neg:=neg) ux (by simp;omega);have hlen:((Aq (ms.length-n / 32)).map (Dh (ms.drop (n / 32)) (n % 32))).length=ms.length-n / 32:=by simp
  unfold sL at hmk;rw[hlen] at hmk;have hq:=EM (neg:=neg) ux;generalize hQ:(Aq (ms.length-n / 32)).map (Dh (ms.drop (n / 32)) (n % 32))=Q at *
  have hm0:=FE (ms.getD (n / 32) 0) (show (2:Int)^(n % 32) ≠ 0 by omega);have hm1:=Ey (ms.getD (n / 32) 0) hS;have ht0:=AZ (DS tu (n / 32));have ht1:=Ge tu (n / 32);have hb2:Ar (.loop FU) (Dl neg xs (n:Nat) ms 0 [] (B (Ab (ms.take (n / 32)) ≠ 0)) (I U (AD (n:Int) 32)) (I O (Aw (n:Int) 32))) (.exit 2) (Dl neg xs (n:Nat) ms (ms.length-n / 32) (lm Q) (B (Ab (ms.take (n / 32)) ≠ 0)) (I U (AD (n:Int) 32)) (ms.length:Nat)):=by
   rw[e1,e2];exact hb
  have emask:I Ac ((I Ac (1*2^(min (A (I U (AD (n:Int) 32))) (Am .u32))))-1)=2^(n % 32)-1:=by
   have:min (A ((n % 32:Nat):Int)) (Am .u32)=n % 32:=by rw[R];show min (n % 32) 32=n % 32;omega
   have h31:(2:Int)^(n % 32)<=2147483648:=G5 (show n % 32<=31 by omega);rw[e2,this,Do,DW,DW];omega
  have ec4:I Ac ((T (Am .u32) (ms.getD (A (I O (Aw (n:Int) 32))) 0) &&& T (Am .u32) (I Ac ((I Ac (1*2^(min (A (I U (AD (n:Int) 32))) (Am .u32))))-1))).toNat)=ms.getD (n / 32) 0 % 2^(n % 32):=by
   rw[emask,e1,R];exact mC (AG tu _) (by omega)
  have hl:0<=4294967296^(n / 32)*(ms.getD (n / 32) 0 % 2^(n % 32))+Ab (ms.take (n / 32))/\4294967296^(n / 32)*(ms.getD (n / 32) 0 % 2^(n % 32))+Ab (ms.take (n / 32))<2^n:=by
   rw[hp];generalize (4294967296:Int)^(n / 32)=P at *
   generalize ms.getD (n / 32) 0 % 2^(n % 32)=z at *
   generalize (2:Int)^(n % 32)=S at *
   have a:=A6 (A7 hP) hm0;have b:=Ak (show z+1<=S by omega) (A7 hP);rw[CW,Dn] at b;omega
  have hf:=fin (Ab Q) _ hl.1 hl.2 (by rw[hall,hp];grind);have hlost:(4294967296^(n / 32)*(ms.getD (n / 32) 0 % 2^(n % 32))+Ab (ms.take (n / 32)) ≠ 0)↔(Ab (ms.take (n / 32)) ≠ 0\/ms.getD (n / 32) 0 % 2^(n % 32) ≠ 0):=by
   have a:=A6 (A7 hP) hm0;by_cases hz:ms.getD (n / 32) 0 % 2^(n % 32)=0
   ·rw[hz,AM,DK];simp
   ·have:0<4294967296^(n / 32)*(ms.getD (n / 32) 0 % 2^(n % 32)):=BL hP (by omega);constructor
    ·intro _;exact .inr hz
    ·intro _;omega
  by_cases hneg:neg=true
  ·subst hneg;have hrv:rv true Q = -Ab Q:=rfl;by_cases h0:Ab (ms.take (n / 32)) ≠ 0
   ·rw[hf,if_pos ⟨rfl,hlost.2 (.inl h0)⟩];have hmin:=Oi (a := -Ab Q) (b:=1) (by rw[<- hrv];omega) (by decide);refine lO true (B (Ab (ms.take (n / 32)) ≠ 0)) xs (n:Nat) _ (ms.length-n / 32) (lm Q) _ (-Ab Q) _ (by rw[hms];exact c1) (by simpa using h0) rfl (by rw[hms];exact hmag) (by rw[hms];exact ha) (by rw[hms];exact hb2) hmk hof hmin
   ·by_cases h1:ms.getD (n / 32) 0 % 2^(n % 32)=0
    ·rw[hf,if_neg (fun h=>by rcases hlost.1 h.2 with g | g;exact h0 g;exact g h1),if_pos rfl];exact lR true (B (Ab (ms.take (n / 32)) ≠ 0)) xs (n:Nat) _ (ms.length-n / 32) (lm Q) _ (-Ab Q) (by rw[hms];exact c1) (by simpa using h0) rfl (by rw[hms,ec4,h1];rfl) (by rw[hms];exact hmag) (by rw[hms];exact ha) (by rw[hms];exact hb2) (by rw[hms,e1];omega) (by rw[e2];omega) hmk
    ·rw[hf,if_pos ⟨rfl,hlost.2 (.inr h1)⟩];have hmin:=Oi (a := -Ab Q) (b:=1) (by rw[<- hrv];omega) (by decide);exact lQ true (B (Ab (ms.take (n / 32)) ≠ 0)) xs (n:Nat) _ (ms.length-n / 32) (lm Q) _ (-Ab Q) _ (by rw[hms];exact c1) (by simpa using h0) rfl (by rw[hms,ec4];simpa using h1) (by rw[hms];exact hmag) (by rw[hms];exact ha) (by rw[hms];exact hb2) (by rw[hms,e1];omega) (by rw[e2];omega) hmk hof hmin
  ·have hneg':neg=false:=by cases neg <;> simp_all
   subst hneg';rw[hf,if_neg (by simp),if_neg (by simp)];by_cases h0:Ab (ms.take (n / 32)) ≠ 0
   ·exact lP false (B (Ab (ms.take (n / 32)) ≠ 0)) xs (n:Nat) _ (ms.length-n / 32) (lm Q) _ (Ab Q) (by rw[hms];exact c1) (by simpa using h0) rfl (by rw[hms];exact hmag) (by rw[hms];exact ha) (by rw[hms];exact hb2) hmk
   ·exact lS false (B (Ab (ms.take (n / 32)) ≠ 0)) xs (n:Nat) _ (ms.length-n / 32) (lm Q) _ (Ab Q) (by rw[hms];exact c1) (by simpa using h0) rfl (by rw[hms];exact hmag) (by rw[hms];exact ha) (by rw[hms];exact hb2) (by rw[hms,e1];omega) (by rw[e2];omega) hmk
 ·-- nothing is left
  have c1:decide ((I O (Aw (n:Int) 32))<(ms.length:Int))=false:=by rw[e1];simp;omega
  have htake:ms.take (n / 32)=ms:=Er (by omega);have hb:Ar (.loop FU) (Dl neg xs (n:Nat) ms 0 [] (B (Ab (ms.take (n / 32)) ≠ 0)) (I U (AD (n:Int) 32)) (I O (Aw (n:Int) 32))) (.exit 2) (Dl neg xs (n:Nat) ms 0 [] (B (Ab (ms.take (n / 32)) ≠ 0)) (I U (AD (n:Int) 32)) (I O (Aw (n:Int) 32))) :=
   Ao (Yo neg xs _ ms _ _ _ _ _ c1) (by nofun)
  have hmk:=Gd (neg:=neg) (xs:=[]) (fun x h=>(nomatch h)) (by simp);have hv0:rv neg ([]:LI)=0:=by unfold rv;cases neg <;> rfl
  rw[hv0] at hmk;have hlt:Ab ms<2^n:=by
   have a:=DI tu;have b:=Gl (show ms.length<=n / 32 by omega);rw[hp];have:=Ak (show (1:Int)<=2^(n % 32) by omega) (show (0:Int)<=4294967296^(n / 32) by omega);rw[Dn] at this;omega
  have hf:=fin 0 (Ab ms) (AZ tu) hlt (by rw[AM,DK]);by_cases hneg:neg=true
  ·subst hneg;by_cases h0:Ab ms ≠ 0
   ·rw[hf,if_pos ⟨rfl,h0⟩];have hmin:=Oi (a:=0) (b:=1) (by decide) (by decide);exact lT true (B (Ab (ms.take (n / 32)) ≠ 0)) xs (n:Nat) _ 0 [] _ 0 _ (by rw[hms];exact c1) rfl (by rw[htake];simpa using h0) (by rw[hms];exact hmag) (by rw[hms];exact ha) (by rw[hms];exact hb) hmk hof hmin
   ·rw[hf,if_neg (fun h=>h0 h.2),if_pos rfl];exact lW true (B (Ab (ms.take (n / 32)) ≠ 0)) xs (n:Nat) _ 0 [] _ 0 (by rw[hms];exact c1) rfl (by rw[htake];simpa using h0) (by rw[hms];exact hmag) (by rw[hms];exact ha) (by rw[hms];exact hb) hmk
  ·have hneg':neg=false:=by cases neg <;> simp_all
   subst hneg';rw[hf,if_neg (by simp),if_neg (by simp)];exact lX false (B (Ab (ms.take (n / 32)) ≠ 0)) xs (n:Nat) _ 0 [] _ 0 (by rw[hms];exact c1) rfl (by rw[hms];exact hmag) (by rw[hms];exact ha) (by rw[hms];exact hb) hmk
def TDB:Cn:=TDA
theorem mF:Ca AY TDB:=mB
theorem mG{xs:LI}{d:Int}(hx:AP xs)(hd:0<d/\d<4294967296)(hN:xs.length<=1048576):∀ (i:Nat) (qs:LI) (r:Int),i<=xs.length->qs.length=xs.length->AP qs->0<=r/\r<d->(∀ t,t<i->qs.getD t 0=0) ->
  ∃ qs' r',Ar (.loop QP) (MW xs [d] xs.length qs r ((i:Int)-1)) (.exit 0) (MW xs [d] xs.length qs' r' (-1))/\qs'.length=xs.length/\AP qs'/\(0<=r'/\r'<d)/\d*Ab qs'+r'=d*Ab qs+4294967296^i*r+Ab (xs.take i):=by
 intro i;induction i with
 | zero =>
  intro qs r _ hl hu hr _;refine⟨qs,r,Ao (yU xs [d] xs.length qs r _ (by simp)) (by nofun),hl,hu,hr,by simp[Ab]⟩
 | succ i ih =>
  intro qs r hi hl hu hr hz;have ei:(((i+1:Nat):Int)-1)=(i:Nat):=by omega
  have ej:I O ((i:Int)-1)=(i:Int)-1:=Bl (by omega) (by omega);have hxi:=AG hx i;have ed:([d]:LI).getD (A 0) 0=d:=rfl;have hk:=yT xs [d] xs.length qs r (i:Nat) (by simp) (by omega) (by simp) (by rw[ed,C8 (by omega)];omega) (by omega) hl;rw[ej,R,ed,MU (by omega) hxi,C8 (n:=d) (by omega)] at hk;have hv0:0<=r*4294967296+xs.getD i 0:=by omega
  rw[B8 hv0,Bs hv0] at hk;generalize hv:r*4294967296+xs.getD i 0=v at *
  have hm:=G2 v d;have hm0:=FE v (show d ≠ 0 by omega);have hm1:=Ey v hd.1;have hq0:0<=v / d:=J3 hv0 (by omega);have hq1:v / d<4294967296:=by
   apply K4 hd.1;have:=Ae (show r<=d-1 by omega) (show (0:Int)<=4294967296 by omega);have:(d-1)*4294967296=4294967296*d-4294967296:=by omega
   omega
  rw[C8 (n:=v / d) (by omega),Q' ⟨hq0,hq1⟩] at hk;obtain⟨qs',r',g1,g2,g3,g4,g5⟩:=ih (qs.set i (v / d)) (v % d) (by omega) (by simpa using hl) (Cw hu ⟨hq0,hq1⟩) ⟨hm0,hm1⟩ (fun t ht=>by rw[Cs (by omega)];exact hz t (by omega));rw[ei];refine⟨qs',r',Cv.loop hk g1,g2,g3,g4,?_⟩;rw[g5,DP _ _ _ (by omega),hz i (by omega),DY xs i (by omega),A2];generalize (4294967296:Int)^i=P at *
  have e2:xs.getD i 0=d*(v / d)+v % d-r*4294967296:=by omega
  rw[e2];grind
theorem mH{xs ys:LI}{y:Int}{s:Nat}(hy0:ys ≠ [])(hyl:ys.length<=1048576)(hy:ys.getD (ys.length-1) 0=y)(hb:0<y)(hs:s<32)(h1:2147483648<=y*2^s)(h2:y*2^s<4294967296):∀ (r i:Nat),i+r=s ->
  Ar (.loop QO) (Li xs ys (i:Nat)) (.exit 2) (Li xs ys (s:Nat)):=by
 have hpos:=An.2 hy0;have en:I O ((ys.length:Int)-1)=((ys.length-1:Nat):Int):=by rw[Bl (by omega) (by omega)];omega
 have cond:∀ i:Nat,i<=s->(I Ac ((T (Am .u32) (I Ac ((ys.getD (A (I O ((ys.length:Int)-1))) 0)*2^(min (A (I U (i:Int))) (Am .u32)))) &&& T (Am .u32) 2147483648).toNat)==0)=decide (y*2^i<2147483648):=by
  intro i hi;have em:min (A (i:Int)) (Am .u32)=i:=by rw[R];show min i 32=i;omega
  have hp:=G5 hi;have hp0:=BE i;have hle:=Ak hp (show 0<=y by omega);have hge:=A6 (show 0<=y by omega) (show (0:Int)<=2^i by omega);rw[C8 (n:=(i:Int)) (by omega),em,en,R,hy,Q' (n:=y*2^i) (by omega)];exact A6b (by omega)
 intro r;induction r with
 | zero =>
  intro i hi;have:i=s:=by omega
  subst this;exact Ao (yW xs ys _ (by rw[cond i (Ap _)];simp;omega) (by rw[en];omega) (by rw[C8 (by omega)];omega)) (by nofun)
 | succ r ih =>
  intro i hi;have ei:I O ((i:Int)+1)=((i+1:Nat):Int):=by rw[Bl (by omega) (by omega)];omega
  have hlt:y*2^i<2147483648:=by
   have hp:=G5 (show i+1<=s by omega);rw[A2] at hp;have hle:=Ak hp (show 0<=y by omega);rw[<- AH] at hle;omega
  have k:=yV xs ys (i:Nat) (by rw[cond i (by omega)];simpa using hlt) (by rw[en];omega) (by rw[C8 (by omega)];omega);rw[ei] at k;exact Cv.loop k (ih (i+1) (by omega))
section
variable {k:Nat} {us vs:LI} {kq:Nat} {qs:LI} {s:Int} {j m:Nat}
theorem mI(hvl:vs.length=m+2)(hl:us.length=k)(hk:k<=1048577)(hj:j+m+2<k)(h:Dig m (Ab vs) (Ab (us.drop j)) (vs.getD (m+1) 0) (vs.getD m 0) (us.getD (j+m+2) 0) (us.getD (j+m+1) 0) (us.getD (j+m) 0)):∀ (f:Nat) (g r:Int),g.toNat<=f ->
  DigI (Ab vs) (Ab (us.drop j)) (vs.getD (m+1) 0) (us.getD (j+m+2) 0*4294967296+us.getD (j+m+1) 0) g r->r<4294967296 ->
  ∃ g' r',Ar (.loop HF) (Eu k us vs ((m+2:Nat):Int) kq qs s (j:Nat) g r) (.exit 6) (Eu k us vs ((m+2:Nat):Int) kq qs s (j:Nat) g' r') /\
   (0<=g'/\g'<4294967296)/\Ab (us.drop j)<(g'+1)*Ab vs/\g'*Ab vs<Ab (us.drop j)+Ab vs:=by
 have ht:=h.htop;have hnx:=h.hnxt;have hz:=h.hz;have e1:I O (I O ((j:Int)+((m+2:Nat):Int))-2)=((j+m:Nat):Int):=by
  rw[Bl (n:=(j:Int)+((m+2:Nat):Int)) (by omega) (by omega),Bl (by omega) (by omega)];omega
 have e2:I O (((m+2:Nat):Int)-2)=(m:Int):=by rw[Bl (by omega) (by omega)];omega
 have e3:I O (((m+2:Nat):Int)-1)=((m+1:Nat):Int):=by rw[Bl (by omega) (by omega)];omega
 have et:I U (vs.getD (A (I O (((m+2:Nat):Int)-1))) 0)=vs.getD (m+1) 0:=by rw[e3,R,C8 (by omega)]
 have en:I U (vs.getD (A (I O (((m+2:Nat):Int)-2))) 0)=vs.getD m 0:=by rw[e2,R,C8 (by omega)]
 have n2:0<=I O (((m+2:Nat):Int)-2)/\I O (((m+2:Nat):Int)-2)<(vs.length:Int):=by rw[e2];omega
 have n1:0<=I O (((m+2:Nat):Int)-1)/\I O (((m+2:Nat):Int)-1)<(vs.length:Int):=by rw[e3];omega
 have nu:0<=I O (I O ((j:Int)+((m+2:Nat):Int))-2)/\I O (I O ((j:Int)+((m+2:Nat):Int))-2)<(k:Int):=by rw[e1];omega
 have ecmp:∀ g r:Int,0<=r->r<4294967296->0<=g*vs.getD m 0/\g*vs.getD m 0<18446744073709551616->(B (I U (g*(I U (vs.getD (A (I O (((m+2:Nat):Int)-2))) 0)))>I U ((T (Am .u64) (I U (r*2^(min (A 32) (Am .u64)))) ||| T (Am .u64) (I U (us.getD (A (I O (I O ((j:Int)+((m+2:Nat):Int))-2))) 0))).toNat)):Bool)=decide (r*4294967296+us.getD (j+m) 0<g*vs.getD m 0):=by
  intro g r hr0 hr hgn;rw[en,e1,R,MU ⟨hr0,hr⟩ hz,C8 hgn]
 intro f;induction f with
 | zero =>
  intro g r hf i hr;have hg:g=0:=by have:=i.g0;omega
  subst hg;have c2:¬ (r*4294967296+us.getD (j+m) 0<0*vs.getD m 0):=by have:=i.r0;omega
  have k5:=Yp k us vs ((m+2:Nat):Int) kq qs s (j:Nat) 0 r (by simp) (by simpa using hr) (by
   rw[ecmp 0 r i.r0 hr (by omega),decide_eq_false_iff_not];exact c2) n2 nu hl
  exact⟨0,r,Ao k5 (by nofun),by omega,i.up,h.out i (by omega) (TP (by omega))⟩
 | succ f ih =>
  intro g r hf i hr;have hg1:=i.gle;have hg0:=i.g0;have hr0:=i.r0;have hgn:0<=g*vs.getD m 0/\g*vs.getD m 0<18446744073709551616:=by
   have a:=A6 hg0 hnx.1;have b:=DJ hg1 (show vs.getD m 0<=4294967295 by omega) hnx.1 (by omega);omega
  have er:I U (r+(I U (vs.getD (A (I O (((m+2:Nat):Int)-1))) 0)))=r+vs.getD (m+1) 0:=by rw[et];exact C8 (by omega)
  by_cases hc:4294967296<=g\/r*4294967296+us.getD (j+m) 0<g*vs.getD m 0
  ·have i2:=h.step i hc;have hg2:=i2.g0;have eg:I U (g-1)=g-1:=C8 (by omega);by_cases hbig:4294967296<=r+vs.getD (m+1) 0
   ·have hgs:=h.small_g i2 hbig;have hrun:Ar HF (Eu k us vs ((m+2:Nat):Int) kq qs s (j:Nat) g r) (.exit 6) (Eu k us vs ((m+2:Nat):Int) kq qs s (j:Nat) (I U (g-1)) (I U (r+(I U (vs.getD (A (I O (((m+2:Nat):Int)-1))) 0))))):=by
     by_cases hg:4294967296<=g
     ·exact yX k us vs _ kq qs s _ g r (by simpa using hg) (by rw[er];simpa using hbig) n1
     ·exact yZ k us vs _ kq qs s _ g r (by simp;omega) (by simpa using hr) (by rw[ecmp g r hr0 hr hgn,decide_eq_true_eq];omega) (by rw[er];simpa using hbig) n2 nu hl n1
    rw[eg,er] at hrun;exact⟨g-1,_,Ao hrun (by nofun),⟨hg2,hgs⟩,i2.up,h.out i2 hgs (Or.inl hbig)⟩
   ·have hrun:Ar HF (Eu k us vs ((m+2:Nat):Int) kq qs s (j:Nat) g r) .norm (Eu k us vs ((m+2:Nat):Int) kq qs s (j:Nat) (I U (g-1)) (I U (r+(I U (vs.getD (A (I O (((m+2:Nat):Int)-1))) 0))))):=by
     by_cases hg:4294967296<=g
     ·exact yY k us vs _ kq qs s _ g r (by simpa using hg) (by rw[er,decide_eq_false_iff_not];omega) n1
     ·exact zA k us vs _ kq qs s _ g r (by simp;omega) (by simpa using hr) (by rw[ecmp g r hr0 hr hgn,decide_eq_true_eq];omega) (by rw[er,decide_eq_false_iff_not];omega) n2 nu hl n1
    rw[eg,er] at hrun;obtain⟨g',r',a1,a2⟩:=ih (g-1) (r+vs.getD (m+1) 0) (by omega) i2 (by omega);exact⟨g',r',Cv.loop hrun a1,a2⟩
  ·have k5:=Yp k us vs ((m+2:Nat):Int) kq qs s (j:Nat) g r (by simp;omega) (by simpa using hr) (by rw[ecmp g r hr0 hr hgn,decide_eq_false_iff_not];omega) n2 nu hl;exact⟨g,r,Ao k5 (by nofun),by omega,i.up,h.out i (by omega) (TP (by omega))⟩
end
section
variable {k:Nat} {vs:LI} {kq:Nat} {qs:LI} {s:Int} {j:Nat} {g:Int}
theorem mJ(hv:AP vs)(hk:k<=1048577)(hg:0<=g/\g<4294967296)(hj:j+vs.length<=k):∀ (r i:Nat) (us:LI) (b c:Int),r+i=vs.length->us.length=k->AP us->0<=b/\b<=1->0<=c/\c<4294967296 ->
  Ar (.loop OM) (Jf k us vs (vs.length:Nat) kq qs s (j:Nat) g b c (i:Nat)) (.exit 8) (Jf k (FL g vs j r i us b c).1 vs (vs.length:Nat) kq qs s (j:Nat) g (FL g vs j r i us b c).2.1 (FL g vs j r i us b c).2.2 (vs.length:Nat)):=by
 intro r;induction r with
 | zero =>
  intro i us b c hi _ _ _ _;have:i=vs.length:=by omega
  subst this;exact Ao (zC k us vs _ kq qs s _ g b c _ (by simp)) (by nofun)
 | succ r ih =>
  intro i us b c hi hl hu hb hc;have ei:I O ((i:Int)+1)=((i+1:Nat):Int):=by rw[Bl (by omega) (by omega)];omega
  have eij:I O ((i:Int)+(j:Int))=((i+j:Nat):Int):=by rw[Bl (by omega) (by omega)];omega
  have hvi:=AG hv i;have hui:=AG hu (i+j);have hw:=VW hg hvi hc;have hgv:=A6 hg.1 hvi.1;have h1:=zB k us vs (vs.length:Nat) kq qs s (j:Nat) g b c (i:Nat) (by simp;omega) (by omega) (by rw[eij];omega) hl;have ecc:c+g*vs.getD i 0=g*vs.getD i 0+c:=Ks _ _;rw[eij,ei,R,R,C8 (n:=vs.getD i 0) (by omega),C8 (n:=us.getD (i+j) 0) (by omega),C8 (n:=g*vs.getD i 0) (by omega),ecc,C8 hw,Yl,Aqk] at h1;have emk:I U ((T (Am .u64) (g*vs.getD i 0+c) &&& T (Am .u64) 4294967295).toNat)=(g*vs.getD i 0+c) % 4294967296:=A6a (s:=32) hw (by decide);rw[emk] at h1;generalize hp:g*vs.getD i 0+c=p at *
  rw[B6,B6] at h1;have hstep:FL g vs j (r+1) i us b c=FL g vs j r (i+1) (us.set (i+j) ((us.getD (i+j) 0-p % 4294967296-b) % 4294967296)) (if us.getD (i+j) 0-p % 4294967296-b<0 then 1 else 0) (p / 4294967296):=by rw[FL,hp]
  generalize hd:us.getD (i+j) 0-p % 4294967296-b=d at *
  have e1:I Ac (((us.getD (i+j) 0-p % 4294967296) % 18446744073709551616-b) % 18446744073709551616)=d % 4294967296:=by rw[DW];omega
  have e2:((us.getD (i+j) 0-p % 4294967296) % 18446744073709551616-b) % 18446744073709551616 / 9223372036854775808=(if d<0 then 1 else 0):=by split <;> omega
  rw[e1,e2] at h1;rw[hstep];exact Cv.loop h1 (ih (i+1) _ _ _ (by omega) (by simpa using hl) (Cw hu (by omega)) (by split <;> omega) (by omega))
theorem mK(hv:AP vs)(hk:k<=1048577)(hj:j+vs.length<=k):∀ (r i:Nat) (us:LI) (c:Int),r+i=vs.length->us.length=k->AP us->0<=c/\c<=1 ->
  Ar (.loop QQ) (Lj k us vs (vs.length:Nat) kq qs s (j:Nat) g c (i:Nat)) (.exit 10) (Lj k (HW vs j r i us c).1 vs (vs.length:Nat) kq qs s (j:Nat) g (HW vs j r i us c).2 (vs.length:Nat)):=by
 intro r;induction r with
 | zero =>
  intro i us c hi _ _ _;have:i=vs.length:=by omega
  subst this;exact Ao (zG k us vs _ kq qs s _ g c _ (by simp)) (by nofun)
 | succ r ih =>
  intro i us c hi hl hu hc;have ei:I O ((i:Int)+1)=((i+1:Nat):Int):=by rw[Bl (by omega) (by omega)];omega
  have eij:I O ((i:Int)+(j:Int))=((i+j:Nat):Int):=by rw[Bl (by omega) (by omega)];omega
  have hvi:=AG hv i;have hui:=AG hu (i+j);have h1:=zF k us vs (vs.length:Nat) kq qs s (j:Nat) g c (i:Nat) (by simp;omega) (by rw[eij];omega) hl (by omega);have ecc:c+(us.getD (i+j) 0+vs.getD i 0)=us.getD (i+j) 0+vs.getD i 0+c:=Ks _ _;rw[eij,ei,R,R,C8 (n:=vs.getD i 0) (by omega),C8 (n:=us.getD (i+j) 0) (by omega),C8 (n:=us.getD (i+j) 0+vs.getD i 0) (by omega),ecc,C8 (n:=us.getD (i+j) 0+vs.getD i 0+c) (by omega),Yl,DW] at h1;exact Cv.loop h1 (ih (i+1) _ _ (by omega) (by simpa using hl) (Cw hu (by omega)) (by omega))
end
def TDC:Cn:=TDB
theorem mL:Ca AY TDC:=mF
section
variable {vs:LI} {m:Nat} {k kq:Nat} {s:Int}
theorem zH(hv:AP vs)(hm:vs.length=m+2)(ht:2147483648<=vs.getD (m+1) 0)(hk:k=kq+vs.length)(hkb:k<=1048577):∀ (i:Nat) (us qs:LI),i<=kq->us.length=k->AP us->qs.length=kq->AP qs->(∀ t,t<i->qs.getD t 0=0)->Ab (us.drop i)<Ab vs ->
  ∃ us' qs',Ar (.loop NV) (IM k us vs (vs.length:Nat) kq qs s ((i:Int)-1)) (.exit 4) (IM k us' vs (vs.length:Nat) kq qs' s (-1)) /\
   us'.length=k/\AP us'/\qs'.length=kq/\AP qs'/\Ab us'<Ab vs/\Ab us=Ab vs*(Ab qs'-Ab qs)+Ab us':=by
 intro i;induction i with
 | zero =>
  intro us qs _ h1 h2 h3 h4 _ h6;exact⟨us,qs,Ao (Arl k us vs _ kq qs s _ (by simp)) (by nofun),h1,h2,h3,h4,h6,by rw[Tt,AM,DK]⟩
 | succ i ih =>
  intro us qs hi h1 h2 h3 h4 h5 h6;have ei:(((i+1:Nat):Int)-1)=(i:Nat):=by omega
  have ej:I O ((i:Int)-1)=(i:Int)-1:=Bl (by omega) (by omega);have en:I O ((i:Int)+(vs.length:Int))=((i+vs.length:Nat):Int):=by rw[Bl (by omega) (by omega)];omega
  have en1:I O (((i+vs.length:Nat):Int)-1)=((i+m+1:Nat):Int):=by rw[Bl (by omega) (by omega)];omega
  have ev1:I O ((vs.length:Int)-1)=((m+1:Nat):Int):=by rw[Bl (by omega) (by omega)];omega
  have hD:=sE (us:=us) (vs:=vs) (j:=i) (m:=m) h2 hv hm (by omega) ht h6;have hI:=hD.init;have hr1:=Ey (us.getD (i+m+2) 0*4294967296+us.getD (i+m+1) 0) (show 0<vs.getD (m+1) 0 by omega);have ht2:=hD.htop;have et:I U (vs.getD (A (I O ((vs.length:Int)-1))) 0)=vs.getD (m+1) 0:=by rw[ev1,R,C8 (by omega)]
  obtain⟨g,r,q1,q2,q3,q4⟩:=mI (k:=k) (kq:=kq) (qs:=qs) (s:=s) hm h1 hkb (by omega) hD _ _ _ (Ap _) hI (by omega);rw[<- hm] at q1;have hn0:0<=us.getD (i+m+2) 0*4294967296+us.getD (i+m+1) 0:=by have:=hD.hx;have:=hD.hy;omega
  have hq0:=hI.g0;have hq1:=hI.gle;have hl5:Ar (.loop HF) (Eu k us vs (vs.length:Nat) kq qs s (i:Nat) (I U (Aw (I U ((T (Am .u64) (I U ((I U (us.getD (A (I O ((i:Int)+(vs.length:Int)))) 0))*2^(min (A 32) (Am .u64)))) ||| T (Am .u64) (I U (us.getD (A (I O ((I O ((i:Int)+(vs.length:Int)))-1))) 0))).toNat)) (I U (vs.getD (A (I O ((vs.length:Int)-1))) 0)))) (AD (I U ((T (Am .u64) (I U ((I U (us.getD (A (I O ((i:Int)+(vs.length:Int)))) 0))*2^(min (A 32) (Am .u64)))) ||| T (Am .u64) (I U (us.getD (A (I O ((I O ((i:Int)+(vs.length:Int)))-1))) 0))).toNat)) (I U (vs.getD (A (I O ((vs.length:Int)-1))) 0)))) (.exit 6) (Eu k us vs (vs.length:Nat) kq qs s (i:Nat) g r):=by
   rw[et,en,en1,R,R,show i+vs.length=i+m+2 by omega,C8 (n:=us.getD (i+m+2) 0) (by have:=hD.hx;omega),MU hD.hx hD.hy,B8 hn0,Bs hn0,C8 ⟨hq0,by omega⟩];exact q1
  have hms:=mJ (k:=k) (kq:=kq) (qs:=qs) (s:=s) (j:=i) (g:=g) hv hkb q2 (by omega) vs.length 0 us 0 0 (by omega) h1 h2 (by omega) (by omega);have hmo:=VX (j:=i) q2 hv vs.length 0 us 0 0 (by omega) (by omega) h2 (by omega) (by omega);have hst:=Ts h2 hv (j:=i) (by omega) h6 q2 q3 q4;generalize hM:FL g vs i vs.length 0 us 0 0=M at *
  obtain⟨m1,m2,m3,m4,_,_⟩:=hmo;obtain⟨d1,d2⟩:=Aqy (AG m2 (i+vs.length)) m4 m3;dsimp only at hst;obtain⟨S1,S2⟩:=hst;have fin:∀ (ws:LI) (q:Int),StepOk us vs ws i q->(0<=q/\q<4294967296)->Ar NV (IM k us vs (vs.length:Nat) kq qs s (i:Nat)) .norm (IM k ws vs (vs.length:Nat) kq (qs.set i q) s ((i:Int)-1)) ->
    ∃ us' qs',Ar (.loop NV) (IM k us vs (vs.length:Nat) kq qs s (i:Nat)) (.exit 4) (IM k us' vs (vs.length:Nat) kq qs' s (-1)) /\
   us'.length=k/\AP us'/\qs'.length=kq/\AP qs'/\Ab us'<Ab vs/\Ab us=Ab vs*(Ab qs'-Ab qs)+Ab us':=by
   intro ws q hs hq hrun;obtain⟨us',qs',a1,a2,a3,a4,a5,a6,a7⟩:=ih ws (qs.set i q) (by omega) (by rw[hs.len];exact h1) hs.u32 (by simpa using h3) (Cw h4 hq) (fun t ht=>by rw[Cs (by omega)];exact h5 t (by omega)) hs.low;refine⟨us',qs',Cv.loop hrun a1,a2,a3,a4,a5,a6,?_⟩;have e:=hs.val;rw[DP _ _ _ (by omega),h5 i (by omega),EY] at a7;generalize (4294967296:Int)^i=P at *
   grind
  have hn5:¬ I U (vs.getD (A (I O ((vs.length:Int)-1))) 0)=0:=by rw[et];omega
  rw[ei];by_cases hd:M.1.getD (i+vs.length) 0-M.2.2-M.2.1<0
  ·obtain⟨S2,hg1⟩:=S2 hd;have hu2:AP (M.1.set (i+vs.length) ((M.1.getD (i+vs.length) 0-M.2.2-M.2.1) % 4294967296)):=Cw m2 (by omega);have hab:=mK (k:=k) (kq:=kq) (qs:=qs) (s:=s) (j:=i) (g:=g-1) hv hkb (by omega) vs.length 0 (M.1.set (i+vs.length) ((M.1.getD (i+vs.length) 0-M.2.2-M.2.1) % 4294967296)) 0 (by omega) (by rw[A',m1];exact h1) hu2 (by omega);have hao:=VY (j:=i) hv vs.length 0 (M.1.set (i+vs.length) ((M.1.getD (i+vs.length) 0-M.2.2-M.2.1) % 4294967296)) 0 (by omega) (by rw[A',m1];omega) hu2 (by omega);obtain⟨b1,b2,b3,_,_⟩:=hao;generalize hB:HW vs i vs.length 0 (M.1.set (i+vs.length) ((M.1.getD (i+vs.length) 0-M.2.2-M.2.1) % 4294967296)) 0=Bb at *
   have eg:I U (g-1)=g-1:=C8 (by omega);have k1:=Arj k us vs (vs.length:Nat) kq qs s (i:Nat) M.1 Bb.1 g r M.2.1 M.2.2 Bb.2 (by simp) (by rw[en,R,d1,if_pos hd];rfl) (by rw[en];omega) h1 (by rw[en,en1];omega) (by rw[ev1];omega) hn5 hl5 hms (by rw[m1];exact h1) (by rw[en,R,d2,eg];exact hab) (by rw[b1,A',m1];exact h1) (by omega) h3;rw[en,R,eg,R,Q' (n:=g-1) (by omega),ej,Q' (n:=Bb.2) (by omega),DW] at k1;exact fin _ _ S2 (by omega) k1
  ·have k2:=Ark k us vs (vs.length:Nat) kq qs s (i:Nat) M.1 g r M.2.1 M.2.2 (by simp) (by rw[en,R,d1,if_neg hd];rfl) (by rw[en];omega) h1 (by rw[en,en1];omega) (by rw[ev1];omega) hn5 hl5 hms (by rw[m1];exact h1) (by omega) h3;rw[en,R,R,d2,Q' (n:=g) q2,ej] at k2;exact fin _ _ (S1 (by omega)) q2 k2
end
abbrev lz(n:Int):LI:=M n.toNat
theorem zI{xs:LI}(h:F1 xs):xs=lz (Ab xs):=by
 refine Sp h (Ci _) ?_;rw[Cr];have:=AZ h.1;omega
theorem Azz{n:Int}(h:0<=n):M n.natAbs=lz n:=by unfold lz;congr 1;omega
theorem rvF(xs:LI):rv false xs=Ab xs:=rfl
theorem dX{xs ys:LI}(hx:F1 xs)(hy:F1 ys)(hy0:ys ≠ [])(h1:xs.length<1000000)(h2:ys.length<1000000) :
  RQ 165 [sL lm xs,sL lm ys] (Ax [H (lz (Ab xs / Ab ys)).length (lm (lz (Ab xs / Ab ys))),H (lz (Ab xs % Ab ys)).length (lm (lz (Ab xs % Ab ys)))]):=by
 have hyl:=An.2 hy0;have hcmp:=Oa hx hy (by omega);have hx0:=AZ hx.1;have hyp:=IG hy hy0;by_cases hlt:Ab xs<Ab ys
 ·rw[GK hx0 hlt,Gh hx0 hlt,<- zI hx];exact lY xs ys _ (by unfold CI;rw[if_pos hlt];rfl) hcmp
 have hcm:decide (CI (Ab xs) (Ab ys)<0)=false:=by unfold CI;rw[if_neg hlt];split <;> rfl
 by_cases hone:ys.length=1
 ·obtain⟨y,rfl⟩:=A2p.1 hone;have e1:Ab [y]=y:=by simp[Ab]
  rw[e1] at hyp |-;have hyb:=hy.1 y (by simp);obtain⟨qs,r,q1,q2,q3,q4,q5⟩:=mG hx.1 (d:=y) ⟨hyp,hyb.2⟩ (by omega) xs.length (Av xs.length 0) 0 (Ap _) (by simp) (ES _) (by omega) (fun t _=>DA _ _);rw[EG,EK,AM,AM,B5,DK] at q5;have hd:=(L4 hyp (a:=Ab xs) (r:=r) (q:=Ab qs)).2 ⟨by omega,q4.1,q4.2⟩;have ur:AP [r]:=fun x h=>by rw[I3.1 h];omega
  have er:Ab [r]=r:=by simp[Ab]
  have h:=lZ xs [y] qs _ r (-1) xs.length hcm rfl hcmp (by omega) (by
   rw[R,Fc,Bl (by omega) (by omega)];exact q1) (by rw[<- q2];exact DX (by omega)) (by rw[Q' (n:=r) (by omega)];exact DX (xs:=[r]) (by simp))
  rw[Q' (n:=r) (by omega),II q3,II ur,er,<- hd.1,<- hd.2] at h;exact h
 ·obtain⟨m,hm⟩:∃ m,ys.length=m+2:=⟨ys.length-2,by omega⟩;have hxl:ys.length<=xs.length:=by
   rcases Cp xs.length ys.length with g | g
   ·exact absurd (IJ hx hy g) hlt
   ·exact g
  have hyt:0<ys.getD (m+1) 0/\ys.getD (m+1) 0<4294967296:=by
   have a:=AG hy.1 (m+1);rcases hy.2 with g | g
   ·exact absurd g hy0
   ·rw[show ys.length-1=m+1 by omega] at g;omega
  obtain⟨s,hs,s1,s2,_⟩:=sF hyt;have hp:=BE s;have hU:=QZ (neg:=false) hx.1 s (by omega);have hV:=QZ (neg:=false) hy.1 s (by omega);rw[rvF] at hU hV;have hU0:0<=Ab xs*2^s:=A6 hx0 (by omega);have hV0:0<Ab ys*2^s:=BL hyp hp;have eu:Ab (M (Ab xs*2^s).natAbs)=Ab xs*2^s:=by rw[Cr];omega
  have ev:Ab (M (Ab ys*2^s).natAbs)=Ab ys*2^s:=by rw[Cr];omega
  have cu:=Ci (Ab xs*2^s).natAbs;have cv:=Ci (Ab ys*2^s).natAbs;have hp2:(2:Int)^s<=2147483648:=by
   have:=G5 (show s<=31 by omega);rwa [show (2:Int)^31=2147483648 by decide] at this
  have ysplit:=Dq ys (j:=m+1) (by omega);have yd:=C5 ys (m+1);rw[DQ (xs:=ys) (i:=m+1+1) (by omega),AM,B5] at yd;rw[yd] at ysplit;have ylo:=Ge hy.1 (m+1);have ylo0:=AZ (DS hy.1 (m+1));have hP:=Cy (m+1);have hV1:2147483648*4294967296^(m+1)<=Ab ys*2^s:=by
   rw[ysplit];have a:=Ae s1 (show (0:Int)<=4294967296^(m+1) by omega);have b:=A6 (show (0:Int)<=2^s by omega) ylo0;have e:(Ab (B3 (m+1) ys)+4294967296^(m+1)*ys.getD (m+1) 0)*2^s=2^s*Ab (B3 (m+1) ys)+ys.getD (m+1) 0*2^s*4294967296^(m+1):=by grind
   omega
  have e9:(4294967296:Int)^(m+2)=4294967296^(m+1)*4294967296:=A2 _ _;have hV2:Ab ys*2^s<4294967296^(m+2):=by
   rw[ysplit];have e0:=Q_ (show s<=32 by omega);have a1:ys.getD (m+1) 0+1<=2^(32-s):=by
    rw[e0] at s2;have:=Gi s2 (by omega);omega
   have a2:=Ae a1 (show (0:Int)<=2^s*4294967296^(m+1) by have:=BL hp hP;omega);have a3:=JS ylo hp;have e1:(ys.getD (m+1) 0+1)*(2^s*4294967296^(m+1))=2^s*(4294967296^(m+1)*ys.getD (m+1) 0)+2^s*4294967296^(m+1):=by grind
   have e2:(2:Int)^(32-s)*(2^s*4294967296^(m+1))=4294967296^(m+1)*4294967296:=by rw[<- AH,<- e0,AA]
   rw[AA,CW];omega
  have hvl1:(M (Ab ys*2^s).natAbs).length<=m+2:=K9 cv (by rw[ev];exact hV2);have hvl2:m+2<=(M (Ab ys*2^s).natAbs).length:=by
   apply Np;intro hh;have a:=DI cv.1;rw[ev] at a;have b:=Gl (show (M (Ab ys*2^s).natAbs).length<=m+1 by omega);omega
  have hUlt:Ab xs*2^s<4294967296^(xs.length+1):=by
   have a:=DI hx.1;have b:=Cx a hp;have c:=Ak hp2 (show (0:Int)<=4294967296^xs.length by have:=Cy xs.length;omega);have d:(4294967296:Int)^(xs.length+1)=4294967296^xs.length*4294967296:=A2 _ _;have e:=Cy xs.length;omega
  have hul1:(M (Ab xs*2^s).natAbs).length<=xs.length+1:=K9 cu (by rw[eu];exact hUlt);have hxne:xs ≠ []:=by intro e;rw[e,Ib] at hxl;omega
  have hul2:xs.length<=(M (Ab xs*2^s).natAbs).length:=by
   apply Np;intro hh;have a:=DI cu.1;rw[eu] at a;have b:=Gl (show (M (Ab xs*2^s).natAbs).length<=xs.length-1 by omega);have c:=OP hx hxne;have d:=Ak (show (1:Int)<=2^s by omega) hx0;omega
  have hul3:0<xs.length:=An.2 hxne;generalize hvs:M (Ab ys*2^s).natAbs=vs at *
  generalize hus:M (Ab xs*2^s).natAbs=us0 at *
  have hvl:vs.length=m+2:=by omega
  have u00:AP (us0++[0,0]):=fun x hh=>by
   rcases BV.1 hh with g | g
   ·exact cu.1 x g
   ·simp at g;omega
  have v00:Ab (us0++[0,0])=Ab xs*2^s:=by rw[Gu];simp[Ab,eu]
  have u2:AP ((us0++[0,0]).take (xs.length+1)):=DS u00 _;have u1:((us0++[0,0]).take (xs.length+1)).length=xs.length+1:=by simp;omega
  have u3:Ab ((us0++[0,0]).take (xs.length+1))=Ab xs*2^s:=by
   have a:=Dq (us0++[0,0]) (j:=xs.length+1) (by simp;omega);rw[Jv u00 (n:=xs.length+1) (V:=4294967296^(xs.length+1)) (Dz _) (by rw[v00];exact hUlt),AM,B5,v00] at a;exact a.symm
  have elm:B3 ((xs.length+1)*1) (lm us0++([F Ac 0,F Ac 0]:List AV))=lm ((us0++[0,0]).take (xs.length+1)):=by
   simp[lm,RI]
  generalize hU':(us0++[0,0]).take (xs.length+1)=us at *
  have hvtop:2147483648<=vs.getD (m+1) 0:=by
   have a:=Dq vs (j:=m+1) (by omega);have b:=C5 vs (m+1);rw[DQ (xs:=vs) (i:=m+1+1) (by omega),AM,B5] at b;rw[b] at a;have c:=Ge cv.1 (m+1);apply KD.1;intro h;have:=Ak (show vs.getD (m+1) 0+1<=2147483648 by omega) (show (0:Int)<=4294967296^(m+1) by omega);rw[CW,Dn,AA _ 2147483648] at this;omega
  have hini:Ab (us.drop (xs.length-ys.length+1))<Ab vs:=by
   have a:=Dq us (j:=xs.length-ys.length+1) (by omega);have b:=AZ (DS u2 (xs.length-ys.length+1));have c:=DI hx.1;have d:=Cx c hp;have e:(4294967296:Int)^xs.length=4294967296^(xs.length-ys.length+1)*4294967296^(m+1):=by rw[<- BB];congr 1;omega
   have hQ:=Cy (xs.length-ys.length+1);rw[ev];apply jA (b:=2^s*4294967296^(m+1))
   ·apply Fj (a:=4294967296^(xs.length-ys.length+1)) _ (by omega);have e2:(4294967296:Int)^(xs.length-ys.length+1)*(2^s*4294967296^(m+1))=4294967296^xs.length*2^s:=by rw[e];grind
    omega
   ·have:=Ae hp2 (show (0:Int)<=4294967296^(m+1) by omega);omega
  obtain⟨us',qs,l1,l2,l3,l4,l5,l6,l7⟩:=zH (k:=xs.length+1) (kq:=xs.length-ys.length+1) (s:=(s:Nat)) cv.1 hvl hvtop (by omega) (by omega) (xs.length-ys.length+1) us (Av (xs.length-ys.length+1) 0) (Ap _) u1 u2 (by simp) (ES _) (fun t _=>DA _ _) hini;rw[EG,EY,u3,ev] at l7;rw[ev] at l6;have hR:Ab us'=2^s*(Ab xs-Ab ys*Ab qs):=by
   rw[Hu];have:2^s*(Ab ys*Ab qs)=Ab ys*2^s*Ab qs:=by grind
   rw[this,AA (2^s) (Ab xs)];omega
  have us0':=AZ l3;have hR0:0<=Ab xs-Ab ys*Ab qs:=by
   apply KD.1;intro h;have:=Ak (show Ab xs-Ab ys*Ab qs <= -1 by omega) (show (0:Int)<=2^s by omega);omega
  have hR1:Ab xs-Ab ys*Ab qs<Ab ys:=by
   rw[hR,AA (Ab ys) (2^s)] at l6;exact Fj l6 (by omega)
  have hd:=(L4 hyp (a:=Ab xs) (r:=Ab xs-Ab ys*Ab qs) (q:=Ab qs)).2 ⟨by omega,hR0,hR1⟩;have hdn:=Wb (neg:=false) l3 s (by omega) (by omega);rw[rvF,hR,BT _ (show (2:Int)^s ≠ 0 by omega)] at hdn;have emx:(if (I O ((ys.length:Int)+1))>(I O ((xs.length:Int)+1)) then (I O ((ys.length:Int)+1)) else (I O ((xs.length:Int)+1)))=((xs.length+1:Nat):Int):=by
   rw[Bl (n:=(ys.length:Int)+1) (by omega) (by omega),Bl (n:=(xs.length:Int)+1) (by omega) (by omega),if_neg (by omega)];omega
  have esub:I O (((xs.length+1:Nat):Int)-(vs.length:Int))=((xs.length-ys.length+1:Nat):Int):=by rw[Bl (by omega) (by omega)];omega
  have esb1:I O (((xs.length-ys.length+1:Nat):Int)-1)=((xs.length-ys.length+1:Nat):Int)-1:=Bl (by omega) (by omega);have hz:=mH (xs:=xs) (ys:=ys) (y:=ys.getD (m+1) 0) (s:=s) hy0 (by omega) (by rw[show ys.length-1=m+1 by omega]) hyt.1 hs s1 s2 s 0 (by omega);have key:=mA xs ys qs us' vs (CI (Ab xs) (Ab ys)) (s:Nat) (vs.length:Nat) (-1) (Ab xs*2^s) (Ab ys*2^s) (Ab xs-Ab ys*Ab qs) (xs.length+1) (xs.length-ys.length+1) hcm (by simp;omega) hcmp hz hV (by rw[hus];omega) hU
   (by rw[hus,emx];omega) (by rw[emx,hvs,R,esub];omega) (by
    rw[hus,hvs,emx,R,esub,R,esb1,elm,Fc];exact l1) (by rw[<- l4];exact DX (by omega)) (by rw[<- l2];exact hdn)
  rw[II l5,Azz hR0] at key;rw[hd.1,hd.2];exact key
def TDD:Cn:=TDC
theorem h:Ca AY TDD:=mL
def LK(rs:List Rn)(n:Int):Al:=(C (sL pc rs)::(Y 2 (C (F O n)::(Y 31 []))))
theorem Arm(rs:List Rn)(n:Int)(c1:B (n>0)=true)(c2:((BJ (P (rs.getD (A (I O (n-1))) z0)))==0)=true)(n1:0<=(I O (n-1))/\(I O (n-1))<(rs.length:Int))(n2:RQ 79 [As (rs.getD (A (I O (n-1))) z0)] (F O (BJ (P (rs.getD (A (I O (n-1))) z0))))):Ar RL (LK rs n) .norm (LK rs (I O (n-1))):=(G f 400 [.b true,.v (As (rs.getD (A (I O (n-1))) z0)),.r (F O (BJ (P (rs.getD (A (I O (n-1))) z0)))),.b true] [0,3] (S c1 (S n1 (S (x n1) (S n2 (S c2 a0))))))
theorem Arn(rs:List Rn)(n:Int)(c1:B (n>0)=true)(c2:((BJ (P (rs.getD (A (I O (n-1))) z0)))==0)=false)(n1:0<=(I O (n-1))/\(I O (n-1))<(rs.length:Int))(n2:RQ 79 [As (rs.getD (A (I O (n-1))) z0)] (F O (BJ (P (rs.getD (A (I O (n-1))) z0))))):Ar RL (LK rs n) (.exit 0) (LK rs n):=(G f 400 [.b true,.v (As (rs.getD (A (I O (n-1))) z0)),.r (F O (BJ (P (rs.getD (A (I O (n-1))) z0)))),.b false] [0,3] (S c1 (S n1 (S (x n1) (S n2 (S c2 a0))))))
theorem Aro(rs:List Rn)(n:Int)(c1:B (n>0)=false):Ar RL (LK rs n) (.exit 0) (LK rs n):=(G f 400 [.b false,.b false] [0,3] (S c1 (S EI a0)))
def MX(rs:List Rn)(n:Int)(k:Nat)(cs:List AV)(i:Int):Al:=(C (sL pc rs)::(Y 2 (C (F O n)::(X 2 k cs::(C (F O i)::(Y 29 []))))))
theorem Arp(rs:List Rn)(n:Int)(k:Nat)(cs:List AV)(i:Int)(c1:B (i<n)=true)(n1:0<=i/\i<(rs.length:Int))(n2:k+1<=1048576)(n3:RQ 97 [As (rs.getD (A i) z0)] (Ah (P (rs.getD (A i) z0)))):Ar UE (MX rs n k cs i) .norm (MX rs n (k+1) (cs++([D (B ((P (rs.getD (A i) z0))<0)),H ((M (E (P (rs.getD (A i) z0)))).length) (lm (M (E (P (rs.getD (A i) z0)))))]:List AV)) (I O (i+1))):=(G f 400 [.b true,.v (As (rs.getD (A i) z0)),.r (Ah (P (rs.getD (A i) z0)))] [0,3,4,5] (S c1 (S n1 (S (x n1) (S n3 (S (show Bh ([D (B ((P (rs.getD (A i) z0))<0)),H ((M (E (P (rs.getD (A i) z0)))).length) (lm (M (E (P (rs.getD (A i) z0)))))]:List AV)=1*2 from rfl) (S n2 a0)))))))
theorem Arq(rs:List Rn)(n:Int)(k:Nat)(cs:List AV)(i:Int)(c1:B (i<n)=false):Ar UE (MX rs n k cs i) (.exit 2) (MX rs n k cs i):=(G f 400 [.b false] [0,3,4,5] (S c1 a0))
theorem A0a(rs:List Rn)(n i:Int)(k:Nat)(cs:List AV)(hl1:Ar (.loop RL) (LK rs (rs.length:Int)) (.exit 0) (LK rs n))(hl2:Ar (.loop UE) (MX rs n 0 ([]:List AV) 0) (.exit 2) (MX rs n k cs i)):RQ 46 [sL pc rs] (L 2 k cs):=A8 bI (Y 2 (X 2 k cs::(Y 32 []))) (W (Cv.seq (G f 400 [] [0,3] a0) (Cv.seq (Cv.block hl1) (q (Cv.seq (G f 400 [] [0,3,4,5] a0) (Cv.seq (Cv.block hl2) (G f 400 [] [2] a0)))))))
def Tu(ts:List Rn)(r:Rn)(e:Int)(w:Rn)(i:Int):Al:=(Y 2 (C (F O e)::(Y 1 (g [D r.1,H r.2.length (lm r.2)]::(Y 1 (g [D false,H 0 []]::(C (sL pc ts)::(g [D w.1,H w.2.length (lm w.2)]::(C (F O i)::(Y 27 []))))))))))
theorem A0b(ts:List Rn)(r:Rn)(e:Int)(w:Rn)(i:Int)(u:Int)(c1:B (i>=0)=true)(n1:0<=i/\i<(ts.length:Int))(n2:RQ 96 [As w,As r] (Ah ((P w)*(P r))))(n3:RQ 84 [As (ts.getD (A i) z0),F O (I O (e*(I O ((I O ((ts.length:Int)-1))-i))))] (CD u))(n4:RQ 95 [Ah ((P w)*(P r)),Ah u] (Ah (((P w)*(P r))+u))):Ar bZ (Tu ts r e w i) .norm (Tu ts r e (cn (((P w)*(P r))+u)) (I O (i-1))):=(G f 400 [.b true,.r (Ah ((P w)*(P r))),.v (As (ts.getD (A i) z0)),.r (CD u),.r (Ah (((P w)*(P r))+u))] [2,4,6,7,8,9] (S c1 (S n2 (S n1 (S (x n1) (S n3 (S n4 a0)))))))
theorem A0c(ts:List Rn)(r:Rn)(e:Int)(w:Rn)(i:Int)(c1:B (i>=0)=false):Ar bZ (Tu ts r e w i) (.exit 0) (Tu ts r e w i):=(G f 400 [.b false] [2,4,6,7,8,9] (S c1 a0))
theorem A0d(rs ts:List Rn)(r w:Rn)(e i:Int)(n1:RQ 46 [sL pc rs] (L 2 ts.length (pc ts)))(hl2:Ar (.loop bZ) (Tu ts r e (false,[]) (I O ((ts.length:Int)-1))) (.exit 0) (Tu ts r e w i)):RQ 80 [sL pc rs,As r,F O e] (As w):=A8 cA (Y 6 (g [D w.1,H w.2.length (lm w.2)]::(Y 30 []))) (W (W (q (Cv.seq (G f 400 [.r (L 2 ts.length (pc ts))] [2,4,6,7,8,9] (S n1 a0)) (Cv.seq (Cv.block hl2) (G f 400 [] [6] a0))))))
theorem dY(rs:List Rn)(r:Rn):pc rs++([D r.1,H r.2.length (lm r.2)]:List AV)=pc (rs++[r]):=by rw [MN];rfl
theorem Nt(g:Nat->Rn)(i:Nat):(Aq (i+1)).map g=(Aq i).map g++[g i]:=by rw [Hq,D_];rfl
theorem zJ{rs:List Rn}(hg:∀ r∈rs,AO 1048576 r)(hN:rs.length<=1048576):∀ m,m<=rs.length->Ar (.loop RL) (LK rs (m:Nat)) (.exit 0) (LK rs (l (Q rs) m:Nat)):=by
 intro m;induction m with
 | zero=>intro _;exact Ao (Aro rs ((0:Nat):Int) (by simp)) (by nofun)
 | succ m ih =>
  intro hm;have e1:I O (((m+1:Nat):Int)-1)=(m:Int):=by rw[Bl (by omega) (by omega)];omega
  obtain⟨g1,g2⟩:=Bg hg m;have hs:=Gx (neg:=(rs.getD m z0).1) g1 g2;simp only[l];rw[C7];by_cases h0:P (rs.getD m z0)=0
  ·rw[if_pos h0];have k:=Arm rs ((m+1:Nat):Int) (by simp) (by rw[e1,R,h0];rfl) (by rw[e1];omega) (by simp only[e1,R];exact hs);rw[e1] at k;exact Cv.loop k (ih (by omega))
  ·rw[if_neg h0];exact Ao (Arn rs ((m+1:Nat):Int) (by simp) (by rw[e1,R,beq_eq_false_iff_ne];unfold BJ; (repeat' split) <;> omega) (by rw[e1];omega) (by simp only[e1,R];exact hs)) (by nofun)
theorem zK{rs:List Rn}(hg:∀ r∈rs,AO 1048576 r)(hN:rs.length<=1048576)(n:Nat)(hn:n<=rs.length) :
  Ar (.loop UE) (MX rs (n:Nat) 0 [] 0) (.exit 2) (MX rs (n:Nat) n (pc ((Aq n).map fun j=>cn (P (rs.getD j z0)))) (n:Nat)):=by
 refine Cv.up (fun i=>MX rs (n:Nat) i (pc ((Aq i).map fun j=>cn (P (rs.getD j z0)))) (i:Nat)) n (by nofun) ?_ ?_ 0 (Ba _)
 ·intro i hi;have ei:I O ((i:Int)+1)=((i+1:Nat):Int):=by rw[Bl (by omega) (by omega)];omega
  obtain⟨g1,g2⟩:=Bg hg i;have k:=Arp rs (n:Nat) i (pc ((Aq i).map fun j=>cn (P (rs.getD j z0)))) (i:Nat) (by simp;omega) (by omega) (by omega) (by simp only[R];exact VT g1 g2);refine k.to rfl ?_;simp only[R,ei];rw[Nt,<- dY];rfl
 ·exact Arq rs (n:Nat) n _ (n:Nat) (by simp)
theorem ET{rs:List Rn}(hg:∀ r∈rs,AO 1048576 r)(hN:rs.length<=1048576):RQ 46 [sL pc rs] (L 2 (Aa (Q rs)).length (pk (Aa (Q rs)))):=by
 have hle:=GR (Q rs) rs.length;have hlen:(Aa (Q rs)).length=l (Q rs) rs.length:=by rw[Fa,s]
 have h:=A0a rs _ _ _ _ (zJ hg hN rs.length (Ap _)) (zK hg hN _ hle);have e3:(Aq (l (Q rs) rs.length)).map (fun j=>cn (P (rs.getD j z0)))=(Aa (Q rs)).map cn:=by
  rw[<- Sq,hlen];apply Gj;intro i _;rw[Dc,C7]
 (first|rw[e3,<- hlen] at h|(rw[e3] at h;unfold sL at h;rw[<- hlen] at h));exact h
theorem Qe(e:Nat):Bm (e / 32+1) ((2:Int)^e):=by
 unfold Bm;have h1:((2:Int)^e).natAbs=2^e:=by rw[N5];rfl
 have h2:(4294967296:Nat)^(e / 32+1)=2^(32*(e / 32+1)):=by rw[A6w]
 rw[h1,h2];exact Qf (by decide) (by omega)
theorem Wc{K X:Nat}{x:Int}(hx:Bm X x)(e:Nat):∀ {ts:LI},(∀ t∈ts,Bm K t)->Bm (K+1+ts.length*(X+(e / 32+1)+1)) (hv ts x (2^e))
 | [],_=>GS _
 | t::ts,h=>by
  have ih:=Wc (K:=K) hx e (ts:=ts) fun y hy=>h y (Bi _ hy);have h1:Bm (K+(e*ts.length / 32+1)) (t*((2:Int)^e)^ts.length):=by
   rw[<- iV];exact (h t By).mul (Qe _)
  have h2:=hx.mul ih;have hb:e*ts.length / 32<=ts.length*(e / 32+1):=by
   have:e*ts.length<=32*(ts.length*(e / 32+1)):=by
    have h3:e<=32*(e / 32+1):=by omega
    calc e*ts.length<=(32*(e / 32+1))*ts.length:=AF _ h3
     _=32*(ts.length*(e / 32+1)):=by rw[EQ,CS (e / 32+1)]
   omega
  have hb2:ts.length*(e / 32+1)<=ts.length*(X+(e / 32+1)+1):=AL _ (by omega);have h3:=(h1.mono (k:=K+1+ts.length*(X+(e / 32+1)+1)+X+(e / 32+1)) (by omega)).add (h2.mono (by omega));simp only[hv,Bv,D',Fk];exact h3.mono (by omega)
theorem Arr{K X:Nat}{ts:List Rn}{r:Rn}(ht:∀ t∈ts,AO K t)(hr:AO X r)(e:Nat)(hS:K+2+(ts.length+1)*(X+(e / 32+1)+1)<=1048576)(he:e<=1073741824) :
  ∀ n (w:Rn),n<=ts.length->P w=hv ((Q ts).drop n) (P r) (2^e)->AO (K+1+(ts.length-n)*(X+(e / 32+1)+1)) w -> 
  ∃ w',P w'=hv (Q ts) (P r) (2^e)/\(w'=w/\n=0\/w'=cn (hv (Q ts) (P r) (2^e)))/\Ar (.loop bZ) (Tu ts r (e:Nat) w ((n:Int)-1)) (.exit 0) (Tu ts r (e:Nat) w' (-1)):=by
 intro n;induction n with
 | zero =>
  intro w _ hw _;refine⟨w,by simpa using hw,.inl ⟨rfl,rfl⟩,?_⟩;exact Ao (A0c ts r (e:Nat) w (((0:Nat):Int)-1) (by simp)) (by nofun)
 | succ n ih =>
  intro w hn hw gw;obtain⟨t1,t2⟩:=Bg ht n;have e0:((n+1:Nat):Int)-1=(n:Int):=by omega
  have hK1:(ts.length-(n+1))*(X+(e / 32+1)+1)+(X+(e / 32+1)+1)=(ts.length-n)*(X+(e / 32+1)+1):=by
   rw[show ts.length-n=ts.length-(n+1)+1 by omega,D',Fk]
  have hK2:(ts.length-n)*(X+(e / 32+1)+1)<=(ts.length+1)*(X+(e / 32+1)+1):=AF _ (by omega);have hsh:e*(ts.length-1-n) / 32<=(ts.length-(n+1))*(X+(e / 32+1)+1):=by
   have h3:e<=32*(e / 32+1):=by omega
   have h4:e*(ts.length-1-n)<=32*((ts.length-(n+1))*(e / 32+1)):=by
    calc e*(ts.length-1-n)<=(32*(e / 32+1))*(ts.length-1-n):=AF _ h3
     _=32*((ts.length-(n+1))*(e / 32+1)):=by rw[EQ,CS (e / 32+1),show ts.length-1-n=ts.length-(n+1) by omega]
   have h5:(ts.length-(n+1))*(e / 32+1)<=(ts.length-(n+1))*(X+(e / 32+1)+1):=AL _ (by omega);omega
  have w1:I O ((e:Int)*I O (I O ((ts.length:Int)-1)-(n:Int)))=((e*(ts.length-1-n):Nat):Int):=by
   have hle:ts.length<=1048576:=by
    have:ts.length*1<=(ts.length+1)*(X+(e / 32+1)+1):=Bj (by omega) (by omega);omega
   rw[Bl (n:=(ts.length:Int)-1) (by omega) (by omega),Bl (n:=(ts.length:Int)-1-(n:Int)) (by omega) (by omega)];have e3:(ts.length:Int)-1-(n:Int)=((ts.length-1-n:Nat):Int):=by omega
   rw[e3,<- CQ];have:e*(ts.length-1-n)<=1073741824*1048576:=Bj he (by omega);exact Bl (by omega) (by omega)
  have w2:I O ((n:Int)-1)=(n:Int)-1:=by
   have hle:ts.length<=1048576:=by
    have:ts.length*1<=(ts.length+1)*(X+(e / 32+1)+1):=Bj (by omega) (by omega);omega
   exact Bl (by omega) (by omega)
  have hst:hv ((Q ts).drop n) (P r) (2^e)=P w*P r+P (ts.getD n z0)*2^(e*(ts.length-1-n)):=by
   have h1:(Q ts).drop n=(Q ts).getD n 0::(Q ts).drop (n+1):=by
    rw[CL (by rw[s];omega)];congr 1;rw[Z,Af (by rw[s];omega)];rfl
   rw[h1,hv,C7,Ep,s,<- hw,<- iV,show ts.length-(n+1)=ts.length-1-n by omega];generalize P (ts.getD n z0)*2^(e*(ts.length-1-n))=A;grind
  have fw:=gw.fits;have fp:=(fw.mul hr.fits);have ft:Bm (K+(e*(ts.length-1-n) / 32+1)) (P (ts.getD n z0)*2^(e*(ts.length-1-n))):=(Bg ht n).fits.mul (Qe _);have hgood:AO (K+1+(ts.length-n)*(X+(e / 32+1)+1)) (cn (P w*P r+P (ts.getD n z0)*2^(e*(ts.length-1-n)))):=by
   refine (BG ((fp.mono (k:=K+1+(ts.length-(n+1))*(X+(e / 32+1)+1)+X+(e / 32+1)) (by omega)).add (ft.mono (by omega)))).mono (by omega)
  obtain⟨w',q1,q2,q3⟩:=ih (cn (P w*P r+P (ts.getD n z0)*2^(e*(ts.length-1-n)))) (by omega) (by rw[u,hst]) hgood;refine⟨w',q1,.inr ?_,?_⟩
  ·rcases q2 with ⟨g1,g2⟩ | g
   ·rw[g1];rw[g1,u] at q1;rw[q1]
   ·exact g
  ·rw[e0];have l1:=fp.len;have l2:=ft.len;obtain⟨gw1,gw2⟩:=gw;have k:=A0b ts r (e:Nat) w (n:Nat) (P (ts.getD n z0)*2^(e*(ts.length-1-n))) (by simp) (by omega)
    (Of gw1 hr.1 (by have:=hr.2;omega))
    (by rw[w1,R];exact QZ t1 _ (by omega))
    (by
     have:=Qa (na:=decide (P w*P r<0)) (nb:=decide (P (ts.getD n z0)*2^(e*(ts.length-1-n))<0)) (BI (P w*P r).natAbs) (BI (P (ts.getD n z0)*2^(e*(ts.length-1-n))).natAbs) (by omega) (by omega);rw[F8,F8] at this;exact this)
   rw[w2] at k;exact Cv.loop k q3
theorem Tv{K X:Nat}{rs:List Rn}{r:Rn}(ht:∀ t∈rs,AO K t)(hr:AO X r)(e:Nat)(hS:K+2+(rs.length+1)*(X+(e / 32+1)+1)<=1048576)(he:e<=1073741824) :
  RQ 80 [sL pc rs,o [D r.1,H r.2.length (lm r.2)],F O (e:Nat)] (Ah (hv (Aa (Q rs)) (P r) (2^e))):=by
 have hle:rs.length<=1048576:=by
  have:rs.length*1<=(rs.length+1)*(X+(e / 32+1)+1):=Bj (by omega) (by omega);omega
 have hK:K<=1048576:=by omega
 have htr:=ET (fun r h=>(ht r h).mono hK) hle;have hl:=Bq (Q rs);rw[s] at hl;have gts:∀ t∈(Aa (Q rs)).map cn,AO K t:=Kp (Gc (C1 ht));have hS2:K+2+(((Aa (Q rs)).map cn).length+1)*(X+(e / 32+1)+1)<=1048576:=by
  have:(((Aa (Q rs)).map cn).length+1)*(X+(e / 32+1)+1)<=(rs.length+1)*(X+(e / 32+1)+1):=AF _ (by simp;omega);omega
 obtain⟨w',q1,q2,q3⟩:=Arr gts hr e hS2 he ((Aa (Q rs)).map cn).length z0 (Ap _) (by
  rw[v,N,JP];rfl) (Mh _)
 rw[v] at q1 q2;have e1:I O (((((Aa (Q rs)).map cn).length:Nat):Int)-1)=((((Aa (Q rs)).map cn).length:Nat):Int)-1:=Bl (by omega) (by rw[N];omega);have hcn:w'=cn (hv (Aa (Q rs)) (P r) (2^e)):=by
  rcases q2 with ⟨g1,g2⟩ | g
  ·(first|rw[N] at g2|(unfold sL at g2;rw[N] at g2));rw[g1,A9 g2];rfl
  ·exact g
 (first|rw[<- N (f:=cn)] at htr|(unfold sL at htr;rw[<- N (f:=cn)] at htr));have h:=A0d rs ((Aa (Q rs)).map cn) r w' (e:Nat) (-1) htr (by rw[e1];exact q3);rw[hcn] at h;exact h
def Lk(na:Bool)(nb:Bool)(la:Nat)(xa:List AV)(lb:Nat)(xb:List AV)(n:Nat)(cs:List AV)(i:Int)(x:Int)(c:Int)(k:Int):Al:=(Y 4 (g [D false,H 0 []]::(C (D na)::(Y 1 (C (D nb)::(C (H lb xb)::(X 1 n cs::(C (F O i)::(C (F Ac x)::(C (F U c)::(Y 28 (C (H la xa)::(C (F O (la:Int))::(C (F O i)::(Y 4 (C (H lb xb)::(C (F O (lb:Int))::(C (F O k)::(Y 43 [])))))))))))))))))))
theorem zL(na:Bool)(nb:Bool)(la:Nat)(xa:List AV)(lb:Nat)(xb:List AV)(n:Nat)(cs:List AV)(i:Int)(x:Int)(c:Int)(k:Int)(ds:List AV)(y z:Int)(c1:B (k<(lb:Int))=true)(n1:0<=k/\k<(lb:Int))(n2:Bn (p (A k*1) xb) 0 1 true=some (F Ac y))(n3:0<=(I O (i+k))/\(I O (i+k))<(n:Int))(n4:Bn cs (A (I O (i+k))*1) 1 true=some (F Ac z))(n5:0<=(I O (i+k))/\(I O (i+k))<(n:Int))(n6:C4 cs (A (I O (i+k))*1) [F Ac (I Ac (I U ((I U ((I U ((I U x)*(I U y)))+(I U z)))+c)))]=some ds):Ar QK (Lk na nb la xa lb xb n cs i x c k) .norm (Lk na nb la xa lb xb n ds i x (d (I U ((I U ((I U ((I U x)*(I U y)))+(I U z)))+c)) (2^(min (A 32) (Am .u64)))) (I O (k+1))):=G m 300 [.b true,.v (F Ac y),.v (F Ac z),.l ds] [4,5,7,8,9,10,11,12,41,42,43,48,49,50] (S c1 (S n1 (S n2 (S n3 (S n4 (S Ie (S n5 (S n6 a0)))))))) (by kernel_rfl)
theorem zM(na:Bool)(nb:Bool)(la:Nat)(xa:List AV)(lb:Nat)(xb:List AV)(n:Nat)(cs:List AV)(i:Int)(x:Int)(c:Int)(k:Int)(c1:B (k<(lb:Int))=false):Ar QK (Lk na nb la xa lb xb n cs i x c k) (.exit 2) (Lk na nb la xa lb xb n cs i x c k):=G m 300 [.b false] [4,5,7,8,9,10,11,12,41,42,43,48,49,50] (S c1 a0) (by kernel_rfl)
def Ol(na:Bool)(nb:Bool)(la:Nat)(xa:List AV)(lb:Nat)(xb:List AV)(n:Nat)(cs:List AV)(i:Int):Al:=(Y 4 (g [D false,H 0 []]::(C (D na)::(Y 1 (C (D nb)::(C (H lb xb)::(X 1 n cs::(Y 31 (C (H la xa)::(C (F O (la:Int))::(C (F O i)::(Y 50 []))))))))))))
theorem mM(na nb:Bool)(la:Nat)(xa:List AV)(lb:Nat)(xb:List AV)(n:Nat)(cs:List AV)(i:Int)(h:(B (i<(la:Int)))=false):Ar UT (Ol na nb la xa lb xb n cs i) (.exit 0) (Ol na nb la xa lb xb n cs i):=G m 300 [.b false] [4,5,7,8,9,41,42,43] (S (show (B (i<(la:Int)))=false from h) a0) (by kernel_rfl)
theorem dZ(na nb:Bool)(la:Nat)(xa:List AV)(lb:Nat)(xb:List AV)(n:Nat)(cs ds es:List AV)(i x c k:Int)(h:(B (i<(la:Int)))=true)(hi:0<=i/\i<(la:Int))(hx:Bn (p (A i*1) xa) 0 1 true=some (F Ac x))(hl:Ar (.loop QK) (Lk na nb la xa lb xb n cs i x 0 0) (.exit 2) (Lk na nb la xa lb xb n ds i x c k))(hix:0<=I O (i+(lb:Int))/\I O (i+(lb:Int))<(n:Int))(hst:C4 ds (A (I O (i+(lb:Int)))*1) [F Ac (I Ac c)]=some es):Ar UT (Ol na nb la xa lb xb n cs i) .norm (Ol na nb la xa lb xb n es (I O (i+1))):=(Cv.seq (G (t:=(Y 4 (g [D false,H 0 []]::(C (D na)::(Y 1 (C (D nb)::(C (H lb xb)::(X 1 n cs::(Y 31 (C (H la xa)::(vi (la:Int)::(vi i::(C (D (B (i<(la:Int))))::(Y 49 [])))))))))))))) m 300 [] [4,5,7,8,9,41,42,43,44] a0) (Cv.seq (G (t:=(Y 4 (g [D false,H 0 []]::(C (D na)::(Y 1 (C (D nb)::(C (H lb xb)::(X 1 n cs::(Y 31 (C (H la xa)::(vi (la:Int)::(vi i::(C (D (B (i<(la:Int))))::(Y 49 [])))))))))))))) m 300 [.b true] [4,5,7,8,9,41,42,43,44] (S (show (B (i<(la:Int)))=true from h) a0)) (Cv.seq (Cd (Cv.seq (G (t:=(Y 4 (g [D false,H 0 []]::(C (D na)::(Y 1 (C (D nb)::(C (H lb xb)::(X 1 n cs::(vi i::(C (F Ac x)::(Y 29 (C (H la xa)::(vi (la:Int)::(vi i::(C (D (B (i<(la:Int))))::(vi i::(.mem (p (A i*1) xa)::(C (F Ac x)::(Y 46 []))))))))))))))))))) m 300 [.v (F Ac x)] [4,5,7,8,9,10,11,41,42,43,44,45,46,47] (S (show 0<=i/\i<(la:Int) from hi) (S (show Bn (p (A i*1) xa) 0 1 true=some (F Ac x) from hx) a0))) (Cv.seq (G (t:=(Y 4 (g [D false,H 0 []]::(C (D na)::(Y 1 (C (D nb)::(C (H lb xb)::(X 1 n cs::(vi i::(C (F Ac x)::(C (F U 0)::(Y 28 (C (H la xa)::(vi (la:Int)::(vi i::(C (D (B (i<(la:Int))))::(vi i::(.mem (p (A i*1) xa)::(C (F Ac x)::(Y 46 [])))))))))))))))))))) m 300 [] [4,5,7,8,9,10,11,12,41,42,43,44,45,46,47] a0) (Cv.seq (Cv.seq (G (t:=(Y 4 (g [D false,H 0 []]::(C (D na)::(Y 1 (C (D nb)::(C (H lb xb)::(X 1 n cs::(vi i::(C (F Ac x)::(C (F U 0)::(Y 28 (C (H la xa)::(vi (la:Int)::(vi i::(Y 4 (C (H lb xb)::(vi (lb:Int)::(vi 0::(Y 43 [])))))))))))))))))))) m 300 [] [4,5,7,8,9,10,11,12,41,42,43,48,49,50] a0) (Cv.block hl)) (G (t:=(Y 4 (g [D false,H 0 []]::(C (D na)::(Y 1 (C (D nb)::(C (H lb xb)::(X 1 n es::(vi i::(C (F Ac x)::(C (F U c)::(Y 28 (C (H la xa)::(vi (la:Int)::(vi i::(Y 4 (C (H lb xb)::(vi (lb:Int)::(vi k::(Y 29 (.dup 9::(vi i::(C (H lb xb)::(vi (lb:Int)::(vi (I O (i+(lb:Int)))::(C (F U c)::(C (F Ac (I Ac c))::(.ptr 9 (A (I O (i+(lb:Int)))*1)::(Y 6 []))))))))))))))))))))))))))))) m 300 [.l es] [4,5,7,8,9,10,11,12,41,42,43,48,49,50,80,81,82,83,84,85,86,87] (S (show 0<=(I O (i+(lb:Int)))/\(I O (i+(lb:Int)))<(n:Int) from hix) (S (show C4 ds (A (I O (i+(lb:Int)))*1) [F Ac (I Ac c)]=some es from hst) a0))))))) (G (t:=(Y 4 (g [D false,H 0 []]::(C (D na)::(Y 1 (C (D nb)::(C (H lb xb)::(X 1 n es::(Y 31 (C (H la xa)::(vi (la:Int)::(vi (I O (i+1))::(Y 50 []))))))))))))) m 300 [] [4,5,7,8,9,41,42,43] a0))))
theorem mN(na nb:Bool)(xs ys:LI)(hx:AP xs)(hy:AP ys)(n i:Nat)(hn:n<=1048576)(hib:i+ys.length<=n):∀ (r k:Nat) (out:LI) (c:Int),r+k=ys.length->out.length=n->AP out->0<=c/\c<4294967296 ->
  Ar (.loop QK) (Lk na nb xs.length (lm xs) ys.length (lm ys) n (lm out) (i:Int) (xs.getD i 0) c (k:Int)) (.exit 2)
   (Lk na nb xs.length (lm xs) ys.length (lm ys) n (lm (Hx (xs.getD i 0) ys i r k out c).1) (i:Int) (xs.getD i 0) (Hx (xs.getD i 0) ys i r k out c).2 (ys.length:Int)):=by
 intro r;induction r with
 | zero =>
  intro k out c hk _ _ _;have hk':k=ys.length:=by omega
  subst hk';exact Ao (zM na nb xs.length (lm xs) ys.length (lm ys) n (lm out) (i:Int) (xs.getD i 0) c (ys.length:Int) (by simp)) (by nofun)
 | succ r ih =>
  intro k out c hk hl hu hc;have hai:=AG hx i;have hbk:=AG hy k;have hok:=AG hu (i+k);obtain⟨w1,w2,w3,w4⟩:=VM hai hbk hc hok;have ei:I O ((i:Int)+(k:Int))=((i+k:Nat):Int):=by rw[Bl (by omega) (by omega)];omega
  have ek:I O ((k:Int)+1)=((k+1:Nat):Int):=by rw[Bl (by omega) (by omega)];omega
  have hz:=VJ (xs:=out) (i:=i+k) (by omega);have hyk:=Ed (xs:=ys) (i:=k) (by omega);have hst:=Ir (xs:=out) (i:=i+k) (v:=(c+(out.getD (i+k) 0+xs.getD i 0*ys.getD k 0)) % 4294967296) (by omega);have eW:I U (I U (I U (I U (xs.getD i 0)*I U (ys.getD k 0))+I U (out.getD (i+k) 0))+c)=c+(out.getD (i+k) 0+xs.getD i 0*ys.getD k 0):=by
   have q1:I U (xs.getD i 0)=xs.getD i 0:=by rw[B6];omega
   have q2:I U (ys.getD k 0)=ys.getD k 0:=by rw[B6];omega
   have q3:I U (out.getD (i+k) 0)=out.getD (i+k) 0:=by rw[B6];omega
   rw[q1,q2,q3,B6,B6,B6];omega
  have eS:d (c+(out.getD (i+k) 0+xs.getD i 0*ys.getD k 0)) (2^(min (A 32) (Am .u64)))=(c+(out.getD (i+k) 0+xs.getD i 0*ys.getD k 0)) / 4294967296:=by
   show d _ 4294967296=_;rw[t _ (by omega)]
  have h1:=zL na nb xs.length (lm xs) ys.length (lm ys) n (lm out) (i:Int) (xs.getD i 0) c (k:Int) (lm (out.set (i+k) ((c+(out.getD (i+k) 0+xs.getD i 0*ys.getD k 0)) % 4294967296))) (ys.getD k 0) (out.getD (i+k) 0)
   (by simp;omega) (by omega) (by rw[R];exact hyk) (by rw[ei];omega) (by rw[ei,R];exact hz) (by rw[ei];omega) (by rw[ei,R,eW,DW];exact hst)
  rw[eW,eS,ek] at h1;exact Cv.loop h1 (ih (k+1) _ _ (by omega) (by simpa using hl) (Cw hu (by omega)) (by omega))
theorem zN(na nb:Bool)(xs ys:LI)(hx:AP xs)(hy:AP ys)(hN:xs.length+ys.length<=1048576):∀ (r i:Nat) (out:LI),r+i=xs.length->out.length=xs.length+ys.length->AP out->(∀ j,i+ys.length<=j->out.getD j 0=0) ->
  ∃ out',out'.length=xs.length+ys.length/\AP out'/\Ab out'=Ab out+4294967296^i*(Ab (xs.drop i)*Ab ys) /\
   Ar (.loop UT) (Ol na nb xs.length (lm xs) ys.length (lm ys) (xs.length+ys.length) (lm out) (i:Int)) (.exit 0) (Ol na nb xs.length (lm xs) ys.length (lm ys) (xs.length+ys.length) (lm out') (xs.length:Int)):=by
 intro r;induction r with
 | zero =>
  intro i out hi hl hu _;have hi':i=xs.length:=by omega
  subst hi';refine⟨out,hl,hu,by simp[Ab],?_⟩;exact Ao (mM na nb xs.length (lm xs) ys.length (lm ys) (xs.length+ys.length) (lm out) (xs.length:Int) (by simp)) (by nofun)
 | succ r ih =>
  intro i out hi hl hu hz;have hai:=AG hx i;have hlt:i<xs.length:=by omega
  have hin:=mN na nb xs ys hx hy (xs.length+ys.length) i hN (by omega) ys.length 0 out 0 (by omega) hl hu (by omega);obtain⟨g1,g2,g3,g4,g5⟩:=Ye (i:=i) hai hy ys.length 0 out 0 (by omega) (by omega) hu (by omega);generalize Hx (xs.getD i 0) ys i ys.length 0 out 0=q at *
  obtain⟨ds,c⟩:=q;dsimp only at g1 g2 g3 g4 g5 hin;have ei:I O ((i:Int)+(ys.length:Int))=((i+ys.length:Nat):Int):=by rw[Bl (by omega) (by omega)];omega
  have ei1:I O ((i:Int)+1)=((i+1:Nat):Int):=by rw[Bl (by omega) (by omega)];omega
  have ec:I Ac c=c:=by rw[DW];omega
  have hst:=Ir (xs:=ds) (i:=i+ys.length) (v:=c) (by omega);have hxi:=Ed (xs:=xs) (i:=i) hlt;have h1:=dZ na nb xs.length (lm xs) ys.length (lm ys) (xs.length+ys.length) (lm out) (lm ds) (lm (ds.set (i+ys.length) c)) (i:Int) (xs.getD i 0) c (ys.length:Int) (by simp;omega) (by omega) (by rw[R];exact hxi) hin (by rw[ei];omega) (by rw[ei,R,ec];exact hst);rw[ei1] at h1;obtain⟨out',k1,k2,k3,k4⟩:=ih (i+1) (ds.set (i+ys.length) c) (by omega) (by simp;omega) (Cw g2 g3) (fun j hj=>by rw[MM (by omega),g5 j (by omega),hz j (by omega)]);refine⟨out',k1,k2,?_,Cv.loop h1 k4⟩;have hv:Ab (ds.set (i+ys.length) c)=Ab out+4294967296^i*(xs.getD i 0*Ab ys):=by
   rw[DP ds _ _ (by omega),g5 _ (Ap _),hz _ (Ap _)];simp only[FR,Fe,DK,EY] at g4 |-;exact g4
  have hd:Ab (xs.drop i)=xs.getD i 0+4294967296*Ab (xs.drop (i+1)):=C5 xs i;rw[k3,hv,hd,A2];generalize (4294967296:Int)^i=p at *
  generalize Ab (xs.drop (i+1))=V at *
  grind
theorem mO(na:Bool)(xs:LI)(nb:Bool)(ys:LI)(a b:Int)(h1:RQ 143 [o [D na,sL lm xs]] (Ax [D (B (a<0)),H (M (E a)).length (lm (M (E a)))]))(h2:RQ 143 [o [D nb,sL lm ys]] (Ax [D (B (b<0)),H (M (E b)).length (lm (M (E b)))]))(z:((((M (E a)).length:Nat):Int)==0)=true):RQ 112 [o [D na,sL lm xs],o [D nb,sL lm ys]] (o [D false,H 0 []]):=Bx (ps:=[RQ 143 [o [D na,sL lm xs]] (Ax [D (B (a<0)),H ((M (E a)).length) (lm (M (E a)))]),RQ 143 [o [D nb,sL lm ys]] (Ax [D (B (b<0)),H ((M (E b)).length) (lm (M (E b)))]),((((M (E a)).length:Nat):Int)==0)=true,true=true]) m rfl 300 rfl [.r (Ax [D (B (a<0)),H ((M (E a)).length) (lm (M (E a)))]),.r (Ax [D (B (b<0)),H ((M (E b)).length) (lm (M (E b)))]),.b true,.b true] (by kernel_rfl) ⟨h1,h2,z,rfl,trivial⟩
theorem mP(na:Bool)(xs:LI)(nb:Bool)(ys:LI)(a b:Int)(h1:RQ 143 [o [D na,sL lm xs]] (Ax [D (B (a<0)),H (M (E a)).length (lm (M (E a)))]))(h2:RQ 143 [o [D nb,sL lm ys]] (Ax [D (B (b<0)),H (M (E b)).length (lm (M (E b)))]))(y:((((M (E a)).length:Nat):Int)==0)=false)(z:((((M (E b)).length:Nat):Int)==0)=true):RQ 112 [o [D na,sL lm xs],o [D nb,sL lm ys]] (o [D false,H 0 []]):=Bx (ps:=[RQ 143 [o [D na,sL lm xs]] (Ax [D (B (a<0)),H ((M (E a)).length) (lm (M (E a)))]),RQ 143 [o [D nb,sL lm ys]] (Ax [D (B (b<0)),H ((M (E b)).length) (lm (M (E b)))]),((((M (E a)).length:Nat):Int)==0)=false,((((M (E b)).length:Nat):Int)==0)=true]) m rfl 300 rfl [.r (Ax [D (B (a<0)),H ((M (E a)).length) (lm (M (E a)))]),.r (Ax [D (B (b<0)),H ((M (E b)).length) (lm (M (E b)))]),.b false,.b true] (by kernel_rfl) ⟨h1,h2,y,z,trivial⟩
theorem mQ(na:Bool)(xs:LI)(nb:Bool)(ys:LI)(a b:Int)(h1:RQ 143 [o [D na,sL lm xs]] (Ax [D (B (a<0)),H (M (E a)).length (lm (M (E a)))]))(h2:RQ 143 [o [D nb,sL lm ys]] (Ax [D (B (b<0)),H (M (E b)).length (lm (M (E b)))]))(out:LI)(r:Int)(y:((((M (E a)).length:Nat):Int)==0)=false)(z:((((M (E b)).length:Nat):Int)==0)=false)(hmk:0<=I O ((((M (E a)).length:Nat):Int)+(((M (E b)).length:Nat):Int))/\I O ((((M (E a)).length:Nat):Int)+(((M (E b)).length:Nat):Int))<=1048576)(hl:Ar (.loop UT) (Ol (B (a<0)) (B (b<0)) (M (E a)).length (lm (M (E a))) (M (E b)).length (lm (M (E b))) (A (I O ((((M (E a)).length:Nat):Int)+(((M (E b)).length:Nat):Int)))) (Cu [F Ac 0] (A (I O ((((M (E a)).length:Nat):Int)+(((M (E b)).length:Nat):Int))))) 0) (.exit 0) (Ol (B (a<0)) (B (b<0)) (M (E a)).length (lm (M (E a))) (M (E b)).length (lm (M (E b))) (A (I O ((((M (E a)).length:Nat):Int)+(((M (E b)).length:Nat):Int)))) (lm out) (((M (E a)).length:Nat):Int)))(h3:RQ 152 [D (!((B (a<0))==(B (b<0)))),H (A (I O ((((M (E a)).length:Nat):Int)+(((M (E b)).length:Nat):Int)))) (lm out)] (o [D (B (r<0)),H ((M (E r)).length) (lm (M (E r)))])):RQ 112 [o [D na,sL lm xs],o [D nb,sL lm ys]] (o [D (B (r<0)),H ((M (E r)).length) (lm (M (E r)))]):=A8 UU (Y 4 (g [D (B (r<0)),H ((M (E r)).length) (lm (M (E r)))]::(C (D (B (a<0)))::(Y 1 (C (D (B (b<0)))::(C (H ((M (E b)).length) (lm (M (E b))))::(C (H (A (I O ((((M (E a)).length:Nat):Int)+(((M (E b)).length:Nat):Int)))) (lm out))::(Y 31 (C (H ((M (E a)).length) (lm (M (E a))))::(C (F O (((M (E a)).length:Nat):Int))::(C (F O (((M (E a)).length:Nat):Int))::(Y 45 (C (D (B (a<0)))::(C (D (B (b<0)))::(C (D (!((B (a<0))==(B (b<0)))))::(C (H (A (I O ((((M (E a)).length:Nat):Int)+(((M (E b)).length:Nat):Int)))) (lm out))::(C (o [D (B (r<0)),H ((M (E r)).length) (lm (M (E r)))])::[]))))))))))))))))) (Cv.seq (G (t:=(C (o [D na,sL lm xs])::(C (o [D nb,sL lm ys])::(g [D na,sL lm xs]::(g [D nb,sL lm ys]::(g [D false,H 0 []]::(Y 89 []))))))) m 300 [] [0,1,2,3,4] a0) (Cv.seq (G (t:=(C (o [D na,sL lm xs])::(C (o [D nb,sL lm ys])::(g [D na,sL lm xs]::(g [D nb,sL lm ys]::(g [D false,H 0 []]::(C (D (B (a<0)))::(C (H ((M (E a)).length) (lm (M (E a))))::(Y 9 (C (Ax [D (B (a<0)),H ((M (E a)).length) (lm (M (E a)))])::(C (o [D na,sL lm xs])::(C (Ax [D (B (a<0)),H ((M (E a)).length) (lm (M (E a)))])::(C (D (B (a<0)))::(C (H ((M (E a)).length) (lm (M (E a))))::(Y 73 []))))))))))))))) m 300 [.r (Ax [D (B (a<0)),H ((M (E a)).length) (lm (M (E a)))])] [0,1,2,3,4,5,6,16,17,18,19,20] (S (show RQ 143 [o [D na,sL lm xs]] (Ax [D (B (a<0)),H ((M (E a)).length) (lm (M (E a)))]) from h1) a0)) (Cv.seq (G (t:=(C (o [D na,sL lm xs])::(C (o [D nb,sL lm ys])::(g [D na,sL lm xs]::(g [D nb,sL lm ys]::(g [D false,H 0 []]::(C (D (B (a<0)))::(C (H ((M (E a)).length) (lm (M (E a))))::(C (D (B (b<0)))::(C (H ((M (E b)).length) (lm (M (E b))))::(Y 7 (C (Ax [D (B (a<0)),H ((M (E a)).length) (lm (M (E a)))])::(C (o [D na,sL lm xs])::(C (Ax [D (B (a<0)),H ((M (E a)).length) (lm (M (E a)))])::(C (D (B (a<0)))::(C (H ((M (E a)).length) (lm (M (E a))))::(C (Ax [D (B (b<0)),H ((M (E b)).length) (lm (M (E b)))])::(C (o [D nb,sL lm ys])::(C (Ax [D (B (b<0)),H ((M (E b)).length) (lm (M (E b)))])::(C (D (B (b<0)))::(C (H ((M (E b)).length) (lm (M (E b))))::(Y 68 [])))))))))))))))))))))) m 300 [.r (Ax [D (B (b<0)),H ((M (E b)).length) (lm (M (E b)))])] [0,1,2,3,4,5,6,7,8,16,17,18,19,20,21,22,23,24,25] (S (show RQ 143 [o [D nb,sL lm ys]] (Ax [D (B (b<0)),H ((M (E b)).length) (lm (M (E b)))]) from h2) a0)) (Cv.seq (G (t:=(C (o [D na,sL lm xs])::(C (o [D nb,sL lm ys])::(g [D na,sL lm xs]::(g [D nb,sL lm ys]::(g [D false,H 0 []]::(C (D (B (a<0)))::(C (H ((M (E a)).length) (lm (M (E a))))::(C (D (B (b<0)))::(C (H ((M (E b)).length) (lm (M (E b))))::(Y 7 (C (Ax [D (B (a<0)),H ((M (E a)).length) (lm (M (E a)))])::(C (o [D na,sL lm xs])::(C (Ax [D (B (a<0)),H ((M (E a)).length) (lm (M (E a)))])::(C (D (B (a<0)))::(C (H ((M (E a)).length) (lm (M (E a))))::(C (Ax [D (B (b<0)),H ((M (E b)).length) (lm (M (E b)))])::(C (o [D nb,sL lm ys])::(C (Ax [D (B (b<0)),H ((M (E b)).length) (lm (M (E b)))])::(C (D (B (b<0)))::(C (H ((M (E b)).length) (lm (M (E b))))::(C (H ((M (E a)).length) (lm (M (E a))))::(vi (((M (E a)).length:Nat):Int)::(C (D ((((M (E a)).length:Nat):Int)==0))::(C (D ((((M (E a)).length:Nat):Int)==0))::(C (H ((M (E b)).length) (lm (M (E b))))::(vi (((M (E b)).length:Nat):Int)::(C (D ((((M (E b)).length:Nat):Int)==0))::(C (D ((((M (E b)).length:Nat):Int)==0))::(Y 60 [])))))))))))))))))))))))))))))) m 300 [.b false,.b false] [0,1,2,3,4,5,6,7,8,16,17,18,19,20,21,22,23,24,25,26,27,28,29,30,31,32,33] (S (show ((((M (E a)).length:Nat):Int)==0)=false from y) (S (show ((((M (E b)).length:Nat):Int)==0)=false from z) a0))) (Cv.seq (G (t:=(C (o [D na,sL lm xs])::(C (o [D nb,sL lm ys])::(g [D na,sL lm xs]::(g [D nb,sL lm ys]::(g [D false,H 0 []]::(C (D (B (a<0)))::(C (H ((M (E a)).length) (lm (M (E a))))::(C (D (B (b<0)))::(C (H ((M (E b)).length) (lm (M (E b))))::(X 1 (A (I O ((((M (E a)).length:Nat):Int)+(((M (E b)).length:Nat):Int)))) (Cu [F Ac 0] (A (I O ((((M (E a)).length:Nat):Int)+(((M (E b)).length:Nat):Int)))))::(Y 6 (C (Ax [D (B (a<0)),H ((M (E a)).length) (lm (M (E a)))])::(C (o [D na,sL lm xs])::(C (Ax [D (B (a<0)),H ((M (E a)).length) (lm (M (E a)))])::(C (D (B (a<0)))::(C (H ((M (E a)).length) (lm (M (E a))))::(C (Ax [D (B (b<0)),H ((M (E b)).length) (lm (M (E b)))])::(C (o [D nb,sL lm ys])::(C (Ax [D (B (b<0)),H ((M (E b)).length) (lm (M (E b)))])::(C (D (B (b<0)))::(C (H ((M (E b)).length) (lm (M (E b))))::(C (H ((M (E a)).length) (lm (M (E a))))::(vi (((M (E a)).length:Nat):Int)::(C (D ((((M (E a)).length:Nat):Int)==0))::(C (D ((((M (E a)).length:Nat):Int)==0))::(C (H ((M (E b)).length) (lm (M (E b))))::(vi (((M (E b)).length:Nat):Int)::(C (D ((((M (E b)).length:Nat):Int)==0))::(C (D ((((M (E b)).length:Nat):Int)==0))::(Y 1 (C (H ((M (E a)).length) (lm (M (E a))))::(vi (((M (E a)).length:Nat):Int)::(C (H ((M (E b)).length) (lm (M (E b))))::(vi (((M (E b)).length:Nat):Int)::(vi (I O ((((M (E a)).length:Nat):Int)+(((M (E b)).length:Nat):Int)))::(Y 54 []))))))))))))))))))))))))))))))))))))) m 300 [] ((0)::(1)::(2)::(3)::(4)::(5)::(6)::(7)::(8)::(9)::(16)::(17)::(18)::(19)::(20)::(21)::(22)::(23)::(24)::(25)::(26)::(27)::(28)::(29)::(30)::(31)::(32)::(33)::(35)::(36)::(37)::(38)::(39)::[]) (S (show 0<=(I O ((((M (E a)).length:Nat):Int)+(((M (E b)).length:Nat):Int)))/\(I O ((((M (E a)).length:Nat):Int)+(((M (E b)).length:Nat):Int)))<=1048576 from hmk) a0)) (Cv.seq (Cv.seq (G (t:=(Y 4 (g [D false,H 0 []]::(C (D (B (a<0)))::(Y 1 (C (D (B (b<0)))::(C (H ((M (E b)).length) (lm (M (E b))))::(X 1 (A (I O ((((M (E a)).length:Nat):Int)+(((M (E b)).length:Nat):Int)))) (Cu [F Ac 0] (A (I O ((((M (E a)).length:Nat):Int)+(((M (E b)).length:Nat):Int)))))::(Y 31 (C (H ((M (E a)).length) (lm (M (E a))))::(vi (((M (E a)).length:Nat):Int)::(vi 0::(Y 50 []))))))))))))) m 300 [] [4,5,7,8,9,41,42,43] a0) (Cv.block hl)) (G (t:=(Y 4 (bN r::(C (D (B (a<0)))::(Y 1 (C (D (B (b<0)))::(C (H ((M (E b)).length) (lm (M (E b))))::(C (H (A (I O ((((M (E a)).length:Nat):Int)+(((M (E b)).length:Nat):Int)))) (lm out))::(Y 31 (C (H ((M (E a)).length) (lm (M (E a))))::(vi (((M (E a)).length:Nat):Int)::(vi (((M (E a)).length:Nat):Int)::(Y 45 (C (D (B (a<0)))::(C (D (B (b<0)))::(C (D (!((B (a<0))==(B (b<0)))))::(C (H (A (I O ((((M (E a)).length:Nat):Int)+(((M (E b)).length:Nat):Int)))) (lm out))::(C (o [D (B (r<0)),H ((M (E r)).length) (lm (M (E r)))])::[])))))))))))))))))) (ex := .ret) m 300 [.r (o [D (B (r<0)),H ((M (E r)).length) (lm (M (E r)))])] [4,5,7,8,9,41,42,43,89,90,91,92,93] (S (show RQ 152 [D (!((B (a<0))==(B (b<0)))),H (A (I O ((((M (E a)).length:Nat):Int)+(((M (E b)).length:Nat):Int)))) (lm out)] (o [D (B (r<0)),H ((M (E r)).length) (lm (M (E r)))]) from h3) a0))))))))
theorem Yq(a b:Int)(zs:LI)(h:Ab zs=(a.natAbs:Int)*(b.natAbs:Int)):rv (!(decide (a<0)==decide (b<0))) zs=a*b:=by
 unfold rv;rw[h];by_cases g1:a<0 <;> by_cases g2:b<0
 ·have e1:(a.natAbs:Int) = -a:=by omega
  have e2:(b.natAbs:Int) = -b:=by omega
  rw[e1,e2];simp[g1,g2] <;> grind
 ·have e1:(a.natAbs:Int) = -a:=by omega
  have e2:(b.natAbs:Int)=b:=by omega
  rw[e1,e2];simp[g1,g2] <;> grind
 ·have e1:(a.natAbs:Int)=a:=by omega
  have e2:(b.natAbs:Int) = -b:=by omega
  rw[e1,e2];simp[g1,g2] <;> grind
 ·have e1:(a.natAbs:Int)=a:=by omega
  have e2:(b.natAbs:Int)=b:=by omega
  rw[e1,e2];simp[g1,g2]
theorem Su{na nb:Bool}{xs ys:LI}(hx:AP xs)(hy:AP ys)(hN:xs.length+ys.length<=1048576):RQ 112 [o [D na,sL lm xs],o [D nb,sL lm ys]] (Ah (rv na xs*rv nb ys)):=by
 have l1:=EM (neg:=na) hx;have l2:=EM (neg:=nb) hy;have k1:=Dp (neg:=na) hx (by omega);have k2:=Dp (neg:=nb) hy (by omega);generalize rv na xs=a at *
 generalize rv nb ys=b at *
 have z1:=Dg a.natAbs;have z2:=Dg b.natAbs;by_cases ha:a=0
 ·have h:=mO na xs nb ys a b k1 k2 (by rw[beq_iff_eq];omega);rw[ha,DF];exact h
 by_cases hb:b=0
 ·have h:=mP na xs nb ys a b k1 k2 (by rw[beq_eq_false_iff_ne];omega) (by rw[beq_iff_eq];omega);rw[hb,AM];exact h
 have e1:I O ((((M (E a)).length:Nat):Int)+(((M (E b)).length:Nat):Int))=(((M (E a)).length+(M (E b)).length:Nat):Int):=by rw[Bl (by omega) (by omega)];omega
 have e2:(A (I O ((((M (E a)).length:Nat):Int)+(((M (E b)).length:Nat):Int))))=(M (E a)).length+(M (E b)).length:=by rw[e1,R]
 obtain⟨out,o1,o2,o3,o4⟩:=zN (B (a<0)) (B (b<0)) (M (E a)) (M (E b)) (BI _) (BI _) (by omega) (M (E a)).length 0 (Av ((M (E a)).length+(M (E b)).length) 0) (by omega) (by simp) (ES _) (fun j _=>DA _ j);have hv:Ab out=(a.natAbs:Int)*(b.natAbs:Int):=by rw[o3,EG];simp[Cr]
 have h3:=EO (neg := !(decide (a<0)==decide (b<0))) o2 (by omega);(first|rw[Yq a b out hv,o1] at h3|(rw[Yq a b out hv] at h3;unfold sL at h3;rw[o1] at h3));exact mQ na xs nb ys a b k1 k2 out _ (by rw[beq_eq_false_iff_ne];omega) (by rw[beq_eq_false_iff_ne];omega) (by rw[e1];omega) (by rw[e2,Fc];exact o4) (by rw[e2];exact h3)
def TWC:Cn:=TWB
theorem BH:Ca AY TWC:=m
def Qg(na:Bool)(xs:LI)(w:Int)(s:Int)(k:Nat)(os:LI)(n:Int)(i:Int)(z:Rn):Al:=(Y 4 (g [D z.1,H z.2.length (lm z.2)]::(C (D na)::(Y 1 (C (F O w)::(C (F U s)::(X 1 k (lm os)::(Y 23 (C (sL lm xs)::(C (F O n)::(C (F O i)::(Y 31 []))))))))))))
theorem Ars(na:Bool)(xs:LI)(w:Int)(s:Int)(k:Nat)(os:LI)(n:Int)(i:Int)(z:Rn)(c1:B (i<n)=true)(n1:0<=i/\i<(xs.length:Int))(n2:¬ s<0)(n3:0<=(I O (i+w))/\(I O (i+w))<(k:Int))(n4:os.length=k)(n5:0<=(I O ((I O (i+w))+1))/\(I O ((I O (i+w))+1))<(k:Int))(n6:(os.set (A (I O (i+w))) (I Ac ((T (Am .u32) (os.getD (A (I O (i+w))) 0) ||| T (Am .u32) (I Ac (I U ((I U (xs.getD (A i) 0))*2^(min (A s) (Am .u64)))))).toNat))).length=k):Ar UO (Qg na xs w s k os n i z) .norm (Qg na xs w s k ((os.set (A (I O (i+w))) (I Ac ((T (Am .u32) (os.getD (A (I O (i+w))) 0) ||| T (Am .u32) (I Ac (I U ((I U (xs.getD (A i) 0))*2^(min (A s) (Am .u64)))))).toNat))).set (A (I O ((I O (i+w))+1))) (I Ac (d (I U ((I U (xs.getD (A i) 0))*2^(min (A s) (Am .u64)))) (2^(min (A 32) (Am .u64)))))) n (I O (i+1)) z):=(G BH 400 [.b true,.v (F Ac (xs.getD (A i) 0)),.v (F Ac (os.getD (A (I O (i+w))) 0)),.l (lm (os.set (A (I O (i+w))) (I Ac ((T (Am .u32) (os.getD (A (I O (i+w))) 0) ||| T (Am .u32) (I Ac (I U ((I U (xs.getD (A i) 0))*2^(min (A s) (Am .u64)))))).toNat)))),.l (lm ((os.set (A (I O (i+w))) (I Ac ((T (Am .u32) (os.getD (A (I O (i+w))) 0) ||| T (Am .u32) (I Ac (I U ((I U (xs.getD (A i) 0))*2^(min (A s) (Am .u64)))))).toNat))).set (A (I O ((I O (i+w))+1))) (I Ac (d (I U ((I U (xs.getD (A i) 0))*2^(min (A s) (Am .u64)))) (2^(min (A 32) (Am .u64)))))))] [4,5,7,8,9,33,34,35] (S c1 (S n1 (S (y n1) (S n2 (S n3 (S (Ck n4 n3) (S n3 (S (show C4 (lm os) (A (I O (i+w))*1) [F Ac (I Ac ((T (Am .u32) (os.getD (A (I O (i+w))) 0) ||| T (Am .u32) (I Ac (I U ((I U (xs.getD (A i) 0))*2^(min (A s) (Am .u64)))))).toNat))]=some (lm (os.set (A (I O (i+w))) (I Ac ((T (Am .u32) (os.getD (A (I O (i+w))) 0) ||| T (Am .u32) (I Ac (I U ((I U (xs.getD (A i) 0))*2^(min (A s) (Am .u64)))))).toNat)))) from (CY n4 n3)) (S Ie (S n5 (S (show C4 (lm (os.set (A (I O (i+w))) (I Ac ((T (Am .u32) (os.getD (A (I O (i+w))) 0) ||| T (Am .u32) (I Ac (I U ((I U (xs.getD (A i) 0))*2^(min (A s) (Am .u64)))))).toNat)))) (A (I O ((I O (i+w))+1))*1) [F Ac (I Ac (d (I U ((I U (xs.getD (A i) 0))*2^(min (A s) (Am .u64)))) (2^(min (A 32) (Am .u64)))))]=some (lm ((os.set (A (I O (i+w))) (I Ac ((T (Am .u32) (os.getD (A (I O (i+w))) 0) ||| T (Am .u32) (I Ac (I U ((I U (xs.getD (A i) 0))*2^(min (A s) (Am .u64)))))).toNat))).set (A (I O ((I O (i+w))+1))) (I Ac (d (I U ((I U (xs.getD (A i) 0))*2^(min (A s) (Am .u64)))) (2^(min (A 32) (Am .u64))))))) from (CY n6 n5)) a0))))))))))))
theorem Art(na:Bool)(xs:LI)(w:Int)(s:Int)(k:Nat)(os:LI)(n:Int)(i:Int)(z:Rn)(c1:B (i<n)=false):Ar UO (Qg na xs w s k os n i z) (.exit 0) (Qg na xs w s k os n i z):=(G BH 400 [.b false] [4,5,7,8,9,33,34,35] (S c1 a0))
theorem mR(b na:Bool)(xs as1:LI)(m:Int)(c1:((as1.length:Int)==0)=true)(n1:RQ 143 [o [D b,sL lm xs]] (Ax [D na,sL lm as1])):RQ 104 [o [D b,sL lm xs],F O m] (o [D false,H 0 []]):=A8 RO (Y 4 (g [D false,H 0 []]::(Y 62 []))) (W (W (W (W (q (AJ (G BH 400 [.r (Ax [D na,sL lm as1]),.b true] [4] (S n1 (S c1 a0))) (by nofun)))))))
theorem mS(b na:Bool)(xs as1 os:LI)(m w s n i v:Int)(k:Nat)(z:Rn)(c1:((as1.length:Int)==0)=false)(n1:RQ 143 [o [D b,sL lm xs]] (Ax [D na,sL lm as1]))(n2:0<=(I O ((I O ((as1.length:Int)+(I O (Aw m 32))))+1))/\(I O ((I O ((as1.length:Int)+(I O (Aw m 32))))+1))<=1048576)(hl3:Ar (.loop UO) ((Y 4 (g [D false,H 0 []]::(C (D na)::(Y 1 (C (F O (I O (Aw m 32)))::(C (F U (I U (AD m 32)))::(X 1 (A (I O ((I O ((as1.length:Int)+(I O (Aw m 32))))+1))) (Cu [F Ac 0] (A (I O ((I O ((as1.length:Int)+(I O (Aw m 32))))+1))))::(Y 23 (C (sL lm as1)::(C (F O (as1.length:Int))::(C (F O 0)::(Y 31 []))))))))))))) (.exit 0) (Qg na as1 w s k os n i z))(n4:RQ 152 [D na,H k (lm os)] (Ah v)):RQ 104 [o [D b,sL lm xs],F O m] (Ah v):=A8 RO (Y 4 (g [D (B (v<0)),H ((M (E v)).length) (lm (M (E v)))]::(Y 62 []))) (W (W (W (W (q (Cv.seq (G BH 400 [.r (Ax [D na,sL lm as1]),.b false] [4,5,7,8,9,33,34,35] (S n1 (S c1 (S FP (S FP (S n2 a0)))))) (Cv.seq (Cv.block hl3) (G BH 400 [.r (Ah v)] [4] (S n4 a0)))))))))
def Tw(ts:List Rn)(r:Rn)(e:Int)(w:Rn)(i:Int)(s:Int):Al:=(C (sL pc ts)::(Y 2 (g [D r.1,H r.2.length (lm r.2),F O e]::(Y 1 (g [D w.1,H w.2.length (lm w.2)]::(C (F O i)::(C (F O s)::(Y 24 []))))))))
theorem A0e(ts:List Rn)(r:Rn)(e:Int)(w:Rn)(i:Int)(s:Int)(t:Int)(c1:B (i>=0)=true)(n1:0<=i/\i<(ts.length:Int))(n2:RQ 112 [As w,As r] (Ah ((P w)*(P r))))(n3:RQ 104 [As (ts.getD (A i) z0),F O s] (Ah t))(n4:RQ 111 [Ah ((P w)*(P r)),Ah t] (Ah (((P w)*(P r))+t))):Ar bU (Tw ts r e w i s) .norm (Tw ts r e (cn (((P w)*(P r))+t)) (I O (i-1)) (I O (s+e))):=(G BH 400 [.b true,.r (Ah ((P w)*(P r))),.v (As (ts.getD (A i) z0)),.r (Ah t),.r (Ah (((P w)*(P r))+t))] [0,3,5,6,7] (S c1 (S n2 (S n1 (S (x n1) (S n3 (S n4 a0)))))))
theorem A0f(ts:List Rn)(r:Rn)(e:Int)(w:Rn)(i:Int)(s:Int)(c1:B (i>=0)=false):Ar bU (Tw ts r e w i s) (.exit 0) (Tw ts r e w i s):=(G BH 400 [.b false] [0,3,5,6,7] (S c1 a0))
theorem A0g(ts:List Rn)(r w:Rn)(e i s sg:Int)(hl1:Ar (.loop bU) (Tw ts r e (false,[]) (I O ((ts.length:Int)-1)) 0) (.exit 0) (Tw ts r e w i s))(n2:RQ 101 [As w] (F O sg)):RQ 65 [sL pc ts,o [D r.1,H r.2.length (lm r.2),F O e]] (F O sg):=A8 bV (Y 4 (C (F O sg)::(Y 27 []))) (W (q (Cv.seq (G BH 400 [] [0,3,5,6,7] a0) (Cv.seq (Cv.block hl1) (G BH 400 [.r (F O sg)] [4] (S n2 a0))))))
def TSA:Cn:=TWC
theorem mT:Ca AY TSA:=BH
theorem zO{na:Bool}{xs:LI}{z:Rn}{w s:Nat}(hx:AP xs)(hs:s<32)(hN:w+xs.length<1048576):∀ (r i:Nat) (os:LI),i+r=xs.length->os.length=w+xs.length+1->AP os->Ab os=4294967296^w*(2^s*Ab (xs.take i))->os.getD (i+w) 0<2^s->(∀ t,i+w<t->os.getD t 0=0) ->
  ∃ os',Ar (.loop UO) (Qg na xs (w:Nat) (s:Nat) (w+xs.length+1) os (xs.length:Nat) (i:Nat) z) (.exit 0) (Qg na xs (w:Nat) (s:Nat) (w+xs.length+1) os' (xs.length:Nat) (xs.length:Nat) z)/\os'.length=w+xs.length+1/\AP os'/\Ab os'=4294967296^w*(2^s*Ab xs):=by
 intro r;induction r with
 | zero =>
  intro i os hi hl hu hv _ _;have:i=xs.length:=by omega
  subst this;exact⟨os,Ao (Art na xs _ _ _ os _ _ z (by simp)) (by nofun),hl,hu,by rw[hv,EK]⟩
 | succ r ih =>
  intro i os hi hl hu hv hc hz;have ei:I O ((i:Int)+1)=((i+1:Nat):Int):=by rw[Bl (by omega) (by omega)];omega
  have ew:I O ((i:Int)+(w:Int))=((i+w:Nat):Int):=by rw[Bl (by omega) (by omega)];omega
  have ew1:I O (((i+w:Nat):Int)+1)=((i+w+1:Nat):Int):=by rw[Bl (by omega) (by omega)];omega
  have hxi:=AG hx i;have hoi:=AG hu (i+w);obtain⟨p0,p1,p2,q,q0,q1⟩:=V' hxi hs;have es:(2:Int)^(min (A (s:Int)) (Am .u64))=2^s:=by
   rw[R];congr 1;show min s 64=s;omega
  have hk:=Ars na xs (w:Nat) (s:Nat) (w+xs.length+1) os (xs.length:Nat) (i:Nat) z (by simp;omega) (by omega) (by omega) (by rw[ew];omega) hl (by rw[ew,ew1];omega) (by simpa using hl);rw[ei,ew,ew1,es,R,R,R,C8 (n:=xs.getD i 0) (by omega),C8 ⟨p0,p1⟩,Yl,DW (xs.getD i 0*2^s),q1] at hk;have hqs:q*2^s<4294967296:=by rw[<- q1];omega
  rw[Aql q0 hqs (by omega) ⟨hoi.1,hc⟩] at hk;have hhi:0<=xs.getD i 0*2^s / 4294967296:=by omega
  have hp2:(2:Int)^s<=4294967296:=by have:=G5 (show s<=32 by omega);rwa [show (2:Int)^32=4294967296 by decide] at this
  rw[Q' ⟨hhi,by omega⟩] at hk;have hsum:0<=q*2^s+os.getD (i+w) 0/\q*2^s+os.getD (i+w) 0<4294967296:=by
   have hq2:0<=q*2^s:=by rw[<- q1];omega
   refine⟨by omega,?_⟩;have e:=Q_ (show s<=32 by omega);rw[e] at hqs |-;have hp:=BE s;have:=Gi hqs (by omega);have:=Ae (show q+1<=2^(32-s) by omega) (show (0:Int)<=2^s by omega);rw[Hg,Do] at this;omega
  obtain⟨os',g1,g2,g3,g4⟩:=ih (i+1) ((os.set (i+w) (q*2^s+os.getD (i+w) 0)).set (i+w+1) (xs.getD i 0*2^s / 4294967296)) (by omega) (by simpa using hl) (Cw (Cw hu hsum) ⟨hhi,by omega⟩) (by
    rw[DP _ _ _ (by simp;omega),DP _ _ _ (by omega),Cs (by omega),hz (i+w+1) (by omega),hv,DY xs i (by omega),A2,BB];have e3:xs.getD i 0*2^s=4294967296*(xs.getD i 0*2^s / 4294967296)+q*2^s:=by omega
    generalize (4294967296:Int)^i=P at *
    generalize (4294967296:Int)^w=V at *
    generalize xs.getD i 0*2^s / 4294967296=H at *
    generalize os.getD (i+w) 0=o at *
    generalize q*2^s=Q at *
    have e4:(2:Int)^s*(Ab (xs.take i)+P*xs.getD i 0)=2^s*Ab (xs.take i)+P*(xs.getD i 0*2^s):=by grind
    rw[e4,e3];grind) (by
    rw[show i+1+w=i+w+1 by omega,show ((os.set (i+w) (q*2^s+os.getD (i+w) 0)).set (i+w+1) (xs.getD i 0*2^s / 4294967296)).getD (i+w+1) 0=xs.getD i 0*2^s / 4294967296 by simp[Z,show i+w+1<os.length by omega]];exact p2) (fun t ht=>by rw[Cs (by omega),Cs (by omega)];exact hz t (by omega))
  exact⟨os',Cv.loop hk g1,g2,g3,g4⟩
theorem Yr{neg:Bool}{xs:LI}(hu:AP xs)(n:Nat)(hn:n<=9223372036854775807)(hN:n / 32+xs.length+1<=1048576):RQ 104 [o [D neg,sL lm xs],F O (n:Nat)] (Ah (rv neg xs*2^n)):=by
 have l1:=EM (neg:=neg) hu;have r1:=Dp (neg:=neg) hu (by omega);generalize rv neg xs=a at *
 by_cases h0:(M a.natAbs).length=0
 ·have h:=mR neg _ xs (M a.natAbs) (n:Nat) (by rw[h0];rfl) r1;have ha:a=0:=by have:=(Dg a.natAbs).1 h0;omega
  rw[ha,DF];exact h
 ·have e1:I O (Aw (n:Int) 32)=((n / 32:Nat):Int):=by
   rw[B8 (by omega),Bl (by omega) (by omega)];omega
  have e2:I U (AD (n:Int) 32)=((n % 32:Nat):Int):=by
   rw[Bs (by omega),C8 (by omega)];omega
  have e3:I O ((((M a.natAbs).length:Nat):Int)+((n / 32:Nat):Int))=((n / 32+(M a.natAbs).length:Nat):Int):=by rw[Bl (by omega) (by omega)];omega
  have e4:I O (((n / 32+(M a.natAbs).length:Nat):Int)+1)=((n / 32+(M a.natAbs).length+1:Nat):Int):=by rw[Bl (by omega) (by omega)];omega
  have hs:n % 32<32:=HB _ (by decide);obtain⟨os,g1,g2,g3,g4⟩:=zO (na:=decide (a<0)) (xs:=M a.natAbs) (z:=z0) (w:=n / 32) (BI a.natAbs) hs (by omega) (M a.natAbs).length 0 (Av (n / 32+(M a.natAbs).length+1) 0) (by omega) (by simp) (ES _) (by rw[EG];simp[Ab]) (by rw[DA];exact BE _) (fun t _=>DA _ _);have hm:=EO (neg:=decide (a<0)) g3 (by omega);have hv:rv (B (a<0)) os=a*2^n:=by
   rw[Yi (xs:=M a.natAbs) (t:=2^n) (by rw[g4,HV n];grind),F8]
  rw[hv] at hm;unfold sL at hm;rw[g2] at hm;exact mS neg _ xs (M a.natAbs) os (n:Nat) _ _ _ _ _ _ _ (by rw[beq_eq_false_iff_ne];omega) r1 (by rw[e1,e3,e4];omega) (by rw[e1,e2,e3,e4,R,Fc];exact g1) hm
theorem Aru{K X:Nat}{ts:List Rn}{r:Rn}(ht:∀ t∈ts,AO K t)(hr:AO X r)(e:Nat)(hS:K+2+(ts.length+1)*(X+(e / 32+1)+1)<=1048576)(he:e<=1073741824) :
  ∀ n (w:Rn),n<=ts.length->P w=hv ((Q ts).drop n) (P r) (2^e)->AO (K+1+(ts.length-n)*(X+(e / 32+1)+1)) w -> 
  ∃ w' s',P w'=hv (Q ts) (P r) (2^e)/\AO (K+1+ts.length*(X+(e / 32+1)+1)) w'/\Ar (.loop bU) (Tw ts r (e:Nat) w ((n:Int)-1) ((e*(ts.length-n):Nat):Int)) (.exit 0) (Tw ts r (e:Nat) w' (-1) s'):=by
 have hle:ts.length<=1048576:=by
  have:ts.length*1<=(ts.length+1)*(X+(e / 32+1)+1):=Bj (by omega) (by omega);omega
 intro n;induction n with
 | zero =>
  intro w _ hw gw;exact⟨w,_,by simpa using hw,gw,Ao (A0f ts r (e:Nat) w (((0:Nat):Int)-1) _ (by simp)) (by nofun)⟩
 | succ n ih =>
  intro w hn hw gw;obtain⟨t1,t2⟩:=Bg ht n;have e0:((n+1:Nat):Int)-1=(n:Int):=by omega
  have hK1:(ts.length-(n+1))*(X+(e / 32+1)+1)+(X+(e / 32+1)+1)=(ts.length-n)*(X+(e / 32+1)+1):=by
   rw[show ts.length-n=ts.length-(n+1)+1 by omega,D',Fk]
  have hK2:(ts.length-n)*(X+(e / 32+1)+1)<=(ts.length+1)*(X+(e / 32+1)+1):=AF _ (by omega);have hsh:e*(ts.length-(n+1)) / 32<=(ts.length-(n+1))*(X+(e / 32+1)+1):=by
   have h3:e<=32*(e / 32+1):=by omega
   have h4:e*(ts.length-(n+1))<=32*((ts.length-(n+1))*(e / 32+1)):=by
    calc e*(ts.length-(n+1))<=(32*(e / 32+1))*(ts.length-(n+1)):=AF _ h3
     _=32*((ts.length-(n+1))*(e / 32+1)):=by rw[EQ,CS (e / 32+1)]
   have h5:(ts.length-(n+1))*(e / 32+1)<=(ts.length-(n+1))*(X+(e / 32+1)+1):=AL _ (by omega);omega
  have hb1:e*(ts.length-(n+1))<=1073741824*1048576:=Bj he (by omega);have hb2:e*(ts.length-n)<=1073741824*1048576:=Bj he (by omega);have w1:I O (((e*(ts.length-(n+1)):Nat):Int)+(e:Int))=((e*(ts.length-n):Nat):Int):=by
   have:e*(ts.length-n)=e*(ts.length-(n+1))+e:=by rw[show ts.length-n=ts.length-(n+1)+1 by omega,Pf]
   rw[Bl (by omega) (by omega)];omega
  have w2:I O ((n:Int)-1)=(n:Int)-1:=Bl (by omega) (by omega);have hst:hv ((Q ts).drop n) (P r) (2^e)=P w*P r+P (ts.getD n z0)*2^(e*(ts.length-(n+1))):=by
   have h1:(Q ts).drop n=(Q ts).getD n 0::(Q ts).drop (n+1):=by
    rw[CL (by rw[s];omega)];congr 1;rw[Z,Af (by rw[s];omega)];rfl
   rw[h1,hv,C7,Ep,s,<- hw,<- iV];generalize P (ts.getD n z0)*2^(e*(ts.length-(n+1)))=A;grind
  have fw:=gw.fits;have fp:=(fw.mul hr.fits);have ft:Bm (K+(e*(ts.length-(n+1)) / 32+1)) (P (ts.getD n z0)*2^(e*(ts.length-(n+1)))):=(Bg ht n).fits.mul (Qe _);have hgood:AO (K+1+(ts.length-n)*(X+(e / 32+1)+1)) (cn (P w*P r+P (ts.getD n z0)*2^(e*(ts.length-(n+1))))):=by
   refine (BG ((fp.mono (k:=K+1+(ts.length-(n+1))*(X+(e / 32+1)+1)+X+(e / 32+1)) (by omega)).add (ft.mono (by omega)))).mono (by omega)
  obtain⟨w',s',q1,q2,q3⟩:=ih (cn (P w*P r+P (ts.getD n z0)*2^(e*(ts.length-(n+1))))) (by omega) (by rw[u,hst]) hgood;refine⟨w',s',q1,q2,?_⟩;rw[e0];have l1:=fp.len;have l2:=ft.len;obtain⟨gw1,gw2⟩:=gw;have k:=A0e ts r (e:Nat) w (n:Nat) ((e*(ts.length-(n+1)):Nat):Int) (P (ts.getD n z0)*2^(e*(ts.length-(n+1)))) (by simp) (by omega)
   (Su gw1 hr.1 (by have:=hr.2;omega))
   (by rw[R];exact Yr t1 _ (by omega) (by omega))
   (by
    have:=OS (na:=decide (P w*P r<0)) (nb:=decide (P (ts.getD n z0)*2^(e*(ts.length-(n+1)))<0)) (BI (P w*P r).natAbs) (BI (P (ts.getD n z0)*2^(e*(ts.length-(n+1)))).natAbs) (by omega) (by omega);rw[F8,F8] at this;exact this)
  rw[w1,w2] at k;exact Cv.loop k q3
theorem Re{K X:Nat}{rs:List Rn}{r:Rn}(ht:∀ t∈rs,AO K t)(hr:AO X r)(e:Nat)(hS:K+2+(rs.length+1)*(X+(e / 32+1)+1)<=1048576)(he:e<=1073741824) :
  RQ 65 [sL pc rs,o [D r.1,H r.2.length (lm r.2),F O (e:Nat)]] (F O (BJ (hv (Q rs) (P r) (2^e)))):=by
 have hle:rs.length<=1048576:=by
  have:rs.length*1<=(rs.length+1)*(X+(e / 32+1)+1):=Bj (by omega) (by omega);omega
 obtain⟨w',s',q1,q2,q3⟩:=Aru ht hr e hS he rs.length z0 (Ap _) (by rw[<- s,JP];rfl) (Mh _);rw[LV,aD] at q3;have hK2:rs.length*(X+(e / 32+1)+1)<=(rs.length+1)*(X+(e / 32+1)+1):=AF _ (by omega);have hs:=MT (neg:=w'.1) q2.1 (by have:=q2.2;omega);rw[show rv w'.1 w'.2=P w' from rfl,q1] at hs;have e1:I O ((rs.length:Int)-1)=(rs.length:Int)-1:=Bl (by omega) (by omega);exact A0g rs r w' (e:Nat) (-1) s' _ (by rw[e1];exact q3) hs
def TSB:Cn:=TSA
theorem E5:Ca AY TSB:=mT
def Pz(as1:List Rn)(k:Nat)(cs:List AV)(bs:List Rn):Al:=(Y 3 (C (sL pc as1)::(X 1 k cs::(C (sL pc bs)::(Y 23 [])))))
theorem A0h(as1:List Rn)(k:Nat)(cs:List AV)(bs:List Rn)(us vs:List Rn)(c1:B ((bs.length:Int)>0)=true)(n1:k+1<=1048576)(n2:RQ 118 [sL pc as1,sL pc bs] (L 2 us.length (pc us)))(n3:RQ 117 [sL pc us] (L 2 vs.length (pc vs))):Ar XO (Pz as1 k cs bs) .norm (Pz bs (k+1) (cs++([sL pc bs]:List AV)) vs):=(G h 400 [.b true,.r (L 2 us.length (pc us)),.r (L 2 vs.length (pc vs))] [3,4,5] (S c1 (S (show Bh ([sL pc bs]:List AV)=1*1 from rfl) (S n1 (S n2 (S n3 a0))))))
theorem sG(as1:List Rn)(k:Nat)(cs:List AV)(bs:List Rn)(c1:B ((bs.length:Int)>0)=false):Ar XO (Pz as1 k cs bs) (.exit 0) (Pz as1 k cs bs):=(G h 400 [.b false] [3,4,5] (S c1 a0))
theorem eA(rs fs:List Rn)(c1:((fs.length:Int)==0)=true)(n1:RQ 114 [sL pc rs] (L 2 fs.length (pc fs))):RQ 67 [sL pc rs] (L 1 0 []):=A8 Tb (Y 2 (X 1 0 []::(Y 26 []))) (W (W (W (W (AJ (G h 400 [.r (L 2 fs.length (pc fs)),.b true] [2] (S n1 (S c1 a0))) (by nofun))))))
theorem eB(rs fs ds ps as1 bs:List Rn)(ls:List (List Rn))(c1:((fs.length:Int)==0)=false)(n1:RQ 114 [sL pc rs] (L 2 fs.length (pc fs)))(n2:RQ 116 [sL pc fs] (L 2 ds.length (pc ds)))(n3:RQ 115 [sL pc ds] (L 2 ps.length (pc ps)))(hl4:Ar (.loop XO) (Pz fs 1 ([sL pc fs]:List AV) ps) (.exit 0) (Pz as1 ls.length (pp ls) bs)):RQ 67 [sL pc rs] (L 1 ls.length (pp ls)):=A8 Tb (Y 2 (X 1 ls.length (pp ls)::(Y 26 []))) (W (W (W (W (Cv.seq (G h 400 [.r (L 2 fs.length (pc fs)),.b false,.r (L 2 ds.length (pc ds)),.r (L 2 ps.length (pc ps))] [3,4,5] (S n1 (S c1 (S n2 (S n3 a0))))) (Cv.seq (Cv.block hl4) (G h 400 [] [2] a0)))))))
theorem eE(rs fs:List Rn)(c1:((fs.length:Int)==0)=true)(n1:RQ 114 [sL pc rs] (sL pc fs)):RQ 67 [sL pc rs] (L 1 0 []):=A8 Tb (Y 2 (X 1 0 []::(Y 26 []))) (W (W (W (W (AJ (G h 400 [.r (sL pc fs),.b true] [2] (S n1 (S c1 a0))) (by nofun))))))
theorem eF(rs fs ds ps as1 bs:List Rn)(ls:List (List Rn))(c1:((fs.length:Int)==0)=false)(n1:RQ 114 [sL pc rs] (sL pc fs))(n2:RQ 116 [sL pc fs] (L 2 ds.length (pc ds)))(n3:RQ 115 [sL pc ds] (L 2 ps.length (pc ps)))(hl4:Ar (.loop XO) (Pz fs 1 ([sL pc fs]:List AV) ps) (.exit 0) (Pz as1 ls.length (pp ls) bs)):RQ 67 [sL pc rs] (L 1 ls.length (pp ls)):=A8 Tb (Y 2 (X 1 ls.length (pp ls)::(Y 26 []))) (W (W (W (W (Cv.seq (G h 400 [.r (sL pc fs),.b false,.r (L 2 ds.length (pc ds)),.r (L 2 ps.length (pc ps))] [3,4,5] (S n1 (S c1 (S n2 (S n3 a0))))) (Cv.seq (Cv.block hl4) (G h 400 [] [2] a0)))))))
def Ll(ls:List (List Rn))(r:Rn)(e:Int)(n:Int)(last:Int)(m:Int)(i:Int):Al:=(Y 3 (g [D r.1,H r.2.length (lm r.2),F O e]::(Y 1 (C (F O n)::(C (F O last)::(Y 3 (C (sL pp ls)::(C (F O m)::(C (F O i)::(Y 24 []))))))))))
theorem A0i(ls:List (List Rn))(r:Rn)(e:Int)(n:Int)(last:Int)(m:Int)(i:Int)(s:Int)(c1:B (i<m)=true)(c2:(s != 0)=true)(c3:(last != 0)=true)(c4:(s != last)=true)(n1:0<=i/\i<(ls.length:Int))(n2:RQ 65 [H ((ls.getD (A i) []).length) (pc (ls.getD (A i) [])),o [D r.1,H r.2.length (lm r.2),F O e]] (F O s)):Ar Tc (Ll ls r e n last m i) .norm (Ll ls r e (I O (n+1)) s m (I O (i+1))):=(G h 400 [.b true,.v (H ((ls.getD (A i) []).length) (pc (ls.getD (A i) []))),.r (F O s),.b true,.b true,.b true,.b true] [3,5,6,10,11,12] (S c1 (S n1 (S (Ff n1) (S n2 (S c2 (S c3 (S c4 (S c2 a0)))))))))
theorem A0j(ls:List (List Rn))(r:Rn)(e:Int)(n:Int)(last:Int)(m:Int)(i:Int)(s:Int)(c1:B (i<m)=true)(c2:(s != 0)=true)(c3:(last != 0)=true)(c4:(s != last)=false)(n1:0<=i/\i<(ls.length:Int))(n2:RQ 65 [H ((ls.getD (A i) []).length) (pc (ls.getD (A i) [])),o [D r.1,H r.2.length (lm r.2),F O e]] (F O s)):Ar Tc (Ll ls r e n last m i) .norm (Ll ls r e n s m (I O (i+1))):=(G h 400 [.b true,.v (H ((ls.getD (A i) []).length) (pc (ls.getD (A i) []))),.r (F O s),.b true,.b true,.b false,.b true] [3,5,6,10,11,12] (S c1 (S n1 (S (Ff n1) (S n2 (S c2 (S c3 (S c4 (S c2 a0)))))))))
theorem A0k(ls:List (List Rn))(r:Rn)(e:Int)(n:Int)(last:Int)(m:Int)(i:Int)(s:Int)(c1:B (i<m)=true)(c2:(s != 0)=true)(c3:(last != 0)=false)(n1:0<=i/\i<(ls.length:Int))(n2:RQ 65 [H ((ls.getD (A i) []).length) (pc (ls.getD (A i) [])),o [D r.1,H r.2.length (lm r.2),F O e]] (F O s)):Ar Tc (Ll ls r e n last m i) .norm (Ll ls r e n s m (I O (i+1))):=(G h 400 [.b true,.v (H ((ls.getD (A i) []).length) (pc (ls.getD (A i) []))),.r (F O s),.b true,.b false,.b false,.b true] [3,5,6,10,11,12] (S c1 (S n1 (S (Ff n1) (S n2 (S c2 (S c3 (S EI (S c2 a0)))))))))
theorem A0l(ls:List (List Rn))(r:Rn)(e:Int)(n:Int)(last:Int)(m:Int)(i:Int)(s:Int)(c1:B (i<m)=true)(c2:(s != 0)=false)(n1:0<=i/\i<(ls.length:Int))(n2:RQ 65 [H ((ls.getD (A i) []).length) (pc (ls.getD (A i) [])),o [D r.1,H r.2.length (lm r.2),F O e]] (F O s)):Ar Tc (Ll ls r e n last m i) .norm (Ll ls r e n last m (I O (i+1))):=(G h 400 [.b true,.v (H ((ls.getD (A i) []).length) (pc (ls.getD (A i) []))),.r (F O s),.b false,.b false,.b false,.b false] [3,5,6,10,11,12] (S c1 (S n1 (S (Ff n1) (S n2 (S c2 (S EI (S EI (S c2 a0)))))))))
theorem A0m(ls:List (List Rn))(r:Rn)(e:Int)(n:Int)(last:Int)(m:Int)(i:Int)(c1:B (i<m)=false):Ar Tc (Ll ls r e n last m i) (.exit 0) (Ll ls r e n last m i):=(G h 400 [.b false] [3,5,6,10,11,12] (S c1 a0))
theorem A0n(ls:List (List Rn))(r:Rn)(e n last i:Int)(hl1:Ar (.loop Tc) (Ll ls r e 0 0 (ls.length:Int) 0) (.exit 0) (Ll ls r e n last (ls.length:Int) i)):RQ 68 [sL pp ls,o [D r.1,H r.2.length (lm r.2),F O e]] (F O n):=A8 bY (Y 4 (C (F O n)::(Y 32 []))) (W (q (Cv.seq (G h 400 [] [3,5,6,10,11,12] a0) (Cv.seq (Cv.block hl1) (G h 400 [] [4] a0)))))
def Om(k:Nat)(cs:List AV)(bs:List Rn):Al:=(Y 4 (X 1 k cs::(C (sL pc bs)::(Y 27 []))))
theorem Arv(k:Nat)(cs:List AV)(bs:List Rn)(ws us vs:List Rn)(c1:B ((bs.length:Int)>0)=true)(n1:k+1<=1048576)(n2:0<=(I O ((((k+1):Nat):Int)-2))/\(I O ((((k+1):Nat):Int)-2))<(((k+1):Nat):Int))(n3:Bn (cs++([sL pc bs]:List AV)) (A (I O ((((k+1):Nat):Int)-2))*1) 1 true=some (sL pc ws))(n4:RQ 119 [sL pc ws,sL pc bs] (sL pc us))(n5:RQ 153 [sL pc us] (L 2 vs.length (pc vs))):Ar UR (Om k cs bs) .norm (Om (k+1) (cs++([sL pc bs]:List AV)) vs):=(G h 400 [.b true,.v (sL pc ws),.r (sL pc us),.r (L 2 vs.length (pc vs))] [4,5] (S c1 (S (show Bh ([sL pc bs]:List AV)=1*1 from rfl) (S n1 (S n2 (S n3 (S n4 (S n5 a0))))))))
theorem eG(k:Nat)(cs:List AV)(bs:List Rn)(c1:B ((bs.length:Int)>0)=false):Ar UR (Om k cs bs) (.exit 0) (Om k cs bs):=(G h 400 [.b false] [4,5] (S c1 a0))
theorem mU(rs fs:List Rn)(c1:((fs.length:Int)==0)=true)(n1:RQ 73 [sL pc rs] (sL pc fs)):RQ 108 [sL pc rs] (L 1 0 []):=A8 RP (Y 2 (X 1 0 []::(Y 30 []))) (W (W (W (W (AJ (G h 400 [.r (sL pc fs),.b true] [2] (S n1 (S c1 a0))) (by nofun))))))
theorem mV(rs fs ds ps bs:List Rn)(ls:List (List Rn))(c1:((fs.length:Int)==0)=false)(n1:RQ 73 [sL pc rs] (sL pc fs))(n2:RQ 122 [sL pc fs] (L 2 ds.length (pc ds)))(n3:RQ 86 [sL pc ds] (L 2 ps.length (pc ps)))(hl4:Ar (.loop UR) (Om 1 ([sL pc fs]:List AV) ps) (.exit 0) (Om ls.length (pp ls) bs)):RQ 108 [sL pc rs] (L 1 ls.length (pp ls)):=A8 RP (Y 2 (X 1 ls.length (pp ls)::(Y 30 []))) (W (W (W (W (Cv.seq (G h 400 [.r (sL pc fs),.b false,.r (L 2 ds.length (pc ds)),.r (L 2 ps.length (pc ps))] [4,5] (S n1 (S c1 (S n2 (S n3 a0))))) (Cv.seq (Cv.block hl4) (G h 400 [] [2] a0)))))))
def Iw(ls:List (List Rn))(r:Rn)(e:Int)(n:Int)(last:Int)(i:Int):Al:=(C (sL pp ls)::(Y 2 (g [D r.1,H r.2.length (lm r.2),F O e]::(Y 1 (C (F O n)::(C (F O last)::(C (F O i)::(Y 34 []))))))))
theorem Arw(ls:List (List Rn))(r:Rn)(e:Int)(n:Int)(last:Int)(i:Int)(w s:Int)(c1:B (i<(ls.length:Int))=true)(c2:(s != 0)=true)(c3:(last != 0)=true)(c4:(s != last)=true)(n1:0<=i/\i<(ls.length:Int))(n2:RQ 80 [H ((ls.getD (A i) []).length) (pc (ls.getD (A i) [])),As r,F O e] (Ah w))(n3:RQ 79 [Ah w] (F O s)):Ar NT (Iw ls r e n last i) .norm (Iw ls r e (I O (n+1)) s (I O (i+1))):=(G h 400 [.b true,.v (H ((ls.getD (A i) []).length) (pc (ls.getD (A i) []))),.r (Ah w),.r (F O s),.b true,.b true,.b true,.b true] [0,3,5,6,7] (S c1 (S n1 (S (Ff n1) (S n2 (S n3 (S c2 (S c3 (S c4 (S c2 a0))))))))))
theorem Arx(ls:List (List Rn))(r:Rn)(e:Int)(n:Int)(last:Int)(i:Int)(w s:Int)(c1:B (i<(ls.length:Int))=true)(c2:(s != 0)=true)(c3:(last != 0)=true)(c4:(s != last)=false)(n1:0<=i/\i<(ls.length:Int))(n2:RQ 80 [H ((ls.getD (A i) []).length) (pc (ls.getD (A i) [])),As r,F O e] (Ah w))(n3:RQ 79 [Ah w] (F O s)):Ar NT (Iw ls r e n last i) .norm (Iw ls r e n s (I O (i+1))):=(G h 400 [.b true,.v (H ((ls.getD (A i) []).length) (pc (ls.getD (A i) []))),.r (Ah w),.r (F O s),.b true,.b true,.b false,.b true] [0,3,5,6,7] (S c1 (S n1 (S (Ff n1) (S n2 (S n3 (S c2 (S c3 (S c4 (S c2 a0))))))))))
theorem Ary(ls:List (List Rn))(r:Rn)(e:Int)(n:Int)(last:Int)(i:Int)(w s:Int)(c1:B (i<(ls.length:Int))=true)(c2:(s != 0)=true)(c3:(last != 0)=false)(n1:0<=i/\i<(ls.length:Int))(n2:RQ 80 [H ((ls.getD (A i) []).length) (pc (ls.getD (A i) [])),As r,F O e] (Ah w))(n3:RQ 79 [Ah w] (F O s)):Ar NT (Iw ls r e n last i) .norm (Iw ls r e n s (I O (i+1))):=(G h 400 [.b true,.v (H ((ls.getD (A i) []).length) (pc (ls.getD (A i) []))),.r (Ah w),.r (F O s),.b true,.b false,.b false,.b true] [0,3,5,6,7] (S c1 (S n1 (S (Ff n1) (S n2 (S n3 (S c2 (S c3 (S EI (S c2 a0))))))))))
theorem Arz(ls:List (List Rn))(r:Rn)(e:Int)(n:Int)(last:Int)(i:Int)(w s:Int)(c1:B (i<(ls.length:Int))=true)(c2:(s != 0)=false)(n1:0<=i/\i<(ls.length:Int))(n2:RQ 80 [H ((ls.getD (A i) []).length) (pc (ls.getD (A i) [])),As r,F O e] (Ah w))(n3:RQ 79 [Ah w] (F O s)):Ar NT (Iw ls r e n last i) .norm (Iw ls r e n last (I O (i+1))):=(G h 400 [.b true,.v (H ((ls.getD (A i) []).length) (pc (ls.getD (A i) []))),.r (Ah w),.r (F O s),.b false,.b false,.b false,.b false] [0,3,5,6,7] (S c1 (S n1 (S (Ff n1) (S n2 (S n3 (S c2 (S EI (S EI (S c2 a0))))))))))
theorem Asa(ls:List (List Rn))(r:Rn)(e:Int)(n:Int)(last:Int)(i:Int)(c1:B (i<(ls.length:Int))=false):Ar NT (Iw ls r e n last i) (.exit 0) (Iw ls r e n last i):=(G h 400 [.b false] [0,3,5,6,7] (S c1 a0))
theorem Asb(ls:List (List Rn))(r:Rn)(e n last i:Int)(hl1:Ar (.loop NT) (Iw ls r e 0 0 0) (.exit 0) (Iw ls r e n last i)):RQ 110 [sL pp ls,o [D r.1,H r.2.length (lm r.2),F O e]] (F O n):=A8 US (Y 4 (C (F O n)::(Y 37 []))) (W (q (Cv.seq (G h 400 [] [0,3,5,6,7] a0) (Cv.seq (Cv.block hl1) (G h 400 [] [4] a0)))))
def TZA:Cn:=TDD
theorem mW:Ca AY TZA:=h
theorem Asc(na nb:Bool)(xs ys qs rs:LI)(v w:Int)(n1:RQ 99 [sL lm xs] (L 1 ((Aa xs).length) (lm (Aa xs))))(n2:RQ 99 [sL lm ys] (L 1 ((Aa ys).length) (lm (Aa ys))))(n3:RQ 165 [H ((Aa xs).length) (lm (Aa xs)),H ((Aa ys).length) (lm (Aa ys))] (Ax [sL lm qs,sL lm rs]))(n4:RQ 98 [D (!(na==nb)),sL lm qs] (CD v))(n5:RQ 98 [D na,sL lm rs] (CD w)):RQ 138 [o [D na,sL lm xs],o [D nb,sL lm ys]] (Ax [Ah v,Ah w]):=i (fn:=Vk) h rfl 400 rfl [.r (L 1 ((Aa xs).length) (lm (Aa xs))),.r (L 1 ((Aa ys).length) (lm (Aa ys))),.r (Ax [sL lm qs,sL lm rs]),.r (CD v),.r (CD w)] (S n1 (S n2 (S n3 (S n4 (S n5 a0)))))
def Lm(x:Rn)(y:Rn):Al:=(Y 4 (g [D false,H 0 []]::(g [D x.1,H x.2.length (lm x.2)]::(g [D y.1,H y.2.length (lm y.2)]::(Y 20 [])))))
theorem zP(x:Rn)(y:Rn)(q r:Int)(c1:((BJ (P y)) != 0)=true)(n1:RQ 79 [As y] (F O (BJ (P y))))(n2:RQ 138 [As x,As y] (Ax [Ah q,Ah r])):Ar QN (Lm x y) .norm (Lm y (cn r)):=(G h 400 [.r (F O (BJ (P y))),.b true,.r (Ax [Ah q,Ah r])] [4,5,6] (S n1 (S c1 (S n2 a0))))
theorem Ys(x:Rn)(y:Rn)(c1:((BJ (P y)) != 0)=false)(n1:RQ 79 [As y] (F O (BJ (P y)))):Ar QN (Lm x y) (.exit 0) (Lm x y):=(G h 400 [.r (F O (BJ (P y))),.b false] [4,5,6] (S n1 (S c1 a0)))
theorem Asd(na nb:Bool)(xs ys:LI)(va vb:Int)(x y:Rn)(n1:RQ 98 [D false,sL lm xs] (CD va))(n2:RQ 98 [D false,sL lm ys] (CD vb))(hl3:Ar (.loop QN) (Lm (cn va) (cn vb)) (.exit 0) (Lm x y)):RQ 164 [o [D na,sL lm xs],o [D nb,sL lm ys]] (As x):=A8 Vz (Y 4 (g [D x.1,H x.2.length (lm x.2)]::(Y 22 []))) (W (Cv.seq (G h 400 [.r (CD va),.r (CD vb)] [4,5,6] (S n1 (S n2 a0))) (Cv.seq (Cv.block hl3) (G h 400 [] [4] a0))))
def On(rs:List Rn)(w:Rn)(i:Int):Al:=(C (sL pc rs)::(Y 1 (g [D false,H 0 []]::(g [D w.1,H w.2.length (lm w.2)]::(C (F O i)::(Y 14 []))))))
theorem Ase(rs:List Rn)(w:Rn)(i:Int)(g:Int)(c1:B (i<(rs.length:Int))=true)(n1:0<=i/\i<(rs.length:Int))(n2:RQ 164 [As w,As (rs.getD (A i) z0)] (Ah g)):Ar Vi (On rs w i) .norm (On rs (cn g) (I O (i+1))):=(G h 400 [.b true,.v (As (rs.getD (A i) z0)),.r (Ah g)] [0,2,3,4] (S c1 (S n1 (S (x n1) (S n2 a0)))))
theorem Asf(rs:List Rn)(w:Rn)(i:Int)(c1:B (i<(rs.length:Int))=false):Ar Vi (On rs w i) (.exit 0) (On rs w i):=(G h 400 [.b false] [0,2,3,4] (S c1 a0))
theorem Asg(rs:List Rn)(w:Rn)(i:Int)(hl1:Ar (.loop Vi) (On rs (false,[]) 0) (.exit 0) (On rs w i)):RQ 137 [sL pc rs] (As w):=A8 Vj (Y 2 (g [D w.1,H w.2.length (lm w.2)]::(Y 16 []))) (W (q (Cv.seq (G h 400 [] [0,2,3,4] a0) (Cv.seq (Cv.block hl1) (G h 400 [] [2] a0)))))
def Tx(rs:List Rn)(c:Rn)(k:Nat)(cs:List AV)(i:Int):Al:=(C (sL pc rs)::(Y 1 (X 2 0 []::(g [D c.1,H c.2.length (lm c.2)]::(X 2 k cs::(C (F O i)::(Y 28 [])))))))
theorem A0o(rs:List Rn)(c:Rn)(k:Nat)(cs:List AV)(i:Int)(q r:Int)(c1:B (i<(rs.length:Int))=true)(n1:0<=i/\i<(rs.length:Int))(n2:k+1<=1048576)(n3:RQ 138 [As (rs.getD (A i) z0),As c] (Ax [Ah q,Ah r])):Ar cD (Tx rs c k cs i) .norm (Tx rs c (k+1) (cs++([D (B (q<0)),H ((M (E q)).length) (lm (M (E q)))]:List AV)) (I O (i+1))):=(G h 400 [.b true,.v (As (rs.getD (A i) z0)),.r (Ax [Ah q,Ah r])] [0,2,3,4,5] (S c1 (S n1 (S (x n1) (S n3 (S (show Bh ([D (B (q<0)),H ((M (E q)).length) (lm (M (E q)))]:List AV)=1*2 from rfl) (S n2 a0)))))))
theorem A0p(rs:List Rn)(c:Rn)(k:Nat)(cs:List AV)(i:Int)(c1:B (i<(rs.length:Int))=false):Ar cD (Tx rs c k cs i) (.exit 0) (Tx rs c k cs i):=(G h 400 [.b false] [0,2,3,4,5] (S c1 a0))
theorem zQ(rs:List Rn)(c:Int)(c1:((BJ c)==0)=true)(n1:RQ 137 [sL pc rs] (Ah c))(n2:RQ 79 [Ah c] (F O (BJ c))):RQ 86 [sL pc rs] (L 2 0 []):=A8 XT (Y 2 (X 2 0 []::(Y 31 []))) (W (W (W (q (AJ (G h 400 [.r (Ah c),.r (F O (BJ c)),.b true] [2] (S n1 (S n2 (S c1 a0)))) (by nofun))))))
theorem zU(rs os ts:List Rn)(c i:Int)(k:Nat)(c1:((BJ c)==0)=false)(n1:RQ 137 [sL pc rs] (Ah c))(n2:RQ 79 [Ah c] (F O (BJ c)))(hl3:Ar (.loop cD) (Tx rs (cn c) 0 ([]:List AV) 0) (.exit 0) (Tx rs (cn c) k (pc os) i))(n4:RQ 46 [H k (pc os)] (L 2 ts.length (pc ts))):RQ 86 [sL pc rs] (L 2 ts.length (pc ts)):=A8 XT (Y 2 (X 2 ts.length (pc ts)::(Y 31 []))) (W (W (W (q (Cv.seq (G h 400 [.r (Ah c),.r (F O (BJ c)),.b false] [0,2,3,4,5] (S n1 (S n2 (S c1 a0)))) (Cv.seq (Cv.block hl3) (G h 400 [.r (L 2 ts.length (pc ts))] [2] (S n4 a0))))))))
def Oo(rs:List Rn)(k:Nat)(cs:List AV)(i:Int):Al:=(C (sL pc rs)::(Y 1 (X 2 0 []::(X 2 k cs::(C (F O i)::(Y 18 []))))))
theorem Ash(rs:List Rn)(k:Nat)(cs:List AV)(i:Int)(c1:B (i<(rs.length:Int))=true)(n1:0<=i/\i<(rs.length:Int))(n2:k+1<=1048576)(n3:RQ 49 [F O i] (Ah i))(n4:RQ 96 [Ah i,As (rs.getD (A i) z0)] (Ah (i*(P (rs.getD (A i) z0))))):Ar Va (Oo rs k cs i) .norm (Oo rs (k+1) (cs++([D (B ((i*(P (rs.getD (A i) z0)))<0)),H ((M (E (i*(P (rs.getD (A i) z0))))).length) (lm (M (E (i*(P (rs.getD (A i) z0))))))]:List AV)) (I O (i+1))):=(G h 400 [.b true,.r (Ah i),.v (As (rs.getD (A i) z0)),.r (Ah (i*(P (rs.getD (A i) z0))))] [0,2,3,4] (S c1 (S n3 (S n1 (S (x n1) (S n4 (S (show Bh ([D (B ((i*(P (rs.getD (A i) z0)))<0)),H ((M (E (i*(P (rs.getD (A i) z0))))).length) (lm (M (E (i*(P (rs.getD (A i) z0))))))]:List AV)=1*2 from rfl) (S n2 a0))))))))
theorem Asi(rs:List Rn)(k:Nat)(cs:List AV)(i:Int)(c1:B (i<(rs.length:Int))=false):Ar Va (Oo rs k cs i) (.exit 0) (Oo rs k cs i):=(G h 400 [.b false] [0,2,3,4] (S c1 a0))
theorem Asj(rs os ts:List Rn)(i:Int)(k:Nat)(hl1:Ar (.loop Va) (Oo rs 0 ([]:List AV) 1) (.exit 0) (Oo rs k (pc os) i))(n2:RQ 46 [H k (pc os)] (L 2 ts.length (pc ts))):RQ 122 [sL pc rs] (L 2 ts.length (pc ts)):=A8 Vb (Y 2 (X 2 ts.length (pc ts)::(Y 20 []))) (W (q (Cv.seq (G h 400 [] [0,2,3,4] a0) (Cv.seq (Cv.block hl1) (G h 400 [.r (L 2 ts.length (pc ts))] [2] (S n2 a0))))))
def Oq(rs:List Rn)(k:Nat)(cs:List AV)(i:Int):Al:=(C (sL pc rs)::(Y 1 (X 2 0 []::(X 2 k cs::(C (F O i)::(Y 16 []))))))
theorem Asl(rs:List Rn)(k:Nat)(cs:List AV)(i:Int)(c1:B (i<(rs.length:Int))=true)(n1:0<=i/\i<(rs.length:Int))(n2:k+1<=1048576)(n3:RQ 161 [As (rs.getD (A i) z0)] (Ah (-(P (rs.getD (A i) z0))))):Ar Vq (Oq rs k cs i) .norm (Oq rs (k+1) (cs++([D (B ((-(P (rs.getD (A i) z0)))<0)),H ((M (E (-(P (rs.getD (A i) z0))))).length) (lm (M (E (-(P (rs.getD (A i) z0))))))]:List AV)) (I O (i+1))):=(G h 400 [.b true,.v (As (rs.getD (A i) z0)),.r (Ah (-(P (rs.getD (A i) z0))))] [0,2,3,4] (S c1 (S n1 (S (x n1) (S n3 (S (show Bh ([D (B ((-(P (rs.getD (A i) z0)))<0)),H ((M (E (-(P (rs.getD (A i) z0))))).length) (lm (M (E (-(P (rs.getD (A i) z0))))))]:List AV)=1*2 from rfl) (S n2 a0)))))))
theorem Asm(rs:List Rn)(k:Nat)(cs:List AV)(i:Int)(c1:B (i<(rs.length:Int))=false):Ar Vq (Oq rs k cs i) (.exit 0) (Oq rs k cs i):=(G h 400 [.b false] [0,2,3,4] (S c1 a0))
theorem Asn(rs os ts:List Rn)(i:Int)(k:Nat)(hl1:Ar (.loop Vq) (Oq rs 0 ([]:List AV) 0) (.exit 0) (Oq rs k (pc os) i))(n2:RQ 46 [H k (pc os)] (L 2 ts.length (pc ts))):RQ 153 [sL pc rs] (L 2 ts.length (pc ts)):=A8 Vr (Y 2 (X 2 ts.length (pc ts)::(Y 18 []))) (W (q (Cv.seq (G h 400 [] [0,2,3,4] a0) (Cv.seq (Cv.block hl1) (G h 400 [.r (L 2 ts.length (pc ts))] [2] (S n2 a0))))))
theorem mX(rs ns:List Rn)(c1:B ((rs.length:Int)>0)=true)(c2:(B ((BJ (P (rs.getD (A (I O ((rs.length:Int)-1))) z0)))<0))=true)(n1:0<=(I O ((rs.length:Int)-1))/\(I O ((rs.length:Int)-1))<(rs.length:Int))(n2:RQ 79 [As (rs.getD (A (I O ((rs.length:Int)-1))) z0)] (F O (BJ (P (rs.getD (A (I O ((rs.length:Int)-1))) z0)))))(n3:RQ 153 [sL pc rs] (L 2 ns.length (pc ns))):RQ 120 [sL pc rs] (L 2 ns.length (pc ns)):=i (fn:=PM) h rfl 400 rfl [.b true,.v (As (rs.getD (A (I O ((rs.length:Int)-1))) z0)),.r (F O (BJ (P (rs.getD (A (I O ((rs.length:Int)-1))) z0)))),.b true,.r (L 2 ns.length (pc ns))] (S c1 (S n1 (S (x n1) (S n2 (S c2 (S n3 a0))))))
theorem mY(rs:List Rn)(c1:B ((rs.length:Int)>0)=true)(c2:(B ((BJ (P (rs.getD (A (I O ((rs.length:Int)-1))) z0)))<0))=false)(n1:0<=(I O ((rs.length:Int)-1))/\(I O ((rs.length:Int)-1))<(rs.length:Int))(n2:RQ 79 [As (rs.getD (A (I O ((rs.length:Int)-1))) z0)] (F O (BJ (P (rs.getD (A (I O ((rs.length:Int)-1))) z0))))):RQ 120 [sL pc rs] (sL pc rs):=i (fn:=PM) h rfl 400 rfl [.b true,.v (As (rs.getD (A (I O ((rs.length:Int)-1))) z0)),.r (F O (BJ (P (rs.getD (A (I O ((rs.length:Int)-1))) z0)))),.b false] (S c1 (S n1 (S (x n1) (S n2 (S c2 a0)))))
theorem mZ(rs:List Rn)(c1:B ((rs.length:Int)>0)=false):RQ 120 [sL pc rs] (sL pc rs):=i (fn:=PM) h rfl 400 rfl [.b false,.b false] (S c1 (S EI a0))
def Gy(rs:List Rn)(ds:List Rn)(t:Rn)(u:Rn)(q:Int)(k:Nat)(cs:List AV)(i:Int):Al:=(Y 4 (X 2 0 []::(C (sL pc rs)::(C (sL pc ds)::(g [D t.1,H t.2.length (lm t.2)]::(g [D u.1,H u.2.length (lm u.2)]::(C (F O q)::(X 2 k cs::(C (F O i)::(Y 68 []))))))))))
theorem zW(rs:List Rn)(ds:List Rn)(t:Rn)(u:Rn)(q:Int)(k:Nat)(cs:List AV)(i:Int)(c1:(B (i<(I O ((rs.length:Int)-1))))=true)(c2:B (i>=q)=true)(n1:0<=i/\i<(rs.length:Int))(n2:0<=(I O (i-q))/\(I O (i-q))<(ds.length:Int))(n3:k+1<=1048576)(n4:RQ 96 [o [D false,H t.2.length (lm t.2)],As (rs.getD (A i) z0)] (Ah ((P (false,t.2))*(P (rs.getD (A i) z0)))))(n5:RQ 96 [As u,As (ds.getD (A (I O (i-q))) z0)] (Ah ((P u)*(P (ds.getD (A (I O (i-q))) z0)))))(n6:RQ 129 [Ah ((P (false,t.2))*(P (rs.getD (A i) z0))),Ah ((P u)*(P (ds.getD (A (I O (i-q))) z0)))] (Ah (((P (false,t.2))*(P (rs.getD (A i) z0)))-((P u)*(P (ds.getD (A (I O (i-q))) z0)))))):Ar La (Gy rs ds t u q k cs i) .norm (Gy rs ds t u q (k+1) (cs++([D (B ((((P (false,t.2))*(P (rs.getD (A i) z0)))-((P u)*(P (ds.getD (A (I O (i-q))) z0))))<0)),H ((M (E (((P (false,t.2))*(P (rs.getD (A i) z0)))-((P u)*(P (ds.getD (A (I O (i-q))) z0)))))).length) (lm (M (E (((P (false,t.2))*(P (rs.getD (A i) z0)))-((P u)*(P (ds.getD (A (I O (i-q))) z0)))))))]:List AV)) (I O (i+1))):=(G h 400 [.b true,.v (As (rs.getD (A i) z0)),.r (Ah ((P (false,t.2))*(P (rs.getD (A i) z0)))),.b true,.v (As (ds.getD (A (I O (i-q))) z0)),.r (Ah ((P u)*(P (ds.getD (A (I O (i-q))) z0)))),.r (Ah (((P (false,t.2))*(P (rs.getD (A i) z0)))-((P u)*(P (ds.getD (A (I O (i-q))) z0)))))] [4,5,6,7,8,9,10,11] (S c1 (S n1 (S (x n1) (S n4 (S c2 (S n2 (S (x n2) (S n5 (S n6 (S (show Bh ([D (B ((((P (false,t.2))*(P (rs.getD (A i) z0)))-((P u)*(P (ds.getD (A (I O (i-q))) z0))))<0)),H ((M (E (((P (false,t.2))*(P (rs.getD (A i) z0)))-((P u)*(P (ds.getD (A (I O (i-q))) z0)))))).length) (lm (M (E (((P (false,t.2))*(P (rs.getD (A i) z0)))-((P u)*(P (ds.getD (A (I O (i-q))) z0)))))))]:List AV)=1*2 from rfl) (S n3 a0))))))))))))
theorem zX(rs:List Rn)(ds:List Rn)(t:Rn)(u:Rn)(q:Int)(k:Nat)(cs:List AV)(i:Int)(c1:(B (i<(I O ((rs.length:Int)-1))))=true)(c2:B (i>=q)=false)(n1:0<=i/\i<(rs.length:Int))(n2:k+1<=1048576)(n3:RQ 96 [o [D false,H t.2.length (lm t.2)],As (rs.getD (A i) z0)] (Ah ((P (false,t.2))*(P (rs.getD (A i) z0))))):Ar La (Gy rs ds t u q k cs i) .norm (Gy rs ds t u q (k+1) (cs++([D (B (((P (false,t.2))*(P (rs.getD (A i) z0)))<0)),H ((M (E ((P (false,t.2))*(P (rs.getD (A i) z0))))).length) (lm (M (E ((P (false,t.2))*(P (rs.getD (A i) z0))))))]:List AV)) (I O (i+1))):=(G h 400 [.b true,.v (As (rs.getD (A i) z0)),.r (Ah ((P (false,t.2))*(P (rs.getD (A i) z0)))),.b false] [4,5,6,7,8,9,10,11] (S c1 (S n1 (S (x n1) (S n3 (S c2 (S (show Bh ([D (B (((P (false,t.2))*(P (rs.getD (A i) z0)))<0)),H ((M (E ((P (false,t.2))*(P (rs.getD (A i) z0))))).length) (lm (M (E ((P (false,t.2))*(P (rs.getD (A i) z0))))))]:List AV)=1*2 from rfl) (S n2 a0))))))))
theorem zY(rs:List Rn)(ds:List Rn)(t:Rn)(u:Rn)(q:Int)(k:Nat)(cs:List AV)(i:Int)(c1:(B (i<(I O ((rs.length:Int)-1))))=false):Ar La (Gy rs ds t u q k cs i) (.exit 2) (Gy rs ds t u q k cs i):=(G h 400 [.b false] [4,5,6,7,8,9,10,11] (S c1 a0))
def JG(rs:List Rn)(ds:List Rn)(t:Rn):Al:=(Y 4 (X 2 0 []::(C (sL pc rs)::(C (sL pc ds)::(g [D t.1,H t.2.length (lm t.2)]::(Y 72 []))))))
theorem Aso(rs:List Rn)(ds:List Rn)(t:Rn)(os ts xs:List Rn)(k:Nat)(i:Int)(c1:B ((rs.length:Int)>=(ds.length:Int))=true)(c2:B ((BJ (P t))<0)=true)(n1:0<=(I O ((rs.length:Int)-1))/\(I O ((rs.length:Int)-1))<(rs.length:Int))(n2:RQ 79 [As t] (F O (BJ (P t))))(n3:RQ 161 [As (rs.getD (A (I O ((rs.length:Int)-1))) z0)] (Ah (-(P (rs.getD (A (I O ((rs.length:Int)-1))) z0)))))(hl4:Ar (.loop La) (Gy rs ds t (cn (-(P (rs.getD (A (I O ((rs.length:Int)-1))) z0)))) (I O ((rs.length:Int)-(ds.length:Int))) 0 ([]:List AV) 0) (.exit 2) (Gy rs ds t (cn (-(P (rs.getD (A (I O ((rs.length:Int)-1))) z0)))) (I O ((rs.length:Int)-(ds.length:Int))) k (pc os) i))(n5:RQ 46 [H k (pc os)] (L 2 ts.length (pc ts)))(n6:RQ 86 [sL pc ts] (L 2 xs.length (pc xs))):Ar PL (JG rs ds t) .norm (JG xs ds t):=(Cv.seq (G (t:=(Y 4 (X 2 0 []::(vp rs::(vp ds::(bR t::(Y 72 []))))))) h 400 [.b true] [4,5,6,7] (S c1 a0)) (Cd (W (W (W (q (Cv.seq (G h 400 [.v (As (rs.getD (A (I O ((rs.length:Int)-1))) z0)),.r (F O (BJ (P t))),.b true,.r (Ah (-(P (rs.getD (A (I O ((rs.length:Int)-1))) z0))))] [4,5,6,7,8,9,10,11] (S n1 (S (x n1) (S n2 (S c2 (S n3 a0)))))) (Cv.seq (Cv.block hl4) (G h 400 [.r (L 2 ts.length (pc ts)),.r (L 2 xs.length (pc xs))] [4,5,6,7] (S n5 (S n6 a0)))))))))))
theorem Asp(rs:List Rn)(ds:List Rn)(t:Rn)(os ts xs:List Rn)(k:Nat)(i:Int)(c1:B ((rs.length:Int)>=(ds.length:Int))=true)(c2:B ((BJ (P t))<0)=false)(n1:0<=(I O ((rs.length:Int)-1))/\(I O ((rs.length:Int)-1))<(rs.length:Int))(n2:RQ 79 [As t] (F O (BJ (P t))))(hl3:Ar (.loop La) (Gy rs ds t (rs.getD (A (I O ((rs.length:Int)-1))) z0) (I O ((rs.length:Int)-(ds.length:Int))) 0 ([]:List AV) 0) (.exit 2) (Gy rs ds t (rs.getD (A (I O ((rs.length:Int)-1))) z0) (I O ((rs.length:Int)-(ds.length:Int))) k (pc os) i))(n4:RQ 46 [H k (pc os)] (L 2 ts.length (pc ts)))(n5:RQ 86 [sL pc ts] (L 2 xs.length (pc xs))):Ar PL (JG rs ds t) .norm (JG xs ds t):=(Cv.seq (G (t:=(Y 4 (X 2 0 []::(vp rs::(vp ds::(bR t::(Y 72 []))))))) h 400 [.b true] [4,5,6,7] (S c1 a0)) (Cd (W (W (W (q (Cv.seq (G h 400 [.v (As (rs.getD (A (I O ((rs.length:Int)-1))) z0)),.r (F O (BJ (P t))),.b false] [4,5,6,7,8,9,10,11] (S n1 (S (x n1) (S n2 (S c2 a0))))) (Cv.seq (Cv.block hl3) (G h 400 [.r (L 2 ts.length (pc ts)),.r (L 2 xs.length (pc xs))] [4,5,6,7] (S n4 (S n5 a0)))))))))))
theorem eH(rs:List Rn)(ds:List Rn)(t:Rn)(c1:B ((rs.length:Int)>=(ds.length:Int))=false):Ar PL (JG rs ds t) (.exit 0) (JG rs ds t):=(AJ (G h 400 [.b false] [4,5,6,7] (S c1 a0)) (by nofun))
theorem Asq(rs ss ps ds us:List Rn)(t:Rn)(n1:RQ 86 [sL pc rs] (L 2 ps.length (pc ps)))(n2:RQ 46 [sL pc ss] (L 2 ds.length (pc ds)))(n3:0<=(I O ((ds.length:Int)-1))/\(I O ((ds.length:Int)-1))<(ds.length:Int))(hl4:Ar (.loop PL) (JG ps ds (ds.getD (A (I O ((ds.length:Int)-1))) z0)) (.exit 0) (JG us ds t)):RQ 119 [sL pc rs,sL pc ss] (sL pc us):=A8 U' (Y 4 (C (sL pc us)::(Y 75 []))) (W (W (Cv.seq (G h 400 [.r (L 2 ps.length (pc ps)),.r (L 2 ds.length (pc ds)),.v (As (ds.getD (A (I O ((ds.length:Int)-1))) z0))] [4,5,6,7] (S n1 (S n2 (S n3 (S (x n3) a0))))) (Cv.seq (Cv.block hl4) (G h 400 [] [4] a0)))))
def JH(as1:List Rn)(bs:List Rn):Al:=(Y 4 (X 2 0 []::(C (sL pc as1)::(C (sL pc bs)::(Y 15 [])))))
theorem eI(as1:List Rn)(bs:List Rn)(us:List Rn)(c1:B ((bs.length:Int)>0)=true)(n1:RQ 119 [sL pc as1,sL pc bs] (sL pc us)):Ar PH (JH as1 bs) .norm (JH bs us):=(G h 400 [.b true,.r (sL pc us)] [4,5,6] (S c1 (S n1 a0)))
theorem eJ(as1:List Rn)(bs:List Rn)(c1:B ((bs.length:Int)>0)=false):Ar PH (JH as1 bs) (.exit 0) (JH as1 bs):=(G h 400 [.b false] [4,5,6] (S c1 a0))
theorem zZ(rs ss ps qs as1 bs ts:List Rn)(n1:RQ 86 [sL pc rs] (L 2 ps.length (pc ps)))(n2:RQ 86 [sL pc ss] (L 2 qs.length (pc qs)))(hl3:Ar (.loop PH) (JH ps qs) (.exit 0) (JH as1 bs))(n4:RQ 120 [sL pc as1] (L 2 ts.length (pc ts))):RQ 70 [sL pc rs,sL pc ss] (L 2 ts.length (pc ts)):=A8 XQ (Y 4 (X 2 ts.length (pc ts)::(Y 17 []))) (W (Cv.seq (G h 400 [.r (L 2 ps.length (pc ps)),.r (L 2 qs.length (pc qs))] [4,5,6] (S n1 (S n2 a0))) (Cv.seq (Cv.block hl3) (G h 400 [.r (L 2 ts.length (pc ts))] [4] (S n4 a0)))))
theorem Aaa(rs ss ps qs as1 bs:List Rn)(n1:RQ 86 [sL pc rs] (L 2 ps.length (pc ps)))(n2:RQ 86 [sL pc ss] (L 2 qs.length (pc qs)))(hl3:Ar (.loop PH) (JH ps qs) (.exit 0) (JH as1 bs))(n4:RQ 120 [sL pc as1] (sL pc as1)):RQ 70 [sL pc rs,sL pc ss] (sL pc as1):=A8 XQ (Y 4 (C (sL pc as1)::(Y 17 []))) (W (Cv.seq (G h 400 [.r (L 2 ps.length (pc ps)),.r (L 2 qs.length (pc qs))] [4,5,6] (S n1 (S n2 a0))) (Cv.seq (Cv.block hl3) (G h 400 [.r (sL pc as1)] [4] (S n4 a0)))))
def Jg(rs:List Rn)(ds:List Rn)(t:Rn)(k:Nat)(os:List Rn)(u:Rn)(q:Int)(i:Int):Al:=(Y 4 (X 2 0 []::(C (sL pc rs)::(C (sL pc ds)::(g [D t.1,H t.2.length (lm t.2)]::(X 2 k (pc os)::(g [D u.1,H u.2.length (lm u.2)]::(C (F O q)::(C (F O i)::(Y 91 []))))))))))
theorem Aab(rs:List Rn)(ds:List Rn)(t:Rn)(k:Nat)(os:List Rn)(u:Rn)(q:Int)(i:Int)(c1:B (i<(k:Int))=true)(n1:0<=i/\i<(k:Int))(n2:os.length=k)(n3:RQ 96 [As (os.getD (A i) z0),As t] (Ah ((P (os.getD (A i) z0))*(P t)))):Ar OI (Jg rs ds t k os u q i) .norm (Jg rs ds t k (os.set (A i) (cn ((P (os.getD (A i) z0))*(P t)))) u q (I O (i+1))):=(G h 400 [.b true,.v (As (os.getD (A i) z0)),.r (Ah ((P (os.getD (A i) z0))*(P t))),.l (pc (os.set (A i) (cn ((P (os.getD (A i) z0))*(P t)))))] [4,5,6,7,8,9,10,11] (S c1 (S n1 (S (Gb n2 n1) (S n3 (S n1 (S (F9 (r:=cn ((P (os.getD (A i) z0))*(P t))) n2 n1) a0)))))))
theorem Aac(rs:List Rn)(ds:List Rn)(t:Rn)(k:Nat)(os:List Rn)(u:Rn)(q:Int)(i:Int)(c1:B (i<(k:Int))=false):Ar OI (Jg rs ds t k os u q i) (.exit 2) (Jg rs ds t k os u q i):=(G h 400 [.b false] [4,5,6,7,8,9,10,11] (S c1 a0))
def Hm(rs:List Rn)(ds:List Rn)(t:Rn)(k:Nat)(os:List Rn)(u:Rn)(q:Int)(m:Nat)(cs:List AV)(i:Int):Al:=(Y 4 (X 2 0 []::(C (sL pc rs)::(C (sL pc ds)::(g [D t.1,H t.2.length (lm t.2)]::(X 2 k (pc os)::(g [D u.1,H u.2.length (lm u.2)]::(C (F O q)::(Y 1 (X 2 m cs::(C (F O i)::(Y 89 []))))))))))))
theorem Aad(rs:List Rn)(ds:List Rn)(t:Rn)(k:Nat)(os:List Rn)(u:Rn)(q:Int)(m:Nat)(cs:List AV)(i:Int)(c1:(B (i<(I O ((rs.length:Int)-1))))=true)(c2:B (i>=q)=true)(n1:0<=i/\i<(rs.length:Int))(n2:0<=(I O (i-q))/\(I O (i-q))<(ds.length:Int))(n3:m+1<=1048576)(n4:RQ 96 [As t,As (rs.getD (A i) z0)] (Ah ((P t)*(P (rs.getD (A i) z0)))))(n5:RQ 96 [As u,As (ds.getD (A (I O (i-q))) z0)] (Ah ((P u)*(P (ds.getD (A (I O (i-q))) z0)))))(n6:RQ 129 [Ah ((P t)*(P (rs.getD (A i) z0))),Ah ((P u)*(P (ds.getD (A (I O (i-q))) z0)))] (Ah (((P t)*(P (rs.getD (A i) z0)))-((P u)*(P (ds.getD (A (I O (i-q))) z0)))))):Ar MB (Hm rs ds t k os u q m cs i) .norm (Hm rs ds t k os u q (m+1) (cs++([D (B ((((P t)*(P (rs.getD (A i) z0)))-((P u)*(P (ds.getD (A (I O (i-q))) z0))))<0)),H ((M (E (((P t)*(P (rs.getD (A i) z0)))-((P u)*(P (ds.getD (A (I O (i-q))) z0)))))).length) (lm (M (E (((P t)*(P (rs.getD (A i) z0)))-((P u)*(P (ds.getD (A (I O (i-q))) z0)))))))]:List AV)) (I O (i+1))):=(G h 400 [.b true,.v (As (rs.getD (A i) z0)),.r (Ah ((P t)*(P (rs.getD (A i) z0)))),.b true,.v (As (ds.getD (A (I O (i-q))) z0)),.r (Ah ((P u)*(P (ds.getD (A (I O (i-q))) z0)))),.r (Ah (((P t)*(P (rs.getD (A i) z0)))-((P u)*(P (ds.getD (A (I O (i-q))) z0)))))] [4,5,6,7,8,9,10,12,13] (S c1 (S n1 (S (x n1) (S n4 (S c2 (S n2 (S (x n2) (S n5 (S n6 (S (show Bh ([D (B ((((P t)*(P (rs.getD (A i) z0)))-((P u)*(P (ds.getD (A (I O (i-q))) z0))))<0)),H ((M (E (((P t)*(P (rs.getD (A i) z0)))-((P u)*(P (ds.getD (A (I O (i-q))) z0)))))).length) (lm (M (E (((P t)*(P (rs.getD (A i) z0)))-((P u)*(P (ds.getD (A (I O (i-q))) z0)))))))]:List AV)=1*2 from rfl) (S n3 a0))))))))))))
theorem Aae(rs:List Rn)(ds:List Rn)(t:Rn)(k:Nat)(os:List Rn)(u:Rn)(q:Int)(m:Nat)(cs:List AV)(i:Int)(c1:(B (i<(I O ((rs.length:Int)-1))))=true)(c2:B (i>=q)=false)(n1:0<=i/\i<(rs.length:Int))(n2:m+1<=1048576)(n3:RQ 96 [As t,As (rs.getD (A i) z0)] (Ah ((P t)*(P (rs.getD (A i) z0))))):Ar MB (Hm rs ds t k os u q m cs i) .norm (Hm rs ds t k os u q (m+1) (cs++([D (B (((P t)*(P (rs.getD (A i) z0)))<0)),H ((M (E ((P t)*(P (rs.getD (A i) z0))))).length) (lm (M (E ((P t)*(P (rs.getD (A i) z0))))))]:List AV)) (I O (i+1))):=(G h 400 [.b true,.v (As (rs.getD (A i) z0)),.r (Ah ((P t)*(P (rs.getD (A i) z0)))),.b false] [4,5,6,7,8,9,10,12,13] (S c1 (S n1 (S (x n1) (S n3 (S c2 (S (show Bh ([D (B (((P t)*(P (rs.getD (A i) z0)))<0)),H ((M (E ((P t)*(P (rs.getD (A i) z0))))).length) (lm (M (E ((P t)*(P (rs.getD (A i) z0))))))]:List AV)=1*2 from rfl) (S n2 a0))))))))
theorem Aaf(rs:List Rn)(ds:List Rn)(t:Rn)(k:Nat)(os:List Rn)(u:Rn)(q:Int)(m:Nat)(cs:List AV)(i:Int)(c1:(B (i<(I O ((rs.length:Int)-1))))=false):Ar MB (Hm rs ds t k os u q m cs i) (.exit 4) (Hm rs ds t k os u q m cs i):=(G h 400 [.b false] [4,5,6,7,8,9,10,12,13] (S c1 a0))
def Qh(rs:List Rn)(ds:List Rn)(t:Rn)(k:Nat)(os:List Rn):Al:=(Y 4 (X 2 0 []::(C (sL pc rs)::(C (sL pc ds)::(g [D t.1,H t.2.length (lm t.2)]::(X 2 k (pc os)::(Y 94 [])))))))
theorem Asr(rs:List Rn)(ds:List Rn)(t:Rn)(k:Nat)(os:List Rn)(os1 ns ts:List Rn)(m:Nat)(i1 i2:Int)(c1:B ((rs.length:Int)>=(ds.length:Int))=true)(n1:0<=(I O ((rs.length:Int)-1))/\(I O ((rs.length:Int)-1))<(rs.length:Int))(hl2:Ar (.loop OI) (Jg rs ds t k os (rs.getD (A (I O ((rs.length:Int)-1))) z0) (I O ((rs.length:Int)-(ds.length:Int))) 0) (.exit 2) (Jg rs ds t k os1 (rs.getD (A (I O ((rs.length:Int)-1))) z0) (I O ((rs.length:Int)-(ds.length:Int))) i1))(n3:0<=(I O ((rs.length:Int)-(ds.length:Int)))/\(I O ((rs.length:Int)-(ds.length:Int)))<(k:Int))(n4:os1.length=k)(hl5:Ar (.loop MB) (Hm rs ds t k (os1.set (A (I O ((rs.length:Int)-(ds.length:Int)))) (rs.getD (A (I O ((rs.length:Int)-1))) z0)) (rs.getD (A (I O ((rs.length:Int)-1))) z0) (I O ((rs.length:Int)-(ds.length:Int))) 0 ([]:List AV) 0) (.exit 4) (Hm rs ds t k (os1.set (A (I O ((rs.length:Int)-(ds.length:Int)))) (rs.getD (A (I O ((rs.length:Int)-1))) z0)) (rs.getD (A (I O ((rs.length:Int)-1))) z0) (I O ((rs.length:Int)-(ds.length:Int))) m (pc ns) i2))(n6:RQ 46 [H m (pc ns)] (L 2 ts.length (pc ts))):Ar Vc (Qh rs ds t k os) .norm (Qh ts ds t k (os1.set (A (I O ((rs.length:Int)-(ds.length:Int)))) (rs.getD (A (I O ((rs.length:Int)-1))) z0))):=(Cv.seq (G (t:=(Y 4 (X 2 0 []::(vp rs::(vp ds::(bR t::(X 2 k (pc os)::(Y 94 [])))))))) h 400 [.b true] [4,5,6,7,8] (S c1 a0)) (Cd (W (q (Cv.seq (G h 400 [.v (As (rs.getD (A (I O ((rs.length:Int)-1))) z0))] [4,5,6,7,8,9,10,11] (S n1 (S (x n1) a0))) (Cv.seq (Cv.block hl2) (W (q (Cv.seq (G h 400 [.l (pc (os1.set (A (I O ((rs.length:Int)-(ds.length:Int)))) (rs.getD (A (I O ((rs.length:Int)-1))) z0)))] [4,5,6,7,8,9,10,12,13] (S n3 (S (F9 (r:=rs.getD (A (I O ((rs.length:Int)-1))) z0) n4 n3) a0))) (Cv.seq (Cv.block hl5) (G h 400 [.r (L 2 ts.length (pc ts))] [4,5,6,7,8] (S n6 a0))))))))))))
theorem eL(rs:List Rn)(ds:List Rn)(t:Rn)(k:Nat)(os:List Rn)(c1:B ((rs.length:Int)>=(ds.length:Int))=false):Ar Vc (Qh rs ds t k os) (.exit 0) (Qh rs ds t k os):=(AJ (G h 400 [.b false] [4,5,6,7,8] (S c1 a0)) (by nofun))
theorem Ass(rs ss ps ds xs os us ts:List Rn)(t:Rn)(k:Nat)(n1:RQ 46 [sL pc rs] (L 2 ps.length (pc ps)))(n2:RQ 46 [sL pc ss] (L 2 ds.length (pc ds)))(n3:0<=(I O ((ds.length:Int)-1))/\(I O ((ds.length:Int)-1))<(ds.length:Int))(n4:0<=(I O ((I O ((ps.length:Int)-(ds.length:Int)))+1))/\(I O ((I O ((ps.length:Int)-(ds.length:Int)))+1))<=1048576)(hl5:Ar (.loop Vc) ((Y 4 (X 2 0 []::(C (sL pc ps)::(C (sL pc ds)::(g [D ((ds.getD (A (I O ((ds.length:Int)-1))) z0).1),H ((ds.getD (A (I O ((ds.length:Int)-1))) z0).2.length) (lm (ds.getD (A (I O ((ds.length:Int)-1))) z0).2)]::(X 2 (A (I O ((I O ((ps.length:Int)-(ds.length:Int)))+1))) (Cu [D false,H 0 []] (A (I O ((I O ((ps.length:Int)-(ds.length:Int)))+1))))::(Y 94 [])))))))) (.exit 0) (Qh xs ds t k os))(n6:RQ 46 [H k (pc os)] (L 2 ts.length (pc ts)))(n7:RQ 86 [sL pc ts] (L 2 us.length (pc us)))(n8:RQ 120 [sL pc us] (sL pc us)):RQ 123 [sL pc rs,sL pc ss] (sL pc us):=A8 Ve (Y 4 (C (sL pc us)::(Y 98 []))) (W (W (W (Cv.seq (G h 400 [.r (L 2 ps.length (pc ps)),.r (L 2 ds.length (pc ds)),.v (As (ds.getD (A (I O ((ds.length:Int)-1))) z0))] [4,5,6,7,8] (S n1 (S n2 (S n3 (S (x n3) (S n4 a0)))))) (Cv.seq (Cv.block hl5) (G h 400 [.r (L 2 ts.length (pc ts)),.r (L 2 us.length (pc us)),.r (sL pc us)] [4] (S n6 (S n7 (S n8 a0)))))))))
theorem Z1(rs ps xs:List Rn)(c1:B ((xs.length:Int)<=1)=true)(n1:RQ 86 [sL pc rs] (L 2 ps.length (pc ps)))(n2:RQ 120 [sL pc ps] (L 2 xs.length (pc xs))):RQ 73 [sL pc rs] (sL pc xs):=i (fn:=Pu) h rfl 400 rfl [.r (L 2 ps.length (pc ps)),.r (L 2 xs.length (pc xs)),.b true] (S n1 (S n2 (S c1 a0)))
theorem Z2(rs ps xs ds gs us:List Rn)(c1:B ((xs.length:Int)<=1)=false)(n1:RQ 86 [sL pc rs] (L 2 ps.length (pc ps)))(n2:RQ 120 [sL pc ps] (L 2 xs.length (pc xs)))(n3:RQ 122 [sL pc xs] (L 2 ds.length (pc ds)))(n4:RQ 70 [sL pc xs,sL pc ds] (L 2 gs.length (pc gs)))(n5:RQ 123 [sL pc xs,sL pc gs] (sL pc us)):RQ 73 [sL pc rs] (sL pc us):=i (fn:=Pu) h rfl 400 rfl [.r (L 2 ps.length (pc ps)),.r (L 2 xs.length (pc xs)),.b false,.r (L 2 ds.length (pc ds)),.r (L 2 gs.length (pc gs)),.r (sL pc us)] (S n1 (S n2 (S c1 (S n3 (S n4 (S n5 a0))))))
theorem Z3(rs ps xs ds gs us:List Rn)(c1:B ((xs.length:Int)<=1)=false)(n1:RQ 86 [sL pc rs] (L 2 ps.length (pc ps)))(n2:RQ 120 [sL pc ps] (L 2 xs.length (pc xs)))(n3:RQ 122 [sL pc xs] (L 2 ds.length (pc ds)))(n4:RQ 70 [sL pc xs,sL pc ds] (sL pc gs))(n5:RQ 123 [sL pc xs,sL pc gs] (sL pc us)):RQ 73 [sL pc rs] (sL pc us):=i (fn:=Pu) h rfl 400 rfl [.r (L 2 ps.length (pc ps)),.r (L 2 xs.length (pc xs)),.b false,.r (L 2 ds.length (pc ds)),.r (sL pc gs),.r (sL pc us)] (S n1 (S n2 (S c1 (S n3 (S n4 (S n5 a0))))))
theorem Z4(rs ps ds gs us:List Rn)(c1:B ((ps.length:Int)<=1)=false)(n1:RQ 86 [sL pc rs] (L 2 ps.length (pc ps)))(n2:RQ 120 [sL pc ps] (sL pc ps))(n3:RQ 122 [sL pc ps] (L 2 ds.length (pc ds)))(n4:RQ 70 [sL pc ps,sL pc ds] (L 2 gs.length (pc gs)))(n5:RQ 123 [sL pc ps,sL pc gs] (sL pc us)):RQ 73 [sL pc rs] (sL pc us):=i (fn:=Pu) h rfl 400 rfl [.r (L 2 ps.length (pc ps)),.r (sL pc ps),.b false,.r (L 2 ds.length (pc ds)),.r (L 2 gs.length (pc gs)),.r (sL pc us)] (S n1 (S n2 (S c1 (S n3 (S n4 (S n5 a0))))))
theorem Z5(rs ps:List Rn)(c1:B ((ps.length:Int)<=1)=true)(n1:RQ 86 [sL pc rs] (L 2 ps.length (pc ps)))(n2:RQ 120 [sL pc ps] (sL pc ps)):RQ 73 [sL pc rs] (sL pc ps):=i (fn:=Pu) h rfl 400 rfl [.r (L 2 ps.length (pc ps)),.r (sL pc ps),.b true] (S n1 (S n2 (S c1 a0)))
theorem Z6(rs ps ds gs us:List Rn)(c1:B ((ps.length:Int)<=1)=false)(n1:RQ 86 [sL pc rs] (L 2 ps.length (pc ps)))(n2:RQ 120 [sL pc ps] (sL pc ps))(n3:RQ 122 [sL pc ps] (L 2 ds.length (pc ds)))(n4:RQ 70 [sL pc ps,sL pc ds] (sL pc gs))(n5:RQ 123 [sL pc ps,sL pc gs] (sL pc us)):RQ 73 [sL pc rs] (sL pc us):=i (fn:=Pu) h rfl 400 rfl [.r (L 2 ps.length (pc ps)),.r (sL pc ps),.b false,.r (L 2 ds.length (pc ds)),.r (sL pc gs),.r (sL pc us)] (S n1 (S n2 (S c1 (S n3 (S n4 (S n5 a0))))))
theorem nA(a b q r:Int)(hq:q=(a.natAbs:Int) / (b.natAbs:Int))(hr:r=(a.natAbs:Int) % (b.natAbs:Int)) :
  (if (!(decide (a<0)==decide (b<0)))=true then -q else q)=Aw a b/\(if decide (a<0)=true then -r else r)=AD a b:=by
 subst hq hr;have hA:(0:Int)<=(a.natAbs:Int):=by omega
 by_cases ha:a<0 <;> by_cases hb:b<0
 ·have ea:a = -(a.natAbs:Int):=by omega
  have eb:b = -(b.natAbs:Int):=by omega
  have h1:Aw a b=(a.natAbs:Int) / (b.natAbs:Int):=by
   rw[<- B8 hA];conv=>lhs;rw[ea,eb,Afb,Afc,Int.neg_neg]
  have h2:AD a b = -((a.natAbs:Int) % (b.natAbs:Int)):=by
   rw[<- Bs hA];conv=>lhs;rw[ea,eb,Afd,Afe]
  rw[h1,h2,decide_eq_true ha,decide_eq_true hb];simp
 ·have ea:a = -(a.natAbs:Int):=by omega
  have eb:b=(b.natAbs:Int):=by omega
  have h1:Aw a b = -((a.natAbs:Int) / (b.natAbs:Int)):=by
   rw[<- B8 hA];conv=>lhs;rw[ea,eb,Afb]
  have h2:AD a b = -((a.natAbs:Int) % (b.natAbs:Int)):=by
   rw[<- Bs hA];conv=>lhs;rw[ea,eb,Afd]
  rw[h1,h2,decide_eq_true ha,decide_eq_false hb];simp
 ·have ea:a=(a.natAbs:Int):=by omega
  have eb:b = -(b.natAbs:Int):=by omega
  have h1:Aw a b = -((a.natAbs:Int) / (b.natAbs:Int)):=by
   rw[<- B8 hA];conv=>lhs;rw[ea,eb,Afc]
  have h2:AD a b=(a.natAbs:Int) % (b.natAbs:Int):=by
   rw[<- Bs hA];conv=>lhs;rw[ea,eb,Afe]
  rw[h1,h2,decide_eq_false ha,decide_eq_true hb];simp
 ·have ea:a=(a.natAbs:Int):=by omega
  have eb:b=(b.natAbs:Int):=by omega
  have h1:Aw a b=(a.natAbs:Int) / (b.natAbs:Int):=by
   rw[<- B8 hA];conv=>lhs;rw[ea,eb]
  have h2:AD a b=(a.natAbs:Int) % (b.natAbs:Int):=by
   rw[<- Bs hA];conv=>lhs;rw[ea,eb]
  rw[h1,h2,decide_eq_false ha,decide_eq_false hb];simp
theorem OT{na nb:Bool}{xs ys:LI}(hx:AP xs)(hy:AP ys)(h0:rv nb ys ≠ 0)(h1:xs.length<1048576)(h2:ys.length<1048576) :
  RQ 158 [o [D na,sL lm xs],o [D nb,sL lm ys]] (Ax [Ah (Aw (rv na xs) (rv nb ys)),Ah (AD (rv na xs) (rv nb ys))]):=by
 have l1:=EM (neg:=na) hx;have l2:=EM (neg:=nb) hy;have r1:=Dp (neg:=na) hx (by omega);have r2:=Dp (neg:=nb) hy (by omega);generalize rv na xs=a at *
 generalize rv nb ys=b at *
 have hb0:M b.natAbs ≠ []:=by rw[Ne,IH];omega
 obtain⟨qs,rs,q1,q2,q3,q4,q5,q6,q7⟩:=Xi (Ci a.natAbs) (Ci b.natAbs) hb0 (by omega) (by omega);rw[Cr,Cr] at q5 q6;obtain⟨e1,e2⟩:=nA a b _ _ q5 q6;have m1:=EO (neg := !(decide (a<0)==decide (b<0))) q1 q3;have m2:=EO (neg:=decide (a<0)) q2 q4;have f1:rv (!(decide (a<0)==decide (b<0))) qs=Aw a b:=e1;have f2:rv (B (a<0)) rs=AD a b:=e2;rw[f1] at m1;rw[f2] at m2;exact Aqz na nb _ _ xs ys _ _ qs rs _ _ r1 r2 q7 m1 m2
theorem Ty{n:Nat}{b:Bool}(h:(M n).length<=2):RQ 183 [o [D b,H (M n).length (lm (M n))]] (F U (n:Nat)):=by
 have hu:=BI n;have hv:=Cr n;generalize hxs:M n=xs at *
 have hl:=Cv.up (prog:=AY) (c:=V7) (ex := .exit 0) (fin:=Og xs (n:Nat) (xs.length:Nat) (xs.length:Nat))
  (fun i=>Og xs (Ab (xs.take i)) (xs.length:Nat) (i:Nat)) xs.length (by nofun) ?_ ?_ 0 (Ba _)
 ·exact Arc b xs (n:Nat) (xs.length:Nat) (xs.length:Nat) (by simpa [Ab] using hl)
 ·intro i hi;have ei:I O ((i:Int)+1)=((i+1:Nat):Int):=by rw[Bl (by omega) (by omega)];omega
  have e32:I U (I O (32*(i:Int)))=((32*i:Nat):Int):=by rw[Bl (by omega) (by omega),C8 (by omega)];omega
  have em:min (A ((32*i:Nat):Int)) (Am .u64)=32*i:=by rw[R];show min (32*i) 64=32*i;omega
  have hxi:=AG hu i;have k:=Ara xs (Ab (xs.take i)) (xs.length:Nat) (i:Nat) (by simp;omega) (by omega) (by rw[e32];omega);rw[ei,e32,em,R,C8 (n:=xs.getD i 0) (by omega)] at k;have hp:xs.getD i 0*2^(32*i)<18446744073709551616:=by
   have:=G5 (show 32*i<=32 by omega);rw[show (2:Int)^32=4294967296 by decide] at this;have:=DJ (show xs.getD i 0<=4294967295 by omega) this (by have:=BE (32*i);omega) (by omega);omega
  have h0:=A6 hxi.1 (show (0:Int)<=2^(32*i) by have:=BE (32*i);omega);have hlt:=Ge hu i;rw[MR] at hlt;rw[C8 ⟨h0,hp⟩,TW,Apl hxi.1 hp (by omega) ⟨AZ (DS hu i),hlt⟩] at k;refine k.to rfl ?_;rw[DY xs i hi,MR];congr 1;rw[AA];omega
 ·rw[EK,hv];exact Arb xs (n:Nat) (xs.length:Nat) (xs.length:Nat) (by simp)
theorem Z7:∀ (f a b:Nat),b<=f->Ar (.loop V5) (Oh (a:Nat) (b:Nat)) (.exit 0) (Oh (Ix a b:Nat) 0):=by
 intro f;induction f with
 | zero =>
  intro a b hb;have:b=0:=by omega
  subst this;rw[GJ];exact Ao (dP _ _ (by simp)) (by nofun)
 | succ f ih =>
  intro a b hb;by_cases h0:b=0
  ·subst h0;rw[GJ];exact Ao (dP _ _ (by simp)) (by nofun)
  ·have k:=Are (a:Nat) (b:Nat) (by simp;omega) (by omega);rw[Bs (by omega),<- Ast] at k;have hm:=HB a (show 0<b by omega);have:=ih b (a % b) (by omega);rw[J5 b,<- Avz,J5 b a] at this;exact Cv.loop k this
theorem sH{n:Nat}(h:(M n).length<=2):(n:Int)<18446744073709551616:=by
 have h1:=DI (BI n);rw[Cr] at h1;have h2:=Gl h;rw[show (4294967296:Int)^2=18446744073709551616 by decide] at h2;omega
theorem eM{n:Nat}(h:(n:Int)<18446744073709551616):RQ 181 [F U (n:Nat)] (Ah (n:Nat)):=by
 obtain⟨h1,h2⟩:=Mg (u:=(n:Nat)) (by omega);have m:=EO (neg:=false) h1 (by simp);have e:rv false [I Ac (n:Int),I Ac (d (n:Int) (2^(min (A 32) (Am .u64))))]=(n:Nat):=h2;rw[e] at m;exact Ard (n:Nat) _ m
theorem A0q(n:Nat):cn (n:Nat)=(false,M n):=by
 unfold cn;rw[BD,decide_eq_false (by omega)]
theorem JI(n:Nat):(cn (n:Nat)).2.length=(M n).length:=by rw [A0q]
theorem Aag{K:Nat}(hK:K<1048576):∀ (f a b:Nat),b<=f->Bm K (a:Nat)->Bm K (b:Nat) ->
  (∃ y z,Ar (.loop LD) (GA (cn (a:Nat)) (cn (b:Nat)) (false,[])) (.exit 0) (GA (cn (Ix a b:Nat)) y z)) \/
  (∃ x y,Ar (.loop LD) (GA (cn (a:Nat)) (cn (b:Nat)) (false,[])) .ret (GA x y (cn (Ix a b:Nat)))):=by
 intro f;induction f with
 | zero =>
  intro a b hb _ _;have:b=0:=by omega
  subst this;rw[GJ];exact Or.inl ⟨_,_,Ao (dQ _ _ _ (by rw[JI];rfl)) (by nofun)⟩
 | succ f ih =>
  intro a b hb ka kb;by_cases h0:b=0
  ·subst h0;rw[GJ];exact Or.inl ⟨_,_,Ao (dQ _ _ _ (by rw[JI];rfl)) (by nofun)⟩
  ·have hbl:0<(M b).length:=An.2 (by rw[Ne,IH];exact h0);have la:=ka.len;have lb:=kb.len;rw[BD] at la lb;by_cases h2:(M a).length<=2/\(M b).length<=2
   ·right;have ta:=sH h2.1;have tb:=sH h2.2;have hg:((Ix a b:Nat):Int)<18446744073709551616:=by
     have:=Rf (by omega) (Nat.gcd_dvd_right a b);omega
    have u1:=Ty (b:=(cn (a:Nat)).1) h2.1;have u2:=Ty (b:=(cn (b:Nat)).1) h2.2;have u3:=Arf (a:Nat) (b:Nat) _ _ (Z7 b a b (Ap _));have u4:=eM hg;have k:=Arg (cn (a:Nat)) (cn (b:Nat)) (false,[]) (a:Nat) (b:Nat) (Ix a b:Nat) (Ix a b:Nat) (by rw[JI];simp;omega) (by rw[JI];simp;omega) (by rw[JI];simp;omega) u1 u2 u3 u4;exact⟨_,_,Ao k (by nofun)⟩
   ·have hq:=OT (na:=(cn (a:Nat)).1) (nb:=(cn (b:Nat)).1) (xs:=(cn (a:Nat)).2) (ys:=(cn (b:Nat)).2) (BI _) (BI _) (by have:=u (b:Nat);unfold P at this;rw[this];omega) (by rw[JI];omega) (by rw[JI];omega);rw[show rv (cn (a:Nat)).1 (cn (a:Nat)).2=(a:Nat) from u _,show rv (cn (b:Nat)).1 (cn (b:Nat)).2=(b:Nat) from u _,Bs (by omega),<- Ast] at hq;have hm:=HB a (show 0<b by omega);have step:Ar LD (GA (cn (a:Nat)) (cn (b:Nat)) (false,[])) .norm (GA (cn (b:Nat)) (cn ((a % b:Nat):Int)) (false,[])):=by
     by_cases h3:(M a).length<=2
     ·exact Arh (cn (a:Nat)) (cn (b:Nat)) (false,[]) _ _ (by rw[JI];simp;omega) (by rw[JI];simp;omega) (by rw[JI];simp;omega) hq
     ·exact Ari (cn (a:Nat)) (cn (b:Nat)) (false,[]) _ _ (by rw[JI];simp;omega) (by rw[JI];simp;omega) hq
    have kr:Bm K ((a % b:Nat):Int):=by
     unfold Bm at *
     rw[BD] at *
     exact Dt (WN hm) kb
    have e:Ix b (a % b)=Ix a b:=by rw[J5 b,<- Avz,J5 b a]
    rcases ih b (a % b) (by omega) kb kr with ⟨y,z,h⟩ | ⟨x,y,h⟩
    ·rw[e] at h;exact Or.inl ⟨y,z,Cv.loop step h⟩
    ·rw[e] at h;exact TP ⟨x,y,Cv.loop step h⟩
theorem Yt{na nb:Bool}{xs ys:LI}(hx:AP xs)(hy:AP ys)(h1:xs.length<1048576)(h2:ys.length<1048576) :
  RQ 159 [o [D na,sL lm xs],o [D nb,sL lm ys]] (Ah (C_ (rv na xs) (rv nb ys):Nat)):=by
 have a1:=St (neg:=na) hx (by omega);have a2:=St (neg:=nb) hy (by omega);have f1:=VK (neg:=na) hx;have f2:=VK (neg:=nb) hy;have g1:Bm (max xs.length ys.length) (((rv na xs).natAbs:Nat):Int):=by
  unfold Bm at *;rw[BD];exact Dk f1 (BF (by decide) (by omega))
 have g2:Bm (max xs.length ys.length) (((rv nb ys).natAbs:Nat):Int):=by
  unfold Bm at *;rw[BD];exact Dk f2 (BF (by decide) (by omega))
 rcases Aag (K:=max xs.length ys.length) (by omega) _ _ _ (Ap _) g1 g2 with ⟨y,z,h⟩ | ⟨x,y,h⟩
 ·exact lH na nb xs ys _ _ _ _ _ a1 a2 h
 ·exact lI na nb xs ys _ _ _ _ _ a1 a2 h
def TQE:Cn:=TQD
theorem CO:Ca AY TQE:=lN
def P0(N:Nat)(cs:List AV)(i:Int):Al:=(C (H N cs)::(Y 1 (C (F O 0)::(C (F O i)::(Y 16 [])))))
theorem A0r(N:Nat)(cs:List AV)(i:Int)(r:Rn)(v:Int)(c1:B (i>=0)=true)(c2:(v==0)=true)(n1:0<=i/\i<(N:Int))(n2:Bn (p (A i*2) cs) 0 2 false=some (o [D r.1,H r.2.length (lm r.2)]))(n3:RQ 101 [o [D r.1,H r.2.length (lm r.2)]] (F O v)):Ar XM (P0 N cs i) .norm (P0 N cs (I O (i-1))):=G BH 300 [.b true,.v (o [D r.1,H r.2.length (lm r.2)]),.r (F O v),.b true] [0,2,3] (S c1 (S n1 (S n2 (S n3 (S c2 a0))))) (by kernel_rfl)
theorem A0s(N:Nat)(cs:List AV)(i:Int)(r:Rn)(v:Int)(c1:B (i>=0)=true)(c2:(v==0)=false)(n1:0<=i/\i<(N:Int))(n2:Bn (p (A i*2) cs) 0 2 false=some (o [D r.1,H r.2.length (lm r.2)]))(n3:RQ 101 [o [D r.1,H r.2.length (lm r.2)]] (F O v)):Ar XM (P0 N cs i) (.exit 0) (P0 N cs i):=G BH 300 [.b true,.v (o [D r.1,H r.2.length (lm r.2)]),.r (F O v),.b false] [0,2,3] (S c1 (S n1 (S n2 (S n3 (S c2 a0))))) (by kernel_rfl)
theorem A0t(N:Nat)(cs:List AV)(i:Int)(c1:B (i>=0)=false):Ar XM (P0 N cs i) (.exit 0) (P0 N cs i):=G BH 300 [.b false,.b false] [0,2,3] (S c1 (S EI a0)) (by kernel_rfl)
theorem Yu{n:Int}:BJ n=0↔n=0:=by unfold BJ;split <;> (try split) <;> omega
theorem Asu(rs:List Rn)(hg:∀ r∈rs,AO 1048576 r)(hN:rs.length<=1048576):∀ m,m<=rs.length->Ar (.loop XM) (P0 rs.length (pc rs) ((m:Int)-1)) (.exit 0) (P0 rs.length (pc rs) (((l (Q rs) m:Nat):Int)-1)):=by
 intro m;induction m with
 | zero =>
  intro _;exact Ao (A0t rs.length (pc rs) (((0:Nat):Int)-1) (by simp)) (by nofun)
 | succ m ih =>
  intro hm;have e0:((m+1:Nat):Int)-1=(m:Int):=by omega
  have e1:I O ((m:Int)-1)=(m:Int)-1:=Bl (by omega) (by omega);have hx:=Ob (rs:=rs) (i:=m) (by omega);have gm:=Bg hg m;have hs:=MT (neg:=(rs.getD m z0).1) gm.1 gm.2;rw[e0];simp only[l];rw[C7];by_cases h0:P (rs.getD m z0)=0
  ·rw[if_pos h0];have h1:=A0r rs.length (pc rs) (m:Int) (rs.getD m z0) (BJ (P (rs.getD m z0))) (by simp) (by rw[beq_iff_eq];exact Yu.2 h0) (by omega) (by rw[R];exact hx) hs;rw[e1] at h1;exact Cv.loop h1 (ih (by omega))
  ·rw[if_neg h0,e0];exact Ao (A0s rs.length (pc rs) (m:Int) (rs.getD m z0) (BJ (P (rs.getD m z0))) (by simp) (by rw[beq_eq_false_iff_ne];exact fun h=>h0 (Yu.1 h)) (by omega) (by rw[R];exact hx) hs) (by nofun)
theorem Gm{rs:List Rn}(hg:∀ r∈rs,AO 1048576 r)(hN:rs.length<=1048576):RQ 53 [sL pc rs] (F O (((l (Q rs) rs.length:Nat):Int)-1)):=by
 have e1:I O ((rs.length:Int)-1)=(rs.length:Int)-1:=Bl (by omega) (by omega);have hl:Ar (.loop XM) (P0 rs.length (pc rs) (I O ((rs.length:Int)-1))) (.exit 0) (P0 rs.length (pc rs) (((l (Q rs) rs.length:Nat):Int)-1)):=by
  rw[e1];exact Asu rs hg hN rs.length (Ap _)
 exact A8 bL (C (sL pc rs)::(Y 1 (C (F O (((l (Q rs) rs.length:Nat):Int)-1))::(C (F O (((l (Q rs) rs.length:Nat):Int)-1))::(Y 15 (C (F O (((l (Q rs) rs.length:Nat):Int)-1))::[])))))) (Cv.seq (DV (t:=(C (sL pc rs)::(Y 1 (C (F O 0)::(Y 17 []))))) (ex := .norm) (ps:=[]) BH 300 [] [0,2] (by kernel_rfl) trivial)
  (Cv.seq (DV (t:=(C (sL pc rs)::(Y 1 (C (F O 0)::(C (F O (I O ((rs.length:Int)-1)))::(Y 16 [])))))) (ex := .norm) (ps:=[]) BH 300 [] [0,2,3] (by kernel_rfl) trivial)
  (Cv.seq (Cv.block hl)
  (DV (t:=(C (sL pc rs)::(Y 1 (C (F O (((l (Q rs) rs.length:Nat):Int)-1))::(C (F O (((l (Q rs) rs.length:Nat):Int)-1))::(Y 15 (C (F O (((l (Q rs) rs.length:Nat):Int)-1))::[]))))))) (ex := .ret) (ps:=[]) BH 300 [] [0,2,3,19] (by kernel_rfl) trivial))))
def Tz(N:Nat)(cs:List AV)(n:Nat)(os:List AV)(m:Int)(i:Int):Al:=(C (H N cs)::(Y 1 (X 2 0 []::(Y 1 (X 2 n os::(Y 9 (C (F O m)::(C (F O i)::(Y 12 [])))))))))
theorem A0u(N:Nat)(cs:List AV)(n:Nat)(os:List AV)(m:Int)(i:Int)(ds:List AV)(r:Rn)(v:Int)(c1:B (i<m)=true)(n1:0<=i/\i<(N:Int))(n2:Bn (p (A i*2) cs) 0 2 false=some (o [D r.1,H r.2.length (lm r.2)]))(n3:RQ 113 [o [D r.1,H r.2.length (lm r.2)]] (o [D (B (v<0)),H ((M (E v)).length) (lm (M (E v)))]))(n4:0<=i/\i<(n:Int))(n5:C4 os (A i*2) [D (B (v<0)),H ((M (E v)).length) (lm (M (E v)))]=some ds):Ar bW (Tz N cs n os m i) .norm (Tz N cs n ds m (I O (i+1))):=G BH 300 [.b true,.v (o [D r.1,H r.2.length (lm r.2)]),.r (o [D (B (v<0)),H ((M (E v)).length) (lm (M (E v)))]),.l ds] [0,2,4,14,15] (S c1 (S n1 (S n2 (S n3 (S n4 (S n5 a0)))))) (by kernel_rfl)
theorem A0v(N:Nat)(cs:List AV)(n:Nat)(os:List AV)(m:Int)(i:Int)(c1:B (i<m)=false):Ar bW (Tz N cs n os m i) (.exit 0) (Tz N cs n os m i):=G BH 300 [.b false] [0,2,4,14,15] (S c1 a0) (by kernel_rfl)
theorem Asv(rs:List Rn)(hg:∀ r∈rs,AO 1048576 r)(hN:rs.length<=1048576)(n:Nat)(hn:n<=rs.length):∀ (r i:Nat),i+r=n ->
  Ar (.loop bW) (Tz rs.length (pc rs) n (pc (EN (fun j=>cn (P (rs.getD j z0))) i r)) (n:Int) (i:Int)) (.exit 0) (Tz rs.length (pc rs) n (pc (EN (fun j=>cn (P (rs.getD j z0))) n 0)) (n:Int) (n:Int)):=by
 intro r;induction r with
 | zero =>
  intro i hi;have hi':i=n:=by omega
  subst hi';exact Ao (A0v rs.length (pc rs) i _ (i:Int) (i:Int) (by simp)) (by nofun)
 | succ r ih =>
  intro i hi;have ei:I O ((i:Int)+1)=((i+1:Nat):Int):=by rw[Bl (by omega) (by omega)];omega
  have hx:=Ob (rs:=rs) (i:=i) (by omega);have gm:=Bg hg i;have hs:=MS (neg:=(rs.getD i z0).1) gm.1 gm.2;have hst:=Zz (rs:=EN (fun j=>cn (P (rs.getD j z0))) i (r+1)) (i:=i) (r:=cn (P (rs.getD i z0))) (by rw[KA];omega);rw[Od (fun j=>cn (P (rs.getD j z0))) i r] at hst;have h1:=A0u rs.length (pc rs) n _ (n:Int) (i:Int) _ (rs.getD i z0) (P (rs.getD i z0)) (by simp;omega) (by omega) (by rw[R];exact hx) hs (by omega) (by rw[R];exact hst);rw[ei] at h1;exact Cv.loop h1 (ih (i+1) (by omega))
theorem Aah(rs:List Rn)(hd:RQ 53 [sL pc rs] (F O (((l (Q rs) rs.length:Nat):Int)-1)))(hz:((I O ((((l (Q rs) rs.length:Nat):Int)-1)+1))==0)=true):RQ 66 [sL pc rs] (L 2 0 []):=Bx (ps:=[RQ 53 [sL pc rs] (F O (((l (Q rs) rs.length:Nat):Int)-1)),((I O ((((l (Q rs) rs.length:Nat):Int)-1)+1))==0)=true]) BH rfl 300 rfl [.r (F O (((l (Q rs) rs.length:Nat):Int)-1)),.b true] (by kernel_rfl) ⟨hd,hz,trivial⟩
theorem Aai(rs ss:List Rn)(hd:RQ 53 [sL pc rs] (F O (((l (Q rs) rs.length:Nat):Int)-1)))(hz:((I O ((((l (Q rs) rs.length:Nat):Int)-1)+1))==0)=false)(hmk:0<=I O ((((l (Q rs) rs.length:Nat):Int)-1)+1)/\I O ((((l (Q rs) rs.length:Nat):Int)-1)+1)<=1048576)(hl:Ar (.loop bW) (Tz rs.length (pc rs) (A (I O ((((l (Q rs) rs.length:Nat):Int)-1)+1))) (Cu [D false,H 0 []] (A (I O ((((l (Q rs) rs.length:Nat):Int)-1)+1)))) (((A (I O ((((l (Q rs) rs.length:Nat):Int)-1)+1))):Nat):Int) 0) (.exit 0) (Tz rs.length (pc rs) (A (I O ((((l (Q rs) rs.length:Nat):Int)-1)+1))) (pc ss) (((A (I O ((((l (Q rs) rs.length:Nat):Int)-1)+1))):Nat):Int) (((A (I O ((((l (Q rs) rs.length:Nat):Int)-1)+1))):Nat):Int))):RQ 66 [sL pc rs] (L 2 (A (I O ((((l (Q rs) rs.length:Nat):Int)-1)+1))) (pc ss)):=A8 bX (C (sL pc rs)::(Y 1 (X 2 (A (I O ((((l (Q rs) rs.length:Nat):Int)-1)+1))) (pc ss)::(Y 11 (C (F O (((A (I O ((((l (Q rs) rs.length:Nat):Int)-1)+1))):Nat):Int))::(C (F O (((A (I O ((((l (Q rs) rs.length:Nat):Int)-1)+1))):Nat):Int))::(Y 12 []))))))) (Cv.seq (G (t:=(vp rs::(Y 1 (X 2 0 []::(Y 25 []))))) BH 300 [] [0,2] a0) (Cv.seq (G (t:=(vp rs::(Y 1 (X 2 0 []::(vi (I O ((((l (Q rs) rs.length:Nat):Int)-1)+1))::(Y 2 (vp rs::(vi (((l (Q rs) rs.length:Nat):Int)-1)::(vi (I O ((((l (Q rs) rs.length:Nat):Int)-1)+1))::(Y 19 [])))))))))) BH 300 [.r (F O (((l (Q rs) rs.length:Nat):Int)-1))] [0,2,3,6,7,8] (S (show RQ 53 [sL pc rs] (F O (((l (Q rs) rs.length:Nat):Int)-1)) from hd) a0)) (Cv.seq (G (t:=(vp rs::(Y 1 (X 2 0 []::(vi (I O ((((l (Q rs) rs.length:Nat):Int)-1)+1))::(Y 2 (vp rs::(vi (((l (Q rs) rs.length:Nat):Int)-1)::(vi (I O ((((l (Q rs) rs.length:Nat):Int)-1)+1))::(vi (I O ((((l (Q rs) rs.length:Nat):Int)-1)+1))::(C (D ((I O ((((l (Q rs) rs.length:Nat):Int)-1)+1))==0))::(Y 17 [])))))))))))) BH 300 [.b false] [0,2,3,6,7,8,9,10] (S (show ((I O ((((l (Q rs) rs.length:Nat):Int)-1)+1))==0)=false from hz) a0)) (Cv.seq (G (t:=(vp rs::(Y 1 (X 2 0 []::(vi (I O ((((l (Q rs) rs.length:Nat):Int)-1)+1))::(X 2 (A (I O ((((l (Q rs) rs.length:Nat):Int)-1)+1))) (Cu [D false,H 0 []] (A (I O ((((l (Q rs) rs.length:Nat):Int)-1)+1))))::(Y 1 (vp rs::(vi (((l (Q rs) rs.length:Nat):Int)-1)::(vi (I O ((((l (Q rs) rs.length:Nat):Int)-1)+1))::(vi (I O ((((l (Q rs) rs.length:Nat):Int)-1)+1))::(C (D ((I O ((((l (Q rs) rs.length:Nat):Int)-1)+1))==0))::(vi (I O ((((l (Q rs) rs.length:Nat):Int)-1)+1))::(Y 16 [])))))))))))))) BH 300 [] [0,2,3,4,6,7,8,9,10,11] (S (show 0<=(I O ((((l (Q rs) rs.length:Nat):Int)-1)+1))/\(I O ((((l (Q rs) rs.length:Nat):Int)-1)+1))<=1048576 from hmk) a0)) (Cv.seq (Cv.seq (G (t:=(vp rs::(Y 1 (X 2 0 []::(Y 1 (X 2 (A (I O ((((l (Q rs) rs.length:Nat):Int)-1)+1))) (Cu [D false,H 0 []] (A (I O ((((l (Q rs) rs.length:Nat):Int)-1)+1))))::(Y 9 (vi (((A (I O ((((l (Q rs) rs.length:Nat):Int)-1)+1))):Nat):Int)::(vi 0::(Y 12 [])))))))))) BH 300 [] [0,2,4,14,15] a0) (Cv.block hl)) (G (t:=(vp rs::(Y 1 (X 2 (A (I O ((((l (Q rs) rs.length:Nat):Int)-1)+1))) (pc ss)::(Y 11 (vi (((A (I O ((((l (Q rs) rs.length:Nat):Int)-1)+1))):Nat):Int)::(vi (((A (I O ((((l (Q rs) rs.length:Nat):Int)-1)+1))):Nat):Int)::(Y 12 [])))))))) (ex := .ret) BH 300 [] [0,2,14,15] a0))))))
theorem IN{rs:List Rn}(hg:∀ r∈rs,AO 1048576 r)(hN:rs.length<=1048576):RQ 66 [sL pc rs] (L 2 (Aa (Q rs)).length (pk (Aa (Q rs)))):=by
 have hle:=GR (Q rs) rs.length;have hlen:(Aa (Q rs)).length=l (Q rs) rs.length:=by rw[Fa,s]
 have hd:=Gm hg hN;have e1:I O ((((l (Q rs) rs.length:Nat):Int)-1)+1)=((l (Q rs) rs.length:Nat):Int):=by rw[Bl (by omega) (by omega)];omega
 have e2:(A (I O ((((l (Q rs) rs.length:Nat):Int)-1)+1)))=l (Q rs) rs.length:=by rw[e1,R]
 by_cases h0:l (Q rs) rs.length=0
 ·have h:=Aah rs hd (by rw[e1,h0];rfl);have:Aa (Q rs)=[]:=A9 (by omega);rw[this];exact h
 ·have hl:=Asv rs hg hN (l (Q rs) rs.length) hle (l (Q rs) rs.length) 0 (by omega);rw[MO,<- Oc] at hl;have h:=Aai rs _ hd (by rw[e1,beq_eq_false_iff_ne];omega) (by rw[e1];omega) (by rw[e2];exact hl);rw[e2,MP] at h;have e3:(Aq (l (Q rs) rs.length)).map (fun j=>cn (P (rs.getD j z0)))=(Aa (Q rs)).map cn:=by
   rw[<- Sq,hlen];apply Gj;intro i _;rw[Dc,C7]
  rw[e3] at h;rw[hlen];exact h
def Ot(N:Nat)(cs:List AV)(n:Nat)(os:List AV)(m:Int)(i:Int):Al:=(C (H N cs)::(Y 1 (X 2 0 []::(X 2 n os::(Y 5 (C (F O m)::(C (F O i)::(Y 12 []))))))))
theorem Asw(N:Nat)(cs:List AV)(n:Nat)(os:List AV)(m:Int)(i:Int)(ds:List AV)(r:Rn)(v:Int)(c1:B (i<m)=true)(n1:0<=i/\i<(N:Int))(n2:Bn (p (A i*2) cs) 0 2 false=some (o [D r.1,H r.2.length (lm r.2)]))(n3:RQ 131 [o [D r.1,H r.2.length (lm r.2)]] (o [D (B (v<0)),H ((M (E v)).length) (lm (M (E v)))]))(n4:0<=i/\i<(n:Int))(n5:C4 os (A i*2) [D (B (v<0)),H ((M (E v)).length) (lm (M (E v)))]=some ds):Ar UX (Ot N cs n os m i) .norm (Ot N cs n ds m (I O (i+1))):=G BH 300 [.b true,.v (o [D r.1,H r.2.length (lm r.2)]),.r (o [D (B (v<0)),H ((M (E v)).length) (lm (M (E v)))]),.l ds] [0,2,3,9,10] (S c1 (S n1 (S n2 (S n3 (S n4 (S n5 a0)))))) (by kernel_rfl)
theorem Asx(N:Nat)(cs:List AV)(n:Nat)(os:List AV)(m:Int)(i:Int)(c1:B (i<m)=false):Ar UX (Ot N cs n os m i) (.exit 0) (Ot N cs n os m i):=G BH 300 [.b false] [0,2,3,9,10] (S c1 a0) (by kernel_rfl)
theorem Aaj(rs:List Rn)(hg:∀ r∈rs,AO 1048576 r)(hN:rs.length<=1048576)(n:Nat)(hn:n<=rs.length):∀ (r i:Nat),i+r=n ->
  Ar (.loop UX) (Ot rs.length (pc rs) n (pc (EN (fun j=>cn (-(P (rs.getD j z0)))) i r)) (n:Int) (i:Int)) (.exit 0) (Ot rs.length (pc rs) n (pc (EN (fun j=>cn (-(P (rs.getD j z0)))) n 0)) (n:Int) (n:Int)):=by
 intro r;induction r with
 | zero =>
  intro i hi;have hi':i=n:=by omega
  subst hi';exact Ao (Asx rs.length (pc rs) i _ (i:Int) (i:Int) (by simp)) (by nofun)
 | succ r ih =>
  intro i hi;have ei:I O ((i:Int)+1)=((i+1:Nat):Int):=by rw[Bl (by omega) (by omega)];omega
  have hx:=Ob (rs:=rs) (i:=i) (by omega);have gm:=Bg hg i;have hs:=Yk (neg:=(rs.getD i z0).1) gm.1 gm.2;have hst:=Zz (rs:=EN (fun j=>cn (-(P (rs.getD j z0)))) i (r+1)) (i:=i) (r:=cn (-(P (rs.getD i z0)))) (by rw[KA];omega);rw[Od (fun j=>cn (-(P (rs.getD j z0)))) i r] at hst;have h1:=Asw rs.length (pc rs) n _ (n:Int) (i:Int) _ (rs.getD i z0) (-(P (rs.getD i z0))) (by simp;omega) (by omega) (by rw[R];exact hx) hs (by omega) (by rw[R];exact hst);rw[ei] at h1;exact Cv.loop h1 (ih (i+1) (by omega))
theorem Asy(rs ss:List Rn)(hmk:0<=(rs.length:Int)/\(rs.length:Int)<=1048576)(hl:Ar (.loop UX) (Ot rs.length (pc rs) (A (rs.length:Int)) (Cu [D false,H 0 []] (A (rs.length:Int))) (rs.length:Int) 0) (.exit 0) (Ot rs.length (pc rs) (A (rs.length:Int)) (pc ss) (rs.length:Int) (rs.length:Int))):RQ 117 [sL pc rs] (L 2 (A (rs.length:Int)) (pc ss)):=A8 UY (C (sL pc rs)::(Y 1 (X 2 (A (rs.length:Int)) (pc ss)::(Y 6 (C (F O (rs.length:Int))::(C (F O (rs.length:Int))::(Y 12 []))))))) (Cv.seq (G (t:=(vp rs::(Y 1 (X 2 0 []::(Y 20 []))))) BH 300 [] [0,2] a0) (Cv.seq (G (t:=(vp rs::(Y 1 (X 2 0 []::(X 2 (A (rs.length:Int)) (Cu [D false,H 0 []] (A (rs.length:Int)))::(Y 1 (vp rs::(vi (rs.length:Int)::(Y 16 []))))))))) BH 300 [] [0,2,3,5,6] (S (show 0<=(rs.length:Int)/\(rs.length:Int)<=1048576 from hmk) a0)) (Cv.seq (Cv.seq (G (t:=(vp rs::(Y 1 (X 2 0 []::(X 2 (A (rs.length:Int)) (Cu [D false,H 0 []] (A (rs.length:Int)))::(Y 5 (vi (rs.length:Int)::(vi 0::(Y 12 []))))))))) BH 300 [] [0,2,3,9,10] a0) (Cv.block hl)) (G (t:=(vp rs::(Y 1 (X 2 (A (rs.length:Int)) (pc ss)::(Y 6 (vi (rs.length:Int)::(vi (rs.length:Int)::(Y 12 [])))))))) (ex := .ret) BH 300 [] [0,2,9,10] a0))))
theorem KE{rs:List Rn}(hg:∀ r∈rs,AO 1048576 r)(hN:rs.length<=1048576):RQ 117 [sL pc rs] (L 2 rs.length (pk (Cc (Q rs)))):=by
 have hl:=Aaj rs hg hN rs.length (Ap _) rs.length 0 (by omega);rw[MO,<- Oc] at hl;have h:=Asy rs _ (by omega) (by rw[R];exact hl);rw[R,MP] at h;have e3:(Aq rs.length).map (fun j=>cn (-(P (rs.getD j z0))))=(Cc (Q rs)).map cn:=by
  have hq:(Cc (Q rs)).length=rs.length:=by simp[Cc,Q]
  rw[<- Sq,hq];apply Gj;intro i _;rw[GT,C7]
 rw[e3] at h;exact h
def TAA:Cn:=TWC
theorem CZ:Ca AY TAA:=BH
def LL(rs:List Rn)(w:Rn)(i:Int)(z:Rn):Al:=(C (sL pc rs)::(Y 1 (g [D z.1,H z.2.length (lm z.2)]::(g [D w.1,H w.2.length (lm w.2)]::(C (F O i)::(Y 19 []))))))
theorem Asz(rs:List Rn)(w:Rn)(i:Int)(z:Rn)(b g:Int)(c1:B (i>=0)=true)(c2:(b != 1)=true)(n1:0<=i/\i<(rs.length:Int))(n2:RQ 102 [As w] (F O b))(n3:RQ 159 [As w,As (rs.getD (A i) z0)] (Ah g)):Ar Sh (LL rs w i z) .norm (LL rs (cn g) (I O (i-1)) z):=(G CO 400 [.b true,.r (F O b),.b true,.v (As (rs.getD (A i) z0)),.r (Ah g)] [0,2,3,4] (S c1 (S n2 (S c2 (S n1 (S (x n1) (S n3 a0)))))))
theorem Ata(rs:List Rn)(w:Rn)(i:Int)(z:Rn)(b:Int)(c1:B (i>=0)=true)(c2:(b != 1)=false)(n1:RQ 102 [As w] (F O b)):Ar Sh (LL rs w i z) (.exit 0) (LL rs w i z):=(G CO 400 [.b true,.r (F O b),.b false] [0,2,3,4] (S c1 (S n1 (S c2 a0))))
theorem Atb(rs:List Rn)(w:Rn)(i:Int)(z:Rn)(c1:B (i>=0)=false):Ar Sh (LL rs w i z) (.exit 0) (LL rs w i z):=(G CO 400 [.b false,.b false] [0,2,3,4] (S c1 (S EI a0)))
theorem Atc(rs:List Rn)(w z:Rn)(i:Int)(hl1:Ar (.loop Sh) (LL rs (false,[]) (I O ((rs.length:Int)-1)) (false,[])) (.exit 0) (LL rs w i z)):RQ 157 [sL pc rs] (As w):=A8 Vu (Y 2 (g [D w.1,H w.2.length (lm w.2)]::(Y 21 []))) (W (q (Cv.seq (G CO 400 [] [0,2,3,4] a0) (Cv.seq (Cv.block hl1) (G CO 400 [] [2] a0)))))
def LM(k:Nat)(os:List Rn)(w:Rn)(n:Int)(i:Int):Al:=(Y 3 (X 2 k (pc os)::(g [D w.1,H w.2.length (lm w.2)]::(Y 9 (C (F O n)::(C (F O i)::(Y 16 [])))))))
theorem Atd(k:Nat)(os:List Rn)(w:Rn)(n:Int)(i:Int)(q r:Int)(c1:B (i<n)=true)(n1:0<=i/\i<(k:Int))(n2:os.length=k)(n3:RQ 158 [As (os.getD (A i) z0),As w] (Ax [Ah q,Ah r])):Ar RR (LM k os w n i) .norm (LM k (os.set (A i) (cn q)) w n (I O (i+1))):=(G CO 400 [.b true,.v (As (os.getD (A i) z0)),.r (Ax [Ah q,Ah r]),.l (pc (os.set (A i) (cn q)))] [3,4,14,15] (S c1 (S n1 (S (Gb n2 n1) (S n3 (S n1 (S (F9 (r:=cn q) n2 n1) a0)))))))
theorem Ate(k:Nat)(os:List Rn)(w:Rn)(n:Int)(i:Int)(c1:B (i<n)=false):Ar RR (LM k os w n i) (.exit 0) (LM k os w n i):=(G CO 400 [.b false] [3,4,14,15] (S c1 a0))
theorem nB(rs ts os:List Rn)(w:Rn)(g b n i:Int)(k:Nat)(c1:B (b>1)=true)(n1:RQ 66 [sL pc rs] (L 2 ts.length (pc ts)))(n2:qT (pc ts) (fun c => !Ut c)=true)(n3:G6 (Ah g)=true)(n4:RQ 157 [sL pc ts] (Ah g))(n5:RQ 102 [Ah g] (F O b))(hl6:Ar (.loop RR) (LM ts.length ts (cn g) (ts.length:Int) 0) (.exit 0) (LM k os w n i)):RQ 115 [sL pc rs] (L 2 k (pc os)):=A8 RS (Y 2 (X 2 k (pc os)::(Y 29 []))) (W (W (q (Cv.seq (G (t:=(vp rs::(Y 1 (X 2 0 []::(X 2 ts.length (pc ts)::(bN g::(Y 7 (C (D (B (b>1)))::(Y 19 []))))))))) CO 400 [.r (L 2 ts.length (pc ts)),.r (Ah g),.r (F O b)] [0,2,3,4,12] (S n1 (S n2 (S n3 (S n4 (S n5 a0)))))) (Cv.seq (Jb (by rfl) c1 (Cv.seq (G CO 400 [] [3,4,14,15] a0) (Cv.block hl6))) (G CO 400 [] [2] a0))))))
theorem nC(rs ts:List Rn)(g b:Int)(c1:B (b>1)=false)(n1:RQ 66 [sL pc rs] (L 2 ts.length (pc ts)))(n2:qT (pc ts) (fun c => !Ut c)=true)(n3:G6 (Ah g)=true)(n4:RQ 157 [sL pc ts] (Ah g))(n5:RQ 102 [Ah g] (F O b)):RQ 115 [sL pc rs] (L 2 ts.length (pc ts)):=A8 RS (Y 2 (X 2 ts.length (pc ts)::(Y 29 []))) (W (W (q (Cv.seq (G (t:=(vp rs::(Y 1 (X 2 0 []::(X 2 ts.length (pc ts)::(bN g::(Y 7 (C (D (B (b>1)))::(Y 19 []))))))))) CO 400 [.r (L 2 ts.length (pc ts)),.r (Ah g),.r (F O b)] [0,2,3,4,12] (S n1 (S n2 (S n3 (S n4 (S n5 a0)))))) (Cv.seq (Jc (by rfl) c1 (G (t:=(Y 2 (X 2 0 []::(X 2 ts.length (pc ts)::(Y 28 []))))) CO 400 [] [2,3] a0)) (G CO 400 [] [2] a0))))))
theorem nD(rs ts:List Rn)(s:Int)(c1:B ((rs.length:Int)>0)=true)(c2:B (s<0)=true)(n1:0<=(I O ((rs.length:Int)-1))/\(I O ((rs.length:Int)-1))<(rs.length:Int))(n2:RQ 101 [As (rs.getD (A (I O ((rs.length:Int)-1))) z0)] (F O s))(n3:RQ 117 [sL pc rs] (L 2 ts.length (pc ts))):RQ 155 [sL pc rs] (L 2 ts.length (pc ts)):=i (fn:=PR) CO rfl 400 rfl [.b true,.v (As (rs.getD (A (I O ((rs.length:Int)-1))) z0)),.r (F O s),.b true,.r (L 2 ts.length (pc ts))] (S c1 (S n1 (S (x n1) (S n2 (S c2 (S n3 a0))))))
theorem nE(rs:List Rn)(s:Int)(c1:B ((rs.length:Int)>0)=true)(c2:B (s<0)=false)(n1:0<=(I O ((rs.length:Int)-1))/\(I O ((rs.length:Int)-1))<(rs.length:Int))(n2:RQ 101 [As (rs.getD (A (I O ((rs.length:Int)-1))) z0)] (F O s)):RQ 155 [sL pc rs] (sL pc rs):=i (fn:=PR) CO rfl 400 rfl [.b true,.v (As (rs.getD (A (I O ((rs.length:Int)-1))) z0)),.r (F O s),.b false] (S c1 (S n1 (S (x n1) (S n2 (S c2 a0)))))
theorem nF(rs:List Rn)(c1:B ((rs.length:Int)>0)=false):RQ 155 [sL pc rs] (sL pc rs):=i (fn:=PR) CO rfl 400 rfl [.b false,.b false] (S c1 (S EI a0))
def Ou(rs:List Rn)(k:Nat)(cs:List AV)(i:Int):Al:=(C (sL pc rs)::(Y 2 (X 2 k cs::(C (F O i)::(Y 18 [])))))
theorem Atf(rs:List Rn)(k:Nat)(cs:List AV)(i:Int)(d v:Int)(c1:B (i<=d)=true)(n1:0<=i/\i<(rs.length:Int))(n2:k+1<=1048576)(n3:RQ 53 [sL pc rs] (F O d))(n4:RQ 132 [F O i] (Ah i))(n5:RQ 112 [As (rs.getD (A i) z0),Ah i] (Ah v)):Ar UV (Ou rs k cs i) .norm (Ou rs (k+1) (cs++([D (B (v<0)),H ((M (E v)).length) (lm (M (E v)))]:List AV)) (I O (i+1))):=(G CO 400 [.r (F O d),.b true,.v (As (rs.getD (A i) z0)),.r (Ah i),.r (Ah v)] [0,3,4] (S n3 (S c1 (S n1 (S (x n1) (S n4 (S n5 (S (show Bh ([D (B (v<0)),H ((M (E v)).length) (lm (M (E v)))]:List AV)=1*2 from rfl) (S n2 a0)))))))))
theorem Atg(rs:List Rn)(k:Nat)(cs:List AV)(i:Int)(d:Int)(c1:B (i<=d)=false)(n1:RQ 53 [sL pc rs] (F O d)):Ar UV (Ou rs k cs i) (.exit 0) (Ou rs k cs i):=(G CO 400 [.r (F O d),.b false] [0,3,4] (S n1 (S c1 a0)))
theorem Ath(rs os ts:List Rn)(k:Nat)(i:Int)(hl1:Ar (.loop UV) (Ou rs 0 ([]:List AV) 1) (.exit 0) (Ou rs k (pc os) i))(n2:RQ 66 [H k (pc os)] (L 2 ts.length (pc ts))):RQ 116 [sL pc rs] (L 2 ts.length (pc ts)):=A8 UW (Y 2 (X 2 ts.length (pc ts)::(Y 20 []))) (W (q (Cv.seq (G CO 400 [] [0,3,4] a0) (Cv.seq (Cv.block hl1) (G CO 400 [.r (L 2 ts.length (pc ts))] [2] (S n2 a0))))))
def TRA:Cn:=TQE
theorem nH:Ca AY TRA:=CO
end Go.Proofs.YtajompaehjkgkaaGreat
namespace Go.Ai
open Classical renaming byContradiction->A5
open Function renaming comp->A2o
open Int renaming add_zero->B5,eq_of_mul_eq_mul_left->I2,mul_assoc->AH,mul_comm->AA,mul_ediv_cancel'->IC,mul_ediv_cancel_left->BT,mul_ne_zero->BW,mul_neg_of_pos_of_neg->Mm,mul_nonneg->A6,mul_pos->BL,mul_sub->Hu,mul_zero->AM,natAbs_mul->BK,natAbs_natCast->BD,natAbs_of_nonneg->KS,natCast_mul->CQ,neg_mul->Q5,not_le->Jl,ofNat_dvd_left->G4,pos_of_mul_pos_right->ZB,pow_succ->A2,sub_zero->EY,zero_mul->DF
open List renaming eq_nil_of_length_eq_zero->A9,getD_eq_getElem?_getD->Z,getElem?_eq_getElem->Af,getElem?_eq_none->AE,getElem?_map->Ch,getElem?_replicate_of_lt->Aez,length->Bh,length_cons->Bv,length_map->N,length_pos_iff->An,length_replicate->Fs,length_set->A',map_congr_left->Gj,map_cons->C2,map_map->Awk,map_take->RI,mem_iff_getElem->H3,range->Aq,replicate->Av,replicate_succ->Ft
open Nat renaming add_comm->JW,add_mul->D',eq_zero_or_pos->FJ,gcd->Ix,le_add_right->Pg,le_mul_of_pos_left->X7,le_refl->Ap,le_trans->Be,mul_assoc->EQ,mul_comm->CS,mul_le_mul_left->AL,mul_le_mul_right->AF,mul_one->I6,mul_succ->Pf,one_mul->Fk,pow_add->De,pow_le_pow_right->BF,pow_succ->FM,sub_add_cancel->Lq
open Or renaming inr->TP
def AQ:LI->Nat
 | []=>0
 | x::xs=>Ix x.natAbs (AQ xs)
theorem Kt(d:Nat):∀ xs:LI,d∣AQ xs↔∀ i,(d:Int)∣xs.getD i 0
 | []=>by simp[AQ]
 | x::xs=>by
  have ih:=Kt d xs;simp only[AQ,Nat.dvd_gcd_iff,ih];constructor
  ·rintro⟨h1,h2⟩ i;cases i with
   | zero=>simpa using G4.2 h1
   | succ i=>simpa using h2 i
  ·intro h;refine⟨G4.1 (by simpa using h 0),fun i=>by simpa using h (i+1)⟩
theorem Hn(xs:LI)(i:Nat):(AQ xs:Int)∣xs.getD i 0:=(Kt _ xs).1 (Nat.dvd_refl _) i
theorem Sv{xs ys:LI}(h:∀ i,xs.getD i 0=ys.getD i 0):AQ xs=AQ ys :=
 Nat.dvd_antisymm ((Kt _ _).2 fun i=>h i ▸ Hn xs i) ((Kt _ _).2 fun i=>h i ▸ Hn ys i)
theorem Wd(xs:LI):AQ (Aa xs)=AQ xs:=Sv (Dc xs)
theorem IP{xs:LI}:AQ xs=0↔∀ i,xs.getD i 0=0:=by
 constructor
 ·intro h i;have:=Hn xs i;rw[h] at this;exact Int.zero_dvd.1 this
 ·intro h;have:AQ xs=AQ []:=Sv fun i=>by rw[h i];simp
  rw[this];rfl
theorem Ln(k:Int):∀ xs:LI,AQ (Ay k xs)=k.natAbs*AQ xs
 | []=>rfl
 | x::xs=>by
  have ih:=Ln k xs;simp only[Ay,C2,AQ] at *
  rw[ih,BK,Nat.gcd_mul_left]
theorem C'{xs:LI}:Aa xs=[]↔∀ i,xs.getD i 0=0:=by
 constructor
 ·intro h i;rw[<- Dc,h];simp
 ·intro h;have:Aa xs=Aa []:=F2 fun i=>by rw[h i];simp
  rw[this];rfl
theorem IQ{xs:LI}(h:Aa xs ≠ []):0<AQ xs:=by
 rcases FJ (AQ xs) with g | g
 ·exact absurd (C'.2 (IP.1 g)) h
 ·exact g
theorem Lo{k:Int}(hk:k ≠ 0)(xs:LI):Aa (Ay k xs)=Ay k (Aa xs):=by
 have e:∀ n,l (Ay k xs) n=l xs n:=by
  intro n;induction n with
  | zero=>rfl
  | succ n ih =>
   simp only[l,ih,AR];by_cases h:xs.getD n 0=0
   ·rw[h,AM]
   ·rw[if_neg h,if_neg (BW hk h)]
 simp only[Aa];rw[e,show (Ay k xs).length=xs.length by simp[Ay]];simp[Ay,RI]
def prim(xs:LI):LI:=(Aa xs).map fun x=>x / (AQ xs:Int)
theorem IR(xs:LI)(i:Nat):(prim xs).getD i 0=xs.getD i 0 / (AQ xs:Int):=by
 rw[<- Dc xs i];simp only[prim,Z,Ch];cases (Aa xs)[i]? <;> simp
theorem BN(xs:LI):(prim xs).length=(Aa xs).length:=by simp [prim]
theorem OU(xs:LI)(i:Nat):(AQ xs:Int)*(prim xs).getD i 0=xs.getD i 0:=by
 rw[IR];exact IC (Hn xs i)
theorem Ml{xs ys:LI}(h:∀ i,xs.getD i 0=ys.getD i 0):prim xs=prim ys:=by
 simp only[prim];rw[F2 h,Sv h]
theorem Ee{xs:LI}:prim xs=[]↔∀ i,xs.getD i 0=0:=by
 rw[<- C'];simp[prim]
theorem Ov{k:Int}(hk:0<k)(xs:LI):prim (Ay k xs)=prim xs:=by
 simp only[prim];rw[Lo (by omega),Ln];simp only[Ay,Awk];apply Gj;intro x _;simp only[A2o];rw[CQ,KS (by omega),Int.mul_ediv_mul_of_pos _ _ hk]
theorem Z8{k:Int}(hk:0<k){xs ys:LI}(h:∀ i,ys.getD i 0=k*xs.getD i 0):prim ys=prim xs:=by
 rw[<- Ov hk xs];exact Ml fun i=>by rw[h,AR]
theorem nI{xs:LI}(h:l xs xs.length=xs.length):Aa xs=xs:=by simp [Aa,h]
def BZ(xs:LI):Prop:=Aa xs=xs
theorem HM(xs:LI):BZ (Aa xs):=Gv xs
theorem E6{xs:LI}(h:BZ xs)(hn:xs ≠ []):xs.getD (xs.length-1) 0 ≠ 0:=by
 have e:=congrArg Bh h;rw[Fa] at e;rcases Ya xs xs.length with g | g
 ·rw[g] at e;exact absurd (A9 e.symm) hn
 ·rw[e] at g;exact g
theorem Rg{xs:LI}(h:xs=[]\/xs.getD (xs.length-1) 0 ≠ 0):BZ xs:=by
 rcases h with rfl | h
 ·rfl
 ·cases hl:xs.length with
  | zero=>rw[A9 hl];rfl
  | succ n =>
   apply nI;rw[hl];simp only[l];rw[if_neg (by rw[hl] at h;simpa using h)]
theorem eO{k:Int}(hk:k ≠ 0){xs:LI}(h:BZ xs):BZ (Ay k xs):=by
 unfold BZ;rw[Lo hk,h]
theorem Lp(xs:LI):Ay (AQ xs) (prim xs)=Aa xs:=by
 apply Kr
 ·simp[Ay,BN]
 ·intro i;rw[AR,OU,Dc]
theorem BX(xs:LI):BZ (prim xs):=by
 by_cases h:Aa xs=[]
 ·rw[Ee.2 (C'.1 h)];rfl
 ·have hc:=IQ h;have h1:=HM xs;rw[<- Lp] at h1;unfold BZ at h1 |-;rw[Lo (by omega)] at h1;have hinj:∀ a b:LI,Ay (AQ xs) a=Ay (AQ xs) b->a=b:=by
   intro a b hab;have hl:=congrArg Bh hab;simp only[Ay,N] at hl;apply Kr hl;intro i;have:=congrArg (fun l:LI=>l.getD i 0) hab;simp only[AR] at this;exact I2 (by omega) this
  exact hinj _ _ h1
theorem KF{xs:LI}(h:Aa xs ≠ []):AQ (prim xs)=1:=by
 have hc:=IQ h;have h1:=Ln (AQ xs) (prim xs);rw[Lp,Wd,BD] at h1;have h2:AQ xs*1=AQ xs*AQ (prim xs):=by rw[I6];exact h1
 exact (Nat.eq_of_mul_eq_mul_left hc h2).symm
theorem Sw{xs:LI}(h:AQ xs=1):prim xs=Aa xs:=by
 simp only[prim,h];rw[show (fun x:Int=>x / ((1:Nat):Int))=id by funext x;simp];simp
theorem BU(xs:LI):prim (prim xs)=prim xs:=by
 by_cases h:Aa xs=[]
 ·rw[Ee.2 (C'.1 h)];rfl
 ·rw[Sw (KF h)];exact BX xs
theorem Sx{K:Nat}{x:Int}(h:Bm K x)(c:Nat):Bm K (x / (c:Int))\/¬ (c:Int)∣x:=by
 by_cases hd:(c:Int)∣x
 ·left;obtain⟨y,rfl⟩:=hd;rcases FJ c with h0 | h0
  ·subst h0;simpa using h
  ·rw[BT _ (by omega)];unfold Bm at *
   rw[BK,BD] at h;have:=X7 y.natAbs h0;omega
 ·exact TP hd
theorem nJ{K:Nat}{xs:LI}(h:∀ i,Bm K (xs.getD i 0))(i:Nat):Bm K ((prim xs).getD i 0):=by
 rw[IR];rcases Sx (h i) (AQ xs) with g | g
 ·exact g
 ·exact absurd (Hn xs i) g
def Kb(K:Nat)(r:LI):Prop:=∀ i,Bm K (r.getD i 0)
theorem Kb.mono{J K:Nat}{r:LI}(h:Kb J r)(hk:J<=K):Kb K r:=fun i=>(h i).mono hk
theorem Kb.mem{K:Nat}{r:LI}(h:Kb K r):∀ x∈r,Bm K x:=fun x hx=>by
 obtain⟨i,hi,rfl⟩:=H3.1 hx;have:=h i;rwa [Z,Af hi] at this
theorem Iy{K:Nat}{r:LI}(h:∀ x∈r,Bm K x):Kb K r:=VQ h
theorem Kb.prim{K:Nat}{r:LI}(h:Kb K r):Kb K (prim r):=nJ h
theorem Kb.trim{K:Nat}{r:LI}(h:Kb K r):Kb K (Aa r):=fun i=>by rw [Dc];exact h i
def w(r:LI):Int:=r.getD (r.length-1) 0
def C9(r d:LI)(a b:Int)(n:Nat):LI:=(Aq n).map fun i=>if r.length-d.length<=i then a*r.getD i 0-b*d.getD (i-(r.length-d.length)) 0 else a*r.getD i 0
theorem El(r d:LI)(a b:Int)(n:Nat):(C9 r d a b n).length=n:=by simp [C9]
theorem GV(f:Nat->Int)(n i:Nat):((Aq n).map f).getD i 0=if i<n then f i else 0:=by
 rw[Z,Ch];by_cases h:i<n
 ·rw[List.getElem?_range h,if_pos h];rfl
 ·rw[AE (by simpa using h),if_neg h];rfl
theorem Gz(r d:LI)(a b:Int)(n i:Nat):(C9 r d a b n).getD i 0=if i<n then (if r.length-d.length<=i then a*r.getD i 0-b*d.getD (i-(r.length-d.length)) 0 else a*r.getD i 0) else 0:=GV _ _ _
theorem Rh{J K:Nat}{r d:LI}{a b:Int}(hr:Kb J r)(hd:Kb K d)(ha:Bm K a)(hb:Bm J b)(n:Nat):Kb (J+K+1) (C9 r d a b n):=by
 intro i;rw[Gz];have h1:=(Bm.mul ha (hr i));have h2:=(Bm.mul hb (hd (i-(r.length-d.length))));rw[JW] at h1;split
 ·split
  ·exact h1.add h2.neg
  ·exact h1.mono (by omega)
 ·exact GS _
theorem We{r d:LI}{a b:Int}(hd:d ≠ [])(hl:d.length<=r.length)(h:a*w r=b*w d)(i:Nat):(C9 r d a b r.length).getD i 0=(C9 r d a b (r.length-1)).getD i 0:=by
 have:=An.2 hd;rw[Gz,Gz];by_cases h1:i<r.length-1
 ·rw[if_pos h1,if_pos (by omega)]
 ·rw[if_neg h1];split
  ·have:i=r.length-1:=by omega
   subst this;rw[if_pos (by omega),show r.length-1-(r.length-d.length)=d.length-1 by omega];unfold w at h;omega
  ·rfl
theorem eQ(r d:LI)(k a b:Int)(n i:Nat):(C9 r d (k*a) (k*b) n).getD i 0=k*(C9 r d a b n).getD i 0:=by
 rw[Gz,Gz];split
 ·split
  ·rw[Hu,AH,AH]
  ·rw[AH]
 ·simp
theorem eR(r d:LI)(c a b:Int)(n:Nat):C9 r (Ay c d) a b n=C9 r d a (b*c) n:=by
 apply Kr (by rw[El,El]);intro i;rw[Gz,Gz,AR,show (Ay c d).length=d.length by simp[Ay]];rw[AH]
def sg(n:Int):Int:=if n<0 then -1 else 1
theorem A0w(n:Int):sg n*n=(n.natAbs:Int):=by unfold sg;split <;> omega
def DH(r d:LI):LI:=prim (C9 r d ((w d).natAbs:Int) (sg (w d)*w r) r.length)
def Eb:Nat->LI->LI->LI
 | 0,r,_=>r
 | f+1,r,d=>if d.length<=r.length then Eb f (DH r d) d else r
theorem Xj(r d:LI):((w d).natAbs:Int)*w r=sg (w d)*w r*w d:=by
 rw[<- A0w];grind
theorem Wf{r d:LI}(hd:d ≠ [])(hl:d.length<=r.length):DH r d=prim (C9 r d ((w d).natAbs:Int) (sg (w d)*w r) (r.length-1)) :=
 Ml (We hd hl (Xj r d))
theorem Jh{r d:LI}(hd:d ≠ [])(hl:d.length<=r.length):(DH r d).length<r.length:=by
 have:=An.2 hd;rw[Wf hd hl,BN];have:=Bq (C9 r d ((w d).natAbs:Int) (sg (w d)*w r) (r.length-1));rw[El] at this;omega
theorem nL(c:Int)(d:LI):w (Ay c d)=c*w d:=by
 unfold w;rw[AR,show (Ay c d).length=d.length by simp[Ay]]
theorem eU{c:Int}(hc:0<c)(n:Int):sg (c*n)=sg n:=by
 unfold sg;have:c*n<0↔n<0:=by
  constructor
  ·intro h;apply Jl.1;intro hn;have:=A6 (show 0<=c by omega) hn;omega
  ·intro h;exact Mm hc h
 simp only[this]
theorem T0{r d:LI}{c g a b:Int}(hc:0<c)(hg:0<g)(ha:g*a=((w d).natAbs:Int))(hb:g*b=sg (w d)*w r):DH r (Ay c d)=prim (C9 r d a b r.length):=by
 unfold DH;rw[eR,nL,eU hc,BK];apply Z8 (k:=c*g) (BL hc hg);intro i;rw[<- eQ];congr 2
 ·rw[AH,ha,CQ,KS (by omega)]
 ·rw[AH c g b,hb];grind
theorem Z9{c:Int}(hc:0<c)(r d:LI):DH r (Ay c d)=DH r d:=by
 rw[T0 (g:=1) (a:=((w d).natAbs:Int)) (b:=sg (w d)*w r) hc (by decide) (by omega) (by omega)];rfl
theorem ZA{c:Int}(hc:0<c)(d:LI):∀ (f:Nat) (r:LI),Eb f r (Ay c d)=Eb f r d:=by
 intro f;induction f with
 | zero=>intro r;rfl
 | succ f ih =>
  intro r;simp only[Eb];rw[show (Ay c d).length=d.length by simp[Ay],Z9 hc,ih]
theorem T1(r d:LI):BZ (DH r d):=BX _
theorem EB{K:Nat}{d:LI}(h:Kb K d):Bm K (w d):=h _
theorem OV{K:Nat}{n:Int}(h:Bm K n):Bm K (n.natAbs:Int):=by unfold Bm at *;rwa [BD]
theorem Ati{K:Nat}{m n:Int}(h:Bm K n):Bm K (sg m*n):=by
 unfold Bm sg at *;split <;> simpa using h
theorem Sy{J K:Nat}{r d:LI}(hr:Kb J r)(hd:Kb K d):Kb (J+K+1) (DH r d) :=
 (Rh hr hd (OV (EB hd)) (Ati (EB hr)) _).prim
theorem Sz{d:LI}(hd:d ≠ []){K:Nat}(hK:Kb K d):∀ (f:Nat) (r:LI) (J:Nat),r.length<=f->BZ r->Kb J r ->
  BZ (Eb f r d)/\(Eb f r d).length<d.length/\Kb (J+(r.length+1-d.length)*(K+1)) (Eb f r d):=by
 have hd1:=An.2 hd;intro f;induction f with
 | zero =>
  intro r J h1 h2 h3;exact⟨h2,by simp only[Eb];omega,h3.mono (Pg _ _)⟩
 | succ f ih =>
  intro r J h1 h2 h3;simp only[Eb];split
  ·rename_i hl;have hp:=Jh hd hl;obtain⟨a1,a2,a3⟩:=ih (DH r d) (J+K+1) (by omega) (T1 r d) (Sy h3 hK);refine⟨a1,a2,a3.mono ?_⟩;have e:((DH r d).length+1-d.length)+1<=r.length+1-d.length:=by omega
   have:=AF (K+1) e;rw[D',Fk] at this;omega
  ·exact⟨h2,by omega,h3.mono (Pg _ _)⟩
def Bt(x y:LI):LI:=Eb x.length x y
def GW:Nat->LI->LI->LI
 | 0,x,_=>x
 | f+1,x,y=>if y=[] then x else GW f y (Bt x y)
def z(x:LI):LI:=if w x<0 then Cc x else x
theorem HY(d:LI):∀ (f:Nat) (r:LI),prim r=r->prim (Eb f r d)=Eb f r d:=by
 intro f;induction f with
 | zero=>intro r h;exact h
 | succ f ih =>
  intro r h;simp only[Eb];split
  ·exact ih _ (BU _)
  ·exact h
theorem Cq{r:LI}(h:prim r=r):BZ r:=h ▸ BX r
theorem nM{m l:Nat}(h:l<m):(m-l+2)*3^l<=3^m:=by
 obtain⟨k,rfl⟩:∃ k,m=l+1+k:=⟨m-l-1,by omega⟩;rw[show l+1+k-l+2=k+3 by omega,show l+1+k=(k+1)+l by omega,De];apply AF;clear h;induction k with
 | zero=>decide
 | succ k ih=>rw[FM];omega
def IS(n m:Nat):Nat:=(n-m+2)*3^m
theorem Kw{x y:LI}{M:Nat}(hM:0<M)(hx:BZ x)(hy:y ≠ [])(kx:Kb (M-1) x)(ky:Kb (M-1) y)(hl:y.length<=x.length) :
  BZ (Bt x y)/\(Bt x y).length<y.length/\Kb (M*(x.length-y.length+2)-1) (Bt x y):=by
 obtain⟨a,b,c⟩:=Sz hy ky x.length x (M-1) (Ap _) hx kx;refine⟨a,b,c.mono ?_⟩;rw[Lq hM,show x.length+1-y.length=x.length-y.length+1 by omega,CS _ M];have:M*(x.length-y.length+2)=M*(x.length-y.length+1)+M:=by rw[<- Pf]
 omega
theorem Kx{n m l M T:Nat}(hl:l<m)(h:M*IS n m<=T):M*(n-m+2)*IS m l<=T:=by
 refine Be ?_ h;unfold IS;rw[EQ];apply AL;apply AL;exact nM hl
theorem Ow{n m c:Nat}(h:m<=n)(hn:n<=c):IS n m<=2*3^c:=by
 have h1:IS n m<=2*3^n:=by
  unfold IS;obtain⟨k,rfl⟩:∃ k,n=m+k:=⟨n-m,by omega⟩;rw[show m+k-m+2=k+2 by omega,De,CS (3^m),<- EQ];apply AF;clear h hn;induction k with
  | zero=>decide
  | succ k ih=>rw[FM];omega
 exact Be h1 (AL _ (BF (by decide) hn))
def At(p:LI):LI:=Aa ((Aq (p.length-1)).map fun j=>p.getD (j+1) 0*((j+1:Nat):Int))
theorem DC(p:LI)(i:Nat):(At p).getD i 0=p.getD (i+1) 0*((i+1:Nat):Int):=by
 unfold At;rw[Dc,GV];split
 ·rfl
 ·rw[Bw (xs:=p) (by omega),DF]
theorem Wg{a b:Int}{us bs cs:LI}(h:∀ i,cs.getD i 0=a*us.getD i 0+b*bs.getD i 0)(x:Int):V cs x=a*V us x+b*V bs x:=by
 have e:V cs x=V (Du (Ay a us) (Ay b bs)) x:=Gw (fun i=>by rw[h,CX,AR,AR]) x;rw[e,BM,A0,A0]
def Ce(k:Nat)(q:LI):LI:=Av k 0++q
theorem Cj(k:Nat)(q:LI)(i:Nat):(Ce k q).getD i 0=if k<=i then q.getD (i-k) 0 else 0:=by
 simp only[Ce,Z,List.getElem?_append,Fs];split
 ·rename_i h;rw[if_neg (by omega),Aez h];rfl
 ·rename_i h;rw[if_pos (by omega)]
theorem CF(k:Nat)(q:LI)(x:Int):V (Ce k q) x=x^k*V q x:=by
 induction k with
 | zero=>simp[Ce]
 | succ k ih =>
  have:Ce (k+1) q=0::Ce k q:=by simp[Ce,Ft]
  rw[this];simp only[V];rw[ih,A2];grind
theorem Qi{r d:LI}(hl:d.length<=r.length)(a b x:Int):V (C9 r d a b r.length) x=a*V r x-b*(x^(r.length-d.length)*V d x):=by
 rw[<- CF];have:=Wg (a:=a) (b := -b) (us:=r) (bs:=Ce (r.length-d.length) d) (cs:=C9 r d a b r.length) (fun i=>by
  rw[Gz,Cj];by_cases h:i<r.length
  ·rw[if_pos h];split
   ·rw[Q5];omega
   ·simp
  ·rw[if_neg h,Bw (show r.length<=i by omega)];have:d.getD (i-(r.length-d.length)) 0=0:=Bw (by omega);split
   ·rw[this];simp
   ·simp) x
 rw[this,Q5];omega
theorem EU(a:Int)(p q:LI)(i:Nat):(BQ (a::p) q).getD i 0=a*q.getD i 0+(Ce 1 (BQ p q)).getD i 0:=by
 simp only[BQ];rw[CX,AR];rfl
theorem OW:∀ (p q:LI),p ≠ []->q ≠ []->(BQ p q).getD (p.length+q.length-2) 0=w p*w q/\∀ i,p.length+q.length-1<=i->(BQ p q).getD i 0=0
 | [],q,h,_=>absurd rfl h
 | [a],q,_,hq=>by
  have hq1:=An.2 hq;refine⟨?_,fun i hi => ?_⟩
  ·rw[EU,Cj,show [a].length+q.length-2=q.length-1 by simp;omega];simp[BQ,w]
  ·rw[EU,Cj,Bw (show q.length<=i by simp at hi;omega)];simp[BQ]
 | a::b::p,q,_,hq=>by
  have hq1:=An.2 hq;obtain⟨h1,h2⟩:=OW (b::p) q (by simp) hq;refine⟨?_,fun i hi => ?_⟩
  ·rw[EU,Cj,if_pos (by simp;omega)];simp only[Bv] at *
   rw[Bw (show q.length<=p.length+1+1+q.length-2 by omega),show p.length+1+1+q.length-2-1=p.length+1+q.length-2 by omega,h1];simp[w]
  ·rw[EU,Cj];simp only[Bv] at *
   rw[Bw (show q.length<=i by omega)];split
   ·rw[h2 _ (by omega)];simp
   ·simp
theorem En{p:LI}(h:Aa p=[])(x:Int):V p x=0:=by rw [<- DM,h];rfl
theorem Ri{p q o1 r1 o2 r2:LI}{c1 c2:Int}(hq:BZ q)(hq0:q ≠ [])(h1:∀ x,c1*V p x=V q x*V o1 x+V r1 x)(h2:∀ x,c2*V p x=V q x*V o2 x+V r2 x)
  (z1:∀ i,q.length-1<=i->r1.getD i 0=0) (z2:∀ i,q.length-1<=i->r2.getD i 0=0) (i:Nat):c2*o1.getD i 0=c1*o2.getD i 0:=by
 have hql:=An.2 hq0;have hD:Aa (Mj (Ay c2 o1) (Ay c1 o2))=[]:=by
  apply A5;intro hD;have hev:∀ x,V (BQ q (Aa (Mj (Ay c2 o1) (Ay c1 o2)))) x=V (Mj (Ay c1 r2) (Ay c2 r1)) x:=by
   intro x;rw[Bf,DM,FA,FA,A0,A0,A0,A0];have a:=h1 x;have b:=h2 x;grind
  generalize hDD:Aa (Mj (Ay c2 o1) (Ay c1 o2))=D at *
  have hDl:BZ D:=hDD ▸ HM _;have hD1:=An.2 hD;have h3:=(OW q D hq0 hD).1;rw[DB hev,P_,AR,AR,z1 _ (by omega),z2 _ (by omega)] at h3;have t1:=E6 hq hq0;have t2:=E6 hDl hD;rw[AM,AM,EY] at h3;exact BW t1 t2 h3.symm
 have:=C'.1 hD i;rw[P_,AR,AR] at this;omega
theorem Rj{o1 o2:LI}{c1 c2:Int}(hc1:0<c1)(hc2:0<c2)(h:∀ i,c2*o1.getD i 0=c1*o2.getD i 0):prim o1=prim o2:=by
 rw[<- Ov hc2 o1,<- Ov hc1 o2];exact Ml fun i=>by rw[AR,AR];exact h i
def GX(r q:LI)(l:Int)(k:Nat):LI:=(Aq r.length).map fun i=>if k<=i then r.getD i 0-l*q.getD (i-k) 0 else r.getD i 0
theorem Lr(r q:LI)(l:Int)(k i:Nat)(hk:k+q.length<=r.length):(GX r q l k).getD i 0=r.getD i 0-l*(Ce k q).getD i 0:=by
 rw[GX,GV,Cj];split
 ·split <;> simp
 ·rw[Bw (show r.length<=i by omega),Bw (xs:=q) (show q.length<=i-k by omega)];simp
theorem G8(r q:LI)(l:Int)(k:Nat):(GX r q l k).length=r.length:=by simp [GX]
def GY(q:LI):Nat->LI->LI->LI
 | 0,_,out=>out
 | k+1,r,out=>GY q k (GX (Ay (w q) r) q (r.getD (k+q.length-1) 0) k) ((Ay (w q) out).set k (r.getD (k+q.length-1) 0))
theorem Bc(a:Int)(q:LI):(Ay a q).length=q.length:=by simp [Ay]
theorem Atj{p q:LI}(hq0:q ≠ [])(ht:0<w q):∀ (k:Nat) (r out:LI) (c:Int),0<c->k<=out.length->out.length+q.length=r.length+1->(∀ i,k+q.length-1<=i->r.getD i 0=0)->(∀ i,i<k->out.getD i 0=0) ->
  (∀ x,c*V p x=V q x*V out x+V r x) ->
  ∃ c' r',0<c'/\(∀ i,q.length-1<=i->r'.getD i 0=0)/\(GY q k r out).length=out.length/\∀ x,c'*V p x=V q x*V (GY q k r out) x+V r' x:=by
 have hql:=An.2 hq0;intro k;induction k with
 | zero =>
  intro r out c hc _ _ hz _ he;exact⟨c,r,hc,fun i hi=>hz i (by omega),rfl,he⟩
 | succ k ih =>
  intro r out c hc hk hl hz hz2 he;simp only[GY];generalize hlead:r.getD (k+q.length-1) 0=l at *
  have hkr:k+q.length<=(Ay (w q) r).length:=by rw[Bc];omega
  obtain⟨c',r',a1,a2,a3,a4⟩:=ih (GX (Ay (w q) r) q l k) ((Ay (w q) out).set k l) (w q*c) (BL ht hc) (by rw[A',Bc];omega) (by rw[A',Bc,G8,Bc];exact hl)
   (fun i hi=>by
    rw[Lr _ _ _ _ _ hkr,AR,Cj];by_cases h1:i=k+q.length-1
    ·subst h1;rw[hlead,if_pos (by omega),show k+q.length-1-k=q.length-1 by omega];unfold w;grind
    ·rw[hz i (by omega),Bw (xs:=q) (show q.length<=i-k by omega)];simp)
   (fun i hi=>by rw[Cs (by omega),AR,hz2 i (by omega),AM])
   (fun x=>by
    rw[VR _ _ _ _ (by rw[Bc];omega),AR,hz2 k (by omega),A0];have e:=Wg (a:=1) (b := -l) (us:=Ay (w q) r) (bs:=Ce k q) (cs:=GX (Ay (w q) r) q l k) (fun i=>by rw[Lr _ _ _ _ _ hkr,Q5];omega) x;rw[e,A0,CF];have:=he x;grind)
  exact⟨c',r',a1,a2,by rw[a3,A',Bc],a4⟩
theorem T2{p q:LI}(hq0:q ≠ [])(ht:0<w q)(hl:q.length<=p.length):∃ c' r',0<c'/\(∀ i,q.length-1<=i->r'.getD i 0=0)/\(GY q (p.length-q.length+1) p (Av (p.length-q.length+1) 0)).length=p.length-q.length+1 /\
  ∀ x,c'*V p x=V q x*V (GY q (p.length-q.length+1) p (Av (p.length-q.length+1) 0)) x+V r' x:=by
 have hql:=An.2 hq0;have h:=Atj (p:=p) hq0 ht (p.length-q.length+1) p (Av (p.length-q.length+1) 0) 1 (by decide) (by simp) (by simp;omega) (fun i hi=>Bw (by omega)) (fun i _=>DA _ _) (fun x=>by rw[QY];omega);rw[Fs] at h;exact h
def KG(d:LI):Nat->LI->LI->LI
 | 0,_,out=>out
 | f+1,r,out=>if d.length<=r.length then KG d f (Aa (C9 r d (w d) (w r) (r.length-1))) ((Ay (w d) out).set (r.length-d.length) (w r)) else out
theorem Mn{r d:LI}(hd0:d ≠ [])(hl:d.length<=r.length):(Aa (C9 r d (w d) (w r) (r.length-1))).length<r.length:=by
 have:=An.2 hd0;have:=Bq (C9 r d (w d) (w r) (r.length-1));rw[El] at this;omega
theorem Atk{p d:LI}(hd0:d ≠ [])(ht:0<w d):∀ (f:Nat) (r out:LI) (c:Int),r.length<=f->0<c->r.length+1<=out.length+d.length->(∀ i,i+d.length<=r.length->out.getD i 0=0) ->
  (∀ x,c*V p x=V d x*V out x+V r x) ->
  ∃ c' r',0<c'/\(∀ i,d.length-1<=i->r'.getD i 0=0)/\(KG d f r out).length=out.length/\∀ x,c'*V p x=V d x*V (KG d f r out) x+V r' x:=by
 have hdl:=An.2 hd0;intro f;induction f with
 | zero =>
  intro r out c hf hc _ _ he;exact⟨c,r,hc,fun i hi=>Bw (by omega),rfl,he⟩
 | succ f ih =>
  intro r out c hf hc hl hz he;simp only[KG];split
  ·rename_i hg;have hlen:=Mn hd0 hg;obtain⟨c',r',a1,a2,a3,a4⟩:=ih (Aa (C9 r d (w d) (w r) (r.length-1))) ((Ay (w d) out).set (r.length-d.length) (w r)) (w d*c) (by omega) (BL ht hc) (by rw[A',Bc];omega)
    (fun i hi=>by rw[Cs (by omega),AR,hz i (by omega),AM])
    (fun x=>by
     rw[VR _ _ _ _ (by rw[Bc];omega),AR,hz _ (by omega),A0,DM];have e1:V (C9 r d (w d) (w r) (r.length-1)) x=V (C9 r d (w d) (w r) r.length) x:=Gw (fun i=>(We hd0 hg (AA _ _) i).symm) x;rw[e1,Qi hg];have:=he x;grind)
   exact⟨c',r',a1,a2,by rw[a3,A',Bc],a4⟩
  ·rename_i hg;exact⟨c,r,hc,fun i hi=>Bw (by omega),rfl,he⟩
theorem Ox{p d:LI}(hd0:d ≠ [])(ht:0<w d)(hl:d.length<=p.length):∃ c' r',0<c'/\(∀ i,d.length-1<=i->r'.getD i 0=0)/\(KG d p.length p (Av (p.length-d.length+1) 0)).length=p.length-d.length+1 /\
  ∀ x,c'*V p x=V d x*V (KG d p.length p (Av (p.length-d.length+1) 0)) x+V r' x:=by
 have h:=Atk (p:=p) hd0 ht p.length p (Av (p.length-d.length+1) 0) 1 (Ap _) (by decide) (by simp;omega) (fun i _=>DA _ _) (fun x=>by rw[QY];omega);rw[Fs] at h;exact h
theorem Atl{p q:LI}(hq:BZ q)(hq0:q ≠ [])(ht:0<w q)(hl:q.length<=p.length):prim (GY q (p.length-q.length+1) p (Av (p.length-q.length+1) 0))=prim (KG q p.length p (Av (p.length-q.length+1) 0)):=by
 obtain⟨c1,r1,a1,a2,_,a4⟩:=T2 hq0 ht hl;obtain⟨c2,r2,b1,b2,_,b4⟩:=Ox hq0 ht hl;exact Rj a1 b1 (Ri hq hq0 a4 b4 a2 b2)
theorem Yv{p q o r:LI}{c:Int}(hc:0<c)(hp:0<w p)(hq0:q ≠ [])(ht:0<w q)(hl:q.length<=p.length)(ho:o.length=p.length-q.length+1)(h:∀ x,c*V p x=V q x*V o x+V r x)(z:∀ i,q.length-1<=i->r.getD i 0=0):0<w o:=by
 have hql:=An.2 hq0;have ho0:o ≠ []:=by intro h0;rw[h0] at ho;simp at ho
 have h3:=(OW q o hq0 ho0).1;have hev:∀ x,V (Ay c p) x=V (Du (BQ q o) r) x:=fun x=>by rw[A0,BM,Bf];exact h x
 have h4:=DB hev (p.length-1);rw[AR,CX,z _ (by omega),show p.length-1=q.length+o.length-2 by omega,h3,B5] at h4;have h5:0<w q*w o:=by
  rw[<- h4,show q.length+o.length-2=p.length-1 by omega];exact BL hc hp
 exact ZB h5 ht |> fun h=>h
theorem P1{o:LI}(h:0<w o):0<w (prim o):=by
 have hl:BZ o:=Rg (TP (by unfold w at h;omega));unfold w;rw[BN,hl,IR];have hc:0<AQ o:=IQ (by rw[hl];intro h0;rw[h0] at h;simp[w] at h);have hd:=OU o (o.length-1);rw[IR] at hd;unfold w at h;rw[<- hd] at h;exact ZB h (by omega)
end Go.Ai
namespace Go.Proofs.YtajompaehjkgkaaGreat
open Go.Ai
set_option maxRecDepth 100000
open Classical renaming byContradiction->A5
open Decidable renaming decide->B
open Go.Ai.AV renaming agg->o,bool->D,fresh->L,sl->H,tup->Ax
open Go.IntKind renaming i64->O,wrap->I
open Int renaming ediv_nonneg->J3,emod_nonneg->FE,gcd->C_,mul_comm->AA,mul_ediv_add_emod->G2,mul_ediv_cancel_left->BT,mul_nonneg->A6,natAbs_natCast->BD,neg_tdiv->Afb,neg_tmod->Afd,ofNat_dvd_left->G4,tdiv->Aw,tdiv_eq_ediv_of_nonneg->B8,tdiv_neg->Afc,tmod->AD,tmod_eq_emod_of_nonneg->Bs,tmod_neg->Afe,toNat_natCast->R,zero_mul->DF
open List renaming append_nil->L5,cons_append->HT,drop_eq_getElem_cons->CL,drop_length->JP,drop_zero->Fe,eq_nil_of_length_eq_zero->A9,ext_getElem?->Gg,getD_eq_getElem?_getD->Z,getElem?_append_left->AN,getElem?_append_right->AT,getElem?_drop->Bu,getElem?_eq_getElem->Af,getElem?_map->Ch,getElem?_set_ne->FO,getElem?_set_self->WP,getElem?_take_of_lt->B1,length_append->AX,length_drop->Ep,length_map->N,length_range->B9,length_take->AB,map_append->D_,mem_map->Em,mem_of_mem_drop->E',mem_of_mem_take->C3,mem_range->I9,range->Aq,range_succ->Hq,take_of_length_le->Er,take_succ_eq_append_getElem->qR
open Nat renaming eq_zero_or_pos->FJ,gcd->Ix,gcd_comm->J5,gcd_rec->Avz,gcd_zero_right->GJ,le_of_dvd->Rf,le_refl->Ap,log2->Cg,log2_eq_iff->Qx,mod_lt->HB,zero_le->Ba
theorem Yw{n:Nat}:CR n=1↔n=1:=by
 unfold CR;split
 ·omega
 ·rename_i h;constructor
  ·intro h1;have h2:Cg n=0:=by omega
   have:=(Qx h).1 h2;omega
  ·rintro rfl;decide
theorem eV{n:Nat}:1<CR n↔1<n:=by
 have h1:=Yw (n:=n);have h0:CR n=0↔n=0:=by unfold CR;split <;> omega
 omega
theorem HH(n:Int):(cn n).2.length=(M n.natAbs).length:=rfl
theorem nN{rs:List Rn}{n:Nat}(h:n<rs.length):(Q rs).drop n=P (rs.getD n z0)::(Q rs).drop (n+1):=by
 rw[CL (by rw[s];exact h)];congr 1;rw[<- C7,Z,Af (by rw[s];exact h)];rfl
theorem Rk{K:Nat}{p:LI}(h:∀ x∈p,Bm K x):Bm K ((AQ p:Nat):Int):=by
 by_cases h0:Aa p=[]
 ·rw[IP.2 (C'.1 h0)];exact GS K
 ·have hc:=IQ h0;have:∃ i,p.getD i 0 ≠ 0:=A5 fun hn=>h0 (C'.2 fun i=>A5 fun hi=>hn ⟨i,hi⟩);obtain⟨i,hi⟩:=this;have hd:=Hn p i;have hf:=VQ h i;unfold Bm at *
  rw[BD];have:=Rf (by omega) (G4.1 hd);omega
theorem nO{p:LI}(n:Nat):AQ p∣AQ (p.drop n):=by
 rw[Kt];intro i;have:=Hn p (n+i);rw[Z] at this |-;rwa [Bu]
theorem Aak{K:Nat}{rs:List Rn}{z:Rn}(hg:∀ r∈rs,AO K r)(hK:K<1048576)(hN:rs.length<=1048576):∀ n,n<=rs.length ->
  ∃ i',Ar (.loop Sh) (LL rs (cn (AQ ((Q rs).drop n):Nat)) ((n:Int)-1) z) (.exit 0) (LL rs (cn (AQ (Q rs):Nat)) i' z):=by
 intro n;induction n with
 | zero =>
  intro _;rw[Fe];exact⟨_,Ao (Atb rs _ _ z (by simp)) (by nofun)⟩
 | succ n ih =>
  intro hn;have e0:((n+1:Nat):Int)-1=(n:Int):=by omega
  have e1:I O ((n:Int)-1)=(n:Int)-1:=Bl (by omega) (by omega);have hf:Bm K ((AQ ((Q rs).drop (n+1)):Nat):Int):=Rk fun x hx=>C1 hg x (E' hx);have hl:=hf.len;have hb:=MV (neg:=(cn (AQ ((Q rs).drop (n+1)):Nat)).1) (xs:=(cn (AQ ((Q rs).drop (n+1)):Nat)).2) (BI _) (by rw[HH];omega);rw[show rv (cn (AQ ((Q rs).drop (n+1)):Nat)).1 (cn (AQ ((Q rs).drop (n+1)):Nat)).2=(AQ ((Q rs).drop (n+1)):Nat) from u _,BD] at hb;rw[e0];by_cases h1:AQ ((Q rs).drop (n+1))=1
  ·have hc:AQ (Q rs)=1:=by
    have:=nO (p:=Q rs) (n+1);rw[h1] at this;exact Nat.dvd_one.1 this
   rw[h1] at hb |-;rw[hc];exact⟨_,Ao (Ata rs _ (n:Nat) z _ (by simp) (by decide) hb) (by nofun)⟩
  ·obtain⟨g1,g2⟩:=Bg hg n;have hgc:=Yt (na:=(cn (AQ ((Q rs).drop (n+1)):Nat)).1) (nb:=(rs.getD n z0).1) (xs:=(cn (AQ ((Q rs).drop (n+1)):Nat)).2) (ys:=(rs.getD n z0).2) (BI _) g1 (by rw[HH];omega) (by omega);rw[show rv (cn (AQ ((Q rs).drop (n+1)):Nat)).1 (cn (AQ ((Q rs).drop (n+1)):Nat)).2=(AQ ((Q rs).drop (n+1)):Nat) from u _,show rv (rs.getD n z0).1 (rs.getD n z0).2=P (rs.getD n z0) from rfl] at hgc;have hstep:(C_ ((AQ ((Q rs).drop (n+1)):Nat):Int) (P (rs.getD n z0)))=AQ ((Q rs).drop n):=by
    rw[nN (n:=n) (by omega),AQ,C_,BD,J5]
   rw[hstep] at hgc;have k1:=Asz rs (cn (AQ ((Q rs).drop (n+1)):Nat)) (n:Nat) z _ _ (by simp) (by
    rw[bne_iff_ne];have:=Yw (n:=AQ ((Q rs).drop (n+1)));omega) (by omega) hb (by rw[R];exact hgc)
   rw[e1] at k1;obtain⟨i',h⟩:=ih (by omega);exact⟨i',Cv.loop k1 h⟩
theorem Xk{K:Nat}{rs:List Rn}(hg:∀ r∈rs,AO K r)(hK:K<1048576)(hN:rs.length<=1048576):RQ 157 [sL pc rs] (Ah (AQ (Q rs):Nat)):=by
 obtain⟨i',h⟩:=Aak (z:=z0) hg hK hN rs.length (Ap _);rw[show (Q rs).drop rs.length=[] by rw[<- s,JP],show cn ((AQ []:Nat):Int)=z0 from rfl] at h;exact Atc rs (cn (AQ (Q rs):Nat)) z0 i' (by rw[Bl (by omega) (by omega)];exact h)
theorem Ls{x g:Int}(hg:0<g)(h:g∣x):Aw x g=x / g:=by
 obtain⟨y,rfl⟩:=h;rw[Int.mul_tdiv_cancel_left _ (by omega),BT _ (by omega)]
theorem Eo{K:Nat}{rs:List Rn}(hg:∀ r∈rs,AO K r)(hK:K<1048576)(hN:rs.length<=1048576):RQ 115 [sL pc rs] (L 2 (prim (Q rs)).length (pk (prim (Q rs)))):=by
 have ht:=IN (fun r h=>(hg r h).mono (show K<=1048576 by omega)) hN;have hfT:∀ x∈Aa (Q rs),Bm K x:=Gc (C1 hg);have gts:=Kp hfT;have hvs:=v (Aa (Q rs));have hll:=Bq (Q rs);rw[s] at hll;have hpk:pk (Aa (Q rs))=pc ((Aa (Q rs)).map cn):=rfl;(first|rw[hpk,<- N (f:=cn)] at ht|(rw[hpk] at ht;unfold sL at ht;rw[<- N (f:=cn)] at ht));have hlm:((Aa (Q rs)).map cn).length=(Aa (Q rs)).length:=N ..;have hc:=Xk gts hK (by omega);rw[hvs,Wd] at hc;have hfc:Bm K ((AQ (Q rs):Nat):Int):=Rk (C1 hg);have hlc:=hfc.len;have hb:=MV (neg:=(cn (AQ (Q rs):Nat)).1) (xs:=(cn (AQ (Q rs):Nat)).2) (BI _) (by rw[HH];omega);rw[show rv (cn (AQ (Q rs):Nat)).1 (cn (AQ (Q rs):Nat)).2=(AQ (Q rs):Nat) from u _,BD] at hb;by_cases h1:1<AQ (Q rs)
 ·have hgd:∀ t,P (((Aa (Q rs)).map cn).getD t z0)=(Aa (Q rs)).getD t 0:=fun t=>by rw[<- C7,hvs]
  have key:∀ ts:List Rn,ts.length=(Aa (Q rs)).length->(∀ r∈ts,AO K r)->(∀ t,P (ts.getD t z0)=(Aa (Q rs)).getD t 0) ->
    Ar (.loop RR) (LM ts.length ts (cn (AQ (Q rs):Nat)) (ts.length:Nat) 0) (.exit 0) (LM ts.length ((prim (Q rs)).map cn) (cn (AQ (Q rs):Nat)) (ts.length:Nat) (ts.length:Nat)):=by
   intro ts hl gt hv;have hlp:((prim (Q rs)).map cn).length=ts.length:=by rw[N,BN,hl]
   have h:=Cv.up (prog:=AY) (c:=RR) (ex := .exit 0) (fin:=LM ts.length ((prim (Q rs)).map cn) (cn (AQ (Q rs):Nat)) (ts.length:Nat) (ts.length:Nat))
    (fun i=>LM ts.length (((prim (Q rs)).map cn).take i++ts.drop i) (cn (AQ (Q rs):Nat)) (ts.length:Nat) (i:Nat)) ts.length (by nofun) ?_ ?_ 0 (Ba _)
   ·exact h
   ·intro i hi;have ei:I O ((i:Int)+1)=((i+1:Nat):Int):=by rw[Bl (by omega) (by omega)];omega
    have hlen:(((prim (Q rs)).map cn).take i++ts.drop i).length=ts.length:=by rw[AX,AB,Ep];omega
    have hget:(((prim (Q rs)).map cn).take i++ts.drop i).getD i z0=ts.getD i z0:=by
     rw[Z,Z,AT (by rw[AB];omega),AB,Bu];congr 2;omega
    obtain⟨g1,g2⟩:=Bg gt i;have hq:=OT (na:=(ts.getD i z0).1) (nb:=(cn (AQ (Q rs):Nat)).1) (xs:=(ts.getD i z0).2) (ys:=(cn (AQ (Q rs):Nat)).2) g1 (BI _) (by rw[show rv (cn (AQ (Q rs):Nat)).1 (cn (AQ (Q rs):Nat)).2=(AQ (Q rs):Nat) from u _];omega) (by omega) (by rw[HH];omega);rw[show rv (cn (AQ (Q rs):Nat)).1 (cn (AQ (Q rs):Nat)).2=(AQ (Q rs):Nat) from u _,show rv (ts.getD i z0).1 (ts.getD i z0).2=P (ts.getD i z0) from rfl,hv,Dc] at hq;have k:=Atd ts.length (((prim (Q rs)).map cn).take i++ts.drop i) (cn (AQ (Q rs):Nat)) (ts.length:Nat) (i:Nat) _ _ (by simp;omega) (by omega) hlen (by rw[R,hget];exact hq);refine k.to rfl ?_;rw[ei,R,Ls (by omega) (Hn (Q rs) i),<- IR];congr 1;apply Gg;intro t;have hpi:((prim (Q rs)).map cn)[i]? = some (cn ((prim (Q rs)).getD i 0)):=by
     rw[Ch,Z,Af (by (first|rw[N] at hlp|(unfold sL at hlp;rw[N] at hlp));omega)];rfl
    rcases Nat.lt_trichotomy t i with g | g | g
    ·rw[FO (by omega),AN (by rw[AB];omega),AN (by rw[AB];omega),B1 g,B1 (by omega)]
    ·subst g;rw[WP (by omega),AN (by rw[AB];omega),B1 (by omega),hpi]
    ·rw[FO (by omega),AT (by rw[AB];omega),AT (by rw[AB];omega),AB,AB,Bu,Bu];congr 1;omega
   ·rw[Er (by omega),JP,L5];exact Ate ts.length _ _ (ts.length:Nat) (ts.length:Nat) (by simp)
  have hl:=key _ hlm gts hgd;have h:=nB rs ((Aa (Q rs)).map cn) _ _ _ _ _ _ _ (by rw[decide_eq_true_eq];have:=(eV (n:=AQ (Q rs))).2 h1;omega) ht (sC _) (Pw _) hc hb hl;(first|rw[hlm,<- BN] at h|(unfold sL at h;rw[hlm,<- BN] at h));exact h
 ·have h:=nC rs ((Aa (Q rs)).map cn) _ _ (by rw[decide_eq_false_iff_not];have:=(eV (n:=AQ (Q rs))).1;omega) ht (sC _) (Pw _) hc hb;have hp:prim (Q rs)=Aa (Q rs):=by
   rcases FJ (AQ (Q rs)) with g | g
   ·rw[Ee.2 (IP.1 g),C'.2 (IP.1 g)]
   ·exact Sw (by omega)
  rw[hp];(first|rw[hlm] at h|(unfold sL at h;rw[hlm] at h));exact h
theorem nP(rs:List Rn):P (rs.getD (rs.length-1) z0)=w (Q rs):=by unfold w;rw [C7,s]
theorem Wh{rs:List Rn}(hg:∀ r∈rs,AO 1048576 r)(hN:rs.length<=1048576) : 
  (w (Q rs)<0->RQ 155 [sL pc rs] (L 2 rs.length (pk (Cc (Q rs)))))/\(¬ w (Q rs)<0->RQ 155 [sL pc rs] (sL pc rs)):=by
 by_cases h0:0<rs.length
 ·have e1:I O ((rs.length:Int)-1)=((rs.length-1:Nat):Int):=by rw[Bl (by omega) (by omega)];omega
  obtain⟨g1,g2⟩:=Bg hg (rs.length-1);have hs:=MT (neg:=(rs.getD (rs.length-1) z0).1) g1 g2;rw[show rv (rs.getD (rs.length-1) z0).1 (rs.getD (rs.length-1) z0).2=P (rs.getD (rs.length-1) z0) from rfl,nP] at hs;refine⟨fun h => ?_,fun h => ?_⟩
  ·have hn:=KE hg hN;have hpk:pk (Cc (Q rs))=pc ((Cc (Q rs)).map cn):=rfl;have hll:((Cc (Q rs)).map cn).length=rs.length:=by rw[N,DR,s]
   rw[hpk] at hn |-;(first|rw[<- hll] at hn |-|(unfold sL at hn;rw[<- hll] at hn |-));have hn':RQ 117 [sL pc rs] (L 2 ((Cc (Q rs)).map cn).length (pc ((Cc (Q rs)).map cn))):=by
    have:=KE hg hN;rw[hll];exact this
   rw[hll];have k:=nD rs ((Cc (Q rs)).map cn) (BJ (w (Q rs))) (by simp;omega) (by unfold BJ;rw[if_pos h];rfl) (by rw[e1];omega) (by rw[e1,R];exact hs) hn';(first|rw[hll] at k|(unfold sL at k;rw[hll] at k));exact k
  ·exact nE rs (BJ (w (Q rs))) (by simp;omega) (by unfold BJ;rw[if_neg h];split <;> rfl) (by rw[e1];omega) (by rw[e1,R];exact hs)
 ·have hz:rs=[]:=A9 (by omega);subst hz;refine⟨fun h=>absurd h (by decide),fun _=>nF [] (by decide)⟩
theorem P2{K:Nat}{rs:List Rn}(hg:∀ r∈rs,AO K r)(hK:K+2<=1048576)(hN:rs.length<=1048576):RQ 116 [sL pc rs] (L 2 (At (Q rs)).length (pk (At (Q rs)))):=by
 have hd:=Gm (fun r h=>(hg r h).mono (show K<=1048576 by omega)) hN;have hle:=GR (Q rs) rs.length;have hl:=Cv.up (prog:=AY) (c:=UV) (ex := .exit 0) (fin:=Ou rs (l (Q rs) rs.length-1) (pc ((Aq (l (Q rs) rs.length-1)).map fun j=>cn (P (rs.getD (j+1) z0)*((j+1:Nat):Int)))) ((l (Q rs) rs.length-1+1:Nat):Int))
  (fun i=>Ou rs i (pc ((Aq i).map fun j=>cn (P (rs.getD (j+1) z0)*((j+1:Nat):Int)))) ((i+1:Nat):Int)) (l (Q rs) rs.length-1) (by nofun) ?_ ?_ 0 (Ba _)
 ·have hfit:∀ r∈(Aq (l (Q rs) rs.length-1)).map (fun j=>cn (P (rs.getD (j+1) z0)*((j+1:Nat):Int))),AO 1048576 r:=by
   intro r hr;obtain⟨j,hj,rfl⟩:=Em.1 hr;rw[I9] at hj;have h2:Bm 2 ((j+1:Nat):Int):=OQ (by omega);exact (BG ((Bg hg (j+1)).fits.mul h2)).mono (by omega)
  have ht:=IN hfit (by rw[N,B9];omega);have hlen:((Aq (l (Q rs) rs.length-1)).map (fun j=>cn (P (rs.getD (j+1) z0)*((j+1:Nat):Int)))).length=l (Q rs) rs.length-1:=by rw[N,B9]
  have e:Aa (Q ((Aq (l (Q rs) rs.length-1)).map (fun j=>cn (P (rs.getD (j+1) z0)*((j+1:Nat):Int)))))=At (Q rs):=by
   unfold At;apply F2;intro i;rw[Jt,GV,u,C7,s];by_cases h1:i<l (Q rs) rs.length-1
   ·rw[if_pos h1,if_pos (by omega)]
   ·rw[if_neg h1];split
    ·have:P (rs.getD (i+1) z0)=0:=by rw[<- C7];exact MJ (Q rs) rs.length (i+1) (by omega) (by omega)
     rw[this,DF]
    ·rfl
  (first|rw[e,hlen] at ht|(rw[e] at ht;unfold sL at ht;rw[hlen] at ht));have hpk:pk (At (Q rs))=pc ((At (Q rs)).map cn):=rfl;(first|rw[hpk,<- N (f:=cn)] at ht |-|(rw[hpk] at ht |-;unfold sL at ht;rw[<- N (f:=cn)] at ht |-));exact Ath rs _ _ _ _ hl ht
 ·intro i hi;have ei:I O (((i+1:Nat):Int)+1)=((i+1+1:Nat):Int):=by rw[Bl (by omega) (by omega)];omega
  obtain⟨g1,g2⟩:=Bg hg (i+1);have ho:=Apt (n:=((i+1:Nat):Int)) (by omega);have hfi:Bm 2 ((i+1:Nat):Int):=OQ (by omega);have hm:=Su (na:=(rs.getD (i+1) z0).1) (nb:=decide (((i+1:Nat):Int)<0)) (xs:=(rs.getD (i+1) z0).2) (ys:=M ((i+1:Nat):Int).natAbs) g1 (BI _) (by have:=hfi.len;omega);rw[F8] at hm;have k:=Atf rs i (pc ((Aq i).map fun j=>cn (P (rs.getD (j+1) z0)*((j+1:Nat):Int)))) ((i+1:Nat):Int) (((l (Q rs) rs.length:Nat):Int)-1) (P (rs.getD (i+1) z0)*((i+1:Nat):Int)) (by simp;omega) (by omega) (by omega) hd ho (by rw[R];exact hm);refine k.to rfl ?_;rw[ei];congr 1;rw[Hq,D_,MN];rfl
 ·exact Atg rs _ _ _ _ (by rw[decide_eq_false_iff_not];omega) hd
def TRB:Cn:=TRA
theorem Bo:Ca AY TRB:=nH
theorem sI{n:Int}{xs:LI}(hu:AP xs)(h0:0<=n)(h:n<=Ab xs):(lz n).length<=xs.length :=
 ML (by have:=DI hu;omega)
theorem sJ{n:Int}(h:0<=n):Ab (lz n)=n:=by unfold lz;rw [Cr];omega
theorem Yx{na nb:Bool}{xs ys:LI}(hx:AP xs)(hy:AP ys)(h0:rv nb ys ≠ 0)(h1:xs.length<1000000)(h2:ys.length<1000000) :
  RQ 138 [o [D na,sL lm xs],o [D nb,sL lm ys]] (Ax [Ah (Aw (rv na xs) (rv nb ys)),Ah (AD (rv na xs) (rv nb ys))]):=by
 have cx:=F7 hx;have cy:=F7 hy;have t1:=Bq xs;have t2:=Bq ys;have hX:=AZ hx;have hY:0<Ab ys:=by
  have:=AZ hy;rcases Int.lt_or_le 0 (Ab ys) with h | h
  ·exact h
  ·have hz:Ab ys=0:=by omega
   exact absurd (by unfold rv;rw[hz];cases nb <;> rfl) h0
 have hy0:Aa ys ≠ []:=by
  intro e;have:=Ek ys;rw[e] at this;simp only[Ab] at this;omega
 have hd:=dX cx cy hy0 (by omega) (by omega);rw[Ek,Ek] at hd;have hq0:0<=Ab xs / Ab ys:=J3 hX (by omega);have hq1:Ab xs / Ab ys<=Ab xs:=Int.ediv_le_self _ hX;have hr0:=FE (Ab xs) (show Ab ys ≠ 0 by omega);have hr1:Ab xs % Ab ys<=Ab xs:=by
  have:=G2 (Ab xs) (Ab ys);have:=A6 (show 0<=Ab ys by omega) hq0;omega
 have l1:=sI hx hq0 hq1;have l2:=sI hx hr0 hr1;have m1:=Gd (neg := !(na==nb)) (xs:=lz (Ab xs / Ab ys)) (BI _) (by omega);have m2:=Gd (neg:=na) (xs:=lz (Ab xs % Ab ys)) (BI _) (by omega);have e1:rv (!(na==nb)) (lz (Ab xs / Ab ys))=Aw (rv na xs) (rv nb ys):=by
  unfold rv;rw[sJ hq0,<- B8 hX];cases na <;> cases nb <;> simp[Afb,Afc]
 have e2:rv na (lz (Ab xs % Ab ys))=AD (rv na xs) (rv nb ys):=by
  unfold rv;rw[sJ hr0,<- Bs hX];cases na <;> cases nb <;> simp[Afd,Afe]
 rw[e1] at m1;rw[e2] at m2;exact Asc na nb xs ys _ _ _ _ (DX (by omega)) (DX (by omega)) hd m1 m2
theorem ZC(n:Int):AP (cn n).2:=BI _
theorem MY(n:Int):rv (cn n).1 (cn n).2=n:=u n
theorem Aal:∀ (n X Y:Nat),Y<=n->(M X).length<1000000->(M Y).length<1000000->Ar (.loop QN) (Lm (cn (X:Nat)) (cn (Y:Nat))) (.exit 0) (Lm (cn (Ix X Y:Nat)) (cn 0)):=by
 intro n;induction n with
 | zero =>
  intro X Y hY _ _;have:Y=0:=by omega
  subst this;rw[GJ];exact Ao (Ys (cn (X:Nat)) (cn 0) (by decide) (Gx (neg:=(cn 0).1) (xs:=(cn 0).2) (ZC _) (by decide))) (by nofun)
 | succ n ih =>
  intro X Y hY h1 h2;by_cases h0:Y=0
  ·subst h0;rw[GJ];exact Ao (Ys (cn (X:Nat)) (cn 0) (by decide) (Gx (neg:=(cn 0).1) (xs:=(cn 0).2) (ZC _) (by decide))) (by nofun)
  ·have hs:=Gx (neg:=(cn (Y:Nat)).1) (xs:=(cn (Y:Nat)).2) (BI _) (by rw[HH,BD];omega);have hd:=Yx (na:=(cn (X:Nat)).1) (nb:=(cn (Y:Nat)).1) (xs:=(cn (X:Nat)).2) (ys:=(cn (Y:Nat)).2) (BI _) (BI _) (by rw[MY];omega) (by rw[HH,BD];omega) (by rw[HH,BD];omega);rw[MY,MY] at hd;rw[MY] at hs;have em:AD (X:Int) (Y:Int)=((X % Y:Nat):Int):=by rw[Bs (by omega)];omega
   rw[em] at hd;have k:=zP (cn (X:Nat)) (cn (Y:Nat)) _ _ (by rw[u,bne_iff_ne];unfold BJ; (repeat' split) <;> omega) (by rw[u];exact hs) hd
   have hlt:X % Y<Y:=HB _ (by omega);have hle:(M (X % Y)).length<=(M Y).length:=by
    apply ML;have:=DI (Ci Y).1;rw[Cr] at this;omega
   have r:=ih Y (X % Y) (by omega) h2 (by omega);rw[J5 X Y,Avz Y X,J5 (X % Y) Y];exact Cv.loop k r
theorem ZD{na nb:Bool}{xs ys:LI}(hx:AP xs)(hy:AP ys)(h1:xs.length<1000000)(h2:ys.length<1000000) :
  RQ 164 [o [D na,sL lm xs],o [D nb,sL lm ys]] (Ah (C_ (rv na xs) (rv nb ys):Nat)):=by
 have m1:=Gd (neg:=false) hx (by omega);have m2:=Gd (neg:=false) hy (by omega);have l1:=EM (neg:=na) hx;have l2:=EM (neg:=nb) hy;have e1:rv false xs=(((rv na xs).natAbs:Nat):Int):=by
  have:=AZ hx;unfold rv;cases na <;> simp <;> omega
 have e2:rv false ys=(((rv nb ys).natAbs:Nat):Int):=by
  have:=AZ hy;unfold rv;cases nb <;> simp <;> omega
 rw[e1] at m1;rw[e2] at m2;exact Asd na nb xs ys _ _ _ _ m1 m2 (Aal _ (rv na xs).natAbs (rv nb ys).natAbs (Ap _) (by omega) (by omega))
theorem ZE(a b:LI):AQ (a++b)=Ix (AQ a) (AQ b):=by
 induction a with
 | nil=>simp[AQ]
 | cons x a ih=>simp only[HT,AQ,ih,Nat.gcd_assoc]
theorem TY{rs:List Rn}{i:Nat}(h:i<rs.length):(Q rs).take (i+1)=(Q rs).take i++[P (rs.getD i z0)]:=by
 rw[qR (by rw[s];exact h)];congr 2;rw[<- C7,Z,Af (by rw[s];exact h)];rfl
theorem eX{K:Nat}{rs:List Rn}(hg:∀ r∈rs,AO K r)(hK:K<1000000)(hN:rs.length<=1048576):RQ 137 [sL pc rs] (Ah (AQ (Q rs):Nat)):=by
 have h:=Cv.up (prog:=AY) (c:=Vi) (ex := .exit 0) (fin:=On rs (cn (AQ (Q rs):Nat)) (rs.length:Nat))
  (fun i=>On rs (cn (AQ ((Q rs).take i):Nat)) (i:Nat)) rs.length (by nofun) ?_ ?_ 0 (Ba _)
 ·exact Asg rs (cn (AQ (Q rs):Nat)) _ h
 ·intro i hi;have ei:I O ((i:Int)+1)=((i+1:Nat):Int):=by rw[Bl (by omega) (by omega)];omega
  obtain⟨g1,g2⟩:=Bg hg i;have hf:Bm K ((AQ ((Q rs).take i):Nat):Int):=Rk fun x hx=>C1 hg x (C3 hx);have hl:=hf.len;have hc:=ZD (na:=(cn (AQ ((Q rs).take i):Nat)).1) (nb:=(rs.getD i z0).1) (xs:=(cn (AQ ((Q rs).take i):Nat)).2) (ys:=(rs.getD i z0).2) (BI _) g1 (by rw[HH];omega) (by omega);rw[MY] at hc;have k:=Ase rs (cn (AQ ((Q rs).take i):Nat)) (i:Nat) _ (by simp;omega) (by omega) (by rw[R];exact hc);refine k.to rfl ?_;rw[ei,TY hi,ZE];congr 2;show ((Ix (((AQ ((Q rs).take i):Nat):Int)).natAbs (P (rs.getD i z0)).natAbs:Nat):Int)=_;rw[BD];simp[AQ]
 ·rw[Er (by rw[s];omega)];exact Asf rs _ _ (by simp)
theorem G0(g:Nat->Int)(i:Nat):pc ((Aq i).map fun j=>cn (g j))++([D (B (g i<0)),H (M (g i).natAbs).length (lm (M (g i).natAbs))]:List AV)=pc ((Aq (i+1)).map fun j=>cn (g j)):=by
 rw[Nt (fun j=>cn (g j)),<- dY];rfl
theorem nQ{K:Nat}{x:Int}(h:Bm K x)(c:Int):Bm K (Aw x c):=by
 unfold Bm at *
 have:(Aw x c).natAbs=x.natAbs / c.natAbs:=Int.natAbs_tdiv x c;have:=Nat.div_le_self x.natAbs c.natAbs;omega
theorem HN{K:Nat}{rs:List Rn}(hg:∀ r∈rs,AO K r)(hK:K<1000000)(hN:rs.length<=1048576):RQ 86 [sL pc rs] (L 2 (prim (Q rs)).length (pk (prim (Q rs)))):=by
 have hi:=eX hg hK hN;have hfc:Bm K ((AQ (Q rs):Nat):Int):=Rk (C1 hg);have hlc:=hfc.len;have hs:=Gx (neg:=(cn (AQ (Q rs):Nat)).1) (xs:=(cn (AQ (Q rs):Nat)).2) (BI _) (by rw[HH];omega);rw[MY] at hs;by_cases h0:AQ (Q rs)=0
 ·rw[Ee.2 (IP.1 h0)];exact zQ rs _ (by rw[h0];rfl) hi hs
 ·have h:=Cv.up (prog:=AY) (c:=cD) (ex := .exit 0) (fin:=Tx rs (cn (AQ (Q rs):Nat)) rs.length (pc ((Aq rs.length).map fun j=>cn (Aw (P (rs.getD j z0)) (AQ (Q rs):Nat)))) (rs.length:Nat))
   (fun i=>Tx rs (cn (AQ (Q rs):Nat)) i (pc ((Aq i).map fun j=>cn (Aw (P (rs.getD j z0)) (AQ (Q rs):Nat)))) (i:Nat)) rs.length (by nofun) ?_ ?_ 0 (Ba _)
  ·have hgo:∀ r∈(Aq rs.length).map (fun j=>cn (Aw (P (rs.getD j z0)) (AQ (Q rs):Nat))),AO 1048576 r:=MQ fun j _=>(BG (nQ (Bg hg j).fits _)).mono (by omega);have ht:=ET hgo (by rw[N,B9];exact hN);have e:Aa (Q ((Aq rs.length).map (fun j=>cn (Aw (P (rs.getD j z0)) (AQ (Q rs):Nat)))))=prim (Q rs):=by
    rw[<- BX (Q rs)];apply F2;intro i;rw[Jt,u,IR,<- C7];by_cases h1:i<rs.length
    ·rw[if_pos h1,Ls (by omega) (Hn _ _)]
    ·rw[if_neg h1,Bw (by rw[s];omega),Int.zero_ediv]
   (first|rw[e,N,B9] at ht|(rw[e] at ht;unfold sL at ht;rw[N,B9] at ht));have hpk:pk (prim (Q rs))=pc ((prim (Q rs)).map cn):=rfl;(first|rw[hpk,<- N (f:=cn)] at ht |-|(rw[hpk] at ht |-;unfold sL at ht;rw[<- N (f:=cn)] at ht |-));exact zU rs _ _ _ _ _ (by rw[beq_eq_false_iff_ne];unfold BJ; (repeat' split) <;> omega) hi hs h ht
  ·intro i hi2;have ei:I O ((i:Int)+1)=((i+1:Nat):Int):=by rw[Bl (by omega) (by omega)];omega
   obtain⟨g1,g2⟩:=Bg hg i;have hd:=Yx (na:=(rs.getD i z0).1) (nb:=(cn (AQ (Q rs):Nat)).1) (xs:=(rs.getD i z0).2) (ys:=(cn (AQ (Q rs):Nat)).2) g1 (BI _) (by rw[MY];omega) (by omega) (by rw[HH];omega);rw[MY] at hd;have k:=A0o rs (cn (AQ (Q rs):Nat)) i (pc ((Aq i).map fun j=>cn (Aw (P (rs.getD j z0)) (AQ (Q rs):Nat)))) (i:Nat) _ _ (by simp;omega) (by omega) (by omega) (by rw[R];exact hd);refine k.to rfl ?_;rw[ei,<- G0 (fun j=>Aw (P (rs.getD j z0)) (AQ (Q rs):Nat)) i];rfl
  ·exact A0p rs _ _ _ _ (by simp)
theorem Yy{K:Nat}{rs:List Rn}(hg:∀ r∈rs,AO K r)(hK:K+2<=1000000)(hN:rs.length<=1048576):RQ 122 [sL pc rs] (L 2 (At (Q rs)).length (pk (At (Q rs)))):=by
 have h:=Cv.up (prog:=AY) (c:=Va) (ex := .exit 0) (fin:=Oo rs (rs.length-1) (pc ((Aq (rs.length-1)).map fun j=>cn (((j+1:Nat):Int)*P (rs.getD (j+1) z0)))) ((rs.length-1+1:Nat):Int))
  (fun i=>Oo rs i (pc ((Aq i).map fun j=>cn (((j+1:Nat):Int)*P (rs.getD (j+1) z0)))) ((i+1:Nat):Int)) (rs.length-1) (by nofun) ?_ ?_ 0 (Ba _)
 ·have hgo:∀ r∈(Aq (rs.length-1)).map (fun j=>cn (((j+1:Nat):Int)*P (rs.getD (j+1) z0))),AO 1048576 r:=MQ fun j hj=>by
   have h2:Bm 2 ((j+1:Nat):Int):=OQ (by omega);exact (BG (h2.mul (Bg hg (j+1)).fits)).mono (by omega)
  have ht:=ET hgo (by rw[N,B9];omega);have e:Aa (Q ((Aq (rs.length-1)).map (fun j=>cn (((j+1:Nat):Int)*P (rs.getD (j+1) z0)))))=At (Q rs):=by
   unfold At;apply F2;intro i;rw[Jt,GV,u,C7,s,AA]
  (first|rw[e,N,B9] at ht|(rw[e] at ht;unfold sL at ht;rw[N,B9] at ht));have hpk:pk (At (Q rs))=pc ((At (Q rs)).map cn):=rfl;(first|rw[hpk,<- N (f:=cn)] at ht |-|(rw[hpk] at ht |-;unfold sL at ht;rw[<- N (f:=cn)] at ht |-));exact Asj rs _ _ _ _ h ht
 ·intro i hi;have ei:I O (((i+1:Nat):Int)+1)=((i+1+1:Nat):Int):=by rw[Bl (by omega) (by omega)];omega
  obtain⟨g1,g2⟩:=Bg hg (i+1);have ho:=sB (n:=((i+1:Nat):Int)) (by omega);have hfi:Bm 2 ((i+1:Nat):Int):=OQ (by omega);have hm:=Of (na:=(cn ((i+1:Nat):Int)).1) (nb:=(rs.getD (i+1) z0).1) (xs:=(cn ((i+1:Nat):Int)).2) (ys:=(rs.getD (i+1) z0).2) (ZC _) g1 (by rw[HH];have:=hfi.len;omega);rw[MY] at hm;have k:=Ash rs i (pc ((Aq i).map fun j=>cn (((j+1:Nat):Int)*P (rs.getD (j+1) z0)))) ((i+1:Nat):Int) (by simp;omega) (by omega) (by omega) ho (by rw[R];exact hm);refine k.to rfl ?_;rw[ei,<- G0 (fun j=>((j+1:Nat):Int)*P (rs.getD (j+1) z0)) i,R]
 ·exact Asi rs _ _ _ (by rw[decide_eq_false_iff_not];omega)
theorem Yz{rs:List Rn}(hg:∀ r∈rs,AO 1048576 r)(hN:rs.length<=1048576):RQ 153 [sL pc rs] (L 2 (Aa (Cc (Q rs))).length (pk (Aa (Cc (Q rs))))):=by
 have h:=Cv.up (prog:=AY) (c:=Vq) (ex := .exit 0) (fin:=Oq rs rs.length (pc ((Aq rs.length).map fun j=>cn (-P (rs.getD j z0)))) (rs.length:Nat))
  (fun i=>Oq rs i (pc ((Aq i).map fun j=>cn (-P (rs.getD j z0)))) (i:Nat)) rs.length (by nofun) ?_ ?_ 0 (Ba _)
 ·have hgo:∀ r∈(Aq rs.length).map (fun j=>cn (-P (rs.getD j z0))),AO 1048576 r:=MQ fun j _=>BG (Bg hg j).fits.neg;have ht:=ET hgo (by rw[N,B9];exact hN);have e:Aa (Q ((Aq rs.length).map (fun j=>cn (-P (rs.getD j z0)))))=Aa (Cc (Q rs)):=by
   apply F2;intro i;rw[Jt,u,GT,<- C7];split
   ·rfl
   ·rw[Bw (by rw[s];omega)];rfl
  (first|rw[e,N,B9] at ht|(rw[e] at ht;unfold sL at ht;rw[N,B9] at ht));have hpk:pk (Aa (Cc (Q rs)))=pc ((Aa (Cc (Q rs))).map cn):=rfl;(first|rw[hpk,<- N (f:=cn)] at ht |-|(rw[hpk] at ht |-;unfold sL at ht;rw[<- N (f:=cn)] at ht |-));exact Asn rs _ _ _ _ h ht
 ·intro i hi;have ei:I O ((i:Int)+1)=((i+1:Nat):Int):=by rw[Bl (by omega) (by omega)];omega
  obtain⟨g1,g2⟩:=Bg hg i;have k:=Asl rs i (pc ((Aq i).map fun j=>cn (-P (rs.getD j z0)))) (i:Nat) (by simp;omega) (by omega) (by omega) (by rw[R];exact Ss g1 g2);refine k.to rfl ?_;rw[ei,<- G0 (fun j => -P (rs.getD j z0)) i,R]
 ·exact Asm rs _ _ _ (by simp)
end Go.Proofs.YtajompaehjkgkaaGreat
