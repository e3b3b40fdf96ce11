/- Texts of the proof of RootOrder: part 7 of 13. -/
import Derived.Test.YtajompaehjkgkaaGreatRod6
namespace Go.Proofs.YtajompaehjkgkaaGreat
open Go.Ai
set_option maxRecDepth 100000
open BitVec renaming ofInt->U,or_comm->Ut,toNat_and->NH
open Bool renaming and_false->IP,and_true->Lh,eq_iff_iff->bI,false_eq_true->Cj
open Decidable renaming decide->A9i
open Go.Ai.AV renaming agg->o,bool->F,fresh->L,int->D,sl->H,tup->Ax
open Go.Ai.Reg renaming box->A9s,own->A9n,val->A9j
open Go.IntKind renaming bits->An,i64->O,u32->Ad,u64->B,wrap->I
open Int renaming add_comm->K7,add_mul->G4,add_mul_ediv_left->Tp,add_mul_ediv_right->A7y,add_mul_emod_self_left->Um,add_zero->BE,ediv_emod_unique->LM,ediv_eq_zero_of_lt->GQ,ediv_lt_of_lt_mul->KJ,ediv_nonneg->JI,emod_eq_of_lt->Gf,emod_lt_of_pos->Ew,emod_nonneg->FF,eq_ofNat_of_zero_le->MC,eq_of_mul_eq_mul_left->G8,fdiv->A9q,fdiv_eq_ediv_of_nonneg->AAg,gcd->Dh,le_of_lt->Aw,le_refl->C',lt_of_lt_of_le->SK,lt_of_mul_lt_mul_left->Fc,lt_of_mul_lt_mul_right->Do,mul_add->CT,mul_assoc->AF,mul_comm->AA,mul_ediv_add_emod->G2,mul_ediv_cancel_left->BX,mul_emod_mul_of_pos->A7w,mul_eq_zero->Hs,mul_le_mul->Eb,mul_le_mul_of_nonneg_left->Aj,mul_le_mul_of_nonneg_right->Ae,mul_lt_mul_of_pos_left->H6,mul_lt_mul_of_pos_right->AU,mul_neg->E5,mul_nonneg->A6,mul_one->De,mul_pos->Be,mul_sub->Fr,mul_zero->AI,natAbs->E,natAbs_natCast->BO,natAbs_pow->NN,natCast_emod->Aus,natCast_mul->Dj,neg_tdiv->Ahj,neg_tmod->Ahl,not_lt->J0,one_mul->Dt,pow_add->BG,pow_mul->kX,pow_succ->A2,pow_zero->Da,sub_self->P9,sub_zero->EU,tdiv->Av,tdiv_eq_ediv_of_nonneg->BH,tdiv_neg->Ahk,tmod->AC,tmod_eq_emod_of_nonneg->Bu,tmod_neg->Ahm,toNat->A,toNat_natCast->R,zero_add->DL,zero_mul->CX
open List renaming all->tC,drop->A9v,drop_eq_getElem_cons->Df,drop_length->Kf,drop_zero->EZ,eq_nil_of_length_eq_zero->A7,getD_eq_getElem?_getD->Z,getElem?_drop->Bw,getElem?_eq_getElem->Ah,length->Bs,length_cons->Bz,length_drop->Es,length_eq_one_iff->A5b,length_map->N,length_nil->JQ,length_pos_iff->Am,length_range->BI,length_set->A_,map_append->Ep,map_congr_left->Gh,map_cons->C8,map_nil->FU,map_take->Sh,mem_append->Cc,mem_cons_of_mem->Bh,mem_cons_self->B4,mem_map->Ec,mem_singleton->IF,range->Aq,range_succ->H3,replicate->At,replicate_succ->Gg,set_append_right->A7u,set_set->Sb,take->BD,take_length->EE,take_of_length_le->Et,take_zero->Un
open Nat renaming add_assoc->DE,add_mul->DY,add_zero->FP,and_two_pow_sub_one_eq_mod->Uu,gcd->I8,gcd_comm->JL,gcd_rec->Ayl,gcd_zero_right->GP,le_of_dvd->R7,le_of_lt->nB,le_of_not_lt->N7,le_refl->Ap,lt_of_le_of_lt->Dz,lt_of_lt_of_le->EW,lt_or_ge->Cn,mod_lt->HR,mul_assoc->EL,mul_comm->CZ,mul_le_mul->B2,mul_le_mul_left->AAd,mul_le_mul_right->AE,mul_succ->PA,mul_zero->bH,one_mul->Fe,pow_le_pow_right->B8,pow_lt_pow_right->QH,pow_mul->A8z,pow_pos->C9,sub_self->P8,sub_zero->Kk,testBit_and->Ayt,testBit_lt_two_pow->fN,zero_add->Cs,zero_le->By
open Or renaming inl->vL,inr->PR
theorem Aat{xs:LI}{d:Int}(hx:AP xs)(hd:0<d/\d<4294967296)(hN:xs.length<=1048576):∀ (i:Nat) (qs:LI) (r:Int),i<=xs.length->qs.length=xs.length->AP qs->0<=r/\r<d->(∀ t,t<i->qs.getD t 0=0) ->
  ∃ qs' r',Ar (.loop VY) (QD xs d xs.length qs r ((i:Int)-1)) (.exit 0) (QD xs d xs.length qs' r' (-1))/\qs'.length=xs.length/\AP qs'/\(0<=r'/\r'<d)/\d*Ab qs'+r'=d*Ab qs+4294967296^i*r+Ab (xs.take i):=by
 intro i;induction i with
 | zero =>
  intro qs r _ hl hu hr _;refine⟨qs,r,Ao (Asq xs d xs.length qs r _ (by simp)) (by nofun),hl,hu,hr,by simp[Ab]⟩
 | succ i ih =>
  intro qs r hi hl hu hr hz;have ei:(((i+1:Nat):Int)-1)=(i:Nat):=by omega
  have ej:I O ((i:Int)-1)=(i:Int)-1:=Bl (by omega) (by omega);have hxi:=AG hx i;have hk:=Asp xs d xs.length qs r (i:Nat) (by simp) (by omega) (by rw[CC (by omega)];omega) (by omega) hl;rw[ej,R,Nh (by omega) hxi,CC (n:=d) (by omega)] at hk;have hv0:0<=r*4294967296+xs.getD i 0:=by omega
  rw[BH hv0,Bu hv0] at hk;generalize hv:r*4294967296+xs.getD i 0=v at *
  have hm:=G2 v d;have hm0:=FF v (show d ≠ 0 by omega);have hm1:=Ew v hd.1;have hq0:0<=v / d:=JI hv0 (by omega);have hq1:v / d<4294967296:=by
   apply KJ hd.1;have:=Ae (show r<=d-1 by omega) (show (0:Int)<=4294967296 by omega);have:(d-1)*4294967296=4294967296*d-4294967296:=by omega
   omega
  rw[CC (n:=v / d) (by omega),R1 ⟨hq0,hq1⟩] at hk;obtain⟨qs',r',g1,g2,g3,g4,g5⟩:=ih (qs.set i (v / d)) (v % d) (by omega) (by simpa using hl) (C2 hu ⟨hq0,hq1⟩) ⟨hm0,hm1⟩ (fun t ht=>by rw[Cy (by omega)];exact hz t (by omega));rw[ei];refine⟨qs',r',C1.loop hk g1,g2,g3,g4,?_⟩;rw[g5,DP _ _ _ (by omega),hz i (by omega),DX xs i (by omega),A2];generalize (4294967296:Int)^i=P at *
  have e2:xs.getD i 0=d*(v / d)+v % d-r*4294967296:=by omega
  rw[e2];grind
theorem XE{xs:LI}{d:Int}(hx:AP xs)(hd:0<d/\d<4294967296)(hN:xs.length<=1048576):∃ qs r,(qs:LI).length=xs.length/\AP qs/\(0<=r/\r<d)/\d*Ab qs+r=Ab xs/\RQ 187 [Y W xs,D Ad d] (Ax [Y W qs,D Ad r]):=by
 obtain⟨qs,r,h1,h2,h3,h4,h5⟩:=Aat hx hd hN xs.length (At xs.length 0) 0 (Ap _) (by simp) (EN _) (by omega) (fun t _=>DA _ _);refine⟨qs,r,h2,h3,h4,?_,?_⟩
 ·rw[h5,ED,EE];omega
 ·have h:=Asr xs qs d r (-1) xs.length (by omega) (by
   rw[R,EY,Bl (by omega) (by omega)];exact h1)
  rw[R1 (n:=r) (by omega)] at h;unfold Y;rw[h2];exact h
theorem Aau{xs:LI}{s:Nat}(hx:AP xs)(hs:s<32)(hN:xs.length<1048576):∀ (r i:Nat) (os:LI),i+r=xs.length->os.length=xs.length+1->AP os->Ab os=2^s*Ab (xs.take i)->os.getD i 0<2^s->(∀ t,i<t->os.getD t 0=0) ->
  ∃ os',Ar (.loop Wa) (QE xs (s:Nat) (xs.length+1) os (xs.length:Nat) (i:Nat)) (.exit 0) (QE xs (s:Nat) (xs.length+1) os' (xs.length:Nat) (xs.length:Nat))/\os'.length=xs.length+1/\AP os'/\Ab os'=2^s*Ab xs:=by
 intro r;induction r with
 | zero =>
  intro i os hi hl hu hv _ _;have:i=xs.length:=by omega
  subst this;exact⟨os,Ao (Ast xs _ _ os _ _ (by simp)) (by nofun),hl,hu,by rw[hv,EE]⟩
 | succ r ih =>
  intro i os hi hl hu hv hc hz;have ei:I O ((i:Int)+1)=((i+1:Nat):Int):=by rw[Bl (by omega) (by omega)];omega
  have hxi:=AG hx i;have hoi:=AG hu i;obtain⟨p0,p1,p2,q,q0,q1⟩:=Wy hxi hs;have es:(2:Int)^(min (A (I B (s:Int))) (An .u64))=2^s:=by
   rw[CC (by omega),R];congr 1;show min s 64=s;omega
  have hk:=Ass xs (s:Nat) (xs.length+1) os (xs.length:Nat) (i:Nat) (by simp;omega) (by omega) (by rw[CC (by omega)];omega) (by omega) hl (by rw[ei];omega) (by simpa using hl);rw[ei,R,R,CC (n:=xs.getD i 0) (by omega),es,CC ⟨p0,p1⟩,YE,DW (xs.getD i 0*2^s),q1] at hk;have hqs:q*2^s<4294967296:=by rw[<- q1];omega
  rw[Asl q0 hqs (by omega) ⟨hoi.1,hc⟩] at hk;have hhi:0<=xs.getD i 0*2^s / 4294967296:=by omega
  have hp2:(2:Int)^s<=4294967296:=by have:=G6 (show s<=32 by omega);rwa [show (2:Int)^32=4294967296 by decide] at this
  rw[R1 ⟨hhi,by omega⟩] at hk;have hsum:0<=q*2^s+os.getD i 0/\q*2^s+os.getD i 0<4294967296:=by
   have hq2:0<=q*2^s:=by rw[<- q1];omega
   refine⟨by omega,?_⟩;have e:(4294967296:Int)=2^(32-s)*2^s:=by
    rw[<- BG,show 32-s+s=32 by omega];decide
   rw[e] at hqs |-;have hp:=BP s;have:=Do hqs (by omega);have:=Ae (show q+1<=2^(32-s) by omega) (show (0:Int)<=2^s by omega);rw[G4,Dt] at this;omega
  obtain⟨os',g1,g2,g3,g4⟩:=ih (i+1) ((os.set i (q*2^s+os.getD i 0)).set (i+1) (xs.getD i 0*2^s / 4294967296)) (by omega) (by simpa using hl) (C2 (C2 hu hsum) ⟨hhi,by omega⟩) (by
    rw[DP _ _ _ (by simp;omega),DP _ _ _ (by omega),Cy (by omega),hz (i+1) (by omega),hv,DX xs i (by omega),A2];have e3:xs.getD i 0*2^s=4294967296*(xs.getD i 0*2^s / 4294967296)+q*2^s:=by omega
    generalize (4294967296:Int)^i=P at *
    generalize xs.getD i 0*2^s / 4294967296=H at *
    generalize os.getD i 0=o at *
    generalize q*2^s=Q at *
    have e4:(2:Int)^s*(Ab (xs.take i)+P*xs.getD i 0)=2^s*Ab (xs.take i)+P*(xs.getD i 0*2^s):=by grind
    rw[e4,e3];grind) (by
    rw[show ((os.set i (q*2^s+os.getD i 0)).set (i+1) (xs.getD i 0*2^s / 4294967296)).getD (i+1) 0=xs.getD i 0*2^s / 4294967296 by simp[Z,show i+1<os.length by omega]];exact p2) (fun t ht=>by rw[Cy (by omega),Cy (by omega)];exact hz t (by omega))
  exact⟨os',C1.loop hk g1,g2,g3,g4⟩
theorem R5{xs:LI}{s:Nat}(hx:AP xs)(hs:s<32)(hN:xs.length<1048576):∃ os,(os:LI).length=xs.length+1/\AP os/\Ab os=2^s*Ab xs/\RQ 189 [Y W xs,D O (s:Nat)] (L 1 os.length (W os)):=by
 obtain⟨os,h1,h2,h3,h4⟩:=Aau hx hs hN xs.length 0 (At (xs.length+1) 0) (by omega) (by simp) (EN _) (by rw[ED];simp[Ab]) (by rw[DA];exact BP s) (fun t _=>DA _ _);refine⟨os,h2,h3,h4,?_⟩;have e:I O ((xs.length:Int)+1)=((xs.length+1:Nat):Int):=by rw[Bl (by omega) (by omega)];omega
 have h:=Asu xs os (s:Nat) (xs.length:Nat) (xs.length:Nat) (xs.length+1) (by rw[e];omega) (by rw[e,R,EY];exact h1);rw[h2];exact h
section
variable {k:Nat} {us vs:LI} {kq:Nat} {qs:LI} {s:Int} {j m:Nat}
theorem nL(hl:us.length=k)(hk:k<=1048577)(hj:j+m+2<k)(h:Dig m (Ab vs) (Ab (us.drop j)) (vs.getD (m+1) 0) (vs.getD m 0) (us.getD (j+m+2) 0) (us.getD (j+m+1) 0) (us.getD (j+m) 0)):∀ (f:Nat) (g r:Int),g.toNat<=f ->
  DigI (Ab vs) (Ab (us.drop j)) (vs.getD (m+1) 0) (us.getD (j+m+2) 0*4294967296+us.getD (j+m+1) 0) g r->r<4294967296 ->
  ∃ g' r',Ar (.loop HV) (Eu k us vs ((m+2:Nat):Int) (vs.getD (m+1) 0) (vs.getD m 0) kq qs s (j:Nat) g r) (.exit 2) (Eu k us vs ((m+2:Nat):Int) (vs.getD (m+1) 0) (vs.getD m 0) kq qs s (j:Nat) g' r') /\
   (0<=g'/\g'<4294967296)/\Ab (us.drop j)<(g'+1)*Ab vs/\g'*Ab vs<Ab (us.drop j)+Ab vs:=by
 have ht:=h.htop;have hnx:=h.hnxt;have hz:=h.hz;have e1:I O (I O ((j:Int)+((m+2:Nat):Int))-2)=((j+m:Nat):Int):=by
  rw[Bl (n:=(j:Int)+((m+2:Nat):Int)) (by omega) (by omega),Bl (by omega) (by omega)];omega
 intro f;induction f with
 | zero =>
  intro g r hf i hr;have hg:g=0:=by have:=i.g0;omega
  subst hg;have c2:¬ (r*4294967296+us.getD (j+m) 0<0*vs.getD m 0):=by have:=i.r0;omega
  have k5:=YG k us vs ((m+2:Nat):Int) (vs.getD (m+1) 0) (vs.getD m 0) kq qs s (j:Nat) 0 r (by simp) (by
   rw[e1,R,Nh ⟨i.r0,hr⟩ hz,CC (n:=0*vs.getD m 0) (by omega),decide_eq_false_iff_not];omega) (by rw[e1];omega) hl
  exact⟨0,r,Ao k5 (by nofun),by omega,i.up,h.out i (by omega) (PR (by omega))⟩
 | succ f ih =>
  intro g r hf i hr;have hg1:=i.gle;have hg0:=i.g0;have hr0:=i.r0;have hgn:0<=g*vs.getD m 0/\g*vs.getD m 0<18446744073709551616:=by
   have a:=A6 hg0 hnx.1;have b:=Eb hg1 (show vs.getD m 0<=4294967295 by omega) hnx.1 (by omega);omega
  have er:I B (r+vs.getD (m+1) 0)=r+vs.getD (m+1) 0:=CC (by omega);have ecmp:(A9i (I B (g*vs.getD m 0)>I B ((U (An .u64) (I B (r*2^(min (A 32) (An .u64)))) ||| U (An .u64) (I B (us.getD (A (I O (I O ((j:Int)+((m+2:Nat):Int))-2))) 0))).toNat)):Bool)=decide (r*4294967296+us.getD (j+m) 0<g*vs.getD m 0):=by
   rw[e1,R,Nh ⟨hr0,hr⟩ hz,CC hgn]
  by_cases hc:4294967296<=g\/r*4294967296+us.getD (j+m) 0<g*vs.getD m 0
  ·have i2:=h.step i hc;have hg2:=i2.g0;have eg:I B (g-1)=g-1:=CC (by omega);by_cases hbig:4294967296<=r+vs.getD (m+1) 0
   ·have hgs:=h.small_g i2 hbig;have hrun:Ar HV (Eu k us vs ((m+2:Nat):Int) (vs.getD (m+1) 0) (vs.getD m 0) kq qs s (j:Nat) g r) (.exit 2) (Eu k us vs ((m+2:Nat):Int) (vs.getD (m+1) 0) (vs.getD m 0) kq qs s (j:Nat) (I B (g-1)) (I B (r+vs.getD (m+1) 0))):=by
     by_cases hg:4294967296<=g
     ·exact Aai k us vs _ _ _ kq qs s _ g r (by simpa using hg) (by rw[er];simpa using hbig)
     ·exact Aak k us vs _ _ _ kq qs s _ g r (by simp;omega) (by rw[ecmp,decide_eq_true_eq];omega) (by rw[er];simpa using hbig) (by rw[e1];omega) hl
    rw[eg,er] at hrun;exact⟨g-1,_,Ao hrun (by nofun),⟨hg2,hgs⟩,i2.up,h.out i2 hgs (vL hbig)⟩
   ·have hrun:Ar HV (Eu k us vs ((m+2:Nat):Int) (vs.getD (m+1) 0) (vs.getD m 0) kq qs s (j:Nat) g r) .norm (Eu k us vs ((m+2:Nat):Int) (vs.getD (m+1) 0) (vs.getD m 0) kq qs s (j:Nat) (I B (g-1)) (I B (r+vs.getD (m+1) 0))):=by
     by_cases hg:4294967296<=g
     ·exact Aaj k us vs _ _ _ kq qs s _ g r (by simpa using hg) (by rw[er,decide_eq_false_iff_not];omega)
     ·exact Aal k us vs _ _ _ kq qs s _ g r (by simp;omega) (by rw[ecmp,decide_eq_true_eq];omega) (by rw[er,decide_eq_false_iff_not];omega) (by rw[e1];omega) hl
    rw[eg,er] at hrun;obtain⟨g',r',a1,a2⟩:=ih (g-1) (r+vs.getD (m+1) 0) (by omega) i2 (by omega);exact⟨g',r',C1.loop hrun a1,a2⟩
  ·have k5:=YG k us vs ((m+2:Nat):Int) (vs.getD (m+1) 0) (vs.getD m 0) kq qs s (j:Nat) g r (by simp;omega) (by rw[ecmp,decide_eq_false_iff_not];omega) (by rw[e1];omega) hl;exact⟨g,r,Ao k5 (by nofun),by omega,i.up,h.out i (by omega) (PR (by omega))⟩
end
section
variable {k:Nat} {vs:LI} {t t2:Int} {kq:Nat} {qs:LI} {s:Int} {j:Nat} {g:Int}
theorem nM(hv:AP vs)(hk:k<=1048577)(hg:0<=g/\g<4294967296)(hj:j+vs.length<=k):∀ (r i:Nat) (us:LI) (b c:Int),r+i=vs.length->us.length=k->AP us->0<=b/\b<=1->0<=c/\c<4294967296 ->
  Ar (.loop Pg) (Jq k us vs (vs.length:Nat) t t2 kq qs s (j:Nat) g b c (i:Nat)) (.exit 4) (Jq k (FK g vs j r i us b c).1 vs (vs.length:Nat) t t2 kq qs s (j:Nat) g (FK g vs j r i us b c).2.1 (FK g vs j r i us b c).2.2 (vs.length:Nat)):=by
 intro r;induction r with
 | zero =>
  intro i us b c hi _ _ _ _;have:i=vs.length:=by omega
  subst this;exact Ao (Aan k us vs _ t t2 kq qs s _ g b c _ (by simp)) (by nofun)
 | succ r ih =>
  intro i us b c hi hl hu hb hc;have ei:I O ((i:Int)+1)=((i+1:Nat):Int):=by rw[Bl (by omega) (by omega)];omega
  have eij:I O ((i:Int)+(j:Int))=((i+j:Nat):Int):=by rw[Bl (by omega) (by omega)];omega
  have hvi:=AG hv i;have hui:=AG hu (i+j);have hw:=Wu hg hvi hc;have hgv:=A6 hg.1 hvi.1;have h1:=Aam k us vs (vs.length:Nat) t t2 kq qs s (j:Nat) g b c (i:Nat) (by simp;omega) (by omega) (by rw[eij];omega) hl;rw[eij,ei,R,R,CC (n:=vs.getD i 0) (by omega),CC (n:=us.getD (i+j) 0) (by omega),CC (n:=g*vs.getD i 0) (by omega),CC hw,YE,Asj,DW (g*vs.getD i 0+c)] at h1;generalize hp:g*vs.getD i 0+c=p at *
  rw[CC (n:=p % 4294967296) (by omega),BF,BF] at h1;have hstep:FK g vs j (r+1) i us b c=FK g vs j r (i+1) (us.set (i+j) ((us.getD (i+j) 0-p % 4294967296-b) % 4294967296)) (if us.getD (i+j) 0-p % 4294967296-b<0 then 1 else 0) (p / 4294967296):=by rw[FK,hp]
  generalize hd:us.getD (i+j) 0-p % 4294967296-b=d at *
  have e1:I Ad (((us.getD (i+j) 0-p % 4294967296) % 18446744073709551616-b) % 18446744073709551616)=d % 4294967296:=by rw[DW];omega
  have e2:((us.getD (i+j) 0-p % 4294967296) % 18446744073709551616-b) % 18446744073709551616 / 9223372036854775808=(if d<0 then 1 else 0):=by split <;> omega
  rw[e1,e2] at h1;rw[hstep];exact C1.loop h1 (ih (i+1) _ _ _ (by omega) (by simpa using hl) (C2 hu (by omega)) (by split <;> omega) (by omega))
theorem nN(hv:AP vs)(hk:k<=1048577)(hj:j+vs.length<=k):∀ (r i:Nat) (us:LI) (c:Int),r+i=vs.length->us.length=k->AP us->0<=c/\c<=1 ->
  Ar (.loop Rs) (L2 k us vs (vs.length:Nat) t t2 kq qs s (j:Nat) g c (i:Nat)) (.exit 6) (L2 k (Il vs j r i us c).1 vs (vs.length:Nat) t t2 kq qs s (j:Nat) g (Il vs j r i us c).2 (vs.length:Nat)):=by
 intro r;induction r with
 | zero =>
  intro i us c hi _ _ _;have:i=vs.length:=by omega
  subst this;exact Ao (Aap k us vs _ t t2 kq qs s _ g c _ (by simp)) (by nofun)
 | succ r ih =>
  intro i us c hi hl hu hc;have ei:I O ((i:Int)+1)=((i+1:Nat):Int):=by rw[Bl (by omega) (by omega)];omega
  have eij:I O ((i:Int)+(j:Int))=((i+j:Nat):Int):=by rw[Bl (by omega) (by omega)];omega
  have hvi:=AG hv i;have hui:=AG hu (i+j);have h1:=Aao k us vs (vs.length:Nat) t t2 kq qs s (j:Nat) g c (i:Nat) (by simp;omega) (by rw[eij];omega) hl (by omega);rw[eij,ei,R,R,CC (n:=vs.getD i 0) (by omega),CC (n:=us.getD (i+j) 0) (by omega),CC (n:=us.getD (i+j) 0+vs.getD i 0) (by omega),CC (n:=us.getD (i+j) 0+vs.getD i 0+c) (by omega),YE,DW] at h1;exact C1.loop h1 (ih (i+1) _ _ (by omega) (by simpa using hl) (C2 hu (by omega)) (by omega))
end
theorem Asy{X c b:Int}(hX:0<=X/\X<4294967296)(hc:0<=c/\c<4294967296)(hb:0<=b/\b<=1) :
  A9q (I B (I B (I B X-c)-b)) (2^(min (A 63) (An .u64)))=(if X-c-b<0 then 1 else 0)/\I Ad (I B (I B (I B X-c)-b))=(X-c-b) % 4294967296:=by
 rw[Asj,CC (n:=X) (by omega),BF,BF,DW];refine⟨?_,by omega⟩;split <;> omega
section
variable {vs:LI} {m:Nat} {k kq:Nat} {s:Int}
theorem Aav(hv:AP vs)(hm:vs.length=m+2)(ht:2147483648<=vs.getD (m+1) 0)(hk:k=kq+vs.length)(hkb:k<=1048577):∀ (i:Nat) (us qs:LI),i<=kq->us.length=k->AP us->qs.length=kq->AP qs->(∀ t,t<i->qs.getD t 0=0)->Ab (us.drop i)<Ab vs ->
  ∃ us' qs',Ar (.loop MU) (HD k us vs (vs.length:Nat) (vs.getD (m+1) 0) (vs.getD m 0) kq qs s ((i:Int)-1)) (.exit 0) (HD k us' vs (vs.length:Nat) (vs.getD (m+1) 0) (vs.getD m 0) kq qs' s (-1)) /\
   us'.length=k/\AP us'/\qs'.length=kq/\AP qs'/\Ab us'<Ab vs/\Ab us=Ab vs*(Ab qs'-Ab qs)+Ab us':=by
 intro i;induction i with
 | zero =>
  intro us qs _ h1 h2 h3 h4 _ h6;exact⟨us,qs,Ao (Asx k us vs _ _ _ kq qs s _ (by simp)) (by nofun),h1,h2,h3,h4,h6,by rw[P9,AI,DL]⟩
 | succ i ih =>
  intro us qs hi h1 h2 h3 h4 h5 h6;have ei:(((i+1:Nat):Int)-1)=(i:Nat):=by omega
  have ej:I O ((i:Int)-1)=(i:Int)-1:=Bl (by omega) (by omega);have en:I O ((i:Int)+(vs.length:Int))=((i+vs.length:Nat):Int):=by rw[Bl (by omega) (by omega)];omega
  have en1:I O (((i+vs.length:Nat):Int)-1)=((i+m+1:Nat):Int):=by rw[Bl (by omega) (by omega)];omega
  have hD:=uK (us:=us) (vs:=vs) (j:=i) (m:=m) h2 hv hm (by omega) ht h6;have hI:=hD.init;have hr1:=Ew (us.getD (i+m+2) 0*4294967296+us.getD (i+m+1) 0) (show 0<vs.getD (m+1) 0 by omega);have ht2:=hD.htop;obtain⟨g,r,q1,q2,q3,q4⟩:=nL (k:=k) (kq:=kq) (qs:=qs) (s:=s) h1 hkb (by omega) hD _ _ _ (Ap _) hI (by omega);rw[<- hm] at q1;have hn0:0<=us.getD (i+m+2) 0*4294967296+us.getD (i+m+1) 0:=by have:=hD.hx;have:=hD.hy;omega
  have hq0:=hI.g0;have hq1:=hI.gle;have hl5:Ar (.loop HV) (Eu k us vs (vs.length:Nat) (vs.getD (m+1) 0) (vs.getD m 0) kq qs s (i:Nat) (I B (Av (I B ((U (An .u64) (I B ((I B (us.getD (A (I O ((i:Int)+(vs.length:Int)))) 0))*2^(min (A 32) (An .u64)))) ||| U (An .u64) (I B (us.getD (A (I O ((I O ((i:Int)+(vs.length:Int)))-1))) 0))).toNat)) (vs.getD (m+1) 0))) (AC (I B ((U (An .u64) (I B ((I B (us.getD (A (I O ((i:Int)+(vs.length:Int)))) 0))*2^(min (A 32) (An .u64)))) ||| U (An .u64) (I B (us.getD (A (I O ((I O ((i:Int)+(vs.length:Int)))-1))) 0))).toNat)) (vs.getD (m+1) 0))) (.exit 2) (Eu k us vs (vs.length:Nat) (vs.getD (m+1) 0) (vs.getD m 0) kq qs s (i:Nat) g r):=by
   rw[en,en1,R,R,show i+vs.length=i+m+2 by omega,CC (n:=us.getD (i+m+2) 0) (by have:=hD.hx;omega),Nh hD.hx hD.hy,BH hn0,Bu hn0,CC ⟨hq0,by omega⟩];exact q1
  have hms:=nM (k:=k) (t:=vs.getD (m+1) 0) (t2:=vs.getD m 0) (kq:=kq) (qs:=qs) (s:=s) (j:=i) (g:=g) hv hkb q2 (by omega) vs.length 0 us 0 0 (by omega) h1 h2 (by omega) (by omega);have hmo:=Wv (j:=i) q2 hv vs.length 0 us 0 0 (by omega) (by omega) h2 (by omega) (by omega);have hst:=TI h2 hv (j:=i) (by omega) h6 q2 q3 q4;generalize hM:FK g vs i vs.length 0 us 0 0=M at *
  obtain⟨m1,m2,m3,m4,_,_⟩:=hmo;obtain⟨d1,d2⟩:=Asy (AG m2 (i+vs.length)) m4 m3;dsimp only at hst;obtain⟨S1,S2⟩:=hst;have fin:∀ (ws:LI) (q:Int),StepOk us vs ws i q->(0<=q/\q<4294967296)->Ar MU (HD k us vs (vs.length:Nat) (vs.getD (m+1) 0) (vs.getD m 0) kq qs s (i:Nat)) .norm (HD k ws vs (vs.length:Nat) (vs.getD (m+1) 0) (vs.getD m 0) kq (qs.set i q) s ((i:Int)-1)) ->
    ∃ us' qs',Ar (.loop MU) (HD k us vs (vs.length:Nat) (vs.getD (m+1) 0) (vs.getD m 0) kq qs s (i:Nat)) (.exit 0) (HD k us' vs (vs.length:Nat) (vs.getD (m+1) 0) (vs.getD m 0) kq qs' s (-1)) /\
   us'.length=k/\AP us'/\qs'.length=kq/\AP qs'/\Ab us'<Ab vs/\Ab us=Ab vs*(Ab qs'-Ab qs)+Ab us':=by
   intro ws q hs hq hrun;obtain⟨us',qs',a1,a2,a3,a4,a5,a6,a7⟩:=ih ws (qs.set i q) (by omega) (by rw[hs.len];exact h1) hs.u32 (by simpa using h3) (C2 h4 hq) (fun t ht=>by rw[Cy (by omega)];exact h5 t (by omega)) hs.low;refine⟨us',qs',C1.loop hrun a1,a2,a3,a4,a5,a6,?_⟩;have e:=hs.val;rw[DP _ _ _ (by omega),h5 i (by omega),EU] at a7;generalize (4294967296:Int)^i=P at *
   grind
  rw[ei];by_cases hd:M.1.getD (i+vs.length) 0-M.2.2-M.2.1<0
  ·obtain⟨S2,hg1⟩:=S2 hd;have hu2:AP (M.1.set (i+vs.length) ((M.1.getD (i+vs.length) 0-M.2.2-M.2.1) % 4294967296)):=C2 m2 (by omega);have hab:=nN (k:=k) (t:=vs.getD (m+1) 0) (t2:=vs.getD m 0) (kq:=kq) (qs:=qs) (s:=s) (j:=i) (g:=g-1) hv hkb (by omega) vs.length 0 (M.1.set (i+vs.length) ((M.1.getD (i+vs.length) 0-M.2.2-M.2.1) % 4294967296)) 0 (by omega) (by rw[A_,m1];exact h1) hu2 (by omega);have hao:=Ww (j:=i) hv vs.length 0 (M.1.set (i+vs.length) ((M.1.getD (i+vs.length) 0-M.2.2-M.2.1) % 4294967296)) 0 (by omega) (by rw[A_,m1];omega) hu2 (by omega);obtain⟨b1,b2,b3,_,_⟩:=hao;generalize hB:Il vs i vs.length 0 (M.1.set (i+vs.length) ((M.1.getD (i+vs.length) 0-M.2.2-M.2.1) % 4294967296)) 0=Bb at *
   have eg:I B (g-1)=g-1:=CC (by omega);have k1:=Asv k us vs (vs.length:Nat) (vs.getD (m+1) 0) (vs.getD m 0) kq qs s (i:Nat) M.1 Bb.1 g r M.2.1 M.2.2 Bb.2 (by simp) (by rw[en,R,d1,if_pos hd];rfl) (by rw[en];omega) h1 (by rw[en,en1];omega) (by omega) hl5 hms (by rw[m1];exact h1) (by rw[en,R,d2,eg];exact hab) (by rw[b1,A_,m1];exact h1) (by omega) h3;rw[en,R,eg,R,R1 (n:=g-1) (by omega),ej,R1 (n:=Bb.2) (by omega),DW] at k1;exact fin _ _ S2 (by omega) k1
  ·have k2:=Asw k us vs (vs.length:Nat) (vs.getD (m+1) 0) (vs.getD m 0) kq qs s (i:Nat) M.1 g r M.2.1 M.2.2 (by simp) (by rw[en,R,d1,if_neg hd];rfl) (by rw[en];omega) h1 (by rw[en,en1];omega) (by omega) hl5 hms (by rw[m1];exact h1) (by omega) h3;rw[en,R,R,d2,R1 (n:=g) q2,ej] at k2;exact fin _ _ (S1 (by omega)) q2 k2
end
def TQB:Cw:=TQA
theorem Dx:Ch AZ TQB:=nJ
theorem Asz(b1 b2 na nb:Bool)(xs ys as1 bs qs rs:LI)(v w:Int)(n1:RQ 143 [o [F b1,Y W xs]] (Ax [F na,Y W as1]))(n2:RQ 143 [o [F b2,Y W ys]] (Ax [F nb,Y W bs]))(n3:RQ 180 [Y W as1,Y W bs] (Ax [Y W qs,Y W rs]))(n4:RQ 152 [F (!(na==nb)),Y W qs] (Ag v))(n5:RQ 152 [F na,Y W rs] (Ag w)):RQ 158 [o [F b1,Y W xs],o [F b2,Y W ys]] (Ax [Ag v,Ag w]):=A9x (fn:=VM) Dx rfl 400 rfl [.r (Ax [F na,Y W as1]),.r (Ax [F nb,Y W bs]),.r (Ax [Y W qs,Y W rs]),.r (Ag v),.r (Ag w)] (T n1 (T n2 (T n3 (T n4 (T n5 a0)))))
def O2(xs:LI)(v:Int)(n:Int)(i:Int):Al:=(Ac 3 (A9j (D B v)::(Ac 3 (A9j (Y W xs)::(A9j (D O n)::(A9j (D O i)::(Ac 14 [])))))))
theorem Ata(xs:LI)(v:Int)(n:Int)(i:Int)(c1:A9i (i<n)=true)(n1:0<=i/\i<(xs.length:Int))(n2:¬ (I B (I O (32*i)))<0):Ar VW (O2 xs v n i) .norm (O2 xs (I B ((U (An .u64) v ||| U (An .u64) (I B ((I B (xs.getD (A i) 0))*2^(min (A (I B (I O (32*i)))) (An .u64))))).toNat)) n (I O (i+1))):=(G Dx 400 [.b true,.v (D Ad (xs.getD (A i) 0))] [3,7,8,9] (T c1 (T n1 (T (AAe n1) (T n2 a0)))))
theorem Atb(xs:LI)(v:Int)(n:Int)(i:Int)(c1:A9i (i<n)=false):Ar VW (O2 xs v n i) (.exit 0) (O2 xs v n i):=(G Dx 400 [.b false] [3,7,8,9] (T c1 a0))
theorem Atc(n:Bool)(xs:LI)(v i m:Int)(hl1:Ar (.loop VW) (O2 xs 0 (xs.length:Int) 0) (.exit 0) (O2 xs v m i)):RQ 183 [o [F n,Y W xs]] (D B v):=A9g VX (Ac 2 (A9j (D B v)::(Ac 21 []))) (A9m (A9t (C1.seq (G Dx 400 [] [3,7,8,9] a0) (C1.seq (C1.block hl1) (G Dx 400 [] [2] a0)))))
theorem Atd(n v:Int)(n1:RQ 152 [F false,H 2 [D Ad (I Ad n),D Ad (I Ad (A9q n (2^(min (A 32) (An .u64)))))]] (Ag v)):RQ 181 [D B n] (Ag v):=A9x (fn:=VT) Dx rfl 400 rfl [.r (Ag v)] (T It (T n1 a0))
def O3(a:Int)(b:Int):Al:=(A9j (D B a)::(A9j (D B b)::(Ac 10 [])))
theorem Ate(a:Int)(b:Int)(c1:A9i (b>0)=true)(n1:¬ b=0):Ar VU (O3 a b) .norm (O3 b (AC a b)):=(G Dx 400 [.b true] [0,1] (T c1 (T n1 a0)))
theorem fK(a:Int)(b:Int)(c1:A9i (b>0)=false):Ar VU (O3 a b) (.exit 0) (O3 a b):=(G Dx 400 [.b false] [0,1] (T c1 a0))
theorem Atf(a b a1 b1:Int)(hl1:Ar (.loop VU) (O3 a b) (.exit 0) (O3 a1 b1)):RQ 182 [D B a,D B b] (D B a1):=A9g VV (Ac 4 (A9j (D B a1)::(Ac 7 []))) (C1.seq (G Dx 400 [] [0,1] a0) (C1.seq (C1.block hl1) (G Dx 400 [] [4] a0)))
def GG(x:Rn)(y:Rn)(z:Rn):Al:=(Ac 4 (A9s [F z.1,H z.2.length (W z.2)]::(A9s [F x.1,H x.2.length (W x.2)]::(A9s [F y.1,H y.2.length (W y.2)]::(Ac 35 [])))))
theorem Atg(x:Rn)(y:Rn)(z:Rn)(ua ub ug g:Int)(c1:A9i ((y.2.length:Int)>0)=true)(c2:A9i ((x.2.length:Int)<=2)=true)(c3:A9i ((y.2.length:Int)<=2)=true)(n1:RQ 183 [Ay x] (D B ua))(n2:RQ 183 [Ay y] (D B ub))(n3:RQ 182 [D B ua,D B ub] (D B ug))(n4:RQ 181 [D B ug] (Ag g)):Ar LU (GG x y z) .ret (GG x y (V g)):=(G Dx 400 [.b true,.b true,.b true,.r (D B ua),.r (D B ub),.r (D B ug),.r (Ag g)] [4,5,6] (T c1 (T c2 (T c3 (T n1 (T n2 (T n3 (T n4 a0))))))))
theorem Ath(x:Rn)(y:Rn)(z:Rn)(q r:Int)(c1:A9i ((y.2.length:Int)>0)=true)(c2:A9i ((x.2.length:Int)<=2)=true)(c3:A9i ((y.2.length:Int)<=2)=false)(n1:RQ 158 [Ay x,Ay y] (Ax [Ag q,Ag r])):Ar LU (GG x y z) .norm (GG y (V r) z):=(G Dx 400 [.b true,.b true,.b false,.r (Ax [Ag q,Ag r])] [4,5,6] (T c1 (T c2 (T c3 (T n1 a0)))))
theorem Ati(x:Rn)(y:Rn)(z:Rn)(q r:Int)(c1:A9i ((y.2.length:Int)>0)=true)(c2:A9i ((x.2.length:Int)<=2)=false)(n1:RQ 158 [Ay x,Ay y] (Ax [Ag q,Ag r])):Ar LU (GG x y z) .norm (GG y (V r) z):=(G Dx 400 [.b true,.b false,.b false,.r (Ax [Ag q,Ag r])] [4,5,6] (T c1 (T c2 (T ES (T n1 a0)))))
theorem fL(x:Rn)(y:Rn)(z:Rn)(c1:A9i ((y.2.length:Int)>0)=false):Ar LU (GG x y z) (.exit 0) (GG x y z):=(G Dx 400 [.b false] [4,5,6] (T c1 a0))
theorem nO(b1 b2:Bool)(xs ys:LI)(v w:Int)(x y z:Rn)(n1:RQ 160 [o [F b1,Y W xs]] (Ag v))(n2:RQ 160 [o [F b2,Y W ys]] (Ag w))(hl3:Ar (.loop LU) (GG (V v) (V w) (false,[])) (.exit 0) (GG x y z)):RQ 159 [o [F b1,Y W xs],o [F b2,Y W ys]] (Ay x):=A9g S9 (Ac 4 (A9s [F x.1,H x.2.length (W x.2)]::(Ac 37 []))) (A9m (C1.seq (G Dx 400 [.r (Ag v),.r (Ag w)] [4,5,6] (T n1 (T n2 a0))) (C1.seq (C1.block hl3) (G Dx 400 [] [4] a0))))
theorem nP(b1 b2:Bool)(xs ys:LI)(v w:Int)(x y z:Rn)(n1:RQ 160 [o [F b1,Y W xs]] (Ag v))(n2:RQ 160 [o [F b2,Y W ys]] (Ag w))(hl3:Ar (.loop LU) (GG (V v) (V w) (false,[])) .ret (GG x y z)):RQ 159 [o [F b1,Y W xs],o [F b2,Y W ys]] (Ay z):=A9g S9 (Ac 4 (A9s [F z.1,H z.2.length (W z.2)]::(A9s [F x.1,H x.2.length (W x.2)]::(A9s [F y.1,H y.2.length (W y.2)]::(Ac 35 []))))) (A9m (C1.seq (G Dx 400 [.r (Ag v),.r (Ag w)] [4,5,6] (T n1 (T n2 a0))) (A8 (Ct hl3) (by nofun))))
def TQC:Cw:=TQB
theorem nQ:Ch AZ TQC:=Dx
def IY(g:Nat->Int)(i r:Nat):LI:=(Aq i).map g++At r 0
theorem XF(g:Nat->Int)(i r:Nat):(IY g i r).length=i+r:=by simp [IY]
theorem nR(g:Nat->Int)(i r:Nat):(IY g i (r+1)).set i (g i)=IY g (i+1) r:=by
 simp only[IY,H3,Ep,C8,FU];rw[A7u _ _ (by simp)];simp[Gg]
def Dq(us:LI)(s:Nat)(i:Nat):Int:=us.getD (i+1) 0 % 2^s*2^(32-s)+us.getD i 0 / 2^s
theorem R6{us:LI}(hu:AP us){s:Nat}(hs:s<32)(i:Nat):(0<=us.getD i 0 / 2^s/\us.getD i 0 / 2^s<2^(32-s))/\0<=us.getD (i+1) 0 % 2^s/\us.getD (i+1) 0 % 2^s*2^(32-s)<4294967296/\(0<=Dq us s i/\Dq us s i<4294967296):=by
 have h0:=AG hu i;have h1:=AG hu (i+1);have hp:=BP s;have hp2:=BP (32-s);have e:=R2 (show s<=32 by omega);have a1:=FF (us.getD (i+1) 0) (show (2:Int)^s ≠ 0 by omega);have a2:=Ew (us.getD (i+1) 0) hp;have b0:0<=us.getD i 0 / 2^s:=JI h0.1 (by omega);have b1:us.getD i 0 / 2^s<2^(32-s):=KJ hp (by rw[<- e];exact h0.2);unfold Dq;generalize us.getD (i+1) 0 % 2^s=x at *
 generalize us.getD i 0 / 2^s=y at *
 have c1:=Ae (show x+1<=2^s by omega) (show (0:Int)<=2^(32-s) by omega);rw[G4,Dt,AA (2^s),<- e] at c1;have c2:=A6 a1 (show (0:Int)<=2^(32-s) by omega);omega
theorem fM{us:LI}(s:Nat)(hs:s<32):∀ n,n<=us.length->2^s*Ab ((Aq n).map (Dq us s))=Ab (us.take n)-us.getD 0 0 % 2^s+4294967296^n*(us.getD n 0 % 2^s):=by
 intro n;induction n with
 | zero =>
  intro _;simp only[List.range_zero,FU,Un,Ab,Da,AI,Dt];generalize us.getD 0 0 % 2^s=w;omega
 | succ n ih =>
  intro hn;have e:=R2 (show s<=32 by omega);rw[H3,Ep,C8,FU,Gt,N,BI,CT,ih (by omega),DX us n (by omega),A2];have e2:Ab [Dq us s n]=Dq us s n:=by simp[Ab]
  rw[e2];unfold Dq;have e3:=G2 (us.getD n 0) (2^s);generalize us.getD (n+1) 0 % 2^s=x at *
  generalize us.getD n 0 / 2^s=y at *
  generalize us.getD n 0 % 2^s=z at *
  generalize us.getD 0 0 % 2^s=w at *
  generalize us.getD n 0=u at *
  generalize Ab (us.take n)=V at *
  generalize (4294967296:Int)^n=P at *
  rw[e];generalize (2:Int)^(32-s)=T at *
  generalize (2:Int)^s=S at *
  rw[<- e3];grind
theorem nS{us:LI}{k n kq:Nat}{qs:LI}{s:Nat}(hu:AP us)(hl:us.length=k)(hn:n<k)(hk:k<=1048577)(hs:s<32) :
  Ar (.loop MT) (I6 k us (n:Nat) kq qs n (At n 0) (s:Nat) 0) (.exit 8) (I6 k us (n:Nat) kq qs n ((Aq n).map (Dq us s)) (s:Nat) (n:Nat)):=by
 have h:=C1.up (prog:=AZ) (c:=MT) (ex := .exit 8) (fin:=I6 k us (n:Nat) kq qs n ((Aq n).map (Dq us s)) (s:Nat) (n:Nat))
  (fun i=>I6 k us (n:Nat) kq qs n (IY (Dq us s) i (n-i)) (s:Nat) (i:Nat)) n (by nofun) ?_ ?_ 0 (By _)
 ·simpa [IY] using h
 ·intro i hi;obtain⟨r,hr⟩:∃ r,n-i=r+1:=⟨n-i-1,by omega⟩;have e2:n-(i+1)=r:=by omega
  have ei:I O ((i:Int)+1)=((i+1:Nat):Int):=by rw[Bl (by omega) (by omega)];omega
  have hlen:(IY (Dq us s) i (r+1)).length=n:=by rw[XF];omega
  obtain⟨b1,b2,b3,b4⟩:=R6 hu hs i;have es:I B (s:Int)=(s:Nat):=CC (by omega);have em:min (A (s:Int)) (An .u32)=s:=by rw[R];show min s 32=s;omega
  have hp:=BP s;rw[hr,e2,<- nR];have hget:∀ v:Int,((IY (Dq us s) i (r+1)).set i v).getD i 0=v:=fun v=>by simp[Z,show i<(IY (Dq us s) i (r+1)).length by omega]
  have efd:A9q (us.getD i 0) (2^s)=us.getD i 0 / 2^s:=AAg _ (by omega);by_cases h0:s=0
  ·subst h0;have k2:=Aar k us (n:Nat) kq qs n (IY (Dq us 0) i (r+1)) ((0:Nat):Int) (i:Nat) (by simp;omega) (by simp) (by omega) hl (by rw[es];omega) (by omega) hlen;rw[ei,R,es,em,efd] at k2;have e5:Dq us 0 i=us.getD i 0 / 2^0:=by simp[Dq,Int.emod_one]
   rw[e5];exact k2
  ·have e32:I B (I O (32-(s:Int)))=((32-s:Nat):Int):=by rw[Bl (by omega) (by omega),CC (by omega)];omega
   have em2:min (A ((32-s:Nat):Int)) (An .u32)=32-s:=by rw[R];show min (32-s) 32=32-s;omega
   have k1:=Aaq k us (n:Nat) kq qs n (IY (Dq us s) i (r+1)) (s:Int) (i:Nat) (by simp;omega) (by simp;omega) (by omega) hl (by rw[es];omega) (by omega) hlen (by simpa using hlen) (by rw[ei];omega) (by rw[e32];omega);rw[ei,R,R,es,em,e32,em2,efd,hget,Sb,DW (us.getD (i+1) 0*2^(32-s))] at k1;have e6:us.getD (i+1) 0*2^(32-s) % 4294967296=us.getD (i+1) 0 % 2^s*2^(32-s):=by
    rw[R2 (show s<=32 by omega),AA (us.getD (i+1) 0),A7w _ _ (BP (32-s)),AA]
   rw[e6,Asl b2 b3 (by omega) b1] at k1;exact k1
 ·have k3:=Aas k us (n:Nat) kq qs n ((Aq n).map (Dq us s)) (s:Nat) (n:Nat) (by simp);simpa [IY] using k3
theorem QF{g:Nat->Int}{n:Nat}(h:∀ i,0<=g i/\g i<4294967296):AP ((Aq n).map g):=fun x hx=>by
 obtain⟨i,_,rfl⟩:=Ec.1 hx;exact h i
theorem XG{xs ys:LI}(hx:Ft xs)(hy:Ft ys)(hy0:ys ≠ [])(h1:xs.length<1048576)(h2:ys.length<1048576):∃ qs rs,AP qs/\AP rs/\(qs:LI).length<=1048576/\(rs:LI).length<=1048576/\Ab qs=Ab xs / Ab ys/\Ab rs=Ab xs % Ab ys /\
  RQ 180 [Y W xs,Y W ys] (Ax [Y W qs,Y W rs]):=by
 have hyl:=Am.2 hy0;have hcmp:=Jo hx hy (by omega);have hx0:=AW hx.1;have hyp:=IT hy hy0;by_cases hlt:Ab xs<Ab ys
 ·refine⟨[],xs,fun x h=>(nomatch h),hx.1,by simp,by omega,?_,?_,?_⟩
  ·rw[GQ hx0 hlt];rfl
  ·rw[Gf hx0 hlt]
  ·exact nF xs ys _ (by unfold CR;rw[if_pos hlt];rfl) (U4 xs) (by omega) hcmp
 have hcm:decide (CR (Ab xs) (Ab ys)<0)=false:=by unfold CR;rw[if_neg hlt];split <;> rfl
 by_cases hone:ys.length=1
 ·obtain⟨y,rfl⟩:=A5b.1 hone;have e1:Ab [y]=y:=by simp[Ab]
  rw[e1] at hyp;have hyb:=hy.1 y (by simp);obtain⟨qs,r,q1,q2,q3,q4,q5⟩:=XE hx.1 (d:=y) ⟨hyp,hyb.2⟩ (by omega);have e2:Ab [r]=r:=by simp[Ab]
  have hd:=(LM hyp (a:=Ab xs) (r:=r) (q:=Ab qs)).2 ⟨by omega,q3.1,q3.2⟩;refine⟨qs,[r],q2,fun x h=>by rw[IF.1 h];omega,by omega,by simp,by rw[e1];exact hd.1.symm,by rw[e1,e2];exact hd.2.symm,?_⟩;exact nH xs [y] qs _ r hcm (by rfl) hcmp (by simp) q5
 ·obtain⟨m,hm⟩:∃ m,ys.length=m+2:=⟨ys.length-2,by omega⟩;have hxl:ys.length<=xs.length:=by
   rcases Cn xs.length ys.length with g | g
   ·exact absurd (IW hx hy g) hlt
   ·exact g
  have hyt:0<ys.getD (m+1) 0/\ys.getD (m+1) 0<4294967296:=by
   have a:=AG hy.1 (m+1);rcases hy.2 with g | g
   ·exact absurd g hy0
   ·rw[show ys.length-1=m+1 by omega] at g;omega
  obtain⟨s,hs,s1,s2,hlz⟩:=uL hyt;obtain⟨us,u1,u2,u3,hus⟩:=R5 hx.1 hs h1;obtain⟨ws,w1,w2,w3,hws⟩:=R5 hy.1 hs h2;have hp:=BP s;have ysplit:=Dw ys (j:=m+1) (by omega);have yd:=CA ys (m+1);rw[DQ (xs:=ys) (i:=m+1+1) (by omega),AI,BE] at yd;rw[yd] at ysplit;have ylo:=Gb hy.1 (m+1);have ylo0:=AW (DS hy.1 (m+1));have hP:=C3 (m+1);have hV1:2147483648*4294967296^(m+1)<=Ab ws:=by
   rw[w3,ysplit];have a:=Ae s1 (show (0:Int)<=4294967296^(m+1) by omega);have b:=A6 (show (0:Int)<=2^s by omega) ylo0;have e:2^s*(Ab (BD (m+1) ys)+4294967296^(m+1)*ys.getD (m+1) 0)=2^s*Ab (BD (m+1) ys)+ys.getD (m+1) 0*2^s*4294967296^(m+1):=by grind
   omega
  have hV2:Ab ws<4294967296^(m+2):=by
   have e9:(4294967296:Int)^(m+2)=4294967296^(m+1)*4294967296:=A2 _ _;rw[w3,ysplit];have e0:=R2 (show s<=32 by omega);have a1:ys.getD (m+1) 0+1<=2^(32-s):=by
    rw[e0] at s2;have:=Do s2 (by omega);omega
   have a2:=Ae a1 (show (0:Int)<=2^s*4294967296^(m+1) by have:=Be hp hP;omega);have a3:=H6 ylo hp;have e1:(ys.getD (m+1) 0+1)*(2^s*4294967296^(m+1))=2^s*(4294967296^(m+1)*ys.getD (m+1) 0)+2^s*4294967296^(m+1):=by grind
   have e2:(2:Int)^(32-s)*(2^s*4294967296^(m+1))=4294967296^(m+1)*4294967296:=by rw[<- AF,<- e0,AA]
   rw[CT];omega
  have hdz:=J9 w2 (n:=m+2) (V:=4294967296^(m+2)) (C' _) hV2;have hvs:Ab (ws.take (m+2))=Ab ws:=by
   have:=Dw ws (j:=m+2) (by omega);rw[hdz,AI,BE] at this;exact this.symm
  have hvl:(ws.take (m+2)).length=m+2:=by simp;omega
  have hvu:=DS w2 (m+2);generalize hvv:ws.take (m+2)=vs at *
  have hvtop:2147483648<=vs.getD (m+1) 0:=by
   have a:=Dw vs (j:=m+1) (by omega);have b:=CA vs (m+1);rw[DQ (xs:=vs) (i:=m+1+1) (by omega),AI,BE] at b;rw[b] at a;have c:=Gb hvu (m+1);apply J0.1;intro h;have:=Aj (show vs.getD (m+1) 0+1<=2147483648 by omega) (show (0:Int)<=4294967296^(m+1) by omega);rw[CT,De,AA _ 2147483648] at this;omega
  have hini:Ab (us.drop (xs.length-ys.length+1))<Ab vs:=by
   have a:=Dw us (j:=xs.length-ys.length+1) (by omega);have b:=AW (DS u2 (xs.length-ys.length+1));have c:=DJ hx.1;have d:=H6 c hp;have e:(4294967296:Int)^xs.length=4294967296^(xs.length-ys.length+1)*4294967296^(m+1):=by rw[<- BG];congr 1;omega
   have hp2:(2:Int)^s<=2147483648:=by
    have:=G6 (show s<=31 by omega);rwa [show (2:Int)^31=2147483648 by decide] at this
   have hQ:=C3 (xs.length-ys.length+1);rw[hvs];apply SK (b:=2^s*4294967296^(m+1))
   ·apply Fc (a:=4294967296^(xs.length-ys.length+1)) _ (by omega);have e2:(4294967296:Int)^(xs.length-ys.length+1)*(2^s*4294967296^(m+1))=2^s*4294967296^xs.length:=by rw[e];grind
    omega
   ·have:=Ae hp2 (show (0:Int)<=4294967296^(m+1) by omega);omega
  obtain⟨us',qs,l1,l2,l3,l4,l5,l6,l7⟩:=Aav (k:=xs.length+1) (kq:=xs.length-ys.length+1) (s:=(s:Nat)) hvu hvl hvtop (by omega) (by omega) (xs.length-ys.length+1) us (At (xs.length-ys.length+1) 0) (Ap _) u1 u2 (by simp) (EN _) (fun t _=>DA _ _) hini;have l8:=nS (us:=us') (k:=xs.length+1) (n:=m+2) (kq:=xs.length-ys.length+1) (qs:=qs) l3 l2 (by omega) (by omega) hs;rw[ED,EU,u3,hvs,w3] at l7;rw[hvs] at l6;have hR:Ab us'=2^s*(Ab xs-Ab ys*Ab qs):=by
   rw[Fr];have:2^s*Ab ys*Ab qs=2^s*(Ab ys*Ab qs):=by grind
   omega
  have us0:=AW l3;have hR0:0<=Ab xs-Ab ys*Ab qs:=by
   apply J0.1;intro h;have:=Aj (show Ab xs-Ab ys*Ab qs <= -1 by omega) (show (0:Int)<=2^s by omega);omega
  have hR1:Ab xs-Ab ys*Ab qs<Ab ys:=by
   rw[hR,w3] at l6;exact Fc l6 (by omega)
  have hrs:Ab ((Aq (m+2)).map (Dq us' s))=Ab xs-Ab ys*Ab qs:=by
   have a:=fM (us:=us') s hs (m+2) (by omega);have b:us'.getD 0 0 % 2^s=0:=by
    have c:=CA us' 0;rw[EZ,Cs,hR] at c;have e0:=R2 (show s<=32 by omega);have:us'.getD 0 0=2^s*(Ab xs-Ab ys*Ab qs-2^(32-s)*Ab (us'.drop 1)):=by rw[Fr,<- AF,AA (2^s) (2^(32-s)),<- e0];omega
    rw[this];exact Int.mul_emod_right _ _
   have dz:=J9 l3 (n:=m+2) (V:=Ab ws) (by omega) l6;have c2:us'.getD (m+2) 0=0:=by
    have c:=CA us' (m+2);rw[dz] at c;have d1:=AW (E_ l3 (m+2+1));have d2:=AG l3 (m+2);omega
   have d:=Dw us' (j:=m+2) (by omega);rw[dz,AI,BE] at d;rw[b,c2,<- d,hR,Int.zero_emod,AI,EU,BE] at a;exact G8 (by omega) a
  have hd:=(LM hyp (a:=Ab xs) (r:=Ab xs-Ab ys*Ab qs) (q:=Ab qs)).2 ⟨by omega,hR0,hR1⟩;have e1:I O ((ys.length:Int)-1)=((m+1:Nat):Int):=by rw[Bl (by omega) (by omega)];omega
  have e2:I O ((ys.length:Int)-2)=(m:Int):=by rw[Bl (by omega) (by omega)];omega
  have e3:I O ((xs.length:Int)-(ys.length:Int))=((xs.length-ys.length:Nat):Int):=by rw[Bl (by omega) (by omega)];omega
  have e4:I O (((xs.length-ys.length:Nat):Int)+1)=((xs.length-ys.length+1:Nat):Int):=by rw[Bl (by omega) (by omega)];omega
  have hlv:vs.length=ys.length:=by omega
  have hvv2:ws.take ys.length=vs:=by rw[hm];exact hvv
  have v1:=AG hvu (m+1);have v2:=AG hvu m;refine⟨qs,(Aq (m+2)).map (Dq us' s),l5,QF (fun i=>(R6 l3 hs i).2.2.2),by omega,by simp;omega,hd.1.symm,by rw[hrs];exact hd.2.symm,?_⟩;have hl11:Ar (.loop MU) (HD us.length us vs (vs.length:Nat) (vs.getD (m+1) 0) (vs.getD m 0) (xs.length-ys.length+1) (At (xs.length-ys.length+1) 0) (s:Nat) ((xs.length-ys.length:Nat):Int)) (.exit 0) (HD us.length us' vs (vs.length:Nat) (vs.getD (m+1) 0) (vs.getD m 0) (xs.length-ys.length+1) qs (s:Nat) (-1)):=by
   rw[u1];refine l1.to ?_ rfl;congr 1;omega
  have h:=nI xs ys us ws us' vs qs ((Aq (m+2)).map (Dq us' s)) _ (s:Nat) (vs.length:Nat) (vs.getD (m+1) 0) (vs.getD m 0) (-1) us.length (xs.length-ys.length+1) (m+2) hcm (by rw[hm,beq_eq_false_iff_ne];omega) hcmp (by rw[e1];omega) (by rw[e1,R];exact hlz) (by omega) (by rw[R];exact⟨by omega,by omega,Ap _,fun _=>rfl⟩) hus hws (by rw[e3,e4];omega) (by rw[e1,R];omega) (by rw[e2,R];omega)
   (by
    rw[e1,e2,e3,e4,R,R,R,R,EY,Y8,EZ,Kk,hvv2,CC (n:=vs.getD (m+1) 0) (by omega),CC (n:=vs.getD m 0) (by omega)];unfold HD at hl11 |-;unfold Y at hl11 |-;rw[hlv] at hl11 |-;exact hl11)
   (by omega) (by
    rw[hvl,R,EY,u1];exact l8)
  unfold Y;rw[show qs.length=xs.length-ys.length+1 from l4,show ((Aq (m+2)).map (Dq us' s)).length=m+2 by simp];exact h
def TQD:Cw:=TQC
theorem nT:Ch AZ TQD:=nQ
def D6(neg:Bool)(xs:LI)(sh:Int)(ms:LI)(lost:Bool)(i:Int):Al:=(Ac 1 (A9j (D O sh)::(A9s [F neg,Y W xs]::(Ac 1 (A9s [F false,H 0 []]::(A9j (Y W ms)::(A9n 1 0 []::(A9j (F lost)::(A9j (D O i)::(Ac 95 []))))))))))
theorem Aaw(neg:Bool)(xs:LI)(sh:Int)(ms:LI)(lost:Bool)(i:Int)(c1:A9i (i<(ms.length:Int))=true)(c2:A9i (i<(I O (Av sh 32)))=true)(c3:(lost)=true):Ar Gr (D6 neg xs sh ms lost i) .norm (D6 neg xs sh ms true (I O (i+1))):=(G A9w 400 [.b true,.b true,.b true] [1,2,4,5,6,7,8] (T c1 (T FO (T c2 (T c3 a0)))))
theorem Aax(neg:Bool)(xs:LI)(sh:Int)(ms:LI)(lost:Bool)(i:Int)(c1:A9i (i<(ms.length:Int))=true)(c2:A9i (i<(I O (Av sh 32)))=true)(c3:(lost)=false)(n1:0<=i/\i<(ms.length:Int)):Ar Gr (D6 neg xs sh ms lost i) .norm (D6 neg xs sh ms ((ms.getD (A i) 0) != 0) (I O (i+1))):=(G A9w 400 [.b true,.b true,.b false,.v (D Ad (ms.getD (A i) 0))] [1,2,4,5,6,7,8] (T c1 (T FO (T c2 (T c3 (T n1 (T (AAe n1) a0)))))))
theorem Aay(neg:Bool)(xs:LI)(sh:Int)(ms:LI)(lost:Bool)(i:Int)(c1:A9i (i<(ms.length:Int))=true)(c2:A9i (i<(I O (Av sh 32)))=false):Ar Gr (D6 neg xs sh ms lost i) (.exit 0) (D6 neg xs sh ms lost i):=(G A9w 400 [.b true,.b false] [1,2,4,5,6,7,8] (T c1 (T FO (T c2 a0))))
theorem Aaz(neg:Bool)(xs:LI)(sh:Int)(ms:LI)(lost:Bool)(i:Int)(c1:A9i (i<(ms.length:Int))=false):Ar Gr (D6 neg xs sh ms lost i) (.exit 0) (D6 neg xs sh ms lost i):=(G A9w 400 [.b false,.b false] [1,2,4,5,6,7,8] (T c1 (T ES a0)))
def Dr(neg:Bool)(xs:LI)(sh:Int)(ms:LI)(n:Nat)(cs:List AV)(lost:Bool)(s:Int)(i:Int):Al:=(Ac 1 (A9j (D O sh)::(A9s [F neg,Y W xs]::(Ac 1 (A9s [F false,H 0 []]::(A9j (Y W ms)::(A9n 1 n cs::(A9j (F lost)::(Ac 1 (A9j (D B s)::(A9j (D O i)::(Ac 93 []))))))))))))
theorem Aba(neg:Bool)(xs:LI)(sh:Int)(ms:LI)(n:Nat)(cs:List AV)(lost:Bool)(s:Int)(i:Int)(c1:A9i (i<(ms.length:Int))=true)(c2:A9i ((I O (i+1))<(ms.length:Int))=true)(n1:0<=i/\i<(ms.length:Int))(n2:0<=(I O (i+1))/\(I O (i+1))<(ms.length:Int))(n3:¬ s<0)(n4:n+1<=35184372088832):Ar FR (Dr neg xs sh ms n cs lost s i) .norm (Dr neg xs sh ms (n+1) (cs++([D Ad (I Ad (A9q (I B ((U (An .u64) (I B (ms.getD (A i) 0)) ||| U (An .u64) (I B ((I B (ms.getD (A (I O (i+1))) 0))*2^(min (A 32) (An .u64))))).toNat)) (2^(min (A s) (An .u64)))))]:List AV)) lost s (I O (i+1))):=(G A9w 400 [.b true,.v (D Ad (ms.getD (A i) 0)),.b true,.v (D Ad (ms.getD (A (I O (i+1))) 0))] [1,2,4,5,6,7,9,10] (T c1 (T n1 (T (AAe n1) (T c2 (T n2 (T (AAe n2) (T It (T n3 (T (show Bs ([D Ad (I Ad (A9q (I B ((U (An .u64) (I B (ms.getD (A i) 0)) ||| U (An .u64) (I B ((I B (ms.getD (A (I O (i+1))) 0))*2^(min (A 32) (An .u64))))).toNat)) (2^(min (A s) (An .u64)))))]:List AV)=1*1 from rfl) (T n4 a0)))))))))))
theorem Abb(neg:Bool)(xs:LI)(sh:Int)(ms:LI)(n:Nat)(cs:List AV)(lost:Bool)(s:Int)(i:Int)(c1:A9i (i<(ms.length:Int))=true)(c2:A9i ((I O (i+1))<(ms.length:Int))=false)(n1:0<=i/\i<(ms.length:Int))(n2:¬ s<0)(n3:n+1<=35184372088832):Ar FR (Dr neg xs sh ms n cs lost s i) .norm (Dr neg xs sh ms (n+1) (cs++([D Ad (I Ad (A9q (I B (ms.getD (A i) 0)) (2^(min (A s) (An .u64)))))]:List AV)) lost s (I O (i+1))):=(G A9w 400 [.b true,.v (D Ad (ms.getD (A i) 0)),.b false] [1,2,4,5,6,7,9,10] (T c1 (T n1 (T (AAe n1) (T c2 (T n2 (T (show Bs ([D Ad (I Ad (A9q (I B (ms.getD (A i) 0)) (2^(min (A s) (An .u64)))))]:List AV)=1*1 from rfl) (T n3 a0))))))))
theorem YH(neg:Bool)(xs:LI)(sh:Int)(ms:LI)(n:Nat)(cs:List AV)(lost:Bool)(s:Int)(i:Int)(c1:A9i (i<(ms.length:Int))=false):Ar FR (Dr neg xs sh ms n cs lost s i) (.exit 2) (Dr neg xs sh ms n cs lost s i):=(G A9w 400 [.b false] [1,2,4,5,6,7,9,10] (T c1 a0))
theorem nU(neg lost:Bool)(xs:LI)(sh i1:Int)(n:Nat)(cs:List AV)(i2 v w:Int)(c1:(A9i ((I O (Av sh 32))<(((A9l xs).length:Nat):Int)))=true)(c2:(lost)=true)(c3:(neg)=true)(n1:RQ 99 [Y W xs] (L 1 ((A9l xs).length) (W (A9l xs))))(hl2:Ar (.loop Gr) (D6 neg xs sh (A9l xs) false 0) (.exit 0) (D6 neg xs sh (A9l xs) lost i1))(hl3:Ar (.loop FR) (Dr neg xs sh (A9l xs) 0 ([]:List AV) lost (I B (AC sh 32)) (I O (Av sh 32))) (.exit 2) (Dr neg xs sh (A9l xs) n cs lost (I B (AC sh 32)) i2))(n4:RQ 98 [F neg,H n cs] (CI v))(n5:RQ 49 [D O 1] (Ag 1))(n6:RQ 129 [Ag v,Ag 1] (Ag w)):RQ 128 [o [F neg,Y W xs],D O sh] (Ag w):=A9g JS (Ac 4 (A9s [F (A9i (w<0)),H ((M (E w)).length) (W (M (E w)))]::(Ac 99 []))) (A9m (A9m (A9m (A9t (C1.seq (G A9w 400 [.r (L 1 ((A9l xs).length) (W (A9l xs)))] [1,2,4,5,6,7,8] (T n1 a0)) (C1.seq (C1.block hl2) (A9t (C1.seq (G A9w 400 [] [1,2,4,5,6,7,9,10] (T FO (T FO a0))) (C1.seq (C1.block hl3) (G A9w 400 [.b true,.b true,.r (CI v),.b true,.b true,.r (Ag 1),.r (Ag w)] [4] (T FO (T c1 (T c2 (T n4 (T c3 (T Hw (T n5 (T n6 a0))))))))))))))))))
theorem nV(neg lost:Bool)(xs:LI)(sh i1:Int)(n:Nat)(cs:List AV)(i2 v:Int)(c1:(A9i ((I O (Av sh 32))<(((A9l xs).length:Nat):Int)))=true)(c2:(lost)=true)(c3:(neg)=false)(n1:RQ 99 [Y W xs] (L 1 ((A9l xs).length) (W (A9l xs))))(hl2:Ar (.loop Gr) (D6 neg xs sh (A9l xs) false 0) (.exit 0) (D6 neg xs sh (A9l xs) lost i1))(hl3:Ar (.loop FR) (Dr neg xs sh (A9l xs) 0 ([]:List AV) lost (I B (AC sh 32)) (I O (Av sh 32))) (.exit 2) (Dr neg xs sh (A9l xs) n cs lost (I B (AC sh 32)) i2))(n4:RQ 98 [F neg,H n cs] (CI v)):RQ 128 [o [F neg,Y W xs],D O sh] (Ag v):=A9g JS (Ac 4 (A9s [F (A9i (v<0)),H ((M (E v)).length) (W (M (E v)))]::(Ac 99 []))) (A9m (A9m (A9m (A9t (C1.seq (G A9w 400 [.r (L 1 ((A9l xs).length) (W (A9l xs)))] [1,2,4,5,6,7,8] (T n1 a0)) (C1.seq (C1.block hl2) (A9t (C1.seq (G A9w 400 [] [1,2,4,5,6,7,9,10] (T FO (T FO a0))) (C1.seq (C1.block hl3) (G A9w 400 [.b true,.b true,.r (CI v),.b false,.b false] [4] (T FO (T c1 (T c2 (T n4 (T c3 (T ES a0))))))))))))))))
theorem nW(neg lost:Bool)(xs:LI)(sh i1:Int)(n:Nat)(cs:List AV)(i2 v w:Int)(c1:(A9i ((I O (Av sh 32))<(((A9l xs).length:Nat):Int)))=true)(c2:(lost)=false)(c3:(neg)=true)(c4:((I Ad ((U (An .u32) ((A9l xs).getD (A (I O (Av sh 32))) 0) &&& U (An .u32) (I Ad ((I Ad (1*2^(min (A (I B (AC sh 32))) (An .u32))))-1))).toNat)) != 0)=true)(n1:RQ 99 [Y W xs] (L 1 ((A9l xs).length) (W (A9l xs))))(hl2:Ar (.loop Gr) (D6 neg xs sh (A9l xs) false 0) (.exit 0) (D6 neg xs sh (A9l xs) lost i1))(hl3:Ar (.loop FR) (Dr neg xs sh (A9l xs) 0 ([]:List AV) lost (I B (AC sh 32)) (I O (Av sh 32))) (.exit 2) (Dr neg xs sh (A9l xs) n cs lost (I B (AC sh 32)) i2))(n4:0<=(I O (Av sh 32))/\(I O (Av sh 32))<(((A9l xs).length:Nat):Int))(n5:¬ (I B (AC sh 32))<0)(n6:RQ 98 [F neg,H n cs] (CI v))(n7:RQ 49 [D O 1] (Ag 1))(n8:RQ 129 [Ag v,Ag 1] (Ag w)):RQ 128 [o [F neg,Y W xs],D O sh] (Ag w):=A9g JS (Ac 4 (A9s [F (A9i (w<0)),H ((M (E w)).length) (W (M (E w)))]::(Ac 99 []))) (A9m (A9m (A9m (A9t (C1.seq (G A9w 400 [.r (L 1 ((A9l xs).length) (W (A9l xs)))] [1,2,4,5,6,7,8] (T n1 a0)) (C1.seq (C1.block hl2) (A9t (C1.seq (G A9w 400 [] [1,2,4,5,6,7,9,10] (T FO (T FO a0))) (C1.seq (C1.block hl3) (G A9w 400 [.b true,.b false,.v (D Ad ((A9l xs).getD (A (I O (Av sh 32))) 0)),.r (CI v),.b true,.b true,.r (Ag 1),.r (Ag w)] [4] (T FO (T c1 (T c2 (T FO (T n4 (T (AAe n4) (T n5 (T n6 (T c3 (T c4 (T n7 (T n8 a0))))))))))))))))))))))
theorem nX(neg lost:Bool)(xs:LI)(sh i1:Int)(n:Nat)(cs:List AV)(i2 v:Int)(c1:(A9i ((I O (Av sh 32))<(((A9l xs).length:Nat):Int)))=true)(c2:(lost)=false)(c3:(neg)=true)(c4:((I Ad ((U (An .u32) ((A9l xs).getD (A (I O (Av sh 32))) 0) &&& U (An .u32) (I Ad ((I Ad (1*2^(min (A (I B (AC sh 32))) (An .u32))))-1))).toNat)) != 0)=false)(n1:RQ 99 [Y W xs] (L 1 ((A9l xs).length) (W (A9l xs))))(hl2:Ar (.loop Gr) (D6 neg xs sh (A9l xs) false 0) (.exit 0) (D6 neg xs sh (A9l xs) lost i1))(hl3:Ar (.loop FR) (Dr neg xs sh (A9l xs) 0 ([]:List AV) lost (I B (AC sh 32)) (I O (Av sh 32))) (.exit 2) (Dr neg xs sh (A9l xs) n cs lost (I B (AC sh 32)) i2))(n4:0<=(I O (Av sh 32))/\(I O (Av sh 32))<(((A9l xs).length:Nat):Int))(n5:¬ (I B (AC sh 32))<0)(n6:RQ 98 [F neg,H n cs] (CI v)):RQ 128 [o [F neg,Y W xs],D O sh] (Ag v):=A9g JS (Ac 4 (A9s [F (A9i (v<0)),H ((M (E v)).length) (W (M (E v)))]::(Ac 99 []))) (A9m (A9m (A9m (A9t (C1.seq (G A9w 400 [.r (L 1 ((A9l xs).length) (W (A9l xs)))] [1,2,4,5,6,7,8] (T n1 a0)) (C1.seq (C1.block hl2) (A9t (C1.seq (G A9w 400 [] [1,2,4,5,6,7,9,10] (T FO (T FO a0))) (C1.seq (C1.block hl3) (G A9w 400 [.b true,.b false,.v (D Ad ((A9l xs).getD (A (I O (Av sh 32))) 0)),.r (CI v),.b true,.b false] [4] (T FO (T c1 (T c2 (T FO (T n4 (T (AAe n4) (T n5 (T n6 (T c3 (T c4 a0))))))))))))))))))))
theorem nY(neg lost:Bool)(xs:LI)(sh i1:Int)(n:Nat)(cs:List AV)(i2 v:Int)(c1:(A9i ((I O (Av sh 32))<(((A9l xs).length:Nat):Int)))=true)(c2:(lost)=false)(c3:(neg)=false)(n1:RQ 99 [Y W xs] (L 1 ((A9l xs).length) (W (A9l xs))))(hl2:Ar (.loop Gr) (D6 neg xs sh (A9l xs) false 0) (.exit 0) (D6 neg xs sh (A9l xs) lost i1))(hl3:Ar (.loop FR) (Dr neg xs sh (A9l xs) 0 ([]:List AV) lost (I B (AC sh 32)) (I O (Av sh 32))) (.exit 2) (Dr neg xs sh (A9l xs) n cs lost (I B (AC sh 32)) i2))(n4:0<=(I O (Av sh 32))/\(I O (Av sh 32))<(((A9l xs).length:Nat):Int))(n5:¬ (I B (AC sh 32))<0)(n6:RQ 98 [F neg,H n cs] (CI v)):RQ 128 [o [F neg,Y W xs],D O sh] (Ag v):=A9g JS (Ac 4 (A9s [F (A9i (v<0)),H ((M (E v)).length) (W (M (E v)))]::(Ac 99 []))) (A9m (A9m (A9m (A9t (C1.seq (G A9w 400 [.r (L 1 ((A9l xs).length) (W (A9l xs)))] [1,2,4,5,6,7,8] (T n1 a0)) (C1.seq (C1.block hl2) (A9t (C1.seq (G A9w 400 [] [1,2,4,5,6,7,9,10] (T FO (T FO a0))) (C1.seq (C1.block hl3) (G A9w 400 [.b true,.b false,.v (D Ad ((A9l xs).getD (A (I O (Av sh 32))) 0)),.r (CI v),.b false,.b false] [4] (T FO (T c1 (T c2 (T FO (T n4 (T (AAe n4) (T n5 (T n6 (T c3 (T ES a0))))))))))))))))))))
theorem nZ(neg lost:Bool)(xs:LI)(sh i1:Int)(n:Nat)(cs:List AV)(i2 v w:Int)(c1:(A9i ((I O (Av sh 32))<(((A9l xs).length:Nat):Int)))=false)(c2:(neg)=true)(c3:(lost)=true)(n1:RQ 99 [Y W xs] (L 1 ((A9l xs).length) (W (A9l xs))))(hl2:Ar (.loop Gr) (D6 neg xs sh (A9l xs) false 0) (.exit 0) (D6 neg xs sh (A9l xs) lost i1))(hl3:Ar (.loop FR) (Dr neg xs sh (A9l xs) 0 ([]:List AV) lost (I B (AC sh 32)) (I O (Av sh 32))) (.exit 2) (Dr neg xs sh (A9l xs) n cs lost (I B (AC sh 32)) i2))(n4:RQ 98 [F neg,H n cs] (CI v))(n5:RQ 49 [D O 1] (Ag 1))(n6:RQ 129 [Ag v,Ag 1] (Ag w)):RQ 128 [o [F neg,Y W xs],D O sh] (Ag w):=A9g JS (Ac 4 (A9s [F (A9i (w<0)),H ((M (E w)).length) (W (M (E w)))]::(Ac 99 []))) (A9m (A9m (A9m (A9t (C1.seq (G A9w 400 [.r (L 1 ((A9l xs).length) (W (A9l xs)))] [1,2,4,5,6,7,8] (T n1 a0)) (C1.seq (C1.block hl2) (A9t (C1.seq (G A9w 400 [] [1,2,4,5,6,7,9,10] (T FO (T FO a0))) (C1.seq (C1.block hl3) (G A9w 400 [.b false,.r (CI v),.b true,.b true,.r (Ag 1),.r (Ag w)] [4] (T FO (T c1 (T n4 (T c2 (T c3 (T n5 (T n6 a0)))))))))))))))))
theorem oD(neg lost:Bool)(xs:LI)(sh i1:Int)(n:Nat)(cs:List AV)(i2 v:Int)(c1:(A9i ((I O (Av sh 32))<(((A9l xs).length:Nat):Int)))=false)(c2:(neg)=true)(c3:(lost)=false)(n1:RQ 99 [Y W xs] (L 1 ((A9l xs).length) (W (A9l xs))))(hl2:Ar (.loop Gr) (D6 neg xs sh (A9l xs) false 0) (.exit 0) (D6 neg xs sh (A9l xs) lost i1))(hl3:Ar (.loop FR) (Dr neg xs sh (A9l xs) 0 ([]:List AV) lost (I B (AC sh 32)) (I O (Av sh 32))) (.exit 2) (Dr neg xs sh (A9l xs) n cs lost (I B (AC sh 32)) i2))(n4:RQ 98 [F neg,H n cs] (CI v)):RQ 128 [o [F neg,Y W xs],D O sh] (Ag v):=A9g JS (Ac 4 (A9s [F (A9i (v<0)),H ((M (E v)).length) (W (M (E v)))]::(Ac 99 []))) (A9m (A9m (A9m (A9t (C1.seq (G A9w 400 [.r (L 1 ((A9l xs).length) (W (A9l xs)))] [1,2,4,5,6,7,8] (T n1 a0)) (C1.seq (C1.block hl2) (A9t (C1.seq (G A9w 400 [] [1,2,4,5,6,7,9,10] (T FO (T FO a0))) (C1.seq (C1.block hl3) (G A9w 400 [.b false,.r (CI v),.b true,.b false] [4] (T FO (T c1 (T n4 (T c2 (T c3 a0)))))))))))))))
theorem oF(neg lost:Bool)(xs:LI)(sh i1:Int)(n:Nat)(cs:List AV)(i2 v:Int)(c1:(A9i ((I O (Av sh 32))<(((A9l xs).length:Nat):Int)))=false)(c2:(neg)=false)(n1:RQ 99 [Y W xs] (L 1 ((A9l xs).length) (W (A9l xs))))(hl2:Ar (.loop Gr) (D6 neg xs sh (A9l xs) false 0) (.exit 0) (D6 neg xs sh (A9l xs) lost i1))(hl3:Ar (.loop FR) (Dr neg xs sh (A9l xs) 0 ([]:List AV) lost (I B (AC sh 32)) (I O (Av sh 32))) (.exit 2) (Dr neg xs sh (A9l xs) n cs lost (I B (AC sh 32)) i2))(n4:RQ 98 [F neg,H n cs] (CI v)):RQ 128 [o [F neg,Y W xs],D O sh] (Ag v):=A9g JS (Ac 4 (A9s [F (A9i (v<0)),H ((M (E v)).length) (W (M (E v)))]::(Ac 99 []))) (A9m (A9m (A9m (A9t (C1.seq (G A9w 400 [.r (L 1 ((A9l xs).length) (W (A9l xs)))] [1,2,4,5,6,7,8] (T n1 a0)) (C1.seq (C1.block hl2) (A9t (C1.seq (G A9w 400 [] [1,2,4,5,6,7,9,10] (T FO (T FO a0))) (C1.seq (C1.block hl3) (G A9w 400 [.b false,.r (CI v),.b false,.b false] [4] (T FO (T c1 (T n4 (T c2 (T ES a0)))))))))))))))
def Nj(xs:LI)(ys:LI)(k:Nat)(qs:LI)(r:Int)(i:Int):Al:=(A9j (Y W xs)::(A9j (Y W ys)::(Ac 2 (A9n 1 0 []::(A9n 1 0 []::(A9n 1 k (W qs)::(A9j (D B r)::(A9j (D O i)::(Ac 298 [])))))))))
theorem Abc(xs:LI)(ys:LI)(k:Nat)(qs:LI)(r:Int)(i:Int)(c1:A9i (i>=0)=true)(n1:0<=i/\i<(xs.length:Int))(n2:0<=(0:Int)/\(0:Int)<(ys.length:Int))(n3:¬ (I B (ys.getD (A 0) 0))=0)(n4:0<=i/\i<(k:Int))(n5:qs.length=k):Ar Rq (Nj xs ys k qs r i) .norm (Nj xs ys k (qs.set (A i) (I Ad (I B (Av (I B ((U (An .u64) (I B (r*2^(min (A 32) (An .u64)))) ||| U (An .u64) (I B (xs.getD (A i) 0))).toNat)) (I B (ys.getD (A 0) 0)))))) (AC (I B ((U (An .u64) (I B (r*2^(min (A 32) (An .u64)))) ||| U (An .u64) (I B (xs.getD (A i) 0))).toNat)) (I B (ys.getD (A 0) 0))) (I O (i-1))):=(G A9w 400 [.b true,.v (D Ad (xs.getD (A i) 0)),.v (D Ad (ys.getD (A 0) 0)),.l (W (qs.set (A i) (I Ad (I B (Av (I B ((U (An .u64) (I B (r*2^(min (A 32) (An .u64)))) ||| U (An .u64) (I B (xs.getD (A i) 0))).toNat)) (I B (ys.getD (A 0) 0))))))),.v (D Ad (ys.getD (A 0) 0))] [0,1,4,5,6,7,8] (T c1 (T It (T n1 (T (AAe n1) (T n2 (T (AAe n2) (T n3 (T n4 (T (show C6 (W qs) (A i*1) [D Ad (I Ad (I B (Av (I B ((U (An .u64) (I B (r*2^(min (A 32) (An .u64)))) ||| U (An .u64) (I B (xs.getD (A i) 0))).toNat)) (I B (ys.getD (A 0) 0)))))]=some (W (qs.set (A i) (I Ad (I B (Av (I B ((U (An .u64) (I B (r*2^(min (A 32) (An .u64)))) ||| U (An .u64) (I B (xs.getD (A i) 0))).toNat)) (I B (ys.getD (A 0) 0))))))) from (Db n5 n4)) (T n2 (T (AAe n2) (T n3 a0)))))))))))))
theorem Abd(xs:LI)(ys:LI)(k:Nat)(qs:LI)(r:Int)(i:Int)(c1:A9i (i>=0)=false):Ar Rq (Nj xs ys k qs r i) (.exit 0) (Nj xs ys k qs r i):=(G A9w 400 [.b false] [0,1,4,5,6,7,8] (T c1 a0))
def L3(xs:LI)(ys:LI)(s:Int):Al:=(A9j (Y W xs)::(A9j (Y W ys)::(Ac 2 (A9n 1 0 []::(A9n 1 0 []::(Ac 3 (A9j (D O s)::(Ac 297 []))))))))
theorem Abe(xs:LI)(ys:LI)(s:Int)(c1:((I Ad ((U (An .u32) (I Ad ((ys.getD (A (I O ((ys.length:Int)-1))) 0)*2^(min (A (I B s)) (An .u32)))) &&& U (An .u32) 2147483648).toNat))==0)=true)(n1:0<=(I O ((ys.length:Int)-1))/\(I O ((ys.length:Int)-1))<(ys.length:Int))(n2:¬ (I B s)<0):Ar Rp (L3 xs ys s) .norm (L3 xs ys (I O (s+1))):=(G A9w 400 [.v (D Ad (ys.getD (A (I O ((ys.length:Int)-1))) 0)),.b true] [0,1,4,5,9] (T n1 (T (AAe n1) (T n2 (T c1 a0)))))
theorem Abf(xs:LI)(ys:LI)(s:Int)(c1:((I Ad ((U (An .u32) (I Ad ((ys.getD (A (I O ((ys.length:Int)-1))) 0)*2^(min (A (I B s)) (An .u32)))) &&& U (An .u32) 2147483648).toNat))==0)=false)(n1:0<=(I O ((ys.length:Int)-1))/\(I O ((ys.length:Int)-1))<(ys.length:Int))(n2:¬ (I B s)<0):Ar Rp (L3 xs ys s) (.exit 2) (L3 xs ys s):=(G A9w 400 [.v (D Ad (ys.getD (A (I O ((ys.length:Int)-1))) 0)),.b false] [0,1,4,5,9] (T n1 (T (AAe n1) (T n2 (T c1 a0)))))
def Ev(k:Nat)(us:LI)(vs:LI)(n:Int)(kq:Nat)(qs:LI)(s:Int)(j:Int)(g:Int)(r:Int):Al:=(Ac 4 (A9n 1 0 []::(A9n 1 0 []::(Ac 3 (A9j (D O s)::(A9j (Y W vs)::(A9n 1 k (W us)::(A9j (D O n)::(A9n 1 kq (W qs)::(A9j (D O j)::(Ac 1 (A9j (D B g)::(A9j (D B r)::(Ac 289 []))))))))))))))
theorem Abg(k:Nat)(us:LI)(vs:LI)(n:Int)(kq:Nat)(qs:LI)(s:Int)(j:Int)(g:Int)(r:Int)(c1:A9i (g>=4294967296)=true)(c2:(A9i ((I B (r+(I B (vs.getD (A (I O (n-1))) 0))))>=4294967296))=true)(n1:0<=(I O (n-1))/\(I O (n-1))<(vs.length:Int)):Ar HU (Ev k us vs n kq qs s j g r) (.exit 6) (Ev k us vs n kq qs s j (I B (g-1)) (I B (r+(I B (vs.getD (A (I O (n-1))) 0))))):=(G A9w 400 [.b true,.b true,.v (D Ad (vs.getD (A (I O (n-1))) 0)),.b true] [4,5,9,10,11,12,13,14,16,17] (T c1 (T Hw (T n1 (T (AAe n1) (T c2 a0))))))
theorem Abh(k:Nat)(us:LI)(vs:LI)(n:Int)(kq:Nat)(qs:LI)(s:Int)(j:Int)(g:Int)(r:Int)(c1:A9i (g>=4294967296)=true)(c2:(A9i ((I B (r+(I B (vs.getD (A (I O (n-1))) 0))))>=4294967296))=false)(n1:0<=(I O (n-1))/\(I O (n-1))<(vs.length:Int)):Ar HU (Ev k us vs n kq qs s j g r) .norm (Ev k us vs n kq qs s j (I B (g-1)) (I B (r+(I B (vs.getD (A (I O (n-1))) 0))))):=(G A9w 400 [.b true,.b true,.v (D Ad (vs.getD (A (I O (n-1))) 0)),.b false] [4,5,9,10,11,12,13,14,16,17] (T c1 (T Hw (T n1 (T (AAe n1) (T c2 a0))))))
theorem Abi(k:Nat)(us:LI)(vs:LI)(n:Int)(kq:Nat)(qs:LI)(s:Int)(j:Int)(g:Int)(r:Int)(c1:A9i (g>=4294967296)=false)(c2:A9i (r<4294967296)=true)(c3:(A9i ((I B (g*(I B (vs.getD (A (I O (n-2))) 0))))>(I B ((U (An .u64) (I B (r*2^(min (A 32) (An .u64)))) ||| U (An .u64) (I B (us.getD (A (I O ((I O (j+n))-2))) 0))).toNat))))=true)(c4:(A9i ((I B (r+(I B (vs.getD (A (I O (n-1))) 0))))>=4294967296))=true)(n1:0<=(I O (n-2))/\(I O (n-2))<(vs.length:Int))(n2:0<=(I O ((I O (j+n))-2))/\(I O ((I O (j+n))-2))<(k:Int))(n3:us.length=k)(n4:0<=(I O (n-1))/\(I O (n-1))<(vs.length:Int)):Ar HU (Ev k us vs n kq qs s j g r) (.exit 6) (Ev k us vs n kq qs s j (I B (g-1)) (I B (r+(I B (vs.getD (A (I O (n-1))) 0))))):=(G A9w 400 [.b false,.b true,.v (D Ad (vs.getD (A (I O (n-2))) 0)),.v (D Ad (us.getD (A (I O ((I O (j+n))-2))) 0)),.b false,.b true,.b true,.v (D Ad (vs.getD (A (I O (n-1))) 0)),.b true] [4,5,9,10,11,12,13,14,16,17] (T c1 (T c2 (T n1 (T (AAe n1) (T It (T n2 (T (Co n3 n2) (T c1 (T c2 (T c3 (T n4 (T (AAe n4) (T c4 a0))))))))))))))
theorem Abj(k:Nat)(us:LI)(vs:LI)(n:Int)(kq:Nat)(qs:LI)(s:Int)(j:Int)(g:Int)(r:Int)(c1:A9i (g>=4294967296)=false)(c2:A9i (r<4294967296)=true)(c3:(A9i ((I B (g*(I B (vs.getD (A (I O (n-2))) 0))))>(I B ((U (An .u64) (I B (r*2^(min (A 32) (An .u64)))) ||| U (An .u64) (I B (us.getD (A (I O ((I O (j+n))-2))) 0))).toNat))))=true)(c4:(A9i ((I B (r+(I B (vs.getD (A (I O (n-1))) 0))))>=4294967296))=false)(n1:0<=(I O (n-2))/\(I O (n-2))<(vs.length:Int))(n2:0<=(I O ((I O (j+n))-2))/\(I O ((I O (j+n))-2))<(k:Int))(n3:us.length=k)(n4:0<=(I O (n-1))/\(I O (n-1))<(vs.length:Int)):Ar HU (Ev k us vs n kq qs s j g r) .norm (Ev k us vs n kq qs s j (I B (g-1)) (I B (r+(I B (vs.getD (A (I O (n-1))) 0))))):=(G A9w 400 [.b false,.b true,.v (D Ad (vs.getD (A (I O (n-2))) 0)),.v (D Ad (us.getD (A (I O ((I O (j+n))-2))) 0)),.b false,.b true,.b true,.v (D Ad (vs.getD (A (I O (n-1))) 0)),.b false] [4,5,9,10,11,12,13,14,16,17] (T c1 (T c2 (T n1 (T (AAe n1) (T It (T n2 (T (Co n3 n2) (T c1 (T c2 (T c3 (T n4 (T (AAe n4) (T c4 a0))))))))))))))
theorem YI(k:Nat)(us:LI)(vs:LI)(n:Int)(kq:Nat)(qs:LI)(s:Int)(j:Int)(g:Int)(r:Int)(c1:A9i (g>=4294967296)=false)(c2:A9i (r<4294967296)=true)(c3:(A9i ((I B (g*(I B (vs.getD (A (I O (n-2))) 0))))>(I B ((U (An .u64) (I B (r*2^(min (A 32) (An .u64)))) ||| U (An .u64) (I B (us.getD (A (I O ((I O (j+n))-2))) 0))).toNat))))=false)(n1:0<=(I O (n-2))/\(I O (n-2))<(vs.length:Int))(n2:0<=(I O ((I O (j+n))-2))/\(I O ((I O (j+n))-2))<(k:Int))(n3:us.length=k):Ar HU (Ev k us vs n kq qs s j g r) (.exit 6) (Ev k us vs n kq qs s j g r):=(G A9w 400 [.b false,.b true,.v (D Ad (vs.getD (A (I O (n-2))) 0)),.v (D Ad (us.getD (A (I O ((I O (j+n))-2))) 0)),.b false,.b true,.b false] [4,5,9,10,11,12,13,14,16,17] (T c1 (T c2 (T n1 (T (AAe n1) (T It (T n2 (T (Co n3 n2) (T c1 (T c2 (T c3 a0)))))))))))
def Jr(k:Nat)(us:LI)(vs:LI)(n:Int)(kq:Nat)(qs:LI)(s:Int)(j:Int)(g:Int)(b:Int)(c:Int)(i:Int):Al:=(Ac 4 (A9n 1 0 []::(A9n 1 0 []::(Ac 3 (A9j (D O s)::(A9j (Y W vs)::(A9n 1 k (W us)::(A9j (D O n)::(A9n 1 kq (W qs)::(A9j (D O j)::(Ac 1 (A9j (D B g)::(Ac 1 (A9j (D B b)::(A9j (D B c)::(A9j (D O i)::(Ac 286 [])))))))))))))))))
theorem Abk(k:Nat)(us:LI)(vs:LI)(n:Int)(kq:Nat)(qs:LI)(s:Int)(j:Int)(g:Int)(b:Int)(c:Int)(i:Int)(c1:A9i (i<n)=true)(n1:0<=i/\i<(vs.length:Int))(n2:0<=(I O (i+j))/\(I O (i+j))<(k:Int))(n3:us.length=k):Ar Pf (Jr k us vs n kq qs s j g b c i) .norm (Jr k (us.set (A (I O (i+j))) (I Ad (I B ((I B ((I B (us.getD (A (I O (i+j))) 0))-(I B ((U (An .u64) (I B (c+(I B (g*(I B (vs.getD (A i) 0)))))) &&& U (An .u64) 4294967295).toNat))))-b)))) vs n kq qs s j g (A9q (I B ((I B ((I B (us.getD (A (I O (i+j))) 0))-(I B ((U (An .u64) (I B (c+(I B (g*(I B (vs.getD (A i) 0)))))) &&& U (An .u64) 4294967295).toNat))))-b)) (2^(min (A 63) (An .u64)))) (A9q (I B (c+(I B (g*(I B (vs.getD (A i) 0)))))) (2^(min (A 32) (An .u64)))) (I O (i+1))):=(G A9w 400 [.b true,.v (D Ad (vs.getD (A i) 0)),.v (D Ad (us.getD (A (I O (i+j))) 0)),.l (W (us.set (A (I O (i+j))) (I Ad (I B ((I B ((I B (us.getD (A (I O (i+j))) 0))-(I B ((U (An .u64) (I B (c+(I B (g*(I B (vs.getD (A i) 0)))))) &&& U (An .u64) 4294967295).toNat))))-b)))))] [4,5,9,10,11,12,13,14,16,18,19,20] (T c1 (T n1 (T (AAe n1) (T n2 (T (Co n3 n2) (T n2 (T (show C6 (W us) (A (I O (i+j))*1) [D Ad (I Ad (I B ((I B ((I B (us.getD (A (I O (i+j))) 0))-(I B ((U (An .u64) (I B (c+(I B (g*(I B (vs.getD (A i) 0)))))) &&& U (An .u64) 4294967295).toNat))))-b)))]=some (W (us.set (A (I O (i+j))) (I Ad (I B ((I B ((I B (us.getD (A (I O (i+j))) 0))-(I B ((U (An .u64) (I B (c+(I B (g*(I B (vs.getD (A i) 0)))))) &&& U (An .u64) 4294967295).toNat))))-b))))) from (Db n3 n2)) (T X7 (T It a0))))))))))
theorem Abl(k:Nat)(us:LI)(vs:LI)(n:Int)(kq:Nat)(qs:LI)(s:Int)(j:Int)(g:Int)(b:Int)(c:Int)(i:Int)(c1:A9i (i<n)=false):Ar Pf (Jr k us vs n kq qs s j g b c i) (.exit 8) (Jr k us vs n kq qs s j g b c i):=(G A9w 400 [.b false] [4,5,9,10,11,12,13,14,16,18,19,20] (T c1 a0))
def L5(k:Nat)(us:LI)(vs:LI)(n:Int)(kq:Nat)(qs:LI)(s:Int)(j:Int)(g:Int)(c:Int)(i:Int):Al:=(Ac 4 (A9n 1 0 []::(A9n 1 0 []::(Ac 3 (A9j (D O s)::(A9j (Y W vs)::(A9n 1 k (W us)::(A9j (D O n)::(A9n 1 kq (W qs)::(A9j (D O j)::(Ac 1 (A9j (D B g)::(Ac 6 (A9j (D B c)::(A9j (D O i)::(Ac 282 []))))))))))))))))
theorem Abm(k:Nat)(us:LI)(vs:LI)(n:Int)(kq:Nat)(qs:LI)(s:Int)(j:Int)(g:Int)(c:Int)(i:Int)(c1:A9i (i<n)=true)(n1:0<=(I O (i+j))/\(I O (i+j))<(k:Int))(n2:us.length=k)(n3:0<=i/\i<(vs.length:Int)):Ar Rr (L5 k us vs n kq qs s j g c i) .norm (L5 k (us.set (A (I O (i+j))) (I Ad (I B (c+(I B ((I B (us.getD (A (I O (i+j))) 0))+(I B (vs.getD (A i) 0)))))))) vs n kq qs s j g (A9q (I B (c+(I B ((I B (us.getD (A (I O (i+j))) 0))+(I B (vs.getD (A i) 0)))))) (2^(min (A 32) (An .u64)))) (I O (i+1))):=(G A9w 400 [.b true,.v (D Ad (us.getD (A (I O (i+j))) 0)),.v (D Ad (vs.getD (A i) 0)),.l (W (us.set (A (I O (i+j))) (I Ad (I B (c+(I B ((I B (us.getD (A (I O (i+j))) 0))+(I B (vs.getD (A i) 0)))))))))] [4,5,9,10,11,12,13,14,16,23,24] (T c1 (T n1 (T (Co n2 n1) (T n3 (T (AAe n3) (T n1 (T (show C6 (W us) (A (I O (i+j))*1) [D Ad (I Ad (I B (c+(I B ((I B (us.getD (A (I O (i+j))) 0))+(I B (vs.getD (A i) 0)))))))]=some (W (us.set (A (I O (i+j))) (I Ad (I B (c+(I B ((I B (us.getD (A (I O (i+j))) 0))+(I B (vs.getD (A i) 0))))))))) from (Db n2 n1)) (T It a0)))))))))
theorem Abn(k:Nat)(us:LI)(vs:LI)(n:Int)(kq:Nat)(qs:LI)(s:Int)(j:Int)(g:Int)(c:Int)(i:Int)(c1:A9i (i<n)=false):Ar Rr (L5 k us vs n kq qs s j g c i) (.exit 10) (L5 k us vs n kq qs s j g c i):=(G A9w 400 [.b false] [4,5,9,10,11,12,13,14,16,23,24] (T c1 a0))
def IZ(k:Nat)(us:LI)(vs:LI)(n:Int)(kq:Nat)(qs:LI)(s:Int)(j:Int):Al:=(Ac 4 (A9n 1 0 []::(A9n 1 0 []::(Ac 3 (A9j (D O s)::(A9j (Y W vs)::(A9n 1 k (W us)::(A9j (D O n)::(A9n 1 kq (W qs)::(A9j (D O j)::(Ac 292 [])))))))))))
theorem Atj(k:Nat)(us:LI)(vs:LI)(n:Int)(kq:Nat)(qs:LI)(s:Int)(j:Int)(us1 us2:LI)(g r b c cc:Int)(c1:A9i (j>=0)=true)(c2:((A9q (I B ((I B ((I B (us1.getD (A (I O (j+n))) 0))-c))-b)) (2^(min (A 63) (An .u64)))) != 0)=true)(n1:0<=(I O (j+n))/\(I O (j+n))<(k:Int))(n2:us.length=k)(n3:0<=(I O ((I O (j+n))-1))/\(I O ((I O (j+n))-1))<(k:Int))(n4:0<=(I O (n-1))/\(I O (n-1))<(vs.length:Int))(n5:¬ (I B (vs.getD (A (I O (n-1))) 0))=0)(hl6:Ar (.loop HU) (Ev k us vs n kq qs s j (I B (Av (I B ((U (An .u64) (I B ((I B (us.getD (A (I O (j+n))) 0))*2^(min (A 32) (An .u64)))) ||| U (An .u64) (I B (us.getD (A (I O ((I O (j+n))-1))) 0))).toNat)) (I B (vs.getD (A (I O (n-1))) 0)))) (AC (I B ((U (An .u64) (I B ((I B (us.getD (A (I O (j+n))) 0))*2^(min (A 32) (An .u64)))) ||| U (An .u64) (I B (us.getD (A (I O ((I O (j+n))-1))) 0))).toNat)) (I B (vs.getD (A (I O (n-1))) 0)))) (.exit 6) (Ev k us vs n kq qs s j g r))(hl7:Ar (.loop Pf) (Jr k us vs n kq qs s j g 0 0 0) (.exit 8) (Jr k us1 vs n kq qs s j g b c n))(n8:us1.length=k)(hl9:Ar (.loop Rr) (L5 k (us1.set (A (I O (j+n))) (I Ad (I B ((I B ((I B (us1.getD (A (I O (j+n))) 0))-c))-b)))) vs n kq qs s j (I B (g-1)) 0 0) (.exit 10) (L5 k us2 vs n kq qs s j (I B (g-1)) cc n))(n10:us2.length=k)(n11:0<=j/\j<(kq:Int))(n12:qs.length=kq):Ar Ol (IZ k us vs n kq qs s j) .norm (IZ k (us2.set (A (I O (j+n))) (I Ad ((us2.getD (A (I O (j+n))) 0)+(I Ad cc)))) vs n kq (qs.set (A j) (I Ad (I B (g-1)))) s (I O (j-1))):=(C1.seq (G (t:=(Ac 4 (A9n 1 0 []::(A9n 1 0 []::(Ac 3 (m s::(f vs::(A9n 1 k (W us)::(m n::(A9n 1 kq (W qs)::(m j::(Ac 292 [])))))))))))) A9w 400 [.b true] [4,5,9,10,11,12,13,14] (T c1 a0)) (C1.seq (B_ (A9m (C1.seq (G A9w 400 [.v (D Ad (us.getD (A (I O (j+n))) 0)),.v (D Ad (us.getD (A (I O ((I O (j+n))-1))) 0)),.v (D Ad (vs.getD (A (I O (n-1))) 0)),.v (D Ad (vs.getD (A (I O (n-1))) 0))] [4,5,9,10,11,12,13,14,16,17] (T n1 (T (Co n2 n1) (T It (T n3 (T (Co n2 n3) (T n4 (T (AAe n4) (T n5 (T n4 (T (AAe n4) (T n5 a0)))))))))))) (C1.seq (C1.block hl6) (A9t (C1.seq (G A9w 400 [] [4,5,9,10,11,12,13,14,16,18,19,20] a0) (C1.seq (C1.block hl7) (A9m (A9t (C1.seq (G (t:=(Ac 4 (A9n 1 0 []::(A9n 1 0 []::(Ac 3 (m s::(f vs::(A9n 1 k (W (us1.set (A (I O (j+n))) (I Ad (I B ((I B ((I B (us1.getD (A (I O (j+n))) 0))-c))-b)))))::(m n::(A9n 1 kq (W qs)::(m j::(Ac 1 (A9j (D B g)::(Ac 236 (A9j (F ((A9q (I B ((I B ((I B (us1.getD (A (I O (j+n))) 0))-c))-b)) (2^(min (A 63) (An .u64)))) != 0))::(Ac 53 [])))))))))))))))) A9w 400 [.v (D Ad (us1.getD (A (I O (j+n))) 0)),.l (W (us1.set (A (I O (j+n))) (I Ad (I B ((I B ((I B (us1.getD (A (I O (j+n))) 0))-c))-b)))))] [4,5,9,10,11,12,13,14,16,253] (T n1 (T (Co n8 n1) (T n1 (T (show C6 (W us1) (A (I O (j+n))*1) [D Ad (I Ad (I B ((I B ((I B (us1.getD (A (I O (j+n))) 0))-c))-b)))]=some (W (us1.set (A (I O (j+n))) (I Ad (I B ((I B ((I B (us1.getD (A (I O (j+n))) 0))-c))-b))))) from (Db n8 n1)) (T X7 a0)))))) (C1.seq (Jm (by rfl) c2 (A9m (A9t (C1.seq (G A9w 400 [] [4,5,9,10,11,12,13,14,16,23,24] a0) (C1.seq (C1.block hl9) (G (t:=(Ac 4 (A9n 1 0 []::(A9n 1 0 []::(Ac 3 (m s::(f vs::(A9n 1 k (W (us2.set (A (I O (j+n))) (I Ad ((us2.getD (A (I O (j+n))) 0)+(I Ad cc)))))::(m n::(A9n 1 kq (W qs)::(m j::(Ac 1 (A9j (D B (I B (g-1)))::(Ac 290 [])))))))))))))) A9w 400 [.v (D Ad (us2.getD (A (I O (j+n))) 0)),.l (W (us2.set (A (I O (j+n))) (I Ad ((us2.getD (A (I O (j+n))) 0)+(I Ad cc)))))] [4,5,9,10,11,12,13,14,16] (T n1 (T (Co n10 n1) (T n1 (T (show C6 (W us2) (A (I O (j+n))*1) [D Ad (I Ad ((us2.getD (A (I O (j+n))) 0)+(I Ad cc)))]=some (W (us2.set (A (I O (j+n))) (I Ad ((us2.getD (A (I O (j+n))) 0)+(I Ad cc))))) from (Db n10 n1)) a0)))))))))) (G (t:=(Ac 4 (A9n 1 0 []::(A9n 1 0 []::(Ac 3 (m s::(f vs::(A9n 1 k (W (us2.set (A (I O (j+n))) (I Ad ((us2.getD (A (I O (j+n))) 0)+(I Ad cc)))))::(m n::(A9n 1 kq (W (qs.set (A j) (I Ad (I B (g-1)))))::(m j::(Ac 292 [])))))))))))) A9w 400 [.l (W (qs.set (A j) (I Ad (I B (g-1)))))] [4,5,9,10,11,12,13,14] (T n11 (T (show C6 (W qs) (A j*1) [D Ad (I Ad (I B (g-1)))]=some (W (qs.set (A j) (I Ad (I B (g-1))))) from (Db n12 n11)) a0)))))))))))))) (G A9w 400 [] [4,5,9,10,11,12,13,14] a0)))
theorem Atk(k:Nat)(us:LI)(vs:LI)(n:Int)(kq:Nat)(qs:LI)(s:Int)(j:Int)(us1:LI)(g r b c:Int)(c1:A9i (j>=0)=true)(c2:((A9q (I B ((I B ((I B (us1.getD (A (I O (j+n))) 0))-c))-b)) (2^(min (A 63) (An .u64)))) != 0)=false)(n1:0<=(I O (j+n))/\(I O (j+n))<(k:Int))(n2:us.length=k)(n3:0<=(I O ((I O (j+n))-1))/\(I O ((I O (j+n))-1))<(k:Int))(n4:0<=(I O (n-1))/\(I O (n-1))<(vs.length:Int))(n5:¬ (I B (vs.getD (A (I O (n-1))) 0))=0)(hl6:Ar (.loop HU) (Ev k us vs n kq qs s j (I B (Av (I B ((U (An .u64) (I B ((I B (us.getD (A (I O (j+n))) 0))*2^(min (A 32) (An .u64)))) ||| U (An .u64) (I B (us.getD (A (I O ((I O (j+n))-1))) 0))).toNat)) (I B (vs.getD (A (I O (n-1))) 0)))) (AC (I B ((U (An .u64) (I B ((I B (us.getD (A (I O (j+n))) 0))*2^(min (A 32) (An .u64)))) ||| U (An .u64) (I B (us.getD (A (I O ((I O (j+n))-1))) 0))).toNat)) (I B (vs.getD (A (I O (n-1))) 0)))) (.exit 6) (Ev k us vs n kq qs s j g r))(hl7:Ar (.loop Pf) (Jr k us vs n kq qs s j g 0 0 0) (.exit 8) (Jr k us1 vs n kq qs s j g b c n))(n8:us1.length=k)(n9:0<=j/\j<(kq:Int))(n10:qs.length=kq):Ar Ol (IZ k us vs n kq qs s j) .norm (IZ k (us1.set (A (I O (j+n))) (I Ad (I B ((I B ((I B (us1.getD (A (I O (j+n))) 0))-c))-b)))) vs n kq (qs.set (A j) (I Ad g)) s (I O (j-1))):=(C1.seq (G (t:=(Ac 4 (A9n 1 0 []::(A9n 1 0 []::(Ac 3 (m s::(f vs::(A9n 1 k (W us)::(m n::(A9n 1 kq (W qs)::(m j::(Ac 292 [])))))))))))) A9w 400 [.b true] [4,5,9,10,11,12,13,14] (T c1 a0)) (C1.seq (B_ (A9m (C1.seq (G A9w 400 [.v (D Ad (us.getD (A (I O (j+n))) 0)),.v (D Ad (us.getD (A (I O ((I O (j+n))-1))) 0)),.v (D Ad (vs.getD (A (I O (n-1))) 0)),.v (D Ad (vs.getD (A (I O (n-1))) 0))] [4,5,9,10,11,12,13,14,16,17] (T n1 (T (Co n2 n1) (T It (T n3 (T (Co n2 n3) (T n4 (T (AAe n4) (T n5 (T n4 (T (AAe n4) (T n5 a0)))))))))))) (C1.seq (C1.block hl6) (A9t (C1.seq (G A9w 400 [] [4,5,9,10,11,12,13,14,16,18,19,20] a0) (C1.seq (C1.block hl7) (A9m (A9t (C1.seq (G (t:=(Ac 4 (A9n 1 0 []::(A9n 1 0 []::(Ac 3 (m s::(f vs::(A9n 1 k (W (us1.set (A (I O (j+n))) (I Ad (I B ((I B ((I B (us1.getD (A (I O (j+n))) 0))-c))-b)))))::(m n::(A9n 1 kq (W qs)::(m j::(Ac 1 (A9j (D B g)::(Ac 236 (A9j (F ((A9q (I B ((I B ((I B (us1.getD (A (I O (j+n))) 0))-c))-b)) (2^(min (A 63) (An .u64)))) != 0))::(Ac 53 [])))))))))))))))) A9w 400 [.v (D Ad (us1.getD (A (I O (j+n))) 0)),.l (W (us1.set (A (I O (j+n))) (I Ad (I B ((I B ((I B (us1.getD (A (I O (j+n))) 0))-c))-b)))))] [4,5,9,10,11,12,13,14,16,253] (T n1 (T (Co n8 n1) (T n1 (T (show C6 (W us1) (A (I O (j+n))*1) [D Ad (I Ad (I B ((I B ((I B (us1.getD (A (I O (j+n))) 0))-c))-b)))]=some (W (us1.set (A (I O (j+n))) (I Ad (I B ((I B ((I B (us1.getD (A (I O (j+n))) 0))-c))-b))))) from (Db n8 n1)) (T X7 a0)))))) (C1.seq (Jn (by rfl) c2 (G (t:=(Ac 4 (A9n 1 0 []::(A9n 1 0 []::(Ac 3 (m s::(f vs::(A9n 1 k (W (us1.set (A (I O (j+n))) (I Ad (I B ((I B ((I B (us1.getD (A (I O (j+n))) 0))-c))-b)))))::(m n::(A9n 1 kq (W qs)::(m j::(Ac 1 (A9j (D B g)::(Ac 290 [])))))))))))))) A9w 400 [] [4,5,9,10,11,12,13,14,16] a0)) (G (t:=(Ac 4 (A9n 1 0 []::(A9n 1 0 []::(Ac 3 (m s::(f vs::(A9n 1 k (W (us1.set (A (I O (j+n))) (I Ad (I B ((I B ((I B (us1.getD (A (I O (j+n))) 0))-c))-b)))))::(m n::(A9n 1 kq (W (qs.set (A j) (I Ad g)))::(m j::(Ac 292 [])))))))))))) A9w 400 [.l (W (qs.set (A j) (I Ad g)))] [4,5,9,10,11,12,13,14] (T n9 (T (show C6 (W qs) (A j*1) [D Ad (I Ad g)]=some (W (qs.set (A j) (I Ad g))) from (Db n10 n9)) a0)))))))))))))) (G A9w 400 [] [4,5,9,10,11,12,13,14] a0)))
theorem Atl(k:Nat)(us:LI)(vs:LI)(n:Int)(kq:Nat)(qs:LI)(s:Int)(j:Int)(c1:A9i (j>=0)=false):Ar Ol (IZ k us vs n kq qs s j) (.exit 4) (IZ k us vs n kq qs s j):=(A8 (G A9w 400 [.b false] [4,5,9,10,11,12,13,14] (T c1 a0)) (by nofun))
theorem oH(xs ys:LI)(cm:Int)(c1:A9i (cm<0)=true)(n1:RQ 134 [Y W xs,Y W ys] (D O cm)):RQ 165 [Y W xs,Y W ys] (Ax [H 0 [],Y W xs]):=A9g Qz (Ac 1 (A9j (Y W ys)::(Ac 2 (A9n 1 0 []::(A9j (Y W xs)::(Ac 301 [])))))) (A9m (A9t (A8 (G A9w 400 [.r (D O cm),.b true] [1,4,5] (T n1 (T c1 a0))) (by nofun))))
theorem oJ(xs ys qs:LI)(cm r i:Int)(k:Nat)(c1:A9i (cm<0)=false)(c2:((ys.length:Int)==1)=true)(n1:RQ 134 [Y W xs,Y W ys] (D O cm))(n2:0<=(xs.length:Int)/\(xs.length:Int)<=1048576)(hl3:Ar (.loop Rq) ((A9j (Y W xs)::(A9j (Y W ys)::(Ac 2 (A9n 1 0 []::(A9n 1 0 []::(A9n 1 (A (xs.length:Int)) (Cz [D Ad 0] (A (xs.length:Int)))::(A9j (D B 0)::(A9j (D O (I O ((xs.length:Int)-1)))::(Ac 298 [])))))))))) (.exit 0) (Nj xs ys k qs r i))(n4:RQ 99 [H k (W qs)] (L 1 ((A9l qs).length) (W (A9l qs))))(n5:RQ 99 [H 1 [D Ad (I Ad r)]] (L 1 ((A9l [I Ad r]).length) (W (A9l [I Ad r])))):RQ 165 [Y W xs,Y W ys] (Ax [H ((A9l qs).length) (W (A9l qs)),H ((A9l [I Ad r]).length) (W (A9l [I Ad r]))]):=A9g Qz (Ac 1 (A9j (Y W ys)::(Ac 2 (A9n 1 ((A9l qs).length) (W (A9l qs))::(A9n 1 ((A9l [I Ad r]).length) (W (A9l [I Ad r]))::(Ac 301 [])))))) (A9m (A9t (C1.seq (G (t:=(f xs::(f ys::(Ac 2 (A9n 1 0 []::(A9n 1 0 []::(Ac 26 (A9j (F ((ys.length:Int)==1))::(Ac 274 []))))))))) A9w 400 [.r (D O cm),.b false] [0,1,4,5,32] (T n1 (T c1 a0))) (A8 (Jm (by rfl) c2 (A9m (A9t (C1.seq (G A9w 400 [] [0,1,4,5,6,7,8] (T n2 a0)) (C1.seq (C1.block hl3) (G A9w 400 [.r (L 1 ((A9l qs).length) (W (A9l qs))),.r (L 1 ((A9l [I Ad r]).length) (W (A9l [I Ad r])))] [1,4,5] (T n4 (T n5 a0)))))))) (by nofun)))))
theorem oK(xs ys qs us vs:LI)(cm s n j U V w:Int)(k kq:Nat)(c1:A9i (cm<0)=false)(c2:((ys.length:Int)==1)=false)(n1:RQ 134 [Y W xs,Y W ys] (D O cm))(hl2:Ar (.loop Rp) (L3 xs ys 0) (.exit 2) (L3 xs ys s))(n3:RQ 84 [o [F false,Y W ys],D O s] (CI V))(n4:((M (E U)).length)+2<=35184372088832)(n5:RQ 84 [o [F false,Y W xs],D O s] (CI U))(n6:0<=(if (I O ((ys.length:Int)+1))>(I O ((xs.length:Int)+1)) then (I O ((ys.length:Int)+1)) else (I O ((xs.length:Int)+1)))/\(if (I O ((ys.length:Int)+1))>(I O ((xs.length:Int)+1)) then (I O ((ys.length:Int)+1)) else (I O ((xs.length:Int)+1)))<=(((((M (E U)).length)+2):Nat):Int))(n7:0<=(I O ((((A (if (I O ((ys.length:Int)+1))>(I O ((xs.length:Int)+1)) then (I O ((ys.length:Int)+1)) else (I O ((xs.length:Int)+1)))):Nat):Int)-(((M (E V)).length:Nat):Int)))/\(I O ((((A (if (I O ((ys.length:Int)+1))>(I O ((xs.length:Int)+1)) then (I O ((ys.length:Int)+1)) else (I O ((xs.length:Int)+1)))):Nat):Int)-(((M (E V)).length:Nat):Int)))<=1048576)(hl8:Ar (.loop Ol) ((Ac 4 (A9n 1 0 []::(A9n 1 0 []::(Ac 3 (A9j (D O s)::(A9j (H ((M (E V)).length) (W (M (E V))))::(A9n 1 (A (if (I O ((ys.length:Int)+1))>(I O ((xs.length:Int)+1)) then (I O ((ys.length:Int)+1)) else (I O ((xs.length:Int)+1)))) (BD (A (if (I O ((ys.length:Int)+1))>(I O ((xs.length:Int)+1)) then (I O ((ys.length:Int)+1)) else (I O ((xs.length:Int)+1)))*1) ((W (M (E U)))++([D Ad 0,D Ad 0]:List AV)))::(A9j (D O (((M (E V)).length:Nat):Int))::(A9n 1 (A (I O ((((A (if (I O ((ys.length:Int)+1))>(I O ((xs.length:Int)+1)) then (I O ((ys.length:Int)+1)) else (I O ((xs.length:Int)+1)))):Nat):Int)-(((M (E V)).length:Nat):Int)))) (Cz [D Ad 0] (A (I O ((((A (if (I O ((ys.length:Int)+1))>(I O ((xs.length:Int)+1)) then (I O ((ys.length:Int)+1)) else (I O ((xs.length:Int)+1)))):Nat):Int)-(((M (E V)).length:Nat):Int)))))::(A9j (D O (I O ((I O ((((A (if (I O ((ys.length:Int)+1))>(I O ((xs.length:Int)+1)) then (I O ((ys.length:Int)+1)) else (I O ((xs.length:Int)+1)))):Nat):Int)-(((M (E V)).length:Nat):Int)))-1)))::(Ac 292 [])))))))))))) (.exit 4) (IZ k us vs n kq qs s j))(n9:RQ 99 [H kq (W qs)] (L 1 ((A9l qs).length) (W (A9l qs))))(n10:RQ 128 [o [F false,H k (W us)],D O s] (Ag w)):RQ 165 [Y W xs,Y W ys] (Ax [H ((A9l qs).length) (W (A9l qs)),H ((M (E w)).length) (W (M (E w)))]):=A9g Qz (Ac 4 (A9n 1 ((A9l qs).length) (W (A9l qs))::(A9j (H ((M (E w)).length) (W (M (E w))))::(Ac 301 [])))) (A9m (A9t (C1.seq (G (t:=(f xs::(f ys::(Ac 2 (A9n 1 0 []::(A9n 1 0 []::(Ac 26 (A9j (F ((ys.length:Int)==1))::(Ac 274 []))))))))) A9w 400 [.r (D O cm),.b false] [0,1,4,5,32] (T n1 (T c1 a0))) (C1.seq (Jn (by rfl) c2 (G (t:=(f xs::(f ys::(Ac 2 (A9n 1 0 []::(A9n 1 0 []::(Ac 26 (A9j (F ((ys.length:Int)==1))::(Ac 274 []))))))))) A9w 400 [] [0,1,4,5,32] a0)) (C1.seq (G A9w 400 [] [0,1,4,5,9] a0) (C1.seq (C1.block hl2) (A9m (A9m (A9m (A9m (A9t (C1.seq (G A9w 400 [.r (CI V),.r (CI U)] [4,5,9,10,11,12,13,14] (T n3 (T n5 (T (show Bs ([D Ad 0,D Ad 0]:List AV)=2*1 from rfl) (T n4 (T n6 (T n7 a0))))))) (C1.seq (C1.block hl8) (G A9w 400 [.r (L 1 ((A9l qs).length) (W (A9l qs))),.r (Ag w)] [4,5] (T n9 (T n10 a0))))))))))))))))
def TDA:Cw:=TBE
theorem oO:Ch AZ TDA:=A9w
theorem A8g{p:Int}{s:Nat}(hp:0<=p/\p<18446744073709551616)(hs:s<=63):I B ((U (An .u64) p &&& U (An .u64) (2^s-1)).toNat)=p % 2^s:=by
 obtain⟨m,rfl⟩:=MC hp.1;have hb:(An .u64)=64:=rfl;have e1:(U 64 (m:Int)).toNat=m:=EM 64 m (by omega);have h2:2^s<=2^63:=B8 (by decide) hs;have h3:0<2^s:=C9 (by decide);have ec:((2:Int)^s-1)=((2^s-1:Nat):Int):=by
  have:((2^s:Nat):Int)=(2:Int)^s:=by simp
  omega
 have e2:(U 64 ((2^s-1:Nat):Int)).toNat=2^s-1:=EM 64 (2^s-1) (by omega);rw[hb,NH,e1,ec,e2,Uu,BF];have h4:m % 2^s<2^s:=HR _ h3;have e3:((m % 2^s:Nat):Int)=(m:Int) % 2^s:=by simp
 rw[<- e3];omega
theorem oP{p:Int}{s:Nat}(hp:0<=p/\p<4294967296)(hs:s<=31):I Ad ((U (An .u32) p &&& U (An .u32) (2^s-1)).toNat)=p % 2^s:=by
 obtain⟨m,rfl⟩:=MC hp.1;have hb:(An .u32)=32:=rfl;have e1:(U 32 (m:Int)).toNat=m:=EM 32 m (by omega);have h2:2^s<=2^31:=B8 (by decide) hs;have h3:0<2^s:=C9 (by decide);have ec:((2:Int)^s-1)=((2^s-1:Nat):Int):=by
  have:((2^s:Nat):Int)=(2:Int)^s:=by simp
  omega
 have e2:(U 32 ((2^s-1:Nat):Int)).toNat=2^s-1:=EM 32 (2^s-1) (by omega);rw[hb,NH,e1,ec,e2,Uu,DW];have h4:m % 2^s<2^s:=HR _ h3;have e3:((m % 2^s:Nat):Int)=(m:Int) % 2^s:=by simp
 rw[<- e3];omega
theorem A8h{p:Int}(hp:0<=p/\p<4294967296):(I Ad ((U (An .u32) p &&& U (An .u32) 2147483648).toNat)==0)=decide (p<2147483648):=by
 obtain⟨m,rfl⟩:=MC hp.1;have hb:(An .u32)=32:=rfl;have e1:(U 32 (m:Int)).toNat=m:=EM 32 m (by omega);have e2:(U 32 2147483648).toNat=2147483648:=EM 32 2147483648 (by decide);rw[hb,NH,e1,e2,DW];have hlt:m &&& 2147483648<=2147483648:=Nat.and_le_right;have key:(m &&& 2147483648=0)↔m<2147483648:=by
  constructor
  ·intro h;have hm:m<2^32:=by omega
   have hb31:(m &&& 2^31).testBit 31=false:=by
    have:(m &&& 2^31)=0:=h;rw[this];rfl
   rw[Ayt] at hb31;have:(2^31:Nat).testBit 31=true:=by decide
   rw[this,Lh] at hb31;refine Nat.lt_pow_two_of_testBit m (n:=31) fun i hi => ?_;rcases Nat.eq_or_lt_of_le hi with h1 | h1
   ·rw[<- h1];exact hb31
   ·exact fN (EW hm (B8 (by decide) (by omega)))
  ·intro h;apply Nat.eq_of_testBit_eq;intro i;rw[Ayt,Nat.zero_testBit];by_cases hi:i=31
   ·subst hi;rw[fN (x:=m) (i:=31) (by omega)];rfl
   ·have:(2147483648:Nat).testBit i=false:=by
     rw[show (2147483648:Nat)=2^31 by decide,Nat.testBit_two_pow];simp;omega
    rw[this,IP]
 rw[bI,beq_iff_eq,decide_eq_true_eq];constructor
 ·intro h;have:m &&& 2147483648=0:=by omega
  have:=key.1 this;omega
 ·intro h;have:=key.2 (by omega);omega
theorem O4{a b:Int}(ha:(M a.natAbs).length<1048576)(hb:(M b.natAbs).length<1048576):RQ 129 [Ag a,Ag b] (Ag (a-b)):=by
 have h:=TG (na:=decide (a<0)) (nb:=decide (b<0)) (BR a.natAbs) (BR b.natAbs) ha hb;rw[F8,F8] at h;exact h
theorem O5{xs:LI}(h:AP xs){v:Int}(hv:0<=v):(Ab xs+v=0)↔(Ab xs=0/\v=0):=by
 have:=AW h;omega
theorem oQ{neg:Bool}{xs ms:LI}{n:Nat}(hu:AP ms)(hn:(n:Int)<=9223372036854775807)(hN:ms.length<=1048576):∀ (r i:Nat),i+r=min ms.length (n / 32) ->
  Ar (.loop Gr) (D6 neg xs (n:Nat) ms (A9i (Ab (ms.take i) ≠ 0)) (i:Nat)) (.exit 0) (D6 neg xs (n:Nat) ms (A9i (Ab (ms.take (n / 32)) ≠ 0)) ((min ms.length (n / 32):Nat):Int)):=by
 have e1:I O (Av (n:Int) 32)=((n / 32:Nat):Int):=by
  rw[BH (by omega),Bl (by omega) (by omega)];omega
 intro r;induction r with
 | zero =>
  intro i hi;have hi':i=min ms.length (n / 32):=by omega
  have et:ms.take i=ms.take (n / 32):=by
   rcases Nat.le_total ms.length (n / 32) with h | h
   ·rw[Et (by omega),Et h]
   ·rw[hi',Nat.min_eq_right h]
  rw[et,<- hi'];by_cases hl:i<ms.length
  ·exact Ao (Aay neg xs _ ms _ _ (by simp;omega) (by rw[e1];simp;omega)) (by nofun)
  ·exact Ao (Aaz neg xs _ ms _ _ (by simp;omega)) (by nofun)
 | succ r ih =>
  intro i hi;have ei:I O ((i:Int)+1)=((i+1:Nat):Int):=by rw[Bl (by omega) (by omega)];omega
  have hm:=AG hu i;have hp:=C3 i;have hts:=DX ms i (by omega);have hz:(Ab (ms.take (i+1))=0)↔(Ab (ms.take i)=0/\ms.getD i 0=0):=by
   have hx:=O5 (DS hu i) (A6 (Aw hp) hm.1);rw[<- hts] at hx;rw[hx,Hs];constructor
   ·rintro⟨a,b⟩;exact⟨a,by omega⟩
   ·rintro⟨a,b⟩;exact⟨a,.inr b⟩
  have step:Ar Gr (D6 neg xs (n:Nat) ms (A9i (Ab (ms.take i) ≠ 0)) (i:Nat)) .norm (D6 neg xs (n:Nat) ms (A9i (Ab (ms.take (i+1)) ≠ 0)) ((i+1:Nat):Int)):=by
   by_cases h0:Ab (ms.take i)=0
   ·have k:=Aax neg xs (n:Nat) ms (A9i (Ab (ms.take i) ≠ 0)) (i:Nat) (by simp;omega) (by rw[e1];simp;omega) (by simp[h0]) (by omega);rw[ei,R] at k;have e2:(ms.getD i 0 != 0)=decide (Ab (ms.take (i+1)) ≠ 0):=by
     rw[bI,bne_iff_ne,decide_eq_true_eq,ne_eq,ne_eq,hz];simp[h0]
    rw[e2] at k;exact k
   ·have k:=Aaw neg xs (n:Nat) ms (A9i (Ab (ms.take i) ≠ 0)) (i:Nat) (by simp;omega) (by rw[e1];simp;omega) (by simp[h0]);rw[ei] at k;have e2:true=decide (Ab (ms.take (i+1)) ≠ 0):=by
     symm;rw[decide_eq_true_eq,ne_eq,hz];exact fun h=>h0 h.1
    rw[<- e2];exact k
  exact C1.loop step (ih (i+1) (by omega))
theorem fO{x y:Int}(hx:0<=x/\x<4294967296){s:Nat}(hs:s<32):(y*4294967296+x) / 2^s % 4294967296=y % 2^s*2^(32-s)+x / 2^s:=by
 have e:=R2 (show s<=32 by omega);have hp:=BP s;have hp2:=BP (32-s);have h1:(y*4294967296+x) / 2^s=y*2^(32-s)+x / 2^s:=by
  rw[e,<- AF,K7,A7y _ _ (by omega),K7]
 have b1:x / 2^s<2^(32-s):=KJ hp (by rw[<- e];exact hx.2);have b0:0<=x / 2^s:=JI hx.1 (by omega);have m0:=FF y (show (2:Int)^s ≠ 0 by omega);have m1:=Ew y hp;have hy2:=G2 y (2^s);rw[h1];have e3:y*2^(32-s)+x / 2^s=(y % 2^s*2^(32-s)+x / 2^s)+4294967296*(y / 2^s):=by
  rw[e];generalize y % 2^s=a at *
  generalize y / 2^s=b at *
  generalize (2:Int)^(32-s)=T at *
  generalize (2:Int)^s=S at *
  generalize x / S=z at *
  rw[<- hy2];grind
 rw[e3,Um];apply Gf
 ·have:=A6 m0 (show (0:Int)<=2^(32-s) by omega);omega
 ·have c1:=Ae (show y % 2^s+1<=2^s by omega) (show (0:Int)<=2^(32-s) by omega);rw[G4,Dt,AA (2^s),<- e] at c1;omega
theorem oR{neg lost:Bool}{xs ms:LI}{sh:Int}{s k:Nat}(hu:AP ms)(hs:s<32)(hN:ms.length<=1048576)(hk:k<=ms.length):∀ (r i:Nat),i+r=ms.length-k ->
  Ar (.loop FR) (Dr neg xs sh ms i (W ((Aq i).map (Dq (ms.drop k) s))) lost (s:Nat) ((k+i:Nat):Int)) (.exit 2) (Dr neg xs sh ms (ms.length-k) (W ((Aq (ms.length-k)).map (Dq (ms.drop k) s))) lost (s:Nat) (ms.length:Nat)):=by
 intro r;induction r with
 | zero =>
  intro i hi;have hi':i=ms.length-k:=by omega
  subst hi';have e0:((k+(ms.length-k):Nat):Int)=(ms.length:Nat):=by omega
  rw[e0];exact Ao (YH neg xs sh ms _ _ lost _ _ (by simp)) (by nofun)
 | succ r ih =>
  intro i hi;have ei:I O (((k+i:Nat):Int)+1)=((k+(i+1):Nat):Int):=by rw[Bl (by omega) (by omega)];omega
  have hx:=AG hu (k+i);have hy:=AG hu (k+i+1);have gx:(ms.drop k).getD i 0=ms.getD (k+i) 0:=by simp[Z,Bw]
  have gy:(ms.drop k).getD (i+1) 0=ms.getD (k+i+1) 0:=by simp[Z,Bw,DE]
  have em:min (A (s:Int)) (An .u64)=s:=by rw[R];show min s 64=s;omega
  have hR:Dq (ms.drop k) s i=(ms.getD (k+i+1) 0*4294967296+ms.getD (k+i) 0) / 2^s % 4294967296:=by
   rw[fO hx hs];unfold Dq;rw[gx,gy]
  have hstep:Ar FR (Dr neg xs sh ms i (W ((Aq i).map (Dq (ms.drop k) s))) lost (s:Nat) ((k+i:Nat):Int)) .norm (Dr neg xs sh ms (i+1) (W ((Aq (i+1)).map (Dq (ms.drop k) s))) lost (s:Nat) ((k+(i+1):Nat):Int)):=by
   have el:W ((Aq (i+1)).map (Dq (ms.drop k) s))=W ((Aq i).map (Dq (ms.drop k) s))++([D Ad (Dq (ms.drop k) s i)]:List AV):=by
    rw[H3,Ep,C8,FU,HO]
   rw[el,hR];by_cases h1:k+i+1<ms.length
   ·have kk:=Aba neg xs sh ms i (W ((Aq i).map (Dq (ms.drop k) s))) lost (s:Nat) ((k+i:Nat):Int) (by simp;omega) (by rw[ei];simp;omega) (by omega) (by rw[ei];omega) (by omega) (by omega);rw[ei,R,R,em] at kk;have w1:I B ((U (An .u64) (I B (ms.getD (k+i) 0)) ||| U (An .u64) (I B ((I B (ms.getD (k+(i+1)) 0))*2^(min (A 32) (An .u64))))).toNat)=ms.getD (k+i+1) 0*4294967296+ms.getD (k+i) 0:=by
     rw[Ut,CC (n:=ms.getD (k+(i+1)) 0) (by rw[<- DE];omega),<- DE];exact Nh hy hx
    have hpos:0<=ms.getD (k+i+1) 0*4294967296+ms.getD (k+i) 0:=by omega
    rw[w1,AAg _ (by have:=BP s;omega),DW] at kk;exact kk
   ·have hz:ms.getD (k+i+1) 0=0:=B0 (by omega);have kk:=Abb neg xs sh ms i (W ((Aq i).map (Dq (ms.drop k) s))) lost (s:Nat) ((k+i:Nat):Int) (by simp;omega) (by rw[ei];simp;omega) (by omega) (by omega) (by omega);rw[ei,R,em,CC (n:=ms.getD (k+i) 0) (by omega),AAg _ (by have:=BP s;omega),DW] at kk;rw[hz,CX,DL];exact kk
  exact C1.loop hstep (ih (i+1) (by omega))
theorem fP{ms:LI}{s k:Nat}(hs:s<32)(hk:k<=ms.length) :
  Ab ms=4294967296^k*(2^s*Ab ((Aq (ms.length-k)).map (Dq (ms.drop k) s))+ms.getD k 0 % 2^s)+Ab (ms.take k):=by
 have h1:=Dw ms hk;have h2:=fM (us:=ms.drop k) s hs (ms.length-k) (by simp);have g0:(ms.drop k).getD 0 0=ms.getD k 0:=by simp[Z,Bw]
 have g1:(ms.drop k).getD (ms.length-k) 0=0:=B0 (by simp);rw[Et (by simp),g0,g1,Int.zero_emod,AI,BE] at h2;rw[h2,h1];generalize Ab (ms.drop k)=X;generalize Ab (ms.take k)=Y;generalize ms.getD k 0 % 2^s=z;have:X-z+z=X:=by omega
 rw[this];omega
theorem W1{neg:Bool}{xs:LI}(hu:AP xs)(n:Nat)(hn:(n:Int)<=9223372036854775807)(hN:xs.length<1048576):RQ 128 [o [F neg,Y W xs],D O (n:Nat)] (Ag (v neg xs / 2^n)):=by
 have t1:=Bp xs;have tu:=Pm hu;have e1:I O (Av (n:Int) 32)=((n / 32:Nat):Int):=by
  rw[BH (by omega),Bl (by omega) (by omega)];omega
 have e2:I B (AC (n:Int) 32)=((n % 32:Nat):Int):=by
  rw[Bu (by omega),BF];omega
 have hs:n % 32<32:=HR _ (by decide);have hmag:=Eh (xs:=xs) (by omega);have ha:=oQ (neg:=neg) (xs:=xs) (n:=n) tu hn (by omega) (min (A9l xs).length (n / 32)) 0 (by omega);rw[Un] at ha;have e0:decide (Ab ([]:LI) ≠ 0)=false:=rfl;rw[e0] at ha;have hof:=U3 (n:=1) (by omega);have hp:=Ij n;have hP:=C3 (n / 32);have hS:=BP (n % 32);rw[<- Ws neg xs];generalize hms:A9l xs=ms at *
 have fin:∀ (q l:Int),0<=l->l<2^n->Ab ms=2^n*q+l->v neg ms / 2^n=if neg=true/\l ≠ 0 then -q-1 else if neg then -q else q:=by
  intro q l hl0 hl1 hv;have hpn:=BP n;unfold v;rw[hv];cases neg with
  | false=>simp only[Cj,if_false,false_and];rw[K7,Tp _ _ (by omega),GQ hl0 hl1];omega
  | true =>
   simp only[if_true,true_and];by_cases h0:l=0
   ·rw[if_neg (by simp[h0]),h0,BE,<- E5,BX _ (by omega)]
   ·rw[if_pos (by simpa using h0)];have : -(2^n*q+l)=(2^n-l)+2^n*(-q-1):=by rw[Fr,E5];omega
    rw[this,Tp _ _ (by omega),GQ (by omega) (by omega)];omega
 by_cases hk:n / 32<ms.length
 ·-- some M are left
  have hb:=oR (neg:=neg) (lost:=decide (Ab (ms.take (n / 32)) ≠ 0)) (xs:=xs) (ms:=ms) (sh:=(n:Int)) (s:=n % 32) (k:=n / 32) tu hs (by omega) (by omega) (ms.length-n / 32) 0 (by omega);have c1:decide ((I O (Av (n:Int) 32))<(ms.length:Int))=true:=by rw[e1];simp;omega
  have hall:=fP (ms:=ms) hs (show n / 32<=ms.length by omega);have ux:AP ((Aq (ms.length-n / 32)).map (Dq (ms.drop (n / 32)) (n % 32))):=QF fun i=>(R6 (E_ tu _) hs i).2.2.2;have hmk:=Ga (neg:=neg) ux (by simp;omega);have hlen:((Aq (ms.length-n / 32)).map (Dq (ms.drop (n / 32)) (n % 32))).length=ms.length-n / 32:=by simp
  unfold Y at hmk;rw[hlen] at hmk;have hq:=EG (neg:=neg) ux;generalize hQ:(Aq (ms.length-n / 32)).map (Dq (ms.drop (n / 32)) (n % 32))=Q at *
  have hm0:=FF (ms.getD (n / 32) 0) (show (2:Int)^(n % 32) ≠ 0 by omega);have hm1:=Ew (ms.getD (n / 32) 0) hS;have ht0:=AW (DS tu (n / 32));have ht1:=Gb tu (n / 32);have hb2:Ar (.loop FR) (Dr neg xs (n:Nat) ms 0 [] (A9i (Ab (ms.take (n / 32)) ≠ 0)) (I B (AC (n:Int) 32)) (I O (Av (n:Int) 32))) (.exit 2) (Dr neg xs (n:Nat) ms (ms.length-n / 32) (W Q) (A9i (Ab (ms.take (n / 32)) ≠ 0)) (I B (AC (n:Int) 32)) (ms.length:Nat)):=by
   rw[e1,e2];exact hb
  have emask:I Ad ((I Ad (1*2^(min (A (I B (AC (n:Int) 32))) (An .u32))))-1)=2^(n % 32)-1:=by
   have:min (A ((n % 32:Nat):Int)) (An .u32)=n % 32:=by rw[R];show min (n % 32) 32=n % 32;omega
   have h31:(2:Int)^(n % 32)<=2147483648:=G6 (show n % 32<=31 by omega);rw[e2,this,Dt,DW,DW];omega
  have ec4:I Ad ((U (An .u32) (ms.getD (A (I O (Av (n:Int) 32))) 0) &&& U (An .u32) (I Ad ((I Ad (1*2^(min (A (I B (AC (n:Int) 32))) (An .u32))))-1))).toNat)=ms.getD (n / 32) 0 % 2^(n % 32):=by
   rw[emask,e1,R];exact oP (AG tu _) (by omega)
  have hl:0<=4294967296^(n / 32)*(ms.getD (n / 32) 0 % 2^(n % 32))+Ab (ms.take (n / 32))/\4294967296^(n / 32)*(ms.getD (n / 32) 0 % 2^(n % 32))+Ab (ms.take (n / 32))<2^n:=by
   rw[hp];generalize (4294967296:Int)^(n / 32)=P at *
   generalize ms.getD (n / 32) 0 % 2^(n % 32)=z at *
   generalize (2:Int)^(n % 32)=S at *
   have a:=A6 (Aw hP) hm0;have b:=Aj (show z+1<=S by omega) (Aw hP);rw[CT,De] at b;omega
  have hf:=fin (Ab Q) _ hl.1 hl.2 (by rw[hall,hp];grind);have hlost:(4294967296^(n / 32)*(ms.getD (n / 32) 0 % 2^(n % 32))+Ab (ms.take (n / 32)) ≠ 0)↔(Ab (ms.take (n / 32)) ≠ 0\/ms.getD (n / 32) 0 % 2^(n % 32) ≠ 0):=by
   have a:=A6 (Aw hP) hm0;by_cases hz:ms.getD (n / 32) 0 % 2^(n % 32)=0
   ·rw[hz,AI,DL];simp
   ·have:0<4294967296^(n / 32)*(ms.getD (n / 32) 0 % 2^(n % 32)):=Be hP (by omega);constructor
    ·intro _;exact .inr hz
    ·intro _;omega
  by_cases hneg:neg=true
  ·subst hneg;have hrv:v true Q = -Ab Q:=rfl;by_cases h0:Ab (ms.take (n / 32)) ≠ 0
   ·rw[hf,if_pos ⟨rfl,hlost.2 (.inl h0)⟩];have hmin:=O4 (a := -Ab Q) (b:=1) (by rw[<- hrv];omega) (by decide);refine nU true (A9i (Ab (ms.take (n / 32)) ≠ 0)) xs (n:Nat) _ (ms.length-n / 32) (W Q) _ (-Ab Q) _ (by rw[hms];exact c1) (by simpa using h0) rfl (by rw[hms];exact hmag) (by rw[hms];exact ha) (by rw[hms];exact hb2) hmk hof hmin
   ·by_cases h1:ms.getD (n / 32) 0 % 2^(n % 32)=0
    ·rw[hf,if_neg (fun h=>by rcases hlost.1 h.2 with g | g;exact h0 g;exact g h1),if_pos rfl];exact nX true (A9i (Ab (ms.take (n / 32)) ≠ 0)) xs (n:Nat) _ (ms.length-n / 32) (W Q) _ (-Ab Q) (by rw[hms];exact c1) (by simpa using h0) rfl (by rw[hms,ec4,h1];rfl) (by rw[hms];exact hmag) (by rw[hms];exact ha) (by rw[hms];exact hb2) (by rw[hms,e1];omega) (by rw[e2];omega) hmk
    ·rw[hf,if_pos ⟨rfl,hlost.2 (.inr h1)⟩];have hmin:=O4 (a := -Ab Q) (b:=1) (by rw[<- hrv];omega) (by decide);exact nW true (A9i (Ab (ms.take (n / 32)) ≠ 0)) xs (n:Nat) _ (ms.length-n / 32) (W Q) _ (-Ab Q) _ (by rw[hms];exact c1) (by simpa using h0) rfl (by rw[hms,ec4];simpa using h1) (by rw[hms];exact hmag) (by rw[hms];exact ha) (by rw[hms];exact hb2) (by rw[hms,e1];omega) (by rw[e2];omega) hmk hof hmin
  ·have hneg':neg=false:=by cases neg <;> simp_all
   subst hneg';rw[hf,if_neg (by simp),if_neg (by simp)];by_cases h0:Ab (ms.take (n / 32)) ≠ 0
   ·exact nV false (A9i (Ab (ms.take (n / 32)) ≠ 0)) xs (n:Nat) _ (ms.length-n / 32) (W Q) _ (Ab Q) (by rw[hms];exact c1) (by simpa using h0) rfl (by rw[hms];exact hmag) (by rw[hms];exact ha) (by rw[hms];exact hb2) hmk
   ·exact nY false (A9i (Ab (ms.take (n / 32)) ≠ 0)) xs (n:Nat) _ (ms.length-n / 32) (W Q) _ (Ab Q) (by rw[hms];exact c1) (by simpa using h0) rfl (by rw[hms];exact hmag) (by rw[hms];exact ha) (by rw[hms];exact hb2) (by rw[hms,e1];omega) (by rw[e2];omega) hmk
 ·-- nothing is left
  have c1:decide ((I O (Av (n:Int) 32))<(ms.length:Int))=false:=by rw[e1];simp;omega
  have htake:ms.take (n / 32)=ms:=Et (by omega);have hb:Ar (.loop FR) (Dr neg xs (n:Nat) ms 0 [] (A9i (Ab (ms.take (n / 32)) ≠ 0)) (I B (AC (n:Int) 32)) (I O (Av (n:Int) 32))) (.exit 2) (Dr neg xs (n:Nat) ms 0 [] (A9i (Ab (ms.take (n / 32)) ≠ 0)) (I B (AC (n:Int) 32)) (I O (Av (n:Int) 32))) :=
   Ao (YH neg xs _ ms _ _ _ _ _ c1) (by nofun)
  have hmk:=Ga (neg:=neg) (xs:=[]) (fun x h=>(nomatch h)) (by simp);have hv0:v neg ([]:LI)=0:=by unfold v;cases neg <;> rfl
  rw[hv0] at hmk;have hlt:Ab ms<2^n:=by
   have a:=DJ tu;have b:=Gj (show ms.length<=n / 32 by omega);rw[hp];have:=Aj (show (1:Int)<=2^(n % 32) by omega) (show (0:Int)<=4294967296^(n / 32) by omega);rw[De] at this;omega
  have hf:=fin 0 (Ab ms) (AW tu) hlt (by rw[AI,DL]);by_cases hneg:neg=true
  ·subst hneg;by_cases h0:Ab ms ≠ 0
   ·rw[hf,if_pos ⟨rfl,h0⟩];have hmin:=O4 (a:=0) (b:=1) (by decide) (by decide);exact nZ true (A9i (Ab (ms.take (n / 32)) ≠ 0)) xs (n:Nat) _ 0 [] _ 0 _ (by rw[hms];exact c1) rfl (by rw[htake];simpa using h0) (by rw[hms];exact hmag) (by rw[hms];exact ha) (by rw[hms];exact hb) hmk hof hmin
   ·rw[hf,if_neg (fun h=>h0 h.2),if_pos rfl];exact oD true (A9i (Ab (ms.take (n / 32)) ≠ 0)) xs (n:Nat) _ 0 [] _ 0 (by rw[hms];exact c1) rfl (by rw[htake];simpa using h0) (by rw[hms];exact hmag) (by rw[hms];exact ha) (by rw[hms];exact hb) hmk
  ·have hneg':neg=false:=by cases neg <;> simp_all
   subst hneg';rw[hf,if_neg (by simp),if_neg (by simp)];exact oF false (A9i (Ab (ms.take (n / 32)) ≠ 0)) xs (n:Nat) _ 0 [] _ 0 (by rw[hms];exact c1) rfl (by rw[hms];exact hmag) (by rw[hms];exact ha) (by rw[hms];exact hb) hmk
def TDB:Cw:=TDA
theorem oT:Ch AZ TDB:=oO
theorem oU{xs:LI}{d:Int}(hx:AP xs)(hd:0<d/\d<4294967296)(hN:xs.length<=1048576):∀ (i:Nat) (qs:LI) (r:Int),i<=xs.length->qs.length=xs.length->AP qs->0<=r/\r<d->(∀ t,t<i->qs.getD t 0=0) ->
  ∃ qs' r',Ar (.loop Rq) (Nj xs [d] xs.length qs r ((i:Int)-1)) (.exit 0) (Nj xs [d] xs.length qs' r' (-1))/\qs'.length=xs.length/\AP qs'/\(0<=r'/\r'<d)/\d*Ab qs'+r'=d*Ab qs+4294967296^i*r+Ab (xs.take i):=by
 intro i;induction i with
 | zero =>
  intro qs r _ hl hu hr _;refine⟨qs,r,Ao (Abd xs [d] xs.length qs r _ (by simp)) (by nofun),hl,hu,hr,by simp[Ab]⟩
 | succ i ih =>
  intro qs r hi hl hu hr hz;have ei:(((i+1:Nat):Int)-1)=(i:Nat):=by omega
  have ej:I O ((i:Int)-1)=(i:Int)-1:=Bl (by omega) (by omega);have hxi:=AG hx i;have ed:([d]:LI).getD (A 0) 0=d:=rfl;have hk:=Abc xs [d] xs.length qs r (i:Nat) (by simp) (by omega) (by simp) (by rw[ed,CC (by omega)];omega) (by omega) hl;rw[ej,R,ed,Nh (by omega) hxi,CC (n:=d) (by omega)] at hk;have hv0:0<=r*4294967296+xs.getD i 0:=by omega
  rw[BH hv0,Bu hv0] at hk;generalize hv:r*4294967296+xs.getD i 0=v at *
  have hm:=G2 v d;have hm0:=FF v (show d ≠ 0 by omega);have hm1:=Ew v hd.1;have hq0:0<=v / d:=JI hv0 (by omega);have hq1:v / d<4294967296:=by
   apply KJ hd.1;have:=Ae (show r<=d-1 by omega) (show (0:Int)<=4294967296 by omega);have:(d-1)*4294967296=4294967296*d-4294967296:=by omega
   omega
  rw[CC (n:=v / d) (by omega),R1 ⟨hq0,hq1⟩] at hk;obtain⟨qs',r',g1,g2,g3,g4,g5⟩:=ih (qs.set i (v / d)) (v % d) (by omega) (by simpa using hl) (C2 hu ⟨hq0,hq1⟩) ⟨hm0,hm1⟩ (fun t ht=>by rw[Cy (by omega)];exact hz t (by omega));rw[ei];refine⟨qs',r',C1.loop hk g1,g2,g3,g4,?_⟩;rw[g5,DP _ _ _ (by omega),hz i (by omega),DX xs i (by omega),A2];generalize (4294967296:Int)^i=P at *
  have e2:xs.getD i 0=d*(v / d)+v % d-r*4294967296:=by omega
  rw[e2];grind
theorem oV{xs ys:LI}{y:Int}{s:Nat}(hy0:ys ≠ [])(hyl:ys.length<=1048576)(hy:ys.getD (ys.length-1) 0=y)(hb:0<y)(hs:s<32)(h1:2147483648<=y*2^s)(h2:y*2^s<4294967296):∀ (r i:Nat),i+r=s ->
  Ar (.loop Rp) (L3 xs ys (i:Nat)) (.exit 2) (L3 xs ys (s:Nat)):=by
 have hpos:=Am.2 hy0;have en:I O ((ys.length:Int)-1)=((ys.length-1:Nat):Int):=by rw[Bl (by omega) (by omega)];omega
 have cond:∀ i:Nat,i<=s->(I Ad ((U (An .u32) (I Ad ((ys.getD (A (I O ((ys.length:Int)-1))) 0)*2^(min (A (I B (i:Int))) (An .u32)))) &&& U (An .u32) 2147483648).toNat)==0)=decide (y*2^i<2147483648):=by
  intro i hi;have em:min (A (i:Int)) (An .u32)=i:=by rw[R];show min i 32=i;omega
  have hp:=G6 hi;have hp0:=BP i;have hle:=Aj hp (show 0<=y by omega);have hge:=A6 (show 0<=y by omega) (show (0:Int)<=2^i by omega);rw[CC (n:=(i:Int)) (by omega),em,en,R,hy,R1 (n:=y*2^i) (by omega)];exact A8h (by omega)
 intro r;induction r with
 | zero =>
  intro i hi;have:i=s:=by omega
  subst this;exact Ao (Abf xs ys _ (by rw[cond i (Ap _)];simp;omega) (by rw[en];omega) (by rw[CC (by omega)];omega)) (by nofun)
 | succ r ih =>
  intro i hi;have ei:I O ((i:Int)+1)=((i+1:Nat):Int):=by rw[Bl (by omega) (by omega)];omega
  have hlt:y*2^i<2147483648:=by
   have hp:=G6 (show i+1<=s by omega);rw[A2] at hp;have hle:=Aj hp (show 0<=y by omega);rw[<- AF] at hle;omega
  have k:=Abe xs ys (i:Nat) (by rw[cond i (by omega)];simpa using hlt) (by rw[en];omega) (by rw[CC (by omega)];omega);rw[ei] at k;exact C1.loop k (ih (i+1) (by omega))
section
variable {k:Nat} {us vs:LI} {kq:Nat} {qs:LI} {s:Int} {j m:Nat}
theorem oW(hvl:vs.length=m+2)(hl:us.length=k)(hk:k<=1048577)(hj:j+m+2<k)(h:Dig m (Ab vs) (Ab (us.drop j)) (vs.getD (m+1) 0) (vs.getD m 0) (us.getD (j+m+2) 0) (us.getD (j+m+1) 0) (us.getD (j+m) 0)):∀ (f:Nat) (g r:Int),g.toNat<=f ->
  DigI (Ab vs) (Ab (us.drop j)) (vs.getD (m+1) 0) (us.getD (j+m+2) 0*4294967296+us.getD (j+m+1) 0) g r->r<4294967296 ->
  ∃ g' r',Ar (.loop HU) (Ev k us vs ((m+2:Nat):Int) kq qs s (j:Nat) g r) (.exit 6) (Ev k us vs ((m+2:Nat):Int) kq qs s (j:Nat) g' r') /\
   (0<=g'/\g'<4294967296)/\Ab (us.drop j)<(g'+1)*Ab vs/\g'*Ab vs<Ab (us.drop j)+Ab vs:=by
 have ht:=h.htop;have hnx:=h.hnxt;have hz:=h.hz;have e1:I O (I O ((j:Int)+((m+2:Nat):Int))-2)=((j+m:Nat):Int):=by
  rw[Bl (n:=(j:Int)+((m+2:Nat):Int)) (by omega) (by omega),Bl (by omega) (by omega)];omega
 have e2:I O (((m+2:Nat):Int)-2)=(m:Int):=by rw[Bl (by omega) (by omega)];omega
 have e3:I O (((m+2:Nat):Int)-1)=((m+1:Nat):Int):=by rw[Bl (by omega) (by omega)];omega
 have et:I B (vs.getD (A (I O (((m+2:Nat):Int)-1))) 0)=vs.getD (m+1) 0:=by rw[e3,R,CC (by omega)]
 have en:I B (vs.getD (A (I O (((m+2:Nat):Int)-2))) 0)=vs.getD m 0:=by rw[e2,R,CC (by omega)]
 have n2:0<=I O (((m+2:Nat):Int)-2)/\I O (((m+2:Nat):Int)-2)<(vs.length:Int):=by rw[e2];omega
 have n1:0<=I O (((m+2:Nat):Int)-1)/\I O (((m+2:Nat):Int)-1)<(vs.length:Int):=by rw[e3];omega
 have nu:0<=I O (I O ((j:Int)+((m+2:Nat):Int))-2)/\I O (I O ((j:Int)+((m+2:Nat):Int))-2)<(k:Int):=by rw[e1];omega
 have ecmp:∀ g r:Int,0<=r->r<4294967296->0<=g*vs.getD m 0/\g*vs.getD m 0<18446744073709551616->(A9i (I B (g*(I B (vs.getD (A (I O (((m+2:Nat):Int)-2))) 0)))>I B ((U (An .u64) (I B (r*2^(min (A 32) (An .u64)))) ||| U (An .u64) (I B (us.getD (A (I O (I O ((j:Int)+((m+2:Nat):Int))-2))) 0))).toNat)):Bool)=decide (r*4294967296+us.getD (j+m) 0<g*vs.getD m 0):=by
  intro g r hr0 hr hgn;rw[en,e1,R,Nh ⟨hr0,hr⟩ hz,CC hgn]
 intro f;induction f with
 | zero =>
  intro g r hf i hr;have hg:g=0:=by have:=i.g0;omega
  subst hg;have c2:¬ (r*4294967296+us.getD (j+m) 0<0*vs.getD m 0):=by have:=i.r0;omega
  have k5:=YI k us vs ((m+2:Nat):Int) kq qs s (j:Nat) 0 r (by simp) (by simpa using hr) (by
   rw[ecmp 0 r i.r0 hr (by omega),decide_eq_false_iff_not];exact c2) n2 nu hl
  exact⟨0,r,Ao k5 (by nofun),by omega,i.up,h.out i (by omega) (PR (by omega))⟩
 | succ f ih =>
  intro g r hf i hr;have hg1:=i.gle;have hg0:=i.g0;have hr0:=i.r0;have hgn:0<=g*vs.getD m 0/\g*vs.getD m 0<18446744073709551616:=by
   have a:=A6 hg0 hnx.1;have b:=Eb hg1 (show vs.getD m 0<=4294967295 by omega) hnx.1 (by omega);omega
  have er:I B (r+(I B (vs.getD (A (I O (((m+2:Nat):Int)-1))) 0)))=r+vs.getD (m+1) 0:=by rw[et];exact CC (by omega)
  by_cases hc:4294967296<=g\/r*4294967296+us.getD (j+m) 0<g*vs.getD m 0
  ·have i2:=h.step i hc;have hg2:=i2.g0;have eg:I B (g-1)=g-1:=CC (by omega);by_cases hbig:4294967296<=r+vs.getD (m+1) 0
   ·have hgs:=h.small_g i2 hbig;have hrun:Ar HU (Ev k us vs ((m+2:Nat):Int) kq qs s (j:Nat) g r) (.exit 6) (Ev k us vs ((m+2:Nat):Int) kq qs s (j:Nat) (I B (g-1)) (I B (r+(I B (vs.getD (A (I O (((m+2:Nat):Int)-1))) 0))))):=by
     by_cases hg:4294967296<=g
     ·exact Abg k us vs _ kq qs s _ g r (by simpa using hg) (by rw[er];simpa using hbig) n1
     ·exact Abi k us vs _ kq qs s _ g r (by simp;omega) (by simpa using hr) (by rw[ecmp g r hr0 hr hgn,decide_eq_true_eq];omega) (by rw[er];simpa using hbig) n2 nu hl n1
    rw[eg,er] at hrun;exact⟨g-1,_,Ao hrun (by nofun),⟨hg2,hgs⟩,i2.up,h.out i2 hgs (vL hbig)⟩
   ·have hrun:Ar HU (Ev k us vs ((m+2:Nat):Int) kq qs s (j:Nat) g r) .norm (Ev k us vs ((m+2:Nat):Int) kq qs s (j:Nat) (I B (g-1)) (I B (r+(I B (vs.getD (A (I O (((m+2:Nat):Int)-1))) 0))))):=by
     by_cases hg:4294967296<=g
     ·exact Abh k us vs _ kq qs s _ g r (by simpa using hg) (by rw[er,decide_eq_false_iff_not];omega) n1
     ·exact Abj k us vs _ kq qs s _ g r (by simp;omega) (by simpa using hr) (by rw[ecmp g r hr0 hr hgn,decide_eq_true_eq];omega) (by rw[er,decide_eq_false_iff_not];omega) n2 nu hl n1
    rw[eg,er] at hrun;obtain⟨g',r',a1,a2⟩:=ih (g-1) (r+vs.getD (m+1) 0) (by omega) i2 (by omega);exact⟨g',r',C1.loop hrun a1,a2⟩
  ·have k5:=YI k us vs ((m+2:Nat):Int) kq qs s (j:Nat) g r (by simp;omega) (by simpa using hr) (by rw[ecmp g r hr0 hr hgn,decide_eq_false_iff_not];omega) n2 nu hl;exact⟨g,r,Ao k5 (by nofun),by omega,i.up,h.out i (by omega) (PR (by omega))⟩
end
section
variable {k:Nat} {vs:LI} {kq:Nat} {qs:LI} {s:Int} {j:Nat} {g:Int}
theorem oX(hv:AP vs)(hk:k<=1048577)(hg:0<=g/\g<4294967296)(hj:j+vs.length<=k):∀ (r i:Nat) (us:LI) (b c:Int),r+i=vs.length->us.length=k->AP us->0<=b/\b<=1->0<=c/\c<4294967296 ->
  Ar (.loop Pf) (Jr k us vs (vs.length:Nat) kq qs s (j:Nat) g b c (i:Nat)) (.exit 8) (Jr k (FK g vs j r i us b c).1 vs (vs.length:Nat) kq qs s (j:Nat) g (FK g vs j r i us b c).2.1 (FK g vs j r i us b c).2.2 (vs.length:Nat)):=by
 intro r;induction r with
 | zero =>
  intro i us b c hi _ _ _ _;have:i=vs.length:=by omega
  subst this;exact Ao (Abl k us vs _ kq qs s _ g b c _ (by simp)) (by nofun)
 | succ r ih =>
  intro i us b c hi hl hu hb hc;have ei:I O ((i:Int)+1)=((i+1:Nat):Int):=by rw[Bl (by omega) (by omega)];omega
  have eij:I O ((i:Int)+(j:Int))=((i+j:Nat):Int):=by rw[Bl (by omega) (by omega)];omega
  have hvi:=AG hv i;have hui:=AG hu (i+j);have hw:=Wu hg hvi hc;have hgv:=A6 hg.1 hvi.1;have h1:=Abk k us vs (vs.length:Nat) kq qs s (j:Nat) g b c (i:Nat) (by simp;omega) (by omega) (by rw[eij];omega) hl;have ecc:c+g*vs.getD i 0=g*vs.getD i 0+c:=K7 _ _;rw[eij,ei,R,R,CC (n:=vs.getD i 0) (by omega),CC (n:=us.getD (i+j) 0) (by omega),CC (n:=g*vs.getD i 0) (by omega),ecc,CC hw,YE,Asj] at h1;have emk:I B ((U (An .u64) (g*vs.getD i 0+c) &&& U (An .u64) 4294967295).toNat)=(g*vs.getD i 0+c) % 4294967296:=A8g (s:=32) hw (by decide);rw[emk] at h1;generalize hp:g*vs.getD i 0+c=p at *
  rw[BF,BF] at h1;have hstep:FK g vs j (r+1) i us b c=FK g vs j r (i+1) (us.set (i+j) ((us.getD (i+j) 0-p % 4294967296-b) % 4294967296)) (if us.getD (i+j) 0-p % 4294967296-b<0 then 1 else 0) (p / 4294967296):=by rw[FK,hp]
  generalize hd:us.getD (i+j) 0-p % 4294967296-b=d at *
  have e1:I Ad (((us.getD (i+j) 0-p % 4294967296) % 18446744073709551616-b) % 18446744073709551616)=d % 4294967296:=by rw[DW];omega
  have e2:((us.getD (i+j) 0-p % 4294967296) % 18446744073709551616-b) % 18446744073709551616 / 9223372036854775808=(if d<0 then 1 else 0):=by split <;> omega
  rw[e1,e2] at h1;rw[hstep];exact C1.loop h1 (ih (i+1) _ _ _ (by omega) (by simpa using hl) (C2 hu (by omega)) (by split <;> omega) (by omega))
theorem oY(hv:AP vs)(hk:k<=1048577)(hj:j+vs.length<=k):∀ (r i:Nat) (us:LI) (c:Int),r+i=vs.length->us.length=k->AP us->0<=c/\c<=1 ->
  Ar (.loop Rr) (L5 k us vs (vs.length:Nat) kq qs s (j:Nat) g c (i:Nat)) (.exit 10) (L5 k (Il vs j r i us c).1 vs (vs.length:Nat) kq qs s (j:Nat) g (Il vs j r i us c).2 (vs.length:Nat)):=by
 intro r;induction r with
 | zero =>
  intro i us c hi _ _ _;have:i=vs.length:=by omega
  subst this;exact Ao (Abn k us vs _ kq qs s _ g c _ (by simp)) (by nofun)
 | succ r ih =>
  intro i us c hi hl hu hc;have ei:I O ((i:Int)+1)=((i+1:Nat):Int):=by rw[Bl (by omega) (by omega)];omega
  have eij:I O ((i:Int)+(j:Int))=((i+j:Nat):Int):=by rw[Bl (by omega) (by omega)];omega
  have hvi:=AG hv i;have hui:=AG hu (i+j);have h1:=Abm k us vs (vs.length:Nat) kq qs s (j:Nat) g c (i:Nat) (by simp;omega) (by rw[eij];omega) hl (by omega);have ecc:c+(us.getD (i+j) 0+vs.getD i 0)=us.getD (i+j) 0+vs.getD i 0+c:=K7 _ _;rw[eij,ei,R,R,CC (n:=vs.getD i 0) (by omega),CC (n:=us.getD (i+j) 0) (by omega),CC (n:=us.getD (i+j) 0+vs.getD i 0) (by omega),ecc,CC (n:=us.getD (i+j) 0+vs.getD i 0+c) (by omega),YE,DW] at h1;exact C1.loop h1 (ih (i+1) _ _ (by omega) (by simpa using hl) (C2 hu (by omega)) (by omega))
end
def TDC:Cw:=TDB
theorem oZ:Ch AZ TDC:=oT
section
variable {vs:LI} {m:Nat} {k kq:Nat} {s:Int}
theorem Abo(hv:AP vs)(hm:vs.length=m+2)(ht:2147483648<=vs.getD (m+1) 0)(hk:k=kq+vs.length)(hkb:k<=1048577):∀ (i:Nat) (us qs:LI),i<=kq->us.length=k->AP us->qs.length=kq->AP qs->(∀ t,t<i->qs.getD t 0=0)->Ab (us.drop i)<Ab vs ->
  ∃ us' qs',Ar (.loop Ol) (IZ k us vs (vs.length:Nat) kq qs s ((i:Int)-1)) (.exit 4) (IZ k us' vs (vs.length:Nat) kq qs' s (-1)) /\
   us'.length=k/\AP us'/\qs'.length=kq/\AP qs'/\Ab us'<Ab vs/\Ab us=Ab vs*(Ab qs'-Ab qs)+Ab us':=by
 intro i;induction i with
 | zero =>
  intro us qs _ h1 h2 h3 h4 _ h6;exact⟨us,qs,Ao (Atl k us vs _ kq qs s _ (by simp)) (by nofun),h1,h2,h3,h4,h6,by rw[P9,AI,DL]⟩
 | succ i ih =>
  intro us qs hi h1 h2 h3 h4 h5 h6;have ei:(((i+1:Nat):Int)-1)=(i:Nat):=by omega
  have ej:I O ((i:Int)-1)=(i:Int)-1:=Bl (by omega) (by omega);have en:I O ((i:Int)+(vs.length:Int))=((i+vs.length:Nat):Int):=by rw[Bl (by omega) (by omega)];omega
  have en1:I O (((i+vs.length:Nat):Int)-1)=((i+m+1:Nat):Int):=by rw[Bl (by omega) (by omega)];omega
  have ev1:I O ((vs.length:Int)-1)=((m+1:Nat):Int):=by rw[Bl (by omega) (by omega)];omega
  have hD:=uK (us:=us) (vs:=vs) (j:=i) (m:=m) h2 hv hm (by omega) ht h6;have hI:=hD.init;have hr1:=Ew (us.getD (i+m+2) 0*4294967296+us.getD (i+m+1) 0) (show 0<vs.getD (m+1) 0 by omega);have ht2:=hD.htop;have et:I B (vs.getD (A (I O ((vs.length:Int)-1))) 0)=vs.getD (m+1) 0:=by rw[ev1,R,CC (by omega)]
  obtain⟨g,r,q1,q2,q3,q4⟩:=oW (k:=k) (kq:=kq) (qs:=qs) (s:=s) hm h1 hkb (by omega) hD _ _ _ (Ap _) hI (by omega);rw[<- hm] at q1;have hn0:0<=us.getD (i+m+2) 0*4294967296+us.getD (i+m+1) 0:=by have:=hD.hx;have:=hD.hy;omega
  have hq0:=hI.g0;have hq1:=hI.gle;have hl5:Ar (.loop HU) (Ev k us vs (vs.length:Nat) kq qs s (i:Nat) (I B (Av (I B ((U (An .u64) (I B ((I B (us.getD (A (I O ((i:Int)+(vs.length:Int)))) 0))*2^(min (A 32) (An .u64)))) ||| U (An .u64) (I B (us.getD (A (I O ((I O ((i:Int)+(vs.length:Int)))-1))) 0))).toNat)) (I B (vs.getD (A (I O ((vs.length:Int)-1))) 0)))) (AC (I B ((U (An .u64) (I B ((I B (us.getD (A (I O ((i:Int)+(vs.length:Int)))) 0))*2^(min (A 32) (An .u64)))) ||| U (An .u64) (I B (us.getD (A (I O ((I O ((i:Int)+(vs.length:Int)))-1))) 0))).toNat)) (I B (vs.getD (A (I O ((vs.length:Int)-1))) 0)))) (.exit 6) (Ev k us vs (vs.length:Nat) kq qs s (i:Nat) g r):=by
   rw[et,en,en1,R,R,show i+vs.length=i+m+2 by omega,CC (n:=us.getD (i+m+2) 0) (by have:=hD.hx;omega),Nh hD.hx hD.hy,BH hn0,Bu hn0,CC ⟨hq0,by omega⟩];exact q1
  have hms:=oX (k:=k) (kq:=kq) (qs:=qs) (s:=s) (j:=i) (g:=g) hv hkb q2 (by omega) vs.length 0 us 0 0 (by omega) h1 h2 (by omega) (by omega);have hmo:=Wv (j:=i) q2 hv vs.length 0 us 0 0 (by omega) (by omega) h2 (by omega) (by omega);have hst:=TI h2 hv (j:=i) (by omega) h6 q2 q3 q4;generalize hM:FK g vs i vs.length 0 us 0 0=M at *
  obtain⟨m1,m2,m3,m4,_,_⟩:=hmo;obtain⟨d1,d2⟩:=Asy (AG m2 (i+vs.length)) m4 m3;dsimp only at hst;obtain⟨S1,S2⟩:=hst;have fin:∀ (ws:LI) (q:Int),StepOk us vs ws i q->(0<=q/\q<4294967296)->Ar Ol (IZ k us vs (vs.length:Nat) kq qs s (i:Nat)) .norm (IZ k ws vs (vs.length:Nat) kq (qs.set i q) s ((i:Int)-1)) ->
    ∃ us' qs',Ar (.loop Ol) (IZ k us vs (vs.length:Nat) kq qs s (i:Nat)) (.exit 4) (IZ k us' vs (vs.length:Nat) kq qs' s (-1)) /\
   us'.length=k/\AP us'/\qs'.length=kq/\AP qs'/\Ab us'<Ab vs/\Ab us=Ab vs*(Ab qs'-Ab qs)+Ab us':=by
   intro ws q hs hq hrun;obtain⟨us',qs',a1,a2,a3,a4,a5,a6,a7⟩:=ih ws (qs.set i q) (by omega) (by rw[hs.len];exact h1) hs.u32 (by simpa using h3) (C2 h4 hq) (fun t ht=>by rw[Cy (by omega)];exact h5 t (by omega)) hs.low;refine⟨us',qs',C1.loop hrun a1,a2,a3,a4,a5,a6,?_⟩;have e:=hs.val;rw[DP _ _ _ (by omega),h5 i (by omega),EU] at a7;generalize (4294967296:Int)^i=P at *
   grind
  have hn5:¬ I B (vs.getD (A (I O ((vs.length:Int)-1))) 0)=0:=by rw[et];omega
  rw[ei];by_cases hd:M.1.getD (i+vs.length) 0-M.2.2-M.2.1<0
  ·obtain⟨S2,hg1⟩:=S2 hd;have hu2:AP (M.1.set (i+vs.length) ((M.1.getD (i+vs.length) 0-M.2.2-M.2.1) % 4294967296)):=C2 m2 (by omega);have hab:=oY (k:=k) (kq:=kq) (qs:=qs) (s:=s) (j:=i) (g:=g-1) hv hkb (by omega) vs.length 0 (M.1.set (i+vs.length) ((M.1.getD (i+vs.length) 0-M.2.2-M.2.1) % 4294967296)) 0 (by omega) (by rw[A_,m1];exact h1) hu2 (by omega);have hao:=Ww (j:=i) hv vs.length 0 (M.1.set (i+vs.length) ((M.1.getD (i+vs.length) 0-M.2.2-M.2.1) % 4294967296)) 0 (by omega) (by rw[A_,m1];omega) hu2 (by omega);obtain⟨b1,b2,b3,_,_⟩:=hao;generalize hB:Il vs i vs.length 0 (M.1.set (i+vs.length) ((M.1.getD (i+vs.length) 0-M.2.2-M.2.1) % 4294967296)) 0=Bb at *
   have eg:I B (g-1)=g-1:=CC (by omega);have k1:=Atj k us vs (vs.length:Nat) kq qs s (i:Nat) M.1 Bb.1 g r M.2.1 M.2.2 Bb.2 (by simp) (by rw[en,R,d1,if_pos hd];rfl) (by rw[en];omega) h1 (by rw[en,en1];omega) (by rw[ev1];omega) hn5 hl5 hms (by rw[m1];exact h1) (by rw[en,R,d2,eg];exact hab) (by rw[b1,A_,m1];exact h1) (by omega) h3;rw[en,R,eg,R,R1 (n:=g-1) (by omega),ej,R1 (n:=Bb.2) (by omega),DW] at k1;exact fin _ _ S2 (by omega) k1
  ·have k2:=Atk k us vs (vs.length:Nat) kq qs s (i:Nat) M.1 g r M.2.1 M.2.2 (by simp) (by rw[en,R,d1,if_neg hd];rfl) (by rw[en];omega) h1 (by rw[en,en1];omega) (by rw[ev1];omega) hn5 hl5 hms (by rw[m1];exact h1) (by omega) h3;rw[en,R,R,d2,R1 (n:=g) q2,ej] at k2;exact fin _ _ (S1 (by omega)) q2 k2
end
abbrev lz(n:Int):LI:=M n.toNat
theorem Abp{xs:LI}(h:Ft xs):xs=lz (Ab xs):=by
 refine SG h (Cl _) ?_;rw[Cx];have:=AW h.1;omega
theorem A2i{n:Int}(h:0<=n):M n.natAbs=lz n:=by unfold lz;congr 1;omega
theorem rvF(xs:LI):v false xs=Ab xs:=rfl
theorem fQ{xs ys:LI}(hx:Ft xs)(hy:Ft ys)(hy0:ys ≠ [])(h1:xs.length<1000000)(h2:ys.length<1000000) :
  RQ 165 [Y W xs,Y W ys] (Ax [H (lz (Ab xs / Ab ys)).length (W (lz (Ab xs / Ab ys))),H (lz (Ab xs % Ab ys)).length (W (lz (Ab xs % Ab ys)))]):=by
 have hyl:=Am.2 hy0;have hcmp:=Ow hx hy (by omega);have hx0:=AW hx.1;have hyp:=IT hy hy0;by_cases hlt:Ab xs<Ab ys
 ·rw[GQ hx0 hlt,Gf hx0 hlt,<- Abp hx];exact oH xs ys _ (by unfold CR;rw[if_pos hlt];rfl) hcmp
 have hcm:decide (CR (Ab xs) (Ab ys)<0)=false:=by unfold CR;rw[if_neg hlt];split <;> rfl
 by_cases hone:ys.length=1
 ·obtain⟨y,rfl⟩:=A5b.1 hone;have e1:Ab [y]=y:=by simp[Ab]
  rw[e1] at hyp |-;have hyb:=hy.1 y (by simp);obtain⟨qs,r,q1,q2,q3,q4,q5⟩:=oU hx.1 (d:=y) ⟨hyp,hyb.2⟩ (by omega) xs.length (At xs.length 0) 0 (Ap _) (by simp) (EN _) (by omega) (fun t _=>DA _ _);rw[ED,EE,AI,AI,BE,DL] at q5;have hd:=(LM hyp (a:=Ab xs) (r:=r) (q:=Ab qs)).2 ⟨by omega,q4.1,q4.2⟩;have ur:AP [r]:=fun x h=>by rw[IF.1 h];omega
  have er:Ab [r]=r:=by simp[Ab]
  have h:=oJ xs [y] qs _ r (-1) xs.length hcm rfl hcmp (by omega) (by
   rw[R,EY,Bl (by omega) (by omega)];exact q1) (by rw[<- q2];exact Eh (by omega)) (by rw[R1 (n:=r) (by omega)];exact Eh (xs:=[r]) (by simp))
  rw[R1 (n:=r) (by omega),IV q3,IV ur,er,<- hd.1,<- hd.2] at h;exact h
 ·obtain⟨m,hm⟩:∃ m,ys.length=m+2:=⟨ys.length-2,by omega⟩;have hxl:ys.length<=xs.length:=by
   rcases Cn xs.length ys.length with g | g
   ·exact absurd (IW hx hy g) hlt
   ·exact g
  have hyt:0<ys.getD (m+1) 0/\ys.getD (m+1) 0<4294967296:=by
   have a:=AG hy.1 (m+1);rcases hy.2 with g | g
   ·exact absurd g hy0
   ·rw[show ys.length-1=m+1 by omega] at g;omega
  obtain⟨s,hs,s1,s2,_⟩:=uL hyt;have hp:=BP s;have hU:=R0 (neg:=false) hx.1 s (by omega);have hV:=R0 (neg:=false) hy.1 s (by omega);rw[rvF] at hU hV;have hU0:0<=Ab xs*2^s:=A6 hx0 (by omega);have hV0:0<Ab ys*2^s:=Be hyp hp;have eu:Ab (M (Ab xs*2^s).natAbs)=Ab xs*2^s:=by rw[Cx];omega
  have ev:Ab (M (Ab ys*2^s).natAbs)=Ab ys*2^s:=by rw[Cx];omega
  have cu:=Cl (Ab xs*2^s).natAbs;have cv:=Cl (Ab ys*2^s).natAbs;have hp2:(2:Int)^s<=2147483648:=by
   have:=G6 (show s<=31 by omega);rwa [show (2:Int)^31=2147483648 by decide] at this
  have ysplit:=Dw ys (j:=m+1) (by omega);have yd:=CA ys (m+1);rw[DQ (xs:=ys) (i:=m+1+1) (by omega),AI,BE] at yd;rw[yd] at ysplit;have ylo:=Gb hy.1 (m+1);have ylo0:=AW (DS hy.1 (m+1));have hP:=C3 (m+1);have hV1:2147483648*4294967296^(m+1)<=Ab ys*2^s:=by
   rw[ysplit];have a:=Ae s1 (show (0:Int)<=4294967296^(m+1) by omega);have b:=A6 (show (0:Int)<=2^s by omega) ylo0;have e:(Ab (BD (m+1) ys)+4294967296^(m+1)*ys.getD (m+1) 0)*2^s=2^s*Ab (BD (m+1) ys)+ys.getD (m+1) 0*2^s*4294967296^(m+1):=by grind
   omega
  have e9:(4294967296:Int)^(m+2)=4294967296^(m+1)*4294967296:=A2 _ _;have hV2:Ab ys*2^s<4294967296^(m+2):=by
   rw[ysplit];have e0:=R2 (show s<=32 by omega);have a1:ys.getD (m+1) 0+1<=2^(32-s):=by
    rw[e0] at s2;have:=Do s2 (by omega);omega
   have a2:=Ae a1 (show (0:Int)<=2^s*4294967296^(m+1) by have:=Be hp hP;omega);have a3:=H6 ylo hp;have e1:(ys.getD (m+1) 0+1)*(2^s*4294967296^(m+1))=2^s*(4294967296^(m+1)*ys.getD (m+1) 0)+2^s*4294967296^(m+1):=by grind
   have e2:(2:Int)^(32-s)*(2^s*4294967296^(m+1))=4294967296^(m+1)*4294967296:=by rw[<- AF,<- e0,AA]
   rw[AA,CT];omega
  have hvl1:(M (Ab ys*2^s).natAbs).length<=m+2:=KP cv (by rw[ev];exact hV2);have hvl2:m+2<=(M (Ab ys*2^s).natAbs).length:=by
   apply N7;intro hh;have a:=DJ cv.1;rw[ev] at a;have b:=Gj (show (M (Ab ys*2^s).natAbs).length<=m+1 by omega);omega
  have hUlt:Ab xs*2^s<4294967296^(xs.length+1):=by
   have a:=DJ hx.1;have b:=AU a hp;have c:=Aj hp2 (show (0:Int)<=4294967296^xs.length by have:=C3 xs.length;omega);have d:(4294967296:Int)^(xs.length+1)=4294967296^xs.length*4294967296:=A2 _ _;have e:=C3 xs.length;omega
  have hul1:(M (Ab xs*2^s).natAbs).length<=xs.length+1:=KP cu (by rw[eu];exact hUlt);have hxne:xs ≠ []:=by intro e;rw[e,JQ] at hxl;omega
  have hul2:xs.length<=(M (Ab xs*2^s).natAbs).length:=by
   apply N7;intro hh;have a:=DJ cu.1;rw[eu] at a;have b:=Gj (show (M (Ab xs*2^s).natAbs).length<=xs.length-1 by omega);have c:=Pi hx hxne;have d:=Aj (show (1:Int)<=2^s by omega) hx0;omega
  have hul3:0<xs.length:=Am.2 hxne;generalize hvs:M (Ab ys*2^s).natAbs=vs at *
  generalize hus:M (Ab xs*2^s).natAbs=us0 at *
  have hvl:vs.length=m+2:=by omega
  have u00:AP (us0++[0,0]):=fun x hh=>by
   rcases Cc.1 hh with g | g
   ·exact cu.1 x g
   ·simp at g;omega
  have v00:Ab (us0++[0,0])=Ab xs*2^s:=by rw[Gt];simp[Ab,eu]
  have u2:AP ((us0++[0,0]).take (xs.length+1)):=DS u00 _;have u1:((us0++[0,0]).take (xs.length+1)).length=xs.length+1:=by simp;omega
  have u3:Ab ((us0++[0,0]).take (xs.length+1))=Ab xs*2^s:=by
   have a:=Dw (us0++[0,0]) (j:=xs.length+1) (by simp;omega);rw[J9 u00 (n:=xs.length+1) (V:=4294967296^(xs.length+1)) (C' _) (by rw[v00];exact hUlt),AI,BE,v00] at a;exact a.symm
  have elm:BD ((xs.length+1)*1) (W us0++([D Ad 0,D Ad 0]:List AV))=W ((us0++[0,0]).take (xs.length+1)):=by
   simp[W,Sh]
  generalize hU':(us0++[0,0]).take (xs.length+1)=us at *
  have hvtop:2147483648<=vs.getD (m+1) 0:=by
   have a:=Dw vs (j:=m+1) (by omega);have b:=CA vs (m+1);rw[DQ (xs:=vs) (i:=m+1+1) (by omega),AI,BE] at b;rw[b] at a;have c:=Gb cv.1 (m+1);apply J0.1;intro h;have:=Aj (show vs.getD (m+1) 0+1<=2147483648 by omega) (show (0:Int)<=4294967296^(m+1) by omega);rw[CT,De,AA _ 2147483648] at this;omega
  have hini:Ab (us.drop (xs.length-ys.length+1))<Ab vs:=by
   have a:=Dw us (j:=xs.length-ys.length+1) (by omega);have b:=AW (DS u2 (xs.length-ys.length+1));have c:=DJ hx.1;have d:=AU c hp;have e:(4294967296:Int)^xs.length=4294967296^(xs.length-ys.length+1)*4294967296^(m+1):=by rw[<- BG];congr 1;omega
   have hQ:=C3 (xs.length-ys.length+1);rw[ev];apply SK (b:=2^s*4294967296^(m+1))
   ·apply Fc (a:=4294967296^(xs.length-ys.length+1)) _ (by omega);have e2:(4294967296:Int)^(xs.length-ys.length+1)*(2^s*4294967296^(m+1))=4294967296^xs.length*2^s:=by rw[e];grind
    omega
   ·have:=Ae hp2 (show (0:Int)<=4294967296^(m+1) by omega);omega
  obtain⟨us',qs,l1,l2,l3,l4,l5,l6,l7⟩:=Abo (k:=xs.length+1) (kq:=xs.length-ys.length+1) (s:=(s:Nat)) cv.1 hvl hvtop (by omega) (by omega) (xs.length-ys.length+1) us (At (xs.length-ys.length+1) 0) (Ap _) u1 u2 (by simp) (EN _) (fun t _=>DA _ _) hini;rw[ED,EU,u3,ev] at l7;rw[ev] at l6;have hR:Ab us'=2^s*(Ab xs-Ab ys*Ab qs):=by
   rw[Fr];have:2^s*(Ab ys*Ab qs)=Ab ys*2^s*Ab qs:=by grind
   rw[this,AA (2^s) (Ab xs)];omega
  have us0':=AW l3;have hR0:0<=Ab xs-Ab ys*Ab qs:=by
   apply J0.1;intro h;have:=Aj (show Ab xs-Ab ys*Ab qs <= -1 by omega) (show (0:Int)<=2^s by omega);omega
  have hR1:Ab xs-Ab ys*Ab qs<Ab ys:=by
   rw[hR,AA (Ab ys) (2^s)] at l6;exact Fc l6 (by omega)
  have hd:=(LM hyp (a:=Ab xs) (r:=Ab xs-Ab ys*Ab qs) (q:=Ab qs)).2 ⟨by omega,hR0,hR1⟩;have hdn:=W1 (neg:=false) l3 s (by omega) (by omega);rw[rvF,hR,BX _ (show (2:Int)^s ≠ 0 by omega)] at hdn;have emx:(if (I O ((ys.length:Int)+1))>(I O ((xs.length:Int)+1)) then (I O ((ys.length:Int)+1)) else (I O ((xs.length:Int)+1)))=((xs.length+1:Nat):Int):=by
   rw[Bl (n:=(ys.length:Int)+1) (by omega) (by omega),Bl (n:=(xs.length:Int)+1) (by omega) (by omega),if_neg (by omega)];omega
  have esub:I O (((xs.length+1:Nat):Int)-(vs.length:Int))=((xs.length-ys.length+1:Nat):Int):=by rw[Bl (by omega) (by omega)];omega
  have esb1:I O (((xs.length-ys.length+1:Nat):Int)-1)=((xs.length-ys.length+1:Nat):Int)-1:=Bl (by omega) (by omega);have hz:=oV (xs:=xs) (ys:=ys) (y:=ys.getD (m+1) 0) (s:=s) hy0 (by omega) (by rw[show ys.length-1=m+1 by omega]) hyt.1 hs s1 s2 s 0 (by omega);have key:=oK xs ys qs us' vs (CR (Ab xs) (Ab ys)) (s:Nat) (vs.length:Nat) (-1) (Ab xs*2^s) (Ab ys*2^s) (Ab xs-Ab ys*Ab qs) (xs.length+1) (xs.length-ys.length+1) hcm (by simp;omega) hcmp hz hV (by rw[hus];omega) hU
   (by rw[hus,emx];omega) (by rw[emx,hvs,R,esub];omega) (by
    rw[hus,hvs,emx,R,esub,R,esb1,elm,EY];exact l1) (by rw[<- l4];exact Eh (by omega)) (by rw[<- l2];exact hdn)
  rw[IV l5,A2i hR0] at key;rw[hd.1,hd.2];exact key
def TDD:Cw:=TDC
theorem A9o:Ch AZ TDD:=oZ
def LZ(rs:List Rn)(n:Int):Al:=(A9j (Y pc rs)::(Ac 2 (A9j (D O n)::(Ac 31 []))))
theorem Atm(rs:List Rn)(n:Int)(c1:A9i (n>0)=true)(c2:((BS (Q (rs.getD (A (I O (n-1))) z0)))==0)=true)(n1:0<=(I O (n-1))/\(I O (n-1))<(rs.length:Int))(n2:RQ 79 [Ay (rs.getD (A (I O (n-1))) z0)] (D O (BS (Q (rs.getD (A (I O (n-1))) z0))))):Ar Sk (LZ rs n) .norm (LZ rs (I O (n-1))):=(G A9w 400 [.b true,.v (Ay (rs.getD (A (I O (n-1))) z0)),.r (D O (BS (Q (rs.getD (A (I O (n-1))) z0)))),.b true] [0,3] (T c1 (T n1 (T (BN n1) (T n2 (T c2 a0))))))
theorem Atn(rs:List Rn)(n:Int)(c1:A9i (n>0)=true)(c2:((BS (Q (rs.getD (A (I O (n-1))) z0)))==0)=false)(n1:0<=(I O (n-1))/\(I O (n-1))<(rs.length:Int))(n2:RQ 79 [Ay (rs.getD (A (I O (n-1))) z0)] (D O (BS (Q (rs.getD (A (I O (n-1))) z0))))):Ar Sk (LZ rs n) (.exit 0) (LZ rs n):=(G A9w 400 [.b true,.v (Ay (rs.getD (A (I O (n-1))) z0)),.r (D O (BS (Q (rs.getD (A (I O (n-1))) z0)))),.b false] [0,3] (T c1 (T n1 (T (BN n1) (T n2 (T c2 a0))))))
theorem Ato(rs:List Rn)(n:Int)(c1:A9i (n>0)=false):Ar Sk (LZ rs n) (.exit 0) (LZ rs n):=(G A9w 400 [.b false,.b false] [0,3] (T c1 (T ES a0)))
def Nk(rs:List Rn)(n:Int)(k:Nat)(cs:List AV)(i:Int):Al:=(A9j (Y pc rs)::(Ac 2 (A9j (D O n)::(A9n 2 k cs::(A9j (D O i)::(Ac 29 []))))))
theorem Atp(rs:List Rn)(n:Int)(k:Nat)(cs:List AV)(i:Int)(c1:A9i (i<n)=true)(n1:0<=i/\i<(rs.length:Int))(n2:k+1<=1048576)(n3:RQ 97 [Ay (rs.getD (A i) z0)] (Ag (Q (rs.getD (A i) z0)))):Ar Vb (Nk rs n k cs i) .norm (Nk rs n (k+1) (cs++([F (A9i ((Q (rs.getD (A i) z0))<0)),H ((M (E (Q (rs.getD (A i) z0)))).length) (W (M (E (Q (rs.getD (A i) z0)))))]:List AV)) (I O (i+1))):=(G A9w 400 [.b true,.v (Ay (rs.getD (A i) z0)),.r (Ag (Q (rs.getD (A i) z0)))] [0,3,4,5] (T c1 (T n1 (T (BN n1) (T n3 (T (show Bs ([F (A9i ((Q (rs.getD (A i) z0))<0)),H ((M (E (Q (rs.getD (A i) z0)))).length) (W (M (E (Q (rs.getD (A i) z0)))))]:List AV)=1*2 from rfl) (T n2 a0)))))))
theorem Atq(rs:List Rn)(n:Int)(k:Nat)(cs:List AV)(i:Int)(c1:A9i (i<n)=false):Ar Vb (Nk rs n k cs i) (.exit 2) (Nk rs n k cs i):=(G A9w 400 [.b false] [0,3,4,5] (T c1 a0))
theorem A2j(rs:List Rn)(n i:Int)(k:Nat)(cs:List AV)(hl1:Ar (.loop Sk) (LZ rs (rs.length:Int)) (.exit 0) (LZ rs n))(hl2:Ar (.loop Vb) (Nk rs n 0 ([]:List AV) 0) (.exit 2) (Nk rs n k cs i)):RQ 46 [Y pc rs] (L 2 k cs):=A9g cR (Ac 2 (A9n 2 k cs::(Ac 32 []))) (A9m (C1.seq (G A9w 400 [] [0,3] a0) (C1.seq (C1.block hl1) (A9t (C1.seq (G A9w 400 [] [0,3,4,5] a0) (C1.seq (C1.block hl2) (G A9w 400 [] [2] a0)))))))
def TJ(ts:List Rn)(r:Rn)(e:Int)(w:Rn)(i:Int):Al:=(Ac 2 (A9j (D O e)::(Ac 1 (A9s [F r.1,H r.2.length (W r.2)]::(Ac 1 (A9s [F false,H 0 []]::(A9j (Y pc ts)::(A9s [F w.1,H w.2.length (W w.2)]::(A9j (D O i)::(Ac 27 []))))))))))
theorem A2k(ts:List Rn)(r:Rn)(e:Int)(w:Rn)(i:Int)(u:Int)(c1:A9i (i>=0)=true)(n1:0<=i/\i<(ts.length:Int))(n2:RQ 96 [Ay w,Ay r] (Ag ((Q w)*(Q r))))(n3:RQ 84 [Ay (ts.getD (A i) z0),D O (I O (e*(I O ((I O ((ts.length:Int)-1))-i))))] (CI u))(n4:RQ 95 [Ag ((Q w)*(Q r)),Ag u] (Ag (((Q w)*(Q r))+u))):Ar dI (TJ ts r e w i) .norm (TJ ts r e (V (((Q w)*(Q r))+u)) (I O (i-1))):=(G A9w 400 [.b true,.r (Ag ((Q w)*(Q r))),.v (Ay (ts.getD (A i) z0)),.r (CI u),.r (Ag (((Q w)*(Q r))+u))] [2,4,6,7,8,9] (T c1 (T n2 (T n1 (T (BN n1) (T n3 (T n4 a0)))))))
theorem A2l(ts:List Rn)(r:Rn)(e:Int)(w:Rn)(i:Int)(c1:A9i (i>=0)=false):Ar dI (TJ ts r e w i) (.exit 0) (TJ ts r e w i):=(G A9w 400 [.b false] [2,4,6,7,8,9] (T c1 a0))
theorem A2m(rs ts:List Rn)(r w:Rn)(e i:Int)(n1:RQ 46 [Y pc rs] (L 2 ts.length (pc ts)))(hl2:Ar (.loop dI) (TJ ts r e (false,[]) (I O ((ts.length:Int)-1))) (.exit 0) (TJ ts r e w i)):RQ 80 [Y pc rs,Ay r,D O e] (Ay w):=A9g dJ (Ac 6 (A9s [F w.1,H w.2.length (W w.2)]::(Ac 30 []))) (A9m (A9m (A9t (C1.seq (G A9w 400 [.r (L 2 ts.length (pc ts))] [2,4,6,7,8,9] (T n1 a0)) (C1.seq (C1.block hl2) (G A9w 400 [] [6] a0))))))
theorem fR(rs:List Rn)(r:Rn):pc rs++([F r.1,H r.2.length (W r.2)]:List AV)=pc (rs++[r]):=by rw [M_];rfl
theorem NB(g:Nat->Rn)(i:Nat):(Aq (i+1)).map g=(Aq i).map g++[g i]:=by rw [H3,Ep];rfl
theorem Abq{rs:List Rn}(hg:∀ r∈rs,AO 1048576 r)(hN:rs.length<=1048576):∀ m,m<=rs.length->Ar (.loop Sk) (LZ rs (m:Nat)) (.exit 0) (LZ rs (A9r (P rs) m:Nat)):=by
 intro m;induction m with
 | zero=>intro _;exact Ao (Ato rs ((0:Nat):Int) (by simp)) (by nofun)
 | succ m ih =>
  intro hm;have e1:I O (((m+1:Nat):Int)-1)=(m:Int):=by rw[Bl (by omega) (by omega)];omega
  obtain⟨g1,g2⟩:=Bk hg m;have hs:=Gw (neg:=(rs.getD m z0).1) g1 g2;simp only[A9r];rw[CO];by_cases h0:Q (rs.getD m z0)=0
  ·rw[if_pos h0];have k:=Atm rs ((m+1:Nat):Int) (by simp) (by rw[e1,R,h0];rfl) (by rw[e1];omega) (by simp only[e1,R];exact hs);rw[e1] at k;exact C1.loop k (ih (by omega))
  ·rw[if_neg h0];exact Ao (Atn rs ((m+1:Nat):Int) (by simp) (by rw[e1,R,beq_eq_false_iff_ne];unfold BS; (repeat' split) <;> omega) (by rw[e1];omega) (by simp only[e1,R];exact hs)) (by nofun)
theorem Abr{rs:List Rn}(hg:∀ r∈rs,AO 1048576 r)(hN:rs.length<=1048576)(n:Nat)(hn:n<=rs.length) :
  Ar (.loop Vb) (Nk rs (n:Nat) 0 [] 0) (.exit 2) (Nk rs (n:Nat) n (pc ((Aq n).map fun j=>V (Q (rs.getD j z0)))) (n:Nat)):=by
 refine C1.up (fun i=>Nk rs (n:Nat) i (pc ((Aq i).map fun j=>V (Q (rs.getD j z0)))) (i:Nat)) n (by nofun) ?_ ?_ 0 (By _)
 ·intro i hi;have ei:I O ((i:Int)+1)=((i+1:Nat):Int):=by rw[Bl (by omega) (by omega)];omega
  obtain⟨g1,g2⟩:=Bk hg i;have k:=Atp rs (n:Nat) i (pc ((Aq i).map fun j=>V (Q (rs.getD j z0)))) (i:Nat) (by simp;omega) (by omega) (by omega) (by simp only[R];exact Wr g1 g2);refine k.to rfl ?_;simp only[R,ei];rw[NB,<- fR];rfl
 ·exact Atq rs (n:Nat) n _ (n:Nat) (by simp)
theorem Fj{rs:List Rn}(hg:∀ r∈rs,AO 1048576 r)(hN:rs.length<=1048576):RQ 46 [Y pc rs] (L 2 (A9l (P rs)).length (pk (A9l (P rs)))):=by
 have hle:=GX (P rs) rs.length;have hlen:(A9l (P rs)).length=A9r (P rs) rs.length:=by rw[F9,A9z]
 have h:=A2j rs _ _ _ _ (Abq hg hN rs.length (Ap _)) (Abr hg hN _ hle);have e3:(Aq (A9r (P rs) rs.length)).map (fun j=>V (Q (rs.getD j z0)))=(A9l (P rs)).map V:=by
  rw[<- SI,hlen];apply Gh;intro i _;rw[Dk,CO]
 (first|rw[e3,<- hlen] at h|(rw[e3] at h;unfold Y at h;rw[<- hlen] at h));exact h
theorem QG(e:Nat):Br (e / 32+1) ((2:Int)^e):=by
 unfold Br;have h1:((2:Int)^e).natAbs=2^e:=by rw[NN];rfl
 have h2:(4294967296:Nat)^(e / 32+1)=2^(32*(e / 32+1)):=by rw[A8z]
 rw[h1,h2];exact QH (by decide) (by omega)
theorem W2{K X:Nat}{x:Int}(hx:Br X x)(e:Nat):∀ {ts:LI},(∀ t∈ts,Br K t)->Br (K+1+ts.length*(X+(e / 32+1)+1)) (hv ts x (2^e))
 | [],_=>GZ _
 | t::ts,h=>by
  have ih:=W2 (K:=K) hx e (ts:=ts) fun y hy=>h y (Bh _ hy);have h1:Br (K+(e*ts.length / 32+1)) (t*((2:Int)^e)^ts.length):=by
   rw[<- kX];exact (h t B4).mul (QG _)
  have h2:=hx.mul ih;have hb:e*ts.length / 32<=ts.length*(e / 32+1):=by
   have:e*ts.length<=32*(ts.length*(e / 32+1)):=by
    have h3:e<=32*(e / 32+1):=by omega
    calc e*ts.length<=(32*(e / 32+1))*ts.length:=AE _ h3
     _=32*(ts.length*(e / 32+1)):=by rw[EL,CZ (e / 32+1)]
   omega
  have hb2:ts.length*(e / 32+1)<=ts.length*(X+(e / 32+1)+1):=AAd _ (by omega);have h3:=(h1.mono (k:=K+1+ts.length*(X+(e / 32+1)+1)+X+(e / 32+1)) (by omega)).add (h2.mono (by omega));simp only[hv,Bz,DY,Fe];exact h3.mono (by omega)
theorem Atr{K X:Nat}{ts:List Rn}{r:Rn}(ht:∀ t∈ts,AO K t)(hr:AO X r)(e:Nat)(hS:K+2+(ts.length+1)*(X+(e / 32+1)+1)<=1048576)(he:e<=1073741824) :
  ∀ n (w:Rn),n<=ts.length->Q w=hv ((P ts).drop n) (Q r) (2^e)->AO (K+1+(ts.length-n)*(X+(e / 32+1)+1)) w -> 
  ∃ w',Q w'=hv (P ts) (Q r) (2^e)/\(w'=w/\n=0\/w'=V (hv (P ts) (Q r) (2^e)))/\Ar (.loop dI) (TJ ts r (e:Nat) w ((n:Int)-1)) (.exit 0) (TJ ts r (e:Nat) w' (-1)):=by
 intro n;induction n with
 | zero =>
  intro w _ hw _;refine⟨w,by simpa using hw,.inl ⟨rfl,rfl⟩,?_⟩;exact Ao (A2l ts r (e:Nat) w (((0:Nat):Int)-1) (by simp)) (by nofun)
 | succ n ih =>
  intro w hn hw gw;obtain⟨t1,t2⟩:=Bk ht n;have e0:((n+1:Nat):Int)-1=(n:Int):=by omega
  have hK1:(ts.length-(n+1))*(X+(e / 32+1)+1)+(X+(e / 32+1)+1)=(ts.length-n)*(X+(e / 32+1)+1):=by
   rw[show ts.length-n=ts.length-(n+1)+1 by omega,DY,Fe]
  have hK2:(ts.length-n)*(X+(e / 32+1)+1)<=(ts.length+1)*(X+(e / 32+1)+1):=AE _ (by omega);have hsh:e*(ts.length-1-n) / 32<=(ts.length-(n+1))*(X+(e / 32+1)+1):=by
   have h3:e<=32*(e / 32+1):=by omega
   have h4:e*(ts.length-1-n)<=32*((ts.length-(n+1))*(e / 32+1)):=by
    calc e*(ts.length-1-n)<=(32*(e / 32+1))*(ts.length-1-n):=AE _ h3
     _=32*((ts.length-(n+1))*(e / 32+1)):=by rw[EL,CZ (e / 32+1),show ts.length-1-n=ts.length-(n+1) by omega]
   have h5:(ts.length-(n+1))*(e / 32+1)<=(ts.length-(n+1))*(X+(e / 32+1)+1):=AAd _ (by omega);omega
  have w1:I O ((e:Int)*I O (I O ((ts.length:Int)-1)-(n:Int)))=((e*(ts.length-1-n):Nat):Int):=by
   have hle:ts.length<=1048576:=by
    have:ts.length*1<=(ts.length+1)*(X+(e / 32+1)+1):=B2 (by omega) (by omega);omega
   rw[Bl (n:=(ts.length:Int)-1) (by omega) (by omega),Bl (n:=(ts.length:Int)-1-(n:Int)) (by omega) (by omega)];have e3:(ts.length:Int)-1-(n:Int)=((ts.length-1-n:Nat):Int):=by omega
   rw[e3,<- Dj];have:e*(ts.length-1-n)<=1073741824*1048576:=B2 he (by omega);exact Bl (by omega) (by omega)
  have w2:I O ((n:Int)-1)=(n:Int)-1:=by
   have hle:ts.length<=1048576:=by
    have:ts.length*1<=(ts.length+1)*(X+(e / 32+1)+1):=B2 (by omega) (by omega);omega
   exact Bl (by omega) (by omega)
  have hst:hv ((P ts).drop n) (Q r) (2^e)=Q w*Q r+Q (ts.getD n z0)*2^(e*(ts.length-1-n)):=by
   have h1:(P ts).drop n=(P ts).getD n 0::(P ts).drop (n+1):=by
    rw[Df (by rw[A9z];omega)];congr 1;rw[Z,Ah (by rw[A9z];omega)];rfl
   rw[h1,hv,CO,Es,A9z,<- hw,<- kX,show ts.length-(n+1)=ts.length-1-n by omega];generalize Q (ts.getD n z0)*2^(e*(ts.length-1-n))=A;grind
  have fw:=gw.fits;have fp:=(fw.mul hr.fits);have ft:Br (K+(e*(ts.length-1-n) / 32+1)) (Q (ts.getD n z0)*2^(e*(ts.length-1-n))):=(Bk ht n).fits.mul (QG _);have hgood:AO (K+1+(ts.length-n)*(X+(e / 32+1)+1)) (V (Q w*Q r+Q (ts.getD n z0)*2^(e*(ts.length-1-n)))):=by
   refine (BL ((fp.mono (k:=K+1+(ts.length-(n+1))*(X+(e / 32+1)+1)+X+(e / 32+1)) (by omega)).add (ft.mono (by omega)))).mono (by omega)
  obtain⟨w',q1,q2,q3⟩:=ih (V (Q w*Q r+Q (ts.getD n z0)*2^(e*(ts.length-1-n)))) (by omega) (by rw[A9y,hst]) hgood;refine⟨w',q1,.inr ?_,?_⟩
  ·rcases q2 with ⟨g1,g2⟩ | g
   ·rw[g1];rw[g1,A9y] at q1;rw[q1]
   ·exact g
  ·rw[e0];have l1:=fp.len;have l2:=ft.len;obtain⟨gw1,gw2⟩:=gw;have k:=A2k ts r (e:Nat) w (n:Nat) (Q (ts.getD n z0)*2^(e*(ts.length-1-n))) (by simp) (by omega)
    (O1 gw1 hr.1 (by have:=hr.2;omega))
    (by rw[w1,R];exact R0 t1 _ (by omega))
    (by
     have:=QC (na:=decide (Q w*Q r<0)) (nb:=decide (Q (ts.getD n z0)*2^(e*(ts.length-1-n))<0)) (BR (Q w*Q r).natAbs) (BR (Q (ts.getD n z0)*2^(e*(ts.length-1-n))).natAbs) (by omega) (by omega);rw[F8,F8] at this;exact this)
   rw[w2] at k;exact C1.loop k q3
theorem TK{K X:Nat}{rs:List Rn}{r:Rn}(ht:∀ t∈rs,AO K t)(hr:AO X r)(e:Nat)(hS:K+2+(rs.length+1)*(X+(e / 32+1)+1)<=1048576)(he:e<=1073741824) :
  RQ 80 [Y pc rs,o [F r.1,H r.2.length (W r.2)],D O (e:Nat)] (Ag (hv (A9l (P rs)) (Q r) (2^e))):=by
 have hle:rs.length<=1048576:=by
  have:rs.length*1<=(rs.length+1)*(X+(e / 32+1)+1):=B2 (by omega) (by omega);omega
 have hK:K<=1048576:=by omega
 have htr:=Fj (fun r h=>(ht r h).mono hK) hle;have hl:=Bp (P rs);rw[A9z] at hl;have gts:∀ t∈(A9l (P rs)).map V,AO K t:=Mr (Hc (CP ht));have hS2:K+2+(((A9l (P rs)).map V).length+1)*(X+(e / 32+1)+1)<=1048576:=by
  have:(((A9l (P rs)).map V).length+1)*(X+(e / 32+1)+1)<=(rs.length+1)*(X+(e / 32+1)+1):=AE _ (by simp;omega);omega
 obtain⟨w',q1,q2,q3⟩:=Atr gts hr e hS2 he ((A9l (P rs)).map V).length z0 (Ap _) (by
  rw[AJ,N,Kf];rfl) (Mp _)
 rw[AJ] at q1 q2;have e1:I O (((((A9l (P rs)).map V).length:Nat):Int)-1)=((((A9l (P rs)).map V).length:Nat):Int)-1:=Bl (by omega) (by rw[N];omega);have hcn:w'=V (hv (A9l (P rs)) (Q r) (2^e)):=by
  rcases q2 with ⟨g1,g2⟩ | g
  ·(first|rw[N] at g2|(unfold Y at g2;rw[N] at g2));rw[g1,A7 g2];rfl
  ·exact g
 (first|rw[<- N (f:=V)] at htr|(unfold Y at htr;rw[<- N (f:=V)] at htr));have h:=A2m rs ((A9l (P rs)).map V) r w' (e:Nat) (-1) htr (by rw[e1];exact q3);rw[hcn] at h;exact h
def L6(na:Bool)(nb:Bool)(la:Nat)(xa:List AV)(lb:Nat)(xb:List AV)(n:Nat)(cs:List AV)(i:Int)(x:Int)(c:Int)(k:Int):Al:=(Ac 4 (A9s [F false,H 0 []]::(A9j (F na)::(Ac 1 (A9j (F nb)::(A9j (H lb xb)::(A9n 1 n cs::(A9j (D O i)::(A9j (D Ad x)::(A9j (D B c)::(Ac 28 (A9j (H la xa)::(A9j (D O (la:Int))::(A9j (D O i)::(Ac 4 (A9j (H lb xb)::(A9j (D O (lb:Int))::(A9j (D O k)::(Ac 43 [])))))))))))))))))))
theorem Abs(na:Bool)(nb:Bool)(la:Nat)(xa:List AV)(lb:Nat)(xb:List AV)(n:Nat)(cs:List AV)(i:Int)(x:Int)(c:Int)(k:Int)(ds:List AV)(y z:Int)(c1:A9i (k<(lb:Int))=true)(n1:0<=k/\k<(lb:Int))(n2:Bv (A9v (A k*1) xb) 0 1 true=some (D Ad y))(n3:0<=(I O (i+k))/\(I O (i+k))<(n:Int))(n4:Bv cs (A (I O (i+k))*1) 1 true=some (D Ad z))(n5:0<=(I O (i+k))/\(I O (i+k))<(n:Int))(n6:C6 cs (A (I O (i+k))*1) [D Ad (I Ad (I B ((I B ((I B ((I B x)*(I B y)))+(I B z)))+c)))]=some ds):Ar Rk (L6 na nb la xa lb xb n cs i x c k) .norm (L6 na nb la xa lb xb n ds i x (A9q (I B ((I B ((I B ((I B x)*(I B y)))+(I B z)))+c)) (2^(min (A 32) (An .u64)))) (I O (k+1))):=G AAb 300 [.b true,.v (D Ad y),.v (D Ad z),.l ds] [4,5,7,8,9,10,11,12,41,42,43,48,49,50] (T c1 (T n1 (T n2 (T n3 (T n4 (T It (T n5 (T n6 a0)))))))) (by kernel_rfl)
theorem Abt(na:Bool)(nb:Bool)(la:Nat)(xa:List AV)(lb:Nat)(xb:List AV)(n:Nat)(cs:List AV)(i:Int)(x:Int)(c:Int)(k:Int)(c1:A9i (k<(lb:Int))=false):Ar Rk (L6 na nb la xa lb xb n cs i x c k) (.exit 2) (L6 na nb la xa lb xb n cs i x c k):=G AAb 300 [.b false] [4,5,7,8,9,10,11,12,41,42,43,48,49,50] (T c1 a0) (by kernel_rfl)
def O6(na:Bool)(nb:Bool)(la:Nat)(xa:List AV)(lb:Nat)(xb:List AV)(n:Nat)(cs:List AV)(i:Int):Al:=(Ac 4 (A9s [F false,H 0 []]::(A9j (F na)::(Ac 1 (A9j (F nb)::(A9j (H lb xb)::(A9n 1 n cs::(Ac 31 (A9j (H la xa)::(A9j (D O (la:Int))::(A9j (D O i)::(Ac 50 []))))))))))))
theorem pC(na nb:Bool)(la:Nat)(xa:List AV)(lb:Nat)(xb:List AV)(n:Nat)(cs:List AV)(i:Int)(h:(A9i (i<(la:Int)))=false):Ar Vo (O6 na nb la xa lb xb n cs i) (.exit 0) (O6 na nb la xa lb xb n cs i):=G AAb 300 [.b false] [4,5,7,8,9,41,42,43] (T (show (A9i (i<(la:Int)))=false from h) a0) (by kernel_rfl)
theorem fS(na nb:Bool)(la:Nat)(xa:List AV)(lb:Nat)(xb:List AV)(n:Nat)(cs ds es:List AV)(i x c k:Int)(h:(A9i (i<(la:Int)))=true)(hi:0<=i/\i<(la:Int))(hx:Bv (A9v (A i*1) xa) 0 1 true=some (D Ad x))(hl:Ar (.loop Rk) (L6 na nb la xa lb xb n cs i x 0 0) (.exit 2) (L6 na nb la xa lb xb n ds i x c k))(hix:0<=I O (i+(lb:Int))/\I O (i+(lb:Int))<(n:Int))(hst:C6 ds (A (I O (i+(lb:Int)))*1) [D Ad (I Ad c)]=some es):Ar Vo (O6 na nb la xa lb xb n cs i) .norm (O6 na nb la xa lb xb n es (I O (i+1))):=(C1.seq (G (t:=(Ac 4 (A9s [F false,H 0 []]::(A9j (F na)::(Ac 1 (A9j (F nb)::(A9j (H lb xb)::(A9n 1 n cs::(Ac 31 (A9j (H la xa)::(m (la:Int)::(m i::(A9j (F (A9i (i<(la:Int))))::(Ac 49 [])))))))))))))) AAb 300 [] [4,5,7,8,9,41,42,43,44] a0) (C1.seq (G (t:=(Ac 4 (A9s [F false,H 0 []]::(A9j (F na)::(Ac 1 (A9j (F nb)::(A9j (H lb xb)::(A9n 1 n cs::(Ac 31 (A9j (H la xa)::(m (la:Int)::(m i::(A9j (F (A9i (i<(la:Int))))::(Ac 49 [])))))))))))))) AAb 300 [.b true] [4,5,7,8,9,41,42,43,44] (T (show (A9i (i<(la:Int)))=true from h) a0)) (C1.seq (B_ (C1.seq (G (t:=(Ac 4 (A9s [F false,H 0 []]::(A9j (F na)::(Ac 1 (A9j (F nb)::(A9j (H lb xb)::(A9n 1 n cs::(m i::(A9j (D Ad x)::(Ac 29 (A9j (H la xa)::(m (la:Int)::(m i::(A9j (F (A9i (i<(la:Int))))::(m i::(.mem (A9v (A i*1) xa)::(A9j (D Ad x)::(Ac 46 []))))))))))))))))))) AAb 300 [.v (D Ad x)] [4,5,7,8,9,10,11,41,42,43,44,45,46,47] (T (show 0<=i/\i<(la:Int) from hi) (T (show Bv (A9v (A i*1) xa) 0 1 true=some (D Ad x) from hx) a0))) (C1.seq (G (t:=(Ac 4 (A9s [F false,H 0 []]::(A9j (F na)::(Ac 1 (A9j (F nb)::(A9j (H lb xb)::(A9n 1 n cs::(m i::(A9j (D Ad x)::(A9j (D B 0)::(Ac 28 (A9j (H la xa)::(m (la:Int)::(m i::(A9j (F (A9i (i<(la:Int))))::(m i::(.mem (A9v (A i*1) xa)::(A9j (D Ad x)::(Ac 46 [])))))))))))))))))))) AAb 300 [] [4,5,7,8,9,10,11,12,41,42,43,44,45,46,47] a0) (C1.seq (C1.seq (G (t:=(Ac 4 (A9s [F false,H 0 []]::(A9j (F na)::(Ac 1 (A9j (F nb)::(A9j (H lb xb)::(A9n 1 n cs::(m i::(A9j (D Ad x)::(A9j (D B 0)::(Ac 28 (A9j (H la xa)::(m (la:Int)::(m i::(Ac 4 (A9j (H lb xb)::(m (lb:Int)::(m 0::(Ac 43 [])))))))))))))))))))) AAb 300 [] [4,5,7,8,9,10,11,12,41,42,43,48,49,50] a0) (C1.block hl)) (G (t:=(Ac 4 (A9s [F false,H 0 []]::(A9j (F na)::(Ac 1 (A9j (F nb)::(A9j (H lb xb)::(A9n 1 n es::(m i::(A9j (D Ad x)::(A9j (D B c)::(Ac 28 (A9j (H la xa)::(m (la:Int)::(m i::(Ac 4 (A9j (H lb xb)::(m (lb:Int)::(m k::(Ac 29 (.dup 9::(m i::(A9j (H lb xb)::(m (lb:Int)::(m (I O (i+(lb:Int)))::(A9j (D B c)::(A9j (D Ad (I Ad c))::(.ptr 9 (A (I O (i+(lb:Int)))*1)::(Ac 6 []))))))))))))))))))))))))))))) AAb 300 [.l es] [4,5,7,8,9,10,11,12,41,42,43,48,49,50,80,81,82,83,84,85,86,87] (T (show 0<=(I O (i+(lb:Int)))/\(I O (i+(lb:Int)))<(n:Int) from hix) (T (show C6 ds (A (I O (i+(lb:Int)))*1) [D Ad (I Ad c)]=some es from hst) a0))))))) (G (t:=(Ac 4 (A9s [F false,H 0 []]::(A9j (F na)::(Ac 1 (A9j (F nb)::(A9j (H lb xb)::(A9n 1 n es::(Ac 31 (A9j (H la xa)::(m (la:Int)::(m (I O (i+1))::(Ac 50 []))))))))))))) AAb 300 [] [4,5,7,8,9,41,42,43] a0))))
theorem pD(na nb:Bool)(xs ys:LI)(hx:AP xs)(hy:AP ys)(n i:Nat)(hn:n<=1048576)(hib:i+ys.length<=n):∀ (r k:Nat) (out:LI) (c:Int),r+k=ys.length->out.length=n->AP out->0<=c/\c<4294967296 ->
  Ar (.loop Rk) (L6 na nb xs.length (W xs) ys.length (W ys) n (W out) (i:Int) (xs.getD i 0) c (k:Int)) (.exit 2)
   (L6 na nb xs.length (W xs) ys.length (W ys) n (W (HA (xs.getD i 0) ys i r k out c).1) (i:Int) (xs.getD i 0) (HA (xs.getD i 0) ys i r k out c).2 (ys.length:Int)):=by
 intro r;induction r with
 | zero =>
  intro k out c hk _ _ _;have hk':k=ys.length:=by omega
  subst hk';exact Ao (Abt na nb xs.length (W xs) ys.length (W ys) n (W out) (i:Int) (xs.getD i 0) c (ys.length:Int) (by simp)) (by nofun)
 | succ r ih =>
  intro k out c hk hl hu hc;have hai:=AG hx i;have hbk:=AG hy k;have hok:=AG hu (i+k);obtain⟨w1,w2,w3,w4⟩:=Wk hai hbk hc hok;have ei:I O ((i:Int)+(k:Int))=((i+k:Nat):Int):=by rw[Bl (by omega) (by omega)];omega
  have ek:I O ((k:Int)+1)=((k+1:Nat):Int):=by rw[Bl (by omega) (by omega)];omega
  have hz:=Wh (xs:=out) (i:=i+k) (by omega);have hyk:=Eg (xs:=ys) (i:=k) (by omega);have hst:=I3 (xs:=out) (i:=i+k) (v:=(c+(out.getD (i+k) 0+xs.getD i 0*ys.getD k 0)) % 4294967296) (by omega);have eW:I B (I B (I B (I B (xs.getD i 0)*I B (ys.getD k 0))+I B (out.getD (i+k) 0))+c)=c+(out.getD (i+k) 0+xs.getD i 0*ys.getD k 0):=by
   have q1:I B (xs.getD i 0)=xs.getD i 0:=by rw[BF];omega
   have q2:I B (ys.getD k 0)=ys.getD k 0:=by rw[BF];omega
   have q3:I B (out.getD (i+k) 0)=out.getD (i+k) 0:=by rw[BF];omega
   rw[q1,q2,q3,BF,BF,BF];omega
  have eS:A9q (c+(out.getD (i+k) 0+xs.getD i 0*ys.getD k 0)) (2^(min (A 32) (An .u64)))=(c+(out.getD (i+k) 0+xs.getD i 0*ys.getD k 0)) / 4294967296:=by
   show A9q _ 4294967296=_;rw[AAg _ (by omega)]
  have h1:=Abs na nb xs.length (W xs) ys.length (W ys) n (W out) (i:Int) (xs.getD i 0) c (k:Int) (W (out.set (i+k) ((c+(out.getD (i+k) 0+xs.getD i 0*ys.getD k 0)) % 4294967296))) (ys.getD k 0) (out.getD (i+k) 0)
   (by simp;omega) (by omega) (by rw[R];exact hyk) (by rw[ei];omega) (by rw[ei,R];exact hz) (by rw[ei];omega) (by rw[ei,R,eW,DW];exact hst)
  rw[eW,eS,ek] at h1;exact C1.loop h1 (ih (k+1) _ _ (by omega) (by simpa using hl) (C2 hu (by omega)) (by omega))
theorem Abu(na nb:Bool)(xs ys:LI)(hx:AP xs)(hy:AP ys)(hN:xs.length+ys.length<=1048576):∀ (r i:Nat) (out:LI),r+i=xs.length->out.length=xs.length+ys.length->AP out->(∀ j,i+ys.length<=j->out.getD j 0=0) ->
  ∃ out',out'.length=xs.length+ys.length/\AP out'/\Ab out'=Ab out+4294967296^i*(Ab (xs.drop i)*Ab ys) /\
   Ar (.loop Vo) (O6 na nb xs.length (W xs) ys.length (W ys) (xs.length+ys.length) (W out) (i:Int)) (.exit 0) (O6 na nb xs.length (W xs) ys.length (W ys) (xs.length+ys.length) (W out') (xs.length:Int)):=by
 intro r;induction r with
 | zero =>
  intro i out hi hl hu _;have hi':i=xs.length:=by omega
  subst hi';refine⟨out,hl,hu,by simp[Ab],?_⟩;exact Ao (pC na nb xs.length (W xs) ys.length (W ys) (xs.length+ys.length) (W out) (xs.length:Int) (by simp)) (by nofun)
 | succ r ih =>
  intro i out hi hl hu hz;have hai:=AG hx i;have hlt:i<xs.length:=by omega
  have hin:=pD na nb xs ys hx hy (xs.length+ys.length) i hN (by omega) ys.length 0 out 0 (by omega) hl hu (by omega);obtain⟨g1,g2,g3,g4,g5⟩:=Y6 (i:=i) hai hy ys.length 0 out 0 (by omega) (by omega) hu (by omega);generalize HA (xs.getD i 0) ys i ys.length 0 out 0=q at *
  obtain⟨ds,c⟩:=q;dsimp only at g1 g2 g3 g4 g5 hin;have ei:I O ((i:Int)+(ys.length:Int))=((i+ys.length:Nat):Int):=by rw[Bl (by omega) (by omega)];omega
  have ei1:I O ((i:Int)+1)=((i+1:Nat):Int):=by rw[Bl (by omega) (by omega)];omega
  have ec:I Ad c=c:=by rw[DW];omega
  have hst:=I3 (xs:=ds) (i:=i+ys.length) (v:=c) (by omega);have hxi:=Eg (xs:=xs) (i:=i) hlt;have h1:=fS na nb xs.length (W xs) ys.length (W ys) (xs.length+ys.length) (W out) (W ds) (W (ds.set (i+ys.length) c)) (i:Int) (xs.getD i 0) c (ys.length:Int) (by simp;omega) (by omega) (by rw[R];exact hxi) hin (by rw[ei];omega) (by rw[ei,R,ec];exact hst);rw[ei1] at h1;obtain⟨out',k1,k2,k3,k4⟩:=ih (i+1) (ds.set (i+ys.length) c) (by omega) (by simp;omega) (C2 g2 g3) (fun j hj=>by rw[M' (by omega),g5 j (by omega),hz j (by omega)]);refine⟨out',k1,k2,?_,C1.loop h1 k4⟩;have hv:Ab (ds.set (i+ys.length) c)=Ab out+4294967296^i*(xs.getD i 0*Ab ys):=by
   rw[DP ds _ _ (by omega),g5 _ (Ap _),hz _ (Ap _)];simp only[FP,EZ,DL,EU] at g4 |-;exact g4
  have hd:Ab (xs.drop i)=xs.getD i 0+4294967296*Ab (xs.drop (i+1)):=CA xs i;rw[k3,hv,hd,A2];generalize (4294967296:Int)^i=p at *
  generalize Ab (xs.drop (i+1))=V at *
  grind
theorem pF(na:Bool)(xs:LI)(nb:Bool)(ys:LI)(a b:Int)(h1:RQ 143 [o [F na,Y W xs]] (Ax [F (A9i (a<0)),H (M (E a)).length (W (M (E a)))]))(h2:RQ 143 [o [F nb,Y W ys]] (Ax [F (A9i (b<0)),H (M (E b)).length (W (M (E b)))]))(z:((((M (E a)).length:Nat):Int)==0)=true):RQ 112 [o [F na,Y W xs],o [F nb,Y W ys]] (o [F false,H 0 []]):=B1 (ps:=[RQ 143 [o [F na,Y W xs]] (Ax [F (A9i (a<0)),H ((M (E a)).length) (W (M (E a)))]),RQ 143 [o [F nb,Y W ys]] (Ax [F (A9i (b<0)),H ((M (E b)).length) (W (M (E b)))]),((((M (E a)).length:Nat):Int)==0)=true,true=true]) AAb rfl 300 rfl [.r (Ax [F (A9i (a<0)),H ((M (E a)).length) (W (M (E a)))]),.r (Ax [F (A9i (b<0)),H ((M (E b)).length) (W (M (E b)))]),.b true,.b true] (by kernel_rfl) ⟨h1,h2,z,rfl,trivial⟩
theorem pG(na:Bool)(xs:LI)(nb:Bool)(ys:LI)(a b:Int)(h1:RQ 143 [o [F na,Y W xs]] (Ax [F (A9i (a<0)),H (M (E a)).length (W (M (E a)))]))(h2:RQ 143 [o [F nb,Y W ys]] (Ax [F (A9i (b<0)),H (M (E b)).length (W (M (E b)))]))(y:((((M (E a)).length:Nat):Int)==0)=false)(z:((((M (E b)).length:Nat):Int)==0)=true):RQ 112 [o [F na,Y W xs],o [F nb,Y W ys]] (o [F false,H 0 []]):=B1 (ps:=[RQ 143 [o [F na,Y W xs]] (Ax [F (A9i (a<0)),H ((M (E a)).length) (W (M (E a)))]),RQ 143 [o [F nb,Y W ys]] (Ax [F (A9i (b<0)),H ((M (E b)).length) (W (M (E b)))]),((((M (E a)).length:Nat):Int)==0)=false,((((M (E b)).length:Nat):Int)==0)=true]) AAb rfl 300 rfl [.r (Ax [F (A9i (a<0)),H ((M (E a)).length) (W (M (E a)))]),.r (Ax [F (A9i (b<0)),H ((M (E b)).length) (W (M (E b)))]),.b false,.b true] (by kernel_rfl) ⟨h1,h2,y,z,trivial⟩
theorem pH(na:Bool)(xs:LI)(nb:Bool)(ys:LI)(a b:Int)(h1:RQ 143 [o [F na,Y W xs]] (Ax [F (A9i (a<0)),H (M (E a)).length (W (M (E a)))]))(h2:RQ 143 [o [F nb,Y W ys]] (Ax [F (A9i (b<0)),H (M (E b)).length (W (M (E b)))]))(out:LI)(r:Int)(y:((((M (E a)).length:Nat):Int)==0)=false)(z:((((M (E b)).length:Nat):Int)==0)=false)(hmk:0<=I O ((((M (E a)).length:Nat):Int)+(((M (E b)).length:Nat):Int))/\I O ((((M (E a)).length:Nat):Int)+(((M (E b)).length:Nat):Int))<=1048576)(hl:Ar (.loop Vo) (O6 (A9i (a<0)) (A9i (b<0)) (M (E a)).length (W (M (E a))) (M (E b)).length (W (M (E b))) (A (I O ((((M (E a)).length:Nat):Int)+(((M (E b)).length:Nat):Int)))) (Cz [D Ad 0] (A (I O ((((M (E a)).length:Nat):Int)+(((M (E b)).length:Nat):Int))))) 0) (.exit 0) (O6 (A9i (a<0)) (A9i (b<0)) (M (E a)).length (W (M (E a))) (M (E b)).length (W (M (E b))) (A (I O ((((M (E a)).length:Nat):Int)+(((M (E b)).length:Nat):Int)))) (W out) (((M (E a)).length:Nat):Int)))(h3:RQ 152 [F (!((A9i (a<0))==(A9i (b<0)))),H (A (I O ((((M (E a)).length:Nat):Int)+(((M (E b)).length:Nat):Int)))) (W out)] (o [F (A9i (r<0)),H ((M (E r)).length) (W (M (E r)))])):RQ 112 [o [F na,Y W xs],o [F nb,Y W ys]] (o [F (A9i (r<0)),H ((M (E r)).length) (W (M (E r)))]):=A9g Vp (Ac 4 (A9s [F (A9i (r<0)),H ((M (E r)).length) (W (M (E r)))]::(A9j (F (A9i (a<0)))::(Ac 1 (A9j (F (A9i (b<0)))::(A9j (H ((M (E b)).length) (W (M (E b))))::(A9j (H (A (I O ((((M (E a)).length:Nat):Int)+(((M (E b)).length:Nat):Int)))) (W out))::(Ac 31 (A9j (H ((M (E a)).length) (W (M (E a))))::(A9j (D O (((M (E a)).length:Nat):Int))::(A9j (D O (((M (E a)).length:Nat):Int))::(Ac 45 (A9j (F (A9i (a<0)))::(A9j (F (A9i (b<0)))::(A9j (F (!((A9i (a<0))==(A9i (b<0)))))::(A9j (H (A (I O ((((M (E a)).length:Nat):Int)+(((M (E b)).length:Nat):Int)))) (W out))::(A9j (o [F (A9i (r<0)),H ((M (E r)).length) (W (M (E r)))])::[]))))))))))))))))) (C1.seq (G (t:=(A9j (o [F na,Y W xs])::(A9j (o [F nb,Y W ys])::(A9s [F na,Y W xs]::(A9s [F nb,Y W ys]::(A9s [F false,H 0 []]::(Ac 89 []))))))) AAb 300 [] [0,1,2,3,4] a0) (C1.seq (G (t:=(A9j (o [F na,Y W xs])::(A9j (o [F nb,Y W ys])::(A9s [F na,Y W xs]::(A9s [F nb,Y W ys]::(A9s [F false,H 0 []]::(A9j (F (A9i (a<0)))::(A9j (H ((M (E a)).length) (W (M (E a))))::(Ac 9 (A9j (Ax [F (A9i (a<0)),H ((M (E a)).length) (W (M (E a)))])::(A9j (o [F na,Y W xs])::(A9j (Ax [F (A9i (a<0)),H ((M (E a)).length) (W (M (E a)))])::(A9j (F (A9i (a<0)))::(A9j (H ((M (E a)).length) (W (M (E a))))::(Ac 73 []))))))))))))))) AAb 300 [.r (Ax [F (A9i (a<0)),H ((M (E a)).length) (W (M (E a)))])] [0,1,2,3,4,5,6,16,17,18,19,20] (T (show RQ 143 [o [F na,Y W xs]] (Ax [F (A9i (a<0)),H ((M (E a)).length) (W (M (E a)))]) from h1) a0)) (C1.seq (G (t:=(A9j (o [F na,Y W xs])::(A9j (o [F nb,Y W ys])::(A9s [F na,Y W xs]::(A9s [F nb,Y W ys]::(A9s [F false,H 0 []]::(A9j (F (A9i (a<0)))::(A9j (H ((M (E a)).length) (W (M (E a))))::(A9j (F (A9i (b<0)))::(A9j (H ((M (E b)).length) (W (M (E b))))::(Ac 7 (A9j (Ax [F (A9i (a<0)),H ((M (E a)).length) (W (M (E a)))])::(A9j (o [F na,Y W xs])::(A9j (Ax [F (A9i (a<0)),H ((M (E a)).length) (W (M (E a)))])::(A9j (F (A9i (a<0)))::(A9j (H ((M (E a)).length) (W (M (E a))))::(A9j (Ax [F (A9i (b<0)),H ((M (E b)).length) (W (M (E b)))])::(A9j (o [F nb,Y W ys])::(A9j (Ax [F (A9i (b<0)),H ((M (E b)).length) (W (M (E b)))])::(A9j (F (A9i (b<0)))::(A9j (H ((M (E b)).length) (W (M (E b))))::(Ac 68 [])))))))))))))))))))))) AAb 300 [.r (Ax [F (A9i (b<0)),H ((M (E b)).length) (W (M (E b)))])] [0,1,2,3,4,5,6,7,8,16,17,18,19,20,21,22,23,24,25] (T (show RQ 143 [o [F nb,Y W ys]] (Ax [F (A9i (b<0)),H ((M (E b)).length) (W (M (E b)))]) from h2) a0)) (C1.seq (G (t:=(A9j (o [F na,Y W xs])::(A9j (o [F nb,Y W ys])::(A9s [F na,Y W xs]::(A9s [F nb,Y W ys]::(A9s [F false,H 0 []]::(A9j (F (A9i (a<0)))::(A9j (H ((M (E a)).length) (W (M (E a))))::(A9j (F (A9i (b<0)))::(A9j (H ((M (E b)).length) (W (M (E b))))::(Ac 7 (A9j (Ax [F (A9i (a<0)),H ((M (E a)).length) (W (M (E a)))])::(A9j (o [F na,Y W xs])::(A9j (Ax [F (A9i (a<0)),H ((M (E a)).length) (W (M (E a)))])::(A9j (F (A9i (a<0)))::(A9j (H ((M (E a)).length) (W (M (E a))))::(A9j (Ax [F (A9i (b<0)),H ((M (E b)).length) (W (M (E b)))])::(A9j (o [F nb,Y W ys])::(A9j (Ax [F (A9i (b<0)),H ((M (E b)).length) (W (M (E b)))])::(A9j (F (A9i (b<0)))::(A9j (H ((M (E b)).length) (W (M (E b))))::(A9j (H ((M (E a)).length) (W (M (E a))))::(m (((M (E a)).length:Nat):Int)::(A9j (F ((((M (E a)).length:Nat):Int)==0))::(A9j (F ((((M (E a)).length:Nat):Int)==0))::(A9j (H ((M (E b)).length) (W (M (E b))))::(m (((M (E b)).length:Nat):Int)::(A9j (F ((((M (E b)).length:Nat):Int)==0))::(A9j (F ((((M (E b)).length:Nat):Int)==0))::(Ac 60 [])))))))))))))))))))))))))))))) AAb 300 [.b false,.b false] [0,1,2,3,4,5,6,7,8,16,17,18,19,20,21,22,23,24,25,26,27,28,29,30,31,32,33] (T (show ((((M (E a)).length:Nat):Int)==0)=false from y) (T (show ((((M (E b)).length:Nat):Int)==0)=false from z) a0))) (C1.seq (G (t:=(A9j (o [F na,Y W xs])::(A9j (o [F nb,Y W ys])::(A9s [F na,Y W xs]::(A9s [F nb,Y W ys]::(A9s [F false,H 0 []]::(A9j (F (A9i (a<0)))::(A9j (H ((M (E a)).length) (W (M (E a))))::(A9j (F (A9i (b<0)))::(A9j (H ((M (E b)).length) (W (M (E b))))::(A9n 1 (A (I O ((((M (E a)).length:Nat):Int)+(((M (E b)).length:Nat):Int)))) (Cz [D Ad 0] (A (I O ((((M (E a)).length:Nat):Int)+(((M (E b)).length:Nat):Int)))))::(Ac 6 (A9j (Ax [F (A9i (a<0)),H ((M (E a)).length) (W (M (E a)))])::(A9j (o [F na,Y W xs])::(A9j (Ax [F (A9i (a<0)),H ((M (E a)).length) (W (M (E a)))])::(A9j (F (A9i (a<0)))::(A9j (H ((M (E a)).length) (W (M (E a))))::(A9j (Ax [F (A9i (b<0)),H ((M (E b)).length) (W (M (E b)))])::(A9j (o [F nb,Y W ys])::(A9j (Ax [F (A9i (b<0)),H ((M (E b)).length) (W (M (E b)))])::(A9j (F (A9i (b<0)))::(A9j (H ((M (E b)).length) (W (M (E b))))::(A9j (H ((M (E a)).length) (W (M (E a))))::(m (((M (E a)).length:Nat):Int)::(A9j (F ((((M (E a)).length:Nat):Int)==0))::(A9j (F ((((M (E a)).length:Nat):Int)==0))::(A9j (H ((M (E b)).length) (W (M (E b))))::(m (((M (E b)).length:Nat):Int)::(A9j (F ((((M (E b)).length:Nat):Int)==0))::(A9j (F ((((M (E b)).length:Nat):Int)==0))::(Ac 1 (A9j (H ((M (E a)).length) (W (M (E a))))::(m (((M (E a)).length:Nat):Int)::(A9j (H ((M (E b)).length) (W (M (E b))))::(m (((M (E b)).length:Nat):Int)::(m (I O ((((M (E a)).length:Nat):Int)+(((M (E b)).length:Nat):Int)))::(Ac 54 []))))))))))))))))))))))))))))))))))))) AAb 300 [] ((0)::(1)::(2)::(3)::(4)::(5)::(6)::(7)::(8)::(9)::(16)::(17)::(18)::(19)::(20)::(21)::(22)::(23)::(24)::(25)::(26)::(27)::(28)::(29)::(30)::(31)::(32)::(33)::(35)::(36)::(37)::(38)::(39)::[]) (T (show 0<=(I O ((((M (E a)).length:Nat):Int)+(((M (E b)).length:Nat):Int)))/\(I O ((((M (E a)).length:Nat):Int)+(((M (E b)).length:Nat):Int)))<=1048576 from hmk) a0)) (C1.seq (C1.seq (G (t:=(Ac 4 (A9s [F false,H 0 []]::(A9j (F (A9i (a<0)))::(Ac 1 (A9j (F (A9i (b<0)))::(A9j (H ((M (E b)).length) (W (M (E b))))::(A9n 1 (A (I O ((((M (E a)).length:Nat):Int)+(((M (E b)).length:Nat):Int)))) (Cz [D Ad 0] (A (I O ((((M (E a)).length:Nat):Int)+(((M (E b)).length:Nat):Int)))))::(Ac 31 (A9j (H ((M (E a)).length) (W (M (E a))))::(m (((M (E a)).length:Nat):Int)::(m 0::(Ac 50 []))))))))))))) AAb 300 [] [4,5,7,8,9,41,42,43] a0) (C1.block hl)) (G (t:=(Ac 4 (bN r::(A9j (F (A9i (a<0)))::(Ac 1 (A9j (F (A9i (b<0)))::(A9j (H ((M (E b)).length) (W (M (E b))))::(A9j (H (A (I O ((((M (E a)).length:Nat):Int)+(((M (E b)).length:Nat):Int)))) (W out))::(Ac 31 (A9j (H ((M (E a)).length) (W (M (E a))))::(m (((M (E a)).length:Nat):Int)::(m (((M (E a)).length:Nat):Int)::(Ac 45 (A9j (F (A9i (a<0)))::(A9j (F (A9i (b<0)))::(A9j (F (!((A9i (a<0))==(A9i (b<0)))))::(A9j (H (A (I O ((((M (E a)).length:Nat):Int)+(((M (E b)).length:Nat):Int)))) (W out))::(A9j (o [F (A9i (r<0)),H ((M (E r)).length) (W (M (E r)))])::[])))))))))))))))))) (ex := .ret) AAb 300 [.r (o [F (A9i (r<0)),H ((M (E r)).length) (W (M (E r)))])] [4,5,7,8,9,41,42,43,89,90,91,92,93] (T (show RQ 152 [F (!((A9i (a<0))==(A9i (b<0)))),H (A (I O ((((M (E a)).length:Nat):Int)+(((M (E b)).length:Nat):Int)))) (W out)] (o [F (A9i (r<0)),H ((M (E r)).length) (W (M (E r)))]) from h3) a0))))))))
theorem YJ(a b:Int)(zs:LI)(h:Ab zs=(a.natAbs:Int)*(b.natAbs:Int)):v (!(decide (a<0)==decide (b<0))) zs=a*b:=by
 unfold v;rw[h];by_cases g1:a<0 <;> by_cases g2:b<0
 ·have e1:(a.natAbs:Int) = -a:=by omega
  have e2:(b.natAbs:Int) = -b:=by omega
  rw[e1,e2];simp[g1,g2] <;> grind
 ·have e1:(a.natAbs:Int) = -a:=by omega
  have e2:(b.natAbs:Int)=b:=by omega
  rw[e1,e2];simp[g1,g2] <;> grind
 ·have e1:(a.natAbs:Int)=a:=by omega
  have e2:(b.natAbs:Int) = -b:=by omega
  rw[e1,e2];simp[g1,g2] <;> grind
 ·have e1:(a.natAbs:Int)=a:=by omega
  have e2:(b.natAbs:Int)=b:=by omega
  rw[e1,e2];simp[g1,g2]
theorem SM{na nb:Bool}{xs ys:LI}(hx:AP xs)(hy:AP ys)(hN:xs.length+ys.length<=1048576):RQ 112 [o [F na,Y W xs],o [F nb,Y W ys]] (Ag (v na xs*v nb ys)):=by
 have l1:=EG (neg:=na) hx;have l2:=EG (neg:=nb) hy;have k1:=Du (neg:=na) hx (by omega);have k2:=Du (neg:=nb) hy (by omega);generalize v na xs=a at *
 generalize v nb ys=b at *
 have z1:=Dp a.natAbs;have z2:=Dp b.natAbs;by_cases ha:a=0
 ·have h:=pF na xs nb ys a b k1 k2 (by rw[beq_iff_eq];omega);rw[ha,CX];exact h
 by_cases hb:b=0
 ·have h:=pG na xs nb ys a b k1 k2 (by rw[beq_eq_false_iff_ne];omega) (by rw[beq_iff_eq];omega);rw[hb,AI];exact h
 have e1:I O ((((M (E a)).length:Nat):Int)+(((M (E b)).length:Nat):Int))=(((M (E a)).length+(M (E b)).length:Nat):Int):=by rw[Bl (by omega) (by omega)];omega
 have e2:(A (I O ((((M (E a)).length:Nat):Int)+(((M (E b)).length:Nat):Int))))=(M (E a)).length+(M (E b)).length:=by rw[e1,R]
 obtain⟨out,S,o2,o3,o4⟩:=Abu (A9i (a<0)) (A9i (b<0)) (M (E a)) (M (E b)) (BR _) (BR _) (by omega) (M (E a)).length 0 (At ((M (E a)).length+(M (E b)).length) 0) (by omega) (by simp) (EN _) (fun j _=>DA _ j);have hv:Ab out=(a.natAbs:Int)*(b.natAbs:Int):=by rw[o3,ED];simp[Cx]
 have h3:=EI (neg := !(decide (a<0)==decide (b<0))) o2 (by omega);(first|rw[YJ a b out hv,S] at h3|(rw[YJ a b out hv] at h3;unfold Y at h3;rw[S] at h3));exact pH na xs nb ys a b k1 k2 out _ (by rw[beq_eq_false_iff_ne];omega) (by rw[beq_eq_false_iff_ne];omega) (by rw[e1];omega) (by rw[e2,EY];exact o4) (by rw[e2];exact h3)
def TWC:Cw:=TWB
theorem BQ:Ch AZ TWC:=AAb
def QI(na:Bool)(xs:LI)(w:Int)(s:Int)(k:Nat)(os:LI)(n:Int)(i:Int)(z:Rn):Al:=(Ac 4 (A9s [F z.1,H z.2.length (W z.2)]::(A9j (F na)::(Ac 1 (A9j (D O w)::(A9j (D B s)::(A9n 1 k (W os)::(Ac 23 (A9j (Y W xs)::(A9j (D O n)::(A9j (D O i)::(Ac 31 []))))))))))))
theorem Ats(na:Bool)(xs:LI)(w:Int)(s:Int)(k:Nat)(os:LI)(n:Int)(i:Int)(z:Rn)(c1:A9i (i<n)=true)(n1:0<=i/\i<(xs.length:Int))(n2:¬ s<0)(n3:0<=(I O (i+w))/\(I O (i+w))<(k:Int))(n4:os.length=k)(n5:0<=(I O ((I O (i+w))+1))/\(I O ((I O (i+w))+1))<(k:Int))(n6:(os.set (A (I O (i+w))) (I Ad ((U (An .u32) (os.getD (A (I O (i+w))) 0) ||| U (An .u32) (I Ad (I B ((I B (xs.getD (A i) 0))*2^(min (A s) (An .u64)))))).toNat))).length=k):Ar Vk (QI na xs w s k os n i z) .norm (QI na xs w s k ((os.set (A (I O (i+w))) (I Ad ((U (An .u32) (os.getD (A (I O (i+w))) 0) ||| U (An .u32) (I Ad (I B ((I B (xs.getD (A i) 0))*2^(min (A s) (An .u64)))))).toNat))).set (A (I O ((I O (i+w))+1))) (I Ad (A9q (I B ((I B (xs.getD (A i) 0))*2^(min (A s) (An .u64)))) (2^(min (A 32) (An .u64)))))) n (I O (i+1)) z):=(G BQ 400 [.b true,.v (D Ad (xs.getD (A i) 0)),.v (D Ad (os.getD (A (I O (i+w))) 0)),.l (W (os.set (A (I O (i+w))) (I Ad ((U (An .u32) (os.getD (A (I O (i+w))) 0) ||| U (An .u32) (I Ad (I B ((I B (xs.getD (A i) 0))*2^(min (A s) (An .u64)))))).toNat)))),.l (W ((os.set (A (I O (i+w))) (I Ad ((U (An .u32) (os.getD (A (I O (i+w))) 0) ||| U (An .u32) (I Ad (I B ((I B (xs.getD (A i) 0))*2^(min (A s) (An .u64)))))).toNat))).set (A (I O ((I O (i+w))+1))) (I Ad (A9q (I B ((I B (xs.getD (A i) 0))*2^(min (A s) (An .u64)))) (2^(min (A 32) (An .u64)))))))] [4,5,7,8,9,33,34,35] (T c1 (T n1 (T (AAe n1) (T n2 (T n3 (T (Co n4 n3) (T n3 (T (show C6 (W os) (A (I O (i+w))*1) [D Ad (I Ad ((U (An .u32) (os.getD (A (I O (i+w))) 0) ||| U (An .u32) (I Ad (I B ((I B (xs.getD (A i) 0))*2^(min (A s) (An .u64)))))).toNat))]=some (W (os.set (A (I O (i+w))) (I Ad ((U (An .u32) (os.getD (A (I O (i+w))) 0) ||| U (An .u32) (I Ad (I B ((I B (xs.getD (A i) 0))*2^(min (A s) (An .u64)))))).toNat)))) from (Db n4 n3)) (T It (T n5 (T (show C6 (W (os.set (A (I O (i+w))) (I Ad ((U (An .u32) (os.getD (A (I O (i+w))) 0) ||| U (An .u32) (I Ad (I B ((I B (xs.getD (A i) 0))*2^(min (A s) (An .u64)))))).toNat)))) (A (I O ((I O (i+w))+1))*1) [D Ad (I Ad (A9q (I B ((I B (xs.getD (A i) 0))*2^(min (A s) (An .u64)))) (2^(min (A 32) (An .u64)))))]=some (W ((os.set (A (I O (i+w))) (I Ad ((U (An .u32) (os.getD (A (I O (i+w))) 0) ||| U (An .u32) (I Ad (I B ((I B (xs.getD (A i) 0))*2^(min (A s) (An .u64)))))).toNat))).set (A (I O ((I O (i+w))+1))) (I Ad (A9q (I B ((I B (xs.getD (A i) 0))*2^(min (A s) (An .u64)))) (2^(min (A 32) (An .u64))))))) from (Db n6 n5)) a0))))))))))))
theorem Att(na:Bool)(xs:LI)(w:Int)(s:Int)(k:Nat)(os:LI)(n:Int)(i:Int)(z:Rn)(c1:A9i (i<n)=false):Ar Vk (QI na xs w s k os n i z) (.exit 0) (QI na xs w s k os n i z):=(G BQ 400 [.b false] [4,5,7,8,9,33,34,35] (T c1 a0))
theorem pI(b na:Bool)(xs as1:LI)(m:Int)(c1:((as1.length:Int)==0)=true)(n1:RQ 143 [o [F b,Y W xs]] (Ax [F na,Y W as1])):RQ 104 [o [F b,Y W xs],D O m] (o [F false,H 0 []]):=A9g Sn (Ac 4 (A9s [F false,H 0 []]::(Ac 62 []))) (A9m (A9m (A9m (A9m (A9t (A8 (G BQ 400 [.r (Ax [F na,Y W as1]),.b true] [4] (T n1 (T c1 a0))) (by nofun)))))))
theorem pJ(b na:Bool)(xs as1 os:LI)(m w s n i v:Int)(k:Nat)(z:Rn)(c1:((as1.length:Int)==0)=false)(n1:RQ 143 [o [F b,Y W xs]] (Ax [F na,Y W as1]))(n2:0<=(I O ((I O ((as1.length:Int)+(I O (Av m 32))))+1))/\(I O ((I O ((as1.length:Int)+(I O (Av m 32))))+1))<=1048576)(hl3:Ar (.loop Vk) ((Ac 4 (A9s [F false,H 0 []]::(A9j (F na)::(Ac 1 (A9j (D O (I O (Av m 32)))::(A9j (D B (I B (AC m 32)))::(A9n 1 (A (I O ((I O ((as1.length:Int)+(I O (Av m 32))))+1))) (Cz [D Ad 0] (A (I O ((I O ((as1.length:Int)+(I O (Av m 32))))+1))))::(Ac 23 (A9j (Y W as1)::(A9j (D O (as1.length:Int))::(A9j (D O 0)::(Ac 31 []))))))))))))) (.exit 0) (QI na as1 w s k os n i z))(n4:RQ 152 [F na,H k (W os)] (Ag v)):RQ 104 [o [F b,Y W xs],D O m] (Ag v):=A9g Sn (Ac 4 (A9s [F (A9i (v<0)),H ((M (E v)).length) (W (M (E v)))]::(Ac 62 []))) (A9m (A9m (A9m (A9m (A9t (C1.seq (G BQ 400 [.r (Ax [F na,Y W as1]),.b false] [4,5,7,8,9,33,34,35] (T n1 (T c1 (T FO (T FO (T n2 a0)))))) (C1.seq (C1.block hl3) (G BQ 400 [.r (Ag v)] [4] (T n4 a0)))))))))
def TL(ts:List Rn)(r:Rn)(e:Int)(w:Rn)(i:Int)(s:Int):Al:=(A9j (Y pc ts)::(Ac 2 (A9s [F r.1,H r.2.length (W r.2),D O e]::(Ac 1 (A9s [F w.1,H w.2.length (W w.2)]::(A9j (D O i)::(A9j (D O s)::(Ac 24 []))))))))
theorem A2n(ts:List Rn)(r:Rn)(e:Int)(w:Rn)(i:Int)(s:Int)(t:Int)(c1:A9i (i>=0)=true)(n1:0<=i/\i<(ts.length:Int))(n2:RQ 112 [Ay w,Ay r] (Ag ((Q w)*(Q r))))(n3:RQ 104 [Ay (ts.getD (A i) z0),D O s] (Ag t))(n4:RQ 111 [Ag ((Q w)*(Q r)),Ag t] (Ag (((Q w)*(Q r))+t))):Ar dA (TL ts r e w i s) .norm (TL ts r e (V (((Q w)*(Q r))+t)) (I O (i-1)) (I O (s+e))):=(G BQ 400 [.b true,.r (Ag ((Q w)*(Q r))),.v (Ay (ts.getD (A i) z0)),.r (Ag t),.r (Ag (((Q w)*(Q r))+t))] [0,3,5,6,7] (T c1 (T n2 (T n1 (T (BN n1) (T n3 (T n4 a0)))))))
theorem A2o(ts:List Rn)(r:Rn)(e:Int)(w:Rn)(i:Int)(s:Int)(c1:A9i (i>=0)=false):Ar dA (TL ts r e w i s) (.exit 0) (TL ts r e w i s):=(G BQ 400 [.b false] [0,3,5,6,7] (T c1 a0))
theorem A2p(ts:List Rn)(r w:Rn)(e i s sg:Int)(hl1:Ar (.loop dA) (TL ts r e (false,[]) (I O ((ts.length:Int)-1)) 0) (.exit 0) (TL ts r e w i s))(n2:RQ 101 [Ay w] (D O sg)):RQ 65 [Y pc ts,o [F r.1,H r.2.length (W r.2),D O e]] (D O sg):=A9g dB (Ac 4 (A9j (D O sg)::(Ac 27 []))) (A9m (A9t (C1.seq (G BQ 400 [] [0,3,5,6,7] a0) (C1.seq (C1.block hl1) (G BQ 400 [.r (D O sg)] [4] (T n2 a0))))))
def TSA:Cw:=TWC
theorem pK:Ch AZ TSA:=BQ
theorem Abv{na:Bool}{xs:LI}{z:Rn}{w s:Nat}(hx:AP xs)(hs:s<32)(hN:w+xs.length<1048576):∀ (r i:Nat) (os:LI),i+r=xs.length->os.length=w+xs.length+1->AP os->Ab os=4294967296^w*(2^s*Ab (xs.take i))->os.getD (i+w) 0<2^s->(∀ t,i+w<t->os.getD t 0=0) ->
  ∃ os',Ar (.loop Vk) (QI na xs (w:Nat) (s:Nat) (w+xs.length+1) os (xs.length:Nat) (i:Nat) z) (.exit 0) (QI na xs (w:Nat) (s:Nat) (w+xs.length+1) os' (xs.length:Nat) (xs.length:Nat) z)/\os'.length=w+xs.length+1/\AP os'/\Ab os'=4294967296^w*(2^s*Ab xs):=by
 intro r;induction r with
 | zero =>
  intro i os hi hl hu hv _ _;have:i=xs.length:=by omega
  subst this;exact⟨os,Ao (Att na xs _ _ _ os _ _ z (by simp)) (by nofun),hl,hu,by rw[hv,EE]⟩
 | succ r ih =>
  intro i os hi hl hu hv hc hz;have ei:I O ((i:Int)+1)=((i+1:Nat):Int):=by rw[Bl (by omega) (by omega)];omega
  have ew:I O ((i:Int)+(w:Int))=((i+w:Nat):Int):=by rw[Bl (by omega) (by omega)];omega
  have ew1:I O (((i+w:Nat):Int)+1)=((i+w+1:Nat):Int):=by rw[Bl (by omega) (by omega)];omega
  have hxi:=AG hx i;have hoi:=AG hu (i+w);obtain⟨p0,p1,p2,q,q0,q1⟩:=Wy hxi hs;have es:(2:Int)^(min (A (s:Int)) (An .u64))=2^s:=by
   rw[R];congr 1;show min s 64=s;omega
  have hk:=Ats na xs (w:Nat) (s:Nat) (w+xs.length+1) os (xs.length:Nat) (i:Nat) z (by simp;omega) (by omega) (by omega) (by rw[ew];omega) hl (by rw[ew,ew1];omega) (by simpa using hl);rw[ei,ew,ew1,es,R,R,R,CC (n:=xs.getD i 0) (by omega),CC ⟨p0,p1⟩,YE,DW (xs.getD i 0*2^s),q1] at hk;have hqs:q*2^s<4294967296:=by rw[<- q1];omega
  rw[Asl q0 hqs (by omega) ⟨hoi.1,hc⟩] at hk;have hhi:0<=xs.getD i 0*2^s / 4294967296:=by omega
  have hp2:(2:Int)^s<=4294967296:=by have:=G6 (show s<=32 by omega);rwa [show (2:Int)^32=4294967296 by decide] at this
  rw[R1 ⟨hhi,by omega⟩] at hk;have hsum:0<=q*2^s+os.getD (i+w) 0/\q*2^s+os.getD (i+w) 0<4294967296:=by
   have hq2:0<=q*2^s:=by rw[<- q1];omega
   refine⟨by omega,?_⟩;have e:=R2 (show s<=32 by omega);rw[e] at hqs |-;have hp:=BP s;have:=Do hqs (by omega);have:=Ae (show q+1<=2^(32-s) by omega) (show (0:Int)<=2^s by omega);rw[G4,Dt] at this;omega
  obtain⟨os',g1,g2,g3,g4⟩:=ih (i+1) ((os.set (i+w) (q*2^s+os.getD (i+w) 0)).set (i+w+1) (xs.getD i 0*2^s / 4294967296)) (by omega) (by simpa using hl) (C2 (C2 hu hsum) ⟨hhi,by omega⟩) (by
    rw[DP _ _ _ (by simp;omega),DP _ _ _ (by omega),Cy (by omega),hz (i+w+1) (by omega),hv,DX xs i (by omega),A2,BG];have e3:xs.getD i 0*2^s=4294967296*(xs.getD i 0*2^s / 4294967296)+q*2^s:=by omega
    generalize (4294967296:Int)^i=P at *
    generalize (4294967296:Int)^w=V at *
    generalize xs.getD i 0*2^s / 4294967296=H at *
    generalize os.getD (i+w) 0=o at *
    generalize q*2^s=Q at *
    have e4:(2:Int)^s*(Ab (xs.take i)+P*xs.getD i 0)=2^s*Ab (xs.take i)+P*(xs.getD i 0*2^s):=by grind
    rw[e4,e3];grind) (by
    rw[show i+1+w=i+w+1 by omega,show ((os.set (i+w) (q*2^s+os.getD (i+w) 0)).set (i+w+1) (xs.getD i 0*2^s / 4294967296)).getD (i+w+1) 0=xs.getD i 0*2^s / 4294967296 by simp[Z,show i+w+1<os.length by omega]];exact p2) (fun t ht=>by rw[Cy (by omega),Cy (by omega)];exact hz t (by omega))
  exact⟨os',C1.loop hk g1,g2,g3,g4⟩
theorem YK{neg:Bool}{xs:LI}(hu:AP xs)(n:Nat)(hn:n<=9223372036854775807)(hN:n / 32+xs.length+1<=1048576):RQ 104 [o [F neg,Y W xs],D O (n:Nat)] (Ag (v neg xs*2^n)):=by
 have l1:=EG (neg:=neg) hu;have r1:=Du (neg:=neg) hu (by omega);generalize v neg xs=a at *
 by_cases h0:(M a.natAbs).length=0
 ·have h:=pI neg _ xs (M a.natAbs) (n:Nat) (by rw[h0];rfl) r1;have ha:a=0:=by have:=(Dp a.natAbs).1 h0;omega
  rw[ha,CX];exact h
 ·have e1:I O (Av (n:Int) 32)=((n / 32:Nat):Int):=by
   rw[BH (by omega),Bl (by omega) (by omega)];omega
  have e2:I B (AC (n:Int) 32)=((n % 32:Nat):Int):=by
   rw[Bu (by omega),CC (by omega)];omega
  have e3:I O ((((M a.natAbs).length:Nat):Int)+((n / 32:Nat):Int))=((n / 32+(M a.natAbs).length:Nat):Int):=by rw[Bl (by omega) (by omega)];omega
  have e4:I O (((n / 32+(M a.natAbs).length:Nat):Int)+1)=((n / 32+(M a.natAbs).length+1:Nat):Int):=by rw[Bl (by omega) (by omega)];omega
  have hs:n % 32<32:=HR _ (by decide);obtain⟨os,g1,g2,g3,g4⟩:=Abv (na:=decide (a<0)) (xs:=M a.natAbs) (z:=z0) (w:=n / 32) (BR a.natAbs) hs (by omega) (M a.natAbs).length 0 (At (n / 32+(M a.natAbs).length+1) 0) (by omega) (by simp) (EN _) (by rw[ED];simp[Ab]) (by rw[DA];exact BP _) (fun t _=>DA _ _);have hm:=EI (neg:=decide (a<0)) g3 (by omega);have hv:v (A9i (a<0)) os=a*2^n:=by
   rw[YB (xs:=M a.natAbs) (t:=2^n) (by rw[g4,Ij n];grind),F8]
  rw[hv] at hm;unfold Y at hm;rw[g2] at hm;exact pJ neg _ xs (M a.natAbs) os (n:Nat) _ _ _ _ _ _ _ (by rw[beq_eq_false_iff_ne];omega) r1 (by rw[e1,e3,e4];omega) (by rw[e1,e2,e3,e4,R,EY];exact g1) hm
theorem Atu{K X:Nat}{ts:List Rn}{r:Rn}(ht:∀ t∈ts,AO K t)(hr:AO X r)(e:Nat)(hS:K+2+(ts.length+1)*(X+(e / 32+1)+1)<=1048576)(he:e<=1073741824) :
  ∀ n (w:Rn),n<=ts.length->Q w=hv ((P ts).drop n) (Q r) (2^e)->AO (K+1+(ts.length-n)*(X+(e / 32+1)+1)) w -> 
  ∃ w' s',Q w'=hv (P ts) (Q r) (2^e)/\AO (K+1+ts.length*(X+(e / 32+1)+1)) w'/\Ar (.loop dA) (TL ts r (e:Nat) w ((n:Int)-1) ((e*(ts.length-n):Nat):Int)) (.exit 0) (TL ts r (e:Nat) w' (-1) s'):=by
 have hle:ts.length<=1048576:=by
  have:ts.length*1<=(ts.length+1)*(X+(e / 32+1)+1):=B2 (by omega) (by omega);omega
 intro n;induction n with
 | zero =>
  intro w _ hw gw;exact⟨w,_,by simpa using hw,gw,Ao (A2o ts r (e:Nat) w (((0:Nat):Int)-1) _ (by simp)) (by nofun)⟩
 | succ n ih =>
  intro w hn hw gw;obtain⟨t1,t2⟩:=Bk ht n;have e0:((n+1:Nat):Int)-1=(n:Int):=by omega
  have hK1:(ts.length-(n+1))*(X+(e / 32+1)+1)+(X+(e / 32+1)+1)=(ts.length-n)*(X+(e / 32+1)+1):=by
   rw[show ts.length-n=ts.length-(n+1)+1 by omega,DY,Fe]
  have hK2:(ts.length-n)*(X+(e / 32+1)+1)<=(ts.length+1)*(X+(e / 32+1)+1):=AE _ (by omega);have hsh:e*(ts.length-(n+1)) / 32<=(ts.length-(n+1))*(X+(e / 32+1)+1):=by
   have h3:e<=32*(e / 32+1):=by omega
   have h4:e*(ts.length-(n+1))<=32*((ts.length-(n+1))*(e / 32+1)):=by
    calc e*(ts.length-(n+1))<=(32*(e / 32+1))*(ts.length-(n+1)):=AE _ h3
     _=32*((ts.length-(n+1))*(e / 32+1)):=by rw[EL,CZ (e / 32+1)]
   have h5:(ts.length-(n+1))*(e / 32+1)<=(ts.length-(n+1))*(X+(e / 32+1)+1):=AAd _ (by omega);omega
  have hb1:e*(ts.length-(n+1))<=1073741824*1048576:=B2 he (by omega);have hb2:e*(ts.length-n)<=1073741824*1048576:=B2 he (by omega);have w1:I O (((e*(ts.length-(n+1)):Nat):Int)+(e:Int))=((e*(ts.length-n):Nat):Int):=by
   have:e*(ts.length-n)=e*(ts.length-(n+1))+e:=by rw[show ts.length-n=ts.length-(n+1)+1 by omega,PA]
   rw[Bl (by omega) (by omega)];omega
  have w2:I O ((n:Int)-1)=(n:Int)-1:=Bl (by omega) (by omega);have hst:hv ((P ts).drop n) (Q r) (2^e)=Q w*Q r+Q (ts.getD n z0)*2^(e*(ts.length-(n+1))):=by
   have h1:(P ts).drop n=(P ts).getD n 0::(P ts).drop (n+1):=by
    rw[Df (by rw[A9z];omega)];congr 1;rw[Z,Ah (by rw[A9z];omega)];rfl
   rw[h1,hv,CO,Es,A9z,<- hw,<- kX];generalize Q (ts.getD n z0)*2^(e*(ts.length-(n+1)))=A;grind
  have fw:=gw.fits;have fp:=(fw.mul hr.fits);have ft:Br (K+(e*(ts.length-(n+1)) / 32+1)) (Q (ts.getD n z0)*2^(e*(ts.length-(n+1)))):=(Bk ht n).fits.mul (QG _);have hgood:AO (K+1+(ts.length-n)*(X+(e / 32+1)+1)) (V (Q w*Q r+Q (ts.getD n z0)*2^(e*(ts.length-(n+1))))):=by
   refine (BL ((fp.mono (k:=K+1+(ts.length-(n+1))*(X+(e / 32+1)+1)+X+(e / 32+1)) (by omega)).add (ft.mono (by omega)))).mono (by omega)
  obtain⟨w',s',q1,q2,q3⟩:=ih (V (Q w*Q r+Q (ts.getD n z0)*2^(e*(ts.length-(n+1))))) (by omega) (by rw[A9y,hst]) hgood;refine⟨w',s',q1,q2,?_⟩;rw[e0];have l1:=fp.len;have l2:=ft.len;obtain⟨gw1,gw2⟩:=gw;have k:=A2n ts r (e:Nat) w (n:Nat) ((e*(ts.length-(n+1)):Nat):Int) (Q (ts.getD n z0)*2^(e*(ts.length-(n+1)))) (by simp) (by omega)
   (SM gw1 hr.1 (by have:=hr.2;omega))
   (by rw[R];exact YK t1 _ (by omega) (by omega))
   (by
    have:=Pn (na:=decide (Q w*Q r<0)) (nb:=decide (Q (ts.getD n z0)*2^(e*(ts.length-(n+1)))<0)) (BR (Q w*Q r).natAbs) (BR (Q (ts.getD n z0)*2^(e*(ts.length-(n+1)))).natAbs) (by omega) (by omega);rw[F8,F8] at this;exact this)
  rw[w1,w2] at k;exact C1.loop k q3
theorem Nl{K X:Nat}{rs:List Rn}{r:Rn}(ht:∀ t∈rs,AO K t)(hr:AO X r)(e:Nat)(hS:K+2+(rs.length+1)*(X+(e / 32+1)+1)<=1048576)(he:e<=1073741824) :
  RQ 65 [Y pc rs,o [F r.1,H r.2.length (W r.2),D O (e:Nat)]] (D O (BS (hv (P rs) (Q r) (2^e)))):=by
 have hle:rs.length<=1048576:=by
  have:rs.length*1<=(rs.length+1)*(X+(e / 32+1)+1):=B2 (by omega) (by omega);omega
 obtain⟨w',s',q1,q2,q3⟩:=Atu ht hr e hS he rs.length z0 (Ap _) (by rw[<- A9z,Kf];rfl) (Mp _);rw[P8,bH] at q3;have hK2:rs.length*(X+(e / 32+1)+1)<=(rs.length+1)*(X+(e / 32+1)+1):=AE _ (by omega);have hs:=Ng (neg:=w'.1) q2.1 (by have:=q2.2;omega);rw[show v w'.1 w'.2=Q w' from rfl,q1] at hs;have e1:I O ((rs.length:Int)-1)=(rs.length:Int)-1:=Bl (by omega) (by omega);exact A2p rs r w' (e:Nat) (-1) s' _ (by rw[e1];exact q3) hs
def TSB:Cw:=TSA
theorem I':Ch AZ TSB:=pK
def PS(as1:List Rn)(k:Nat)(cs:List AV)(bs:List Rn):Al:=(Ac 3 (A9j (Y pc as1)::(A9n 1 k cs::(A9j (Y pc bs)::(Ac 23 [])))))
theorem A2q(as1:List Rn)(k:Nat)(cs:List AV)(bs:List Rn)(us vs:List Rn)(c1:A9i ((bs.length:Int)>0)=true)(n1:k+1<=1048576)(n2:RQ 118 [Y pc as1,Y pc bs] (L 2 us.length (pc us)))(n3:RQ 117 [Y pc us] (L 2 vs.length (pc vs))):Ar Yp (PS as1 k cs bs) .norm (PS bs (k+1) (cs++([Y pc bs]:List AV)) vs):=(G A9o 400 [.b true,.r (L 2 us.length (pc us)),.r (L 2 vs.length (pc vs))] [3,4,5] (T c1 (T (show Bs ([Y pc bs]:List AV)=1*1 from rfl) (T n1 (T n2 (T n3 a0))))))
theorem uM(as1:List Rn)(k:Nat)(cs:List AV)(bs:List Rn)(c1:A9i ((bs.length:Int)>0)=false):Ar Yp (PS as1 k cs bs) (.exit 0) (PS as1 k cs bs):=(G A9o 400 [.b false] [3,4,5] (T c1 a0))
theorem fT(rs fs:List Rn)(c1:((fs.length:Int)==0)=true)(n1:RQ 114 [Y pc rs] (L 2 fs.length (pc fs))):RQ 67 [Y pc rs] (L 1 0 []):=A9g T1 (Ac 2 (A9n 1 0 []::(Ac 26 []))) (A9m (A9m (A9m (A9m (A8 (G A9o 400 [.r (L 2 fs.length (pc fs)),.b true] [2] (T n1 (T c1 a0))) (by nofun))))))
theorem fU(rs fs ds ps as1 bs:List Rn)(ls:List (List Rn))(c1:((fs.length:Int)==0)=false)(n1:RQ 114 [Y pc rs] (L 2 fs.length (pc fs)))(n2:RQ 116 [Y pc fs] (L 2 ds.length (pc ds)))(n3:RQ 115 [Y pc ds] (L 2 ps.length (pc ps)))(hl4:Ar (.loop Yp) (PS fs 1 ([Y pc fs]:List AV) ps) (.exit 0) (PS as1 ls.length (z ls) bs)):RQ 67 [Y pc rs] (L 1 ls.length (z ls)):=A9g T1 (Ac 2 (A9n 1 ls.length (z ls)::(Ac 26 []))) (A9m (A9m (A9m (A9m (C1.seq (G A9o 400 [.r (L 2 fs.length (pc fs)),.b false,.r (L 2 ds.length (pc ds)),.r (L 2 ps.length (pc ps))] [3,4,5] (T n1 (T c1 (T n2 (T n3 a0))))) (C1.seq (C1.block hl4) (G A9o 400 [] [2] a0)))))))
theorem fV(rs fs:List Rn)(c1:((fs.length:Int)==0)=true)(n1:RQ 114 [Y pc rs] (Y pc fs)):RQ 67 [Y pc rs] (L 1 0 []):=A9g T1 (Ac 2 (A9n 1 0 []::(Ac 26 []))) (A9m (A9m (A9m (A9m (A8 (G A9o 400 [.r (Y pc fs),.b true] [2] (T n1 (T c1 a0))) (by nofun))))))
theorem fW(rs fs ds ps as1 bs:List Rn)(ls:List (List Rn))(c1:((fs.length:Int)==0)=false)(n1:RQ 114 [Y pc rs] (Y pc fs))(n2:RQ 116 [Y pc fs] (L 2 ds.length (pc ds)))(n3:RQ 115 [Y pc ds] (L 2 ps.length (pc ps)))(hl4:Ar (.loop Yp) (PS fs 1 ([Y pc fs]:List AV) ps) (.exit 0) (PS as1 ls.length (z ls) bs)):RQ 67 [Y pc rs] (L 1 ls.length (z ls)):=A9g T1 (Ac 2 (A9n 1 ls.length (z ls)::(Ac 26 []))) (A9m (A9m (A9m (A9m (C1.seq (G A9o 400 [.r (Y pc fs),.b false,.r (L 2 ds.length (pc ds)),.r (L 2 ps.length (pc ps))] [3,4,5] (T n1 (T c1 (T n2 (T n3 a0))))) (C1.seq (C1.block hl4) (G A9o 400 [] [2] a0)))))))
def L7(ls:List (List Rn))(r:Rn)(e:Int)(n:Int)(last:Int)(m:Int)(i:Int):Al:=(Ac 3 (A9s [F r.1,H r.2.length (W r.2),D O e]::(Ac 1 (A9j (D O n)::(A9j (D O last)::(Ac 3 (A9j (Y z ls)::(A9j (D O m)::(A9j (D O i)::(Ac 24 []))))))))))
theorem A2r(ls:List (List Rn))(r:Rn)(e:Int)(n:Int)(last:Int)(m:Int)(i:Int)(s:Int)(c1:A9i (i<m)=true)(c2:(s != 0)=true)(c3:(last != 0)=true)(c4:(s != last)=true)(n1:0<=i/\i<(ls.length:Int))(n2:RQ 65 [H ((ls.getD (A i) []).length) (pc (ls.getD (A i) [])),o [F r.1,H r.2.length (W r.2),D O e]] (D O s)):Ar T2 (L7 ls r e n last m i) .norm (L7 ls r e (I O (n+1)) s m (I O (i+1))):=(G A9o 400 [.b true,.v (H ((ls.getD (A i) []).length) (pc (ls.getD (A i) []))),.r (D O s),.b true,.b true,.b true,.b true] [3,5,6,10,11,12] (T c1 (T n1 (T (Fv n1) (T n2 (T c2 (T c3 (T c4 (T c2 a0)))))))))
theorem A2s(ls:List (List Rn))(r:Rn)(e:Int)(n:Int)(last:Int)(m:Int)(i:Int)(s:Int)(c1:A9i (i<m)=true)(c2:(s != 0)=true)(c3:(last != 0)=true)(c4:(s != last)=false)(n1:0<=i/\i<(ls.length:Int))(n2:RQ 65 [H ((ls.getD (A i) []).length) (pc (ls.getD (A i) [])),o [F r.1,H r.2.length (W r.2),D O e]] (D O s)):Ar T2 (L7 ls r e n last m i) .norm (L7 ls r e n s m (I O (i+1))):=(G A9o 400 [.b true,.v (H ((ls.getD (A i) []).length) (pc (ls.getD (A i) []))),.r (D O s),.b true,.b true,.b false,.b true] [3,5,6,10,11,12] (T c1 (T n1 (T (Fv n1) (T n2 (T c2 (T c3 (T c4 (T c2 a0)))))))))
theorem A2t(ls:List (List Rn))(r:Rn)(e:Int)(n:Int)(last:Int)(m:Int)(i:Int)(s:Int)(c1:A9i (i<m)=true)(c2:(s != 0)=true)(c3:(last != 0)=false)(n1:0<=i/\i<(ls.length:Int))(n2:RQ 65 [H ((ls.getD (A i) []).length) (pc (ls.getD (A i) [])),o [F r.1,H r.2.length (W r.2),D O e]] (D O s)):Ar T2 (L7 ls r e n last m i) .norm (L7 ls r e n s m (I O (i+1))):=(G A9o 400 [.b true,.v (H ((ls.getD (A i) []).length) (pc (ls.getD (A i) []))),.r (D O s),.b true,.b false,.b false,.b true] [3,5,6,10,11,12] (T c1 (T n1 (T (Fv n1) (T n2 (T c2 (T c3 (T ES (T c2 a0)))))))))
theorem A2u(ls:List (List Rn))(r:Rn)(e:Int)(n:Int)(last:Int)(m:Int)(i:Int)(s:Int)(c1:A9i (i<m)=true)(c2:(s != 0)=false)(n1:0<=i/\i<(ls.length:Int))(n2:RQ 65 [H ((ls.getD (A i) []).length) (pc (ls.getD (A i) [])),o [F r.1,H r.2.length (W r.2),D O e]] (D O s)):Ar T2 (L7 ls r e n last m i) .norm (L7 ls r e n last m (I O (i+1))):=(G A9o 400 [.b true,.v (H ((ls.getD (A i) []).length) (pc (ls.getD (A i) []))),.r (D O s),.b false,.b false,.b false,.b false] [3,5,6,10,11,12] (T c1 (T n1 (T (Fv n1) (T n2 (T c2 (T ES (T ES (T c2 a0)))))))))
theorem A2v(ls:List (List Rn))(r:Rn)(e:Int)(n:Int)(last:Int)(m:Int)(i:Int)(c1:A9i (i<m)=false):Ar T2 (L7 ls r e n last m i) (.exit 0) (L7 ls r e n last m i):=(G A9o 400 [.b false] [3,5,6,10,11,12] (T c1 a0))
theorem A2w(ls:List (List Rn))(r:Rn)(e n last i:Int)(hl1:Ar (.loop T2) (L7 ls r e 0 0 (ls.length:Int) 0) (.exit 0) (L7 ls r e n last (ls.length:Int) i)):RQ 68 [Y z ls,o [F r.1,H r.2.length (W r.2),D O e]] (D O n):=A9g dH (Ac 4 (A9j (D O n)::(Ac 32 []))) (A9m (A9t (C1.seq (G A9o 400 [] [3,5,6,10,11,12] a0) (C1.seq (C1.block hl1) (G A9o 400 [] [4] a0)))))
def O7(k:Nat)(cs:List AV)(bs:List Rn):Al:=(Ac 4 (A9n 1 k cs::(A9j (Y pc bs)::(Ac 27 []))))
theorem Atv(k:Nat)(cs:List AV)(bs:List Rn)(ws us vs:List Rn)(c1:A9i ((bs.length:Int)>0)=true)(n1:k+1<=1048576)(n2:0<=(I O ((((k+1):Nat):Int)-2))/\(I O ((((k+1):Nat):Int)-2))<(((k+1):Nat):Int))(n3:Bv (cs++([Y pc bs]:List AV)) (A (I O ((((k+1):Nat):Int)-2))*1) 1 true=some (Y pc ws))(n4:RQ 119 [Y pc ws,Y pc bs] (Y pc us))(n5:RQ 153 [Y pc us] (L 2 vs.length (pc vs))):Ar Vm (O7 k cs bs) .norm (O7 (k+1) (cs++([Y pc bs]:List AV)) vs):=(G A9o 400 [.b true,.v (Y pc ws),.r (Y pc us),.r (L 2 vs.length (pc vs))] [4,5] (T c1 (T (show Bs ([Y pc bs]:List AV)=1*1 from rfl) (T n1 (T n2 (T n3 (T n4 (T n5 a0))))))))
theorem fX(k:Nat)(cs:List AV)(bs:List Rn)(c1:A9i ((bs.length:Int)>0)=false):Ar Vm (O7 k cs bs) (.exit 0) (O7 k cs bs):=(G A9o 400 [.b false] [4,5] (T c1 a0))
theorem pL(rs fs:List Rn)(c1:((fs.length:Int)==0)=true)(n1:RQ 73 [Y pc rs] (Y pc fs)):RQ 108 [Y pc rs] (L 1 0 []):=A9g So (Ac 2 (A9n 1 0 []::(Ac 30 []))) (A9m (A9m (A9m (A9m (A8 (G A9o 400 [.r (Y pc fs),.b true] [2] (T n1 (T c1 a0))) (by nofun))))))
theorem pM(rs fs ds ps bs:List Rn)(ls:List (List Rn))(c1:((fs.length:Int)==0)=false)(n1:RQ 73 [Y pc rs] (Y pc fs))(n2:RQ 122 [Y pc fs] (L 2 ds.length (pc ds)))(n3:RQ 86 [Y pc ds] (L 2 ps.length (pc ps)))(hl4:Ar (.loop Vm) (O7 1 ([Y pc fs]:List AV) ps) (.exit 0) (O7 ls.length (z ls) bs)):RQ 108 [Y pc rs] (L 1 ls.length (z ls)):=A9g So (Ac 2 (A9n 1 ls.length (z ls)::(Ac 30 []))) (A9m (A9m (A9m (A9m (C1.seq (G A9o 400 [.r (Y pc fs),.b false,.r (L 2 ds.length (pc ds)),.r (L 2 ps.length (pc ps))] [4,5] (T n1 (T c1 (T n2 (T n3 a0))))) (C1.seq (C1.block hl4) (G A9o 400 [] [2] a0)))))))
def I7(ls:List (List Rn))(r:Rn)(e:Int)(n:Int)(last:Int)(i:Int):Al:=(A9j (Y z ls)::(Ac 2 (A9s [F r.1,H r.2.length (W r.2),D O e]::(Ac 1 (A9j (D O n)::(A9j (D O last)::(A9j (D O i)::(Ac 34 []))))))))
theorem Atw(ls:List (List Rn))(r:Rn)(e:Int)(n:Int)(last:Int)(i:Int)(w s:Int)(c1:A9i (i<(ls.length:Int))=true)(c2:(s != 0)=true)(c3:(last != 0)=true)(c4:(s != last)=true)(n1:0<=i/\i<(ls.length:Int))(n2:RQ 80 [H ((ls.getD (A i) []).length) (pc (ls.getD (A i) [])),Ay r,D O e] (Ag w))(n3:RQ 79 [Ag w] (D O s)):Ar Oi (I7 ls r e n last i) .norm (I7 ls r e (I O (n+1)) s (I O (i+1))):=(G A9o 400 [.b true,.v (H ((ls.getD (A i) []).length) (pc (ls.getD (A i) []))),.r (Ag w),.r (D O s),.b true,.b true,.b true,.b true] [0,3,5,6,7] (T c1 (T n1 (T (Fv n1) (T n2 (T n3 (T c2 (T c3 (T c4 (T c2 a0))))))))))
theorem Atx(ls:List (List Rn))(r:Rn)(e:Int)(n:Int)(last:Int)(i:Int)(w s:Int)(c1:A9i (i<(ls.length:Int))=true)(c2:(s != 0)=true)(c3:(last != 0)=true)(c4:(s != last)=false)(n1:0<=i/\i<(ls.length:Int))(n2:RQ 80 [H ((ls.getD (A i) []).length) (pc (ls.getD (A i) [])),Ay r,D O e] (Ag w))(n3:RQ 79 [Ag w] (D O s)):Ar Oi (I7 ls r e n last i) .norm (I7 ls r e n s (I O (i+1))):=(G A9o 400 [.b true,.v (H ((ls.getD (A i) []).length) (pc (ls.getD (A i) []))),.r (Ag w),.r (D O s),.b true,.b true,.b false,.b true] [0,3,5,6,7] (T c1 (T n1 (T (Fv n1) (T n2 (T n3 (T c2 (T c3 (T c4 (T c2 a0))))))))))
theorem Aty(ls:List (List Rn))(r:Rn)(e:Int)(n:Int)(last:Int)(i:Int)(w s:Int)(c1:A9i (i<(ls.length:Int))=true)(c2:(s != 0)=true)(c3:(last != 0)=false)(n1:0<=i/\i<(ls.length:Int))(n2:RQ 80 [H ((ls.getD (A i) []).length) (pc (ls.getD (A i) [])),Ay r,D O e] (Ag w))(n3:RQ 79 [Ag w] (D O s)):Ar Oi (I7 ls r e n last i) .norm (I7 ls r e n s (I O (i+1))):=(G A9o 400 [.b true,.v (H ((ls.getD (A i) []).length) (pc (ls.getD (A i) []))),.r (Ag w),.r (D O s),.b true,.b false,.b false,.b true] [0,3,5,6,7] (T c1 (T n1 (T (Fv n1) (T n2 (T n3 (T c2 (T c3 (T ES (T c2 a0))))))))))
theorem Atz(ls:List (List Rn))(r:Rn)(e:Int)(n:Int)(last:Int)(i:Int)(w s:Int)(c1:A9i (i<(ls.length:Int))=true)(c2:(s != 0)=false)(n1:0<=i/\i<(ls.length:Int))(n2:RQ 80 [H ((ls.getD (A i) []).length) (pc (ls.getD (A i) [])),Ay r,D O e] (Ag w))(n3:RQ 79 [Ag w] (D O s)):Ar Oi (I7 ls r e n last i) .norm (I7 ls r e n last (I O (i+1))):=(G A9o 400 [.b true,.v (H ((ls.getD (A i) []).length) (pc (ls.getD (A i) []))),.r (Ag w),.r (D O s),.b false,.b false,.b false,.b false] [0,3,5,6,7] (T c1 (T n1 (T (Fv n1) (T n2 (T n3 (T c2 (T ES (T ES (T c2 a0))))))))))
theorem Aua(ls:List (List Rn))(r:Rn)(e:Int)(n:Int)(last:Int)(i:Int)(c1:A9i (i<(ls.length:Int))=false):Ar Oi (I7 ls r e n last i) (.exit 0) (I7 ls r e n last i):=(G A9o 400 [.b false] [0,3,5,6,7] (T c1 a0))
theorem Aub(ls:List (List Rn))(r:Rn)(e n last i:Int)(hl1:Ar (.loop Oi) (I7 ls r e 0 0 0) (.exit 0) (I7 ls r e n last i)):RQ 110 [Y z ls,o [F r.1,H r.2.length (W r.2),D O e]] (D O n):=A9g Vn (Ac 4 (A9j (D O n)::(Ac 37 []))) (A9m (A9t (C1.seq (G A9o 400 [] [0,3,5,6,7] a0) (C1.seq (C1.block hl1) (G A9o 400 [] [4] a0)))))
def TZA:Cw:=TDD
theorem pO:Ch AZ TZA:=A9o
theorem Auc(na nb:Bool)(xs ys qs rs:LI)(v w:Int)(n1:RQ 99 [Y W xs] (L 1 ((A9l xs).length) (W (A9l xs))))(n2:RQ 99 [Y W ys] (L 1 ((A9l ys).length) (W (A9l ys))))(n3:RQ 165 [H ((A9l xs).length) (W (A9l xs)),H ((A9l ys).length) (W (A9l ys))] (Ax [Y W qs,Y W rs]))(n4:RQ 98 [F (!(na==nb)),Y W qs] (CI v))(n5:RQ 98 [F na,Y W rs] (CI w)):RQ 138 [o [F na,Y W xs],o [F nb,Y W ys]] (Ax [Ag v,Ag w]):=A9x (fn:=VA) A9o rfl 400 rfl [.r (L 1 ((A9l xs).length) (W (A9l xs))),.r (L 1 ((A9l ys).length) (W (A9l ys))),.r (Ax [Y W qs,Y W rs]),.r (CI v),.r (CI w)] (T n1 (T n2 (T n3 (T n4 (T n5 a0)))))
def L8(x:Rn)(y:Rn):Al:=(Ac 4 (A9s [F false,H 0 []]::(A9s [F x.1,H x.2.length (W x.2)]::(A9s [F y.1,H y.2.length (W y.2)]::(Ac 20 [])))))
theorem Abw(x:Rn)(y:Rn)(q r:Int)(c1:((BS (Q y)) != 0)=true)(n1:RQ 79 [Ay y] (D O (BS (Q y))))(n2:RQ 138 [Ay x,Ay y] (Ax [Ag q,Ag r])):Ar Ro (L8 x y) .norm (L8 y (V r)):=(G A9o 400 [.r (D O (BS (Q y))),.b true,.r (Ax [Ag q,Ag r])] [4,5,6] (T n1 (T c1 (T n2 a0))))
theorem YL(x:Rn)(y:Rn)(c1:((BS (Q y)) != 0)=false)(n1:RQ 79 [Ay y] (D O (BS (Q y)))):Ar Ro (L8 x y) (.exit 0) (L8 x y):=(G A9o 400 [.r (D O (BS (Q y))),.b false] [4,5,6] (T n1 (T c1 a0)))
theorem Aud(na nb:Bool)(xs ys:LI)(va vb:Int)(x y:Rn)(n1:RQ 98 [F false,Y W xs] (CI va))(n2:RQ 98 [F false,Y W ys] (CI vb))(hl3:Ar (.loop Ro) (L8 (V va) (V vb)) (.exit 0) (L8 x y)):RQ 164 [o [F na,Y W xs],o [F nb,Y W ys]] (Ay x):=A9g VQ (Ac 4 (A9s [F x.1,H x.2.length (W x.2)]::(Ac 22 []))) (A9m (C1.seq (G A9o 400 [.r (CI va),.r (CI vb)] [4,5,6] (T n1 (T n2 a0))) (C1.seq (C1.block hl3) (G A9o 400 [] [4] a0))))
def O8(rs:List Rn)(w:Rn)(i:Int):Al:=(A9j (Y pc rs)::(Ac 1 (A9s [F false,H 0 []]::(A9s [F w.1,H w.2.length (W w.2)]::(A9j (D O i)::(Ac 14 []))))))
theorem Aue(rs:List Rn)(w:Rn)(i:Int)(g:Int)(c1:A9i (i<(rs.length:Int))=true)(n1:0<=i/\i<(rs.length:Int))(n2:RQ 164 [Ay w,Ay (rs.getD (A i) z0)] (Ag g)):Ar V8 (O8 rs w i) .norm (O8 rs (V g) (I O (i+1))):=(G A9o 400 [.b true,.v (Ay (rs.getD (A i) z0)),.r (Ag g)] [0,2,3,4] (T c1 (T n1 (T (BN n1) (T n2 a0)))))
theorem Auf(rs:List Rn)(w:Rn)(i:Int)(c1:A9i (i<(rs.length:Int))=false):Ar V8 (O8 rs w i) (.exit 0) (O8 rs w i):=(G A9o 400 [.b false] [0,2,3,4] (T c1 a0))
theorem Aug(rs:List Rn)(w:Rn)(i:Int)(hl1:Ar (.loop V8) (O8 rs (false,[]) 0) (.exit 0) (O8 rs w i)):RQ 137 [Y pc rs] (Ay w):=A9g V9 (Ac 2 (A9s [F w.1,H w.2.length (W w.2)]::(Ac 16 []))) (A9m (A9t (C1.seq (G A9o 400 [] [0,2,3,4] a0) (C1.seq (C1.block hl1) (G A9o 400 [] [2] a0)))))
def TM(rs:List Rn)(c:Rn)(k:Nat)(cs:List AV)(i:Int):Al:=(A9j (Y pc rs)::(Ac 1 (A9n 2 0 []::(A9s [F c.1,H c.2.length (W c.2)]::(A9n 2 k cs::(A9j (D O i)::(Ac 28 [])))))))
theorem A2x(rs:List Rn)(c:Rn)(k:Nat)(cs:List AV)(i:Int)(q r:Int)(c1:A9i (i<(rs.length:Int))=true)(n1:0<=i/\i<(rs.length:Int))(n2:k+1<=1048576)(n3:RQ 138 [Ay (rs.getD (A i) z0),Ay c] (Ax [Ag q,Ag r])):Ar dM (TM rs c k cs i) .norm (TM rs c (k+1) (cs++([F (A9i (q<0)),H ((M (E q)).length) (W (M (E q)))]:List AV)) (I O (i+1))):=(G A9o 400 [.b true,.v (Ay (rs.getD (A i) z0)),.r (Ax [Ag q,Ag r])] [0,2,3,4,5] (T c1 (T n1 (T (BN n1) (T n3 (T (show Bs ([F (A9i (q<0)),H ((M (E q)).length) (W (M (E q)))]:List AV)=1*2 from rfl) (T n2 a0)))))))
theorem A2y(rs:List Rn)(c:Rn)(k:Nat)(cs:List AV)(i:Int)(c1:A9i (i<(rs.length:Int))=false):Ar dM (TM rs c k cs i) (.exit 0) (TM rs c k cs i):=(G A9o 400 [.b false] [0,2,3,4,5] (T c1 a0))
theorem Abx(rs:List Rn)(c:Int)(c1:((BS c)==0)=true)(n1:RQ 137 [Y pc rs] (Ag c))(n2:RQ 79 [Ag c] (D O (BS c))):RQ 86 [Y pc rs] (L 2 0 []):=A9g Yu (Ac 2 (A9n 2 0 []::(Ac 31 []))) (A9m (A9m (A9m (A9t (A8 (G A9o 400 [.r (Ag c),.r (D O (BS c)),.b true] [2] (T n1 (T n2 (T c1 a0)))) (by nofun))))))
theorem Aby(rs os ts:List Rn)(c i:Int)(k:Nat)(c1:((BS c)==0)=false)(n1:RQ 137 [Y pc rs] (Ag c))(n2:RQ 79 [Ag c] (D O (BS c)))(hl3:Ar (.loop dM) (TM rs (V c) 0 ([]:List AV) 0) (.exit 0) (TM rs (V c) k (pc os) i))(n4:RQ 46 [H k (pc os)] (L 2 ts.length (pc ts))):RQ 86 [Y pc rs] (L 2 ts.length (pc ts)):=A9g Yu (Ac 2 (A9n 2 ts.length (pc ts)::(Ac 31 []))) (A9m (A9m (A9m (A9t (C1.seq (G A9o 400 [.r (Ag c),.r (D O (BS c)),.b false] [0,2,3,4,5] (T n1 (T n2 (T c1 a0)))) (C1.seq (C1.block hl3) (G A9o 400 [.r (L 2 ts.length (pc ts))] [2] (T n4 a0))))))))
def O9(rs:List Rn)(k:Nat)(cs:List AV)(i:Int):Al:=(A9j (Y pc rs)::(Ac 1 (A9n 2 0 []::(A9n 2 k cs::(A9j (D O i)::(Ac 18 []))))))
theorem Auh(rs:List Rn)(k:Nat)(cs:List AV)(i:Int)(c1:A9i (i<(rs.length:Int))=true)(n1:0<=i/\i<(rs.length:Int))(n2:k+1<=1048576)(n3:RQ 49 [D O i] (Ag i))(n4:RQ 96 [Ag i,Ay (rs.getD (A i) z0)] (Ag (i*(Q (rs.getD (A i) z0))))):Ar Vx (O9 rs k cs i) .norm (O9 rs (k+1) (cs++([F (A9i ((i*(Q (rs.getD (A i) z0)))<0)),H ((M (E (i*(Q (rs.getD (A i) z0))))).length) (W (M (E (i*(Q (rs.getD (A i) z0))))))]:List AV)) (I O (i+1))):=(G A9o 400 [.b true,.r (Ag i),.v (Ay (rs.getD (A i) z0)),.r (Ag (i*(Q (rs.getD (A i) z0))))] [0,2,3,4] (T c1 (T n3 (T n1 (T (BN n1) (T n4 (T (show Bs ([F (A9i ((i*(Q (rs.getD (A i) z0)))<0)),H ((M (E (i*(Q (rs.getD (A i) z0))))).length) (W (M (E (i*(Q (rs.getD (A i) z0))))))]:List AV)=1*2 from rfl) (T n2 a0))))))))
theorem Aui(rs:List Rn)(k:Nat)(cs:List AV)(i:Int)(c1:A9i (i<(rs.length:Int))=false):Ar Vx (O9 rs k cs i) (.exit 0) (O9 rs k cs i):=(G A9o 400 [.b false] [0,2,3,4] (T c1 a0))
theorem Auj(rs os ts:List Rn)(i:Int)(k:Nat)(hl1:Ar (.loop Vx) (O9 rs 0 ([]:List AV) 1) (.exit 0) (O9 rs k (pc os) i))(n2:RQ 46 [H k (pc os)] (L 2 ts.length (pc ts))):RQ 122 [Y pc rs] (L 2 ts.length (pc ts)):=A9g Vy (Ac 2 (A9n 2 ts.length (pc ts)::(Ac 20 []))) (A9m (A9t (C1.seq (G A9o 400 [] [0,2,3,4] a0) (C1.seq (C1.block hl1) (G A9o 400 [.r (L 2 ts.length (pc ts))] [2] (T n2 a0))))))
def OA(rs:List Rn)(k:Nat)(cs:List AV)(i:Int):Al:=(A9j (Y pc rs)::(Ac 1 (A9n 2 0 []::(A9n 2 k cs::(A9j (D O i)::(Ac 16 []))))))
theorem Auk(rs:List Rn)(k:Nat)(cs:List AV)(i:Int)(c1:A9i (i<(rs.length:Int))=true)(n1:0<=i/\i<(rs.length:Int))(n2:k+1<=1048576)(n3:RQ 161 [Ay (rs.getD (A i) z0)] (Ag (-(Q (rs.getD (A i) z0))))):Ar VH (OA rs k cs i) .norm (OA rs (k+1) (cs++([F (A9i ((-(Q (rs.getD (A i) z0)))<0)),H ((M (E (-(Q (rs.getD (A i) z0))))).length) (W (M (E (-(Q (rs.getD (A i) z0))))))]:List AV)) (I O (i+1))):=(G A9o 400 [.b true,.v (Ay (rs.getD (A i) z0)),.r (Ag (-(Q (rs.getD (A i) z0))))] [0,2,3,4] (T c1 (T n1 (T (BN n1) (T n3 (T (show Bs ([F (A9i ((-(Q (rs.getD (A i) z0)))<0)),H ((M (E (-(Q (rs.getD (A i) z0))))).length) (W (M (E (-(Q (rs.getD (A i) z0))))))]:List AV)=1*2 from rfl) (T n2 a0)))))))
theorem Aul(rs:List Rn)(k:Nat)(cs:List AV)(i:Int)(c1:A9i (i<(rs.length:Int))=false):Ar VH (OA rs k cs i) (.exit 0) (OA rs k cs i):=(G A9o 400 [.b false] [0,2,3,4] (T c1 a0))
theorem Aum(rs os ts:List Rn)(i:Int)(k:Nat)(hl1:Ar (.loop VH) (OA rs 0 ([]:List AV) 0) (.exit 0) (OA rs k (pc os) i))(n2:RQ 46 [H k (pc os)] (L 2 ts.length (pc ts))):RQ 153 [Y pc rs] (L 2 ts.length (pc ts)):=A9g VI (Ac 2 (A9n 2 ts.length (pc ts)::(Ac 18 []))) (A9m (A9t (C1.seq (G A9o 400 [] [0,2,3,4] a0) (C1.seq (C1.block hl1) (G A9o 400 [.r (L 2 ts.length (pc ts))] [2] (T n2 a0))))))
theorem pQ(rs ns:List Rn)(c1:A9i ((rs.length:Int)>0)=true)(c2:(A9i ((BS (Q (rs.getD (A (I O ((rs.length:Int)-1))) z0)))<0))=true)(n1:0<=(I O ((rs.length:Int)-1))/\(I O ((rs.length:Int)-1))<(rs.length:Int))(n2:RQ 79 [Ay (rs.getD (A (I O ((rs.length:Int)-1))) z0)] (D O (BS (Q (rs.getD (A (I O ((rs.length:Int)-1))) z0)))))(n3:RQ 153 [Y pc rs] (L 2 ns.length (pc ns))):RQ 120 [Y pc rs] (L 2 ns.length (pc ns)):=A9x (fn:=Qs) A9o rfl 400 rfl [.b true,.v (Ay (rs.getD (A (I O ((rs.length:Int)-1))) z0)),.r (D O (BS (Q (rs.getD (A (I O ((rs.length:Int)-1))) z0)))),.b true,.r (L 2 ns.length (pc ns))] (T c1 (T n1 (T (BN n1) (T n2 (T c2 (T n3 a0))))))
theorem pR(rs:List Rn)(c1:A9i ((rs.length:Int)>0)=true)(c2:(A9i ((BS (Q (rs.getD (A (I O ((rs.length:Int)-1))) z0)))<0))=false)(n1:0<=(I O ((rs.length:Int)-1))/\(I O ((rs.length:Int)-1))<(rs.length:Int))(n2:RQ 79 [Ay (rs.getD (A (I O ((rs.length:Int)-1))) z0)] (D O (BS (Q (rs.getD (A (I O ((rs.length:Int)-1))) z0))))):RQ 120 [Y pc rs] (Y pc rs):=A9x (fn:=Qs) A9o rfl 400 rfl [.b true,.v (Ay (rs.getD (A (I O ((rs.length:Int)-1))) z0)),.r (D O (BS (Q (rs.getD (A (I O ((rs.length:Int)-1))) z0)))),.b false] (T c1 (T n1 (T (BN n1) (T n2 (T c2 a0)))))
theorem pS(rs:List Rn)(c1:A9i ((rs.length:Int)>0)=false):RQ 120 [Y pc rs] (Y pc rs):=A9x (fn:=Qs) A9o rfl 400 rfl [.b false,.b false] (T c1 (T ES a0))
def Gx(rs:List Rn)(ds:List Rn)(t:Rn)(u:Rn)(q:Int)(k:Nat)(cs:List AV)(i:Int):Al:=(Ac 4 (A9n 2 0 []::(A9j (Y pc rs)::(A9j (Y pc ds)::(A9s [F t.1,H t.2.length (W t.2)]::(A9s [F u.1,H u.2.length (W u.2)]::(A9j (D O q)::(A9n 2 k cs::(A9j (D O i)::(Ac 68 []))))))))))
theorem Abz(rs:List Rn)(ds:List Rn)(t:Rn)(u:Rn)(q:Int)(k:Nat)(cs:List AV)(i:Int)(c1:(A9i (i<(I O ((rs.length:Int)-1))))=true)(c2:A9i (i>=q)=true)(n1:0<=i/\i<(rs.length:Int))(n2:0<=(I O (i-q))/\(I O (i-q))<(ds.length:Int))(n3:k+1<=1048576)(n4:RQ 96 [o [F false,H t.2.length (W t.2)],Ay (rs.getD (A i) z0)] (Ag ((Q (false,t.2))*(Q (rs.getD (A i) z0)))))(n5:RQ 96 [Ay u,Ay (ds.getD (A (I O (i-q))) z0)] (Ag ((Q u)*(Q (ds.getD (A (I O (i-q))) z0)))))(n6:RQ 129 [Ag ((Q (false,t.2))*(Q (rs.getD (A i) z0))),Ag ((Q u)*(Q (ds.getD (A (I O (i-q))) z0)))] (Ag (((Q (false,t.2))*(Q (rs.getD (A i) z0)))-((Q u)*(Q (ds.getD (A (I O (i-q))) z0)))))):Ar Lw (Gx rs ds t u q k cs i) .norm (Gx rs ds t u q (k+1) (cs++([F (A9i ((((Q (false,t.2))*(Q (rs.getD (A i) z0)))-((Q u)*(Q (ds.getD (A (I O (i-q))) z0))))<0)),H ((M (E (((Q (false,t.2))*(Q (rs.getD (A i) z0)))-((Q u)*(Q (ds.getD (A (I O (i-q))) z0)))))).length) (W (M (E (((Q (false,t.2))*(Q (rs.getD (A i) z0)))-((Q u)*(Q (ds.getD (A (I O (i-q))) z0)))))))]:List AV)) (I O (i+1))):=(G A9o 400 [.b true,.v (Ay (rs.getD (A i) z0)),.r (Ag ((Q (false,t.2))*(Q (rs.getD (A i) z0)))),.b true,.v (Ay (ds.getD (A (I O (i-q))) z0)),.r (Ag ((Q u)*(Q (ds.getD (A (I O (i-q))) z0)))),.r (Ag (((Q (false,t.2))*(Q (rs.getD (A i) z0)))-((Q u)*(Q (ds.getD (A (I O (i-q))) z0)))))] [4,5,6,7,8,9,10,11] (T c1 (T n1 (T (BN n1) (T n4 (T c2 (T n2 (T (BN n2) (T n5 (T n6 (T (show Bs ([F (A9i ((((Q (false,t.2))*(Q (rs.getD (A i) z0)))-((Q u)*(Q (ds.getD (A (I O (i-q))) z0))))<0)),H ((M (E (((Q (false,t.2))*(Q (rs.getD (A i) z0)))-((Q u)*(Q (ds.getD (A (I O (i-q))) z0)))))).length) (W (M (E (((Q (false,t.2))*(Q (rs.getD (A i) z0)))-((Q u)*(Q (ds.getD (A (I O (i-q))) z0)))))))]:List AV)=1*2 from rfl) (T n3 a0))))))))))))
theorem Aca(rs:List Rn)(ds:List Rn)(t:Rn)(u:Rn)(q:Int)(k:Nat)(cs:List AV)(i:Int)(c1:(A9i (i<(I O ((rs.length:Int)-1))))=true)(c2:A9i (i>=q)=false)(n1:0<=i/\i<(rs.length:Int))(n2:k+1<=1048576)(n3:RQ 96 [o [F false,H t.2.length (W t.2)],Ay (rs.getD (A i) z0)] (Ag ((Q (false,t.2))*(Q (rs.getD (A i) z0))))):Ar Lw (Gx rs ds t u q k cs i) .norm (Gx rs ds t u q (k+1) (cs++([F (A9i (((Q (false,t.2))*(Q (rs.getD (A i) z0)))<0)),H ((M (E ((Q (false,t.2))*(Q (rs.getD (A i) z0))))).length) (W (M (E ((Q (false,t.2))*(Q (rs.getD (A i) z0))))))]:List AV)) (I O (i+1))):=(G A9o 400 [.b true,.v (Ay (rs.getD (A i) z0)),.r (Ag ((Q (false,t.2))*(Q (rs.getD (A i) z0)))),.b false] [4,5,6,7,8,9,10,11] (T c1 (T n1 (T (BN n1) (T n3 (T c2 (T (show Bs ([F (A9i (((Q (false,t.2))*(Q (rs.getD (A i) z0)))<0)),H ((M (E ((Q (false,t.2))*(Q (rs.getD (A i) z0))))).length) (W (M (E ((Q (false,t.2))*(Q (rs.getD (A i) z0))))))]:List AV)=1*2 from rfl) (T n2 a0))))))))
theorem Acb(rs:List Rn)(ds:List Rn)(t:Rn)(u:Rn)(q:Int)(k:Nat)(cs:List AV)(i:Int)(c1:(A9i (i<(I O ((rs.length:Int)-1))))=false):Ar Lw (Gx rs ds t u q k cs i) (.exit 2) (Gx rs ds t u q k cs i):=(G A9o 400 [.b false] [4,5,6,7,8,9,10,11] (T c1 a0))
def JX(rs:List Rn)(ds:List Rn)(t:Rn):Al:=(Ac 4 (A9n 2 0 []::(A9j (Y pc rs)::(A9j (Y pc ds)::(A9s [F t.1,H t.2.length (W t.2)]::(Ac 72 []))))))
theorem Aun(rs:List Rn)(ds:List Rn)(t:Rn)(os ts xs:List Rn)(k:Nat)(i:Int)(c1:A9i ((rs.length:Int)>=(ds.length:Int))=true)(c2:A9i ((BS (Q t))<0)=true)(n1:0<=(I O ((rs.length:Int)-1))/\(I O ((rs.length:Int)-1))<(rs.length:Int))(n2:RQ 79 [Ay t] (D O (BS (Q t))))(n3:RQ 161 [Ay (rs.getD (A (I O ((rs.length:Int)-1))) z0)] (Ag (-(Q (rs.getD (A (I O ((rs.length:Int)-1))) z0)))))(hl4:Ar (.loop Lw) (Gx rs ds t (V (-(Q (rs.getD (A (I O ((rs.length:Int)-1))) z0)))) (I O ((rs.length:Int)-(ds.length:Int))) 0 ([]:List AV) 0) (.exit 2) (Gx rs ds t (V (-(Q (rs.getD (A (I O ((rs.length:Int)-1))) z0)))) (I O ((rs.length:Int)-(ds.length:Int))) k (pc os) i))(n5:RQ 46 [H k (pc os)] (L 2 ts.length (pc ts)))(n6:RQ 86 [Y pc ts] (L 2 xs.length (pc xs))):Ar Qr (JX rs ds t) .norm (JX xs ds t):=(C1.seq (G (t:=(Ac 4 (A9n 2 0 []::(vp rs::(vp ds::(bR t::(Ac 72 []))))))) A9o 400 [.b true] [4,5,6,7] (T c1 a0)) (B_ (A9m (A9m (A9m (A9t (C1.seq (G A9o 400 [.v (Ay (rs.getD (A (I O ((rs.length:Int)-1))) z0)),.r (D O (BS (Q t))),.b true,.r (Ag (-(Q (rs.getD (A (I O ((rs.length:Int)-1))) z0))))] [4,5,6,7,8,9,10,11] (T n1 (T (BN n1) (T n2 (T c2 (T n3 a0)))))) (C1.seq (C1.block hl4) (G A9o 400 [.r (L 2 ts.length (pc ts)),.r (L 2 xs.length (pc xs))] [4,5,6,7] (T n5 (T n6 a0)))))))))))
theorem Auo(rs:List Rn)(ds:List Rn)(t:Rn)(os ts xs:List Rn)(k:Nat)(i:Int)(c1:A9i ((rs.length:Int)>=(ds.length:Int))=true)(c2:A9i ((BS (Q t))<0)=false)(n1:0<=(I O ((rs.length:Int)-1))/\(I O ((rs.length:Int)-1))<(rs.length:Int))(n2:RQ 79 [Ay t] (D O (BS (Q t))))(hl3:Ar (.loop Lw) (Gx rs ds t (rs.getD (A (I O ((rs.length:Int)-1))) z0) (I O ((rs.length:Int)-(ds.length:Int))) 0 ([]:List AV) 0) (.exit 2) (Gx rs ds t (rs.getD (A (I O ((rs.length:Int)-1))) z0) (I O ((rs.length:Int)-(ds.length:Int))) k (pc os) i))(n4:RQ 46 [H k (pc os)] (L 2 ts.length (pc ts)))(n5:RQ 86 [Y pc ts] (L 2 xs.length (pc xs))):Ar Qr (JX rs ds t) .norm (JX xs ds t):=(C1.seq (G (t:=(Ac 4 (A9n 2 0 []::(vp rs::(vp ds::(bR t::(Ac 72 []))))))) A9o 400 [.b true] [4,5,6,7] (T c1 a0)) (B_ (A9m (A9m (A9m (A9t (C1.seq (G A9o 400 [.v (Ay (rs.getD (A (I O ((rs.length:Int)-1))) z0)),.r (D O (BS (Q t))),.b false] [4,5,6,7,8,9,10,11] (T n1 (T (BN n1) (T n2 (T c2 a0))))) (C1.seq (C1.block hl3) (G A9o 400 [.r (L 2 ts.length (pc ts)),.r (L 2 xs.length (pc xs))] [4,5,6,7] (T n4 (T n5 a0)))))))))))
theorem fY(rs:List Rn)(ds:List Rn)(t:Rn)(c1:A9i ((rs.length:Int)>=(ds.length:Int))=false):Ar Qr (JX rs ds t) (.exit 0) (JX rs ds t):=(A8 (G A9o 400 [.b false] [4,5,6,7] (T c1 a0)) (by nofun))
theorem Aup(rs ss ps ds us:List Rn)(t:Rn)(n1:RQ 86 [Y pc rs] (L 2 ps.length (pc ps)))(n2:RQ 46 [Y pc ss] (L 2 ds.length (pc ds)))(n3:0<=(I O ((ds.length:Int)-1))/\(I O ((ds.length:Int)-1))<(ds.length:Int))(hl4:Ar (.loop Qr) (JX ps ds (ds.getD (A (I O ((ds.length:Int)-1))) z0)) (.exit 0) (JX us ds t)):RQ 119 [Y pc rs,Y pc ss] (Y pc us):=A9g Vv (Ac 4 (A9j (Y pc us)::(Ac 75 []))) (A9m (A9m (C1.seq (G A9o 400 [.r (L 2 ps.length (pc ps)),.r (L 2 ds.length (pc ds)),.v (Ay (ds.getD (A (I O ((ds.length:Int)-1))) z0))] [4,5,6,7] (T n1 (T n2 (T n3 (T (BN n3) a0))))) (C1.seq (C1.block hl4) (G A9o 400 [] [4] a0)))))
def JY(as1:List Rn)(bs:List Rn):Al:=(Ac 4 (A9n 2 0 []::(A9j (Y pc as1)::(A9j (Y pc bs)::(Ac 15 [])))))
theorem fZ(as1:List Rn)(bs:List Rn)(us:List Rn)(c1:A9i ((bs.length:Int)>0)=true)(n1:RQ 119 [Y pc as1,Y pc bs] (Y pc us)):Ar Qo (JY as1 bs) .norm (JY bs us):=(G A9o 400 [.b true,.r (Y pc us)] [4,5,6] (T c1 (T n1 a0)))
theorem gA(as1:List Rn)(bs:List Rn)(c1:A9i ((bs.length:Int)>0)=false):Ar Qo (JY as1 bs) (.exit 0) (JY as1 bs):=(G A9o 400 [.b false] [4,5,6] (T c1 a0))
theorem Acd(rs ss ps qs as1 bs ts:List Rn)(n1:RQ 86 [Y pc rs] (L 2 ps.length (pc ps)))(n2:RQ 86 [Y pc ss] (L 2 qs.length (pc qs)))(hl3:Ar (.loop Qo) (JY ps qs) (.exit 0) (JY as1 bs))(n4:RQ 120 [Y pc as1] (L 2 ts.length (pc ts))):RQ 70 [Y pc rs,Y pc ss] (L 2 ts.length (pc ts)):=A9g Yr (Ac 4 (A9n 2 ts.length (pc ts)::(Ac 17 []))) (A9m (C1.seq (G A9o 400 [.r (L 2 ps.length (pc ps)),.r (L 2 qs.length (pc qs))] [4,5,6] (T n1 (T n2 a0))) (C1.seq (C1.block hl3) (G A9o 400 [.r (L 2 ts.length (pc ts))] [4] (T n4 a0)))))
theorem Ace(rs ss ps qs as1 bs:List Rn)(n1:RQ 86 [Y pc rs] (L 2 ps.length (pc ps)))(n2:RQ 86 [Y pc ss] (L 2 qs.length (pc qs)))(hl3:Ar (.loop Qo) (JY ps qs) (.exit 0) (JY as1 bs))(n4:RQ 120 [Y pc as1] (Y pc as1)):RQ 70 [Y pc rs,Y pc ss] (Y pc as1):=A9g Yr (Ac 4 (A9j (Y pc as1)::(Ac 17 []))) (A9m (C1.seq (G A9o 400 [.r (L 2 ps.length (pc ps)),.r (L 2 qs.length (pc qs))] [4,5,6] (T n1 (T n2 a0))) (C1.seq (C1.block hl3) (G A9o 400 [.r (Y pc as1)] [4] (T n4 a0)))))
def Js(rs:List Rn)(ds:List Rn)(t:Rn)(k:Nat)(os:List Rn)(u:Rn)(q:Int)(i:Int):Al:=(Ac 4 (A9n 2 0 []::(A9j (Y pc rs)::(A9j (Y pc ds)::(A9s [F t.1,H t.2.length (W t.2)]::(A9n 2 k (pc os)::(A9s [F u.1,H u.2.length (W u.2)]::(A9j (D O q)::(A9j (D O i)::(Ac 91 []))))))))))
theorem Acf(rs:List Rn)(ds:List Rn)(t:Rn)(k:Nat)(os:List Rn)(u:Rn)(q:Int)(i:Int)(c1:A9i (i<(k:Int))=true)(n1:0<=i/\i<(k:Int))(n2:os.length=k)(n3:RQ 96 [Ay (os.getD (A i) z0),Ay t] (Ag ((Q (os.getD (A i) z0))*(Q t)))):Ar Pa (Js rs ds t k os u q i) .norm (Js rs ds t k (os.set (A i) (V ((Q (os.getD (A i) z0))*(Q t)))) u q (I O (i+1))):=(G A9o 400 [.b true,.v (Ay (os.getD (A i) z0)),.r (Ag ((Q (os.getD (A i) z0))*(Q t))),.l (pc (os.set (A i) (V ((Q (os.getD (A i) z0))*(Q t)))))] [4,5,6,7,8,9,10,11] (T c1 (T n1 (T (F_ n2 n1) (T n3 (T n1 (T (FA (r:=V ((Q (os.getD (A i) z0))*(Q t))) n2 n1) a0)))))))
theorem Acg(rs:List Rn)(ds:List Rn)(t:Rn)(k:Nat)(os:List Rn)(u:Rn)(q:Int)(i:Int)(c1:A9i (i<(k:Int))=false):Ar Pa (Js rs ds t k os u q i) (.exit 2) (Js rs ds t k os u q i):=(G A9o 400 [.b false] [4,5,6,7,8,9,10,11] (T c1 a0))
def Hy(rs:List Rn)(ds:List Rn)(t:Rn)(k:Nat)(os:List Rn)(u:Rn)(q:Int)(m:Nat)(cs:List AV)(i:Int):Al:=(Ac 4 (A9n 2 0 []::(A9j (Y pc rs)::(A9j (Y pc ds)::(A9s [F t.1,H t.2.length (W t.2)]::(A9n 2 k (pc os)::(A9s [F u.1,H u.2.length (W u.2)]::(A9j (D O q)::(Ac 1 (A9n 2 m cs::(A9j (D O i)::(Ac 89 []))))))))))))
theorem Ach(rs:List Rn)(ds:List Rn)(t:Rn)(k:Nat)(os:List Rn)(u:Rn)(q:Int)(m:Nat)(cs:List AV)(i:Int)(c1:(A9i (i<(I O ((rs.length:Int)-1))))=true)(c2:A9i (i>=q)=true)(n1:0<=i/\i<(rs.length:Int))(n2:0<=(I O (i-q))/\(I O (i-q))<(ds.length:Int))(n3:m+1<=1048576)(n4:RQ 96 [Ay t,Ay (rs.getD (A i) z0)] (Ag ((Q t)*(Q (rs.getD (A i) z0)))))(n5:RQ 96 [Ay u,Ay (ds.getD (A (I O (i-q))) z0)] (Ag ((Q u)*(Q (ds.getD (A (I O (i-q))) z0)))))(n6:RQ 129 [Ag ((Q t)*(Q (rs.getD (A i) z0))),Ag ((Q u)*(Q (ds.getD (A (I O (i-q))) z0)))] (Ag (((Q t)*(Q (rs.getD (A i) z0)))-((Q u)*(Q (ds.getD (A (I O (i-q))) z0)))))):Ar MP (Hy rs ds t k os u q m cs i) .norm (Hy rs ds t k os u q (m+1) (cs++([F (A9i ((((Q t)*(Q (rs.getD (A i) z0)))-((Q u)*(Q (ds.getD (A (I O (i-q))) z0))))<0)),H ((M (E (((Q t)*(Q (rs.getD (A i) z0)))-((Q u)*(Q (ds.getD (A (I O (i-q))) z0)))))).length) (W (M (E (((Q t)*(Q (rs.getD (A i) z0)))-((Q u)*(Q (ds.getD (A (I O (i-q))) z0)))))))]:List AV)) (I O (i+1))):=(G A9o 400 [.b true,.v (Ay (rs.getD (A i) z0)),.r (Ag ((Q t)*(Q (rs.getD (A i) z0)))),.b true,.v (Ay (ds.getD (A (I O (i-q))) z0)),.r (Ag ((Q u)*(Q (ds.getD (A (I O (i-q))) z0)))),.r (Ag (((Q t)*(Q (rs.getD (A i) z0)))-((Q u)*(Q (ds.getD (A (I O (i-q))) z0)))))] [4,5,6,7,8,9,10,12,13] (T c1 (T n1 (T (BN n1) (T n4 (T c2 (T n2 (T (BN n2) (T n5 (T n6 (T (show Bs ([F (A9i ((((Q t)*(Q (rs.getD (A i) z0)))-((Q u)*(Q (ds.getD (A (I O (i-q))) z0))))<0)),H ((M (E (((Q t)*(Q (rs.getD (A i) z0)))-((Q u)*(Q (ds.getD (A (I O (i-q))) z0)))))).length) (W (M (E (((Q t)*(Q (rs.getD (A i) z0)))-((Q u)*(Q (ds.getD (A (I O (i-q))) z0)))))))]:List AV)=1*2 from rfl) (T n3 a0))))))))))))
theorem Aci(rs:List Rn)(ds:List Rn)(t:Rn)(k:Nat)(os:List Rn)(u:Rn)(q:Int)(m:Nat)(cs:List AV)(i:Int)(c1:(A9i (i<(I O ((rs.length:Int)-1))))=true)(c2:A9i (i>=q)=false)(n1:0<=i/\i<(rs.length:Int))(n2:m+1<=1048576)(n3:RQ 96 [Ay t,Ay (rs.getD (A i) z0)] (Ag ((Q t)*(Q (rs.getD (A i) z0))))):Ar MP (Hy rs ds t k os u q m cs i) .norm (Hy rs ds t k os u q (m+1) (cs++([F (A9i (((Q t)*(Q (rs.getD (A i) z0)))<0)),H ((M (E ((Q t)*(Q (rs.getD (A i) z0))))).length) (W (M (E ((Q t)*(Q (rs.getD (A i) z0))))))]:List AV)) (I O (i+1))):=(G A9o 400 [.b true,.v (Ay (rs.getD (A i) z0)),.r (Ag ((Q t)*(Q (rs.getD (A i) z0)))),.b false] [4,5,6,7,8,9,10,12,13] (T c1 (T n1 (T (BN n1) (T n3 (T c2 (T (show Bs ([F (A9i (((Q t)*(Q (rs.getD (A i) z0)))<0)),H ((M (E ((Q t)*(Q (rs.getD (A i) z0))))).length) (W (M (E ((Q t)*(Q (rs.getD (A i) z0))))))]:List AV)=1*2 from rfl) (T n2 a0))))))))
theorem Acj(rs:List Rn)(ds:List Rn)(t:Rn)(k:Nat)(os:List Rn)(u:Rn)(q:Int)(m:Nat)(cs:List AV)(i:Int)(c1:(A9i (i<(I O ((rs.length:Int)-1))))=false):Ar MP (Hy rs ds t k os u q m cs i) (.exit 4) (Hy rs ds t k os u q m cs i):=(G A9o 400 [.b false] [4,5,6,7,8,9,10,12,13] (T c1 a0))
def QJ(rs:List Rn)(ds:List Rn)(t:Rn)(k:Nat)(os:List Rn):Al:=(Ac 4 (A9n 2 0 []::(A9j (Y pc rs)::(A9j (Y pc ds)::(A9s [F t.1,H t.2.length (W t.2)]::(A9n 2 k (pc os)::(Ac 94 [])))))))
theorem Auq(rs:List Rn)(ds:List Rn)(t:Rn)(k:Nat)(os:List Rn)(os1 ns ts:List Rn)(m:Nat)(i1 i2:Int)(c1:A9i ((rs.length:Int)>=(ds.length:Int))=true)(n1:0<=(I O ((rs.length:Int)-1))/\(I O ((rs.length:Int)-1))<(rs.length:Int))(hl2:Ar (.loop Pa) (Js rs ds t k os (rs.getD (A (I O ((rs.length:Int)-1))) z0) (I O ((rs.length:Int)-(ds.length:Int))) 0) (.exit 2) (Js rs ds t k os1 (rs.getD (A (I O ((rs.length:Int)-1))) z0) (I O ((rs.length:Int)-(ds.length:Int))) i1))(n3:0<=(I O ((rs.length:Int)-(ds.length:Int)))/\(I O ((rs.length:Int)-(ds.length:Int)))<(k:Int))(n4:os1.length=k)(hl5:Ar (.loop MP) (Hy rs ds t k (os1.set (A (I O ((rs.length:Int)-(ds.length:Int)))) (rs.getD (A (I O ((rs.length:Int)-1))) z0)) (rs.getD (A (I O ((rs.length:Int)-1))) z0) (I O ((rs.length:Int)-(ds.length:Int))) 0 ([]:List AV) 0) (.exit 4) (Hy rs ds t k (os1.set (A (I O ((rs.length:Int)-(ds.length:Int)))) (rs.getD (A (I O ((rs.length:Int)-1))) z0)) (rs.getD (A (I O ((rs.length:Int)-1))) z0) (I O ((rs.length:Int)-(ds.length:Int))) m (pc ns) i2))(n6:RQ 46 [H m (pc ns)] (L 2 ts.length (pc ts))):Ar Vz (QJ rs ds t k os) .norm (QJ ts ds t k (os1.set (A (I O ((rs.length:Int)-(ds.length:Int)))) (rs.getD (A (I O ((rs.length:Int)-1))) z0))):=(C1.seq (G (t:=(Ac 4 (A9n 2 0 []::(vp rs::(vp ds::(bR t::(A9n 2 k (pc os)::(Ac 94 [])))))))) A9o 400 [.b true] [4,5,6,7,8] (T c1 a0)) (B_ (A9m (A9t (C1.seq (G A9o 400 [.v (Ay (rs.getD (A (I O ((rs.length:Int)-1))) z0))] [4,5,6,7,8,9,10,11] (T n1 (T (BN n1) a0))) (C1.seq (C1.block hl2) (A9m (A9t (C1.seq (G A9o 400 [.l (pc (os1.set (A (I O ((rs.length:Int)-(ds.length:Int)))) (rs.getD (A (I O ((rs.length:Int)-1))) z0)))] [4,5,6,7,8,9,10,12,13] (T n3 (T (FA (r:=rs.getD (A (I O ((rs.length:Int)-1))) z0) n4 n3) a0))) (C1.seq (C1.block hl5) (G A9o 400 [.r (L 2 ts.length (pc ts))] [4,5,6,7,8] (T n6 a0))))))))))))
theorem gB(rs:List Rn)(ds:List Rn)(t:Rn)(k:Nat)(os:List Rn)(c1:A9i ((rs.length:Int)>=(ds.length:Int))=false):Ar Vz (QJ rs ds t k os) (.exit 0) (QJ rs ds t k os):=(A8 (G A9o 400 [.b false] [4,5,6,7,8] (T c1 a0)) (by nofun))
theorem Aur(rs ss ps ds xs os us ts:List Rn)(t:Rn)(k:Nat)(n1:RQ 46 [Y pc rs] (L 2 ps.length (pc ps)))(n2:RQ 46 [Y pc ss] (L 2 ds.length (pc ds)))(n3:0<=(I O ((ds.length:Int)-1))/\(I O ((ds.length:Int)-1))<(ds.length:Int))(n4:0<=(I O ((I O ((ps.length:Int)-(ds.length:Int)))+1))/\(I O ((I O ((ps.length:Int)-(ds.length:Int)))+1))<=1048576)(hl5:Ar (.loop Vz) ((Ac 4 (A9n 2 0 []::(A9j (Y pc ps)::(A9j (Y pc ds)::(A9s [F ((ds.getD (A (I O ((ds.length:Int)-1))) z0).1),H ((ds.getD (A (I O ((ds.length:Int)-1))) z0).2.length) (W (ds.getD (A (I O ((ds.length:Int)-1))) z0).2)]::(A9n 2 (A (I O ((I O ((ps.length:Int)-(ds.length:Int)))+1))) (Cz [F false,H 0 []] (A (I O ((I O ((ps.length:Int)-(ds.length:Int)))+1))))::(Ac 94 [])))))))) (.exit 0) (QJ xs ds t k os))(n6:RQ 46 [H k (pc os)] (L 2 ts.length (pc ts)))(n7:RQ 86 [Y pc ts] (L 2 us.length (pc us)))(n8:RQ 120 [Y pc us] (Y pc us)):RQ 123 [Y pc rs,Y pc ss] (Y pc us):=A9g V0 (Ac 4 (A9j (Y pc us)::(Ac 98 []))) (A9m (A9m (A9m (C1.seq (G A9o 400 [.r (L 2 ps.length (pc ps)),.r (L 2 ds.length (pc ds)),.v (Ay (ds.getD (A (I O ((ds.length:Int)-1))) z0))] [4,5,6,7,8] (T n1 (T n2 (T n3 (T (BN n3) (T n4 a0)))))) (C1.seq (C1.block hl5) (G A9o 400 [.r (L 2 ts.length (pc ts)),.r (L 2 us.length (pc us)),.r (Y pc us)] [4] (T n6 (T n7 (T n8 a0)))))))))
theorem ZX(rs ps xs:List Rn)(c1:A9i ((xs.length:Int)<=1)=true)(n1:RQ 86 [Y pc rs] (L 2 ps.length (pc ps)))(n2:RQ 120 [Y pc ps] (L 2 xs.length (pc xs))):RQ 73 [Y pc rs] (Y pc xs):=A9x (fn:=PM) A9o rfl 400 rfl [.r (L 2 ps.length (pc ps)),.r (L 2 xs.length (pc xs)),.b true] (T n1 (T n2 (T c1 a0)))
theorem ZY(rs ps xs ds gs us:List Rn)(c1:A9i ((xs.length:Int)<=1)=false)(n1:RQ 86 [Y pc rs] (L 2 ps.length (pc ps)))(n2:RQ 120 [Y pc ps] (L 2 xs.length (pc xs)))(n3:RQ 122 [Y pc xs] (L 2 ds.length (pc ds)))(n4:RQ 70 [Y pc xs,Y pc ds] (L 2 gs.length (pc gs)))(n5:RQ 123 [Y pc xs,Y pc gs] (Y pc us)):RQ 73 [Y pc rs] (Y pc us):=A9x (fn:=PM) A9o rfl 400 rfl [.r (L 2 ps.length (pc ps)),.r (L 2 xs.length (pc xs)),.b false,.r (L 2 ds.length (pc ds)),.r (L 2 gs.length (pc gs)),.r (Y pc us)] (T n1 (T n2 (T c1 (T n3 (T n4 (T n5 a0))))))
theorem ZZ(rs ps xs ds gs us:List Rn)(c1:A9i ((xs.length:Int)<=1)=false)(n1:RQ 86 [Y pc rs] (L 2 ps.length (pc ps)))(n2:RQ 120 [Y pc ps] (L 2 xs.length (pc xs)))(n3:RQ 122 [Y pc xs] (L 2 ds.length (pc ds)))(n4:RQ 70 [Y pc xs,Y pc ds] (Y pc gs))(n5:RQ 123 [Y pc xs,Y pc gs] (Y pc us)):RQ 73 [Y pc rs] (Y pc us):=A9x (fn:=PM) A9o rfl 400 rfl [.r (L 2 ps.length (pc ps)),.r (L 2 xs.length (pc xs)),.b false,.r (L 2 ds.length (pc ds)),.r (Y pc gs),.r (Y pc us)] (T n1 (T n2 (T c1 (T n3 (T n4 (T n5 a0))))))
theorem Z'(rs ps ds gs us:List Rn)(c1:A9i ((ps.length:Int)<=1)=false)(n1:RQ 86 [Y pc rs] (L 2 ps.length (pc ps)))(n2:RQ 120 [Y pc ps] (Y pc ps))(n3:RQ 122 [Y pc ps] (L 2 ds.length (pc ds)))(n4:RQ 70 [Y pc ps,Y pc ds] (L 2 gs.length (pc gs)))(n5:RQ 123 [Y pc ps,Y pc gs] (Y pc us)):RQ 73 [Y pc rs] (Y pc us):=A9x (fn:=PM) A9o rfl 400 rfl [.r (L 2 ps.length (pc ps)),.r (Y pc ps),.b false,.r (L 2 ds.length (pc ds)),.r (L 2 gs.length (pc gs)),.r (Y pc us)] (T n1 (T n2 (T c1 (T n3 (T n4 (T n5 a0))))))
theorem Z_(rs ps:List Rn)(c1:A9i ((ps.length:Int)<=1)=true)(n1:RQ 86 [Y pc rs] (L 2 ps.length (pc ps)))(n2:RQ 120 [Y pc ps] (Y pc ps)):RQ 73 [Y pc rs] (Y pc ps):=A9x (fn:=PM) A9o rfl 400 rfl [.r (L 2 ps.length (pc ps)),.r (Y pc ps),.b true] (T n1 (T n2 (T c1 a0)))
theorem aA(rs ps ds gs us:List Rn)(c1:A9i ((ps.length:Int)<=1)=false)(n1:RQ 86 [Y pc rs] (L 2 ps.length (pc ps)))(n2:RQ 120 [Y pc ps] (Y pc ps))(n3:RQ 122 [Y pc ps] (L 2 ds.length (pc ds)))(n4:RQ 70 [Y pc ps,Y pc ds] (Y pc gs))(n5:RQ 123 [Y pc ps,Y pc gs] (Y pc us)):RQ 73 [Y pc rs] (Y pc us):=A9x (fn:=PM) A9o rfl 400 rfl [.r (L 2 ps.length (pc ps)),.r (Y pc ps),.b false,.r (L 2 ds.length (pc ds)),.r (Y pc gs),.r (Y pc us)] (T n1 (T n2 (T c1 (T n3 (T n4 (T n5 a0))))))
theorem pU(a b q r:Int)(hq:q=(a.natAbs:Int) / (b.natAbs:Int))(hr:r=(a.natAbs:Int) % (b.natAbs:Int)) :
  (if (!(decide (a<0)==decide (b<0)))=true then -q else q)=Av a b/\(if decide (a<0)=true then -r else r)=AC a b:=by
 subst hq hr;have hA:(0:Int)<=(a.natAbs:Int):=by omega
 by_cases ha:a<0 <;> by_cases hb:b<0
 ·have ea:a = -(a.natAbs:Int):=by omega
  have eb:b = -(b.natAbs:Int):=by omega
  have h1:Av a b=(a.natAbs:Int) / (b.natAbs:Int):=by
   rw[<- BH hA];conv=>lhs;rw[ea,eb,Ahj,Ahk,Int.neg_neg]
  have h2:AC a b = -((a.natAbs:Int) % (b.natAbs:Int)):=by
   rw[<- Bu hA];conv=>lhs;rw[ea,eb,Ahl,Ahm]
  rw[h1,h2,decide_eq_true ha,decide_eq_true hb];simp
 ·have ea:a = -(a.natAbs:Int):=by omega
  have eb:b=(b.natAbs:Int):=by omega
  have h1:Av a b = -((a.natAbs:Int) / (b.natAbs:Int)):=by
   rw[<- BH hA];conv=>lhs;rw[ea,eb,Ahj]
  have h2:AC a b = -((a.natAbs:Int) % (b.natAbs:Int)):=by
   rw[<- Bu hA];conv=>lhs;rw[ea,eb,Ahl]
  rw[h1,h2,decide_eq_true ha,decide_eq_false hb];simp
 ·have ea:a=(a.natAbs:Int):=by omega
  have eb:b = -(b.natAbs:Int):=by omega
  have h1:Av a b = -((a.natAbs:Int) / (b.natAbs:Int)):=by
   rw[<- BH hA];conv=>lhs;rw[ea,eb,Ahk]
  have h2:AC a b=(a.natAbs:Int) % (b.natAbs:Int):=by
   rw[<- Bu hA];conv=>lhs;rw[ea,eb,Ahm]
  rw[h1,h2,decide_eq_false ha,decide_eq_true hb];simp
 ·have ea:a=(a.natAbs:Int):=by omega
  have eb:b=(b.natAbs:Int):=by omega
  have h1:Av a b=(a.natAbs:Int) / (b.natAbs:Int):=by
   rw[<- BH hA];conv=>lhs;rw[ea,eb]
  have h2:AC a b=(a.natAbs:Int) % (b.natAbs:Int):=by
   rw[<- Bu hA];conv=>lhs;rw[ea,eb]
  rw[h1,h2,decide_eq_false ha,decide_eq_false hb];simp
theorem Po{na nb:Bool}{xs ys:LI}(hx:AP xs)(hy:AP ys)(h0:v nb ys ≠ 0)(h1:xs.length<1048576)(h2:ys.length<1048576) :
  RQ 158 [o [F na,Y W xs],o [F nb,Y W ys]] (Ax [Ag (Av (v na xs) (v nb ys)),Ag (AC (v na xs) (v nb ys))]):=by
 have l1:=EG (neg:=na) hx;have l2:=EG (neg:=nb) hy;have r1:=Du (neg:=na) hx (by omega);have r2:=Du (neg:=nb) hy (by omega);generalize v na xs=a at *
 generalize v nb ys=b at *
 have hb0:M b.natAbs ≠ []:=by rw[Ne,IU];omega
 obtain⟨qs,rs,q1,q2,q3,q4,q5,q6,q7⟩:=XG (Cl a.natAbs) (Cl b.natAbs) hb0 (by omega) (by omega);rw[Cx,Cx] at q5 q6;obtain⟨e1,e2⟩:=pU a b _ _ q5 q6;have m1:=EI (neg := !(decide (a<0)==decide (b<0))) q1 q3;have m2:=EI (neg:=decide (a<0)) q2 q4;have f1:v (!(decide (a<0)==decide (b<0))) qs=Av a b:=e1;have f2:v (A9i (a<0)) rs=AC a b:=e2;rw[f1] at m1;rw[f2] at m2;exact Asz na nb _ _ xs ys _ _ qs rs _ _ r1 r2 q7 m1 m2
theorem TN{n:Nat}{b:Bool}(h:(M n).length<=2):RQ 183 [o [F b,H (M n).length (W (M n))]] (D B (n:Nat)):=by
 have hu:=BR n;have hv:=Cx n;generalize hxs:M n=xs at *
 have hl:=C1.up (prog:=AZ) (c:=VW) (ex := .exit 0) (fin:=O2 xs (n:Nat) (xs.length:Nat) (xs.length:Nat))
  (fun i=>O2 xs (Ab (xs.take i)) (xs.length:Nat) (i:Nat)) xs.length (by nofun) ?_ ?_ 0 (By _)
 ·exact Atc b xs (n:Nat) (xs.length:Nat) (xs.length:Nat) (by simpa [Ab] using hl)
 ·intro i hi;have ei:I O ((i:Int)+1)=((i+1:Nat):Int):=by rw[Bl (by omega) (by omega)];omega
  have e32:I B (I O (32*(i:Int)))=((32*i:Nat):Int):=by rw[Bl (by omega) (by omega),CC (by omega)];omega
  have em:min (A ((32*i:Nat):Int)) (An .u64)=32*i:=by rw[R];show min (32*i) 64=32*i;omega
  have hxi:=AG hu i;have k:=Ata xs (Ab (xs.take i)) (xs.length:Nat) (i:Nat) (by simp;omega) (by omega) (by rw[e32];omega);rw[ei,e32,em,R,CC (n:=xs.getD i 0) (by omega)] at k;have hp:xs.getD i 0*2^(32*i)<18446744073709551616:=by
   have:=G6 (show 32*i<=32 by omega);rw[show (2:Int)^32=4294967296 by decide] at this;have:=Eb (show xs.getD i 0<=4294967295 by omega) this (by have:=BP (32*i);omega) (by omega);omega
  have h0:=A6 hxi.1 (show (0:Int)<=2^(32*i) by have:=BP (32*i);omega);have hlt:=Gb hu i;rw[Nd] at hlt;rw[CC ⟨h0,hp⟩,Ut,Ark hxi.1 hp (by omega) ⟨AW (DS hu i),hlt⟩] at k;refine k.to rfl ?_;rw[DX xs i hi,Nd];congr 1;rw[AA];omega
 ·rw[EE,hv];exact Atb xs (n:Nat) (xs.length:Nat) (xs.length:Nat) (by simp)
theorem aB:∀ (f a b:Nat),b<=f->Ar (.loop VU) (O3 (a:Nat) (b:Nat)) (.exit 0) (O3 (I8 a b:Nat) 0):=by
 intro f;induction f with
 | zero =>
  intro a b hb;have:b=0:=by omega
  subst this;rw[GP];exact Ao (fK _ _ (by simp)) (by nofun)
 | succ f ih =>
  intro a b hb;by_cases h0:b=0
  ·subst h0;rw[GP];exact Ao (fK _ _ (by simp)) (by nofun)
  ·have k:=Ate (a:Nat) (b:Nat) (by simp;omega) (by omega);rw[Bu (by omega),<- Aus] at k;have hm:=HR a (show 0<b by omega);have:=ih b (a % b) (by omega);rw[JL b,<- Ayl,JL b a] at this;exact C1.loop k this
theorem uN{n:Nat}(h:(M n).length<=2):(n:Int)<18446744073709551616:=by
 have h1:=DJ (BR n);rw[Cx] at h1;have h2:=Gj h;rw[show (4294967296:Int)^2=18446744073709551616 by decide] at h2;omega
theorem gC{n:Nat}(h:(n:Int)<18446744073709551616):RQ 181 [D B (n:Nat)] (Ag (n:Nat)):=by
 obtain⟨h1,h2⟩:=Mo (u:=(n:Nat)) (by omega);have m:=EI (neg:=false) h1 (by simp);have e:v false [I Ad (n:Int),I Ad (A9q (n:Int) (2^(min (A 32) (An .u64))))]=(n:Nat):=h2;rw[e] at m;exact Atd (n:Nat) _ m
theorem A2z(n:Nat):V (n:Nat)=(false,M n):=by
 unfold V;rw[BO,decide_eq_false (by omega)]
theorem JZ(n:Nat):(V (n:Nat)).2.length=(M n).length:=by rw [A2z]
theorem Ack{K:Nat}(hK:K<1048576):∀ (f a b:Nat),b<=f->Br K (a:Nat)->Br K (b:Nat) ->
  (∃ y z,Ar (.loop LU) (GG (V (a:Nat)) (V (b:Nat)) (false,[])) (.exit 0) (GG (V (I8 a b:Nat)) y z)) \/
  (∃ x y,Ar (.loop LU) (GG (V (a:Nat)) (V (b:Nat)) (false,[])) .ret (GG x y (V (I8 a b:Nat)))):=by
 intro f;induction f with
 | zero =>
  intro a b hb _ _;have:b=0:=by omega
  subst this;rw[GP];exact vL ⟨_,_,Ao (fL _ _ _ (by rw[JZ];rfl)) (by nofun)⟩
 | succ f ih =>
  intro a b hb ka kb;by_cases h0:b=0
  ·subst h0;rw[GP];exact vL ⟨_,_,Ao (fL _ _ _ (by rw[JZ];rfl)) (by nofun)⟩
  ·have hbl:0<(M b).length:=Am.2 (by rw[Ne,IU];exact h0);have la:=ka.len;have lb:=kb.len;rw[BO] at la lb;by_cases h2:(M a).length<=2/\(M b).length<=2
   ·right;have ta:=uN h2.1;have tb:=uN h2.2;have hg:((I8 a b:Nat):Int)<18446744073709551616:=by
     have:=R7 (by omega) (Nat.gcd_dvd_right a b);omega
    have u1:=TN (b:=(V (a:Nat)).1) h2.1;have u2:=TN (b:=(V (b:Nat)).1) h2.2;have u3:=Atf (a:Nat) (b:Nat) _ _ (aB b a b (Ap _));have u4:=gC hg;have k:=Atg (V (a:Nat)) (V (b:Nat)) (false,[]) (a:Nat) (b:Nat) (I8 a b:Nat) (I8 a b:Nat) (by rw[JZ];simp;omega) (by rw[JZ];simp;omega) (by rw[JZ];simp;omega) u1 u2 u3 u4;exact⟨_,_,Ao k (by nofun)⟩
   ·have hq:=Po (na:=(V (a:Nat)).1) (nb:=(V (b:Nat)).1) (xs:=(V (a:Nat)).2) (ys:=(V (b:Nat)).2) (BR _) (BR _) (by have:=A9y (b:Nat);unfold Q at this;rw[this];omega) (by rw[JZ];omega) (by rw[JZ];omega);rw[show v (V (a:Nat)).1 (V (a:Nat)).2=(a:Nat) from A9y _,show v (V (b:Nat)).1 (V (b:Nat)).2=(b:Nat) from A9y _,Bu (by omega),<- Aus] at hq;have hm:=HR a (show 0<b by omega);have step:Ar LU (GG (V (a:Nat)) (V (b:Nat)) (false,[])) .norm (GG (V (b:Nat)) (V ((a % b:Nat):Int)) (false,[])):=by
     by_cases h3:(M a).length<=2
     ·exact Ath (V (a:Nat)) (V (b:Nat)) (false,[]) _ _ (by rw[JZ];simp;omega) (by rw[JZ];simp;omega) (by rw[JZ];simp;omega) hq
     ·exact Ati (V (a:Nat)) (V (b:Nat)) (false,[]) _ _ (by rw[JZ];simp;omega) (by rw[JZ];simp;omega) hq
    have kr:Br K ((a % b:Nat):Int):=by
     unfold Br at *
     rw[BO] at *
     exact Dz (nB hm) kb
    have e:I8 b (a % b)=I8 a b:=by rw[JL b,<- Ayl,JL b a]
    rcases ih b (a % b) (by omega) kb kr with ⟨y,z,h⟩ | ⟨x,y,h⟩
    ·rw[e] at h;exact vL ⟨y,z,C1.loop step h⟩
    ·rw[e] at h;exact PR ⟨x,y,C1.loop step h⟩
theorem YM{na nb:Bool}{xs ys:LI}(hx:AP xs)(hy:AP ys)(h1:xs.length<1048576)(h2:ys.length<1048576) :
  RQ 159 [o [F na,Y W xs],o [F nb,Y W ys]] (Ag (Dh (v na xs) (v nb ys):Nat)):=by
 have a1:=SL (neg:=na) hx (by omega);have a2:=SL (neg:=nb) hy (by omega);have f1:=Wi (neg:=na) hx;have f2:=Wi (neg:=nb) hy;have g1:Br (max xs.length ys.length) (((v na xs).natAbs:Nat):Int):=by
  unfold Br at *;rw[BO];exact EW f1 (B8 (by decide) (by omega))
 have g2:Br (max xs.length ys.length) (((v nb ys).natAbs:Nat):Int):=by
  unfold Br at *;rw[BO];exact EW f2 (B8 (by decide) (by omega))
 rcases Ack (K:=max xs.length ys.length) (by omega) _ _ _ (Ap _) g1 g2 with ⟨y,z,h⟩ | ⟨x,y,h⟩
 ·exact nO na nb xs ys _ _ _ _ _ a1 a2 h
 ·exact nP na nb xs ys _ _ _ _ _ a1 a2 h
def TQE:Cw:=TQD
theorem CV:Ch AZ TQE:=nT
def PT(N:Nat)(cs:List AV)(i:Int):Al:=(A9j (H N cs)::(Ac 1 (A9j (D O 0)::(A9j (D O i)::(Ac 16 [])))))
theorem A3a(N:Nat)(cs:List AV)(i:Int)(r:Rn)(v:Int)(c1:A9i (i>=0)=true)(c2:(v==0)=true)(n1:0<=i/\i<(N:Int))(n2:Bv (A9v (A i*2) cs) 0 2 false=some (o [F r.1,H r.2.length (W r.2)]))(n3:RQ 101 [o [F r.1,H r.2.length (W r.2)]] (D O v)):Ar Yn (PT N cs i) .norm (PT N cs (I O (i-1))):=G BQ 300 [.b true,.v (o [F r.1,H r.2.length (W r.2)]),.r (D O v),.b true] [0,2,3] (T c1 (T n1 (T n2 (T n3 (T c2 a0))))) (by kernel_rfl)
theorem A3b(N:Nat)(cs:List AV)(i:Int)(r:Rn)(v:Int)(c1:A9i (i>=0)=true)(c2:(v==0)=false)(n1:0<=i/\i<(N:Int))(n2:Bv (A9v (A i*2) cs) 0 2 false=some (o [F r.1,H r.2.length (W r.2)]))(n3:RQ 101 [o [F r.1,H r.2.length (W r.2)]] (D O v)):Ar Yn (PT N cs i) (.exit 0) (PT N cs i):=G BQ 300 [.b true,.v (o [F r.1,H r.2.length (W r.2)]),.r (D O v),.b false] [0,2,3] (T c1 (T n1 (T n2 (T n3 (T c2 a0))))) (by kernel_rfl)
theorem A3c(N:Nat)(cs:List AV)(i:Int)(c1:A9i (i>=0)=false):Ar Yn (PT N cs i) (.exit 0) (PT N cs i):=G BQ 300 [.b false,.b false] [0,2,3] (T c1 (T ES a0)) (by kernel_rfl)
theorem YN{n:Int}:BS n=0↔n=0:=by unfold BS;split <;> (try split) <;> omega
theorem Aut(rs:List Rn)(hg:∀ r∈rs,AO 1048576 r)(hN:rs.length<=1048576):∀ m,m<=rs.length->Ar (.loop Yn) (PT rs.length (pc rs) ((m:Int)-1)) (.exit 0) (PT rs.length (pc rs) (((A9r (P rs) m:Nat):Int)-1)):=by
 intro m;induction m with
 | zero =>
  intro _;exact Ao (A3c rs.length (pc rs) (((0:Nat):Int)-1) (by simp)) (by nofun)
 | succ m ih =>
  intro hm;have e0:((m+1:Nat):Int)-1=(m:Int):=by omega
  have e1:I O ((m:Int)-1)=(m:Int)-1:=Bl (by omega) (by omega);have hx:=Ox (rs:=rs) (i:=m) (by omega);have gm:=Bk hg m;have hs:=Ng (neg:=(rs.getD m z0).1) gm.1 gm.2;rw[e0];simp only[A9r];rw[CO];by_cases h0:Q (rs.getD m z0)=0
  ·rw[if_pos h0];have h1:=A3a rs.length (pc rs) (m:Int) (rs.getD m z0) (BS (Q (rs.getD m z0))) (by simp) (by rw[beq_iff_eq];exact YN.2 h0) (by omega) (by rw[R];exact hx) hs;rw[e1] at h1;exact C1.loop h1 (ih (by omega))
  ·rw[if_neg h0,e0];exact Ao (A3b rs.length (pc rs) (m:Int) (rs.getD m z0) (BS (Q (rs.getD m z0))) (by simp) (by rw[beq_eq_false_iff_ne];exact fun h=>h0 (YN.1 h)) (by omega) (by rw[R];exact hx) hs) (by nofun)
theorem Hf{rs:List Rn}(hg:∀ r∈rs,AO 1048576 r)(hN:rs.length<=1048576):RQ 53 [Y pc rs] (D O (((A9r (P rs) rs.length:Nat):Int)-1)):=by
 have e1:I O ((rs.length:Int)-1)=(rs.length:Int)-1:=Bl (by omega) (by omega);have hl:Ar (.loop Yn) (PT rs.length (pc rs) (I O ((rs.length:Int)-1))) (.exit 0) (PT rs.length (pc rs) (((A9r (P rs) rs.length:Nat):Int)-1)):=by
  rw[e1];exact Aut rs hg hN rs.length (Ap _)
 exact A9g cW (A9j (Y pc rs)::(Ac 1 (A9j (D O (((A9r (P rs) rs.length:Nat):Int)-1))::(A9j (D O (((A9r (P rs) rs.length:Nat):Int)-1))::(Ac 15 (A9j (D O (((A9r (P rs) rs.length:Nat):Int)-1))::[])))))) (C1.seq (DV (t:=(A9j (Y pc rs)::(Ac 1 (A9j (D O 0)::(Ac 17 []))))) (ex := .norm) (ps:=[]) BQ 300 [] [0,2] (by kernel_rfl) trivial)
  (C1.seq (DV (t:=(A9j (Y pc rs)::(Ac 1 (A9j (D O 0)::(A9j (D O (I O ((rs.length:Int)-1)))::(Ac 16 [])))))) (ex := .norm) (ps:=[]) BQ 300 [] [0,2,3] (by kernel_rfl) trivial)
  (C1.seq (C1.block hl)
  (DV (t:=(A9j (Y pc rs)::(Ac 1 (A9j (D O (((A9r (P rs) rs.length:Nat):Int)-1))::(A9j (D O (((A9r (P rs) rs.length:Nat):Int)-1))::(Ac 15 (A9j (D O (((A9r (P rs) rs.length:Nat):Int)-1))::[]))))))) (ex := .ret) (ps:=[]) BQ 300 [] [0,2,3,19] (by kernel_rfl) trivial))))
def TO(N:Nat)(cs:List AV)(n:Nat)(os:List AV)(m:Int)(i:Int):Al:=(A9j (H N cs)::(Ac 1 (A9n 2 0 []::(Ac 1 (A9n 2 n os::(Ac 9 (A9j (D O m)::(A9j (D O i)::(Ac 12 [])))))))))
theorem A3d(N:Nat)(cs:List AV)(n:Nat)(os:List AV)(m:Int)(i:Int)(ds:List AV)(r:Rn)(v:Int)(c1:A9i (i<m)=true)(n1:0<=i/\i<(N:Int))(n2:Bv (A9v (A i*2) cs) 0 2 false=some (o [F r.1,H r.2.length (W r.2)]))(n3:RQ 113 [o [F r.1,H r.2.length (W r.2)]] (o [F (A9i (v<0)),H ((M (E v)).length) (W (M (E v)))]))(n4:0<=i/\i<(n:Int))(n5:C6 os (A i*2) [F (A9i (v<0)),H ((M (E v)).length) (W (M (E v)))]=some ds):Ar dC (TO N cs n os m i) .norm (TO N cs n ds m (I O (i+1))):=G BQ 300 [.b true,.v (o [F r.1,H r.2.length (W r.2)]),.r (o [F (A9i (v<0)),H ((M (E v)).length) (W (M (E v)))]),.l ds] [0,2,4,14,15] (T c1 (T n1 (T n2 (T n3 (T n4 (T n5 a0)))))) (by kernel_rfl)
theorem A3e(N:Nat)(cs:List AV)(n:Nat)(os:List AV)(m:Int)(i:Int)(c1:A9i (i<m)=false):Ar dC (TO N cs n os m i) (.exit 0) (TO N cs n os m i):=G BQ 300 [.b false] [0,2,4,14,15] (T c1 a0) (by kernel_rfl)
theorem Auu(rs:List Rn)(hg:∀ r∈rs,AO 1048576 r)(hN:rs.length<=1048576)(n:Nat)(hn:n<=rs.length):∀ (r i:Nat),i+r=n ->
  Ar (.loop dC) (TO rs.length (pc rs) n (pc (EH (fun j=>V (Q (rs.getD j z0))) i r)) (n:Int) (i:Int)) (.exit 0) (TO rs.length (pc rs) n (pc (EH (fun j=>V (Q (rs.getD j z0))) n 0)) (n:Int) (n:Int)):=by
 intro r;induction r with
 | zero =>
  intro i hi;have hi':i=n:=by omega
  subst hi';exact Ao (A3e rs.length (pc rs) i _ (i:Int) (i:Int) (by simp)) (by nofun)
 | succ r ih =>
  intro i hi;have ei:I O ((i:Int)+1)=((i+1:Nat):Int):=by rw[Bl (by omega) (by omega)];omega
  have hx:=Ox (rs:=rs) (i:=i) (by omega);have gm:=Bk hg i;have hs:=Nf (neg:=(rs.getD i z0).1) gm.1 gm.2;have hst:=ZV (rs:=EH (fun j=>V (Q (rs.getD j z0))) i (r+1)) (i:=i) (r:=V (Q (rs.getD i z0))) (by rw[KS];omega);rw[Oz (fun j=>V (Q (rs.getD j z0))) i r] at hst;have h1:=A3d rs.length (pc rs) n _ (n:Int) (i:Int) _ (rs.getD i z0) (Q (rs.getD i z0)) (by simp;omega) (by omega) (by rw[R];exact hx) hs (by omega) (by rw[R];exact hst);rw[ei] at h1;exact C1.loop h1 (ih (i+1) (by omega))
theorem Acl(rs:List Rn)(hd:RQ 53 [Y pc rs] (D O (((A9r (P rs) rs.length:Nat):Int)-1)))(hz:((I O ((((A9r (P rs) rs.length:Nat):Int)-1)+1))==0)=true):RQ 66 [Y pc rs] (L 2 0 []):=B1 (ps:=[RQ 53 [Y pc rs] (D O (((A9r (P rs) rs.length:Nat):Int)-1)),((I O ((((A9r (P rs) rs.length:Nat):Int)-1)+1))==0)=true]) BQ rfl 300 rfl [.r (D O (((A9r (P rs) rs.length:Nat):Int)-1)),.b true] (by kernel_rfl) ⟨hd,hz,trivial⟩
theorem Acm(rs ss:List Rn)(hd:RQ 53 [Y pc rs] (D O (((A9r (P rs) rs.length:Nat):Int)-1)))(hz:((I O ((((A9r (P rs) rs.length:Nat):Int)-1)+1))==0)=false)(hmk:0<=I O ((((A9r (P rs) rs.length:Nat):Int)-1)+1)/\I O ((((A9r (P rs) rs.length:Nat):Int)-1)+1)<=1048576)(hl:Ar (.loop dC) (TO rs.length (pc rs) (A (I O ((((A9r (P rs) rs.length:Nat):Int)-1)+1))) (Cz [F false,H 0 []] (A (I O ((((A9r (P rs) rs.length:Nat):Int)-1)+1)))) (((A (I O ((((A9r (P rs) rs.length:Nat):Int)-1)+1))):Nat):Int) 0) (.exit 0) (TO rs.length (pc rs) (A (I O ((((A9r (P rs) rs.length:Nat):Int)-1)+1))) (pc ss) (((A (I O ((((A9r (P rs) rs.length:Nat):Int)-1)+1))):Nat):Int) (((A (I O ((((A9r (P rs) rs.length:Nat):Int)-1)+1))):Nat):Int))):RQ 66 [Y pc rs] (L 2 (A (I O ((((A9r (P rs) rs.length:Nat):Int)-1)+1))) (pc ss)):=A9g dF (A9j (Y pc rs)::(Ac 1 (A9n 2 (A (I O ((((A9r (P rs) rs.length:Nat):Int)-1)+1))) (pc ss)::(Ac 11 (A9j (D O (((A (I O ((((A9r (P rs) rs.length:Nat):Int)-1)+1))):Nat):Int))::(A9j (D O (((A (I O ((((A9r (P rs) rs.length:Nat):Int)-1)+1))):Nat):Int))::(Ac 12 []))))))) (C1.seq (G (t:=(vp rs::(Ac 1 (A9n 2 0 []::(Ac 25 []))))) BQ 300 [] [0,2] a0) (C1.seq (G (t:=(vp rs::(Ac 1 (A9n 2 0 []::(m (I O ((((A9r (P rs) rs.length:Nat):Int)-1)+1))::(Ac 2 (vp rs::(m (((A9r (P rs) rs.length:Nat):Int)-1)::(m (I O ((((A9r (P rs) rs.length:Nat):Int)-1)+1))::(Ac 19 [])))))))))) BQ 300 [.r (D O (((A9r (P rs) rs.length:Nat):Int)-1))] [0,2,3,6,7,8] (T (show RQ 53 [Y pc rs] (D O (((A9r (P rs) rs.length:Nat):Int)-1)) from hd) a0)) (C1.seq (G (t:=(vp rs::(Ac 1 (A9n 2 0 []::(m (I O ((((A9r (P rs) rs.length:Nat):Int)-1)+1))::(Ac 2 (vp rs::(m (((A9r (P rs) rs.length:Nat):Int)-1)::(m (I O ((((A9r (P rs) rs.length:Nat):Int)-1)+1))::(m (I O ((((A9r (P rs) rs.length:Nat):Int)-1)+1))::(A9j (F ((I O ((((A9r (P rs) rs.length:Nat):Int)-1)+1))==0))::(Ac 17 [])))))))))))) BQ 300 [.b false] [0,2,3,6,7,8,9,10] (T (show ((I O ((((A9r (P rs) rs.length:Nat):Int)-1)+1))==0)=false from hz) a0)) (C1.seq (G (t:=(vp rs::(Ac 1 (A9n 2 0 []::(m (I O ((((A9r (P rs) rs.length:Nat):Int)-1)+1))::(A9n 2 (A (I O ((((A9r (P rs) rs.length:Nat):Int)-1)+1))) (Cz [F false,H 0 []] (A (I O ((((A9r (P rs) rs.length:Nat):Int)-1)+1))))::(Ac 1 (vp rs::(m (((A9r (P rs) rs.length:Nat):Int)-1)::(m (I O ((((A9r (P rs) rs.length:Nat):Int)-1)+1))::(m (I O ((((A9r (P rs) rs.length:Nat):Int)-1)+1))::(A9j (F ((I O ((((A9r (P rs) rs.length:Nat):Int)-1)+1))==0))::(m (I O ((((A9r (P rs) rs.length:Nat):Int)-1)+1))::(Ac 16 [])))))))))))))) BQ 300 [] [0,2,3,4,6,7,8,9,10,11] (T (show 0<=(I O ((((A9r (P rs) rs.length:Nat):Int)-1)+1))/\(I O ((((A9r (P rs) rs.length:Nat):Int)-1)+1))<=1048576 from hmk) a0)) (C1.seq (C1.seq (G (t:=(vp rs::(Ac 1 (A9n 2 0 []::(Ac 1 (A9n 2 (A (I O ((((A9r (P rs) rs.length:Nat):Int)-1)+1))) (Cz [F false,H 0 []] (A (I O ((((A9r (P rs) rs.length:Nat):Int)-1)+1))))::(Ac 9 (m (((A (I O ((((A9r (P rs) rs.length:Nat):Int)-1)+1))):Nat):Int)::(m 0::(Ac 12 [])))))))))) BQ 300 [] [0,2,4,14,15] a0) (C1.block hl)) (G (t:=(vp rs::(Ac 1 (A9n 2 (A (I O ((((A9r (P rs) rs.length:Nat):Int)-1)+1))) (pc ss)::(Ac 11 (m (((A (I O ((((A9r (P rs) rs.length:Nat):Int)-1)+1))):Nat):Int)::(m (((A (I O ((((A9r (P rs) rs.length:Nat):Int)-1)+1))):Nat):Int)::(Ac 12 [])))))))) (ex := .ret) BQ 300 [] [0,2,14,15] a0))))))
theorem I_{rs:List Rn}(hg:∀ r∈rs,AO 1048576 r)(hN:rs.length<=1048576):RQ 66 [Y pc rs] (L 2 (A9l (P rs)).length (pk (A9l (P rs)))):=by
 have hle:=GX (P rs) rs.length;have hlen:(A9l (P rs)).length=A9r (P rs) rs.length:=by rw[F9,A9z]
 have hd:=Hf hg hN;have e1:I O ((((A9r (P rs) rs.length:Nat):Int)-1)+1)=((A9r (P rs) rs.length:Nat):Int):=by rw[Bl (by omega) (by omega)];omega
 have e2:(A (I O ((((A9r (P rs) rs.length:Nat):Int)-1)+1)))=A9r (P rs) rs.length:=by rw[e1,R]
 by_cases h0:A9r (P rs) rs.length=0
 ·have h:=Acl rs hd (by rw[e1,h0];rfl);have:A9l (P rs)=[]:=A7 (by omega);rw[this];exact h
 ·have hl:=Auu rs hg hN (A9r (P rs) rs.length) hle (A9r (P rs) rs.length) 0 (by omega);rw[Na,<- Oy] at hl;have h:=Acm rs _ hd (by rw[e1,beq_eq_false_iff_ne];omega) (by rw[e1];omega) (by rw[e2];exact hl);rw[e2,Nb] at h;have e3:(Aq (A9r (P rs) rs.length)).map (fun j=>V (Q (rs.getD j z0)))=(A9l (P rs)).map V:=by
   rw[<- SI,hlen];apply Gh;intro i _;rw[Dk,CO]
  rw[e3] at h;rw[hlen];exact h
def OB(N:Nat)(cs:List AV)(n:Nat)(os:List AV)(m:Int)(i:Int):Al:=(A9j (H N cs)::(Ac 1 (A9n 2 0 []::(A9n 2 n os::(Ac 5 (A9j (D O m)::(A9j (D O i)::(Ac 12 []))))))))
theorem Auv(N:Nat)(cs:List AV)(n:Nat)(os:List AV)(m:Int)(i:Int)(ds:List AV)(r:Rn)(v:Int)(c1:A9i (i<m)=true)(n1:0<=i/\i<(N:Int))(n2:Bv (A9v (A i*2) cs) 0 2 false=some (o [F r.1,H r.2.length (W r.2)]))(n3:RQ 131 [o [F r.1,H r.2.length (W r.2)]] (o [F (A9i (v<0)),H ((M (E v)).length) (W (M (E v)))]))(n4:0<=i/\i<(n:Int))(n5:C6 os (A i*2) [F (A9i (v<0)),H ((M (E v)).length) (W (M (E v)))]=some ds):Ar Vs (OB N cs n os m i) .norm (OB N cs n ds m (I O (i+1))):=G BQ 300 [.b true,.v (o [F r.1,H r.2.length (W r.2)]),.r (o [F (A9i (v<0)),H ((M (E v)).length) (W (M (E v)))]),.l ds] [0,2,3,9,10] (T c1 (T n1 (T n2 (T n3 (T n4 (T n5 a0)))))) (by kernel_rfl)
theorem Auw(N:Nat)(cs:List AV)(n:Nat)(os:List AV)(m:Int)(i:Int)(c1:A9i (i<m)=false):Ar Vs (OB N cs n os m i) (.exit 0) (OB N cs n os m i):=G BQ 300 [.b false] [0,2,3,9,10] (T c1 a0) (by kernel_rfl)
theorem Acn(rs:List Rn)(hg:∀ r∈rs,AO 1048576 r)(hN:rs.length<=1048576)(n:Nat)(hn:n<=rs.length):∀ (r i:Nat),i+r=n ->
  Ar (.loop Vs) (OB rs.length (pc rs) n (pc (EH (fun j=>V (-(Q (rs.getD j z0)))) i r)) (n:Int) (i:Int)) (.exit 0) (OB rs.length (pc rs) n (pc (EH (fun j=>V (-(Q (rs.getD j z0)))) n 0)) (n:Int) (n:Int)):=by
 intro r;induction r with
 | zero =>
  intro i hi;have hi':i=n:=by omega
  subst hi';exact Ao (Auw rs.length (pc rs) i _ (i:Int) (i:Int) (by simp)) (by nofun)
 | succ r ih =>
  intro i hi;have ei:I O ((i:Int)+1)=((i+1:Nat):Int):=by rw[Bl (by omega) (by omega)];omega
  have hx:=Ox (rs:=rs) (i:=i) (by omega);have gm:=Bk hg i;have hs:=YD (neg:=(rs.getD i z0).1) gm.1 gm.2;have hst:=ZV (rs:=EH (fun j=>V (-(Q (rs.getD j z0)))) i (r+1)) (i:=i) (r:=V (-(Q (rs.getD i z0)))) (by rw[KS];omega);rw[Oz (fun j=>V (-(Q (rs.getD j z0)))) i r] at hst;have h1:=Auv rs.length (pc rs) n _ (n:Int) (i:Int) _ (rs.getD i z0) (-(Q (rs.getD i z0))) (by simp;omega) (by omega) (by rw[R];exact hx) hs (by omega) (by rw[R];exact hst);rw[ei] at h1;exact C1.loop h1 (ih (i+1) (by omega))
theorem Aux(rs ss:List Rn)(hmk:0<=(rs.length:Int)/\(rs.length:Int)<=1048576)(hl:Ar (.loop Vs) (OB rs.length (pc rs) (A (rs.length:Int)) (Cz [F false,H 0 []] (A (rs.length:Int))) (rs.length:Int) 0) (.exit 0) (OB rs.length (pc rs) (A (rs.length:Int)) (pc ss) (rs.length:Int) (rs.length:Int))):RQ 117 [Y pc rs] (L 2 (A (rs.length:Int)) (pc ss)):=A9g Vt (A9j (Y pc rs)::(Ac 1 (A9n 2 (A (rs.length:Int)) (pc ss)::(Ac 6 (A9j (D O (rs.length:Int))::(A9j (D O (rs.length:Int))::(Ac 12 []))))))) (C1.seq (G (t:=(vp rs::(Ac 1 (A9n 2 0 []::(Ac 20 []))))) BQ 300 [] [0,2] a0) (C1.seq (G (t:=(vp rs::(Ac 1 (A9n 2 0 []::(A9n 2 (A (rs.length:Int)) (Cz [F false,H 0 []] (A (rs.length:Int)))::(Ac 1 (vp rs::(m (rs.length:Int)::(Ac 16 []))))))))) BQ 300 [] [0,2,3,5,6] (T (show 0<=(rs.length:Int)/\(rs.length:Int)<=1048576 from hmk) a0)) (C1.seq (C1.seq (G (t:=(vp rs::(Ac 1 (A9n 2 0 []::(A9n 2 (A (rs.length:Int)) (Cz [F false,H 0 []] (A (rs.length:Int)))::(Ac 5 (m (rs.length:Int)::(m 0::(Ac 12 []))))))))) BQ 300 [] [0,2,3,9,10] a0) (C1.block hl)) (G (t:=(vp rs::(Ac 1 (A9n 2 (A (rs.length:Int)) (pc ss)::(Ac 6 (m (rs.length:Int)::(m (rs.length:Int)::(Ac 12 [])))))))) (ex := .ret) BQ 300 [] [0,2,9,10] a0))))
theorem KV{rs:List Rn}(hg:∀ r∈rs,AO 1048576 r)(hN:rs.length<=1048576):RQ 117 [Y pc rs] (L 2 rs.length (pk (Ci (P rs)))):=by
 have hl:=Acn rs hg hN rs.length (Ap _) rs.length 0 (by omega);rw[Na,<- Oy] at hl;have h:=Aux rs _ (by omega) (by rw[R];exact hl);rw[R,Nb] at h;have e3:(Aq rs.length).map (fun j=>V (-(Q (rs.getD j z0))))=(Ci (P rs)).map V:=by
  have hq:(Ci (P rs)).length=rs.length:=by simp[Ci,P]
  rw[<- SI,hq];apply Gh;intro i _;rw[G_,CO]
 rw[e3] at h;exact h
def TAA:Cw:=TWC
theorem Dc:Ch AZ TAA:=BQ
def L'(rs:List Rn)(w:Rn)(i:Int)(z:Rn):Al:=(A9j (Y pc rs)::(Ac 1 (A9s [F z.1,H z.2.length (W z.2)]::(A9s [F w.1,H w.2.length (W w.2)]::(A9j (D O i)::(Ac 19 []))))))
theorem Auy(rs:List Rn)(w:Rn)(i:Int)(z:Rn)(b g:Int)(c1:A9i (i>=0)=true)(c2:(b != 1)=true)(n1:0<=i/\i<(rs.length:Int))(n2:RQ 102 [Ay w] (D O b))(n3:RQ 159 [Ay w,Ay (rs.getD (A i) z0)] (Ag g)):Ar S8 (L' rs w i z) .norm (L' rs (V g) (I O (i-1)) z):=(G CV 400 [.b true,.r (D O b),.b true,.v (Ay (rs.getD (A i) z0)),.r (Ag g)] [0,2,3,4] (T c1 (T n2 (T c2 (T n1 (T (BN n1) (T n3 a0)))))))
theorem Auz(rs:List Rn)(w:Rn)(i:Int)(z:Rn)(b:Int)(c1:A9i (i>=0)=true)(c2:(b != 1)=false)(n1:RQ 102 [Ay w] (D O b)):Ar S8 (L' rs w i z) (.exit 0) (L' rs w i z):=(G CV 400 [.b true,.r (D O b),.b false] [0,2,3,4] (T c1 (T n1 (T c2 a0))))
theorem Ava(rs:List Rn)(w:Rn)(i:Int)(z:Rn)(c1:A9i (i>=0)=false):Ar S8 (L' rs w i z) (.exit 0) (L' rs w i z):=(G CV 400 [.b false,.b false] [0,2,3,4] (T c1 (T ES a0)))
theorem Avb(rs:List Rn)(w z:Rn)(i:Int)(hl1:Ar (.loop S8) (L' rs (false,[]) (I O ((rs.length:Int)-1)) (false,[])) (.exit 0) (L' rs w i z)):RQ 157 [Y pc rs] (Ay w):=A9g VL (Ac 2 (A9s [F w.1,H w.2.length (W w.2)]::(Ac 21 []))) (A9m (A9t (C1.seq (G CV 400 [] [0,2,3,4] a0) (C1.seq (C1.block hl1) (G CV 400 [] [2] a0)))))
def L_(k:Nat)(os:List Rn)(w:Rn)(n:Int)(i:Int):Al:=(Ac 3 (A9n 2 k (pc os)::(A9s [F w.1,H w.2.length (W w.2)]::(Ac 9 (A9j (D O n)::(A9j (D O i)::(Ac 16 [])))))))
theorem Avc(k:Nat)(os:List Rn)(w:Rn)(n:Int)(i:Int)(q r:Int)(c1:A9i (i<n)=true)(n1:0<=i/\i<(k:Int))(n2:os.length=k)(n3:RQ 158 [Ay (os.getD (A i) z0),Ay w] (Ax [Ag q,Ag r])):Ar Sp (L_ k os w n i) .norm (L_ k (os.set (A i) (V q)) w n (I O (i+1))):=(G CV 400 [.b true,.v (Ay (os.getD (A i) z0)),.r (Ax [Ag q,Ag r]),.l (pc (os.set (A i) (V q)))] [3,4,14,15] (T c1 (T n1 (T (F_ n2 n1) (T n3 (T n1 (T (FA (r:=V q) n2 n1) a0)))))))
theorem Avd(k:Nat)(os:List Rn)(w:Rn)(n:Int)(i:Int)(c1:A9i (i<n)=false):Ar Sp (L_ k os w n i) (.exit 0) (L_ k os w n i):=(G CV 400 [.b false] [3,4,14,15] (T c1 a0))
theorem pV(rs ts os:List Rn)(w:Rn)(g b n i:Int)(k:Nat)(c1:A9i (b>1)=true)(n1:RQ 66 [Y pc rs] (L 2 ts.length (pc ts)))(n2:tC (pc ts) (fun c => !UI c)=true)(n3:G9 (Ag g)=true)(n4:RQ 157 [Y pc ts] (Ag g))(n5:RQ 102 [Ag g] (D O b))(hl6:Ar (.loop Sp) (L_ ts.length ts (V g) (ts.length:Int) 0) (.exit 0) (L_ k os w n i)):RQ 115 [Y pc rs] (L 2 k (pc os)):=A9g Sq (Ac 2 (A9n 2 k (pc os)::(Ac 29 []))) (A9m (A9m (A9t (C1.seq (G (t:=(vp rs::(Ac 1 (A9n 2 0 []::(A9n 2 ts.length (pc ts)::(bN g::(Ac 7 (A9j (F (A9i (b>1)))::(Ac 19 []))))))))) CV 400 [.r (L 2 ts.length (pc ts)),.r (Ag g),.r (D O b)] [0,2,3,4,12] (T n1 (T n2 (T n3 (T n4 (T n5 a0)))))) (C1.seq (Jm (by rfl) c1 (C1.seq (G CV 400 [] [3,4,14,15] a0) (C1.block hl6))) (G CV 400 [] [2] a0))))))
theorem pW(rs ts:List Rn)(g b:Int)(c1:A9i (b>1)=false)(n1:RQ 66 [Y pc rs] (L 2 ts.length (pc ts)))(n2:tC (pc ts) (fun c => !UI c)=true)(n3:G9 (Ag g)=true)(n4:RQ 157 [Y pc ts] (Ag g))(n5:RQ 102 [Ag g] (D O b)):RQ 115 [Y pc rs] (L 2 ts.length (pc ts)):=A9g Sq (Ac 2 (A9n 2 ts.length (pc ts)::(Ac 29 []))) (A9m (A9m (A9t (C1.seq (G (t:=(vp rs::(Ac 1 (A9n 2 0 []::(A9n 2 ts.length (pc ts)::(bN g::(Ac 7 (A9j (F (A9i (b>1)))::(Ac 19 []))))))))) CV 400 [.r (L 2 ts.length (pc ts)),.r (Ag g),.r (D O b)] [0,2,3,4,12] (T n1 (T n2 (T n3 (T n4 (T n5 a0)))))) (C1.seq (Jn (by rfl) c1 (G (t:=(Ac 2 (A9n 2 0 []::(A9n 2 ts.length (pc ts)::(Ac 28 []))))) CV 400 [] [2,3] a0)) (G CV 400 [] [2] a0))))))
theorem pX(rs ts:List Rn)(s:Int)(c1:A9i ((rs.length:Int)>0)=true)(c2:A9i (s<0)=true)(n1:0<=(I O ((rs.length:Int)-1))/\(I O ((rs.length:Int)-1))<(rs.length:Int))(n2:RQ 101 [Ay (rs.getD (A (I O ((rs.length:Int)-1))) z0)] (D O s))(n3:RQ 117 [Y pc rs] (L 2 ts.length (pc ts))):RQ 155 [Y pc rs] (L 2 ts.length (pc ts)):=A9x (fn:=Qx) CV rfl 400 rfl [.b true,.v (Ay (rs.getD (A (I O ((rs.length:Int)-1))) z0)),.r (D O s),.b true,.r (L 2 ts.length (pc ts))] (T c1 (T n1 (T (BN n1) (T n2 (T c2 (T n3 a0))))))
theorem pY(rs:List Rn)(s:Int)(c1:A9i ((rs.length:Int)>0)=true)(c2:A9i (s<0)=false)(n1:0<=(I O ((rs.length:Int)-1))/\(I O ((rs.length:Int)-1))<(rs.length:Int))(n2:RQ 101 [Ay (rs.getD (A (I O ((rs.length:Int)-1))) z0)] (D O s)):RQ 155 [Y pc rs] (Y pc rs):=A9x (fn:=Qx) CV rfl 400 rfl [.b true,.v (Ay (rs.getD (A (I O ((rs.length:Int)-1))) z0)),.r (D O s),.b false] (T c1 (T n1 (T (BN n1) (T n2 (T c2 a0)))))
theorem pZ(rs:List Rn)(c1:A9i ((rs.length:Int)>0)=false):RQ 155 [Y pc rs] (Y pc rs):=A9x (fn:=Qx) CV rfl 400 rfl [.b false,.b false] (T c1 (T ES a0))
def OC(rs:List Rn)(k:Nat)(cs:List AV)(i:Int):Al:=(A9j (Y pc rs)::(Ac 2 (A9n 2 k cs::(A9j (D O i)::(Ac 18 [])))))
theorem Ave(rs:List Rn)(k:Nat)(cs:List AV)(i:Int)(d v:Int)(c1:A9i (i<=d)=true)(n1:0<=i/\i<(rs.length:Int))(n2:k+1<=1048576)(n3:RQ 53 [Y pc rs] (D O d))(n4:RQ 132 [D O i] (Ag i))(n5:RQ 112 [Ay (rs.getD (A i) z0),Ag i] (Ag v)):Ar Vq (OC rs k cs i) .norm (OC rs (k+1) (cs++([F (A9i (v<0)),H ((M (E v)).length) (W (M (E v)))]:List AV)) (I O (i+1))):=(G CV 400 [.r (D O d),.b true,.v (Ay (rs.getD (A i) z0)),.r (Ag i),.r (Ag v)] [0,3,4] (T n3 (T c1 (T n1 (T (BN n1) (T n4 (T n5 (T (show Bs ([F (A9i (v<0)),H ((M (E v)).length) (W (M (E v)))]:List AV)=1*2 from rfl) (T n2 a0)))))))))
theorem Avf(rs:List Rn)(k:Nat)(cs:List AV)(i:Int)(d:Int)(c1:A9i (i<=d)=false)(n1:RQ 53 [Y pc rs] (D O d)):Ar Vq (OC rs k cs i) (.exit 0) (OC rs k cs i):=(G CV 400 [.r (D O d),.b false] [0,3,4] (T n1 (T c1 a0)))
theorem Avg(rs os ts:List Rn)(k:Nat)(i:Int)(hl1:Ar (.loop Vq) (OC rs 0 ([]:List AV) 1) (.exit 0) (OC rs k (pc os) i))(n2:RQ 66 [H k (pc os)] (L 2 ts.length (pc ts))):RQ 116 [Y pc rs] (L 2 ts.length (pc ts)):=A9g Vr (Ac 2 (A9n 2 ts.length (pc ts)::(Ac 20 []))) (A9m (A9t (C1.seq (G CV 400 [] [0,3,4] a0) (C1.seq (C1.block hl1) (G CV 400 [.r (L 2 ts.length (pc ts))] [2] (T n2 a0))))))
def TRA:Cw:=TQE
theorem qC:Ch AZ TRA:=CV
end Go.Proofs.YtajompaehjkgkaaGreat
namespace Go.Ai
open Classical renaming byContradiction->A4
open Function renaming comp->A5a
open Int renaming add_zero->BE,eq_of_mul_eq_mul_left->G8,mul_assoc->AF,mul_comm->AA,mul_ediv_cancel'->IN,mul_ediv_cancel_left->BX,mul_ne_zero->Ba,mul_neg_of_pos_of_neg->IE,mul_nonneg->A6,mul_pos->Be,mul_sub->Fr,mul_zero->AI,natAbs_mul->BT,natAbs_natCast->BO,natAbs_of_nonneg->Lk,natCast_mul->Dj,neg_mul->NL,not_le->GN,ofNat_dvd_left->G3,pos_of_mul_pos_right->aF,pow_succ->A2,sub_zero->EU,zero_mul->CX
open List renaming eq_nil_of_length_eq_zero->A7,getD_eq_getElem?_getD->Z,getElem?_eq_getElem->Ah,getElem?_eq_none->AD,getElem?_map->CL,getElem?_replicate_of_lt->Ahi,length->Bs,length_cons->Bz,length_map->N,length_pos_iff->Am,length_replicate->Fi,length_set->A_,map_congr_left->Gh,map_cons->C8,map_map->Aza,map_take->Sh,mem_iff_getElem->JK,range->Aq,replicate->At,replicate_succ->Gg
open Nat renaming add_comm->GF,add_mul->DY,eq_zero_or_pos->FJ,gcd->I8,le_add_right->PB,le_mul_of_pos_left->X_,le_refl->Ap,le_trans->Bx,mul_assoc->EL,mul_comm->CZ,mul_le_mul_left->AAd,mul_le_mul_right->AE,mul_one->GI,mul_succ->PA,one_mul->Fe,pow_add->CN,pow_le_pow_right->B8,pow_succ->FL,sub_add_cancel->LA
open Or renaming inr->PR
def AQ:LI->Nat
 | []=>0
 | x::xs=>I8 x.natAbs (AQ xs)
theorem K8(d:Nat):∀ xs:LI,d∣AQ xs↔∀ i,(d:Int)∣xs.getD i 0
 | []=>by simp[AQ]
 | x::xs=>by
  have ih:=K8 d xs;simp only[AQ,Nat.dvd_gcd_iff,ih];constructor
  ·rintro⟨h1,h2⟩ i;cases i with
   | zero=>simpa using G3.2 h1
   | succ i=>simpa using h2 i
  ·intro h;refine⟨G3.1 (by simpa using h 0),fun i=>by simpa using h (i+1)⟩
theorem Hz(xs:LI)(i:Nat):(AQ xs:Int)∣xs.getD i 0:=(K8 _ xs).1 (Nat.dvd_refl _) i
theorem Pp{xs ys:LI}(h:∀ i,xs.getD i 0=ys.getD i 0):AQ xs=AQ ys :=
 Nat.dvd_antisymm ((K8 _ _).2 fun i=>h i ▸ Hz xs i) ((K8 _ _).2 fun i=>h i ▸ Hz ys i)
theorem W3(xs:LI):AQ (A9l xs)=AQ xs:=Pp (Dk xs)
theorem Ja{xs:LI}:AQ xs=0↔∀ i,xs.getD i 0=0:=by
 constructor
 ·intro h i;have:=Hz xs i;rw[h] at this;exact Int.zero_dvd.1 this
 ·intro h;have:AQ xs=AQ []:=Pp fun i=>by rw[h i];simp
  rw[this];rfl
theorem In(k:Int):∀ xs:LI,AQ (A0 k xs)=k.natAbs*AQ xs
 | []=>rfl
 | x::xs=>by
  have ih:=In k xs;simp only[A0,C8,AQ] at *
  rw[ih,BT,Nat.gcd_mul_left]
theorem Dd{xs:LI}:A9l xs=[]↔∀ i,xs.getD i 0=0:=by
 constructor
 ·intro h i;rw[<- Dk,h];simp
 ·intro h;have:A9l xs=A9l []:=E' fun i=>by rw[h i];simp
  rw[this];rfl
theorem Jb{xs:LI}(h:A9l xs ≠ []):0<AQ xs:=by
 rcases FJ (AQ xs) with g | g
 ·exact absurd (Dd.2 (Ja.1 g)) h
 ·exact g
theorem JA{k:Int}(hk:k ≠ 0)(xs:LI):A9l (A0 k xs)=A0 k (A9l xs):=by
 have e:∀ n,A9r (A0 k xs) n=A9r xs n:=by
  intro n;induction n with
  | zero=>rfl
  | succ n ih =>
   simp only[A9r,ih,AK];by_cases h:xs.getD n 0=0
   ·rw[h,AI]
   ·rw[if_neg h,if_neg (Ba hk h)]
 simp only[A9l];rw[e,show (A0 k xs).length=xs.length by simp[A0]];simp[A0,Sh]
def prim(xs:LI):LI:=(A9l xs).map fun x=>x / (AQ xs:Int)
theorem Jc(xs:LI)(i:Nat):(prim xs).getD i 0=xs.getD i 0 / (AQ xs:Int):=by
 rw[<- Dk xs i];simp only[prim,Z,CL];cases (A9l xs)[i]? <;> simp
theorem Ca(xs:LI):(prim xs).length=(A9l xs).length:=by simp [prim]
theorem Pq(xs:LI)(i:Nat):(AQ xs:Int)*(prim xs).getD i 0=xs.getD i 0:=by
 rw[Jc];exact IN (Hz xs i)
theorem Mu{xs ys:LI}(h:∀ i,xs.getD i 0=ys.getD i 0):prim xs=prim ys:=by
 simp only[prim];rw[E' h,Pp h]
theorem DG{xs:LI}:prim xs=[]↔∀ i,xs.getD i 0=0:=by
 rw[<- Dd];simp[prim]
theorem OD{k:Int}(hk:0<k)(xs:LI):prim (A0 k xs)=prim xs:=by
 simp only[prim];rw[JA (by omega),In];simp only[A0,Aza];apply Gh;intro x _;simp only[A5a];rw[Dj,Lk (by omega),Int.mul_ediv_mul_of_pos _ _ hk]
theorem aC{k:Int}(hk:0<k){xs ys:LI}(h:∀ i,ys.getD i 0=k*xs.getD i 0):prim ys=prim xs:=by
 rw[<- OD hk xs];exact Mu fun i=>by rw[h,AK]
theorem qD{xs:LI}(h:A9r xs xs.length=xs.length):A9l xs=xs:=by simp [A9l,h]
def BZ(xs:LI):Prop:=A9l xs=xs
theorem H_(xs:LI):BZ (A9l xs):=GY xs
theorem E1{xs:LI}(h:BZ xs)(hn:xs ≠ []):xs.getD (xs.length-1) 0 ≠ 0:=by
 have e:=congrArg Bs h;rw[F9] at e;rcases Y2 xs xs.length with g | g
 ·rw[g] at e;exact absurd (A7 e.symm) hn
 ·rw[e] at g;exact g
theorem R8{xs:LI}(h:xs=[]\/xs.getD (xs.length-1) 0 ≠ 0):BZ xs:=by
 rcases h with rfl | h
 ·rfl
 ·cases hl:xs.length with
  | zero=>rw[A7 hl];rfl
  | succ n =>
   apply qD;rw[hl];simp only[A9r];rw[if_neg (by rw[hl] at h;simpa using h)]
theorem gD{k:Int}(hk:k ≠ 0){xs:LI}(h:BZ xs):BZ (A0 k xs):=by
 unfold BZ;rw[JA hk,h]
theorem L9(xs:LI):A0 (AQ xs) (prim xs)=A9l xs:=by
 apply K6
 ·simp[A0,Ca]
 ·intro i;rw[AK,Pq,Dk]
theorem Cq(xs:LI):BZ (prim xs):=by
 by_cases h:A9l xs=[]
 ·rw[DG.2 (Dd.1 h)];rfl
 ·have hc:=Jb h;have h1:=H_ xs;rw[<- L9] at h1;unfold BZ at h1 |-;rw[JA (by omega)] at h1;have hinj:∀ a b:LI,A0 (AQ xs) a=A0 (AQ xs) b->a=b:=by
   intro a b hab;have hl:=congrArg Bs hab;simp only[A0,N] at hl;apply K6 hl;intro i;have:=congrArg (fun l:LI=>l.getD i 0) hab;simp only[AK] at this;exact G8 (by omega) this
  exact hinj _ _ h1
theorem KW{xs:LI}(h:A9l xs ≠ []):AQ (prim xs)=1:=by
 have hc:=Jb h;have h1:=In (AQ xs) (prim xs);rw[L9,W3,BO] at h1;have h2:AQ xs*1=AQ xs*AQ (prim xs):=by rw[GI];exact h1
 exact (Nat.eq_of_mul_eq_mul_left hc h2).symm
theorem SN{xs:LI}(h:AQ xs=1):prim xs=A9l xs:=by
 simp only[prim,h];rw[show (fun x:Int=>x / ((1:Nat):Int))=id by funext x;simp];simp
theorem Cb(xs:LI):prim (prim xs)=prim xs:=by
 by_cases h:A9l xs=[]
 ·rw[DG.2 (Dd.1 h)];rfl
 ·rw[SN (KW h)];exact Cq xs
theorem SO{K:Nat}{x:Int}(h:Br K x)(c:Nat):Br K (x / (c:Int))\/¬ (c:Int)∣x:=by
 by_cases hd:(c:Int)∣x
 ·left;obtain⟨y,rfl⟩:=hd;rcases FJ c with h0 | h0
  ·subst h0;simpa using h
  ·rw[BX _ (by omega)];unfold Br at *
   rw[BT,BO] at h;have:=X_ y.natAbs h0;omega
 ·exact PR hd
theorem qE{K:Nat}{xs:LI}(h:∀ i,Br K (xs.getD i 0))(i:Nat):Br K ((prim xs).getD i 0):=by
 rw[Jc];rcases SO (h i) (AQ xs) with g | g
 ·exact g
 ·exact absurd (Hz xs i) g
def u(K:Nat)(r:LI):Prop:=∀ i,Br K (r.getD i 0)
theorem u.mono{J K:Nat}{r:LI}(h:u J r)(hk:J<=K):u K r:=fun i=>(h i).mono hk
theorem u.mem{K:Nat}{r:LI}(h:u K r):∀ x∈r,Br K x:=fun x hx=>by
 obtain⟨i,hi,rfl⟩:=JK.1 hx;have:=h i;rwa [Z,Ah hi] at this
theorem Jd{K:Nat}{r:LI}(h:∀ x∈r,Br K x):u K r:=Wo h
theorem u.prim{K:Nat}{r:LI}(h:u K r):u K (prim r):=qE h
theorem u.trim{K:Nat}{r:LI}(h:u K r):u K (A9l r):=fun i=>by rw [Dk];exact h i
def X(r:LI):Int:=r.getD (r.length-1) 0
def CD(r d:LI)(a b:Int)(n:Nat):LI:=(Aq n).map fun i=>if r.length-d.length<=i then a*r.getD i 0-b*d.getD (i-(r.length-d.length)) 0 else a*r.getD i 0
theorem El(r d:LI)(a b:Int)(n:Nat):(CD r d a b n).length=n:=by simp [CD]
theorem Hg(f:Nat->Int)(n i:Nat):((Aq n).map f).getD i 0=if i<n then f i else 0:=by
 rw[Z,CL];by_cases h:i<n
 ·rw[List.getElem?_range h,if_pos h];rfl
 ·rw[AD (by simpa using h),if_neg h];rfl
theorem Gy(r d:LI)(a b:Int)(n i:Nat):(CD r d a b n).getD i 0=if i<n then (if r.length-d.length<=i then a*r.getD i 0-b*d.getD (i-(r.length-d.length)) 0 else a*r.getD i 0) else 0:=Hg _ _ _
theorem R9{J K:Nat}{r d:LI}{a b:Int}(hr:u J r)(hd:u K d)(ha:Br K a)(hb:Br J b)(n:Nat):u (J+K+1) (CD r d a b n):=by
 intro i;rw[Gy];have h1:=(Br.mul ha (hr i));have h2:=(Br.mul hb (hd (i-(r.length-d.length))));rw[GF] at h1;split
 ·split
  ·exact h1.add h2.neg
  ·exact h1.mono (by omega)
 ·exact GZ _
theorem W4{r d:LI}{a b:Int}(hd:d ≠ [])(hl:d.length<=r.length)(h:a*X r=b*X d)(i:Nat):(CD r d a b r.length).getD i 0=(CD r d a b (r.length-1)).getD i 0:=by
 have:=Am.2 hd;rw[Gy,Gy];by_cases h1:i<r.length-1
 ·rw[if_pos h1,if_pos (by omega)]
 ·rw[if_neg h1];split
  ·have:i=r.length-1:=by omega
   subst this;rw[if_pos (by omega),show r.length-1-(r.length-d.length)=d.length-1 by omega];unfold X at h;omega
  ·rfl
theorem gF(r d:LI)(k a b:Int)(n i:Nat):(CD r d (k*a) (k*b) n).getD i 0=k*(CD r d a b n).getD i 0:=by
 rw[Gy,Gy];split
 ·split
  ·rw[Fr,AF,AF]
  ·rw[AF]
 ·simp
theorem gG(r d:LI)(c a b:Int)(n:Nat):CD r (A0 c d) a b n=CD r d a (b*c) n:=by
 apply K6 (by rw[El,El]);intro i;rw[Gy,Gy,AK,show (A0 c d).length=d.length by simp[A0]];rw[AF]
def sg(n:Int):Int:=if n<0 then -1 else 1
theorem A3f(n:Int):sg n*n=(n.natAbs:Int):=by unfold sg;split <;> omega
def DH(r d:LI):LI:=prim (CD r d ((X d).natAbs:Int) (sg (X d)*X r) r.length)
def Ed:Nat->LI->LI->LI
 | 0,r,_=>r
 | f+1,r,d=>if d.length<=r.length then Ed f (DH r d) d else r
theorem XH(r d:LI):((X d).natAbs:Int)*X r=sg (X d)*X r*X d:=by
 rw[<- A3f];grind
theorem W5{r d:LI}(hd:d ≠ [])(hl:d.length<=r.length):DH r d=prim (CD r d ((X d).natAbs:Int) (sg (X d)*X r) (r.length-1)) :=
 Mu (W4 hd hl (XH r d))
theorem Jt{r d:LI}(hd:d ≠ [])(hl:d.length<=r.length):(DH r d).length<r.length:=by
 have:=Am.2 hd;rw[W5 hd hl,Ca];have:=Bp (CD r d ((X d).natAbs:Int) (sg (X d)*X r) (r.length-1));rw[El] at this;omega
theorem qF(c:Int)(d:LI):X (A0 c d)=c*X d:=by
 unfold X;rw[AK,show (A0 c d).length=d.length by simp[A0]]
theorem gH{c:Int}(hc:0<c)(n:Int):sg (c*n)=sg n:=by
 unfold sg;have:c*n<0↔n<0:=by
  constructor
  ·intro h;apply GN.1;intro hn;have:=A6 (show 0<=c by omega) hn;omega
  ·intro h;exact IE hc h
 simp only[this]
theorem TP{r d:LI}{c g a b:Int}(hc:0<c)(hg:0<g)(ha:g*a=((X d).natAbs:Int))(hb:g*b=sg (X d)*X r):DH r (A0 c d)=prim (CD r d a b r.length):=by
 unfold DH;rw[gG,qF,gH hc,BT];apply aC (k:=c*g) (Be hc hg);intro i;rw[<- gF];congr 2
 ·rw[AF,ha,Dj,Lk (by omega)]
 ·rw[AF c g b,hb];grind
theorem aD{c:Int}(hc:0<c)(r d:LI):DH r (A0 c d)=DH r d:=by
 rw[TP (g:=1) (a:=((X d).natAbs:Int)) (b:=sg (X d)*X r) hc (by decide) (by omega) (by omega)];rfl
theorem aE{c:Int}(hc:0<c)(d:LI):∀ (f:Nat) (r:LI),Ed f r (A0 c d)=Ed f r d:=by
 intro f;induction f with
 | zero=>intro r;rfl
 | succ f ih =>
  intro r;simp only[Ed];rw[show (A0 c d).length=d.length by simp[A0],aD hc,ih]
theorem TQ(r d:LI):BZ (DH r d):=Cq _
theorem E8{K:Nat}{d:LI}(h:u K d):Br K (X d):=h _
theorem Ps{K:Nat}{n:Int}(h:Br K n):Br K (n.natAbs:Int):=by unfold Br at *;rwa [BO]
theorem Avh{K:Nat}{m n:Int}(h:Br K n):Br K (sg m*n):=by
 unfold Br sg at *;split <;> simpa using h
theorem SP{J K:Nat}{r d:LI}(hr:u J r)(hd:u K d):u (J+K+1) (DH r d) :=
 (R9 hr hd (Ps (E8 hd)) (Avh (E8 hr)) _).prim
theorem SQ{d:LI}(hd:d ≠ []){K:Nat}(hK:u K d):∀ (f:Nat) (r:LI) (J:Nat),r.length<=f->BZ r->u J r ->
  BZ (Ed f r d)/\(Ed f r d).length<d.length/\u (J+(r.length+1-d.length)*(K+1)) (Ed f r d):=by
 have hd1:=Am.2 hd;intro f;induction f with
 | zero =>
  intro r J h1 h2 h3;exact⟨h2,by simp only[Ed];omega,h3.mono (PB _ _)⟩
 | succ f ih =>
  intro r J h1 h2 h3;simp only[Ed];split
  ·rename_i hl;have hp:=Jt hd hl;obtain⟨a1,a2,a3⟩:=ih (DH r d) (J+K+1) (by omega) (TQ r d) (SP h3 hK);refine⟨a1,a2,a3.mono ?_⟩;have e:((DH r d).length+1-d.length)+1<=r.length+1-d.length:=by omega
   have:=AE (K+1) e;rw[DY,Fe] at this;omega
  ·exact⟨h2,by omega,h3.mono (PB _ _)⟩
def BB(x y:LI):LI:=Ed x.length x y
def Ia:Nat->LI->LI->LI
 | 0,x,_=>x
 | f+1,x,y=>if y=[] then x else Ia f y (BB x y)
def AAc(x:LI):LI:=if X x<0 then Ci x else x
theorem Io(d:LI):∀ (f:Nat) (r:LI),prim r=r->prim (Ed f r d)=Ed f r d:=by
 intro f;induction f with
 | zero=>intro r h;exact h
 | succ f ih =>
  intro r h;simp only[Ed];split
  ·exact ih _ (Cb _)
  ·exact h
theorem Cv{r:LI}(h:prim r=r):BZ r:=h ▸ Cq r
theorem qG{m l:Nat}(h:l<m):(m-l+2)*3^l<=3^m:=by
 obtain⟨k,rfl⟩:∃ k,m=l+1+k:=⟨m-l-1,by omega⟩;rw[show l+1+k-l+2=k+3 by omega,show l+1+k=(k+1)+l by omega,CN];apply AE;clear h;induction k with
 | zero=>decide
 | succ k ih=>rw[FL];omega
def Je(n m:Nat):Nat:=(n-m+2)*3^m
theorem K9{x y:LI}{M:Nat}(hM:0<M)(hx:BZ x)(hy:y ≠ [])(kx:u (M-1) x)(ky:u (M-1) y)(hl:y.length<=x.length) :
  BZ (BB x y)/\(BB x y).length<y.length/\u (M*(x.length-y.length+2)-1) (BB x y):=by
 obtain⟨a,b,c⟩:=SQ hy ky x.length x (M-1) (Ap _) hx kx;refine⟨a,b,c.mono ?_⟩;rw[LA hM,show x.length+1-y.length=x.length-y.length+1 by omega,CZ _ M];have:M*(x.length-y.length+2)=M*(x.length-y.length+1)+M:=by rw[<- PA]
 omega
theorem KA{n m l M T:Nat}(hl:l<m)(h:M*Je n m<=T):M*(n-m+2)*Je m l<=T:=by
 refine Bx ?_ h;unfold Je;rw[EL];apply AAd;apply AAd;exact qG hl
theorem OE{n m c:Nat}(h:m<=n)(hn:n<=c):Je n m<=2*3^c:=by
 have h1:Je n m<=2*3^n:=by
  unfold Je;obtain⟨k,rfl⟩:∃ k,n=m+k:=⟨n-m,by omega⟩;rw[show m+k-m+2=k+2 by omega,CN,CZ (3^m),<- EL];apply AE;clear h hn;induction k with
  | zero=>decide
  | succ k ih=>rw[FL];omega
 exact Bx h1 (AAd _ (B8 (by decide) hn))
def As(p:LI):LI:=A9l ((Aq (p.length-1)).map fun j=>p.getD (j+1) 0*((j+1:Nat):Int))
theorem Dm(p:LI)(i:Nat):(As p).getD i 0=p.getD (i+1) 0*((i+1:Nat):Int):=by
 unfold As;rw[Dk,Hg];split
 ·rfl
 ·rw[B0 (xs:=p) (by omega),CX]
theorem W6{a b:Int}{us bs cs:LI}(h:∀ i,cs.getD i 0=a*us.getD i 0+b*bs.getD i 0)(x:Int):Aa cs x=a*Aa us x+b*Aa bs x:=by
 have e:Aa cs x=Aa (DB (A0 a us) (A0 b bs)) x:=Gu (fun i=>by rw[h,Dl,AK,AK]) x;rw[e,BU,Az,Az]
def Dn(k:Nat)(q:LI):LI:=At k 0++q
theorem Cm(k:Nat)(q:LI)(i:Nat):(Dn k q).getD i 0=if k<=i then q.getD (i-k) 0 else 0:=by
 simp only[Dn,Z,List.getElem?_append,Fi];split
 ·rename_i h;rw[if_neg (by omega),Ahi h];rfl
 ·rename_i h;rw[if_pos (by omega)]
theorem Ds(k:Nat)(q:LI)(x:Int):Aa (Dn k q) x=x^k*Aa q x:=by
 induction k with
 | zero=>simp[Dn]
 | succ k ih =>
  have:Dn (k+1) q=0::Dn k q:=by simp[Dn,Gg]
  rw[this];simp only[Aa];rw[ih,A2];grind
theorem QK{r d:LI}(hl:d.length<=r.length)(a b x:Int):Aa (CD r d a b r.length) x=a*Aa r x-b*(x^(r.length-d.length)*Aa d x):=by
 rw[<- Ds];have:=W6 (a:=a) (b := -b) (us:=r) (bs:=Dn (r.length-d.length) d) (cs:=CD r d a b r.length) (fun i=>by
  rw[Gy,Cm];by_cases h:i<r.length
  ·rw[if_pos h];split
   ·rw[NL];omega
   ·simp
  ·rw[if_neg h,B0 (show r.length<=i by omega)];have:d.getD (i-(r.length-d.length)) 0=0:=B0 (by omega);split
   ·rw[this];simp
   ·simp) x
 rw[this,NL];omega
theorem EO(a:Int)(p q:LI)(i:Nat):(BC (a::p) q).getD i 0=a*q.getD i 0+(Dn 1 (BC p q)).getD i 0:=by
 simp only[BC];rw[Dl,AK];rfl
theorem Pt:∀ (p q:LI),p ≠ []->q ≠ []->(BC p q).getD (p.length+q.length-2) 0=X p*X q/\∀ i,p.length+q.length-1<=i->(BC p q).getD i 0=0
 | [],q,h,_=>absurd rfl h
 | [a],q,_,hq=>by
  have hq1:=Am.2 hq;refine⟨?_,fun i hi => ?_⟩
  ·rw[EO,Cm,show [a].length+q.length-2=q.length-1 by simp;omega];simp[BC,X]
  ·rw[EO,Cm,B0 (show q.length<=i by simp at hi;omega)];simp[BC]
 | a::b::p,q,_,hq=>by
  have hq1:=Am.2 hq;obtain⟨h1,h2⟩:=Pt (b::p) q (by simp) hq;refine⟨?_,fun i hi => ?_⟩
  ·rw[EO,Cm,if_pos (by simp;omega)];simp only[Bz] at *
   rw[B0 (show q.length<=p.length+1+1+q.length-2 by omega),show p.length+1+1+q.length-2-1=p.length+1+q.length-2 by omega,h1];simp[X]
  ·rw[EO,Cm];simp only[Bz] at *
   rw[B0 (show q.length<=i by omega)];split
   ·rw[h2 _ (by omega)];simp
   ·simp
theorem DM{p:LI}(h:A9l p=[])(x:Int):Aa p x=0:=by rw [<- Ei,h];rfl
theorem RA{p q S r1 o2 r2:LI}{c1 c2:Int}(hq:BZ q)(hq0:q ≠ [])(h1:∀ x,c1*Aa p x=Aa q x*Aa S x+Aa r1 x)(h2:∀ x,c2*Aa p x=Aa q x*Aa o2 x+Aa r2 x)
  (z1:∀ i,q.length-1<=i->r1.getD i 0=0) (z2:∀ i,q.length-1<=i->r2.getD i 0=0) (i:Nat):c2*S.getD i 0=c1*o2.getD i 0:=by
 have hql:=Am.2 hq0;have hD:A9l (Ms (A0 c2 S) (A0 c1 o2))=[]:=by
  apply A4;intro hD;have hev:∀ x,Aa (BC q (A9l (Ms (A0 c2 S) (A0 c1 o2)))) x=Aa (Ms (A0 c1 r2) (A0 c2 r1)) x:=by
   intro x;rw[AX,Ei,FB,FB,Az,Az,Az,Az];have a:=h1 x;have b:=h2 x;grind
  generalize hDD:A9l (Ms (A0 c2 S) (A0 c1 o2))=D at *
  have hDl:BZ D:=hDD ▸ H_ _;have hD1:=Am.2 hD;have h3:=(Pt q D hq0 hD).1;rw[Dg hev,QB,AK,AK,z1 _ (by omega),z2 _ (by omega)] at h3;have t1:=E1 hq hq0;have t2:=E1 hDl hD;rw[AI,AI,EU] at h3;exact Ba t1 t2 h3.symm
 have:=Dd.1 hD i;rw[QB,AK,AK] at this;omega
theorem RB{S o2:LI}{c1 c2:Int}(hc1:0<c1)(hc2:0<c2)(h:∀ i,c2*S.getD i 0=c1*o2.getD i 0):prim S=prim o2:=by
 rw[<- OD hc2 S,<- OD hc1 o2];exact Mu fun i=>by rw[AK,AK];exact h i
def Hi(r q:LI)(l:Int)(k:Nat):LI:=(Aq r.length).map fun i=>if k<=i then r.getD i 0-l*q.getD (i-k) 0 else r.getD i 0
theorem LB(r q:LI)(l:Int)(k i:Nat)(hk:k+q.length<=r.length):(Hi r q l k).getD i 0=r.getD i 0-l*(Dn k q).getD i 0:=by
 rw[Hi,Hg,Cm];split
 ·split <;> simp
 ·rw[B0 (show r.length<=i by omega),B0 (xs:=q) (show q.length<=i-k by omega)];simp
theorem GC(r q:LI)(l:Int)(k:Nat):(Hi r q l k).length=r.length:=by simp [Hi]
def Hj(q:LI):Nat->LI->LI->LI
 | 0,_,out=>out
 | k+1,r,out=>Hj q k (Hi (A0 (X q) r) q (r.getD (k+q.length-1) 0) k) ((A0 (X q) out).set k (r.getD (k+q.length-1) 0))
theorem Bc(a:Int)(q:LI):(A0 a q).length=q.length:=by simp [A0]
theorem Avi{p q:LI}(hq0:q ≠ [])(ht:0<X q):∀ (k:Nat) (r out:LI) (c:Int),0<c->k<=out.length->out.length+q.length=r.length+1->(∀ i,k+q.length-1<=i->r.getD i 0=0)->(∀ i,i<k->out.getD i 0=0) ->
  (∀ x,c*Aa p x=Aa q x*Aa out x+Aa r x) ->
  ∃ c' r',0<c'/\(∀ i,q.length-1<=i->r'.getD i 0=0)/\(Hj q k r out).length=out.length/\∀ x,c'*Aa p x=Aa q x*Aa (Hj q k r out) x+Aa r' x:=by
 have hql:=Am.2 hq0;intro k;induction k with
 | zero =>
  intro r out c hc _ _ hz _ he;exact⟨c,r,hc,fun i hi=>hz i (by omega),rfl,he⟩
 | succ k ih =>
  intro r out c hc hk hl hz hz2 he;simp only[Hj];generalize hlead:r.getD (k+q.length-1) 0=l at *
  have hkr:k+q.length<=(A0 (X q) r).length:=by rw[Bc];omega
  obtain⟨c',r',a1,a2,a3,a4⟩:=ih (Hi (A0 (X q) r) q l k) ((A0 (X q) out).set k l) (X q*c) (Be ht hc) (by rw[A_,Bc];omega) (by rw[A_,Bc,GC,Bc];exact hl)
   (fun i hi=>by
    rw[LB _ _ _ _ _ hkr,AK,Cm];by_cases h1:i=k+q.length-1
    ·subst h1;rw[hlead,if_pos (by omega),show k+q.length-1-k=q.length-1 by omega];unfold X;grind
    ·rw[hz i (by omega),B0 (xs:=q) (show q.length<=i-k by omega)];simp)
   (fun i hi=>by rw[Cy (by omega),AK,hz2 i (by omega),AI])
   (fun x=>by
    rw[Wp _ _ _ _ (by rw[Bc];omega),AK,hz2 k (by omega),Az];have e:=W6 (a:=1) (b := -l) (us:=A0 (X q) r) (bs:=Dn k q) (cs:=Hi (A0 (X q) r) q l k) (fun i=>by rw[LB _ _ _ _ _ hkr,NL];omega) x;rw[e,Az,Ds];have:=he x;grind)
  exact⟨c',r',a1,a2,by rw[a3,A_,Bc],a4⟩
theorem TR{p q:LI}(hq0:q ≠ [])(ht:0<X q)(hl:q.length<=p.length):∃ c' r',0<c'/\(∀ i,q.length-1<=i->r'.getD i 0=0)/\(Hj q (p.length-q.length+1) p (At (p.length-q.length+1) 0)).length=p.length-q.length+1 /\
  ∀ x,c'*Aa p x=Aa q x*Aa (Hj q (p.length-q.length+1) p (At (p.length-q.length+1) 0)) x+Aa r' x:=by
 have hql:=Am.2 hq0;have h:=Avi (p:=p) hq0 ht (p.length-q.length+1) p (At (p.length-q.length+1) 0) 1 (by decide) (by simp) (by simp;omega) (fun i hi=>B0 (by omega)) (fun i _=>DA _ _) (fun x=>by rw[Rz];omega);rw[Fi] at h;exact h
def KX(d:LI):Nat->LI->LI->LI
 | 0,_,out=>out
 | f+1,r,out=>if d.length<=r.length then KX d f (A9l (CD r d (X d) (X r) (r.length-1))) ((A0 (X d) out).set (r.length-d.length) (X r)) else out
theorem Mv{r d:LI}(hd0:d ≠ [])(hl:d.length<=r.length):(A9l (CD r d (X d) (X r) (r.length-1))).length<r.length:=by
 have:=Am.2 hd0;have:=Bp (CD r d (X d) (X r) (r.length-1));rw[El] at this;omega
theorem Avj{p d:LI}(hd0:d ≠ [])(ht:0<X d):∀ (f:Nat) (r out:LI) (c:Int),r.length<=f->0<c->r.length+1<=out.length+d.length->(∀ i,i+d.length<=r.length->out.getD i 0=0) ->
  (∀ x,c*Aa p x=Aa d x*Aa out x+Aa r x) ->
  ∃ c' r',0<c'/\(∀ i,d.length-1<=i->r'.getD i 0=0)/\(KX d f r out).length=out.length/\∀ x,c'*Aa p x=Aa d x*Aa (KX d f r out) x+Aa r' x:=by
 have hdl:=Am.2 hd0;intro f;induction f with
 | zero =>
  intro r out c hf hc _ _ he;exact⟨c,r,hc,fun i hi=>B0 (by omega),rfl,he⟩
 | succ f ih =>
  intro r out c hf hc hl hz he;simp only[KX];split
  ·rename_i hg;have hlen:=Mv hd0 hg;obtain⟨c',r',a1,a2,a3,a4⟩:=ih (A9l (CD r d (X d) (X r) (r.length-1))) ((A0 (X d) out).set (r.length-d.length) (X r)) (X d*c) (by omega) (Be ht hc) (by rw[A_,Bc];omega)
    (fun i hi=>by rw[Cy (by omega),AK,hz i (by omega),AI])
    (fun x=>by
     rw[Wp _ _ _ _ (by rw[Bc];omega),AK,hz _ (by omega),Az,Ei];have e1:Aa (CD r d (X d) (X r) (r.length-1)) x=Aa (CD r d (X d) (X r) r.length) x:=Gu (fun i=>(W4 hd0 hg (AA _ _) i).symm) x;rw[e1,QK hg];have:=he x;grind)
   exact⟨c',r',a1,a2,by rw[a3,A_,Bc],a4⟩
  ·rename_i hg;exact⟨c,r,hc,fun i hi=>B0 (by omega),rfl,he⟩
theorem OF{p d:LI}(hd0:d ≠ [])(ht:0<X d)(hl:d.length<=p.length):∃ c' r',0<c'/\(∀ i,d.length-1<=i->r'.getD i 0=0)/\(KX d p.length p (At (p.length-d.length+1) 0)).length=p.length-d.length+1 /\
  ∀ x,c'*Aa p x=Aa d x*Aa (KX d p.length p (At (p.length-d.length+1) 0)) x+Aa r' x:=by
 have h:=Avj (p:=p) hd0 ht p.length p (At (p.length-d.length+1) 0) 1 (Ap _) (by decide) (by simp;omega) (fun i _=>DA _ _) (fun x=>by rw[Rz];omega);rw[Fi] at h;exact h
theorem Avk{p q:LI}(hq:BZ q)(hq0:q ≠ [])(ht:0<X q)(hl:q.length<=p.length):prim (Hj q (p.length-q.length+1) p (At (p.length-q.length+1) 0))=prim (KX q p.length p (At (p.length-q.length+1) 0)):=by
 obtain⟨c1,r1,a1,a2,_,a4⟩:=TR hq0 ht hl;obtain⟨c2,r2,b1,b2,_,b4⟩:=OF hq0 ht hl;exact RB a1 b1 (RA hq hq0 a4 b4 a2 b2)
theorem YO{p q o r:LI}{c:Int}(hc:0<c)(hp:0<X p)(hq0:q ≠ [])(ht:0<X q)(hl:q.length<=p.length)(ho:o.length=p.length-q.length+1)(h:∀ x,c*Aa p x=Aa q x*Aa o x+Aa r x)(z:∀ i,q.length-1<=i->r.getD i 0=0):0<X o:=by
 have hql:=Am.2 hq0;have ho0:o ≠ []:=by intro h0;rw[h0] at ho;simp at ho
 have h3:=(Pt q o hq0 ho0).1;have hev:∀ x,Aa (A0 c p) x=Aa (DB (BC q o) r) x:=fun x=>by rw[Az,BU,AX];exact h x
 have h4:=Dg hev (p.length-1);rw[AK,Dl,z _ (by omega),show p.length-1=q.length+o.length-2 by omega,h3,BE] at h4;have h5:0<X q*X o:=by
  rw[<- h4,show q.length+o.length-2=p.length-1 by omega];exact Be hc hp
 exact aF h5 ht |> fun h=>h
theorem PU{o:LI}(h:0<X o):0<X (prim o):=by
 have hl:BZ o:=R8 (PR (by unfold X at h;omega));unfold X;rw[Ca,hl,Jc];have hc:0<AQ o:=Jb (by rw[hl];intro h0;rw[h0] at h;simp[X] at h);have hd:=Pq o (o.length-1);rw[Jc] at hd;unfold X at h;rw[<- hd] at h;exact aF h (by omega)
end Go.Ai
namespace Go.Proofs.YtajompaehjkgkaaGreat
open Go.Ai
set_option maxRecDepth 100000
open Classical renaming byContradiction->A4
open Decidable renaming decide->A9i
open Go.Ai.AV renaming agg->o,bool->F,fresh->L,sl->H,tup->Ax
open Go.IntKind renaming i64->O,wrap->I
open Int renaming ediv_nonneg->JI,emod_nonneg->FF,gcd->Dh,mul_comm->AA,mul_ediv_add_emod->G2,mul_ediv_cancel_left->BX,mul_nonneg->A6,natAbs_natCast->BO,neg_tdiv->Ahj,neg_tmod->Ahl,ofNat_dvd_left->G3,tdiv->Av,tdiv_eq_ediv_of_nonneg->BH,tdiv_neg->Ahk,tmod->AC,tmod_eq_emod_of_nonneg->Bu,tmod_neg->Ahm,toNat_natCast->R,zero_mul->CX
open List renaming append_nil->PC,cons_append->Ii,drop_eq_getElem_cons->Df,drop_length->Kf,drop_zero->EZ,eq_nil_of_length_eq_zero->A7,ext_getElem?->Ge,getD_eq_getElem?_getD->Z,getElem?_append_left->AN,getElem?_append_right->AT,getElem?_drop->Bw,getElem?_eq_getElem->Ah,getElem?_map->CL,getElem?_set_ne->FN,getElem?_set_self->Xv,getElem?_take_of_lt->B9,length_append->Bf,length_drop->Es,length_map->N,length_range->BI,length_take->AB,map_append->Ep,mem_map->Ec,mem_of_mem_drop->EV,mem_of_mem_take->C5,mem_range->LO,range->Aq,range_succ->H3,take_of_length_le->Et,take_succ_eq_append_getElem->tA
open Nat renaming eq_zero_or_pos->FJ,gcd->I8,gcd_comm->JL,gcd_rec->Ayl,gcd_zero_right->GP,le_of_dvd->R7,le_refl->Ap,log2->Ck,log2_eq_iff->QX,lt_trichotomy->tD,mod_lt->HR,zero_le->By
theorem YP{n:Nat}:DD n=1↔n=1:=by
 unfold DD;split
 ·omega
 ·rename_i h;constructor
  ·intro h1;have h2:Ck n=0:=by omega
   have:=(QX h).1 h2;omega
  ·rintro rfl;decide
theorem gI{n:Nat}:1<DD n↔1<n:=by
 have h1:=YP (n:=n);have h0:DD n=0↔n=0:=by unfold DD;split <;> omega
 omega
theorem HW(n:Int):(V n).2.length=(M n.natAbs).length:=rfl
theorem qH{rs:List Rn}{n:Nat}(h:n<rs.length):(P rs).drop n=Q (rs.getD n z0)::(P rs).drop (n+1):=by
 rw[Df (by rw[A9z];exact h)];congr 1;rw[<- CO,Z,Ah (by rw[A9z];exact h)];rfl
theorem RC{K:Nat}{p:LI}(h:∀ x∈p,Br K x):Br K ((AQ p:Nat):Int):=by
 by_cases h0:A9l p=[]
 ·rw[Ja.2 (Dd.1 h0)];exact GZ K
 ·have hc:=Jb h0;have:∃ i,p.getD i 0 ≠ 0:=A4 fun hn=>h0 (Dd.2 fun i=>A4 fun hi=>hn ⟨i,hi⟩);obtain⟨i,hi⟩:=this;have hd:=Hz p i;have hf:=Wo h i;unfold Br at *
  rw[BO];have:=R7 (by omega) (G3.1 hd);omega
theorem qI{p:LI}(n:Nat):AQ p∣AQ (p.drop n):=by
 rw[K8];intro i;have:=Hz p (n+i);rw[Z] at this |-;rwa [Bw]
theorem Aco{K:Nat}{rs:List Rn}{z:Rn}(hg:∀ r∈rs,AO K r)(hK:K<1048576)(hN:rs.length<=1048576):∀ n,n<=rs.length ->
  ∃ i',Ar (.loop S8) (L' rs (V (AQ ((P rs).drop n):Nat)) ((n:Int)-1) z) (.exit 0) (L' rs (V (AQ (P rs):Nat)) i' z):=by
 intro n;induction n with
 | zero =>
  intro _;rw[EZ];exact⟨_,Ao (Ava rs _ _ z (by simp)) (by nofun)⟩
 | succ n ih =>
  intro hn;have e0:((n+1:Nat):Int)-1=(n:Int):=by omega
  have e1:I O ((n:Int)-1)=(n:Int)-1:=Bl (by omega) (by omega);have hf:Br K ((AQ ((P rs).drop (n+1)):Nat):Int):=RC fun x hx=>CP hg x (EV hx);have hl:=hf.len;have hb:=Ni (neg:=(V (AQ ((P rs).drop (n+1)):Nat)).1) (xs:=(V (AQ ((P rs).drop (n+1)):Nat)).2) (BR _) (by rw[HW];omega);rw[show v (V (AQ ((P rs).drop (n+1)):Nat)).1 (V (AQ ((P rs).drop (n+1)):Nat)).2=(AQ ((P rs).drop (n+1)):Nat) from A9y _,BO] at hb;rw[e0];by_cases h1:AQ ((P rs).drop (n+1))=1
  ·have hc:AQ (P rs)=1:=by
    have:=qI (p:=P rs) (n+1);rw[h1] at this;exact Nat.dvd_one.1 this
   rw[h1] at hb |-;rw[hc];exact⟨_,Ao (Auz rs _ (n:Nat) z _ (by simp) (by decide) hb) (by nofun)⟩
  ·obtain⟨g1,g2⟩:=Bk hg n;have hgc:=YM (na:=(V (AQ ((P rs).drop (n+1)):Nat)).1) (nb:=(rs.getD n z0).1) (xs:=(V (AQ ((P rs).drop (n+1)):Nat)).2) (ys:=(rs.getD n z0).2) (BR _) g1 (by rw[HW];omega) (by omega);rw[show v (V (AQ ((P rs).drop (n+1)):Nat)).1 (V (AQ ((P rs).drop (n+1)):Nat)).2=(AQ ((P rs).drop (n+1)):Nat) from A9y _,show v (rs.getD n z0).1 (rs.getD n z0).2=Q (rs.getD n z0) from rfl] at hgc;have hstep:(Dh ((AQ ((P rs).drop (n+1)):Nat):Int) (Q (rs.getD n z0)))=AQ ((P rs).drop n):=by
    rw[qH (n:=n) (by omega),AQ,Dh,BO,JL]
   rw[hstep] at hgc;have k1:=Auy rs (V (AQ ((P rs).drop (n+1)):Nat)) (n:Nat) z _ _ (by simp) (by
    rw[bne_iff_ne];have:=YP (n:=AQ ((P rs).drop (n+1)));omega) (by omega) hb (by rw[R];exact hgc)
   rw[e1] at k1;obtain⟨i',h⟩:=ih (by omega);exact⟨i',C1.loop k1 h⟩
theorem XI{K:Nat}{rs:List Rn}(hg:∀ r∈rs,AO K r)(hK:K<1048576)(hN:rs.length<=1048576):RQ 157 [Y pc rs] (Ag (AQ (P rs):Nat)):=by
 obtain⟨i',h⟩:=Aco (z:=z0) hg hK hN rs.length (Ap _);rw[show (P rs).drop rs.length=[] by rw[<- A9z,Kf],show V ((AQ []:Nat):Int)=z0 from rfl] at h;exact Avb rs (V (AQ (P rs):Nat)) z0 i' (by rw[Bl (by omega) (by omega)];exact h)
theorem LC{x g:Int}(hg:0<g)(h:g∣x):Av x g=x / g:=by
 obtain⟨y,rfl⟩:=h;rw[Int.mul_tdiv_cancel_left _ (by omega),BX _ (by omega)]
theorem Er{K:Nat}{rs:List Rn}(hg:∀ r∈rs,AO K r)(hK:K<1048576)(hN:rs.length<=1048576):RQ 115 [Y pc rs] (L 2 (prim (P rs)).length (pk (prim (P rs)))):=by
 have ht:=I_ (fun r h=>(hg r h).mono (show K<=1048576 by omega)) hN;have hfT:∀ x∈A9l (P rs),Br K x:=Hc (CP hg);have gts:=Mr hfT;have hvs:=AJ (A9l (P rs));have hll:=Bp (P rs);rw[A9z] at hll;have hpk:pk (A9l (P rs))=pc ((A9l (P rs)).map V):=rfl;(first|rw[hpk,<- N (f:=V)] at ht|(rw[hpk] at ht;unfold Y at ht;rw[<- N (f:=V)] at ht));have hlm:((A9l (P rs)).map V).length=(A9l (P rs)).length:=N ..;have hc:=XI gts hK (by omega);rw[hvs,W3] at hc;have hfc:Br K ((AQ (P rs):Nat):Int):=RC (CP hg);have hlc:=hfc.len;have hb:=Ni (neg:=(V (AQ (P rs):Nat)).1) (xs:=(V (AQ (P rs):Nat)).2) (BR _) (by rw[HW];omega);rw[show v (V (AQ (P rs):Nat)).1 (V (AQ (P rs):Nat)).2=(AQ (P rs):Nat) from A9y _,BO] at hb;by_cases h1:1<AQ (P rs)
 ·have hgd:∀ t,Q (((A9l (P rs)).map V).getD t z0)=(A9l (P rs)).getD t 0:=fun t=>by rw[<- CO,hvs]
  have key:∀ ts:List Rn,ts.length=(A9l (P rs)).length->(∀ r∈ts,AO K r)->(∀ t,Q (ts.getD t z0)=(A9l (P rs)).getD t 0) ->
    Ar (.loop Sp) (L_ ts.length ts (V (AQ (P rs):Nat)) (ts.length:Nat) 0) (.exit 0) (L_ ts.length ((prim (P rs)).map V) (V (AQ (P rs):Nat)) (ts.length:Nat) (ts.length:Nat)):=by
   intro ts hl gt hv;have hlp:((prim (P rs)).map V).length=ts.length:=by rw[N,Ca,hl]
   have h:=C1.up (prog:=AZ) (c:=Sp) (ex := .exit 0) (fin:=L_ ts.length ((prim (P rs)).map V) (V (AQ (P rs):Nat)) (ts.length:Nat) (ts.length:Nat))
    (fun i=>L_ ts.length (((prim (P rs)).map V).take i++ts.drop i) (V (AQ (P rs):Nat)) (ts.length:Nat) (i:Nat)) ts.length (by nofun) ?_ ?_ 0 (By _)
   ·exact h
   ·intro i hi;have ei:I O ((i:Int)+1)=((i+1:Nat):Int):=by rw[Bl (by omega) (by omega)];omega
    have hlen:(((prim (P rs)).map V).take i++ts.drop i).length=ts.length:=by rw[Bf,AB,Es];omega
    have hget:(((prim (P rs)).map V).take i++ts.drop i).getD i z0=ts.getD i z0:=by
     rw[Z,Z,AT (by rw[AB];omega),AB,Bw];congr 2;omega
    obtain⟨g1,g2⟩:=Bk gt i;have hq:=Po (na:=(ts.getD i z0).1) (nb:=(V (AQ (P rs):Nat)).1) (xs:=(ts.getD i z0).2) (ys:=(V (AQ (P rs):Nat)).2) g1 (BR _) (by rw[show v (V (AQ (P rs):Nat)).1 (V (AQ (P rs):Nat)).2=(AQ (P rs):Nat) from A9y _];omega) (by omega) (by rw[HW];omega);rw[show v (V (AQ (P rs):Nat)).1 (V (AQ (P rs):Nat)).2=(AQ (P rs):Nat) from A9y _,show v (ts.getD i z0).1 (ts.getD i z0).2=Q (ts.getD i z0) from rfl,hv,Dk] at hq;have k:=Avc ts.length (((prim (P rs)).map V).take i++ts.drop i) (V (AQ (P rs):Nat)) (ts.length:Nat) (i:Nat) _ _ (by simp;omega) (by omega) hlen (by rw[R,hget];exact hq);refine k.to rfl ?_;rw[ei,R,LC (by omega) (Hz (P rs) i),<- Jc];congr 1;apply Ge;intro t;have hpi:((prim (P rs)).map V)[i]? = some (V ((prim (P rs)).getD i 0)):=by
     rw[CL,Z,Ah (by (first|rw[N] at hlp|(unfold Y at hlp;rw[N] at hlp));omega)];rfl
    rcases tD t i with g | g | g
    ·rw[FN (by omega),AN (by rw[AB];omega),AN (by rw[AB];omega),B9 g,B9 (by omega)]
    ·subst g;rw[Xv (by omega),AN (by rw[AB];omega),B9 (by omega),hpi]
    ·rw[FN (by omega),AT (by rw[AB];omega),AT (by rw[AB];omega),AB,AB,Bw,Bw];congr 1;omega
   ·rw[Et (by omega),Kf,PC];exact Avd ts.length _ _ (ts.length:Nat) (ts.length:Nat) (by simp)
  have hl:=key _ hlm gts hgd;have h:=pV rs ((A9l (P rs)).map V) _ _ _ _ _ _ _ (by rw[decide_eq_true_eq];have:=(gI (n:=AQ (P rs))).2 h1;omega) ht (uI _) (PO _) hc hb hl;(first|rw[hlm,<- Ca] at h|(unfold Y at h;rw[hlm,<- Ca] at h));exact h
 ·have h:=pW rs ((A9l (P rs)).map V) _ _ (by rw[decide_eq_false_iff_not];have:=(gI (n:=AQ (P rs))).1;omega) ht (uI _) (PO _) hc hb;have hp:prim (P rs)=A9l (P rs):=by
   rcases FJ (AQ (P rs)) with g | g
   ·rw[DG.2 (Ja.1 g),Dd.2 (Ja.1 g)]
   ·exact SN (by omega)
  rw[hp];(first|rw[hlm] at h|(unfold Y at h;rw[hlm] at h));exact h
theorem qJ(rs:List Rn):Q (rs.getD (rs.length-1) z0)=X (P rs):=by unfold X;rw [CO,A9z]
theorem W7{rs:List Rn}(hg:∀ r∈rs,AO 1048576 r)(hN:rs.length<=1048576) : 
  (X (P rs)<0->RQ 155 [Y pc rs] (L 2 rs.length (pk (Ci (P rs)))))/\(¬ X (P rs)<0->RQ 155 [Y pc rs] (Y pc rs)):=by
 by_cases h0:0<rs.length
 ·have e1:I O ((rs.length:Int)-1)=((rs.length-1:Nat):Int):=by rw[Bl (by omega) (by omega)];omega
  obtain⟨g1,g2⟩:=Bk hg (rs.length-1);have hs:=Ng (neg:=(rs.getD (rs.length-1) z0).1) g1 g2;rw[show v (rs.getD (rs.length-1) z0).1 (rs.getD (rs.length-1) z0).2=Q (rs.getD (rs.length-1) z0) from rfl,qJ] at hs;refine⟨fun h => ?_,fun h => ?_⟩
  ·have hn:=KV hg hN;have hpk:pk (Ci (P rs))=pc ((Ci (P rs)).map V):=rfl;have hll:((Ci (P rs)).map V).length=rs.length:=by rw[N,DR,A9z]
   rw[hpk] at hn |-;(first|rw[<- hll] at hn |-|(unfold Y at hn;rw[<- hll] at hn |-));have hn':RQ 117 [Y pc rs] (L 2 ((Ci (P rs)).map V).length (pc ((Ci (P rs)).map V))):=by
    have:=KV hg hN;rw[hll];exact this
   rw[hll];have k:=pX rs ((Ci (P rs)).map V) (BS (X (P rs))) (by simp;omega) (by unfold BS;rw[if_pos h];rfl) (by rw[e1];omega) (by rw[e1,R];exact hs) hn';(first|rw[hll] at k|(unfold Y at k;rw[hll] at k));exact k
  ·exact pY rs (BS (X (P rs))) (by simp;omega) (by unfold BS;rw[if_neg h];split <;> rfl) (by rw[e1];omega) (by rw[e1,R];exact hs)
 ·have hz:rs=[]:=A7 (by omega);subst hz;refine⟨fun h=>absurd h (by decide),fun _=>pZ [] (by decide)⟩
theorem PV{K:Nat}{rs:List Rn}(hg:∀ r∈rs,AO K r)(hK:K+2<=1048576)(hN:rs.length<=1048576):RQ 116 [Y pc rs] (L 2 (As (P rs)).length (pk (As (P rs)))):=by
 have hd:=Hf (fun r h=>(hg r h).mono (show K<=1048576 by omega)) hN;have hle:=GX (P rs) rs.length;have hl:=C1.up (prog:=AZ) (c:=Vq) (ex := .exit 0) (fin:=OC rs (A9r (P rs) rs.length-1) (pc ((Aq (A9r (P rs) rs.length-1)).map fun j=>V (Q (rs.getD (j+1) z0)*((j+1:Nat):Int)))) ((A9r (P rs) rs.length-1+1:Nat):Int))
  (fun i=>OC rs i (pc ((Aq i).map fun j=>V (Q (rs.getD (j+1) z0)*((j+1:Nat):Int)))) ((i+1:Nat):Int)) (A9r (P rs) rs.length-1) (by nofun) ?_ ?_ 0 (By _)
 ·have hfit:∀ r∈(Aq (A9r (P rs) rs.length-1)).map (fun j=>V (Q (rs.getD (j+1) z0)*((j+1:Nat):Int))),AO 1048576 r:=by
   intro r hr;obtain⟨j,hj,rfl⟩:=Ec.1 hr;rw[LO] at hj;have h2:Br 2 ((j+1:Nat):Int):=Pj (by omega);exact (BL ((Bk hg (j+1)).fits.mul h2)).mono (by omega)
  have ht:=I_ hfit (by rw[N,BI];omega);have hlen:((Aq (A9r (P rs) rs.length-1)).map (fun j=>V (Q (rs.getD (j+1) z0)*((j+1:Nat):Int)))).length=A9r (P rs) rs.length-1:=by rw[N,BI]
  have e:A9l (P ((Aq (A9r (P rs) rs.length-1)).map (fun j=>V (Q (rs.getD (j+1) z0)*((j+1:Nat):Int)))))=As (P rs):=by
   unfold As;apply E';intro i;rw[J7,Hg,A9y,CO,A9z];by_cases h1:i<A9r (P rs) rs.length-1
   ·rw[if_pos h1,if_pos (by omega)]
   ·rw[if_neg h1];split
    ·have:Q (rs.getD (i+1) z0)=0:=by rw[<- CO];exact MX (P rs) rs.length (i+1) (by omega) (by omega)
     rw[this,CX]
    ·rfl
  (first|rw[e,hlen] at ht|(rw[e] at ht;unfold Y at ht;rw[hlen] at ht));have hpk:pk (As (P rs))=pc ((As (P rs)).map V):=rfl;(first|rw[hpk,<- N (f:=V)] at ht |-|(rw[hpk] at ht |-;unfold Y at ht;rw[<- N (f:=V)] at ht |-));exact Avg rs _ _ _ _ hl ht
 ·intro i hi;have ei:I O (((i+1:Nat):Int)+1)=((i+1+1:Nat):Int):=by rw[Bl (by omega) (by omega)];omega
  obtain⟨g1,g2⟩:=Bk hg (i+1);have ho:=Ars (n:=((i+1:Nat):Int)) (by omega);have hfi:Br 2 ((i+1:Nat):Int):=Pj (by omega);have hm:=SM (na:=(rs.getD (i+1) z0).1) (nb:=decide (((i+1:Nat):Int)<0)) (xs:=(rs.getD (i+1) z0).2) (ys:=M ((i+1:Nat):Int).natAbs) g1 (BR _) (by have:=hfi.len;omega);rw[F8] at hm;have k:=Ave rs i (pc ((Aq i).map fun j=>V (Q (rs.getD (j+1) z0)*((j+1:Nat):Int)))) ((i+1:Nat):Int) (((A9r (P rs) rs.length:Nat):Int)-1) (Q (rs.getD (i+1) z0)*((i+1:Nat):Int)) (by simp;omega) (by omega) (by omega) hd ho (by rw[R];exact hm);refine k.to rfl ?_;rw[ei];congr 1;rw[H3,Ep,M_];rfl
 ·exact Avf rs _ _ _ _ (by rw[decide_eq_false_iff_not];omega) hd
def TRB:Cw:=TRA
theorem Bn:Ch AZ TRB:=qC
theorem uO{n:Int}{xs:LI}(hu:AP xs)(h0:0<=n)(h:n<=Ab xs):(lz n).length<=xs.length :=
 MZ (by have:=DJ hu;omega)
theorem uP{n:Int}(h:0<=n):Ab (lz n)=n:=by unfold lz;rw [Cx];omega
theorem YQ{na nb:Bool}{xs ys:LI}(hx:AP xs)(hy:AP ys)(h0:v nb ys ≠ 0)(h1:xs.length<1000000)(h2:ys.length<1000000) :
  RQ 138 [o [F na,Y W xs],o [F nb,Y W ys]] (Ax [Ag (Av (v na xs) (v nb ys)),Ag (AC (v na xs) (v nb ys))]):=by
 have cx:=F7 hx;have cy:=F7 hy;have t1:=Bp xs;have t2:=Bp ys;have hX:=AW hx;have hY:0<Ab ys:=by
  have:=AW hy;rcases Int.lt_or_le 0 (Ab ys) with h | h
  ·exact h
  ·have hz:Ab ys=0:=by omega
   exact absurd (by unfold v;rw[hz];cases nb <;> rfl) h0
 have hy0:A9l ys ≠ []:=by
  intro e;have:=Ek ys;rw[e] at this;simp only[Ab] at this;omega
 have hd:=fQ cx cy hy0 (by omega) (by omega);rw[Ek,Ek] at hd;have hq0:0<=Ab xs / Ab ys:=JI hX (by omega);have hq1:Ab xs / Ab ys<=Ab xs:=Int.ediv_le_self _ hX;have hr0:=FF (Ab xs) (show Ab ys ≠ 0 by omega);have hr1:Ab xs % Ab ys<=Ab xs:=by
  have:=G2 (Ab xs) (Ab ys);have:=A6 (show 0<=Ab ys by omega) hq0;omega
 have l1:=uO hx hq0 hq1;have l2:=uO hx hr0 hr1;have m1:=Ga (neg := !(na==nb)) (xs:=lz (Ab xs / Ab ys)) (BR _) (by omega);have m2:=Ga (neg:=na) (xs:=lz (Ab xs % Ab ys)) (BR _) (by omega);have e1:v (!(na==nb)) (lz (Ab xs / Ab ys))=Av (v na xs) (v nb ys):=by
  unfold v;rw[uP hq0,<- BH hX];cases na <;> cases nb <;> simp[Ahj,Ahk]
 have e2:v na (lz (Ab xs % Ab ys))=AC (v na xs) (v nb ys):=by
  unfold v;rw[uP hr0,<- Bu hX];cases na <;> cases nb <;> simp[Ahl,Ahm]
 rw[e1] at m1;rw[e2] at m2;exact Auc na nb xs ys _ _ _ _ (Eh (by omega)) (Eh (by omega)) hd m1 m2
theorem aG(n:Int):AP (V n).2:=BR _
theorem Nm(n:Int):v (V n).1 (V n).2=n:=A9y n
theorem Acp:∀ (n X Y:Nat),Y<=n->(M X).length<1000000->(M Y).length<1000000->Ar (.loop Ro) (L8 (V (X:Nat)) (V (Y:Nat))) (.exit 0) (L8 (V (I8 X Y:Nat)) (V 0)):=by
 intro n;induction n with
 | zero =>
  intro X Y hY _ _;have:Y=0:=by omega
  subst this;rw[GP];exact Ao (YL (V (X:Nat)) (V 0) (by decide) (Gw (neg:=(V 0).1) (xs:=(V 0).2) (aG _) (by decide))) (by nofun)
 | succ n ih =>
  intro X Y hY h1 h2;by_cases h0:Y=0
  ·subst h0;rw[GP];exact Ao (YL (V (X:Nat)) (V 0) (by decide) (Gw (neg:=(V 0).1) (xs:=(V 0).2) (aG _) (by decide))) (by nofun)
  ·have hs:=Gw (neg:=(V (Y:Nat)).1) (xs:=(V (Y:Nat)).2) (BR _) (by rw[HW,BO];omega);have hd:=YQ (na:=(V (X:Nat)).1) (nb:=(V (Y:Nat)).1) (xs:=(V (X:Nat)).2) (ys:=(V (Y:Nat)).2) (BR _) (BR _) (by rw[Nm];omega) (by rw[HW,BO];omega) (by rw[HW,BO];omega);rw[Nm,Nm] at hd;rw[Nm] at hs;have em:AC (X:Int) (Y:Int)=((X % Y:Nat):Int):=by rw[Bu (by omega)];omega
   rw[em] at hd;have k:=Abw (V (X:Nat)) (V (Y:Nat)) _ _ (by rw[A9y,bne_iff_ne];unfold BS; (repeat' split) <;> omega) (by rw[A9y];exact hs) hd
   have hlt:X % Y<Y:=HR _ (by omega);have hle:(M (X % Y)).length<=(M Y).length:=by
    apply MZ;have:=DJ (Cl Y).1;rw[Cx] at this;omega
   have r:=ih Y (X % Y) (by omega) h2 (by omega);rw[JL X Y,Ayl Y X,JL (X % Y) Y];exact C1.loop k r
theorem aH{na nb:Bool}{xs ys:LI}(hx:AP xs)(hy:AP ys)(h1:xs.length<1000000)(h2:ys.length<1000000) :
  RQ 164 [o [F na,Y W xs],o [F nb,Y W ys]] (Ag (Dh (v na xs) (v nb ys):Nat)):=by
 have m1:=Ga (neg:=false) hx (by omega);have m2:=Ga (neg:=false) hy (by omega);have l1:=EG (neg:=na) hx;have l2:=EG (neg:=nb) hy;have e1:v false xs=(((v na xs).natAbs:Nat):Int):=by
  have:=AW hx;unfold v;cases na <;> simp <;> omega
 have e2:v false ys=(((v nb ys).natAbs:Nat):Int):=by
  have:=AW hy;unfold v;cases nb <;> simp <;> omega
 rw[e1] at m1;rw[e2] at m2;exact Aud na nb xs ys _ _ _ _ m1 m2 (Acp _ (v na xs).natAbs (v nb ys).natAbs (Ap _) (by omega) (by omega))
theorem aI(a b:LI):AQ (a++b)=I8 (AQ a) (AQ b):=by
 induction a with
 | nil=>simp[AQ]
 | cons x a ih=>simp only[Ii,AQ,ih,Nat.gcd_assoc]
theorem Uv{rs:List Rn}{i:Nat}(h:i<rs.length):(P rs).take (i+1)=(P rs).take i++[Q (rs.getD i z0)]:=by
 rw[tA (by rw[A9z];exact h)];congr 2;rw[<- CO,Z,Ah (by rw[A9z];exact h)];rfl
theorem gJ{K:Nat}{rs:List Rn}(hg:∀ r∈rs,AO K r)(hK:K<1000000)(hN:rs.length<=1048576):RQ 137 [Y pc rs] (Ag (AQ (P rs):Nat)):=by
 have h:=C1.up (prog:=AZ) (c:=V8) (ex := .exit 0) (fin:=O8 rs (V (AQ (P rs):Nat)) (rs.length:Nat))
  (fun i=>O8 rs (V (AQ ((P rs).take i):Nat)) (i:Nat)) rs.length (by nofun) ?_ ?_ 0 (By _)
 ·exact Aug rs (V (AQ (P rs):Nat)) _ h
 ·intro i hi;have ei:I O ((i:Int)+1)=((i+1:Nat):Int):=by rw[Bl (by omega) (by omega)];omega
  obtain⟨g1,g2⟩:=Bk hg i;have hf:Br K ((AQ ((P rs).take i):Nat):Int):=RC fun x hx=>CP hg x (C5 hx);have hl:=hf.len;have hc:=aH (na:=(V (AQ ((P rs).take i):Nat)).1) (nb:=(rs.getD i z0).1) (xs:=(V (AQ ((P rs).take i):Nat)).2) (ys:=(rs.getD i z0).2) (BR _) g1 (by rw[HW];omega) (by omega);rw[Nm] at hc;have k:=Aue rs (V (AQ ((P rs).take i):Nat)) (i:Nat) _ (by simp;omega) (by omega) (by rw[R];exact hc);refine k.to rfl ?_;rw[ei,Uv hi,aI];congr 2;show ((I8 (((AQ ((P rs).take i):Nat):Int)).natAbs (Q (rs.getD i z0)).natAbs:Nat):Int)=_;rw[BO];simp[AQ]
 ·rw[Et (by rw[A9z];omega)];exact Auf rs _ _ (by simp)
theorem Gz(g:Nat->Int)(i:Nat):pc ((Aq i).map fun j=>V (g j))++([F (A9i (g i<0)),H (M (g i).natAbs).length (W (M (g i).natAbs))]:List AV)=pc ((Aq (i+1)).map fun j=>V (g j)):=by
 rw[NB (fun j=>V (g j)),<- fR];rfl
theorem qK{K:Nat}{x:Int}(h:Br K x)(c:Int):Br K (Av x c):=by
 unfold Br at *
 have:(Av x c).natAbs=x.natAbs / c.natAbs:=Int.natAbs_tdiv x c;have:=Nat.div_le_self x.natAbs c.natAbs;omega
theorem Ib{K:Nat}{rs:List Rn}(hg:∀ r∈rs,AO K r)(hK:K<1000000)(hN:rs.length<=1048576):RQ 86 [Y pc rs] (L 2 (prim (P rs)).length (pk (prim (P rs)))):=by
 have hi:=gJ hg hK hN;have hfc:Br K ((AQ (P rs):Nat):Int):=RC (CP hg);have hlc:=hfc.len;have hs:=Gw (neg:=(V (AQ (P rs):Nat)).1) (xs:=(V (AQ (P rs):Nat)).2) (BR _) (by rw[HW];omega);rw[Nm] at hs;by_cases h0:AQ (P rs)=0
 ·rw[DG.2 (Ja.1 h0)];exact Abx rs _ (by rw[h0];rfl) hi hs
 ·have h:=C1.up (prog:=AZ) (c:=dM) (ex := .exit 0) (fin:=TM rs (V (AQ (P rs):Nat)) rs.length (pc ((Aq rs.length).map fun j=>V (Av (Q (rs.getD j z0)) (AQ (P rs):Nat)))) (rs.length:Nat))
   (fun i=>TM rs (V (AQ (P rs):Nat)) i (pc ((Aq i).map fun j=>V (Av (Q (rs.getD j z0)) (AQ (P rs):Nat)))) (i:Nat)) rs.length (by nofun) ?_ ?_ 0 (By _)
  ·have hgo:∀ r∈(Aq rs.length).map (fun j=>V (Av (Q (rs.getD j z0)) (AQ (P rs):Nat))),AO 1048576 r:=Nc fun j _=>(BL (qK (Bk hg j).fits _)).mono (by omega);have ht:=Fj hgo (by rw[N,BI];exact hN);have e:A9l (P ((Aq rs.length).map (fun j=>V (Av (Q (rs.getD j z0)) (AQ (P rs):Nat)))))=prim (P rs):=by
    rw[<- Cq (P rs)];apply E';intro i;rw[J7,A9y,Jc,<- CO];by_cases h1:i<rs.length
    ·rw[if_pos h1,LC (by omega) (Hz _ _)]
    ·rw[if_neg h1,B0 (by rw[A9z];omega),Int.zero_ediv]
   (first|rw[e,N,BI] at ht|(rw[e] at ht;unfold Y at ht;rw[N,BI] at ht));have hpk:pk (prim (P rs))=pc ((prim (P rs)).map V):=rfl;(first|rw[hpk,<- N (f:=V)] at ht |-|(rw[hpk] at ht |-;unfold Y at ht;rw[<- N (f:=V)] at ht |-));exact Aby rs _ _ _ _ _ (by rw[beq_eq_false_iff_ne];unfold BS; (repeat' split) <;> omega) hi hs h ht
  ·intro i hi2;have ei:I O ((i:Int)+1)=((i+1:Nat):Int):=by rw[Bl (by omega) (by omega)];omega
   obtain⟨g1,g2⟩:=Bk hg i;have hd:=YQ (na:=(rs.getD i z0).1) (nb:=(V (AQ (P rs):Nat)).1) (xs:=(rs.getD i z0).2) (ys:=(V (AQ (P rs):Nat)).2) g1 (BR _) (by rw[Nm];omega) (by omega) (by rw[HW];omega);rw[Nm] at hd;have k:=A2x rs (V (AQ (P rs):Nat)) i (pc ((Aq i).map fun j=>V (Av (Q (rs.getD j z0)) (AQ (P rs):Nat)))) (i:Nat) _ _ (by simp;omega) (by omega) (by omega) (by rw[R];exact hd);refine k.to rfl ?_;rw[ei,<- Gz (fun j=>Av (Q (rs.getD j z0)) (AQ (P rs):Nat)) i];rfl
  ·exact A2y rs _ _ _ _ (by simp)
theorem YR{K:Nat}{rs:List Rn}(hg:∀ r∈rs,AO K r)(hK:K+2<=1000000)(hN:rs.length<=1048576):RQ 122 [Y pc rs] (L 2 (As (P rs)).length (pk (As (P rs)))):=by
 have h:=C1.up (prog:=AZ) (c:=Vx) (ex := .exit 0) (fin:=O9 rs (rs.length-1) (pc ((Aq (rs.length-1)).map fun j=>V (((j+1:Nat):Int)*Q (rs.getD (j+1) z0)))) ((rs.length-1+1:Nat):Int))
  (fun i=>O9 rs i (pc ((Aq i).map fun j=>V (((j+1:Nat):Int)*Q (rs.getD (j+1) z0)))) ((i+1:Nat):Int)) (rs.length-1) (by nofun) ?_ ?_ 0 (By _)
 ·have hgo:∀ r∈(Aq (rs.length-1)).map (fun j=>V (((j+1:Nat):Int)*Q (rs.getD (j+1) z0))),AO 1048576 r:=Nc fun j hj=>by
   have h2:Br 2 ((j+1:Nat):Int):=Pj (by omega);exact (BL (h2.mul (Bk hg (j+1)).fits)).mono (by omega)
  have ht:=Fj hgo (by rw[N,BI];omega);have e:A9l (P ((Aq (rs.length-1)).map (fun j=>V (((j+1:Nat):Int)*Q (rs.getD (j+1) z0)))))=As (P rs):=by
   unfold As;apply E';intro i;rw[J7,Hg,A9y,CO,A9z,AA]
  (first|rw[e,N,BI] at ht|(rw[e] at ht;unfold Y at ht;rw[N,BI] at ht));have hpk:pk (As (P rs))=pc ((As (P rs)).map V):=rfl;(first|rw[hpk,<- N (f:=V)] at ht |-|(rw[hpk] at ht |-;unfold Y at ht;rw[<- N (f:=V)] at ht |-));exact Auj rs _ _ _ _ h ht
 ·intro i hi;have ei:I O (((i+1:Nat):Int)+1)=((i+1+1:Nat):Int):=by rw[Bl (by omega) (by omega)];omega
  obtain⟨g1,g2⟩:=Bk hg (i+1);have ho:=U3 (n:=((i+1:Nat):Int)) (by omega);have hfi:Br 2 ((i+1:Nat):Int):=Pj (by omega);have hm:=O1 (na:=(V ((i+1:Nat):Int)).1) (nb:=(rs.getD (i+1) z0).1) (xs:=(V ((i+1:Nat):Int)).2) (ys:=(rs.getD (i+1) z0).2) (aG _) g1 (by rw[HW];have:=hfi.len;omega);rw[Nm] at hm;have k:=Auh rs i (pc ((Aq i).map fun j=>V (((j+1:Nat):Int)*Q (rs.getD (j+1) z0)))) ((i+1:Nat):Int) (by simp;omega) (by omega) (by omega) ho (by rw[R];exact hm);refine k.to rfl ?_;rw[ei,<- Gz (fun j=>((j+1:Nat):Int)*Q (rs.getD (j+1) z0)) i,R]
 ·exact Aui rs _ _ _ (by rw[decide_eq_false_iff_not];omega)
theorem YS{rs:List Rn}(hg:∀ r∈rs,AO 1048576 r)(hN:rs.length<=1048576):RQ 153 [Y pc rs] (L 2 (A9l (Ci (P rs))).length (pk (A9l (Ci (P rs))))):=by
 have h:=C1.up (prog:=AZ) (c:=VH) (ex := .exit 0) (fin:=OA rs rs.length (pc ((Aq rs.length).map fun j=>V (-Q (rs.getD j z0)))) (rs.length:Nat))
  (fun i=>OA rs i (pc ((Aq i).map fun j=>V (-Q (rs.getD j z0)))) (i:Nat)) rs.length (by nofun) ?_ ?_ 0 (By _)
 ·have hgo:∀ r∈(Aq rs.length).map (fun j=>V (-Q (rs.getD j z0))),AO 1048576 r:=Nc fun j _=>BL (Bk hg j).fits.neg;have ht:=Fj hgo (by rw[N,BI];exact hN);have e:A9l (P ((Aq rs.length).map (fun j=>V (-Q (rs.getD j z0)))))=A9l (Ci (P rs)):=by
   apply E';intro i;rw[J7,A9y,G_,<- CO];split
   ·rfl
   ·rw[B0 (by rw[A9z];omega)];rfl
  (first|rw[e,N,BI] at ht|(rw[e] at ht;unfold Y at ht;rw[N,BI] at ht));have hpk:pk (A9l (Ci (P rs)))=pc ((A9l (Ci (P rs))).map V):=rfl;(first|rw[hpk,<- N (f:=V)] at ht |-|(rw[hpk] at ht |-;unfold Y at ht;rw[<- N (f:=V)] at ht |-));exact Aum rs _ _ _ _ h ht
 ·intro i hi;have ei:I O ((i:Int)+1)=((i+1:Nat):Int):=by rw[Bl (by omega) (by omega)];omega
  obtain⟨g1,g2⟩:=Bk hg i;have k:=Auk rs i (pc ((Aq i).map fun j=>V (-Q (rs.getD j z0)))) (i:Nat) (by simp;omega) (by omega) (by omega) (by rw[R];exact SJ g1 g2);refine k.to rfl ?_;rw[ei,<- Gz (fun j => -Q (rs.getD j z0)) i,R]
 ·exact Aul rs _ _ _ (by simp)
end Go.Proofs.YtajompaehjkgkaaGreat
