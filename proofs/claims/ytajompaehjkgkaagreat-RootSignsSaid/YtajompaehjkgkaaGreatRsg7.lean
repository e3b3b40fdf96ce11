/- Texts of the proof of RootSigns: part 7 of 13. -/
import Derived.Test.YtajompaehjkgkaaGreatRsg6
namespace Go.Proofs.YtajompaehjkgkaaGreat
open Go.Ai
set_option maxRecDepth 100000
open BitVec renaming ofInt->T,or_comm->TL,toNat_and->Nj
open Bool renaming and_false->H9,and_true->K6,eq_iff_iff->ZI,false_eq_true->Ca
open Decidable renaming decide->B
open Go.Ai.AV renaming agg->A6r,bool->A6m,fresh->A6p,int->A6l,sl->A6n,tup->A6t
open Go.Ai.Reg renaming box->A6s,own->A6q,val->A6o
open Go.IntKind renaming bits->Al,i64->R,u32->A5,u64->U,wrap->D
open Int renaming add_comm->J',add_mul->GX,add_mul_ediv_left->SB,add_mul_ediv_right->A5a,add_mul_emod_self_left->TE,add_zero->B2,ediv_emod_unique->Lm,ediv_eq_zero_of_lt->GC,ediv_lt_of_lt_mul->Km,ediv_nonneg->Jn,emod_eq_of_lt->FY,emod_lt_of_pos->El,emod_nonneg->Fy,eq_ofNat_of_zero_le->Md,eq_of_mul_eq_mul_left->Gw,fdiv->d,fdiv_eq_ediv_of_nonneg->t,gcd->CX,le_of_lt->A0,le_refl->Dp,lt_of_lt_of_le->Se,lt_of_mul_lt_mul_left->EU,lt_of_mul_lt_mul_right->E1,mul_add->CE,mul_assoc->A9,mul_comm->A8,mul_ediv_add_emod->Gs,mul_ediv_cancel_left->BP,mul_emod_mul_of_pos->A4y,mul_eq_zero->FJ,mul_le_mul->DR,mul_le_mul_of_nonneg_left->Ag,mul_le_mul_of_nonneg_right->Ae,mul_lt_mul_of_pos_left->Hl,mul_lt_mul_of_pos_right->B0,mul_neg->DZ,mul_nonneg->A3,mul_one->CN,mul_pos->Ba,mul_sub->EG,mul_zero->AC,natAbs->E,natAbs_natCast->BF,natAbs_pow->Np,natCast_emod->Arz,natCast_mul->CZ,neg_tdiv->Aeq,neg_tmod->Aes,not_lt->IX,one_mul->CO,pow_add->BC,pow_mul->iM,pow_succ->Ax,pow_zero->CD,sub_self->Tf,sub_zero->EJ,tdiv->As,tdiv_eq_ediv_of_nonneg->B5,tdiv_neg->Aer,tmod->AA,tmod_eq_emod_of_nonneg->Bl,tmod_neg->Aet,toNat->A,toNat_natCast->F,zero_add->DA,zero_mul->CJ
open List renaming all->qW,drop->g,drop_eq_getElem_cons->CV,drop_length->JC,drop_zero->EP,eq_nil_of_length_eq_zero->A1,getD_eq_getElem?_getD->Z,getElem?_drop->Bn,getElem?_eq_getElem->Af,length->Bk,length_cons->Bq,length_drop->Eh,length_eq_one_iff->A2c,length_map->N,length_nil->Jw,length_pos_iff->Aj,length_range->B6,length_set->AW,map_append->Ef,map_congr_left->F_,map_cons->Cw,map_nil->FK,map_take->R5,mem_append->BR,mem_cons_of_mem->AS,mem_cons_self->AZ,mem_map->DS,mem_singleton->Is,range->Ao,range_succ->Hi,replicate->Ar,replicate_succ->FZ,set_append_right->A4v,set_set->Rz,take->B1,take_length->E3,take_of_length_le->Ei,take_zero->TF
open Nat renaming add_assoc->D6,add_mul->DN,add_zero->FC,and_two_pow_sub_one_eq_mod->TM,gcd->Il,gcd_comm->Jr,gcd_rec->Avs,gcd_zero_right->GB,le_of_dvd->QW,le_of_lt->kO,le_of_not_lt->M',le_refl->An,lt_of_le_of_lt->Dk,lt_of_lt_of_le->EL,lt_or_ge->Ck,mod_lt->H8,mul_assoc->EA,mul_comm->CM,mul_le_mul->Bu,mul_le_mul_left->z,mul_le_mul_right->AD,mul_succ->OZ,mul_zero->ZG,one_mul->EV,pow_le_pow_right->B4,pow_lt_pow_right->PZ,pow_mul->A6e,pow_pos->Cx,sub_self->OY,sub_zero->JH,testBit_and->Avz,testBit_lt_two_pow->cR,zero_add->Ch,zero_le->Bv
open Or renaming inl->tE,inr->Nq
theorem yI{xs:List Int}{d:Int}(hx:AL xs)(hd:0<d/\d<4294967296)(hN:xs.length<=1048576):∀ (i:Nat) (qs:List Int) (r:Int),i<=xs.length->qs.length=xs.length->AL qs->0<=r/\r<d->(∀ t,t<i->qs.getD t 0=0) ->
  ∃ qs' r',W I (.loop Vu) (PV xs d xs.length qs r ((i:Int)-1)) (.exit 0) (PV xs d xs.length qs' r' (-1))/\qs'.length=xs.length/\AL qs'/\(0<=r'/\r'<d)/\d*Ac qs'+r'=d*Ac qs+4294967296^i*r+Ac (xs.take i):=by
 intro i;induction i with
 | zero =>
  intro qs r _ hl hu hr _;refine⟨qs,r,Am (Apx xs d xs.length qs r _ (by simp)) (by nofun),hl,hu,hr,by simp[Ac]⟩
 | succ i ih =>
  intro qs r hi hl hu hr hz;have ei:(((i+1:Nat):Int)-1)=(i:Nat):=by omega
  have ej:D R ((i:Int)-1)=(i:Int)-1:=Bg (by omega) (by omega);have hxi:=AE hx i;have hk:=Apw xs d xs.length qs r (i:Nat) (by simp) (by omega) (by rw[C2 (by omega)];omega) (by omega) hl;rw[ej,F,MA (by omega) hxi,C2 (n:=d) (by omega)] at hk;have hv0:0<=r*4294967296+xs.getD i 0:=by omega
  rw[B5 hv0,Bl hv0] at hk;generalize hv:r*4294967296+xs.getD i 0=v at *
  have hm:=Gs v d;have hm0:=Fy v (show d ≠ 0 by omega);have hm1:=El v hd.1;have hq0:0<=v / d:=Jn hv0 (by omega);have hq1:v / d<4294967296:=by
   apply Km hd.1;have:=Ae (show r<=d-1 by omega) (show (0:Int)<=4294967296 by omega);have:(d-1)*4294967296=4294967296*d-4294967296:=by omega
   omega
  rw[C2 (n:=v / d) (by omega),QR ⟨hq0,hq1⟩] at hk;obtain⟨qs',r',g1,g2,g3,g4,g5⟩:=ih (qs.set i (v / d)) (v % d) (by omega) (by simpa using hl) (Cq hu ⟨hq0,hq1⟩) ⟨hm0,hm1⟩ (fun t ht=>by rw[Co (by omega)];exact hz t (by omega));rw[ei];refine⟨qs',r',W.loop hk g1,g2,g3,g4,?_⟩;rw[g5,DE _ _ _ (by omega),hz i (by omega),DM xs i (by omega),Ax];generalize (4294967296:Int)^i=P at *
  have e2:xs.getD i 0=d*(v / d)+v % d-r*4294967296:=by omega
  rw[e2];grind
theorem WT{xs:List Int}{d:Int}(hx:AL xs)(hd:0<d/\d<4294967296)(hN:xs.length<=1048576):∃ qs r,(qs:List Int).length=xs.length/\AL qs/\(0<=r/\r<d)/\d*Ac qs+r=Ac xs/\H I 187 [sL lm xs,A6l A5 d] (A6t [sL lm qs,A6l A5 r]):=by
 obtain⟨qs,r,h1,h2,h3,h4,h5⟩:=yI hx hd hN xs.length (Ar xs.length 0) 0 (An _) (by simp) (EC _) (by omega) (fun t _=>Dx _ _);refine⟨qs,r,h2,h3,h4,?_,?_⟩
 ·rw[h5,Ez,E3];omega
 ·have h:=Apy xs qs d r (-1) xs.length (by omega) (by
   rw[F,EO,Bg (by omega) (by omega)];exact h1)
  rw[QR (n:=r) (by omega)] at h;unfold sL;rw[h2];exact h
theorem yJ{xs:List Int}{s:Nat}(hx:AL xs)(hs:s<32)(hN:xs.length<1048576):∀ (r i:Nat) (os:List Int),i+r=xs.length->os.length=xs.length+1->AL os->Ac os=2^s*Ac (xs.take i)->os.getD i 0<2^s->(∀ t,i<t->os.getD t 0=0) ->
  ∃ os',W I (.loop Vx) (PW xs (s:Nat) (xs.length+1) os (xs.length:Nat) (i:Nat)) (.exit 0) (PW xs (s:Nat) (xs.length+1) os' (xs.length:Nat) (xs.length:Nat))/\os'.length=xs.length+1/\AL os'/\Ac os'=2^s*Ac xs:=by
 intro r;induction r with
 | zero =>
  intro i os hi hl hu hv _ _;have:i=xs.length:=by omega
  subst this;exact⟨os,Am (Aqa xs _ _ os _ _ (by simp)) (by nofun),hl,hu,by rw[hv,E3]⟩
 | succ r ih =>
  intro i os hi hl hu hv hc hz;have ei:D R ((i:Int)+1)=((i+1:Nat):Int):=by rw[Bg (by omega) (by omega)];omega
  have hxi:=AE hx i;have hoi:=AE hu i;obtain⟨p0,p1,p2,q,q0,q1⟩:=VL hxi hs;have es:(2:Int)^(min (A (D U (s:Int))) (Al .u64))=2^s:=by
   rw[C2 (by omega),F];congr 1;show min s 64=s;omega
  have hk:=Apz xs (s:Nat) (xs.length+1) os (xs.length:Nat) (i:Nat) (by simp;omega) (by omega) (by rw[C2 (by omega)];omega) (by omega) hl (by rw[ei];omega) (by simpa using hl);rw[ei,F,F,C2 (n:=xs.getD i 0) (by omega),es,C2 ⟨p0,p1⟩,XT,DL (xs.getD i 0*2^s),q1] at hk;have hqs:q*2^s<4294967296:=by rw[<- q1];omega
  rw[Aps q0 hqs (by omega) ⟨hoi.1,hc⟩] at hk;have hhi:0<=xs.getD i 0*2^s / 4294967296:=by omega
  have hp2:(2:Int)^s<=4294967296:=by have:=Gv (show s<=32 by omega);rwa [show (2:Int)^32=4294967296 by decide] at this
  rw[QR ⟨hhi,by omega⟩] at hk;have hsum:0<=q*2^s+os.getD i 0/\q*2^s+os.getD i 0<4294967296:=by
   have hq2:0<=q*2^s:=by rw[<- q1];omega
   refine⟨by omega,?_⟩;have e:(4294967296:Int)=2^(32-s)*2^s:=by
    rw[<- BC,show 32-s+s=32 by omega];decide
   rw[e] at hqs |-;have hp:=BG s;have:=E1 hqs (by omega);have:=Ae (show q+1<=2^(32-s) by omega) (show (0:Int)<=2^s by omega);rw[GX,CO] at this;omega
  obtain⟨os',g1,g2,g3,g4⟩:=ih (i+1) ((os.set i (q*2^s+os.getD i 0)).set (i+1) (xs.getD i 0*2^s / 4294967296)) (by omega) (by simpa using hl) (Cq (Cq hu hsum) ⟨hhi,by omega⟩) (by
    rw[DE _ _ _ (by simp;omega),DE _ _ _ (by omega),Co (by omega),hz (i+1) (by omega),hv,DM xs i (by omega),Ax];have e3:xs.getD i 0*2^s=4294967296*(xs.getD i 0*2^s / 4294967296)+q*2^s:=by omega
    generalize (4294967296:Int)^i=P at *
    generalize xs.getD i 0*2^s / 4294967296=H at *
    generalize os.getD i 0=o at *
    generalize q*2^s=Q at *
    have e4:(2:Int)^s*(Ac (xs.take i)+P*xs.getD i 0)=2^s*Ac (xs.take i)+P*(xs.getD i 0*2^s):=by grind
    rw[e4,e3];grind) (by
    rw[show ((os.set i (q*2^s+os.getD i 0)).set (i+1) (xs.getD i 0*2^s / 4294967296)).getD (i+1) 0=xs.getD i 0*2^s / 4294967296 by simp[Z,show i+1<os.length by omega]];exact p2) (fun t ht=>by rw[Co (by omega),Co (by omega)];exact hz t (by omega))
  exact⟨os',W.loop hk g1,g2,g3,g4⟩
theorem QU{xs:List Int}{s:Nat}(hx:AL xs)(hs:s<32)(hN:xs.length<1048576):∃ os,(os:List Int).length=xs.length+1/\AL os/\Ac os=2^s*Ac xs/\H I 189 [sL lm xs,A6l R (s:Nat)] (A6p 1 os.length (lm os)):=by
 obtain⟨os,h1,h2,h3,h4⟩:=yJ hx hs hN xs.length 0 (Ar (xs.length+1) 0) (by omega) (by simp) (EC _) (by rw[Ez];simp[Ac]) (by rw[Dx];exact BG s) (fun t _=>Dx _ _);refine⟨os,h2,h3,h4,?_⟩;have e:D R ((xs.length:Int)+1)=((xs.length+1:Nat):Int):=by rw[Bg (by omega) (by omega)];omega
 have h:=Aqb xs os (s:Nat) (xs.length:Nat) (xs.length:Nat) (xs.length+1) (by rw[e];omega) (by rw[e,F,EO];exact h1);rw[h2];exact h
section
variable {k:Nat} {us vs:List Int} {kq:Nat} {qs:List Int} {s:Int} {j m:Nat}
theorem kW(hl:us.length=k)(hk:k<=1048577)(hj:j+m+2<k)(h:Dig m (Ac vs) (Ac (us.drop j)) (vs.getD (m+1) 0) (vs.getD m 0) (us.getD (j+m+2) 0) (us.getD (j+m+1) 0) (us.getD (j+m) 0)):∀ (f:Nat) (g r:Int),g.toNat<=f ->
  DigI (Ac vs) (Ac (us.drop j)) (vs.getD (m+1) 0) (us.getD (j+m+2) 0*4294967296+us.getD (j+m+1) 0) g r->r<4294967296 ->
  ∃ g' r',W I (.loop HD) (Ej k us vs ((m+2:Nat):Int) (vs.getD (m+1) 0) (vs.getD m 0) kq qs s (j:Nat) g r) (.exit 2) (Ej k us vs ((m+2:Nat):Int) (vs.getD (m+1) 0) (vs.getD m 0) kq qs s (j:Nat) g' r') /\
   (0<=g'/\g'<4294967296)/\Ac (us.drop j)<(g'+1)*Ac vs/\g'*Ac vs<Ac (us.drop j)+Ac vs:=by
 have ht:=h.htop;have hnx:=h.hnxt;have hz:=h.hz;have e1:D R (D R ((j:Int)+((m+2:Nat):Int))-2)=((j+m:Nat):Int):=by
  rw[Bg (n:=(j:Int)+((m+2:Nat):Int)) (by omega) (by omega),Bg (by omega) (by omega)];omega
 intro f;induction f with
 | zero =>
  intro g r hf i hr;have hg:g=0:=by have:=i.g0;omega
  subst hg;have c2:¬ (r*4294967296+us.getD (j+m) 0<0*vs.getD m 0):=by have:=i.r0;omega
  have k5:=XV k us vs ((m+2:Nat):Int) (vs.getD (m+1) 0) (vs.getD m 0) kq qs s (j:Nat) 0 r (by simp) (by
   rw[e1,F,MA ⟨i.r0,hr⟩ hz,C2 (n:=0*vs.getD m 0) (by omega),decide_eq_false_iff_not];omega) (by rw[e1];omega) hl
  exact⟨0,r,Am k5 (by nofun),by omega,i.up,h.out i (by omega) (Nq (by omega))⟩
 | succ f ih =>
  intro g r hf i hr;have hg1:=i.gle;have hg0:=i.g0;have hr0:=i.r0;have hgn:0<=g*vs.getD m 0/\g*vs.getD m 0<18446744073709551616:=by
   have a:=A3 hg0 hnx.1;have b:=DR hg1 (show vs.getD m 0<=4294967295 by omega) hnx.1 (by omega);omega
  have er:D U (r+vs.getD (m+1) 0)=r+vs.getD (m+1) 0:=C2 (by omega);have ecmp:(B (D U (g*vs.getD m 0)>D U ((T (Al .u64) (D U (r*2^(min (A 32) (Al .u64)))) ||| T (Al .u64) (D U (us.getD (A (D R (D R ((j:Int)+((m+2:Nat):Int))-2))) 0))).toNat)):Bool)=decide (r*4294967296+us.getD (j+m) 0<g*vs.getD m 0):=by
   rw[e1,F,MA ⟨hr0,hr⟩ hz,C2 hgn]
  by_cases hc:4294967296<=g\/r*4294967296+us.getD (j+m) 0<g*vs.getD m 0
  ·have i2:=h.step i hc;have hg2:=i2.g0;have eg:D U (g-1)=g-1:=C2 (by omega);by_cases hbig:4294967296<=r+vs.getD (m+1) 0
   ·have hgs:=h.small_g i2 hbig;have hrun:W I HD (Ej k us vs ((m+2:Nat):Int) (vs.getD (m+1) 0) (vs.getD m 0) kq qs s (j:Nat) g r) (.exit 2) (Ej k us vs ((m+2:Nat):Int) (vs.getD (m+1) 0) (vs.getD m 0) kq qs s (j:Nat) (D U (g-1)) (D U (r+vs.getD (m+1) 0))):=by
     by_cases hg:4294967296<=g
     ·exact xX k us vs _ _ _ kq qs s _ g r (by simpa using hg) (by rw[er];simpa using hbig)
     ·exact xZ k us vs _ _ _ kq qs s _ g r (by simp;omega) (by rw[ecmp,decide_eq_true_eq];omega) (by rw[er];simpa using hbig) (by rw[e1];omega) hl
    rw[eg,er] at hrun;exact⟨g-1,_,Am hrun (by nofun),⟨hg2,hgs⟩,i2.up,h.out i2 hgs (tE hbig)⟩
   ·have hrun:W I HD (Ej k us vs ((m+2:Nat):Int) (vs.getD (m+1) 0) (vs.getD m 0) kq qs s (j:Nat) g r) .norm (Ej k us vs ((m+2:Nat):Int) (vs.getD (m+1) 0) (vs.getD m 0) kq qs s (j:Nat) (D U (g-1)) (D U (r+vs.getD (m+1) 0))):=by
     by_cases hg:4294967296<=g
     ·exact xY k us vs _ _ _ kq qs s _ g r (by simpa using hg) (by rw[er,decide_eq_false_iff_not];omega)
     ·exact yA k us vs _ _ _ kq qs s _ g r (by simp;omega) (by rw[ecmp,decide_eq_true_eq];omega) (by rw[er,decide_eq_false_iff_not];omega) (by rw[e1];omega) hl
    rw[eg,er] at hrun;obtain⟨g',r',a1,a2⟩:=ih (g-1) (r+vs.getD (m+1) 0) (by omega) i2 (by omega);exact⟨g',r',W.loop hrun a1,a2⟩
  ·have k5:=XV k us vs ((m+2:Nat):Int) (vs.getD (m+1) 0) (vs.getD m 0) kq qs s (j:Nat) g r (by simp;omega) (by rw[ecmp,decide_eq_false_iff_not];omega) (by rw[e1];omega) hl;exact⟨g,r,Am k5 (by nofun),by omega,i.up,h.out i (by omega) (Nq (by omega))⟩
end
section
variable {k:Nat} {vs:List Int} {t t2:Int} {kq:Nat} {qs:List Int} {s:Int} {j:Nat} {g:Int}
theorem kX(hv:AL vs)(hk:k<=1048577)(hg:0<=g/\g<4294967296)(hj:j+vs.length<=k):∀ (r i:Nat) (us:List Int) (b c:Int),r+i=vs.length->us.length=k->AL us->0<=b/\b<=1->0<=c/\c<4294967296 ->
  W I (.loop O9) (IM k us vs (vs.length:Nat) t t2 kq qs s (j:Nat) g b c (i:Nat)) (.exit 4) (IM k (F6 g vs j r i us b c).1 vs (vs.length:Nat) t t2 kq qs s (j:Nat) g (F6 g vs j r i us b c).2.1 (F6 g vs j r i us b c).2.2 (vs.length:Nat)):=by
 intro r;induction r with
 | zero =>
  intro i us b c hi _ _ _ _;have:i=vs.length:=by omega
  subst this;exact Am (yC k us vs _ t t2 kq qs s _ g b c _ (by simp)) (by nofun)
 | succ r ih =>
  intro i us b c hi hl hu hb hc;have ei:D R ((i:Int)+1)=((i+1:Nat):Int):=by rw[Bg (by omega) (by omega)];omega
  have eij:D R ((i:Int)+(j:Int))=((i+j:Nat):Int):=by rw[Bg (by omega) (by omega)];omega
  have hvi:=AE hv i;have hui:=AE hu (i+j);have hw:=VH hg hvi hc;have hgv:=A3 hg.1 hvi.1;have h1:=yB k us vs (vs.length:Nat) t t2 kq qs s (j:Nat) g b c (i:Nat) (by simp;omega) (by omega) (by rw[eij];omega) hl;rw[eij,ei,F,F,C2 (n:=vs.getD i 0) (by omega),C2 (n:=us.getD (i+j) 0) (by omega),C2 (n:=g*vs.getD i 0) (by omega),C2 hw,XT,Apr,DL (g*vs.getD i 0+c)] at h1;generalize hp:g*vs.getD i 0+c=p at *
  rw[C2 (n:=p % 4294967296) (by omega),B3,B3] at h1;have hstep:F6 g vs j (r+1) i us b c=F6 g vs j r (i+1) (us.set (i+j) ((us.getD (i+j) 0-p % 4294967296-b) % 4294967296)) (if us.getD (i+j) 0-p % 4294967296-b<0 then 1 else 0) (p / 4294967296):=by rw[F6,hp]
  generalize hd:us.getD (i+j) 0-p % 4294967296-b=d at *
  have e1:D A5 (((us.getD (i+j) 0-p % 4294967296) % 18446744073709551616-b) % 18446744073709551616)=d % 4294967296:=by rw[DL];omega
  have e2:((us.getD (i+j) 0-p % 4294967296) % 18446744073709551616-b) % 18446744073709551616 / 9223372036854775808=(if d<0 then 1 else 0):=by split <;> omega
  rw[e1,e2] at h1;rw[hstep];exact W.loop h1 (ih (i+1) _ _ _ (by omega) (by simpa using hl) (Cq hu (by omega)) (by split <;> omega) (by omega))
theorem kY(hv:AL vs)(hk:k<=1048577)(hj:j+vs.length<=k):∀ (r i:Nat) (us:List Int) (c:Int),r+i=vs.length->us.length=k->AL us->0<=c/\c<=1 ->
  W I (.loop QJ) (KU k us vs (vs.length:Nat) t t2 kq qs s (j:Nat) g c (i:Nat)) (.exit 6) (KU k (HQ vs j r i us c).1 vs (vs.length:Nat) t t2 kq qs s (j:Nat) g (HQ vs j r i us c).2 (vs.length:Nat)):=by
 intro r;induction r with
 | zero =>
  intro i us c hi _ _ _;have:i=vs.length:=by omega
  subst this;exact Am (yE k us vs _ t t2 kq qs s _ g c _ (by simp)) (by nofun)
 | succ r ih =>
  intro i us c hi hl hu hc;have ei:D R ((i:Int)+1)=((i+1:Nat):Int):=by rw[Bg (by omega) (by omega)];omega
  have eij:D R ((i:Int)+(j:Int))=((i+j:Nat):Int):=by rw[Bg (by omega) (by omega)];omega
  have hvi:=AE hv i;have hui:=AE hu (i+j);have h1:=yD k us vs (vs.length:Nat) t t2 kq qs s (j:Nat) g c (i:Nat) (by simp;omega) (by rw[eij];omega) hl (by omega);rw[eij,ei,F,F,C2 (n:=vs.getD i 0) (by omega),C2 (n:=us.getD (i+j) 0) (by omega),C2 (n:=us.getD (i+j) 0+vs.getD i 0) (by omega),C2 (n:=us.getD (i+j) 0+vs.getD i 0+c) (by omega),XT,DL] at h1;exact W.loop h1 (ih (i+1) _ _ (by omega) (by simpa using hl) (Cq hu (by omega)) (by omega))
end
theorem Aqf{X c b:Int}(hX:0<=X/\X<4294967296)(hc:0<=c/\c<4294967296)(hb:0<=b/\b<=1) :
  d (D U (D U (D U X-c)-b)) (2^(min (A 63) (Al .u64)))=(if X-c-b<0 then 1 else 0)/\D A5 (D U (D U (D U X-c)-b))=(X-c-b) % 4294967296:=by
 rw[Apr,C2 (n:=X) (by omega),B3,B3,DL];refine⟨?_,by omega⟩;split <;> omega
section
variable {vs:List Int} {m:Nat} {k kq:Nat} {s:Int}
theorem yK(hv:AL vs)(hm:vs.length=m+2)(ht:2147483648<=vs.getD (m+1) 0)(hk:k=kq+vs.length)(hkb:k<=1048577):∀ (i:Nat) (us qs:List Int),i<=kq->us.length=k->AL us->qs.length=kq->AL qs->(∀ t,t<i->qs.getD t 0=0)->Ac (us.drop i)<Ac vs ->
  ∃ us' qs',W I (.loop Mv) (Ht k us vs (vs.length:Nat) (vs.getD (m+1) 0) (vs.getD m 0) kq qs s ((i:Int)-1)) (.exit 0) (Ht k us' vs (vs.length:Nat) (vs.getD (m+1) 0) (vs.getD m 0) kq qs' s (-1)) /\
   us'.length=k/\AL us'/\qs'.length=kq/\AL qs'/\Ac us'<Ac vs/\Ac us=Ac vs*(Ac qs'-Ac qs)+Ac us':=by
 intro i;induction i with
 | zero =>
  intro us qs _ h1 h2 h3 h4 _ h6;exact⟨us,qs,Am (Aqe k us vs _ _ _ kq qs s _ (by simp)) (by nofun),h1,h2,h3,h4,h6,by rw[Tf,AC,DA]⟩
 | succ i ih =>
  intro us qs hi h1 h2 h3 h4 h5 h6;have ei:(((i+1:Nat):Int)-1)=(i:Nat):=by omega
  have ej:D R ((i:Int)-1)=(i:Int)-1:=Bg (by omega) (by omega);have en:D R ((i:Int)+(vs.length:Int))=((i+vs.length:Nat):Int):=by rw[Bg (by omega) (by omega)];omega
  have en1:D R (((i+vs.length:Nat):Int)-1)=((i+m+1:Nat):Int):=by rw[Bg (by omega) (by omega)];omega
  have hD:=sD (us:=us) (vs:=vs) (j:=i) (m:=m) h2 hv hm (by omega) ht h6;have hI:=hD.init;have hr1:=El (us.getD (i+m+2) 0*4294967296+us.getD (i+m+1) 0) (show 0<vs.getD (m+1) 0 by omega);have ht2:=hD.htop;obtain⟨g,r,q1,q2,q3,q4⟩:=kW (k:=k) (kq:=kq) (qs:=qs) (s:=s) h1 hkb (by omega) hD _ _ _ (An _) hI (by omega);rw[<- hm] at q1;have hn0:0<=us.getD (i+m+2) 0*4294967296+us.getD (i+m+1) 0:=by have:=hD.hx;have:=hD.hy;omega
  have hq0:=hI.g0;have hq1:=hI.gle;have hl5:W I (.loop HD) (Ej k us vs (vs.length:Nat) (vs.getD (m+1) 0) (vs.getD m 0) kq qs s (i:Nat) (D U (As (D U ((T (Al .u64) (D U ((D U (us.getD (A (D R ((i:Int)+(vs.length:Int)))) 0))*2^(min (A 32) (Al .u64)))) ||| T (Al .u64) (D U (us.getD (A (D R ((D R ((i:Int)+(vs.length:Int)))-1))) 0))).toNat)) (vs.getD (m+1) 0))) (AA (D U ((T (Al .u64) (D U ((D U (us.getD (A (D R ((i:Int)+(vs.length:Int)))) 0))*2^(min (A 32) (Al .u64)))) ||| T (Al .u64) (D U (us.getD (A (D R ((D R ((i:Int)+(vs.length:Int)))-1))) 0))).toNat)) (vs.getD (m+1) 0))) (.exit 2) (Ej k us vs (vs.length:Nat) (vs.getD (m+1) 0) (vs.getD m 0) kq qs s (i:Nat) g r):=by
   rw[en,en1,F,F,show i+vs.length=i+m+2 by omega,C2 (n:=us.getD (i+m+2) 0) (by have:=hD.hx;omega),MA hD.hx hD.hy,B5 hn0,Bl hn0,C2 ⟨hq0,by omega⟩];exact q1
  have hms:=kX (k:=k) (t:=vs.getD (m+1) 0) (t2:=vs.getD m 0) (kq:=kq) (qs:=qs) (s:=s) (j:=i) (g:=g) hv hkb q2 (by omega) vs.length 0 us 0 0 (by omega) h1 h2 (by omega) (by omega);have hmo:=VI (j:=i) q2 hv vs.length 0 us 0 0 (by omega) (by omega) h2 (by omega) (by omega);have hst:=Te h2 hv (j:=i) (by omega) h6 q2 q3 q4;generalize hM:F6 g vs i vs.length 0 us 0 0=M at *
  obtain⟨m1,m2,m3,m4,_,_⟩:=hmo;obtain⟨d1,d2⟩:=Aqf (AE m2 (i+vs.length)) m4 m3;dsimp only at hst;obtain⟨S1,S2⟩:=hst;have fin:∀ (ws:List Int) (q:Int),StepOk us vs ws i q->(0<=q/\q<4294967296)->W I Mv (Ht k us vs (vs.length:Nat) (vs.getD (m+1) 0) (vs.getD m 0) kq qs s (i:Nat)) .norm (Ht k ws vs (vs.length:Nat) (vs.getD (m+1) 0) (vs.getD m 0) kq (qs.set i q) s ((i:Int)-1)) ->
    ∃ us' qs',W I (.loop Mv) (Ht k us vs (vs.length:Nat) (vs.getD (m+1) 0) (vs.getD m 0) kq qs s (i:Nat)) (.exit 0) (Ht k us' vs (vs.length:Nat) (vs.getD (m+1) 0) (vs.getD m 0) kq qs' s (-1)) /\
   us'.length=k/\AL us'/\qs'.length=kq/\AL qs'/\Ac us'<Ac vs/\Ac us=Ac vs*(Ac qs'-Ac qs)+Ac us':=by
   intro ws q hs hq hrun;obtain⟨us',qs',a1,a2,a3,a4,a5,a6,a7⟩:=ih ws (qs.set i q) (by omega) (by rw[hs.len];exact h1) hs.u32 (by simpa using h3) (Cq h4 hq) (fun t ht=>by rw[Co (by omega)];exact h5 t (by omega)) hs.low;refine⟨us',qs',W.loop hrun a1,a2,a3,a4,a5,a6,?_⟩;have e:=hs.val;rw[DE _ _ _ (by omega),h5 i (by omega),EJ] at a7;generalize (4294967296:Int)^i=P at *
   grind
  rw[ei];by_cases hd:M.1.getD (i+vs.length) 0-M.2.2-M.2.1<0
  ·obtain⟨S2,hg1⟩:=S2 hd;have hu2:AL (M.1.set (i+vs.length) ((M.1.getD (i+vs.length) 0-M.2.2-M.2.1) % 4294967296)):=Cq m2 (by omega);have hab:=kY (k:=k) (t:=vs.getD (m+1) 0) (t2:=vs.getD m 0) (kq:=kq) (qs:=qs) (s:=s) (j:=i) (g:=g-1) hv hkb (by omega) vs.length 0 (M.1.set (i+vs.length) ((M.1.getD (i+vs.length) 0-M.2.2-M.2.1) % 4294967296)) 0 (by omega) (by rw[AW,m1];exact h1) hu2 (by omega);have hao:=VJ (j:=i) hv vs.length 0 (M.1.set (i+vs.length) ((M.1.getD (i+vs.length) 0-M.2.2-M.2.1) % 4294967296)) 0 (by omega) (by rw[AW,m1];omega) hu2 (by omega);obtain⟨b1,b2,b3,_,_⟩:=hao;generalize hB:HQ vs i vs.length 0 (M.1.set (i+vs.length) ((M.1.getD (i+vs.length) 0-M.2.2-M.2.1) % 4294967296)) 0=Bb at *
   have eg:D U (g-1)=g-1:=C2 (by omega);have k1:=Aqc k us vs (vs.length:Nat) (vs.getD (m+1) 0) (vs.getD m 0) kq qs s (i:Nat) M.1 Bb.1 g r M.2.1 M.2.2 Bb.2 (by simp) (by rw[en,F,d1,if_pos hd];rfl) (by rw[en];omega) h1 (by rw[en,en1];omega) (by omega) hl5 hms (by rw[m1];exact h1) (by rw[en,F,d2,eg];exact hab) (by rw[b1,AW,m1];exact h1) (by omega) h3;rw[en,F,eg,F,QR (n:=g-1) (by omega),ej,QR (n:=Bb.2) (by omega),DL] at k1;exact fin _ _ S2 (by omega) k1
  ·have k2:=Aqd k us vs (vs.length:Nat) (vs.getD (m+1) 0) (vs.getD m 0) kq qs s (i:Nat) M.1 g r M.2.1 M.2.2 (by simp) (by rw[en,F,d1,if_neg hd];rfl) (by rw[en];omega) h1 (by rw[en,en1];omega) (by omega) hl5 hms (by rw[m1];exact h1) (by omega) h3;rw[en,F,F,d2,QR (n:=g) q2,ej] at k2;exact fin _ _ (S1 (by omega)) q2 k2
end
def TQB:Cm:=TQA
theorem Dj:BY I TQB:=kV
theorem Aqg(b1 b2 na nb:Bool)(xs ys as1 bs qs rs:List Int)(v w:Int)(n1:H I 143 [A6r [A6m b1,sL lm xs]] (A6t [A6m na,sL lm as1]))(n2:H I 143 [A6r [A6m b2,sL lm ys]] (A6t [A6m nb,sL lm bs]))(n3:H I 180 [sL lm as1,sL lm bs] (A6t [sL lm qs,sL lm rs]))(n4:H I 152 [A6m (!(na==nb)),sL lm qs] (o v))(n5:H I 152 [A6m na,sL lm rs] (o w)):H I 158 [A6r [A6m b1,sL lm xs],A6r [A6m b2,sL lm ys]] (A6t [o v,o w]):=i (fn:=Vi) Dj rfl 400 rfl [.r (A6t [A6m na,sL lm as1]),.r (A6t [A6m nb,sL lm bs]),.r (A6t [sL lm qs,sL lm rs]),.r (o v),.r (o w)] (P n1 (P n2 (P n3 (P n4 (P n5 a0)))))
def NT(xs:List Int)(v:Int)(n:Int)(i:Int):Ak:=(Q 3 (A6o (A6l U v)::(Q 3 (A6o (sL lm xs)::(A6o (A6l R n)::(A6o (A6l R i)::(Q 14 [])))))))
theorem Aqh(xs:List Int)(v:Int)(n:Int)(i:Int)(c1:B (i<n)=true)(n1:0<=i/\i<(xs.length:Int))(n2:¬ (D U (D R (32*i)))<0):W I Vs (NT xs v n i) .norm (NT xs (D U ((T (Al .u64) v ||| T (Al .u64) (D U ((D U (xs.getD (A i) 0))*2^(min (A (D U (D R (32*i)))) (Al .u64))))).toNat)) n (D R (i+1))):=(C Dj 400 [.b true,.v (A6l A5 (xs.getD (A i) 0))] [3,7,8,9] (P c1 (P n1 (P (AM n1) (P n2 a0)))))
theorem Aqi(xs:List Int)(v:Int)(n:Int)(i:Int)(c1:B (i<n)=false):W I Vs (NT xs v n i) (.exit 0) (NT xs v n i):=(C Dj 400 [.b false] [3,7,8,9] (P c1 a0))
theorem Aqj(n:Bool)(xs:List Int)(v i m:Int)(hl1:W I (.loop Vs) (NT xs 0 (xs.length:Int) 0) (.exit 0) (NT xs v m i)):H I 183 [A6r [A6m n,sL lm xs]] (A6l U v):=X (fn:=Vt) (s:=(Q 2 (A6o (A6l U v)::(Q 21 [])))) (ex := .ret) rfl rfl (L (q (W.seq (C Dj 400 [] [3,7,8,9] a0) (W.seq (W.block hl1) (C Dj 400 [] [2] a0))))) (by nofun) rfl
theorem Aqk(n v:Int)(n1:H I 152 [A6m false,A6n 2 [A6l A5 (D A5 n),A6l A5 (D A5 (d n (2^(min (A 32) (Al .u64)))))]] (o v)):H I 181 [A6l U n] (o v):=i (fn:=Vp) Dj rfl 400 rfl [.r (o v)] (P HX (P n1 a0))
def NU(a:Int)(b:Int):Ak:=(A6o (A6l U a)::(A6o (A6l U b)::(Q 10 [])))
theorem Aql(a:Int)(b:Int)(c1:B (b>0)=true)(n1:¬ b=0):W I Vq (NU a b) .norm (NU b (AA a b)):=(C Dj 400 [.b true] [0,1] (P c1 (P n1 a0)))
theorem cO(a:Int)(b:Int)(c1:B (b>0)=false):W I Vq (NU a b) (.exit 0) (NU a b):=(C Dj 400 [.b false] [0,1] (P c1 a0))
theorem Aqm(a b a1 b1:Int)(hl1:W I (.loop Vq) (NU a b) (.exit 0) (NU a1 b1)):H I 182 [A6l U a,A6l U b] (A6l U a1):=X (fn:=Vr) (s:=(Q 4 (A6o (A6l U a1)::(Q 7 [])))) (ex := .ret) rfl rfl (W.seq (C Dj 400 [] [0,1] a0) (W.seq (W.block hl1) (C Dj 400 [] [4] a0))) (by nofun) rfl
def G2(x:Rn)(y:Rn)(z:Rn):Ak:=(Q 4 (A6s [A6m z.1,A6n z.2.length (lm z.2)]::(A6s [A6m x.1,A6n x.2.length (lm x.2)]::(A6s [A6m y.1,A6n y.2.length (lm y.2)]::(Q 35 [])))))
theorem Aqn(x:Rn)(y:Rn)(z:Rn)(ua ub ug g:Int)(c1:B ((y.2.length:Int)>0)=true)(c2:B ((x.2.length:Int)<=2)=true)(c3:B ((y.2.length:Int)<=2)=true)(n1:H I 183 [At x] (A6l U ua))(n2:H I 183 [At y] (A6l U ub))(n3:H I 182 [A6l U ua,A6l U ub] (A6l U ug))(n4:H I 181 [A6l U ug] (o g)):W I Lt (G2 x y z) .ret (G2 x y (cn g)):=(C Dj 400 [.b true,.b true,.b true,.r (A6l U ua),.r (A6l U ub),.r (A6l U ug),.r (o g)] [4,5,6] (P c1 (P c2 (P c3 (P n1 (P n2 (P n3 (P n4 a0))))))))
theorem Aqo(x:Rn)(y:Rn)(z:Rn)(q r:Int)(c1:B ((y.2.length:Int)>0)=true)(c2:B ((x.2.length:Int)<=2)=true)(c3:B ((y.2.length:Int)<=2)=false)(n1:H I 158 [At x,At y] (A6t [o q,o r])):W I Lt (G2 x y z) .norm (G2 y (cn r) z):=(C Dj 400 [.b true,.b true,.b false,.r (A6t [o q,o r])] [4,5,6] (P c1 (P c2 (P c3 (P n1 a0)))))
theorem Aqp(x:Rn)(y:Rn)(z:Rn)(q r:Int)(c1:B ((y.2.length:Int)>0)=true)(c2:B ((x.2.length:Int)<=2)=false)(n1:H I 158 [At x,At y] (A6t [o q,o r])):W I Lt (G2 x y z) .norm (G2 y (cn r) z):=(C Dj 400 [.b true,.b false,.b false,.r (A6t [o q,o r])] [4,5,6] (P c1 (P c2 (P FA (P n1 a0)))))
theorem cP(x:Rn)(y:Rn)(z:Rn)(c1:B ((y.2.length:Int)>0)=false):W I Lt (G2 x y z) (.exit 0) (G2 x y z):=(C Dj 400 [.b false] [4,5,6] (P c1 a0))
theorem kZ(b1 b2:Bool)(xs ys:List Int)(v w:Int)(x y z:Rn)(n1:H I 160 [A6r [A6m b1,sL lm xs]] (o v))(n2:H I 160 [A6r [A6m b2,sL lm ys]] (o w))(hl3:W I (.loop Lt) (G2 (cn v) (cn w) (false,[])) (.exit 0) (G2 x y z)):H I 159 [A6r [A6m b1,sL lm xs],A6r [A6m b2,sL lm ys]] (At x):=X (fn:=RV) (s:=(Q 4 (A6s [A6m x.1,A6n x.2.length (lm x.2)]::(Q 37 [])))) (ex := .ret) rfl rfl (L (W.seq (C Dj 400 [.r (o v),.r (o w)] [4,5,6] (P n1 (P n2 a0))) (W.seq (W.block hl3) (C Dj 400 [] [4] a0)))) (by nofun) rfl
theorem lC(b1 b2:Bool)(xs ys:List Int)(v w:Int)(x y z:Rn)(n1:H I 160 [A6r [A6m b1,sL lm xs]] (o v))(n2:H I 160 [A6r [A6m b2,sL lm ys]] (o w))(hl3:W I (.loop Lt) (G2 (cn v) (cn w) (false,[])) .ret (G2 x y z)):H I 159 [A6r [A6m b1,sL lm xs],A6r [A6m b2,sL lm ys]] (At z):=X (fn:=RV) (s:=(Q 4 (A6s [A6m z.1,A6n z.2.length (lm z.2)]::(A6s [A6m x.1,A6n x.2.length (lm x.2)]::(A6s [A6m y.1,A6n y.2.length (lm y.2)]::(Q 35 [])))))) (ex := .ret) rfl rfl (L (W.seq (C Dj 400 [.r (o v),.r (o w)] [4,5,6] (P n1 (P n2 a0))) (p (DU hl3) (by nofun)))) (by nofun) rfl
def TQC:Cm:=TQB
theorem lD:BY I TQC:=Dj
def I8(g:Nat->Int)(i r:Nat):List Int:=(Ao i).map g++Ar r 0
theorem WU(g:Nat->Int)(i r:Nat):(I8 g i r).length=i+r:=by simp [I8]
theorem lE(g:Nat->Int)(i r:Nat):(I8 g i (r+1)).set i (g i)=I8 g (i+1) r:=by
 simp only[I8,Hi,Ef,Cw,FK];rw[A4v _ _ (by simp)];simp[FZ]
def Dc(us:List Int)(s:Nat)(i:Nat):Int:=us.getD (i+1) 0 % 2^s*2^(32-s)+us.getD i 0 / 2^s
theorem QV{us:List Int}(hu:AL us){s:Nat}(hs:s<32)(i:Nat):(0<=us.getD i 0 / 2^s/\us.getD i 0 / 2^s<2^(32-s))/\0<=us.getD (i+1) 0 % 2^s/\us.getD (i+1) 0 % 2^s*2^(32-s)<4294967296/\(0<=Dc us s i/\Dc us s i<4294967296):=by
 have h0:=AE hu i;have h1:=AE hu (i+1);have hp:=BG s;have hp2:=BG (32-s);have e:=QS (show s<=32 by omega);have a1:=Fy (us.getD (i+1) 0) (show (2:Int)^s ≠ 0 by omega);have a2:=El (us.getD (i+1) 0) hp;have b0:0<=us.getD i 0 / 2^s:=Jn h0.1 (by omega);have b1:us.getD i 0 / 2^s<2^(32-s):=Km hp (by rw[<- e];exact h0.2);unfold Dc;generalize us.getD (i+1) 0 % 2^s=x at *
 generalize us.getD i 0 / 2^s=y at *
 have c1:=Ae (show x+1<=2^s by omega) (show (0:Int)<=2^(32-s) by omega);rw[GX,CO,A8 (2^s),<- e] at c1;have c2:=A3 a1 (show (0:Int)<=2^(32-s) by omega);omega
theorem cQ{us:List Int}(s:Nat)(hs:s<32):∀ n,n<=us.length->2^s*Ac ((Ao n).map (Dc us s))=Ac (us.take n)-us.getD 0 0 % 2^s+4294967296^n*(us.getD n 0 % 2^s):=by
 intro n;induction n with
 | zero =>
  intro _;simp only[List.range_zero,FK,TF,Ac,CD,AC,CO];generalize us.getD 0 0 % 2^s=w;omega
 | succ n ih =>
  intro hn;have e:=QS (show s<=32 by omega);rw[Hi,Ef,Cw,FK,Gk,N,B6,CE,ih (by omega),DM us n (by omega),Ax];have e2:Ac [Dc us s n]=Dc us s n:=by simp[Ac]
  rw[e2];unfold Dc;have e3:=Gs (us.getD n 0) (2^s);generalize us.getD (n+1) 0 % 2^s=x at *
  generalize us.getD n 0 / 2^s=y at *
  generalize us.getD n 0 % 2^s=z at *
  generalize us.getD 0 0 % 2^s=w at *
  generalize us.getD n 0=u at *
  generalize Ac (us.take n)=V at *
  generalize (4294967296:Int)^n=P at *
  rw[e];generalize (2:Int)^(32-s)=T at *
  generalize (2:Int)^s=S at *
  rw[<- e3];grind
theorem lF{us:List Int}{k n kq:Nat}{qs:List Int}{s:Nat}(hu:AL us)(hl:us.length=k)(hn:n<k)(hk:k<=1048577)(hs:s<32) :
  W I (.loop Mu) (Ij k us (n:Nat) kq qs n (Ar n 0) (s:Nat) 0) (.exit 8) (Ij k us (n:Nat) kq qs n ((Ao n).map (Dc us s)) (s:Nat) (n:Nat)):=by
 have h:=W.up (prog:=I) (c:=Mu) (ex := .exit 8) (fin:=Ij k us (n:Nat) kq qs n ((Ao n).map (Dc us s)) (s:Nat) (n:Nat))
  (fun i=>Ij k us (n:Nat) kq qs n (I8 (Dc us s) i (n-i)) (s:Nat) (i:Nat)) n (by nofun) ?_ ?_ 0 (Bv _)
 ·simpa [I8] using h
 ·intro i hi;obtain⟨r,hr⟩:∃ r,n-i=r+1:=⟨n-i-1,by omega⟩;have e2:n-(i+1)=r:=by omega
  have ei:D R ((i:Int)+1)=((i+1:Nat):Int):=by rw[Bg (by omega) (by omega)];omega
  have hlen:(I8 (Dc us s) i (r+1)).length=n:=by rw[WU];omega
  obtain⟨b1,b2,b3,b4⟩:=QV hu hs i;have es:D U (s:Int)=(s:Nat):=C2 (by omega);have em:min (A (s:Int)) (Al .u32)=s:=by rw[F];show min s 32=s;omega
  have hp:=BG s;rw[hr,e2,<- lE];have hget:∀ v:Int,((I8 (Dc us s) i (r+1)).set i v).getD i 0=v:=fun v=>by simp[Z,show i<(I8 (Dc us s) i (r+1)).length by omega]
  have efd:d (us.getD i 0) (2^s)=us.getD i 0 / 2^s:=t _ (by omega);by_cases h0:s=0
  ·subst h0;have k2:=yG k us (n:Nat) kq qs n (I8 (Dc us 0) i (r+1)) ((0:Nat):Int) (i:Nat) (by simp;omega) (by simp) (by omega) hl (by rw[es];omega) (by omega) hlen;rw[ei,F,es,em,efd] at k2;have e5:Dc us 0 i=us.getD i 0 / 2^0:=by simp[Dc,Int.emod_one]
   rw[e5];exact k2
  ·have e32:D U (D R (32-(s:Int)))=((32-s:Nat):Int):=by rw[Bg (by omega) (by omega),C2 (by omega)];omega
   have em2:min (A ((32-s:Nat):Int)) (Al .u32)=32-s:=by rw[F];show min (32-s) 32=32-s;omega
   have k1:=yF k us (n:Nat) kq qs n (I8 (Dc us s) i (r+1)) (s:Int) (i:Nat) (by simp;omega) (by simp;omega) (by omega) hl (by rw[es];omega) (by omega) hlen (by simpa using hlen) (by rw[ei];omega) (by rw[e32];omega);rw[ei,F,F,es,em,e32,em2,efd,hget,Rz,DL (us.getD (i+1) 0*2^(32-s))] at k1;have e6:us.getD (i+1) 0*2^(32-s) % 4294967296=us.getD (i+1) 0 % 2^s*2^(32-s):=by
    rw[QS (show s<=32 by omega),A8 (us.getD (i+1) 0),A4y _ _ (BG (32-s)),A8]
   rw[e6,Aps b2 b3 (by omega) b1] at k1;exact k1
 ·have k3:=yH k us (n:Nat) kq qs n ((Ao n).map (Dc us s)) (s:Nat) (n:Nat) (by simp);simpa [I8] using k3
theorem PX{g:Nat->Int}{n:Nat}(h:∀ i,0<=g i/\g i<4294967296):AL ((Ao n).map g):=fun x hx=>by
 obtain⟨i,_,rfl⟩:=DS.1 hx;exact h i
theorem           WV {xs ys : List Int} (hx :    Fg xs) (hy :    Fg ys) (hy0 : ys ≠ []) (h1 : xs.length < 1048576) (h2 : ys.length < 1048576) : ∃ qs rs,  AL qs /\  AL rs /\ (qs : List Int).length <= 1048576 /\ (rs : List Int).length <= 1048576 /\   Ac qs =   Ac xs /   Ac ys /\   Ac rs =   Ac xs %   Ac ys /\
    H          I 180 [.sl xs.length (lm xs), .sl ys.length (lm ys)] (.tup [.sl qs.length (lm qs), .sl rs.length (lm rs)]) := by
  have hyl :=                  Aj.2 hy0
  have hcmp :=           IL hx hy (by omega)
  have hx0 :=          AT hx.1
  have hyp :=        I3 hy hy0
  by_cases hlt :   Ac xs <   Ac ys
  · refine ⟨[], xs, fun x h => (nomatch h), hx.1, by simp, by omega, ?_, ?_, ?_⟩
    · rw [                    GC hx0 hlt]; rfl
    · rw [               FY hx0 hlt]
    · exact            kS xs ys _ (by unfold   CC; rw [if_pos hlt]; rfl) (    TW xs) (by omega) hcmp
  have hcm : decide (  CC (  Ac xs) (  Ac ys) < 0) = false := by unfold   CC; rw [if_neg hlt]; split <;> rfl
  by_cases hone : ys.length = 1
  · obtain ⟨y, rfl⟩ :=                    A2c.1 hone
    have e1 :   Ac [y] = y := by simp [  Ac]
    rw [e1] at hyp
    have hyb := hy.1 y (by simp)
    obtain ⟨qs, r, q1, q2, q3, q4, q5⟩ :=           WT hx.1 (d := y) ⟨hyp, hyb.2⟩ (by omega)
    have e2 :   Ac [r] = r := by simp [  Ac]
    have hd := (                  Lm hyp (a :=   Ac xs) (r := r) (q :=   Ac qs)).2 ⟨by omega, q3.1, q3.2⟩
    refine ⟨qs, [r], q2, fun x h => by rw [                Is.1 h]; omega, by omega, by simp, by rw [e1]; exact hd.1.symm, by rw [e1, e2]; exact hd.2.symm, ?_⟩
    exact            kT xs [y] qs _ r hcm (by rfl) hcmp (by simp) q5
  · obtain ⟨m, hm⟩ : ∃ m, ys.length = m + 2 := ⟨ys.length - 2, by omega⟩
    have hxl : ys.length <= xs.length := by
      rcases           Ck xs.length ys.length with g | g
      · exact absurd (      I6 hx hy g) hlt
      · exact g
    -- the first limb of y
    have hyt : 0 < ys.getD (m + 1) 0 /\ ys.getD (m + 1) 0 < 4294967296 := by
      have a :=       AE hy.1 (m + 1)
      rcases hy.2 with g | g
      · exact absurd g hy0
      · rw [show ys.length - 1 = m + 1 by omega] at g; omega
    obtain ⟨s, hs, s1, s2, hlz⟩ :=     sE hyt
    obtain ⟨us, u1, u2, u3, hus⟩ :=          QU hx.1 hs h1
    obtain ⟨ws, w1, w2, w3, hws⟩ :=          QU hy.1 hs h2
    have hp :=       BG s
    -- y between powers
    have ysplit :=        Di ys (j := m + 1) (by omega)
    have yd :=       Cy ys (m + 1)
    rw [      DF (xs := ys) (i := m + 1 + 1) (by omega),           AC,           B2] at yd
    rw [yd] at ysplit
    have ylo :=      FS hy.1 (m + 1)
    have ylo0 :=          AT (      DH hy.1 (m + 1))
    have hP :=        Cr (m + 1)
    have hV1 : 2147483648 * 4294967296 ^ (m + 1) <=   Ac ws := by
      rw [w3, ysplit]
      have a :=                             Ae s1 (show (0 : Int) <= 4294967296 ^ (m + 1) by omega)
      have b :=             A3 (show (0 : Int) <= 2 ^ s by omega) ylo0
      have e : 2 ^ s * (  Ac (       B1 (m + 1) ys) + 4294967296 ^ (m + 1) * ys.getD (m + 1) 0) = 2 ^ s *   Ac (       B1 (m + 1) ys) + ys.getD (m + 1) 0 * 2 ^ s * 4294967296 ^ (m + 1) := by grind
      omega
    have hV2 :   Ac ws < 4294967296 ^ (m + 2) := by
      have e9 : (4294967296 : Int) ^ (m + 2) = 4294967296 ^ (m + 1) * 4294967296 :=           Ax _ _
      rw [w3, ysplit]
      have e0 :=   QS (show s <= 32 by omega)
      have a1 : ys.getD (m + 1) 0 + 1 <= 2 ^ (32 - s) := by
        rw [e0] at s2
        have :=                         E1 s2 (by omega)
        omega
      have a2 :=                             Ae a1 (show (0 : Int) <= 2 ^ s * 4294967296 ^ (m + 1) by have :=          Ba hp hP; omega)
      have a3 :=                         Hl ylo hp
      have e1 : (ys.getD (m + 1) 0 + 1) * (2 ^ s * 4294967296 ^ (m + 1)) = 2 ^ s * (4294967296 ^ (m + 1) * ys.getD (m + 1) 0) + 2 ^ s * 4294967296 ^ (m + 1) := by grind
      have e2 : (2 : Int) ^ (32 - s) * (2 ^ s * 4294967296 ^ (m + 1)) = 4294967296 ^ (m + 1) * 4294967296 := by rw [<-            A9, <- e0,           A8]
      rw [         CE]
      omega
    have hdz :=         Jf w2 (n := m + 2) (V := 4294967296 ^ (m + 2)) (         Dp _) hV2
    have hvs :   Ac (ws.take (m + 2)) =   Ac ws := by
      have :=        Di ws (j := m + 2) (by omega)
      rw [hdz,           AC,           B2] at this
      exact this.symm
    have hvl : (ws.take (m + 2)).length = m + 2 := by simp; omega
    have hvu :=       DH w2 (m + 2)
    generalize hvv : ws.take (m + 2) = vs at *
    have hvtop : 2147483648 <= vs.getD (m + 1) 0 := by
      have a :=        Di vs (j := m + 1) (by omega)
      have b :=       Cy vs (m + 1)
      rw [      DF (xs := vs) (i := m + 1 + 1) (by omega),           AC,           B2] at b
      rw [b] at a
      have c :=      FS hvu (m + 1)
      apply         IX.1
      intro h
      have :=                            Ag (show vs.getD (m + 1) 0 + 1 <= 2147483648 by omega) (show (0 : Int) <= 4294967296 ^ (m + 1) by omega)
      rw [         CE,          CN,           A8 _ 2147483648] at this
      omega
    have hini :   Ac (us.drop (xs.length - ys.length + 1)) <   Ac vs := by
      have a :=        Di us (j := xs.length - ys.length + 1) (by omega)
      have b :=          AT (      DH u2 (xs.length - ys.length + 1))
      have c :=      D9 hx.1
      have d :=                         Hl c hp
      have e : (4294967296 : Int) ^ xs.length = 4294967296 ^ (xs.length - ys.length + 1) * 4294967296 ^ (m + 1) := by rw [<-          BC]; congr 1; omega
      have hp2 : (2 : Int) ^ s <= 2147483648 := by
        have :=      Gv (show s <= 31 by omega); rwa [show (2 : Int) ^ 31 = 2147483648 by decide] at this
      have hQ :=        Cr (xs.length - ys.length + 1)
      rw [hvs]
      apply                 Se (b := 2 ^ s * 4294967296 ^ (m + 1))
      · apply                        EU (a := 4294967296 ^ (xs.length - ys.length + 1)) _ (by omega)
        have e2 : (4294967296 : Int) ^ (xs.length - ys.length + 1) * (2 ^ s * 4294967296 ^ (m + 1)) = 2 ^ s * 4294967296 ^ xs.length := by rw [e]; grind
        omega
      · have :=                             Ae hp2 (show (0 : Int) <= 4294967296 ^ (m + 1) by omega)
        omega
    obtain ⟨us', qs, l1, l2, l3, l4, l5, l6, l7⟩ :=           yK (k := xs.length + 1) (kq := xs.length - ys.length + 1) (s := (s : Nat)) hvu hvl hvtop (by omega) (by omega) (xs.length - ys.length + 1) us (            Ar (xs.length - ys.length + 1) 0) (         An _) u1 u2 (by simp) (       EC _) (fun t _ =>         Dx _ _) hini
    have l8 :=            lF (us := us') (k := xs.length + 1) (n := m + 2) (kq := xs.length - ys.length + 1) (qs := qs) l3 l2 (by omega) (by omega) hs
    rw [        Ez,           EJ, u3, hvs, w3] at l7
    rw [hvs] at l6
    -- the remainder
    have hR :   Ac us' = 2 ^ s * (  Ac xs -   Ac ys *   Ac qs) := by rw [         EG]; have : 2 ^ s *   Ac ys *   Ac qs = 2 ^ s * (  Ac ys *   Ac qs) := by grind
                                                                     omega
    have us0 :=          AT l3
    have hR0 : 0 <=   Ac xs -   Ac ys *   Ac qs := by
      apply         IX.1
      intro h
      have :=                            Ag (show   Ac xs -   Ac ys *   Ac qs <= -1 by omega) (show (0 : Int) <= 2 ^ s by omega)
      omega
    have hR1 :   Ac xs -   Ac ys *   Ac qs <   Ac ys := by
      rw [hR, w3] at l6
      exact                        EU l6 (by omega)
    have hrs :   Ac ((        Ao (m + 2)).map (  Dc us' s)) =   Ac xs -   Ac ys *   Ac qs := by
      have a :=      cQ (us := us') s hs (m + 2) (by omega)
      have b : us'.getD 0 0 % 2 ^ s = 0 := by
        have c :=       Cy us' 0
        rw [            EP,           Ch, hR] at c
        have e0 :=   QS (show s <= 32 by omega)
        have : us'.getD 0 0 = 2 ^ s * (  Ac xs -   Ac ys *   Ac qs - 2 ^ (32 - s) *   Ac (us'.drop 1)) := by rw [         EG, <-            A9,           A8 (2 ^ s) (2 ^ (32 - s)), <- e0]; omega
        rw [this]
        exact Int.mul_emod_right _ _
      have dz :=         Jf l3 (n := m + 2) (V :=   Ac ws) (by omega) l6
      have c2 : us'.getD (m + 2) 0 = 0 := by
        have c :=       Cy us' (m + 2)
        rw [dz] at c
        have d1 :=          AT (      EQ l3 (m + 2 + 1))
        have d2 :=       AE l3 (m + 2)
        omega
      have d :=        Di us' (j := m + 2) (by omega)
      rw [dz,           AC,           B2] at d
      rw [b, c2, <- d, hR, Int.zero_emod,           AC,           EJ,           B2] at a
      exact                        Gw (by omega) a
    have hd := (                  Lm hyp (a :=   Ac xs) (r :=   Ac xs -   Ac ys *   Ac qs) (q :=   Ac qs)).2 ⟨by omega, hR0, hR1⟩
    have e1 :           R.wrap (((ys.length : Nat) : Int) - 1) = ((m + 1 : Nat) : Int) := by rw [ Bg (by omega) (by omega)]; omega
    have e2 :           R.wrap (((ys.length : Nat) : Int) - 2) = ((m : Nat) : Int) := by rw [ Bg (by omega) (by omega)]; omega
    have e3 :           R.wrap (((xs.length : Nat) : Int) - ((ys.length : Nat) : Int)) = ((xs.length - ys.length : Nat) : Int) := by rw [ Bg (by omega) (by omega)]; omega
    have e4 :           R.wrap (((xs.length - ys.length : Nat) : Int) + 1) = ((xs.length - ys.length + 1 : Nat) : Int) := by rw [ Bg (by omega) (by omega)]; omega
    have hlv : vs.length = ys.length := by omega
    have hvv2 : ws.take ys.length = vs := by rw [hm]; exact hvv
    have v1 :=       AE hvu (m + 1)
    have v2 :=       AE hvu m
    refine ⟨qs, (        Ao (m + 2)).map (  Dc us' s), l5,        PX (fun i => (     QV l3 hs i).2.2.2), by omega, by simp; omega, hd.1.symm, by rw [hrs]; exact hd.2.symm, ?_⟩
    have hl11 :     W       I (.loop        Mv) (       Ht us.length us vs (vs.length : Nat) (vs.getD (m + 1) 0) (vs.getD m 0) (xs.length - ys.length + 1) (            Ar (xs.length - ys.length + 1) 0) (s : Nat) ((xs.length - ys.length : Nat) : Int)) (.exit 0) (       Ht us.length us' vs (vs.length : Nat) (vs.getD (m + 1) 0) (vs.getD m 0) (xs.length - ys.length + 1) qs (s : Nat) (-1)) := by
      rw [u1]
      refine l1.to ?_ rfl
      congr 1
      omega
    have h :=            kU xs ys us ws us' vs qs ((        Ao (m + 2)).map (  Dc us' s)) _ (s : Nat) (vs.length : Nat) (vs.getD (m + 1) 0) (vs.getD m 0) (-1) us.length (xs.length - ys.length + 1) (m + 2) hcm (by rw [hm, beq_eq_false_iff_ne]; omega) hcmp (by rw [e1]; omega) (by rw [e1,                 F]; exact hlz) (by omega) (by rw [                F]; exact ⟨by omega, by omega,          An _, fun _ => rfl⟩) hus hws (by rw [e3, e4]; omega) (by rw [e1,                 F]; omega) (by rw [e2,                 F]; omega)
      (by
        rw [e1, e2, e3, e4,                 F,                 F,                 F,                 F,       EO,       XM,             EP,           JH, hvv2,   C2 (n := vs.getD (m + 1) 0) (by omega),   C2 (n := vs.getD m 0) (by omega)]
        unfold        Ht at hl11 |-
        unfold sL at hl11 |-; rw [hlv] at hl11 |-
        exact hl11)
      (by omega) (by
        rw [hvl,                 F,       EO, u1]
        exact l8)
    rw [show qs.length = xs.length - ys.length + 1 from l4, show ((        Ao (m + 2)).map (  Dc us' s)).length = m + 2 by simp]
    exact h
def TQD:Cm:=TQC
theorem lH:BY I TQD:=lD
def Dr(neg:Bool)(xs:List Int)(sh:Int)(ms:List Int)(lost:Bool)(i:Int):Ak:=(Q 1 (A6o (A6l R sh)::(A6s [A6m neg,sL lm xs]::(Q 1 (A6s [A6m false,A6n 0 []]::(A6o (sL lm ms)::(A6q 1 0 []::(A6o (A6m lost)::(A6o (A6l R i)::(Q 95 []))))))))))
theorem yL(neg:Bool)(xs:List Int)(sh:Int)(ms:List Int)(lost:Bool)(i:Int)(c1:B (i<(ms.length:Int))=true)(c2:B (i<(D R (As sh 32)))=true)(c3:(lost)=true):W I Gi (Dr neg xs sh ms lost i) .norm (Dr neg xs sh ms true (D R (i+1))):=(C f 400 [.b true,.b true,.b true] [1,2,4,5,6,7,8] (P c1 (P FB (P c2 (P c3 a0)))))
theorem yM(neg:Bool)(xs:List Int)(sh:Int)(ms:List Int)(lost:Bool)(i:Int)(c1:B (i<(ms.length:Int))=true)(c2:B (i<(D R (As sh 32)))=true)(c3:(lost)=false)(n1:0<=i/\i<(ms.length:Int)):W I Gi (Dr neg xs sh ms lost i) .norm (Dr neg xs sh ms ((ms.getD (A i) 0) != 0) (D R (i+1))):=(C f 400 [.b true,.b true,.b false,.v (A6l A5 (ms.getD (A i) 0))] [1,2,4,5,6,7,8] (P c1 (P FB (P c2 (P c3 (P n1 (P (AM n1) a0)))))))
theorem yN(neg:Bool)(xs:List Int)(sh:Int)(ms:List Int)(lost:Bool)(i:Int)(c1:B (i<(ms.length:Int))=true)(c2:B (i<(D R (As sh 32)))=false):W I Gi (Dr neg xs sh ms lost i) (.exit 0) (Dr neg xs sh ms lost i):=(C f 400 [.b true,.b false] [1,2,4,5,6,7,8] (P c1 (P FB (P c2 a0))))
theorem yO(neg:Bool)(xs:List Int)(sh:Int)(ms:List Int)(lost:Bool)(i:Int)(c1:B (i<(ms.length:Int))=false):W I Gi (Dr neg xs sh ms lost i) (.exit 0) (Dr neg xs sh ms lost i):=(C f 400 [.b false,.b false] [1,2,4,5,6,7,8] (P c1 (P FA a0)))
def De(neg:Bool)(xs:List Int)(sh:Int)(ms:List Int)(n:Nat)(cs:List AV)(lost:Bool)(s:Int)(i:Int):Ak:=(Q 1 (A6o (A6l R sh)::(A6s [A6m neg,sL lm xs]::(Q 1 (A6s [A6m false,A6n 0 []]::(A6o (sL lm ms)::(A6q 1 n cs::(A6o (A6m lost)::(Q 1 (A6o (A6l U s)::(A6o (A6l R i)::(Q 93 []))))))))))))
theorem yP(neg:Bool)(xs:List Int)(sh:Int)(ms:List Int)(n:Nat)(cs:List AV)(lost:Bool)(s:Int)(i:Int)(c1:B (i<(ms.length:Int))=true)(c2:B ((D R (i+1))<(ms.length:Int))=true)(n1:0<=i/\i<(ms.length:Int))(n2:0<=(D R (i+1))/\(D R (i+1))<(ms.length:Int))(n3:¬ s<0)(n4:n+1<=35184372088832):W I FF (De neg xs sh ms n cs lost s i) .norm (De neg xs sh ms (n+1) (cs++([A6l A5 (D A5 (d (D U ((T (Al .u64) (D U (ms.getD (A i) 0)) ||| T (Al .u64) (D U ((D U (ms.getD (A (D R (i+1))) 0))*2^(min (A 32) (Al .u64))))).toNat)) (2^(min (A s) (Al .u64)))))]:List AV)) lost s (D R (i+1))):=(C f 400 [.b true,.v (A6l A5 (ms.getD (A i) 0)),.b true,.v (A6l A5 (ms.getD (A (D R (i+1))) 0))] [1,2,4,5,6,7,9,10] (P c1 (P n1 (P (AM n1) (P c2 (P n2 (P (AM n2) (P HX (P n3 (P (show Bk ([A6l A5 (D A5 (d (D U ((T (Al .u64) (D U (ms.getD (A i) 0)) ||| T (Al .u64) (D U ((D U (ms.getD (A (D R (i+1))) 0))*2^(min (A 32) (Al .u64))))).toNat)) (2^(min (A s) (Al .u64)))))]:List AV)=1*1 from rfl) (P n4 a0)))))))))))
theorem yQ(neg:Bool)(xs:List Int)(sh:Int)(ms:List Int)(n:Nat)(cs:List AV)(lost:Bool)(s:Int)(i:Int)(c1:B (i<(ms.length:Int))=true)(c2:B ((D R (i+1))<(ms.length:Int))=false)(n1:0<=i/\i<(ms.length:Int))(n2:¬ s<0)(n3:n+1<=35184372088832):W I FF (De neg xs sh ms n cs lost s i) .norm (De neg xs sh ms (n+1) (cs++([A6l A5 (D A5 (d (D U (ms.getD (A i) 0)) (2^(min (A s) (Al .u64)))))]:List AV)) lost s (D R (i+1))):=(C f 400 [.b true,.v (A6l A5 (ms.getD (A i) 0)),.b false] [1,2,4,5,6,7,9,10] (P c1 (P n1 (P (AM n1) (P c2 (P n2 (P (show Bk ([A6l A5 (D A5 (d (D U (ms.getD (A i) 0)) (2^(min (A s) (Al .u64)))))]:List AV)=1*1 from rfl) (P n3 a0))))))))
theorem XW(neg:Bool)(xs:List Int)(sh:Int)(ms:List Int)(n:Nat)(cs:List AV)(lost:Bool)(s:Int)(i:Int)(c1:B (i<(ms.length:Int))=false):W I FF (De neg xs sh ms n cs lost s i) (.exit 2) (De neg xs sh ms n cs lost s i):=(C f 400 [.b false] [1,2,4,5,6,7,9,10] (P c1 a0))
theorem lI(neg lost:Bool)(xs:List Int)(sh i1:Int)(n:Nat)(cs:List AV)(i2 v w:Int)(c1:(B ((D R (As sh 32))<(((Y xs).length:Nat):Int)))=true)(c2:(lost)=true)(c3:(neg)=true)(n1:H I 99 [sL lm xs] (A6p 1 ((Y xs).length) (lm (Y xs))))(hl2:W I (.loop Gi) (Dr neg xs sh (Y xs) false 0) (.exit 0) (Dr neg xs sh (Y xs) lost i1))(hl3:W I (.loop FF) (De neg xs sh (Y xs) 0 ([]:List AV) lost (D U (AA sh 32)) (D R (As sh 32))) (.exit 2) (De neg xs sh (Y xs) n cs lost (D U (AA sh 32)) i2))(n4:H I 98 [A6m neg,A6n n cs] (C6 v))(n5:H I 49 [A6l R 1] (o 1))(n6:H I 129 [o v,o 1] (o w)):H I 128 [A6r [A6m neg,sL lm xs],A6l R sh] (o w):=X (fn:=Jy) (s:=(Q 4 (A6s [A6m (B (w<0)),A6n ((G (E w)).length) (lm (G (E w)))]::(Q 99 [])))) (ex := .ret) rfl rfl (L (L (L (q (W.seq (C f 400 [.r (A6p 1 ((Y xs).length) (lm (Y xs)))] [1,2,4,5,6,7,8] (P n1 a0)) (W.seq (W.block hl2) (q (W.seq (C f 400 [] [1,2,4,5,6,7,9,10] (P FB (P FB a0))) (W.seq (W.block hl3) (C f 400 [.b true,.b true,.r (C6 v),.b true,.b true,.r (o 1),.r (o w)] [4] (P FB (P c1 (P c2 (P n4 (P c3 (P HY (P n5 (P n6 a0)))))))))))))))))) (by nofun) rfl
theorem lJ(neg lost:Bool)(xs:List Int)(sh i1:Int)(n:Nat)(cs:List AV)(i2 v:Int)(c1:(B ((D R (As sh 32))<(((Y xs).length:Nat):Int)))=true)(c2:(lost)=true)(c3:(neg)=false)(n1:H I 99 [sL lm xs] (A6p 1 ((Y xs).length) (lm (Y xs))))(hl2:W I (.loop Gi) (Dr neg xs sh (Y xs) false 0) (.exit 0) (Dr neg xs sh (Y xs) lost i1))(hl3:W I (.loop FF) (De neg xs sh (Y xs) 0 ([]:List AV) lost (D U (AA sh 32)) (D R (As sh 32))) (.exit 2) (De neg xs sh (Y xs) n cs lost (D U (AA sh 32)) i2))(n4:H I 98 [A6m neg,A6n n cs] (C6 v)):H I 128 [A6r [A6m neg,sL lm xs],A6l R sh] (o v):=X (fn:=Jy) (s:=(Q 4 (A6s [A6m (B (v<0)),A6n ((G (E v)).length) (lm (G (E v)))]::(Q 99 [])))) (ex := .ret) rfl rfl (L (L (L (q (W.seq (C f 400 [.r (A6p 1 ((Y xs).length) (lm (Y xs)))] [1,2,4,5,6,7,8] (P n1 a0)) (W.seq (W.block hl2) (q (W.seq (C f 400 [] [1,2,4,5,6,7,9,10] (P FB (P FB a0))) (W.seq (W.block hl3) (C f 400 [.b true,.b true,.r (C6 v),.b false,.b false] [4] (P FB (P c1 (P c2 (P n4 (P c3 (P FA a0)))))))))))))))) (by nofun) rfl
theorem lL(neg lost:Bool)(xs:List Int)(sh i1:Int)(n:Nat)(cs:List AV)(i2 v w:Int)(c1:(B ((D R (As sh 32))<(((Y xs).length:Nat):Int)))=true)(c2:(lost)=false)(c3:(neg)=true)(c4:((D A5 ((T (Al .u32) ((Y xs).getD (A (D R (As sh 32))) 0) &&& T (Al .u32) (D A5 ((D A5 (1*2^(min (A (D U (AA sh 32))) (Al .u32))))-1))).toNat)) != 0)=true)(n1:H I 99 [sL lm xs] (A6p 1 ((Y xs).length) (lm (Y xs))))(hl2:W I (.loop Gi) (Dr neg xs sh (Y xs) false 0) (.exit 0) (Dr neg xs sh (Y xs) lost i1))(hl3:W I (.loop FF) (De neg xs sh (Y xs) 0 ([]:List AV) lost (D U (AA sh 32)) (D R (As sh 32))) (.exit 2) (De neg xs sh (Y xs) n cs lost (D U (AA sh 32)) i2))(n4:0<=(D R (As sh 32))/\(D R (As sh 32))<(((Y xs).length:Nat):Int))(n5:¬ (D U (AA sh 32))<0)(n6:H I 98 [A6m neg,A6n n cs] (C6 v))(n7:H I 49 [A6l R 1] (o 1))(n8:H I 129 [o v,o 1] (o w)):H I 128 [A6r [A6m neg,sL lm xs],A6l R sh] (o w):=X (fn:=Jy) (s:=(Q 4 (A6s [A6m (B (w<0)),A6n ((G (E w)).length) (lm (G (E w)))]::(Q 99 [])))) (ex := .ret) rfl rfl (L (L (L (q (W.seq (C f 400 [.r (A6p 1 ((Y xs).length) (lm (Y xs)))] [1,2,4,5,6,7,8] (P n1 a0)) (W.seq (W.block hl2) (q (W.seq (C f 400 [] [1,2,4,5,6,7,9,10] (P FB (P FB a0))) (W.seq (W.block hl3) (C f 400 [.b true,.b false,.v (A6l A5 ((Y xs).getD (A (D R (As sh 32))) 0)),.r (C6 v),.b true,.b true,.r (o 1),.r (o w)] [4] (P FB (P c1 (P c2 (P FB (P n4 (P (AM n4) (P n5 (P n6 (P c3 (P c4 (P n7 (P n8 a0)))))))))))))))))))))) (by nofun) rfl
theorem lM(neg lost:Bool)(xs:List Int)(sh i1:Int)(n:Nat)(cs:List AV)(i2 v:Int)(c1:(B ((D R (As sh 32))<(((Y xs).length:Nat):Int)))=true)(c2:(lost)=false)(c3:(neg)=true)(c4:((D A5 ((T (Al .u32) ((Y xs).getD (A (D R (As sh 32))) 0) &&& T (Al .u32) (D A5 ((D A5 (1*2^(min (A (D U (AA sh 32))) (Al .u32))))-1))).toNat)) != 0)=false)(n1:H I 99 [sL lm xs] (A6p 1 ((Y xs).length) (lm (Y xs))))(hl2:W I (.loop Gi) (Dr neg xs sh (Y xs) false 0) (.exit 0) (Dr neg xs sh (Y xs) lost i1))(hl3:W I (.loop FF) (De neg xs sh (Y xs) 0 ([]:List AV) lost (D U (AA sh 32)) (D R (As sh 32))) (.exit 2) (De neg xs sh (Y xs) n cs lost (D U (AA sh 32)) i2))(n4:0<=(D R (As sh 32))/\(D R (As sh 32))<(((Y xs).length:Nat):Int))(n5:¬ (D U (AA sh 32))<0)(n6:H I 98 [A6m neg,A6n n cs] (C6 v)):H I 128 [A6r [A6m neg,sL lm xs],A6l R sh] (o v):=X (fn:=Jy) (s:=(Q 4 (A6s [A6m (B (v<0)),A6n ((G (E v)).length) (lm (G (E v)))]::(Q 99 [])))) (ex := .ret) rfl rfl (L (L (L (q (W.seq (C f 400 [.r (A6p 1 ((Y xs).length) (lm (Y xs)))] [1,2,4,5,6,7,8] (P n1 a0)) (W.seq (W.block hl2) (q (W.seq (C f 400 [] [1,2,4,5,6,7,9,10] (P FB (P FB a0))) (W.seq (W.block hl3) (C f 400 [.b true,.b false,.v (A6l A5 ((Y xs).getD (A (D R (As sh 32))) 0)),.r (C6 v),.b true,.b false] [4] (P FB (P c1 (P c2 (P FB (P n4 (P (AM n4) (P n5 (P n6 (P c3 (P c4 a0)))))))))))))))))))) (by nofun) rfl
theorem lN(neg lost:Bool)(xs:List Int)(sh i1:Int)(n:Nat)(cs:List AV)(i2 v:Int)(c1:(B ((D R (As sh 32))<(((Y xs).length:Nat):Int)))=true)(c2:(lost)=false)(c3:(neg)=false)(n1:H I 99 [sL lm xs] (A6p 1 ((Y xs).length) (lm (Y xs))))(hl2:W I (.loop Gi) (Dr neg xs sh (Y xs) false 0) (.exit 0) (Dr neg xs sh (Y xs) lost i1))(hl3:W I (.loop FF) (De neg xs sh (Y xs) 0 ([]:List AV) lost (D U (AA sh 32)) (D R (As sh 32))) (.exit 2) (De neg xs sh (Y xs) n cs lost (D U (AA sh 32)) i2))(n4:0<=(D R (As sh 32))/\(D R (As sh 32))<(((Y xs).length:Nat):Int))(n5:¬ (D U (AA sh 32))<0)(n6:H I 98 [A6m neg,A6n n cs] (C6 v)):H I 128 [A6r [A6m neg,sL lm xs],A6l R sh] (o v):=X (fn:=Jy) (s:=(Q 4 (A6s [A6m (B (v<0)),A6n ((G (E v)).length) (lm (G (E v)))]::(Q 99 [])))) (ex := .ret) rfl rfl (L (L (L (q (W.seq (C f 400 [.r (A6p 1 ((Y xs).length) (lm (Y xs)))] [1,2,4,5,6,7,8] (P n1 a0)) (W.seq (W.block hl2) (q (W.seq (C f 400 [] [1,2,4,5,6,7,9,10] (P FB (P FB a0))) (W.seq (W.block hl3) (C f 400 [.b true,.b false,.v (A6l A5 ((Y xs).getD (A (D R (As sh 32))) 0)),.r (C6 v),.b false,.b false] [4] (P FB (P c1 (P c2 (P FB (P n4 (P (AM n4) (P n5 (P n6 (P c3 (P FA a0)))))))))))))))))))) (by nofun) rfl
theorem lO(neg lost:Bool)(xs:List Int)(sh i1:Int)(n:Nat)(cs:List AV)(i2 v w:Int)(c1:(B ((D R (As sh 32))<(((Y xs).length:Nat):Int)))=false)(c2:(neg)=true)(c3:(lost)=true)(n1:H I 99 [sL lm xs] (A6p 1 ((Y xs).length) (lm (Y xs))))(hl2:W I (.loop Gi) (Dr neg xs sh (Y xs) false 0) (.exit 0) (Dr neg xs sh (Y xs) lost i1))(hl3:W I (.loop FF) (De neg xs sh (Y xs) 0 ([]:List AV) lost (D U (AA sh 32)) (D R (As sh 32))) (.exit 2) (De neg xs sh (Y xs) n cs lost (D U (AA sh 32)) i2))(n4:H I 98 [A6m neg,A6n n cs] (C6 v))(n5:H I 49 [A6l R 1] (o 1))(n6:H I 129 [o v,o 1] (o w)):H I 128 [A6r [A6m neg,sL lm xs],A6l R sh] (o w):=X (fn:=Jy) (s:=(Q 4 (A6s [A6m (B (w<0)),A6n ((G (E w)).length) (lm (G (E w)))]::(Q 99 [])))) (ex := .ret) rfl rfl (L (L (L (q (W.seq (C f 400 [.r (A6p 1 ((Y xs).length) (lm (Y xs)))] [1,2,4,5,6,7,8] (P n1 a0)) (W.seq (W.block hl2) (q (W.seq (C f 400 [] [1,2,4,5,6,7,9,10] (P FB (P FB a0))) (W.seq (W.block hl3) (C f 400 [.b false,.r (C6 v),.b true,.b true,.r (o 1),.r (o w)] [4] (P FB (P c1 (P n4 (P c2 (P c3 (P n5 (P n6 a0))))))))))))))))) (by nofun) rfl
theorem lP(neg lost:Bool)(xs:List Int)(sh i1:Int)(n:Nat)(cs:List AV)(i2 v:Int)(c1:(B ((D R (As sh 32))<(((Y xs).length:Nat):Int)))=false)(c2:(neg)=true)(c3:(lost)=false)(n1:H I 99 [sL lm xs] (A6p 1 ((Y xs).length) (lm (Y xs))))(hl2:W I (.loop Gi) (Dr neg xs sh (Y xs) false 0) (.exit 0) (Dr neg xs sh (Y xs) lost i1))(hl3:W I (.loop FF) (De neg xs sh (Y xs) 0 ([]:List AV) lost (D U (AA sh 32)) (D R (As sh 32))) (.exit 2) (De neg xs sh (Y xs) n cs lost (D U (AA sh 32)) i2))(n4:H I 98 [A6m neg,A6n n cs] (C6 v)):H I 128 [A6r [A6m neg,sL lm xs],A6l R sh] (o v):=X (fn:=Jy) (s:=(Q 4 (A6s [A6m (B (v<0)),A6n ((G (E v)).length) (lm (G (E v)))]::(Q 99 [])))) (ex := .ret) rfl rfl (L (L (L (q (W.seq (C f 400 [.r (A6p 1 ((Y xs).length) (lm (Y xs)))] [1,2,4,5,6,7,8] (P n1 a0)) (W.seq (W.block hl2) (q (W.seq (C f 400 [] [1,2,4,5,6,7,9,10] (P FB (P FB a0))) (W.seq (W.block hl3) (C f 400 [.b false,.r (C6 v),.b true,.b false] [4] (P FB (P c1 (P n4 (P c2 (P c3 a0))))))))))))))) (by nofun) rfl
theorem lQ(neg lost:Bool)(xs:List Int)(sh i1:Int)(n:Nat)(cs:List AV)(i2 v:Int)(c1:(B ((D R (As sh 32))<(((Y xs).length:Nat):Int)))=false)(c2:(neg)=false)(n1:H I 99 [sL lm xs] (A6p 1 ((Y xs).length) (lm (Y xs))))(hl2:W I (.loop Gi) (Dr neg xs sh (Y xs) false 0) (.exit 0) (Dr neg xs sh (Y xs) lost i1))(hl3:W I (.loop FF) (De neg xs sh (Y xs) 0 ([]:List AV) lost (D U (AA sh 32)) (D R (As sh 32))) (.exit 2) (De neg xs sh (Y xs) n cs lost (D U (AA sh 32)) i2))(n4:H I 98 [A6m neg,A6n n cs] (C6 v)):H I 128 [A6r [A6m neg,sL lm xs],A6l R sh] (o v):=X (fn:=Jy) (s:=(Q 4 (A6s [A6m (B (v<0)),A6n ((G (E v)).length) (lm (G (E v)))]::(Q 99 [])))) (ex := .ret) rfl rfl (L (L (L (q (W.seq (C f 400 [.r (A6p 1 ((Y xs).length) (lm (Y xs)))] [1,2,4,5,6,7,8] (P n1 a0)) (W.seq (W.block hl2) (q (W.seq (C f 400 [] [1,2,4,5,6,7,9,10] (P FB (P FB a0))) (W.seq (W.block hl3) (C f 400 [.b false,.r (C6 v),.b false,.b false] [4] (P FB (P c1 (P n4 (P c2 (P FA a0))))))))))))))) (by nofun) rfl
def MC(xs:List Int)(ys:List Int)(k:Nat)(qs:List Int)(r:Int)(i:Int):Ak:=(A6o (sL lm xs)::(A6o (sL lm ys)::(Q 2 (A6q 1 0 []::(A6q 1 0 []::(A6q 1 k (lm qs)::(A6o (A6l U r)::(A6o (A6l R i)::(Q 298 [])))))))))
theorem yR(xs:List Int)(ys:List Int)(k:Nat)(qs:List Int)(r:Int)(i:Int)(c1:B (i>=0)=true)(n1:0<=i/\i<(xs.length:Int))(n2:0<=(0:Int)/\(0:Int)<(ys.length:Int))(n3:¬ (D U (ys.getD (A 0) 0))=0)(n4:0<=i/\i<(k:Int))(n5:qs.length=k):W I QH (MC xs ys k qs r i) .norm (MC xs ys k (qs.set (A i) (D A5 (D U (As (D U ((T (Al .u64) (D U (r*2^(min (A 32) (Al .u64)))) ||| T (Al .u64) (D U (xs.getD (A i) 0))).toNat)) (D U (ys.getD (A 0) 0)))))) (AA (D U ((T (Al .u64) (D U (r*2^(min (A 32) (Al .u64)))) ||| T (Al .u64) (D U (xs.getD (A i) 0))).toNat)) (D U (ys.getD (A 0) 0))) (D R (i-1))):=(C f 400 [.b true,.v (A6l A5 (xs.getD (A i) 0)),.v (A6l A5 (ys.getD (A 0) 0)),.l (lm (qs.set (A i) (D A5 (D U (As (D U ((T (Al .u64) (D U (r*2^(min (A 32) (Al .u64)))) ||| T (Al .u64) (D U (xs.getD (A i) 0))).toNat)) (D U (ys.getD (A 0) 0))))))),.v (A6l A5 (ys.getD (A 0) 0))] [0,1,4,5,6,7,8] (P c1 (P HX (P n1 (P (AM n1) (P n2 (P (AM n2) (P n3 (P n4 (P (show Cu (lm qs) (A i*1) [A6l A5 (D A5 (D U (As (D U ((T (Al .u64) (D U (r*2^(min (A 32) (Al .u64)))) ||| T (Al .u64) (D U (xs.getD (A i) 0))).toNat)) (D U (ys.getD (A 0) 0)))))]=some (lm (qs.set (A i) (D A5 (D U (As (D U ((T (Al .u64) (D U (r*2^(min (A 32) (Al .u64)))) ||| T (Al .u64) (D U (xs.getD (A i) 0))).toNat)) (D U (ys.getD (A 0) 0))))))) from (CQ n5 n4)) (P n2 (P (AM n2) (P n3 a0)))))))))))))
theorem yS(xs:List Int)(ys:List Int)(k:Nat)(qs:List Int)(r:Int)(i:Int)(c1:B (i>=0)=false):W I QH (MC xs ys k qs r i) (.exit 0) (MC xs ys k qs r i):=(C f 400 [.b false] [0,1,4,5,6,7,8] (P c1 a0))
def KV(xs:List Int)(ys:List Int)(s:Int):Ak:=(A6o (sL lm xs)::(A6o (sL lm ys)::(Q 2 (A6q 1 0 []::(A6q 1 0 []::(Q 3 (A6o (A6l R s)::(Q 297 []))))))))
theorem yT(xs:List Int)(ys:List Int)(s:Int)(c1:((D A5 ((T (Al .u32) (D A5 ((ys.getD (A (D R ((ys.length:Int)-1))) 0)*2^(min (A (D U s)) (Al .u32)))) &&& T (Al .u32) 2147483648).toNat))==0)=true)(n1:0<=(D R ((ys.length:Int)-1))/\(D R ((ys.length:Int)-1))<(ys.length:Int))(n2:¬ (D U s)<0):W I QG (KV xs ys s) .norm (KV xs ys (D R (s+1))):=(C f 400 [.v (A6l A5 (ys.getD (A (D R ((ys.length:Int)-1))) 0)),.b true] [0,1,4,5,9] (P n1 (P (AM n1) (P n2 (P c1 a0)))))
theorem yU(xs:List Int)(ys:List Int)(s:Int)(c1:((D A5 ((T (Al .u32) (D A5 ((ys.getD (A (D R ((ys.length:Int)-1))) 0)*2^(min (A (D U s)) (Al .u32)))) &&& T (Al .u32) 2147483648).toNat))==0)=false)(n1:0<=(D R ((ys.length:Int)-1))/\(D R ((ys.length:Int)-1))<(ys.length:Int))(n2:¬ (D U s)<0):W I QG (KV xs ys s) (.exit 2) (KV xs ys s):=(C f 400 [.v (A6l A5 (ys.getD (A (D R ((ys.length:Int)-1))) 0)),.b false] [0,1,4,5,9] (P n1 (P (AM n1) (P n2 (P c1 a0)))))
def Ek(k:Nat)(us:List Int)(vs:List Int)(n:Int)(kq:Nat)(qs:List Int)(s:Int)(j:Int)(g:Int)(r:Int):Ak:=(Q 4 (A6q 1 0 []::(A6q 1 0 []::(Q 3 (A6o (A6l R s)::(A6o (sL lm vs)::(A6q 1 k (lm us)::(A6o (A6l R n)::(A6q 1 kq (lm qs)::(A6o (A6l R j)::(Q 1 (A6o (A6l U g)::(A6o (A6l U r)::(Q 289 []))))))))))))))
theorem yV(k:Nat)(us:List Int)(vs:List Int)(n:Int)(kq:Nat)(qs:List Int)(s:Int)(j:Int)(g:Int)(r:Int)(c1:B (g>=4294967296)=true)(c2:(B ((D U (r+(D U (vs.getD (A (D R (n-1))) 0))))>=4294967296))=true)(n1:0<=(D R (n-1))/\(D R (n-1))<(vs.length:Int)):W I HC (Ek k us vs n kq qs s j g r) (.exit 6) (Ek k us vs n kq qs s j (D U (g-1)) (D U (r+(D U (vs.getD (A (D R (n-1))) 0))))):=(C f 400 [.b true,.b true,.v (A6l A5 (vs.getD (A (D R (n-1))) 0)),.b true] [4,5,9,10,11,12,13,14,16,17] (P c1 (P HY (P n1 (P (AM n1) (P c2 a0))))))
theorem yW(k:Nat)(us:List Int)(vs:List Int)(n:Int)(kq:Nat)(qs:List Int)(s:Int)(j:Int)(g:Int)(r:Int)(c1:B (g>=4294967296)=true)(c2:(B ((D U (r+(D U (vs.getD (A (D R (n-1))) 0))))>=4294967296))=false)(n1:0<=(D R (n-1))/\(D R (n-1))<(vs.length:Int)):W I HC (Ek k us vs n kq qs s j g r) .norm (Ek k us vs n kq qs s j (D U (g-1)) (D U (r+(D U (vs.getD (A (D R (n-1))) 0))))):=(C f 400 [.b true,.b true,.v (A6l A5 (vs.getD (A (D R (n-1))) 0)),.b false] [4,5,9,10,11,12,13,14,16,17] (P c1 (P HY (P n1 (P (AM n1) (P c2 a0))))))
theorem yX(k:Nat)(us:List Int)(vs:List Int)(n:Int)(kq:Nat)(qs:List Int)(s:Int)(j:Int)(g:Int)(r:Int)(c1:B (g>=4294967296)=false)(c2:B (r<4294967296)=true)(c3:(B ((D U (g*(D U (vs.getD (A (D R (n-2))) 0))))>(D U ((T (Al .u64) (D U (r*2^(min (A 32) (Al .u64)))) ||| T (Al .u64) (D U (us.getD (A (D R ((D R (j+n))-2))) 0))).toNat))))=true)(c4:(B ((D U (r+(D U (vs.getD (A (D R (n-1))) 0))))>=4294967296))=true)(n1:0<=(D R (n-2))/\(D R (n-2))<(vs.length:Int))(n2:0<=(D R ((D R (j+n))-2))/\(D R ((D R (j+n))-2))<(k:Int))(n3:us.length=k)(n4:0<=(D R (n-1))/\(D R (n-1))<(vs.length:Int)):W I HC (Ek k us vs n kq qs s j g r) (.exit 6) (Ek k us vs n kq qs s j (D U (g-1)) (D U (r+(D U (vs.getD (A (D R (n-1))) 0))))):=(C f 400 [.b false,.b true,.v (A6l A5 (vs.getD (A (D R (n-2))) 0)),.v (A6l A5 (us.getD (A (D R ((D R (j+n))-2))) 0)),.b false,.b true,.b true,.v (A6l A5 (vs.getD (A (D R (n-1))) 0)),.b true] [4,5,9,10,11,12,13,14,16,17] (P c1 (P c2 (P n1 (P (AM n1) (P HX (P n2 (P (Ce n3 n2) (P c1 (P c2 (P c3 (P n4 (P (AM n4) (P c4 a0))))))))))))))
theorem yY(k:Nat)(us:List Int)(vs:List Int)(n:Int)(kq:Nat)(qs:List Int)(s:Int)(j:Int)(g:Int)(r:Int)(c1:B (g>=4294967296)=false)(c2:B (r<4294967296)=true)(c3:(B ((D U (g*(D U (vs.getD (A (D R (n-2))) 0))))>(D U ((T (Al .u64) (D U (r*2^(min (A 32) (Al .u64)))) ||| T (Al .u64) (D U (us.getD (A (D R ((D R (j+n))-2))) 0))).toNat))))=true)(c4:(B ((D U (r+(D U (vs.getD (A (D R (n-1))) 0))))>=4294967296))=false)(n1:0<=(D R (n-2))/\(D R (n-2))<(vs.length:Int))(n2:0<=(D R ((D R (j+n))-2))/\(D R ((D R (j+n))-2))<(k:Int))(n3:us.length=k)(n4:0<=(D R (n-1))/\(D R (n-1))<(vs.length:Int)):W I HC (Ek k us vs n kq qs s j g r) .norm (Ek k us vs n kq qs s j (D U (g-1)) (D U (r+(D U (vs.getD (A (D R (n-1))) 0))))):=(C f 400 [.b false,.b true,.v (A6l A5 (vs.getD (A (D R (n-2))) 0)),.v (A6l A5 (us.getD (A (D R ((D R (j+n))-2))) 0)),.b false,.b true,.b true,.v (A6l A5 (vs.getD (A (D R (n-1))) 0)),.b false] [4,5,9,10,11,12,13,14,16,17] (P c1 (P c2 (P n1 (P (AM n1) (P HX (P n2 (P (Ce n3 n2) (P c1 (P c2 (P c3 (P n4 (P (AM n4) (P c4 a0))))))))))))))
theorem XX(k:Nat)(us:List Int)(vs:List Int)(n:Int)(kq:Nat)(qs:List Int)(s:Int)(j:Int)(g:Int)(r:Int)(c1:B (g>=4294967296)=false)(c2:B (r<4294967296)=true)(c3:(B ((D U (g*(D U (vs.getD (A (D R (n-2))) 0))))>(D U ((T (Al .u64) (D U (r*2^(min (A 32) (Al .u64)))) ||| T (Al .u64) (D U (us.getD (A (D R ((D R (j+n))-2))) 0))).toNat))))=false)(n1:0<=(D R (n-2))/\(D R (n-2))<(vs.length:Int))(n2:0<=(D R ((D R (j+n))-2))/\(D R ((D R (j+n))-2))<(k:Int))(n3:us.length=k):W I HC (Ek k us vs n kq qs s j g r) (.exit 6) (Ek k us vs n kq qs s j g r):=(C f 400 [.b false,.b true,.v (A6l A5 (vs.getD (A (D R (n-2))) 0)),.v (A6l A5 (us.getD (A (D R ((D R (j+n))-2))) 0)),.b false,.b true,.b false] [4,5,9,10,11,12,13,14,16,17] (P c1 (P c2 (P n1 (P (AM n1) (P HX (P n2 (P (Ce n3 n2) (P c1 (P c2 (P c3 a0)))))))))))
def IN(k:Nat)(us:List Int)(vs:List Int)(n:Int)(kq:Nat)(qs:List Int)(s:Int)(j:Int)(g:Int)(b:Int)(c:Int)(i:Int):Ak:=(Q 4 (A6q 1 0 []::(A6q 1 0 []::(Q 3 (A6o (A6l R s)::(A6o (sL lm vs)::(A6q 1 k (lm us)::(A6o (A6l R n)::(A6q 1 kq (lm qs)::(A6o (A6l R j)::(Q 1 (A6o (A6l U g)::(Q 1 (A6o (A6l U b)::(A6o (A6l U c)::(A6o (A6l R i)::(Q 286 [])))))))))))))))))
theorem yZ(k:Nat)(us:List Int)(vs:List Int)(n:Int)(kq:Nat)(qs:List Int)(s:Int)(j:Int)(g:Int)(b:Int)(c:Int)(i:Int)(c1:B (i<n)=true)(n1:0<=i/\i<(vs.length:Int))(n2:0<=(D R (i+j))/\(D R (i+j))<(k:Int))(n3:us.length=k):W I O8 (IN k us vs n kq qs s j g b c i) .norm (IN k (us.set (A (D R (i+j))) (D A5 (D U ((D U ((D U (us.getD (A (D R (i+j))) 0))-(D U ((T (Al .u64) (D U (c+(D U (g*(D U (vs.getD (A i) 0)))))) &&& T (Al .u64) 4294967295).toNat))))-b)))) vs n kq qs s j g (d (D U ((D U ((D U (us.getD (A (D R (i+j))) 0))-(D U ((T (Al .u64) (D U (c+(D U (g*(D U (vs.getD (A i) 0)))))) &&& T (Al .u64) 4294967295).toNat))))-b)) (2^(min (A 63) (Al .u64)))) (d (D U (c+(D U (g*(D U (vs.getD (A i) 0)))))) (2^(min (A 32) (Al .u64)))) (D R (i+1))):=(C f 400 [.b true,.v (A6l A5 (vs.getD (A i) 0)),.v (A6l A5 (us.getD (A (D R (i+j))) 0)),.l (lm (us.set (A (D R (i+j))) (D A5 (D U ((D U ((D U (us.getD (A (D R (i+j))) 0))-(D U ((T (Al .u64) (D U (c+(D U (g*(D U (vs.getD (A i) 0)))))) &&& T (Al .u64) 4294967295).toNat))))-b)))))] [4,5,9,10,11,12,13,14,16,18,19,20] (P c1 (P n1 (P (AM n1) (P n2 (P (Ce n3 n2) (P n2 (P (show Cu (lm us) (A (D R (i+j))*1) [A6l A5 (D A5 (D U ((D U ((D U (us.getD (A (D R (i+j))) 0))-(D U ((T (Al .u64) (D U (c+(D U (g*(D U (vs.getD (A i) 0)))))) &&& T (Al .u64) 4294967295).toNat))))-b)))]=some (lm (us.set (A (D R (i+j))) (D A5 (D U ((D U ((D U (us.getD (A (D R (i+j))) 0))-(D U ((T (Al .u64) (D U (c+(D U (g*(D U (vs.getD (A i) 0)))))) &&& T (Al .u64) 4294967295).toNat))))-b))))) from (CQ n3 n2)) (P WM (P HX a0))))))))))
theorem zA(k:Nat)(us:List Int)(vs:List Int)(n:Int)(kq:Nat)(qs:List Int)(s:Int)(j:Int)(g:Int)(b:Int)(c:Int)(i:Int)(c1:B (i<n)=false):W I O8 (IN k us vs n kq qs s j g b c i) (.exit 8) (IN k us vs n kq qs s j g b c i):=(C f 400 [.b false] [4,5,9,10,11,12,13,14,16,18,19,20] (P c1 a0))
def KW(k:Nat)(us:List Int)(vs:List Int)(n:Int)(kq:Nat)(qs:List Int)(s:Int)(j:Int)(g:Int)(c:Int)(i:Int):Ak:=(Q 4 (A6q 1 0 []::(A6q 1 0 []::(Q 3 (A6o (A6l R s)::(A6o (sL lm vs)::(A6q 1 k (lm us)::(A6o (A6l R n)::(A6q 1 kq (lm qs)::(A6o (A6l R j)::(Q 1 (A6o (A6l U g)::(Q 6 (A6o (A6l U c)::(A6o (A6l R i)::(Q 282 []))))))))))))))))
theorem zB(k:Nat)(us:List Int)(vs:List Int)(n:Int)(kq:Nat)(qs:List Int)(s:Int)(j:Int)(g:Int)(c:Int)(i:Int)(c1:B (i<n)=true)(n1:0<=(D R (i+j))/\(D R (i+j))<(k:Int))(n2:us.length=k)(n3:0<=i/\i<(vs.length:Int)):W I QI (KW k us vs n kq qs s j g c i) .norm (KW k (us.set (A (D R (i+j))) (D A5 (D U (c+(D U ((D U (us.getD (A (D R (i+j))) 0))+(D U (vs.getD (A i) 0)))))))) vs n kq qs s j g (d (D U (c+(D U ((D U (us.getD (A (D R (i+j))) 0))+(D U (vs.getD (A i) 0)))))) (2^(min (A 32) (Al .u64)))) (D R (i+1))):=(C f 400 [.b true,.v (A6l A5 (us.getD (A (D R (i+j))) 0)),.v (A6l A5 (vs.getD (A i) 0)),.l (lm (us.set (A (D R (i+j))) (D A5 (D U (c+(D U ((D U (us.getD (A (D R (i+j))) 0))+(D U (vs.getD (A i) 0)))))))))] [4,5,9,10,11,12,13,14,16,23,24] (P c1 (P n1 (P (Ce n2 n1) (P n3 (P (AM n3) (P n1 (P (show Cu (lm us) (A (D R (i+j))*1) [A6l A5 (D A5 (D U (c+(D U ((D U (us.getD (A (D R (i+j))) 0))+(D U (vs.getD (A i) 0)))))))]=some (lm (us.set (A (D R (i+j))) (D A5 (D U (c+(D U ((D U (us.getD (A (D R (i+j))) 0))+(D U (vs.getD (A i) 0))))))))) from (CQ n2 n1)) (P HX a0)))))))))
theorem zC(k:Nat)(us:List Int)(vs:List Int)(n:Int)(kq:Nat)(qs:List Int)(s:Int)(j:Int)(g:Int)(c:Int)(i:Int)(c1:B (i<n)=false):W I QI (KW k us vs n kq qs s j g c i) (.exit 10) (KW k us vs n kq qs s j g c i):=(C f 400 [.b false] [4,5,9,10,11,12,13,14,16,23,24] (P c1 a0))
def I9(k:Nat)(us:List Int)(vs:List Int)(n:Int)(kq:Nat)(qs:List Int)(s:Int)(j:Int):Ak:=(Q 4 (A6q 1 0 []::(A6q 1 0 []::(Q 3 (A6o (A6l R s)::(A6o (sL lm vs)::(A6q 1 k (lm us)::(A6o (A6l R n)::(A6q 1 kq (lm qs)::(A6o (A6l R j)::(Q 292 [])))))))))))
theorem Aqq(k:Nat)(us:List Int)(vs:List Int)(n:Int)(kq:Nat)(qs:List Int)(s:Int)(j:Int)(us1 us2:List Int)(g r b c cc:Int)(c1:B (j>=0)=true)(c2:((d (D U ((D U ((D U (us1.getD (A (D R (j+n))) 0))-c))-b)) (2^(min (A 63) (Al .u64)))) != 0)=true)(n1:0<=(D R (j+n))/\(D R (j+n))<(k:Int))(n2:us.length=k)(n3:0<=(D R ((D R (j+n))-1))/\(D R ((D R (j+n))-1))<(k:Int))(n4:0<=(D R (n-1))/\(D R (n-1))<(vs.length:Int))(n5:¬ (D U (vs.getD (A (D R (n-1))) 0))=0)(hl6:W I (.loop HC) (Ek k us vs n kq qs s j (D U (As (D U ((T (Al .u64) (D U ((D U (us.getD (A (D R (j+n))) 0))*2^(min (A 32) (Al .u64)))) ||| T (Al .u64) (D U (us.getD (A (D R ((D R (j+n))-1))) 0))).toNat)) (D U (vs.getD (A (D R (n-1))) 0)))) (AA (D U ((T (Al .u64) (D U ((D U (us.getD (A (D R (j+n))) 0))*2^(min (A 32) (Al .u64)))) ||| T (Al .u64) (D U (us.getD (A (D R ((D R (j+n))-1))) 0))).toNat)) (D U (vs.getD (A (D R (n-1))) 0)))) (.exit 6) (Ek k us vs n kq qs s j g r))(hl7:W I (.loop O8) (IN k us vs n kq qs s j g 0 0 0) (.exit 8) (IN k us1 vs n kq qs s j g b c n))(n8:us1.length=k)(hl9:W I (.loop QI) (KW k (us1.set (A (D R (j+n))) (D A5 (D U ((D U ((D U (us1.getD (A (D R (j+n))) 0))-c))-b)))) vs n kq qs s j (D U (g-1)) 0 0) (.exit 10) (KW k us2 vs n kq qs s j (D U (g-1)) cc n))(n10:us2.length=k)(n11:0<=j/\j<(kq:Int))(n12:qs.length=kq):W I NG (I9 k us vs n kq qs s j) .norm (I9 k (us2.set (A (D R (j+n))) (D A5 ((us2.getD (A (D R (j+n))) 0)+(D A5 cc)))) vs n kq (qs.set (A j) (D A5 (D U (g-1)))) s (D R (j-1))):=(W.seq (C (t:=(Q 4 (A6q 1 0 []::(A6q 1 0 []::(Q 3 (vi s::(vl vs::(A6q 1 k (lm us)::(vi n::(A6q 1 kq (lm qs)::(vi j::(Q 292 [])))))))))))) f 400 [.b true] [4,5,9,10,11,12,13,14] (P c1 a0)) (W.seq (Ci (L (W.seq (C f 400 [.v (A6l A5 (us.getD (A (D R (j+n))) 0)),.v (A6l A5 (us.getD (A (D R ((D R (j+n))-1))) 0)),.v (A6l A5 (vs.getD (A (D R (n-1))) 0)),.v (A6l A5 (vs.getD (A (D R (n-1))) 0))] [4,5,9,10,11,12,13,14,16,17] (P n1 (P (Ce n2 n1) (P HX (P n3 (P (Ce n2 n3) (P n4 (P (AM n4) (P n5 (P n4 (P (AM n4) (P n5 a0)))))))))))) (W.seq (W.block hl6) (q (W.seq (C f 400 [] [4,5,9,10,11,12,13,14,16,18,19,20] a0) (W.seq (W.block hl7) (L (q (W.seq (C (t:=(Q 4 (A6q 1 0 []::(A6q 1 0 []::(Q 3 (vi s::(vl vs::(A6q 1 k (lm (us1.set (A (D R (j+n))) (D A5 (D U ((D U ((D U (us1.getD (A (D R (j+n))) 0))-c))-b)))))::(vi n::(A6q 1 kq (lm qs)::(vi j::(Q 1 (A6o (A6l U g)::(Q 236 (A6o (A6m ((d (D U ((D U ((D U (us1.getD (A (D R (j+n))) 0))-c))-b)) (2^(min (A 63) (Al .u64)))) != 0))::(Q 53 [])))))))))))))))) f 400 [.v (A6l A5 (us1.getD (A (D R (j+n))) 0)),.l (lm (us1.set (A (D R (j+n))) (D A5 (D U ((D U ((D U (us1.getD (A (D R (j+n))) 0))-c))-b)))))] [4,5,9,10,11,12,13,14,16,253] (P n1 (P (Ce n8 n1) (P n1 (P (show Cu (lm us1) (A (D R (j+n))*1) [A6l A5 (D A5 (D U ((D U ((D U (us1.getD (A (D R (j+n))) 0))-c))-b)))]=some (lm (us1.set (A (D R (j+n))) (D A5 (D U ((D U ((D U (us1.getD (A (D R (j+n))) 0))-c))-b))))) from (CQ n8 n1)) (P WM a0)))))) (W.seq (IJ (by rfl) c2 (L (q (W.seq (C f 400 [] [4,5,9,10,11,12,13,14,16,23,24] a0) (W.seq (W.block hl9) (C (t:=(Q 4 (A6q 1 0 []::(A6q 1 0 []::(Q 3 (vi s::(vl vs::(A6q 1 k (lm (us2.set (A (D R (j+n))) (D A5 ((us2.getD (A (D R (j+n))) 0)+(D A5 cc)))))::(vi n::(A6q 1 kq (lm qs)::(vi j::(Q 1 (A6o (A6l U (D U (g-1)))::(Q 290 [])))))))))))))) f 400 [.v (A6l A5 (us2.getD (A (D R (j+n))) 0)),.l (lm (us2.set (A (D R (j+n))) (D A5 ((us2.getD (A (D R (j+n))) 0)+(D A5 cc)))))] [4,5,9,10,11,12,13,14,16] (P n1 (P (Ce n10 n1) (P n1 (P (show Cu (lm us2) (A (D R (j+n))*1) [A6l A5 (D A5 ((us2.getD (A (D R (j+n))) 0)+(D A5 cc)))]=some (lm (us2.set (A (D R (j+n))) (D A5 ((us2.getD (A (D R (j+n))) 0)+(D A5 cc))))) from (CQ n10 n1)) a0)))))))))) (C (t:=(Q 4 (A6q 1 0 []::(A6q 1 0 []::(Q 3 (vi s::(vl vs::(A6q 1 k (lm (us2.set (A (D R (j+n))) (D A5 ((us2.getD (A (D R (j+n))) 0)+(D A5 cc)))))::(vi n::(A6q 1 kq (lm (qs.set (A j) (D A5 (D U (g-1)))))::(vi j::(Q 292 [])))))))))))) f 400 [.l (lm (qs.set (A j) (D A5 (D U (g-1)))))] [4,5,9,10,11,12,13,14] (P n11 (P (show Cu (lm qs) (A j*1) [A6l A5 (D A5 (D U (g-1)))]=some (lm (qs.set (A j) (D A5 (D U (g-1))))) from (CQ n12 n11)) a0)))))))))))))) (C f 400 [] [4,5,9,10,11,12,13,14] a0)))
theorem Aqr(k:Nat)(us:List Int)(vs:List Int)(n:Int)(kq:Nat)(qs:List Int)(s:Int)(j:Int)(us1:List Int)(g r b c:Int)(c1:B (j>=0)=true)(c2:((d (D U ((D U ((D U (us1.getD (A (D R (j+n))) 0))-c))-b)) (2^(min (A 63) (Al .u64)))) != 0)=false)(n1:0<=(D R (j+n))/\(D R (j+n))<(k:Int))(n2:us.length=k)(n3:0<=(D R ((D R (j+n))-1))/\(D R ((D R (j+n))-1))<(k:Int))(n4:0<=(D R (n-1))/\(D R (n-1))<(vs.length:Int))(n5:¬ (D U (vs.getD (A (D R (n-1))) 0))=0)(hl6:W I (.loop HC) (Ek k us vs n kq qs s j (D U (As (D U ((T (Al .u64) (D U ((D U (us.getD (A (D R (j+n))) 0))*2^(min (A 32) (Al .u64)))) ||| T (Al .u64) (D U (us.getD (A (D R ((D R (j+n))-1))) 0))).toNat)) (D U (vs.getD (A (D R (n-1))) 0)))) (AA (D U ((T (Al .u64) (D U ((D U (us.getD (A (D R (j+n))) 0))*2^(min (A 32) (Al .u64)))) ||| T (Al .u64) (D U (us.getD (A (D R ((D R (j+n))-1))) 0))).toNat)) (D U (vs.getD (A (D R (n-1))) 0)))) (.exit 6) (Ek k us vs n kq qs s j g r))(hl7:W I (.loop O8) (IN k us vs n kq qs s j g 0 0 0) (.exit 8) (IN k us1 vs n kq qs s j g b c n))(n8:us1.length=k)(n9:0<=j/\j<(kq:Int))(n10:qs.length=kq):W I NG (I9 k us vs n kq qs s j) .norm (I9 k (us1.set (A (D R (j+n))) (D A5 (D U ((D U ((D U (us1.getD (A (D R (j+n))) 0))-c))-b)))) vs n kq (qs.set (A j) (D A5 g)) s (D R (j-1))):=(W.seq (C (t:=(Q 4 (A6q 1 0 []::(A6q 1 0 []::(Q 3 (vi s::(vl vs::(A6q 1 k (lm us)::(vi n::(A6q 1 kq (lm qs)::(vi j::(Q 292 [])))))))))))) f 400 [.b true] [4,5,9,10,11,12,13,14] (P c1 a0)) (W.seq (Ci (L (W.seq (C f 400 [.v (A6l A5 (us.getD (A (D R (j+n))) 0)),.v (A6l A5 (us.getD (A (D R ((D R (j+n))-1))) 0)),.v (A6l A5 (vs.getD (A (D R (n-1))) 0)),.v (A6l A5 (vs.getD (A (D R (n-1))) 0))] [4,5,9,10,11,12,13,14,16,17] (P n1 (P (Ce n2 n1) (P HX (P n3 (P (Ce n2 n3) (P n4 (P (AM n4) (P n5 (P n4 (P (AM n4) (P n5 a0)))))))))))) (W.seq (W.block hl6) (q (W.seq (C f 400 [] [4,5,9,10,11,12,13,14,16,18,19,20] a0) (W.seq (W.block hl7) (L (q (W.seq (C (t:=(Q 4 (A6q 1 0 []::(A6q 1 0 []::(Q 3 (vi s::(vl vs::(A6q 1 k (lm (us1.set (A (D R (j+n))) (D A5 (D U ((D U ((D U (us1.getD (A (D R (j+n))) 0))-c))-b)))))::(vi n::(A6q 1 kq (lm qs)::(vi j::(Q 1 (A6o (A6l U g)::(Q 236 (A6o (A6m ((d (D U ((D U ((D U (us1.getD (A (D R (j+n))) 0))-c))-b)) (2^(min (A 63) (Al .u64)))) != 0))::(Q 53 [])))))))))))))))) f 400 [.v (A6l A5 (us1.getD (A (D R (j+n))) 0)),.l (lm (us1.set (A (D R (j+n))) (D A5 (D U ((D U ((D U (us1.getD (A (D R (j+n))) 0))-c))-b)))))] [4,5,9,10,11,12,13,14,16,253] (P n1 (P (Ce n8 n1) (P n1 (P (show Cu (lm us1) (A (D R (j+n))*1) [A6l A5 (D A5 (D U ((D U ((D U (us1.getD (A (D R (j+n))) 0))-c))-b)))]=some (lm (us1.set (A (D R (j+n))) (D A5 (D U ((D U ((D U (us1.getD (A (D R (j+n))) 0))-c))-b))))) from (CQ n8 n1)) (P WM a0)))))) (W.seq (IK (by rfl) c2 (C (t:=(Q 4 (A6q 1 0 []::(A6q 1 0 []::(Q 3 (vi s::(vl vs::(A6q 1 k (lm (us1.set (A (D R (j+n))) (D A5 (D U ((D U ((D U (us1.getD (A (D R (j+n))) 0))-c))-b)))))::(vi n::(A6q 1 kq (lm qs)::(vi j::(Q 1 (A6o (A6l U g)::(Q 290 [])))))))))))))) f 400 [] [4,5,9,10,11,12,13,14,16] a0)) (C (t:=(Q 4 (A6q 1 0 []::(A6q 1 0 []::(Q 3 (vi s::(vl vs::(A6q 1 k (lm (us1.set (A (D R (j+n))) (D A5 (D U ((D U ((D U (us1.getD (A (D R (j+n))) 0))-c))-b)))))::(vi n::(A6q 1 kq (lm (qs.set (A j) (D A5 g)))::(vi j::(Q 292 [])))))))))))) f 400 [.l (lm (qs.set (A j) (D A5 g)))] [4,5,9,10,11,12,13,14] (P n9 (P (show Cu (lm qs) (A j*1) [A6l A5 (D A5 g)]=some (lm (qs.set (A j) (D A5 g))) from (CQ n10 n9)) a0)))))))))))))) (C f 400 [] [4,5,9,10,11,12,13,14] a0)))
theorem Aqs(k:Nat)(us:List Int)(vs:List Int)(n:Int)(kq:Nat)(qs:List Int)(s:Int)(j:Int)(c1:B (j>=0)=false):W I NG (I9 k us vs n kq qs s j) (.exit 4) (I9 k us vs n kq qs s j):=(p (C f 400 [.b false] [4,5,9,10,11,12,13,14] (P c1 a0)) (by nofun))
theorem lR(xs ys:List Int)(cm:Int)(c1:B (cm<0)=true)(n1:H I 134 [sL lm xs,sL lm ys] (A6l R cm)):H I 165 [sL lm xs,sL lm ys] (A6t [A6n 0 [],sL lm xs]):=X (fn:=PL) (s:=(Q 1 (A6o (sL lm ys)::(Q 2 (A6q 1 0 []::(A6o (sL lm xs)::(Q 301 []))))))) (ex := .ret) rfl rfl (L (q (p (C f 400 [.r (A6l R cm),.b true] [1,4,5] (P n1 (P c1 a0))) (by nofun)))) (by nofun) rfl
theorem lS(xs ys qs:List Int)(cm r i:Int)(k:Nat)(c1:B (cm<0)=false)(c2:((ys.length:Int)==1)=true)(n1:H I 134 [sL lm xs,sL lm ys] (A6l R cm))(n2:0<=(xs.length:Int)/\(xs.length:Int)<=1048576)(hl3:W I (.loop QH) ((A6o (sL lm xs)::(A6o (sL lm ys)::(Q 2 (A6q 1 0 []::(A6q 1 0 []::(A6q 1 (A (xs.length:Int)) (Cp [A6l A5 0] (A (xs.length:Int)))::(A6o (A6l U 0)::(A6o (A6l R (D R ((xs.length:Int)-1)))::(Q 298 [])))))))))) (.exit 0) (MC xs ys k qs r i))(n4:H I 99 [A6n k (lm qs)] (A6p 1 ((Y qs).length) (lm (Y qs))))(n5:H I 99 [A6n 1 [A6l A5 (D A5 r)]] (A6p 1 ((Y [D A5 r]).length) (lm (Y [D A5 r])))):H I 165 [sL lm xs,sL lm ys] (A6t [A6n ((Y qs).length) (lm (Y qs)),A6n ((Y [D A5 r]).length) (lm (Y [D A5 r]))]):=X (fn:=PL) (s:=(Q 1 (A6o (sL lm ys)::(Q 2 (A6q 1 ((Y qs).length) (lm (Y qs))::(A6q 1 ((Y [D A5 r]).length) (lm (Y [D A5 r]))::(Q 301 []))))))) (ex := .ret) rfl rfl (L (q (W.seq (C (t:=(vl xs::(vl ys::(Q 2 (A6q 1 0 []::(A6q 1 0 []::(Q 26 (A6o (A6m ((ys.length:Int)==1))::(Q 274 []))))))))) f 400 [.r (A6l R cm),.b false] [0,1,4,5,32] (P n1 (P c1 a0))) (p (IJ (by rfl) c2 (L (q (W.seq (C f 400 [] [0,1,4,5,6,7,8] (P n2 a0)) (W.seq (W.block hl3) (C f 400 [.r (A6p 1 ((Y qs).length) (lm (Y qs))),.r (A6p 1 ((Y [D A5 r]).length) (lm (Y [D A5 r])))] [1,4,5] (P n4 (P n5 a0)))))))) (by nofun))))) (by nofun) rfl
theorem lT(xs ys qs us vs:List Int)(cm s n j U V w:Int)(k kq:Nat)(c1:B (cm<0)=false)(c2:((ys.length:Int)==1)=false)(n1:H I 134 [sL lm xs,sL lm ys] (A6l R cm))(hl2:W I (.loop QG) (KV xs ys 0) (.exit 2) (KV xs ys s))(n3:H I 84 [A6r [A6m false,sL lm ys],A6l R s] (C6 V))(n4:((G (E U)).length)+2<=35184372088832)(n5:H I 84 [A6r [A6m false,sL lm xs],A6l R s] (C6 U))(n6:0<=(if (D R ((ys.length:Int)+1))>(D R ((xs.length:Int)+1)) then (D R ((ys.length:Int)+1)) else (D R ((xs.length:Int)+1)))/\(if (D R ((ys.length:Int)+1))>(D R ((xs.length:Int)+1)) then (D R ((ys.length:Int)+1)) else (D R ((xs.length:Int)+1)))<=(((((G (E U)).length)+2):Nat):Int))(n7:0<=(D R ((((A (if (D R ((ys.length:Int)+1))>(D R ((xs.length:Int)+1)) then (D R ((ys.length:Int)+1)) else (D R ((xs.length:Int)+1)))):Nat):Int)-(((G (E V)).length:Nat):Int)))/\(D R ((((A (if (D R ((ys.length:Int)+1))>(D R ((xs.length:Int)+1)) then (D R ((ys.length:Int)+1)) else (D R ((xs.length:Int)+1)))):Nat):Int)-(((G (E V)).length:Nat):Int)))<=1048576)(hl8:W I (.loop NG) ((Q 4 (A6q 1 0 []::(A6q 1 0 []::(Q 3 (A6o (A6l R s)::(A6o (A6n ((G (E V)).length) (lm (G (E V))))::(A6q 1 (A (if (D R ((ys.length:Int)+1))>(D R ((xs.length:Int)+1)) then (D R ((ys.length:Int)+1)) else (D R ((xs.length:Int)+1)))) (B1 (A (if (D R ((ys.length:Int)+1))>(D R ((xs.length:Int)+1)) then (D R ((ys.length:Int)+1)) else (D R ((xs.length:Int)+1)))*1) ((lm (G (E U)))++([A6l A5 0,A6l A5 0]:List AV)))::(A6o (A6l R (((G (E V)).length:Nat):Int))::(A6q 1 (A (D R ((((A (if (D R ((ys.length:Int)+1))>(D R ((xs.length:Int)+1)) then (D R ((ys.length:Int)+1)) else (D R ((xs.length:Int)+1)))):Nat):Int)-(((G (E V)).length:Nat):Int)))) (Cp [A6l A5 0] (A (D R ((((A (if (D R ((ys.length:Int)+1))>(D R ((xs.length:Int)+1)) then (D R ((ys.length:Int)+1)) else (D R ((xs.length:Int)+1)))):Nat):Int)-(((G (E V)).length:Nat):Int)))))::(A6o (A6l R (D R ((D R ((((A (if (D R ((ys.length:Int)+1))>(D R ((xs.length:Int)+1)) then (D R ((ys.length:Int)+1)) else (D R ((xs.length:Int)+1)))):Nat):Int)-(((G (E V)).length:Nat):Int)))-1)))::(Q 292 [])))))))))))) (.exit 4) (I9 k us vs n kq qs s j))(n9:H I 99 [A6n kq (lm qs)] (A6p 1 ((Y qs).length) (lm (Y qs))))(n10:H I 128 [A6r [A6m false,A6n k (lm us)],A6l R s] (o w)):H I 165 [sL lm xs,sL lm ys] (A6t [A6n ((Y qs).length) (lm (Y qs)),A6n ((G (E w)).length) (lm (G (E w)))]):=X (fn:=PL) (s:=(Q 4 (A6q 1 ((Y qs).length) (lm (Y qs))::(A6o (A6n ((G (E w)).length) (lm (G (E w))))::(Q 301 []))))) (ex := .ret) rfl rfl (L (q (W.seq (C (t:=(vl xs::(vl ys::(Q 2 (A6q 1 0 []::(A6q 1 0 []::(Q 26 (A6o (A6m ((ys.length:Int)==1))::(Q 274 []))))))))) f 400 [.r (A6l R cm),.b false] [0,1,4,5,32] (P n1 (P c1 a0))) (W.seq (IK (by rfl) c2 (C (t:=(vl xs::(vl ys::(Q 2 (A6q 1 0 []::(A6q 1 0 []::(Q 26 (A6o (A6m ((ys.length:Int)==1))::(Q 274 []))))))))) f 400 [] [0,1,4,5,32] a0)) (W.seq (C f 400 [] [0,1,4,5,9] a0) (W.seq (W.block hl2) (L (L (L (L (q (W.seq (C f 400 [.r (C6 V),.r (C6 U)] [4,5,9,10,11,12,13,14] (P n3 (P n5 (P (show Bk ([A6l A5 0,A6l A5 0]:List AV)=2*1 from rfl) (P n4 (P n6 (P n7 a0))))))) (W.seq (W.block hl8) (C f 400 [.r (A6p 1 ((Y qs).length) (lm (Y qs))),.r (o w)] [4,5] (P n9 (P n10 a0)))))))))))))))) (by nofun) rfl
def TDA:Cm:=TBE
theorem lW:BY I TDA:=f
theorem A5i{p:Int}{s:Nat}(hp:0<=p/\p<18446744073709551616)(hs:s<=63):D U ((T (Al .u64) p &&& T (Al .u64) (2^s-1)).toNat)=p % 2^s:=by
 obtain⟨m,rfl⟩:=Md hp.1;have hb:(Al .u64)=64:=rfl;have e1:(T 64 (m:Int)).toNat=m:=EB 64 m (by omega);have h2:2^s<=2^63:=B4 (by decide) hs;have h3:0<2^s:=Cx (by decide);have ec:((2:Int)^s-1)=((2^s-1:Nat):Int):=by
  have:((2^s:Nat):Int)=(2:Int)^s:=by simp
  omega
 have e2:(T 64 ((2^s-1:Nat):Int)).toNat=2^s-1:=EB 64 (2^s-1) (by omega);rw[hb,Nj,e1,ec,e2,TM,B3];have h4:m % 2^s<2^s:=H8 _ h3;have e3:((m % 2^s:Nat):Int)=(m:Int) % 2^s:=by simp
 rw[<- e3];omega
theorem lX{p:Int}{s:Nat}(hp:0<=p/\p<4294967296)(hs:s<=31):D A5 ((T (Al .u32) p &&& T (Al .u32) (2^s-1)).toNat)=p % 2^s:=by
 obtain⟨m,rfl⟩:=Md hp.1;have hb:(Al .u32)=32:=rfl;have e1:(T 32 (m:Int)).toNat=m:=EB 32 m (by omega);have h2:2^s<=2^31:=B4 (by decide) hs;have h3:0<2^s:=Cx (by decide);have ec:((2:Int)^s-1)=((2^s-1:Nat):Int):=by
  have:((2^s:Nat):Int)=(2:Int)^s:=by simp
  omega
 have e2:(T 32 ((2^s-1:Nat):Int)).toNat=2^s-1:=EB 32 (2^s-1) (by omega);rw[hb,Nj,e1,ec,e2,TM,DL];have h4:m % 2^s<2^s:=H8 _ h3;have e3:((m % 2^s:Nat):Int)=(m:Int) % 2^s:=by simp
 rw[<- e3];omega
theorem A5j{p:Int}(hp:0<=p/\p<4294967296):(D A5 ((T (Al .u32) p &&& T (Al .u32) 2147483648).toNat)==0)=decide (p<2147483648):=by
 obtain⟨m,rfl⟩:=Md hp.1;have hb:(Al .u32)=32:=rfl;have e1:(T 32 (m:Int)).toNat=m:=EB 32 m (by omega);have e2:(T 32 2147483648).toNat=2147483648:=EB 32 2147483648 (by decide);rw[hb,Nj,e1,e2,DL];have hlt:m &&& 2147483648<=2147483648:=Nat.and_le_right;have key:(m &&& 2147483648=0)↔m<2147483648:=by
  constructor
  ·intro h;have hm:m<2^32:=by omega
   have hb31:(m &&& 2^31).testBit 31=false:=by
    have:(m &&& 2^31)=0:=h;rw[this];rfl
   rw[Avz] at hb31;have:(2^31:Nat).testBit 31=true:=by decide
   rw[this,K6] at hb31;refine Nat.lt_pow_two_of_testBit m (n:=31) fun i hi => ?_;rcases Nat.eq_or_lt_of_le hi with h1 | h1
   ·rw[<- h1];exact hb31
   ·exact cR (EL hm (B4 (by decide) (by omega)))
  ·intro h;apply Nat.eq_of_testBit_eq;intro i;rw[Avz,Nat.zero_testBit];by_cases hi:i=31
   ·subst hi;rw[cR (x:=m) (i:=31) (by omega)];rfl
   ·have:(2147483648:Nat).testBit i=false:=by
     rw[show (2147483648:Nat)=2^31 by decide,Nat.testBit_two_pow];simp;omega
    rw[this,H9]
 rw[ZI,beq_iff_eq,decide_eq_true_eq];constructor
 ·intro h;have:m &&& 2147483648=0:=by omega
  have:=key.1 this;omega
 ·intro h;have:=key.2 (by omega);omega
theorem NV{a b:Int}(ha:(G a.natAbs).length<1048576)(hb:(G b.natAbs).length<1048576):H I 129 [o a,o b] (o (a-b)):=by
 have h:=Tc (na:=decide (a<0)) (nb:=decide (b<0)) (BK a.natAbs) (BK b.natAbs) ha hb;rw[Fr,Fr] at h;exact h
theorem NW{xs:List Int}(h:AL xs){v:Int}(hv:0<=v):(Ac xs+v=0)↔(Ac xs=0/\v=0):=by
 have:=AT h;omega
theorem lY{neg:Bool}{xs ms:List Int}{n:Nat}(hu:AL ms)(hn:(n:Int)<=9223372036854775807)(hN:ms.length<=1048576):∀ (r i:Nat),i+r=min ms.length (n / 32) ->
  W I (.loop Gi) (Dr neg xs (n:Nat) ms (B (Ac (ms.take i) ≠ 0)) (i:Nat)) (.exit 0) (Dr neg xs (n:Nat) ms (B (Ac (ms.take (n / 32)) ≠ 0)) ((min ms.length (n / 32):Nat):Int)):=by
 have e1:D R (As (n:Int) 32)=((n / 32:Nat):Int):=by
  rw[B5 (by omega),Bg (by omega) (by omega)];omega
 intro r;induction r with
 | zero =>
  intro i hi;have hi':i=min ms.length (n / 32):=by omega
  have et:ms.take i=ms.take (n / 32):=by
   rcases Nat.le_total ms.length (n / 32) with h | h
   ·rw[Ei (by omega),Ei h]
   ·rw[hi',Nat.min_eq_right h]
  rw[et,<- hi'];by_cases hl:i<ms.length
  ·exact Am (yN neg xs _ ms _ _ (by simp;omega) (by rw[e1];simp;omega)) (by nofun)
  ·exact Am (yO neg xs _ ms _ _ (by simp;omega)) (by nofun)
 | succ r ih =>
  intro i hi;have ei:D R ((i:Int)+1)=((i+1:Nat):Int):=by rw[Bg (by omega) (by omega)];omega
  have hm:=AE hu i;have hp:=Cr i;have hts:=DM ms i (by omega);have hz:(Ac (ms.take (i+1))=0)↔(Ac (ms.take i)=0/\ms.getD i 0=0):=by
   have hx:=NW (DH hu i) (A3 (A0 hp) hm.1);rw[<- hts] at hx;rw[hx,FJ];constructor
   ·rintro⟨a,b⟩;exact⟨a,by omega⟩
   ·rintro⟨a,b⟩;exact⟨a,.inr b⟩
  have step:W I Gi (Dr neg xs (n:Nat) ms (B (Ac (ms.take i) ≠ 0)) (i:Nat)) .norm (Dr neg xs (n:Nat) ms (B (Ac (ms.take (i+1)) ≠ 0)) ((i+1:Nat):Int)):=by
   by_cases h0:Ac (ms.take i)=0
   ·have k:=yM neg xs (n:Nat) ms (B (Ac (ms.take i) ≠ 0)) (i:Nat) (by simp;omega) (by rw[e1];simp;omega) (by simp[h0]) (by omega);rw[ei,F] at k;have e2:(ms.getD i 0 != 0)=decide (Ac (ms.take (i+1)) ≠ 0):=by
     rw[ZI,bne_iff_ne,decide_eq_true_eq,ne_eq,ne_eq,hz];simp[h0]
    rw[e2] at k;exact k
   ·have k:=yL neg xs (n:Nat) ms (B (Ac (ms.take i) ≠ 0)) (i:Nat) (by simp;omega) (by rw[e1];simp;omega) (by simp[h0]);rw[ei] at k;have e2:true=decide (Ac (ms.take (i+1)) ≠ 0):=by
     symm;rw[decide_eq_true_eq,ne_eq,hz];exact fun h=>h0 h.1
    rw[<- e2];exact k
  exact W.loop step (ih (i+1) (by omega))
theorem cS{x y:Int}(hx:0<=x/\x<4294967296){s:Nat}(hs:s<32):(y*4294967296+x) / 2^s % 4294967296=y % 2^s*2^(32-s)+x / 2^s:=by
 have e:=QS (show s<=32 by omega);have hp:=BG s;have hp2:=BG (32-s);have h1:(y*4294967296+x) / 2^s=y*2^(32-s)+x / 2^s:=by
  rw[e,<- A9,J',A5a _ _ (by omega),J']
 have b1:x / 2^s<2^(32-s):=Km hp (by rw[<- e];exact hx.2);have b0:0<=x / 2^s:=Jn hx.1 (by omega);have m0:=Fy y (show (2:Int)^s ≠ 0 by omega);have m1:=El y hp;have hy2:=Gs y (2^s);rw[h1];have e3:y*2^(32-s)+x / 2^s=(y % 2^s*2^(32-s)+x / 2^s)+4294967296*(y / 2^s):=by
  rw[e];generalize y % 2^s=a at *
  generalize y / 2^s=b at *
  generalize (2:Int)^(32-s)=T at *
  generalize (2:Int)^s=S at *
  generalize x / S=z at *
  rw[<- hy2];grind
 rw[e3,TE];apply FY
 ·have:=A3 m0 (show (0:Int)<=2^(32-s) by omega);omega
 ·have c1:=Ae (show y % 2^s+1<=2^s by omega) (show (0:Int)<=2^(32-s) by omega);rw[GX,CO,A8 (2^s),<- e] at c1;omega
theorem lZ{neg lost:Bool}{xs ms:List Int}{sh:Int}{s k:Nat}(hu:AL ms)(hs:s<32)(hN:ms.length<=1048576)(hk:k<=ms.length):∀ (r i:Nat),i+r=ms.length-k ->
  W I (.loop FF) (De neg xs sh ms i (lm ((Ao i).map (Dc (ms.drop k) s))) lost (s:Nat) ((k+i:Nat):Int)) (.exit 2) (De neg xs sh ms (ms.length-k) (lm ((Ao (ms.length-k)).map (Dc (ms.drop k) s))) lost (s:Nat) (ms.length:Nat)):=by
 intro r;induction r with
 | zero =>
  intro i hi;have hi':i=ms.length-k:=by omega
  subst hi';have e0:((k+(ms.length-k):Nat):Int)=(ms.length:Nat):=by omega
  rw[e0];exact Am (XW neg xs sh ms _ _ lost _ _ (by simp)) (by nofun)
 | succ r ih =>
  intro i hi;have ei:D R (((k+i:Nat):Int)+1)=((k+(i+1):Nat):Int):=by rw[Bg (by omega) (by omega)];omega
  have hx:=AE hu (k+i);have hy:=AE hu (k+i+1);have gx:(ms.drop k).getD i 0=ms.getD (k+i) 0:=by simp[Z,Bn]
  have gy:(ms.drop k).getD (i+1) 0=ms.getD (k+i+1) 0:=by simp[Z,Bn,D6]
  have em:min (A (s:Int)) (Al .u64)=s:=by rw[F];show min s 64=s;omega
  have hR:Dc (ms.drop k) s i=(ms.getD (k+i+1) 0*4294967296+ms.getD (k+i) 0) / 2^s % 4294967296:=by
   rw[cS hx hs];unfold Dc;rw[gx,gy]
  have hstep:W I FF (De neg xs sh ms i (lm ((Ao i).map (Dc (ms.drop k) s))) lost (s:Nat) ((k+i:Nat):Int)) .norm (De neg xs sh ms (i+1) (lm ((Ao (i+1)).map (Dc (ms.drop k) s))) lost (s:Nat) ((k+(i+1):Nat):Int)):=by
   have el:lm ((Ao (i+1)).map (Dc (ms.drop k) s))=lm ((Ao i).map (Dc (ms.drop k) s))++([A6l A5 (Dc (ms.drop k) s i)]:List AV):=by
    rw[Hi,Ef,Cw,FK,H5]
   rw[el,hR];by_cases h1:k+i+1<ms.length
   ·have kk:=yP neg xs sh ms i (lm ((Ao i).map (Dc (ms.drop k) s))) lost (s:Nat) ((k+i:Nat):Int) (by simp;omega) (by rw[ei];simp;omega) (by omega) (by rw[ei];omega) (by omega) (by omega);rw[ei,F,F,em] at kk;have w1:D U ((T (Al .u64) (D U (ms.getD (k+i) 0)) ||| T (Al .u64) (D U ((D U (ms.getD (k+(i+1)) 0))*2^(min (A 32) (Al .u64))))).toNat)=ms.getD (k+i+1) 0*4294967296+ms.getD (k+i) 0:=by
     rw[TL,C2 (n:=ms.getD (k+(i+1)) 0) (by rw[<- D6];omega),<- D6];exact MA hy hx
    have hpos:0<=ms.getD (k+i+1) 0*4294967296+ms.getD (k+i) 0:=by omega
    rw[w1,t _ (by have:=BG s;omega),DL] at kk;exact kk
   ·have hz:ms.getD (k+i+1) 0=0:=Bs (by omega);have kk:=yQ neg xs sh ms i (lm ((Ao i).map (Dc (ms.drop k) s))) lost (s:Nat) ((k+i:Nat):Int) (by simp;omega) (by rw[ei];simp;omega) (by omega) (by omega) (by omega);rw[ei,F,em,C2 (n:=ms.getD (k+i) 0) (by omega),t _ (by have:=BG s;omega),DL] at kk;rw[hz,CJ,DA];exact kk
  exact W.loop hstep (ih (i+1) (by omega))
theorem cT{ms:List Int}{s k:Nat}(hs:s<32)(hk:k<=ms.length) :
  Ac ms=4294967296^k*(2^s*Ac ((Ao (ms.length-k)).map (Dc (ms.drop k) s))+ms.getD k 0 % 2^s)+Ac (ms.take k):=by
 have h1:=Di ms hk;have h2:=cQ (us:=ms.drop k) s hs (ms.length-k) (by simp);have g0:(ms.drop k).getD 0 0=ms.getD k 0:=by simp[Z,Bn]
 have g1:(ms.drop k).getD (ms.length-k) 0=0:=Bs (by simp);rw[Ei (by simp),g0,g1,Int.zero_emod,AC,B2] at h2;rw[h2,h1];generalize Ac (ms.drop k)=X;generalize Ac (ms.take k)=Y;generalize ms.getD k 0 % 2^s=z;have:X-z+z=X:=by omega
 rw[this];omega
theorem VO{neg:Bool}{xs:List Int}(hu:AL xs)(n:Nat)(hn:(n:Int)<=9223372036854775807)(hN:xs.length<1048576):H I 128 [A6r [A6m neg,sL lm xs],A6l R (n:Nat)] (o (rv neg xs / 2^n)):=by
 have t1:=Bf xs;have tu:=OE hu;have e1:D R (As (n:Int) 32)=((n / 32:Nat):Int):=by
  rw[B5 (by omega),Bg (by omega) (by omega)];omega
 have e2:D U (AA (n:Int) 32)=((n % 32:Nat):Int):=by
  rw[Bl (by omega),B3];omega
 have hs:n % 32<32:=H8 _ (by decide);have hmag:=DX (xs:=xs) (by omega);have ha:=lY (neg:=neg) (xs:=xs) (n:=n) tu hn (by omega) (min (Y xs).length (n / 32)) 0 (by omega);rw[TF] at ha;have e0:decide (Ac ([]:List Int) ≠ 0)=false:=rfl;rw[e0] at ha;have hof:=TV (n:=1) (by omega);have hp:=HP n;have hP:=Cr (n / 32);have hS:=BG (n % 32);rw[<- VF neg xs];generalize hms:Y xs=ms at *
 have fin:∀ (q l:Int),0<=l->l<2^n->Ac ms=2^n*q+l->rv neg ms / 2^n=if neg=true/\l ≠ 0 then -q-1 else if neg then -q else q:=by
  intro q l hl0 hl1 hv;have hpn:=BG n;unfold rv;rw[hv];cases neg with
  | false=>simp only[Ca,if_false,false_and];rw[J',SB _ _ (by omega),GC hl0 hl1];omega
  | true =>
   simp only[if_true,true_and];by_cases h0:l=0
   ·rw[if_neg (by simp[h0]),h0,B2,<- DZ,BP _ (by omega)]
   ·rw[if_pos (by simpa using h0)];have : -(2^n*q+l)=(2^n-l)+2^n*(-q-1):=by rw[EG,DZ];omega
    rw[this,SB _ _ (by omega),GC (by omega) (by omega)];omega
 by_cases hk:n / 32<ms.length
 ·-- some G are left
  have hb:=lZ (neg:=neg) (lost:=decide (Ac (ms.take (n / 32)) ≠ 0)) (xs:=xs) (ms:=ms) (sh:=(n:Int)) (s:=n % 32) (k:=n / 32) tu hs (by omega) (by omega) (ms.length-n / 32) 0 (by omega);have c1:decide ((D R (As (n:Int) 32))<(ms.length:Int))=true:=by rw[e1];simp;omega
  have hall:=cT (ms:=ms) hs (show n / 32<=ms.length by omega);have ux:AL ((Ao (ms.length-n / 32)).map (Dc (ms.drop (n / 32)) (n % 32))):=PX fun i=>(QV (EQ tu _) hs i).2.2.2;have hmk:=FR (neg:=neg) ux (by simp;omega);have hlen:((Ao (ms.length-n / 32)).map (Dc (ms.drop (n / 32)) (n % 32))).length=ms.length-n / 32:=by simp
  unfold sL at hmk;rw[hlen] at hmk;have hq:=E6 (neg:=neg) ux;generalize hQ:(Ao (ms.length-n / 32)).map (Dc (ms.drop (n / 32)) (n % 32))=Q at *
  have hm0:=Fy (ms.getD (n / 32) 0) (show (2:Int)^(n % 32) ≠ 0 by omega);have hm1:=El (ms.getD (n / 32) 0) hS;have ht0:=AT (DH tu (n / 32));have ht1:=FS tu (n / 32);have hb2:W I (.loop FF) (De neg xs (n:Nat) ms 0 [] (B (Ac (ms.take (n / 32)) ≠ 0)) (D U (AA (n:Int) 32)) (D R (As (n:Int) 32))) (.exit 2) (De neg xs (n:Nat) ms (ms.length-n / 32) (lm Q) (B (Ac (ms.take (n / 32)) ≠ 0)) (D U (AA (n:Int) 32)) (ms.length:Nat)):=by
   rw[e1,e2];exact hb
  have emask:D A5 ((D A5 (1*2^(min (A (D U (AA (n:Int) 32))) (Al .u32))))-1)=2^(n % 32)-1:=by
   have:min (A ((n % 32:Nat):Int)) (Al .u32)=n % 32:=by rw[F];show min (n % 32) 32=n % 32;omega
   have h31:(2:Int)^(n % 32)<=2147483648:=Gv (show n % 32<=31 by omega);rw[e2,this,CO,DL,DL];omega
  have ec4:D A5 ((T (Al .u32) (ms.getD (A (D R (As (n:Int) 32))) 0) &&& T (Al .u32) (D A5 ((D A5 (1*2^(min (A (D U (AA (n:Int) 32))) (Al .u32))))-1))).toNat)=ms.getD (n / 32) 0 % 2^(n % 32):=by
   rw[emask,e1,F];exact lX (AE tu _) (by omega)
  have hl:0<=4294967296^(n / 32)*(ms.getD (n / 32) 0 % 2^(n % 32))+Ac (ms.take (n / 32))/\4294967296^(n / 32)*(ms.getD (n / 32) 0 % 2^(n % 32))+Ac (ms.take (n / 32))<2^n:=by
   rw[hp];generalize (4294967296:Int)^(n / 32)=P at *
   generalize ms.getD (n / 32) 0 % 2^(n % 32)=z at *
   generalize (2:Int)^(n % 32)=S at *
   have a:=A3 (A0 hP) hm0;have b:=Ag (show z+1<=S by omega) (A0 hP);rw[CE,CN] at b;omega
  have hf:=fin (Ac Q) _ hl.1 hl.2 (by rw[hall,hp];grind);have hlost:(4294967296^(n / 32)*(ms.getD (n / 32) 0 % 2^(n % 32))+Ac (ms.take (n / 32)) ≠ 0)↔(Ac (ms.take (n / 32)) ≠ 0\/ms.getD (n / 32) 0 % 2^(n % 32) ≠ 0):=by
   have a:=A3 (A0 hP) hm0;by_cases hz:ms.getD (n / 32) 0 % 2^(n % 32)=0
   ·rw[hz,AC,DA];simp
   ·have:0<4294967296^(n / 32)*(ms.getD (n / 32) 0 % 2^(n % 32)):=Ba hP (by omega);constructor
    ·intro _;exact .inr hz
    ·intro _;omega
  by_cases hneg:neg=true
  ·subst hneg;have hrv:rv true Q = -Ac Q:=rfl;by_cases h0:Ac (ms.take (n / 32)) ≠ 0
   ·rw[hf,if_pos ⟨rfl,hlost.2 (.inl h0)⟩];have hmin:=NV (a := -Ac Q) (b:=1) (by rw[<- hrv];omega) (by decide);refine lI true (B (Ac (ms.take (n / 32)) ≠ 0)) xs (n:Nat) _ (ms.length-n / 32) (lm Q) _ (-Ac Q) _ (by rw[hms];exact c1) (by simpa using h0) rfl (by rw[hms];exact hmag) (by rw[hms];exact ha) (by rw[hms];exact hb2) hmk hof hmin
   ·by_cases h1:ms.getD (n / 32) 0 % 2^(n % 32)=0
    ·rw[hf,if_neg (fun h=>by rcases hlost.1 h.2 with g | g;exact h0 g;exact g h1),if_pos rfl];exact lM true (B (Ac (ms.take (n / 32)) ≠ 0)) xs (n:Nat) _ (ms.length-n / 32) (lm Q) _ (-Ac Q) (by rw[hms];exact c1) (by simpa using h0) rfl (by rw[hms,ec4,h1];rfl) (by rw[hms];exact hmag) (by rw[hms];exact ha) (by rw[hms];exact hb2) (by rw[hms,e1];omega) (by rw[e2];omega) hmk
    ·rw[hf,if_pos ⟨rfl,hlost.2 (.inr h1)⟩];have hmin:=NV (a := -Ac Q) (b:=1) (by rw[<- hrv];omega) (by decide);exact lL true (B (Ac (ms.take (n / 32)) ≠ 0)) xs (n:Nat) _ (ms.length-n / 32) (lm Q) _ (-Ac Q) _ (by rw[hms];exact c1) (by simpa using h0) rfl (by rw[hms,ec4];simpa using h1) (by rw[hms];exact hmag) (by rw[hms];exact ha) (by rw[hms];exact hb2) (by rw[hms,e1];omega) (by rw[e2];omega) hmk hof hmin
  ·have hneg':neg=false:=by cases neg <;> simp_all
   subst hneg';rw[hf,if_neg (by simp),if_neg (by simp)];by_cases h0:Ac (ms.take (n / 32)) ≠ 0
   ·exact lJ false (B (Ac (ms.take (n / 32)) ≠ 0)) xs (n:Nat) _ (ms.length-n / 32) (lm Q) _ (Ac Q) (by rw[hms];exact c1) (by simpa using h0) rfl (by rw[hms];exact hmag) (by rw[hms];exact ha) (by rw[hms];exact hb2) hmk
   ·exact lN false (B (Ac (ms.take (n / 32)) ≠ 0)) xs (n:Nat) _ (ms.length-n / 32) (lm Q) _ (Ac Q) (by rw[hms];exact c1) (by simpa using h0) rfl (by rw[hms];exact hmag) (by rw[hms];exact ha) (by rw[hms];exact hb2) (by rw[hms,e1];omega) (by rw[e2];omega) hmk
 ·-- nothing is left
  have c1:decide ((D R (As (n:Int) 32))<(ms.length:Int))=false:=by rw[e1];simp;omega
  have htake:ms.take (n / 32)=ms:=Ei (by omega);have hb:W I (.loop FF) (De neg xs (n:Nat) ms 0 [] (B (Ac (ms.take (n / 32)) ≠ 0)) (D U (AA (n:Int) 32)) (D R (As (n:Int) 32))) (.exit 2) (De neg xs (n:Nat) ms 0 [] (B (Ac (ms.take (n / 32)) ≠ 0)) (D U (AA (n:Int) 32)) (D R (As (n:Int) 32))) :=
   Am (XW neg xs _ ms _ _ _ _ _ c1) (by nofun)
  have hmk:=FR (neg:=neg) (xs:=[]) (fun x h=>(nomatch h)) (by simp);have hv0:rv neg ([]:List Int)=0:=by unfold rv;cases neg <;> rfl
  rw[hv0] at hmk;have hlt:Ac ms<2^n:=by
   have a:=D9 tu;have b:=Gb (show ms.length<=n / 32 by omega);rw[hp];have:=Ag (show (1:Int)<=2^(n % 32) by omega) (show (0:Int)<=4294967296^(n / 32) by omega);rw[CN] at this;omega
  have hf:=fin 0 (Ac ms) (AT tu) hlt (by rw[AC,DA]);by_cases hneg:neg=true
  ·subst hneg;by_cases h0:Ac ms ≠ 0
   ·rw[hf,if_pos ⟨rfl,h0⟩];have hmin:=NV (a:=0) (b:=1) (by decide) (by decide);exact lO true (B (Ac (ms.take (n / 32)) ≠ 0)) xs (n:Nat) _ 0 [] _ 0 _ (by rw[hms];exact c1) rfl (by rw[htake];simpa using h0) (by rw[hms];exact hmag) (by rw[hms];exact ha) (by rw[hms];exact hb) hmk hof hmin
   ·rw[hf,if_neg (fun h=>h0 h.2),if_pos rfl];exact lP true (B (Ac (ms.take (n / 32)) ≠ 0)) xs (n:Nat) _ 0 [] _ 0 (by rw[hms];exact c1) rfl (by rw[htake];simpa using h0) (by rw[hms];exact hmag) (by rw[hms];exact ha) (by rw[hms];exact hb) hmk
  ·have hneg':neg=false:=by cases neg <;> simp_all
   subst hneg';rw[hf,if_neg (by simp),if_neg (by simp)];exact lQ false (B (Ac (ms.take (n / 32)) ≠ 0)) xs (n:Nat) _ 0 [] _ 0 (by rw[hms];exact c1) rfl (by rw[hms];exact hmag) (by rw[hms];exact ha) (by rw[hms];exact hb) hmk
def TDB:Cm:=TDA
theorem mA:BY I TDB:=lW
theorem mB{xs:List Int}{d:Int}(hx:AL xs)(hd:0<d/\d<4294967296)(hN:xs.length<=1048576):∀ (i:Nat) (qs:List Int) (r:Int),i<=xs.length->qs.length=xs.length->AL qs->0<=r/\r<d->(∀ t,t<i->qs.getD t 0=0) ->
  ∃ qs' r',W I (.loop QH) (MC xs [d] xs.length qs r ((i:Int)-1)) (.exit 0) (MC xs [d] xs.length qs' r' (-1))/\qs'.length=xs.length/\AL qs'/\(0<=r'/\r'<d)/\d*Ac qs'+r'=d*Ac qs+4294967296^i*r+Ac (xs.take i):=by
 intro i;induction i with
 | zero =>
  intro qs r _ hl hu hr _;refine⟨qs,r,Am (yS xs [d] xs.length qs r _ (by simp)) (by nofun),hl,hu,hr,by simp[Ac]⟩
 | succ i ih =>
  intro qs r hi hl hu hr hz;have ei:(((i+1:Nat):Int)-1)=(i:Nat):=by omega
  have ej:D R ((i:Int)-1)=(i:Int)-1:=Bg (by omega) (by omega);have hxi:=AE hx i;have ed:([d]:List Int).getD (A 0) 0=d:=rfl;have hk:=yR xs [d] xs.length qs r (i:Nat) (by simp) (by omega) (by simp) (by rw[ed,C2 (by omega)];omega) (by omega) hl;rw[ej,F,ed,MA (by omega) hxi,C2 (n:=d) (by omega)] at hk;have hv0:0<=r*4294967296+xs.getD i 0:=by omega
  rw[B5 hv0,Bl hv0] at hk;generalize hv:r*4294967296+xs.getD i 0=v at *
  have hm:=Gs v d;have hm0:=Fy v (show d ≠ 0 by omega);have hm1:=El v hd.1;have hq0:0<=v / d:=Jn hv0 (by omega);have hq1:v / d<4294967296:=by
   apply Km hd.1;have:=Ae (show r<=d-1 by omega) (show (0:Int)<=4294967296 by omega);have:(d-1)*4294967296=4294967296*d-4294967296:=by omega
   omega
  rw[C2 (n:=v / d) (by omega),QR ⟨hq0,hq1⟩] at hk;obtain⟨qs',r',g1,g2,g3,g4,g5⟩:=ih (qs.set i (v / d)) (v % d) (by omega) (by simpa using hl) (Cq hu ⟨hq0,hq1⟩) ⟨hm0,hm1⟩ (fun t ht=>by rw[Co (by omega)];exact hz t (by omega));rw[ei];refine⟨qs',r',W.loop hk g1,g2,g3,g4,?_⟩;rw[g5,DE _ _ _ (by omega),hz i (by omega),DM xs i (by omega),Ax];generalize (4294967296:Int)^i=P at *
  have e2:xs.getD i 0=d*(v / d)+v % d-r*4294967296:=by omega
  rw[e2];grind
theorem mC{xs ys:List Int}{y:Int}{s:Nat}(hy0:ys ≠ [])(hyl:ys.length<=1048576)(hy:ys.getD (ys.length-1) 0=y)(hb:0<y)(hs:s<32)(h1:2147483648<=y*2^s)(h2:y*2^s<4294967296):∀ (r i:Nat),i+r=s ->
  W I (.loop QG) (KV xs ys (i:Nat)) (.exit 2) (KV xs ys (s:Nat)):=by
 have hpos:=Aj.2 hy0;have en:D R ((ys.length:Int)-1)=((ys.length-1:Nat):Int):=by rw[Bg (by omega) (by omega)];omega
 have cond:∀ i:Nat,i<=s->(D A5 ((T (Al .u32) (D A5 ((ys.getD (A (D R ((ys.length:Int)-1))) 0)*2^(min (A (D U (i:Int))) (Al .u32)))) &&& T (Al .u32) 2147483648).toNat)==0)=decide (y*2^i<2147483648):=by
  intro i hi;have em:min (A (i:Int)) (Al .u32)=i:=by rw[F];show min i 32=i;omega
  have hp:=Gv hi;have hp0:=BG i;have hle:=Ag hp (show 0<=y by omega);have hge:=A3 (show 0<=y by omega) (show (0:Int)<=2^i by omega);rw[C2 (n:=(i:Int)) (by omega),em,en,F,hy,QR (n:=y*2^i) (by omega)];exact A5j (by omega)
 intro r;induction r with
 | zero =>
  intro i hi;have:i=s:=by omega
  subst this;exact Am (yU xs ys _ (by rw[cond i (An _)];simp;omega) (by rw[en];omega) (by rw[C2 (by omega)];omega)) (by nofun)
 | succ r ih =>
  intro i hi;have ei:D R ((i:Int)+1)=((i+1:Nat):Int):=by rw[Bg (by omega) (by omega)];omega
  have hlt:y*2^i<2147483648:=by
   have hp:=Gv (show i+1<=s by omega);rw[Ax] at hp;have hle:=Ag hp (show 0<=y by omega);rw[<- A9] at hle;omega
  have k:=yT xs ys (i:Nat) (by rw[cond i (by omega)];simpa using hlt) (by rw[en];omega) (by rw[C2 (by omega)];omega);rw[ei] at k;exact W.loop k (ih (i+1) (by omega))
section
variable {k:Nat} {us vs:List Int} {kq:Nat} {qs:List Int} {s:Int} {j m:Nat}
theorem mD(hvl:vs.length=m+2)(hl:us.length=k)(hk:k<=1048577)(hj:j+m+2<k)(h:Dig m (Ac vs) (Ac (us.drop j)) (vs.getD (m+1) 0) (vs.getD m 0) (us.getD (j+m+2) 0) (us.getD (j+m+1) 0) (us.getD (j+m) 0)):∀ (f:Nat) (g r:Int),g.toNat<=f ->
  DigI (Ac vs) (Ac (us.drop j)) (vs.getD (m+1) 0) (us.getD (j+m+2) 0*4294967296+us.getD (j+m+1) 0) g r->r<4294967296 ->
  ∃ g' r',W I (.loop HC) (Ek k us vs ((m+2:Nat):Int) kq qs s (j:Nat) g r) (.exit 6) (Ek k us vs ((m+2:Nat):Int) kq qs s (j:Nat) g' r') /\
   (0<=g'/\g'<4294967296)/\Ac (us.drop j)<(g'+1)*Ac vs/\g'*Ac vs<Ac (us.drop j)+Ac vs:=by
 have ht:=h.htop;have hnx:=h.hnxt;have hz:=h.hz;have e1:D R (D R ((j:Int)+((m+2:Nat):Int))-2)=((j+m:Nat):Int):=by
  rw[Bg (n:=(j:Int)+((m+2:Nat):Int)) (by omega) (by omega),Bg (by omega) (by omega)];omega
 have e2:D R (((m+2:Nat):Int)-2)=(m:Int):=by rw[Bg (by omega) (by omega)];omega
 have e3:D R (((m+2:Nat):Int)-1)=((m+1:Nat):Int):=by rw[Bg (by omega) (by omega)];omega
 have et:D U (vs.getD (A (D R (((m+2:Nat):Int)-1))) 0)=vs.getD (m+1) 0:=by rw[e3,F,C2 (by omega)]
 have en:D U (vs.getD (A (D R (((m+2:Nat):Int)-2))) 0)=vs.getD m 0:=by rw[e2,F,C2 (by omega)]
 have n2:0<=D R (((m+2:Nat):Int)-2)/\D R (((m+2:Nat):Int)-2)<(vs.length:Int):=by rw[e2];omega
 have n1:0<=D R (((m+2:Nat):Int)-1)/\D R (((m+2:Nat):Int)-1)<(vs.length:Int):=by rw[e3];omega
 have nu:0<=D R (D R ((j:Int)+((m+2:Nat):Int))-2)/\D R (D R ((j:Int)+((m+2:Nat):Int))-2)<(k:Int):=by rw[e1];omega
 have ecmp:∀ g r:Int,0<=r->r<4294967296->0<=g*vs.getD m 0/\g*vs.getD m 0<18446744073709551616->(B (D U (g*(D U (vs.getD (A (D R (((m+2:Nat):Int)-2))) 0)))>D U ((T (Al .u64) (D U (r*2^(min (A 32) (Al .u64)))) ||| T (Al .u64) (D U (us.getD (A (D R (D R ((j:Int)+((m+2:Nat):Int))-2))) 0))).toNat)):Bool)=decide (r*4294967296+us.getD (j+m) 0<g*vs.getD m 0):=by
  intro g r hr0 hr hgn;rw[en,e1,F,MA ⟨hr0,hr⟩ hz,C2 hgn]
 intro f;induction f with
 | zero =>
  intro g r hf i hr;have hg:g=0:=by have:=i.g0;omega
  subst hg;have c2:¬ (r*4294967296+us.getD (j+m) 0<0*vs.getD m 0):=by have:=i.r0;omega
  have k5:=XX k us vs ((m+2:Nat):Int) kq qs s (j:Nat) 0 r (by simp) (by simpa using hr) (by
   rw[ecmp 0 r i.r0 hr (by omega),decide_eq_false_iff_not];exact c2) n2 nu hl
  exact⟨0,r,Am k5 (by nofun),by omega,i.up,h.out i (by omega) (Nq (by omega))⟩
 | succ f ih =>
  intro g r hf i hr;have hg1:=i.gle;have hg0:=i.g0;have hr0:=i.r0;have hgn:0<=g*vs.getD m 0/\g*vs.getD m 0<18446744073709551616:=by
   have a:=A3 hg0 hnx.1;have b:=DR hg1 (show vs.getD m 0<=4294967295 by omega) hnx.1 (by omega);omega
  have er:D U (r+(D U (vs.getD (A (D R (((m+2:Nat):Int)-1))) 0)))=r+vs.getD (m+1) 0:=by rw[et];exact C2 (by omega)
  by_cases hc:4294967296<=g\/r*4294967296+us.getD (j+m) 0<g*vs.getD m 0
  ·have i2:=h.step i hc;have hg2:=i2.g0;have eg:D U (g-1)=g-1:=C2 (by omega);by_cases hbig:4294967296<=r+vs.getD (m+1) 0
   ·have hgs:=h.small_g i2 hbig;have hrun:W I HC (Ek k us vs ((m+2:Nat):Int) kq qs s (j:Nat) g r) (.exit 6) (Ek k us vs ((m+2:Nat):Int) kq qs s (j:Nat) (D U (g-1)) (D U (r+(D U (vs.getD (A (D R (((m+2:Nat):Int)-1))) 0))))):=by
     by_cases hg:4294967296<=g
     ·exact yV k us vs _ kq qs s _ g r (by simpa using hg) (by rw[er];simpa using hbig) n1
     ·exact yX k us vs _ kq qs s _ g r (by simp;omega) (by simpa using hr) (by rw[ecmp g r hr0 hr hgn,decide_eq_true_eq];omega) (by rw[er];simpa using hbig) n2 nu hl n1
    rw[eg,er] at hrun;exact⟨g-1,_,Am hrun (by nofun),⟨hg2,hgs⟩,i2.up,h.out i2 hgs (tE hbig)⟩
   ·have hrun:W I HC (Ek k us vs ((m+2:Nat):Int) kq qs s (j:Nat) g r) .norm (Ek k us vs ((m+2:Nat):Int) kq qs s (j:Nat) (D U (g-1)) (D U (r+(D U (vs.getD (A (D R (((m+2:Nat):Int)-1))) 0))))):=by
     by_cases hg:4294967296<=g
     ·exact yW k us vs _ kq qs s _ g r (by simpa using hg) (by rw[er,decide_eq_false_iff_not];omega) n1
     ·exact yY k us vs _ kq qs s _ g r (by simp;omega) (by simpa using hr) (by rw[ecmp g r hr0 hr hgn,decide_eq_true_eq];omega) (by rw[er,decide_eq_false_iff_not];omega) n2 nu hl n1
    rw[eg,er] at hrun;obtain⟨g',r',a1,a2⟩:=ih (g-1) (r+vs.getD (m+1) 0) (by omega) i2 (by omega);exact⟨g',r',W.loop hrun a1,a2⟩
  ·have k5:=XX k us vs ((m+2:Nat):Int) kq qs s (j:Nat) g r (by simp;omega) (by simpa using hr) (by rw[ecmp g r hr0 hr hgn,decide_eq_false_iff_not];omega) n2 nu hl;exact⟨g,r,Am k5 (by nofun),by omega,i.up,h.out i (by omega) (Nq (by omega))⟩
end
section
variable {k:Nat} {vs:List Int} {kq:Nat} {qs:List Int} {s:Int} {j:Nat} {g:Int}
theorem mE(hv:AL vs)(hk:k<=1048577)(hg:0<=g/\g<4294967296)(hj:j+vs.length<=k):∀ (r i:Nat) (us:List Int) (b c:Int),r+i=vs.length->us.length=k->AL us->0<=b/\b<=1->0<=c/\c<4294967296 ->
  W I (.loop O8) (IN k us vs (vs.length:Nat) kq qs s (j:Nat) g b c (i:Nat)) (.exit 8) (IN k (F6 g vs j r i us b c).1 vs (vs.length:Nat) kq qs s (j:Nat) g (F6 g vs j r i us b c).2.1 (F6 g vs j r i us b c).2.2 (vs.length:Nat)):=by
 intro r;induction r with
 | zero =>
  intro i us b c hi _ _ _ _;have:i=vs.length:=by omega
  subst this;exact Am (zA k us vs _ kq qs s _ g b c _ (by simp)) (by nofun)
 | succ r ih =>
  intro i us b c hi hl hu hb hc;have ei:D R ((i:Int)+1)=((i+1:Nat):Int):=by rw[Bg (by omega) (by omega)];omega
  have eij:D R ((i:Int)+(j:Int))=((i+j:Nat):Int):=by rw[Bg (by omega) (by omega)];omega
  have hvi:=AE hv i;have hui:=AE hu (i+j);have hw:=VH hg hvi hc;have hgv:=A3 hg.1 hvi.1;have h1:=yZ k us vs (vs.length:Nat) kq qs s (j:Nat) g b c (i:Nat) (by simp;omega) (by omega) (by rw[eij];omega) hl;have ecc:c+g*vs.getD i 0=g*vs.getD i 0+c:=J' _ _;rw[eij,ei,F,F,C2 (n:=vs.getD i 0) (by omega),C2 (n:=us.getD (i+j) 0) (by omega),C2 (n:=g*vs.getD i 0) (by omega),ecc,C2 hw,XT,Apr] at h1;have emk:D U ((T (Al .u64) (g*vs.getD i 0+c) &&& T (Al .u64) 4294967295).toNat)=(g*vs.getD i 0+c) % 4294967296:=A5i (s:=32) hw (by decide);rw[emk] at h1;generalize hp:g*vs.getD i 0+c=p at *
  rw[B3,B3] at h1;have hstep:F6 g vs j (r+1) i us b c=F6 g vs j r (i+1) (us.set (i+j) ((us.getD (i+j) 0-p % 4294967296-b) % 4294967296)) (if us.getD (i+j) 0-p % 4294967296-b<0 then 1 else 0) (p / 4294967296):=by rw[F6,hp]
  generalize hd:us.getD (i+j) 0-p % 4294967296-b=d at *
  have e1:D A5 (((us.getD (i+j) 0-p % 4294967296) % 18446744073709551616-b) % 18446744073709551616)=d % 4294967296:=by rw[DL];omega
  have e2:((us.getD (i+j) 0-p % 4294967296) % 18446744073709551616-b) % 18446744073709551616 / 9223372036854775808=(if d<0 then 1 else 0):=by split <;> omega
  rw[e1,e2] at h1;rw[hstep];exact W.loop h1 (ih (i+1) _ _ _ (by omega) (by simpa using hl) (Cq hu (by omega)) (by split <;> omega) (by omega))
theorem mF(hv:AL vs)(hk:k<=1048577)(hj:j+vs.length<=k):∀ (r i:Nat) (us:List Int) (c:Int),r+i=vs.length->us.length=k->AL us->0<=c/\c<=1 ->
  W I (.loop QI) (KW k us vs (vs.length:Nat) kq qs s (j:Nat) g c (i:Nat)) (.exit 10) (KW k (HQ vs j r i us c).1 vs (vs.length:Nat) kq qs s (j:Nat) g (HQ vs j r i us c).2 (vs.length:Nat)):=by
 intro r;induction r with
 | zero =>
  intro i us c hi _ _ _;have:i=vs.length:=by omega
  subst this;exact Am (zC k us vs _ kq qs s _ g c _ (by simp)) (by nofun)
 | succ r ih =>
  intro i us c hi hl hu hc;have ei:D R ((i:Int)+1)=((i+1:Nat):Int):=by rw[Bg (by omega) (by omega)];omega
  have eij:D R ((i:Int)+(j:Int))=((i+j:Nat):Int):=by rw[Bg (by omega) (by omega)];omega
  have hvi:=AE hv i;have hui:=AE hu (i+j);have h1:=zB k us vs (vs.length:Nat) kq qs s (j:Nat) g c (i:Nat) (by simp;omega) (by rw[eij];omega) hl (by omega);have ecc:c+(us.getD (i+j) 0+vs.getD i 0)=us.getD (i+j) 0+vs.getD i 0+c:=J' _ _;rw[eij,ei,F,F,C2 (n:=vs.getD i 0) (by omega),C2 (n:=us.getD (i+j) 0) (by omega),C2 (n:=us.getD (i+j) 0+vs.getD i 0) (by omega),ecc,C2 (n:=us.getD (i+j) 0+vs.getD i 0+c) (by omega),XT,DL] at h1;exact W.loop h1 (ih (i+1) _ _ (by omega) (by simpa using hl) (Cq hu (by omega)) (by omega))
end
def TDC:Cm:=TDB
theorem mG:BY I TDC:=mA
section
variable {vs:List Int} {m:Nat} {k kq:Nat} {s:Int}
theorem zF(hv:AL vs)(hm:vs.length=m+2)(ht:2147483648<=vs.getD (m+1) 0)(hk:k=kq+vs.length)(hkb:k<=1048577):∀ (i:Nat) (us qs:List Int),i<=kq->us.length=k->AL us->qs.length=kq->AL qs->(∀ t,t<i->qs.getD t 0=0)->Ac (us.drop i)<Ac vs ->
  ∃ us' qs',W I (.loop NG) (I9 k us vs (vs.length:Nat) kq qs s ((i:Int)-1)) (.exit 4) (I9 k us' vs (vs.length:Nat) kq qs' s (-1)) /\
   us'.length=k/\AL us'/\qs'.length=kq/\AL qs'/\Ac us'<Ac vs/\Ac us=Ac vs*(Ac qs'-Ac qs)+Ac us':=by
 intro i;induction i with
 | zero =>
  intro us qs _ h1 h2 h3 h4 _ h6;exact⟨us,qs,Am (Aqs k us vs _ kq qs s _ (by simp)) (by nofun),h1,h2,h3,h4,h6,by rw[Tf,AC,DA]⟩
 | succ i ih =>
  intro us qs hi h1 h2 h3 h4 h5 h6;have ei:(((i+1:Nat):Int)-1)=(i:Nat):=by omega
  have ej:D R ((i:Int)-1)=(i:Int)-1:=Bg (by omega) (by omega);have en:D R ((i:Int)+(vs.length:Int))=((i+vs.length:Nat):Int):=by rw[Bg (by omega) (by omega)];omega
  have en1:D R (((i+vs.length:Nat):Int)-1)=((i+m+1:Nat):Int):=by rw[Bg (by omega) (by omega)];omega
  have ev1:D R ((vs.length:Int)-1)=((m+1:Nat):Int):=by rw[Bg (by omega) (by omega)];omega
  have hD:=sD (us:=us) (vs:=vs) (j:=i) (m:=m) h2 hv hm (by omega) ht h6;have hI:=hD.init;have hr1:=El (us.getD (i+m+2) 0*4294967296+us.getD (i+m+1) 0) (show 0<vs.getD (m+1) 0 by omega);have ht2:=hD.htop;have et:D U (vs.getD (A (D R ((vs.length:Int)-1))) 0)=vs.getD (m+1) 0:=by rw[ev1,F,C2 (by omega)]
  obtain⟨g,r,q1,q2,q3,q4⟩:=mD (k:=k) (kq:=kq) (qs:=qs) (s:=s) hm h1 hkb (by omega) hD _ _ _ (An _) hI (by omega);rw[<- hm] at q1;have hn0:0<=us.getD (i+m+2) 0*4294967296+us.getD (i+m+1) 0:=by have:=hD.hx;have:=hD.hy;omega
  have hq0:=hI.g0;have hq1:=hI.gle;have hl5:W I (.loop HC) (Ek k us vs (vs.length:Nat) kq qs s (i:Nat) (D U (As (D U ((T (Al .u64) (D U ((D U (us.getD (A (D R ((i:Int)+(vs.length:Int)))) 0))*2^(min (A 32) (Al .u64)))) ||| T (Al .u64) (D U (us.getD (A (D R ((D R ((i:Int)+(vs.length:Int)))-1))) 0))).toNat)) (D U (vs.getD (A (D R ((vs.length:Int)-1))) 0)))) (AA (D U ((T (Al .u64) (D U ((D U (us.getD (A (D R ((i:Int)+(vs.length:Int)))) 0))*2^(min (A 32) (Al .u64)))) ||| T (Al .u64) (D U (us.getD (A (D R ((D R ((i:Int)+(vs.length:Int)))-1))) 0))).toNat)) (D U (vs.getD (A (D R ((vs.length:Int)-1))) 0)))) (.exit 6) (Ek k us vs (vs.length:Nat) kq qs s (i:Nat) g r):=by
   rw[et,en,en1,F,F,show i+vs.length=i+m+2 by omega,C2 (n:=us.getD (i+m+2) 0) (by have:=hD.hx;omega),MA hD.hx hD.hy,B5 hn0,Bl hn0,C2 ⟨hq0,by omega⟩];exact q1
  have hms:=mE (k:=k) (kq:=kq) (qs:=qs) (s:=s) (j:=i) (g:=g) hv hkb q2 (by omega) vs.length 0 us 0 0 (by omega) h1 h2 (by omega) (by omega);have hmo:=VI (j:=i) q2 hv vs.length 0 us 0 0 (by omega) (by omega) h2 (by omega) (by omega);have hst:=Te h2 hv (j:=i) (by omega) h6 q2 q3 q4;generalize hM:F6 g vs i vs.length 0 us 0 0=M at *
  obtain⟨m1,m2,m3,m4,_,_⟩:=hmo;obtain⟨d1,d2⟩:=Aqf (AE m2 (i+vs.length)) m4 m3;dsimp only at hst;obtain⟨S1,S2⟩:=hst;have fin:∀ (ws:List Int) (q:Int),StepOk us vs ws i q->(0<=q/\q<4294967296)->W I NG (I9 k us vs (vs.length:Nat) kq qs s (i:Nat)) .norm (I9 k ws vs (vs.length:Nat) kq (qs.set i q) s ((i:Int)-1)) ->
    ∃ us' qs',W I (.loop NG) (I9 k us vs (vs.length:Nat) kq qs s (i:Nat)) (.exit 4) (I9 k us' vs (vs.length:Nat) kq qs' s (-1)) /\
   us'.length=k/\AL us'/\qs'.length=kq/\AL qs'/\Ac us'<Ac vs/\Ac us=Ac vs*(Ac qs'-Ac qs)+Ac us':=by
   intro ws q hs hq hrun;obtain⟨us',qs',a1,a2,a3,a4,a5,a6,a7⟩:=ih ws (qs.set i q) (by omega) (by rw[hs.len];exact h1) hs.u32 (by simpa using h3) (Cq h4 hq) (fun t ht=>by rw[Co (by omega)];exact h5 t (by omega)) hs.low;refine⟨us',qs',W.loop hrun a1,a2,a3,a4,a5,a6,?_⟩;have e:=hs.val;rw[DE _ _ _ (by omega),h5 i (by omega),EJ] at a7;generalize (4294967296:Int)^i=P at *
   grind
  have hn5:¬ D U (vs.getD (A (D R ((vs.length:Int)-1))) 0)=0:=by rw[et];omega
  rw[ei];by_cases hd:M.1.getD (i+vs.length) 0-M.2.2-M.2.1<0
  ·obtain⟨S2,hg1⟩:=S2 hd;have hu2:AL (M.1.set (i+vs.length) ((M.1.getD (i+vs.length) 0-M.2.2-M.2.1) % 4294967296)):=Cq m2 (by omega);have hab:=mF (k:=k) (kq:=kq) (qs:=qs) (s:=s) (j:=i) (g:=g-1) hv hkb (by omega) vs.length 0 (M.1.set (i+vs.length) ((M.1.getD (i+vs.length) 0-M.2.2-M.2.1) % 4294967296)) 0 (by omega) (by rw[AW,m1];exact h1) hu2 (by omega);have hao:=VJ (j:=i) hv vs.length 0 (M.1.set (i+vs.length) ((M.1.getD (i+vs.length) 0-M.2.2-M.2.1) % 4294967296)) 0 (by omega) (by rw[AW,m1];omega) hu2 (by omega);obtain⟨b1,b2,b3,_,_⟩:=hao;generalize hB:HQ vs i vs.length 0 (M.1.set (i+vs.length) ((M.1.getD (i+vs.length) 0-M.2.2-M.2.1) % 4294967296)) 0=Bb at *
   have eg:D U (g-1)=g-1:=C2 (by omega);have k1:=Aqq k us vs (vs.length:Nat) kq qs s (i:Nat) M.1 Bb.1 g r M.2.1 M.2.2 Bb.2 (by simp) (by rw[en,F,d1,if_pos hd];rfl) (by rw[en];omega) h1 (by rw[en,en1];omega) (by rw[ev1];omega) hn5 hl5 hms (by rw[m1];exact h1) (by rw[en,F,d2,eg];exact hab) (by rw[b1,AW,m1];exact h1) (by omega) h3;rw[en,F,eg,F,QR (n:=g-1) (by omega),ej,QR (n:=Bb.2) (by omega),DL] at k1;exact fin _ _ S2 (by omega) k1
  ·have k2:=Aqr k us vs (vs.length:Nat) kq qs s (i:Nat) M.1 g r M.2.1 M.2.2 (by simp) (by rw[en,F,d1,if_neg hd];rfl) (by rw[en];omega) h1 (by rw[en,en1];omega) (by rw[ev1];omega) hn5 hl5 hms (by rw[m1];exact h1) (by omega) h3;rw[en,F,F,d2,QR (n:=g) q2,ej] at k2;exact fin _ _ (S1 (by omega)) q2 k2
end
abbrev lz(n:Int):List Int:=G n.toNat
theorem zG{xs:List Int}(h:Fg xs):xs=lz (Ac xs):=by
 refine Sa h (Cc _) ?_;rw[Cn];have:=AT h.1;omega
theorem Azp{n:Int}(h:0<=n):G n.natAbs=lz n:=by unfold lz;congr 1;omega
theorem rvF(xs:List Int):rv false xs=Ac xs:=rfl
theorem cU{xs ys:List Int}(hx:Fg xs)(hy:Fg ys)(hy0:ys ≠ [])(h1:xs.length<1000000)(h2:ys.length<1000000) :
  H I 165 [sL lm xs,sL lm ys] (A6t [A6n (lz (Ac xs / Ac ys)).length (lm (lz (Ac xs / Ac ys))),A6n (lz (Ac xs % Ac ys)).length (lm (lz (Ac xs % Ac ys)))]):=by
 have hyl:=Aj.2 hy0;have hcmp:=NN hx hy (by omega);have hx0:=AT hx.1;have hyp:=I3 hy hy0;by_cases hlt:Ac xs<Ac ys
 ·rw[GC hx0 hlt,FY hx0 hlt,<- zG hx];exact lR xs ys _ (by unfold CC;rw[if_pos hlt];rfl) hcmp
 have hcm:decide (CC (Ac xs) (Ac ys)<0)=false:=by unfold CC;rw[if_neg hlt];split <;> rfl
 by_cases hone:ys.length=1
 ·obtain⟨y,rfl⟩:=A2c.1 hone;have e1:Ac [y]=y:=by simp[Ac]
  rw[e1] at hyp |-;have hyb:=hy.1 y (by simp);obtain⟨qs,r,q1,q2,q3,q4,q5⟩:=mB hx.1 (d:=y) ⟨hyp,hyb.2⟩ (by omega) xs.length (Ar xs.length 0) 0 (An _) (by simp) (EC _) (by omega) (fun t _=>Dx _ _);rw[Ez,E3,AC,AC,B2,DA] at q5;have hd:=(Lm hyp (a:=Ac xs) (r:=r) (q:=Ac qs)).2 ⟨by omega,q4.1,q4.2⟩;have ur:AL [r]:=fun x h=>by rw[Is.1 h];omega
  have er:Ac [r]=r:=by simp[Ac]
  have h:=lS xs [y] qs _ r (-1) xs.length hcm rfl hcmp (by omega) (by
   rw[F,EO,Bg (by omega) (by omega)];exact q1) (by rw[<- q2];exact DX (by omega)) (by rw[QR (n:=r) (by omega)];exact DX (xs:=[r]) (by simp))
  rw[QR (n:=r) (by omega),I5 q3,I5 ur,er,<- hd.1,<- hd.2] at h;exact h
 ·obtain⟨m,hm⟩:∃ m,ys.length=m+2:=⟨ys.length-2,by omega⟩;have hxl:ys.length<=xs.length:=by
   rcases Ck xs.length ys.length with g | g
   ·exact absurd (I6 hx hy g) hlt
   ·exact g
  have hyt:0<ys.getD (m+1) 0/\ys.getD (m+1) 0<4294967296:=by
   have a:=AE hy.1 (m+1);rcases hy.2 with g | g
   ·exact absurd g hy0
   ·rw[show ys.length-1=m+1 by omega] at g;omega
  obtain⟨s,hs,s1,s2,_⟩:=sE hyt;have hp:=BG s;have hU:=QQ (neg:=false) hx.1 s (by omega);have hV:=QQ (neg:=false) hy.1 s (by omega);rw[rvF] at hU hV;have hU0:0<=Ac xs*2^s:=A3 hx0 (by omega);have hV0:0<Ac ys*2^s:=Ba hyp hp;have eu:Ac (G (Ac xs*2^s).natAbs)=Ac xs*2^s:=by rw[Cn];omega
  have ev:Ac (G (Ac ys*2^s).natAbs)=Ac ys*2^s:=by rw[Cn];omega
  have cu:=Cc (Ac xs*2^s).natAbs;have cv:=Cc (Ac ys*2^s).natAbs;have hp2:(2:Int)^s<=2147483648:=by
   have:=Gv (show s<=31 by omega);rwa [show (2:Int)^31=2147483648 by decide] at this
  have ysplit:=Di ys (j:=m+1) (by omega);have yd:=Cy ys (m+1);rw[DF (xs:=ys) (i:=m+1+1) (by omega),AC,B2] at yd;rw[yd] at ysplit;have ylo:=FS hy.1 (m+1);have ylo0:=AT (DH hy.1 (m+1));have hP:=Cr (m+1);have hV1:2147483648*4294967296^(m+1)<=Ac ys*2^s:=by
   rw[ysplit];have a:=Ae s1 (show (0:Int)<=4294967296^(m+1) by omega);have b:=A3 (show (0:Int)<=2^s by omega) ylo0;have e:(Ac (B1 (m+1) ys)+4294967296^(m+1)*ys.getD (m+1) 0)*2^s=2^s*Ac (B1 (m+1) ys)+ys.getD (m+1) 0*2^s*4294967296^(m+1):=by grind
   omega
  have e9:(4294967296:Int)^(m+2)=4294967296^(m+1)*4294967296:=Ax _ _;have hV2:Ac ys*2^s<4294967296^(m+2):=by
   rw[ysplit];have e0:=QS (show s<=32 by omega);have a1:ys.getD (m+1) 0+1<=2^(32-s):=by
    rw[e0] at s2;have:=E1 s2 (by omega);omega
   have a2:=Ae a1 (show (0:Int)<=2^s*4294967296^(m+1) by have:=Ba hp hP;omega);have a3:=Hl ylo hp;have e1:(ys.getD (m+1) 0+1)*(2^s*4294967296^(m+1))=2^s*(4294967296^(m+1)*ys.getD (m+1) 0)+2^s*4294967296^(m+1):=by grind
   have e2:(2:Int)^(32-s)*(2^s*4294967296^(m+1))=4294967296^(m+1)*4294967296:=by rw[<- A9,<- e0,A8]
   rw[A8,CE];omega
  have hvl1:(G (Ac ys*2^s).natAbs).length<=m+2:=Ks cv (by rw[ev];exact hV2);have hvl2:m+2<=(G (Ac ys*2^s).natAbs).length:=by
   apply M';intro hh;have a:=D9 cv.1;rw[ev] at a;have b:=Gb (show (G (Ac ys*2^s).natAbs).length<=m+1 by omega);omega
  have hUlt:Ac xs*2^s<4294967296^(xs.length+1):=by
   have a:=D9 hx.1;have b:=B0 a hp;have c:=Ag hp2 (show (0:Int)<=4294967296^xs.length by have:=Cr xs.length;omega);have d:(4294967296:Int)^(xs.length+1)=4294967296^xs.length*4294967296:=Ax _ _;have e:=Cr xs.length;omega
  have hul1:(G (Ac xs*2^s).natAbs).length<=xs.length+1:=Ks cu (by rw[eu];exact hUlt);have hxne:xs ≠ []:=by intro e;rw[e,Jw] at hxl;omega
  have hul2:xs.length<=(G (Ac xs*2^s).natAbs).length:=by
   apply M';intro hh;have a:=D9 cu.1;rw[eu] at a;have b:=Gb (show (G (Ac xs*2^s).natAbs).length<=xs.length-1 by omega);have c:=OB hx hxne;have d:=Ag (show (1:Int)<=2^s by omega) hx0;omega
  have hul3:0<xs.length:=Aj.2 hxne;generalize hvs:G (Ac ys*2^s).natAbs=vs at *
  generalize hus:G (Ac xs*2^s).natAbs=us0 at *
  have hvl:vs.length=m+2:=by omega
  have u00:AL (us0++[0,0]):=fun x hh=>by
   rcases BR.1 hh with g | g
   ·exact cu.1 x g
   ·simp at g;omega
  have v00:Ac (us0++[0,0])=Ac xs*2^s:=by rw[Gk];simp[Ac,eu]
  have u2:AL ((us0++[0,0]).take (xs.length+1)):=DH u00 _;have u1:((us0++[0,0]).take (xs.length+1)).length=xs.length+1:=by simp;omega
  have u3:Ac ((us0++[0,0]).take (xs.length+1))=Ac xs*2^s:=by
   have a:=Di (us0++[0,0]) (j:=xs.length+1) (by simp;omega);rw[Jf u00 (n:=xs.length+1) (V:=4294967296^(xs.length+1)) (Dp _) (by rw[v00];exact hUlt),AC,B2,v00] at a;exact a.symm
  have elm:B1 ((xs.length+1)*1) (lm us0++([A6l A5 0,A6l A5 0]:List AV))=lm ((us0++[0,0]).take (xs.length+1)):=by
   simp[lm,R5]
  generalize hU':(us0++[0,0]).take (xs.length+1)=us at *
  have hvtop:2147483648<=vs.getD (m+1) 0:=by
   have a:=Di vs (j:=m+1) (by omega);have b:=Cy vs (m+1);rw[DF (xs:=vs) (i:=m+1+1) (by omega),AC,B2] at b;rw[b] at a;have c:=FS cv.1 (m+1);apply IX.1;intro h;have:=Ag (show vs.getD (m+1) 0+1<=2147483648 by omega) (show (0:Int)<=4294967296^(m+1) by omega);rw[CE,CN,A8 _ 2147483648] at this;omega
  have hini:Ac (us.drop (xs.length-ys.length+1))<Ac vs:=by
   have a:=Di us (j:=xs.length-ys.length+1) (by omega);have b:=AT (DH u2 (xs.length-ys.length+1));have c:=D9 hx.1;have d:=B0 c hp;have e:(4294967296:Int)^xs.length=4294967296^(xs.length-ys.length+1)*4294967296^(m+1):=by rw[<- BC];congr 1;omega
   have hQ:=Cr (xs.length-ys.length+1);rw[ev];apply Se (b:=2^s*4294967296^(m+1))
   ·apply EU (a:=4294967296^(xs.length-ys.length+1)) _ (by omega);have e2:(4294967296:Int)^(xs.length-ys.length+1)*(2^s*4294967296^(m+1))=4294967296^xs.length*2^s:=by rw[e];grind
    omega
   ·have:=Ae hp2 (show (0:Int)<=4294967296^(m+1) by omega);omega
  obtain⟨us',qs,l1,l2,l3,l4,l5,l6,l7⟩:=zF (k:=xs.length+1) (kq:=xs.length-ys.length+1) (s:=(s:Nat)) cv.1 hvl hvtop (by omega) (by omega) (xs.length-ys.length+1) us (Ar (xs.length-ys.length+1) 0) (An _) u1 u2 (by simp) (EC _) (fun t _=>Dx _ _) hini;rw[Ez,EJ,u3,ev] at l7;rw[ev] at l6;have hR:Ac us'=2^s*(Ac xs-Ac ys*Ac qs):=by
   rw[EG];have:2^s*(Ac ys*Ac qs)=Ac ys*2^s*Ac qs:=by grind
   rw[this,A8 (2^s) (Ac xs)];omega
  have us0':=AT l3;have hR0:0<=Ac xs-Ac ys*Ac qs:=by
   apply IX.1;intro h;have:=Ag (show Ac xs-Ac ys*Ac qs <= -1 by omega) (show (0:Int)<=2^s by omega);omega
  have hR1:Ac xs-Ac ys*Ac qs<Ac ys:=by
   rw[hR,A8 (Ac ys) (2^s)] at l6;exact EU l6 (by omega)
  have hd:=(Lm hyp (a:=Ac xs) (r:=Ac xs-Ac ys*Ac qs) (q:=Ac qs)).2 ⟨by omega,hR0,hR1⟩;have hdn:=VO (neg:=false) l3 s (by omega) (by omega);rw[rvF,hR,BP _ (show (2:Int)^s ≠ 0 by omega)] at hdn;have emx:(if (D R ((ys.length:Int)+1))>(D R ((xs.length:Int)+1)) then (D R ((ys.length:Int)+1)) else (D R ((xs.length:Int)+1)))=((xs.length+1:Nat):Int):=by
   rw[Bg (n:=(ys.length:Int)+1) (by omega) (by omega),Bg (n:=(xs.length:Int)+1) (by omega) (by omega),if_neg (by omega)];omega
  have esub:D R (((xs.length+1:Nat):Int)-(vs.length:Int))=((xs.length-ys.length+1:Nat):Int):=by rw[Bg (by omega) (by omega)];omega
  have esb1:D R (((xs.length-ys.length+1:Nat):Int)-1)=((xs.length-ys.length+1:Nat):Int)-1:=Bg (by omega) (by omega);have hz:=mC (xs:=xs) (ys:=ys) (y:=ys.getD (m+1) 0) (s:=s) hy0 (by omega) (by rw[show ys.length-1=m+1 by omega]) hyt.1 hs s1 s2 s 0 (by omega);have key:=lT xs ys qs us' vs (CC (Ac xs) (Ac ys)) (s:Nat) (vs.length:Nat) (-1) (Ac xs*2^s) (Ac ys*2^s) (Ac xs-Ac ys*Ac qs) (xs.length+1) (xs.length-ys.length+1) hcm (by simp;omega) hcmp hz hV (by rw[hus];omega) hU
   (by rw[hus,emx];omega) (by rw[emx,hvs,F,esub];omega) (by
    rw[hus,hvs,emx,F,esub,F,esb1,elm,EO];exact l1) (by rw[<- l4];exact DX (by omega)) (by rw[<- l2];exact hdn)
  rw[I5 l5,Azp hR0] at key;rw[hd.1,hd.2];exact key
def TDD:Cm:=TDC
theorem a:BY I TDD:=mG
def Lx(rs:List Rn)(n:Int):Ak:=(A6o (sL pc rs)::(Q 2 (A6o (A6l R n)::(Q 31 []))))
theorem Aqt(rs:List Rn)(n:Int)(c1:B (n>0)=true)(c2:((BL (O (rs.getD (A (D R (n-1))) z0)))==0)=true)(n1:0<=(D R (n-1))/\(D R (n-1))<(rs.length:Int))(n2:H I 79 [At (rs.getD (A (D R (n-1))) z0)] (A6l R (BL (O (rs.getD (A (D R (n-1))) z0))))):W I R8 (Lx rs n) .norm (Lx rs (D R (n-1))):=(C f 400 [.b true,.v (At (rs.getD (A (D R (n-1))) z0)),.r (A6l R (BL (O (rs.getD (A (D R (n-1))) z0)))),.b true] [0,3] (P c1 (P n1 (P (x n1) (P n2 (P c2 a0))))))
theorem Aqu(rs:List Rn)(n:Int)(c1:B (n>0)=true)(c2:((BL (O (rs.getD (A (D R (n-1))) z0)))==0)=false)(n1:0<=(D R (n-1))/\(D R (n-1))<(rs.length:Int))(n2:H I 79 [At (rs.getD (A (D R (n-1))) z0)] (A6l R (BL (O (rs.getD (A (D R (n-1))) z0))))):W I R8 (Lx rs n) (.exit 0) (Lx rs n):=(C f 400 [.b true,.v (At (rs.getD (A (D R (n-1))) z0)),.r (A6l R (BL (O (rs.getD (A (D R (n-1))) z0)))),.b false] [0,3] (P c1 (P n1 (P (x n1) (P n2 (P c2 a0))))))
theorem Aqv(rs:List Rn)(n:Int)(c1:B (n>0)=false):W I R8 (Lx rs n) (.exit 0) (Lx rs n):=(C f 400 [.b false,.b false] [0,3] (P c1 (P FA a0)))
def MD(rs:List Rn)(n:Int)(k:Nat)(cs:List AV)(i:Int):Ak:=(A6o (sL pc rs)::(Q 2 (A6o (A6l R n)::(A6q 2 k cs::(A6o (A6l R i)::(Q 29 []))))))
theorem Aqw(rs:List Rn)(n:Int)(k:Nat)(cs:List AV)(i:Int)(c1:B (i<n)=true)(n1:0<=i/\i<(rs.length:Int))(n2:k+1<=1048576)(n3:H I 97 [At (rs.getD (A i) z0)] (o (O (rs.getD (A i) z0)))):W I U3 (MD rs n k cs i) .norm (MD rs n (k+1) (cs++([A6m (B ((O (rs.getD (A i) z0))<0)),A6n ((G (E (O (rs.getD (A i) z0)))).length) (lm (G (E (O (rs.getD (A i) z0)))))]:List AV)) (D R (i+1))):=(C f 400 [.b true,.v (At (rs.getD (A i) z0)),.r (o (O (rs.getD (A i) z0)))] [0,3,4,5] (P c1 (P n1 (P (x n1) (P n3 (P (show Bk ([A6m (B ((O (rs.getD (A i) z0))<0)),A6n ((G (E (O (rs.getD (A i) z0)))).length) (lm (G (E (O (rs.getD (A i) z0)))))]:List AV)=1*2 from rfl) (P n2 a0)))))))
theorem Aqx(rs:List Rn)(n:Int)(k:Nat)(cs:List AV)(i:Int)(c1:B (i<n)=false):W I U3 (MD rs n k cs i) (.exit 2) (MD rs n k cs i):=(C f 400 [.b false] [0,3,4,5] (P c1 a0))
theorem Azq(rs:List Rn)(n i:Int)(k:Nat)(cs:List AV)(hl1:W I (.loop R8) (Lx rs (rs.length:Int)) (.exit 0) (Lx rs n))(hl2:W I (.loop U3) (MD rs n 0 ([]:List AV) 0) (.exit 2) (MD rs n k cs i)):H I 46 [sL pc rs] (A6p 2 k cs):=X (fn:=aI) (s:=(Q 2 (A6q 2 k cs::(Q 32 [])))) (ex := .ret) rfl rfl (L (W.seq (C f 400 [] [0,3] a0) (W.seq (W.block hl1) (q (W.seq (C f 400 [] [0,3,4,5] a0) (W.seq (W.block hl2) (C f 400 [] [2] a0))))))) (by nofun) rfl
def Tg(ts:List Rn)(r:Rn)(e:Int)(w:Rn)(i:Int):Ak:=(Q 2 (A6o (A6l R e)::(Q 1 (A6s [A6m r.1,A6n r.2.length (lm r.2)]::(Q 1 (A6s [A6m false,A6n 0 []]::(A6o (sL pc ts)::(A6s [A6m w.1,A6n w.2.length (lm w.2)]::(A6o (A6l R i)::(Q 27 []))))))))))
theorem Azr(ts:List Rn)(r:Rn)(e:Int)(w:Rn)(i:Int)(u:Int)(c1:B (i>=0)=true)(n1:0<=i/\i<(ts.length:Int))(n2:H I 96 [At w,At r] (o ((O w)*(O r))))(n3:H I 84 [At (ts.getD (A i) z0),A6l R (D R (e*(D R ((D R ((ts.length:Int)-1))-i))))] (C6 u))(n4:H I 95 [o ((O w)*(O r)),o u] (o (((O w)*(O r))+u))):W I aV (Tg ts r e w i) .norm (Tg ts r e (cn (((O w)*(O r))+u)) (D R (i-1))):=(C f 400 [.b true,.r (o ((O w)*(O r))),.v (At (ts.getD (A i) z0)),.r (C6 u),.r (o (((O w)*(O r))+u))] [2,4,6,7,8,9] (P c1 (P n2 (P n1 (P (x n1) (P n3 (P n4 a0)))))))
theorem Azs(ts:List Rn)(r:Rn)(e:Int)(w:Rn)(i:Int)(c1:B (i>=0)=false):W I aV (Tg ts r e w i) (.exit 0) (Tg ts r e w i):=(C f 400 [.b false] [2,4,6,7,8,9] (P c1 a0))
theorem Azt(rs ts:List Rn)(r w:Rn)(e i:Int)(n1:H I 46 [sL pc rs] (A6p 2 ts.length (pc ts)))(hl2:W I (.loop aV) (Tg ts r e (false,[]) (D R ((ts.length:Int)-1))) (.exit 0) (Tg ts r e w i)):H I 80 [sL pc rs,At r,A6l R e] (At w):=X (fn:=aW) (s:=(Q 6 (A6s [A6m w.1,A6n w.2.length (lm w.2)]::(Q 30 [])))) (ex := .ret) rfl rfl (L (L (q (W.seq (C f 400 [.r (A6p 2 ts.length (pc ts))] [2,4,6,7,8,9] (P n1 a0)) (W.seq (W.block hl2) (C f 400 [] [6] a0)))))) (by nofun) rfl
theorem cV(rs:List Rn)(r:Rn):pc rs++([A6m r.1,A6n r.2.length (lm r.2)]:List AV)=pc (rs++[r]):=by rw [M3];rfl
theorem Nc(g:Nat->Rn)(i:Nat):(Ao (i+1)).map g=(Ao i).map g++[g i]:=by rw [Hi,Ef];rfl
theorem zH{rs:List Rn}(hg:∀ r∈rs,AN 1048576 r)(hN:rs.length<=1048576):∀ m,m<=rs.length->W I (.loop R8) (Lx rs (m:Nat)) (.exit 0) (Lx rs (l (M rs) m:Nat)):=by
 intro m;induction m with
 | zero=>intro _;exact Am (Aqv rs ((0:Nat):Int) (by simp)) (by nofun)
 | succ m ih =>
  intro hm;have e1:D R (((m+1:Nat):Int)-1)=(m:Int):=by rw[Bg (by omega) (by omega)];omega
  obtain⟨g1,g2⟩:=Be hg m;have hs:=Gm (neg:=(rs.getD m z0).1) g1 g2;simp only[l];rw[C9];by_cases h0:O (rs.getD m z0)=0
  ·rw[if_pos h0];have k:=Aqt rs ((m+1:Nat):Int) (by simp) (by rw[e1,F,h0];rfl) (by rw[e1];omega) (by simp only[e1,F];exact hs);rw[e1] at k;exact W.loop k (ih (by omega))
  ·rw[if_neg h0];exact Am (Aqu rs ((m+1:Nat):Int) (by simp) (by rw[e1,F,beq_eq_false_iff_ne];unfold BL; (repeat' split) <;> omega) (by rw[e1];omega) (by simp only[e1,F];exact hs)) (by nofun)
theorem zI{rs:List Rn}(hg:∀ r∈rs,AN 1048576 r)(hN:rs.length<=1048576)(n:Nat)(hn:n<=rs.length) :
  W I (.loop U3) (MD rs (n:Nat) 0 [] 0) (.exit 2) (MD rs (n:Nat) n (pc ((Ao n).map fun j=>cn (O (rs.getD j z0)))) (n:Nat)):=by
 refine W.up (fun i=>MD rs (n:Nat) i (pc ((Ao i).map fun j=>cn (O (rs.getD j z0)))) (i:Nat)) n (by nofun) ?_ ?_ 0 (Bv _)
 ·intro i hi;have ei:D R ((i:Int)+1)=((i+1:Nat):Int):=by rw[Bg (by omega) (by omega)];omega
  obtain⟨g1,g2⟩:=Be hg i;have k:=Aqw rs (n:Nat) i (pc ((Ao i).map fun j=>cn (O (rs.getD j z0)))) (i:Nat) (by simp;omega) (by omega) (by omega) (by simp only[F];exact VE g1 g2);refine k.to rfl ?_;simp only[F,ei];rw[Nc,<- cV];rfl
 ·exact Aqx rs (n:Nat) n _ (n:Nat) (by simp)
theorem E_{rs:List Rn}(hg:∀ r∈rs,AN 1048576 r)(hN:rs.length<=1048576):H I 46 [sL pc rs] (A6p 2 (Y (M rs)).length (pk (Y (M rs)))):=by
 have hle:=GG (M rs) rs.length;have hlen:(Y (M rs)).length=l (M rs) rs.length:=by rw[Fs,s]
 have h:=Azq rs _ _ _ _ (zH hg hN rs.length (An _)) (zI hg hN _ hle);have e3:(Ao (l (M rs) rs.length)).map (fun j=>cn (O (rs.getD j z0)))=(Y (M rs)).map cn:=by
  rw[<- Sb,hlen];apply F_;intro i _;rw[CG,C9]
 (first|rw[e3,<- hlen] at h|(rw[e3] at h;unfold sL at h;rw[<- hlen] at h));exact h
theorem PY(e:Nat):Bj (e / 32+1) ((2:Int)^e):=by
 unfold Bj;have h1:((2:Int)^e).natAbs=2^e:=by rw[Np];rfl
 have h2:(4294967296:Nat)^(e / 32+1)=2^(32*(e / 32+1)):=by rw[A6e]
 rw[h1,h2];exact PZ (by decide) (by omega)
theorem VP{K X:Nat}{x:Int}(hx:Bj X x)(e:Nat):∀ {ts:List Int},(∀ t∈ts,Bj K t)->Bj (K+1+ts.length*(X+(e / 32+1)+1)) (hv ts x (2^e))
 | [],_=>GH _
 | t::ts,h=>by
  have ih:=VP (K:=K) hx e (ts:=ts) fun y hy=>h y (AS _ hy);have h1:Bj (K+(e*ts.length / 32+1)) (t*((2:Int)^e)^ts.length):=by
   rw[<- iM];exact (h t AZ).mul (PY _)
  have h2:=hx.mul ih;have hb:e*ts.length / 32<=ts.length*(e / 32+1):=by
   have:e*ts.length<=32*(ts.length*(e / 32+1)):=by
    have h3:e<=32*(e / 32+1):=by omega
    calc e*ts.length<=(32*(e / 32+1))*ts.length:=AD _ h3
     _=32*(ts.length*(e / 32+1)):=by rw[EA,CM (e / 32+1)]
   omega
  have hb2:ts.length*(e / 32+1)<=ts.length*(X+(e / 32+1)+1):=z _ (by omega);have h3:=(h1.mono (k:=K+1+ts.length*(X+(e / 32+1)+1)+X+(e / 32+1)) (by omega)).add (h2.mono (by omega));simp only[hv,Bq,DN,EV];exact h3.mono (by omega)
theorem Aqy{K X:Nat}{ts:List Rn}{r:Rn}(ht:∀ t∈ts,AN K t)(hr:AN X r)(e:Nat)(hS:K+2+(ts.length+1)*(X+(e / 32+1)+1)<=1048576)(he:e<=1073741824) :
  ∀ n (w:Rn),n<=ts.length->O w=hv ((M ts).drop n) (O r) (2^e)->AN (K+1+(ts.length-n)*(X+(e / 32+1)+1)) w -> 
  ∃ w',O w'=hv (M ts) (O r) (2^e)/\(w'=w/\n=0\/w'=cn (hv (M ts) (O r) (2^e)))/\W I (.loop aV) (Tg ts r (e:Nat) w ((n:Int)-1)) (.exit 0) (Tg ts r (e:Nat) w' (-1)):=by
 intro n;induction n with
 | zero =>
  intro w _ hw _;refine⟨w,by simpa using hw,.inl ⟨rfl,rfl⟩,?_⟩;exact Am (Azs ts r (e:Nat) w (((0:Nat):Int)-1) (by simp)) (by nofun)
 | succ n ih =>
  intro w hn hw gw;obtain⟨t1,t2⟩:=Be ht n;have e0:((n+1:Nat):Int)-1=(n:Int):=by omega
  have hK1:(ts.length-(n+1))*(X+(e / 32+1)+1)+(X+(e / 32+1)+1)=(ts.length-n)*(X+(e / 32+1)+1):=by
   rw[show ts.length-n=ts.length-(n+1)+1 by omega,DN,EV]
  have hK2:(ts.length-n)*(X+(e / 32+1)+1)<=(ts.length+1)*(X+(e / 32+1)+1):=AD _ (by omega);have hsh:e*(ts.length-1-n) / 32<=(ts.length-(n+1))*(X+(e / 32+1)+1):=by
   have h3:e<=32*(e / 32+1):=by omega
   have h4:e*(ts.length-1-n)<=32*((ts.length-(n+1))*(e / 32+1)):=by
    calc e*(ts.length-1-n)<=(32*(e / 32+1))*(ts.length-1-n):=AD _ h3
     _=32*((ts.length-(n+1))*(e / 32+1)):=by rw[EA,CM (e / 32+1),show ts.length-1-n=ts.length-(n+1) by omega]
   have h5:(ts.length-(n+1))*(e / 32+1)<=(ts.length-(n+1))*(X+(e / 32+1)+1):=z _ (by omega);omega
  have w1:D R ((e:Int)*D R (D R ((ts.length:Int)-1)-(n:Int)))=((e*(ts.length-1-n):Nat):Int):=by
   have hle:ts.length<=1048576:=by
    have:ts.length*1<=(ts.length+1)*(X+(e / 32+1)+1):=Bu (by omega) (by omega);omega
   rw[Bg (n:=(ts.length:Int)-1) (by omega) (by omega),Bg (n:=(ts.length:Int)-1-(n:Int)) (by omega) (by omega)];have e3:(ts.length:Int)-1-(n:Int)=((ts.length-1-n:Nat):Int):=by omega
   rw[e3,<- CZ];have:e*(ts.length-1-n)<=1073741824*1048576:=Bu he (by omega);exact Bg (by omega) (by omega)
  have w2:D R ((n:Int)-1)=(n:Int)-1:=by
   have hle:ts.length<=1048576:=by
    have:ts.length*1<=(ts.length+1)*(X+(e / 32+1)+1):=Bu (by omega) (by omega);omega
   exact Bg (by omega) (by omega)
  have hst:hv ((M ts).drop n) (O r) (2^e)=O w*O r+O (ts.getD n z0)*2^(e*(ts.length-1-n)):=by
   have h1:(M ts).drop n=(M ts).getD n 0::(M ts).drop (n+1):=by
    rw[CV (by rw[s];omega)];congr 1;rw[Z,Af (by rw[s];omega)];rfl
   rw[h1,hv,C9,Eh,s,<- hw,<- iM,show ts.length-(n+1)=ts.length-1-n by omega];generalize O (ts.getD n z0)*2^(e*(ts.length-1-n))=A;grind
  have fw:=gw.fits;have fp:=(fw.mul hr.fits);have ft:Bj (K+(e*(ts.length-1-n) / 32+1)) (O (ts.getD n z0)*2^(e*(ts.length-1-n))):=(Be ht n).fits.mul (PY _);have hgood:AN (K+1+(ts.length-n)*(X+(e / 32+1)+1)) (cn (O w*O r+O (ts.getD n z0)*2^(e*(ts.length-1-n)))):=by
   refine (B9 ((fp.mono (k:=K+1+(ts.length-(n+1))*(X+(e / 32+1)+1)+X+(e / 32+1)) (by omega)).add (ft.mono (by omega)))).mono (by omega)
  obtain⟨w',q1,q2,q3⟩:=ih (cn (O w*O r+O (ts.getD n z0)*2^(e*(ts.length-1-n)))) (by omega) (by rw[u,hst]) hgood;refine⟨w',q1,.inr ?_,?_⟩
  ·rcases q2 with ⟨g1,g2⟩ | g
   ·rw[g1];rw[g1,u] at q1;rw[q1]
   ·exact g
  ·rw[e0];have l1:=fp.len;have l2:=ft.len;obtain⟨gw1,gw2⟩:=gw;have k:=Azr ts r (e:Nat) w (n:Nat) (O (ts.getD n z0)*2^(e*(ts.length-1-n))) (by simp) (by omega)
    (NS gw1 hr.1 (by have:=hr.2;omega))
    (by rw[w1,F];exact QQ t1 _ (by omega))
    (by
     have:=PU (na:=decide (O w*O r<0)) (nb:=decide (O (ts.getD n z0)*2^(e*(ts.length-1-n))<0)) (BK (O w*O r).natAbs) (BK (O (ts.getD n z0)*2^(e*(ts.length-1-n))).natAbs) (by omega) (by omega);rw[Fr,Fr] at this;exact this)
   rw[w2] at k;exact W.loop k q3
theorem Th{K X:Nat}{rs:List Rn}{r:Rn}(ht:∀ t∈rs,AN K t)(hr:AN X r)(e:Nat)(hS:K+2+(rs.length+1)*(X+(e / 32+1)+1)<=1048576)(he:e<=1073741824) :
  H I 80 [sL pc rs,A6r [A6m r.1,A6n r.2.length (lm r.2)],A6l R (e:Nat)] (o (hv (Y (M rs)) (O r) (2^e))):=by
 have hle:rs.length<=1048576:=by
  have:rs.length*1<=(rs.length+1)*(X+(e / 32+1)+1):=Bu (by omega) (by omega);omega
 have hK:K<=1048576:=by omega
 have htr:=E_ (fun r h=>(ht r h).mono hK) hle;have hl:=Bf (M rs);rw[s] at hl;have gts:∀ t∈(Y (M rs)).map cn,AN K t:=LL (GJ (Cs ht));have hS2:K+2+(((Y (M rs)).map cn).length+1)*(X+(e / 32+1)+1)<=1048576:=by
  have:(((Y (M rs)).map cn).length+1)*(X+(e / 32+1)+1)<=(rs.length+1)*(X+(e / 32+1)+1):=AD _ (by simp;omega);omega
 obtain⟨w',q1,q2,q3⟩:=Aqy gts hr e hS2 he ((Y (M rs)).map cn).length z0 (An _) (by
  rw[v,N,JC];rfl) (LJ _)
 rw[v] at q1 q2;have e1:D R (((((Y (M rs)).map cn).length:Nat):Int)-1)=((((Y (M rs)).map cn).length:Nat):Int)-1:=Bg (by omega) (by rw[N];omega);have hcn:w'=cn (hv (Y (M rs)) (O r) (2^e)):=by
  rcases q2 with ⟨g1,g2⟩ | g
  ·(first|rw[N] at g2|(unfold sL at g2;rw[N] at g2));rw[g1,A1 g2];rfl
  ·exact g
 (first|rw[<- N (f:=cn)] at htr|(unfold sL at htr;rw[<- N (f:=cn)] at htr));have h:=Azt rs ((Y (M rs)).map cn) r w' (e:Nat) (-1) htr (by rw[e1];exact q3);rw[hcn] at h;exact h
def KX(na:Bool)(nb:Bool)(la:Nat)(xa:List AV)(lb:Nat)(xb:List AV)(n:Nat)(cs:List AV)(i:Int)(x:Int)(c:Int)(k:Int):Ak:=(Q 4 (A6s [A6m false,A6n 0 []]::(A6o (A6m na)::(Q 1 (A6o (A6m nb)::(A6o (A6n lb xb)::(A6q 1 n cs::(A6o (A6l R i)::(A6o (A6l A5 x)::(A6o (A6l U c)::(Q 28 (A6o (A6n la xa)::(A6o (A6l R (la:Int))::(A6o (A6l R i)::(Q 4 (A6o (A6n lb xb)::(A6o (A6l R (lb:Int))::(A6o (A6l R k)::(Q 43 [])))))))))))))))))))
theorem zJ(na:Bool)(nb:Bool)(la:Nat)(xa:List AV)(lb:Nat)(xb:List AV)(n:Nat)(cs:List AV)(i:Int)(x:Int)(c:Int)(k:Int)(ds:List AV)(y z:Int)(c1:B (k<(lb:Int))=true)(n1:0<=k/\k<(lb:Int))(n2:Bm (g (A k*1) xb) 0 1 true=some (A6l A5 y))(n3:0<=(D R (i+k))/\(D R (i+k))<(n:Int))(n4:Bm cs (A (D R (i+k))*1) 1 true=some (A6l A5 z))(n5:0<=(D R (i+k))/\(D R (i+k))<(n:Int))(n6:Cu cs (A (D R (i+k))*1) [A6l A5 (D A5 (D U ((D U ((D U ((D U x)*(D U y)))+(D U z)))+c)))]=some ds):W I QC (KX na nb la xa lb xb n cs i x c k) .norm (KX na nb la xa lb xb n ds i x (d (D U ((D U ((D U ((D U x)*(D U y)))+(D U z)))+c)) (2^(min (A 32) (Al .u64)))) (D R (k+1))):=C m 300 [.b true,.v (A6l A5 y),.v (A6l A5 z),.l ds] [4,5,7,8,9,10,11,12,41,42,43,48,49,50] (P c1 (P n1 (P n2 (P n3 (P n4 (P HX (P n5 (P n6 a0)))))))) (by kernel_rfl)
theorem zK(na:Bool)(nb:Bool)(la:Nat)(xa:List AV)(lb:Nat)(xb:List AV)(n:Nat)(cs:List AV)(i:Int)(x:Int)(c:Int)(k:Int)(c1:B (k<(lb:Int))=false):W I QC (KX na nb la xa lb xb n cs i x c k) (.exit 2) (KX na nb la xa lb xb n cs i x c k):=C m 300 [.b false] [4,5,7,8,9,10,11,12,41,42,43,48,49,50] (P c1 a0) (by kernel_rfl)
def NX(na:Bool)(nb:Bool)(la:Nat)(xa:List AV)(lb:Nat)(xb:List AV)(n:Nat)(cs:List AV)(i:Int):Ak:=(Q 4 (A6s [A6m false,A6n 0 []]::(A6o (A6m na)::(Q 1 (A6o (A6m nb)::(A6o (A6n lb xb)::(A6q 1 n cs::(Q 31 (A6o (A6n la xa)::(A6o (A6l R (la:Int))::(A6o (A6l R i)::(Q 50 []))))))))))))
theorem mH(na nb:Bool)(la:Nat)(xa:List AV)(lb:Nat)(xb:List AV)(n:Nat)(cs:List AV)(i:Int)(h:(B (i<(la:Int)))=false):W I UE (NX na nb la xa lb xb n cs i) (.exit 0) (NX na nb la xa lb xb n cs i):=C m 300 [.b false] [4,5,7,8,9,41,42,43] (P (show (B (i<(la:Int)))=false from h) a0) (by kernel_rfl)
theorem cW(na nb:Bool)(la:Nat)(xa:List AV)(lb:Nat)(xb:List AV)(n:Nat)(cs ds es:List AV)(i x c k:Int)(h:(B (i<(la:Int)))=true)(hi:0<=i/\i<(la:Int))(hx:Bm (g (A i*1) xa) 0 1 true=some (A6l A5 x))(hl:W I (.loop QC) (KX na nb la xa lb xb n cs i x 0 0) (.exit 2) (KX na nb la xa lb xb n ds i x c k))(hix:0<=D R (i+(lb:Int))/\D R (i+(lb:Int))<(n:Int))(hst:Cu ds (A (D R (i+(lb:Int)))*1) [A6l A5 (D A5 c)]=some es):W I UE (NX na nb la xa lb xb n cs i) .norm (NX na nb la xa lb xb n es (D R (i+1))):=(W.seq (C (t:=(Q 4 (A6s [A6m false,A6n 0 []]::(A6o (A6m na)::(Q 1 (A6o (A6m nb)::(A6o (A6n lb xb)::(A6q 1 n cs::(Q 31 (A6o (A6n la xa)::(vi (la:Int)::(vi i::(A6o (A6m (B (i<(la:Int))))::(Q 49 [])))))))))))))) m 300 [] [4,5,7,8,9,41,42,43,44] a0) (W.seq (C (t:=(Q 4 (A6s [A6m false,A6n 0 []]::(A6o (A6m na)::(Q 1 (A6o (A6m nb)::(A6o (A6n lb xb)::(A6q 1 n cs::(Q 31 (A6o (A6n la xa)::(vi (la:Int)::(vi i::(A6o (A6m (B (i<(la:Int))))::(Q 49 [])))))))))))))) m 300 [.b true] [4,5,7,8,9,41,42,43,44] (P (show (B (i<(la:Int)))=true from h) a0)) (W.seq (Ci (W.seq (C (t:=(Q 4 (A6s [A6m false,A6n 0 []]::(A6o (A6m na)::(Q 1 (A6o (A6m nb)::(A6o (A6n lb xb)::(A6q 1 n cs::(vi i::(A6o (A6l A5 x)::(Q 29 (A6o (A6n la xa)::(vi (la:Int)::(vi i::(A6o (A6m (B (i<(la:Int))))::(vi i::(.mem (g (A i*1) xa)::(A6o (A6l A5 x)::(Q 46 []))))))))))))))))))) m 300 [.v (A6l A5 x)] [4,5,7,8,9,10,11,41,42,43,44,45,46,47] (P (show 0<=i/\i<(la:Int) from hi) (P (show Bm (g (A i*1) xa) 0 1 true=some (A6l A5 x) from hx) a0))) (W.seq (C (t:=(Q 4 (A6s [A6m false,A6n 0 []]::(A6o (A6m na)::(Q 1 (A6o (A6m nb)::(A6o (A6n lb xb)::(A6q 1 n cs::(vi i::(A6o (A6l A5 x)::(A6o (A6l U 0)::(Q 28 (A6o (A6n la xa)::(vi (la:Int)::(vi i::(A6o (A6m (B (i<(la:Int))))::(vi i::(.mem (g (A i*1) xa)::(A6o (A6l A5 x)::(Q 46 [])))))))))))))))))))) m 300 [] [4,5,7,8,9,10,11,12,41,42,43,44,45,46,47] a0) (W.seq (W.seq (C (t:=(Q 4 (A6s [A6m false,A6n 0 []]::(A6o (A6m na)::(Q 1 (A6o (A6m nb)::(A6o (A6n lb xb)::(A6q 1 n cs::(vi i::(A6o (A6l A5 x)::(A6o (A6l U 0)::(Q 28 (A6o (A6n la xa)::(vi (la:Int)::(vi i::(Q 4 (A6o (A6n lb xb)::(vi (lb:Int)::(vi 0::(Q 43 [])))))))))))))))))))) m 300 [] [4,5,7,8,9,10,11,12,41,42,43,48,49,50] a0) (W.block hl)) (C (t:=(Q 4 (A6s [A6m false,A6n 0 []]::(A6o (A6m na)::(Q 1 (A6o (A6m nb)::(A6o (A6n lb xb)::(A6q 1 n es::(vi i::(A6o (A6l A5 x)::(A6o (A6l U c)::(Q 28 (A6o (A6n la xa)::(vi (la:Int)::(vi i::(Q 4 (A6o (A6n lb xb)::(vi (lb:Int)::(vi k::(Q 29 (.dup 9::(vi i::(A6o (A6n lb xb)::(vi (lb:Int)::(vi (D R (i+(lb:Int)))::(A6o (A6l U c)::(A6o (A6l A5 (D A5 c))::(.ptr 9 (A (D R (i+(lb:Int)))*1)::(Q 6 []))))))))))))))))))))))))))))) m 300 [.l es] [4,5,7,8,9,10,11,12,41,42,43,48,49,50,80,81,82,83,84,85,86,87] (P (show 0<=(D R (i+(lb:Int)))/\(D R (i+(lb:Int)))<(n:Int) from hix) (P (show Cu ds (A (D R (i+(lb:Int)))*1) [A6l A5 (D A5 c)]=some es from hst) a0))))))) (C (t:=(Q 4 (A6s [A6m false,A6n 0 []]::(A6o (A6m na)::(Q 1 (A6o (A6m nb)::(A6o (A6n lb xb)::(A6q 1 n es::(Q 31 (A6o (A6n la xa)::(vi (la:Int)::(vi (D R (i+1))::(Q 50 []))))))))))))) m 300 [] [4,5,7,8,9,41,42,43] a0))))
theorem mI(na nb:Bool)(xs ys:List Int)(hx:AL xs)(hy:AL ys)(n i:Nat)(hn:n<=1048576)(hib:i+ys.length<=n):∀ (r k:Nat) (out:List Int) (c:Int),r+k=ys.length->out.length=n->AL out->0<=c/\c<4294967296 ->
  W I (.loop QC) (KX na nb xs.length (lm xs) ys.length (lm ys) n (lm out) (i:Int) (xs.getD i 0) c (k:Int)) (.exit 2)
   (KX na nb xs.length (lm xs) ys.length (lm ys) n (lm (Hq (xs.getD i 0) ys i r k out c).1) (i:Int) (xs.getD i 0) (Hq (xs.getD i 0) ys i r k out c).2 (ys.length:Int)):=by
 intro r;induction r with
 | zero =>
  intro k out c hk _ _ _;have hk':k=ys.length:=by omega
  subst hk';exact Am (zK na nb xs.length (lm xs) ys.length (lm ys) n (lm out) (i:Int) (xs.getD i 0) c (ys.length:Int) (by simp)) (by nofun)
 | succ r ih =>
  intro k out c hk hl hu hc;have hai:=AE hx i;have hbk:=AE hy k;have hok:=AE hu (i+k);obtain⟨w1,w2,w3,w4⟩:=V8 hai hbk hc hok;have ei:D R ((i:Int)+(k:Int))=((i+k:Nat):Int):=by rw[Bg (by omega) (by omega)];omega
  have ek:D R ((k:Int)+1)=((k+1:Nat):Int):=by rw[Bg (by omega) (by omega)];omega
  have hz:=V5 (xs:=out) (i:=i+k) (by omega);have hyk:=DW (xs:=ys) (i:=k) (by omega);have hst:=Ig (xs:=out) (i:=i+k) (v:=(c+(out.getD (i+k) 0+xs.getD i 0*ys.getD k 0)) % 4294967296) (by omega);have eW:D U (D U (D U (D U (xs.getD i 0)*D U (ys.getD k 0))+D U (out.getD (i+k) 0))+c)=c+(out.getD (i+k) 0+xs.getD i 0*ys.getD k 0):=by
   have q1:D U (xs.getD i 0)=xs.getD i 0:=by rw[B3];omega
   have q2:D U (ys.getD k 0)=ys.getD k 0:=by rw[B3];omega
   have q3:D U (out.getD (i+k) 0)=out.getD (i+k) 0:=by rw[B3];omega
   rw[q1,q2,q3,B3,B3,B3];omega
  have eS:d (c+(out.getD (i+k) 0+xs.getD i 0*ys.getD k 0)) (2^(min (A 32) (Al .u64)))=(c+(out.getD (i+k) 0+xs.getD i 0*ys.getD k 0)) / 4294967296:=by
   show d _ 4294967296=_;rw[t _ (by omega)]
  have h1:=zJ na nb xs.length (lm xs) ys.length (lm ys) n (lm out) (i:Int) (xs.getD i 0) c (k:Int) (lm (out.set (i+k) ((c+(out.getD (i+k) 0+xs.getD i 0*ys.getD k 0)) % 4294967296))) (ys.getD k 0) (out.getD (i+k) 0)
   (by simp;omega) (by omega) (by rw[F];exact hyk) (by rw[ei];omega) (by rw[ei,F];exact hz) (by rw[ei];omega) (by rw[ei,F,eW,DL];exact hst)
  rw[eW,eS,ek] at h1;exact W.loop h1 (ih (k+1) _ _ (by omega) (by simpa using hl) (Cq hu (by omega)) (by omega))
theorem zL(na nb:Bool)(xs ys:List Int)(hx:AL xs)(hy:AL ys)(hN:xs.length+ys.length<=1048576):∀ (r i:Nat) (out:List Int),r+i=xs.length->out.length=xs.length+ys.length->AL out->(∀ j,i+ys.length<=j->out.getD j 0=0) ->
  ∃ out',out'.length=xs.length+ys.length/\AL out'/\Ac out'=Ac out+4294967296^i*(Ac (xs.drop i)*Ac ys) /\
   W I (.loop UE) (NX na nb xs.length (lm xs) ys.length (lm ys) (xs.length+ys.length) (lm out) (i:Int)) (.exit 0) (NX na nb xs.length (lm xs) ys.length (lm ys) (xs.length+ys.length) (lm out') (xs.length:Int)):=by
 intro r;induction r with
 | zero =>
  intro i out hi hl hu _;have hi':i=xs.length:=by omega
  subst hi';refine⟨out,hl,hu,by simp[Ac],?_⟩;exact Am (mH na nb xs.length (lm xs) ys.length (lm ys) (xs.length+ys.length) (lm out) (xs.length:Int) (by simp)) (by nofun)
 | succ r ih =>
  intro i out hi hl hu hz;have hai:=AE hx i;have hlt:i<xs.length:=by omega
  have hin:=mI na nb xs ys hx hy (xs.length+ys.length) i hN (by omega) ys.length 0 out 0 (by omega) hl hu (by omega);obtain⟨g1,g2,g3,g4,g5⟩:=XK (i:=i) hai hy ys.length 0 out 0 (by omega) (by omega) hu (by omega);generalize Hq (xs.getD i 0) ys i ys.length 0 out 0=q at *
  obtain⟨ds,c⟩:=q;dsimp only at g1 g2 g3 g4 g5 hin;have ei:D R ((i:Int)+(ys.length:Int))=((i+ys.length:Nat):Int):=by rw[Bg (by omega) (by omega)];omega
  have ei1:D R ((i:Int)+1)=((i+1:Nat):Int):=by rw[Bg (by omega) (by omega)];omega
  have ec:D A5 c=c:=by rw[DL];omega
  have hst:=Ig (xs:=ds) (i:=i+ys.length) (v:=c) (by omega);have hxi:=DW (xs:=xs) (i:=i) hlt;have h1:=cW na nb xs.length (lm xs) ys.length (lm ys) (xs.length+ys.length) (lm out) (lm ds) (lm (ds.set (i+ys.length) c)) (i:Int) (xs.getD i 0) c (ys.length:Int) (by simp;omega) (by omega) (by rw[F];exact hxi) hin (by rw[ei];omega) (by rw[ei,F,ec];exact hst);rw[ei1] at h1;obtain⟨out',k1,k2,k3,k4⟩:=ih (i+1) (ds.set (i+ys.length) c) (by omega) (by simp;omega) (Cq g2 g3) (fun j hj=>by rw[M2 (by omega),g5 j (by omega),hz j (by omega)]);refine⟨out',k1,k2,?_,W.loop h1 k4⟩;have hv:Ac (ds.set (i+ys.length) c)=Ac out+4294967296^i*(xs.getD i 0*Ac ys):=by
   rw[DE ds _ _ (by omega),g5 _ (An _),hz _ (An _)];simp only[FC,EP,DA,EJ] at g4 |-;exact g4
  have hd:Ac (xs.drop i)=xs.getD i 0+4294967296*Ac (xs.drop (i+1)):=Cy xs i;rw[k3,hv,hd,Ax];generalize (4294967296:Int)^i=p at *
  generalize Ac (xs.drop (i+1))=V at *
  grind
theorem mJ(na:Bool)(xs:List Int)(nb:Bool)(ys:List Int)(a b:Int)(h1:H I 143 [A6r [A6m na,sL lm xs]] (A6t [A6m (B (a<0)),A6n (G (E a)).length (lm (G (E a)))]))(h2:H I 143 [A6r [A6m nb,sL lm ys]] (A6t [A6m (B (b<0)),A6n (G (E b)).length (lm (G (E b)))]))(z:((((G (E a)).length:Nat):Int)==0)=true):H I 112 [A6r [A6m na,sL lm xs],A6r [A6m nb,sL lm ys]] (A6r [A6m false,A6n 0 []]):=Bt (ps:=[H I 143 [A6r [A6m na,sL lm xs]] (A6t [A6m (B (a<0)),A6n ((G (E a)).length) (lm (G (E a)))]),H I 143 [A6r [A6m nb,sL lm ys]] (A6t [A6m (B (b<0)),A6n ((G (E b)).length) (lm (G (E b)))]),((((G (E a)).length:Nat):Int)==0)=true,true=true]) m rfl 300 rfl [.r (A6t [A6m (B (a<0)),A6n ((G (E a)).length) (lm (G (E a)))]),.r (A6t [A6m (B (b<0)),A6n ((G (E b)).length) (lm (G (E b)))]),.b true,.b true] (by kernel_rfl) ⟨h1,h2,z,rfl,trivial⟩
theorem mK(na:Bool)(xs:List Int)(nb:Bool)(ys:List Int)(a b:Int)(h1:H I 143 [A6r [A6m na,sL lm xs]] (A6t [A6m (B (a<0)),A6n (G (E a)).length (lm (G (E a)))]))(h2:H I 143 [A6r [A6m nb,sL lm ys]] (A6t [A6m (B (b<0)),A6n (G (E b)).length (lm (G (E b)))]))(y:((((G (E a)).length:Nat):Int)==0)=false)(z:((((G (E b)).length:Nat):Int)==0)=true):H I 112 [A6r [A6m na,sL lm xs],A6r [A6m nb,sL lm ys]] (A6r [A6m false,A6n 0 []]):=Bt (ps:=[H I 143 [A6r [A6m na,sL lm xs]] (A6t [A6m (B (a<0)),A6n ((G (E a)).length) (lm (G (E a)))]),H I 143 [A6r [A6m nb,sL lm ys]] (A6t [A6m (B (b<0)),A6n ((G (E b)).length) (lm (G (E b)))]),((((G (E a)).length:Nat):Int)==0)=false,((((G (E b)).length:Nat):Int)==0)=true]) m rfl 300 rfl [.r (A6t [A6m (B (a<0)),A6n ((G (E a)).length) (lm (G (E a)))]),.r (A6t [A6m (B (b<0)),A6n ((G (E b)).length) (lm (G (E b)))]),.b false,.b true] (by kernel_rfl) ⟨h1,h2,y,z,trivial⟩
theorem mL(na:Bool)(xs:List Int)(nb:Bool)(ys:List Int)(a b:Int)(h1:H I 143 [A6r [A6m na,sL lm xs]] (A6t [A6m (B (a<0)),A6n (G (E a)).length (lm (G (E a)))]))(h2:H I 143 [A6r [A6m nb,sL lm ys]] (A6t [A6m (B (b<0)),A6n (G (E b)).length (lm (G (E b)))]))(out:List Int)(r:Int)(y:((((G (E a)).length:Nat):Int)==0)=false)(z:((((G (E b)).length:Nat):Int)==0)=false)(hmk:0<=D R ((((G (E a)).length:Nat):Int)+(((G (E b)).length:Nat):Int))/\D R ((((G (E a)).length:Nat):Int)+(((G (E b)).length:Nat):Int))<=1048576)(hl:W I (.loop UE) (NX (B (a<0)) (B (b<0)) (G (E a)).length (lm (G (E a))) (G (E b)).length (lm (G (E b))) (A (D R ((((G (E a)).length:Nat):Int)+(((G (E b)).length:Nat):Int)))) (Cp [A6l A5 0] (A (D R ((((G (E a)).length:Nat):Int)+(((G (E b)).length:Nat):Int))))) 0) (.exit 0) (NX (B (a<0)) (B (b<0)) (G (E a)).length (lm (G (E a))) (G (E b)).length (lm (G (E b))) (A (D R ((((G (E a)).length:Nat):Int)+(((G (E b)).length:Nat):Int)))) (lm out) (((G (E a)).length:Nat):Int)))(h3:H I 152 [A6m (!((B (a<0))==(B (b<0)))),A6n (A (D R ((((G (E a)).length:Nat):Int)+(((G (E b)).length:Nat):Int)))) (lm out)] (A6r [A6m (B (r<0)),A6n ((G (E r)).length) (lm (G (E r)))])):H I 112 [A6r [A6m na,sL lm xs],A6r [A6m nb,sL lm ys]] (A6r [A6m (B (r<0)),A6n ((G (E r)).length) (lm (G (E r)))]):=X (fn:=UF) (s:=(Q 4 (A6s [A6m (B (r<0)),A6n ((G (E r)).length) (lm (G (E r)))]::(A6o (A6m (B (a<0)))::(Q 1 (A6o (A6m (B (b<0)))::(A6o (A6n ((G (E b)).length) (lm (G (E b))))::(A6o (A6n (A (D R ((((G (E a)).length:Nat):Int)+(((G (E b)).length:Nat):Int)))) (lm out))::(Q 31 (A6o (A6n ((G (E a)).length) (lm (G (E a))))::(A6o (A6l R (((G (E a)).length:Nat):Int))::(A6o (A6l R (((G (E a)).length:Nat):Int))::(Q 45 (A6o (A6m (B (a<0)))::(A6o (A6m (B (b<0)))::(A6o (A6m (!((B (a<0))==(B (b<0)))))::(A6o (A6n (A (D R ((((G (E a)).length:Nat):Int)+(((G (E b)).length:Nat):Int)))) (lm out))::(A6o (A6r [A6m (B (r<0)),A6n ((G (E r)).length) (lm (G (E r)))])::[])))))))))))))))))) (ex := .ret) rfl rfl (W.seq (C (t:=(A6o (A6r [A6m na,sL lm xs])::(A6o (A6r [A6m nb,sL lm ys])::(A6s [A6m na,sL lm xs]::(A6s [A6m nb,sL lm ys]::(A6s [A6m false,A6n 0 []]::(Q 89 []))))))) m 300 [] [0,1,2,3,4] a0) (W.seq (C (t:=(A6o (A6r [A6m na,sL lm xs])::(A6o (A6r [A6m nb,sL lm ys])::(A6s [A6m na,sL lm xs]::(A6s [A6m nb,sL lm ys]::(A6s [A6m false,A6n 0 []]::(A6o (A6m (B (a<0)))::(A6o (A6n ((G (E a)).length) (lm (G (E a))))::(Q 9 (A6o (A6t [A6m (B (a<0)),A6n ((G (E a)).length) (lm (G (E a)))])::(A6o (A6r [A6m na,sL lm xs])::(A6o (A6t [A6m (B (a<0)),A6n ((G (E a)).length) (lm (G (E a)))])::(A6o (A6m (B (a<0)))::(A6o (A6n ((G (E a)).length) (lm (G (E a))))::(Q 73 []))))))))))))))) m 300 [.r (A6t [A6m (B (a<0)),A6n ((G (E a)).length) (lm (G (E a)))])] [0,1,2,3,4,5,6,16,17,18,19,20] (P (show H I 143 [A6r [A6m na,sL lm xs]] (A6t [A6m (B (a<0)),A6n ((G (E a)).length) (lm (G (E a)))]) from h1) a0)) (W.seq (C (t:=(A6o (A6r [A6m na,sL lm xs])::(A6o (A6r [A6m nb,sL lm ys])::(A6s [A6m na,sL lm xs]::(A6s [A6m nb,sL lm ys]::(A6s [A6m false,A6n 0 []]::(A6o (A6m (B (a<0)))::(A6o (A6n ((G (E a)).length) (lm (G (E a))))::(A6o (A6m (B (b<0)))::(A6o (A6n ((G (E b)).length) (lm (G (E b))))::(Q 7 (A6o (A6t [A6m (B (a<0)),A6n ((G (E a)).length) (lm (G (E a)))])::(A6o (A6r [A6m na,sL lm xs])::(A6o (A6t [A6m (B (a<0)),A6n ((G (E a)).length) (lm (G (E a)))])::(A6o (A6m (B (a<0)))::(A6o (A6n ((G (E a)).length) (lm (G (E a))))::(A6o (A6t [A6m (B (b<0)),A6n ((G (E b)).length) (lm (G (E b)))])::(A6o (A6r [A6m nb,sL lm ys])::(A6o (A6t [A6m (B (b<0)),A6n ((G (E b)).length) (lm (G (E b)))])::(A6o (A6m (B (b<0)))::(A6o (A6n ((G (E b)).length) (lm (G (E b))))::(Q 68 [])))))))))))))))))))))) m 300 [.r (A6t [A6m (B (b<0)),A6n ((G (E b)).length) (lm (G (E b)))])] [0,1,2,3,4,5,6,7,8,16,17,18,19,20,21,22,23,24,25] (P (show H I 143 [A6r [A6m nb,sL lm ys]] (A6t [A6m (B (b<0)),A6n ((G (E b)).length) (lm (G (E b)))]) from h2) a0)) (W.seq (C (t:=(A6o (A6r [A6m na,sL lm xs])::(A6o (A6r [A6m nb,sL lm ys])::(A6s [A6m na,sL lm xs]::(A6s [A6m nb,sL lm ys]::(A6s [A6m false,A6n 0 []]::(A6o (A6m (B (a<0)))::(A6o (A6n ((G (E a)).length) (lm (G (E a))))::(A6o (A6m (B (b<0)))::(A6o (A6n ((G (E b)).length) (lm (G (E b))))::(Q 7 (A6o (A6t [A6m (B (a<0)),A6n ((G (E a)).length) (lm (G (E a)))])::(A6o (A6r [A6m na,sL lm xs])::(A6o (A6t [A6m (B (a<0)),A6n ((G (E a)).length) (lm (G (E a)))])::(A6o (A6m (B (a<0)))::(A6o (A6n ((G (E a)).length) (lm (G (E a))))::(A6o (A6t [A6m (B (b<0)),A6n ((G (E b)).length) (lm (G (E b)))])::(A6o (A6r [A6m nb,sL lm ys])::(A6o (A6t [A6m (B (b<0)),A6n ((G (E b)).length) (lm (G (E b)))])::(A6o (A6m (B (b<0)))::(A6o (A6n ((G (E b)).length) (lm (G (E b))))::(A6o (A6n ((G (E a)).length) (lm (G (E a))))::(vi (((G (E a)).length:Nat):Int)::(A6o (A6m ((((G (E a)).length:Nat):Int)==0))::(A6o (A6m ((((G (E a)).length:Nat):Int)==0))::(A6o (A6n ((G (E b)).length) (lm (G (E b))))::(vi (((G (E b)).length:Nat):Int)::(A6o (A6m ((((G (E b)).length:Nat):Int)==0))::(A6o (A6m ((((G (E b)).length:Nat):Int)==0))::(Q 60 [])))))))))))))))))))))))))))))) m 300 [.b false,.b false] [0,1,2,3,4,5,6,7,8,16,17,18,19,20,21,22,23,24,25,26,27,28,29,30,31,32,33] (P (show ((((G (E a)).length:Nat):Int)==0)=false from y) (P (show ((((G (E b)).length:Nat):Int)==0)=false from z) a0))) (W.seq (C (t:=(A6o (A6r [A6m na,sL lm xs])::(A6o (A6r [A6m nb,sL lm ys])::(A6s [A6m na,sL lm xs]::(A6s [A6m nb,sL lm ys]::(A6s [A6m false,A6n 0 []]::(A6o (A6m (B (a<0)))::(A6o (A6n ((G (E a)).length) (lm (G (E a))))::(A6o (A6m (B (b<0)))::(A6o (A6n ((G (E b)).length) (lm (G (E b))))::(A6q 1 (A (D R ((((G (E a)).length:Nat):Int)+(((G (E b)).length:Nat):Int)))) (Cp [A6l A5 0] (A (D R ((((G (E a)).length:Nat):Int)+(((G (E b)).length:Nat):Int)))))::(Q 6 (A6o (A6t [A6m (B (a<0)),A6n ((G (E a)).length) (lm (G (E a)))])::(A6o (A6r [A6m na,sL lm xs])::(A6o (A6t [A6m (B (a<0)),A6n ((G (E a)).length) (lm (G (E a)))])::(A6o (A6m (B (a<0)))::(A6o (A6n ((G (E a)).length) (lm (G (E a))))::(A6o (A6t [A6m (B (b<0)),A6n ((G (E b)).length) (lm (G (E b)))])::(A6o (A6r [A6m nb,sL lm ys])::(A6o (A6t [A6m (B (b<0)),A6n ((G (E b)).length) (lm (G (E b)))])::(A6o (A6m (B (b<0)))::(A6o (A6n ((G (E b)).length) (lm (G (E b))))::(A6o (A6n ((G (E a)).length) (lm (G (E a))))::(vi (((G (E a)).length:Nat):Int)::(A6o (A6m ((((G (E a)).length:Nat):Int)==0))::(A6o (A6m ((((G (E a)).length:Nat):Int)==0))::(A6o (A6n ((G (E b)).length) (lm (G (E b))))::(vi (((G (E b)).length:Nat):Int)::(A6o (A6m ((((G (E b)).length:Nat):Int)==0))::(A6o (A6m ((((G (E b)).length:Nat):Int)==0))::(Q 1 (A6o (A6n ((G (E a)).length) (lm (G (E a))))::(vi (((G (E a)).length:Nat):Int)::(A6o (A6n ((G (E b)).length) (lm (G (E b))))::(vi (((G (E b)).length:Nat):Int)::(vi (D R ((((G (E a)).length:Nat):Int)+(((G (E b)).length:Nat):Int)))::(Q 54 []))))))))))))))))))))))))))))))))))))) m 300 [] ((0)::(1)::(2)::(3)::(4)::(5)::(6)::(7)::(8)::(9)::(16)::(17)::(18)::(19)::(20)::(21)::(22)::(23)::(24)::(25)::(26)::(27)::(28)::(29)::(30)::(31)::(32)::(33)::(35)::(36)::(37)::(38)::(39)::[]) (P (show 0<=(D R ((((G (E a)).length:Nat):Int)+(((G (E b)).length:Nat):Int)))/\(D R ((((G (E a)).length:Nat):Int)+(((G (E b)).length:Nat):Int)))<=1048576 from hmk) a0)) (W.seq (W.seq (C (t:=(Q 4 (A6s [A6m false,A6n 0 []]::(A6o (A6m (B (a<0)))::(Q 1 (A6o (A6m (B (b<0)))::(A6o (A6n ((G (E b)).length) (lm (G (E b))))::(A6q 1 (A (D R ((((G (E a)).length:Nat):Int)+(((G (E b)).length:Nat):Int)))) (Cp [A6l A5 0] (A (D R ((((G (E a)).length:Nat):Int)+(((G (E b)).length:Nat):Int)))))::(Q 31 (A6o (A6n ((G (E a)).length) (lm (G (E a))))::(vi (((G (E a)).length:Nat):Int)::(vi 0::(Q 50 []))))))))))))) m 300 [] [4,5,7,8,9,41,42,43] a0) (W.block hl)) (C (t:=(Q 4 (bN r::(A6o (A6m (B (a<0)))::(Q 1 (A6o (A6m (B (b<0)))::(A6o (A6n ((G (E b)).length) (lm (G (E b))))::(A6o (A6n (A (D R ((((G (E a)).length:Nat):Int)+(((G (E b)).length:Nat):Int)))) (lm out))::(Q 31 (A6o (A6n ((G (E a)).length) (lm (G (E a))))::(vi (((G (E a)).length:Nat):Int)::(vi (((G (E a)).length:Nat):Int)::(Q 45 (A6o (A6m (B (a<0)))::(A6o (A6m (B (b<0)))::(A6o (A6m (!((B (a<0))==(B (b<0)))))::(A6o (A6n (A (D R ((((G (E a)).length:Nat):Int)+(((G (E b)).length:Nat):Int)))) (lm out))::(A6o (A6r [A6m (B (r<0)),A6n ((G (E r)).length) (lm (G (E r)))])::[])))))))))))))))))) (ex := .ret) m 300 [.r (A6r [A6m (B (r<0)),A6n ((G (E r)).length) (lm (G (E r)))])] [4,5,7,8,9,41,42,43,89,90,91,92,93] (P (show H I 152 [A6m (!((B (a<0))==(B (b<0)))),A6n (A (D R ((((G (E a)).length:Nat):Int)+(((G (E b)).length:Nat):Int)))) (lm out)] (A6r [A6m (B (r<0)),A6n ((G (E r)).length) (lm (G (E r)))]) from h3) a0)))))))) (by nofun) rfl
theorem XY(a b:Int)(zs:List Int)(h:Ac zs=(a.natAbs:Int)*(b.natAbs:Int)):rv (!(decide (a<0)==decide (b<0))) zs=a*b:=by
 unfold rv;rw[h];by_cases g1:a<0 <;> by_cases g2:b<0
 ·have e1:(a.natAbs:Int) = -a:=by omega
  have e2:(b.natAbs:Int) = -b:=by omega
  rw[e1,e2];simp[g1,g2] <;> grind
 ·have e1:(a.natAbs:Int) = -a:=by omega
  have e2:(b.natAbs:Int)=b:=by omega
  rw[e1,e2];simp[g1,g2] <;> grind
 ·have e1:(a.natAbs:Int)=a:=by omega
  have e2:(b.natAbs:Int) = -b:=by omega
  rw[e1,e2];simp[g1,g2] <;> grind
 ·have e1:(a.natAbs:Int)=a:=by omega
  have e2:(b.natAbs:Int)=b:=by omega
  rw[e1,e2];simp[g1,g2]
theorem Sg{na nb:Bool}{xs ys:List Int}(hx:AL xs)(hy:AL ys)(hN:xs.length+ys.length<=1048576):H I 112 [A6r [A6m na,sL lm xs],A6r [A6m nb,sL lm ys]] (o (rv na xs*rv nb ys)):=by
 have l1:=E6 (neg:=na) hx;have l2:=E6 (neg:=nb) hy;have k1:=Dh (neg:=na) hx (by omega);have k2:=Dh (neg:=nb) hy (by omega);generalize rv na xs=a at *
 generalize rv nb ys=b at *
 have z1:=Db a.natAbs;have z2:=Db b.natAbs;by_cases ha:a=0
 ·have h:=mJ na xs nb ys a b k1 k2 (by rw[beq_iff_eq];omega);rw[ha,CJ];exact h
 by_cases hb:b=0
 ·have h:=mK na xs nb ys a b k1 k2 (by rw[beq_eq_false_iff_ne];omega) (by rw[beq_iff_eq];omega);rw[hb,AC];exact h
 have e1:D R ((((G (E a)).length:Nat):Int)+(((G (E b)).length:Nat):Int))=(((G (E a)).length+(G (E b)).length:Nat):Int):=by rw[Bg (by omega) (by omega)];omega
 have e2:(A (D R ((((G (E a)).length:Nat):Int)+(((G (E b)).length:Nat):Int))))=(G (E a)).length+(G (E b)).length:=by rw[e1,F]
 obtain⟨out,S,o2,o3,o4⟩:=zL (B (a<0)) (B (b<0)) (G (E a)) (G (E b)) (BK _) (BK _) (by omega) (G (E a)).length 0 (Ar ((G (E a)).length+(G (E b)).length) 0) (by omega) (by simp) (EC _) (fun j _=>Dx _ j);have hv:Ac out=(a.natAbs:Int)*(b.natAbs:Int):=by rw[o3,Ez];simp[Cn]
 have h3:=E8 (neg := !(decide (a<0)==decide (b<0))) o2 (by omega);(first|rw[XY a b out hv,S] at h3|(rw[XY a b out hv] at h3;unfold sL at h3;rw[S] at h3));exact mL na xs nb ys a b k1 k2 out _ (by rw[beq_eq_false_iff_ne];omega) (by rw[beq_eq_false_iff_ne];omega) (by rw[e1];omega) (by rw[e2,EO];exact o4) (by rw[e2];exact h3)
def TWC:Cm:=TWB
theorem BH:BY I TWC:=m
def P_(na:Bool)(xs:List Int)(w:Int)(s:Int)(k:Nat)(os:List Int)(n:Int)(i:Int)(z:Rn):Ak:=(Q 4 (A6s [A6m z.1,A6n z.2.length (lm z.2)]::(A6o (A6m na)::(Q 1 (A6o (A6l R w)::(A6o (A6l U s)::(A6q 1 k (lm os)::(Q 23 (A6o (sL lm xs)::(A6o (A6l R n)::(A6o (A6l R i)::(Q 31 []))))))))))))
theorem Aqz(na:Bool)(xs:List Int)(w:Int)(s:Int)(k:Nat)(os:List Int)(n:Int)(i:Int)(z:Rn)(c1:B (i<n)=true)(n1:0<=i/\i<(xs.length:Int))(n2:¬ s<0)(n3:0<=(D R (i+w))/\(D R (i+w))<(k:Int))(n4:os.length=k)(n5:0<=(D R ((D R (i+w))+1))/\(D R ((D R (i+w))+1))<(k:Int))(n6:(os.set (A (D R (i+w))) (D A5 ((T (Al .u32) (os.getD (A (D R (i+w))) 0) ||| T (Al .u32) (D A5 (D U ((D U (xs.getD (A i) 0))*2^(min (A s) (Al .u64)))))).toNat))).length=k):W I UA (P_ na xs w s k os n i z) .norm (P_ na xs w s k ((os.set (A (D R (i+w))) (D A5 ((T (Al .u32) (os.getD (A (D R (i+w))) 0) ||| T (Al .u32) (D A5 (D U ((D U (xs.getD (A i) 0))*2^(min (A s) (Al .u64)))))).toNat))).set (A (D R ((D R (i+w))+1))) (D A5 (d (D U ((D U (xs.getD (A i) 0))*2^(min (A s) (Al .u64)))) (2^(min (A 32) (Al .u64)))))) n (D R (i+1)) z):=(C BH 400 [.b true,.v (A6l A5 (xs.getD (A i) 0)),.v (A6l A5 (os.getD (A (D R (i+w))) 0)),.l (lm (os.set (A (D R (i+w))) (D A5 ((T (Al .u32) (os.getD (A (D R (i+w))) 0) ||| T (Al .u32) (D A5 (D U ((D U (xs.getD (A i) 0))*2^(min (A s) (Al .u64)))))).toNat)))),.l (lm ((os.set (A (D R (i+w))) (D A5 ((T (Al .u32) (os.getD (A (D R (i+w))) 0) ||| T (Al .u32) (D A5 (D U ((D U (xs.getD (A i) 0))*2^(min (A s) (Al .u64)))))).toNat))).set (A (D R ((D R (i+w))+1))) (D A5 (d (D U ((D U (xs.getD (A i) 0))*2^(min (A s) (Al .u64)))) (2^(min (A 32) (Al .u64)))))))] [4,5,7,8,9,33,34,35] (P c1 (P n1 (P (AM n1) (P n2 (P n3 (P (Ce n4 n3) (P n3 (P (show Cu (lm os) (A (D R (i+w))*1) [A6l A5 (D A5 ((T (Al .u32) (os.getD (A (D R (i+w))) 0) ||| T (Al .u32) (D A5 (D U ((D U (xs.getD (A i) 0))*2^(min (A s) (Al .u64)))))).toNat))]=some (lm (os.set (A (D R (i+w))) (D A5 ((T (Al .u32) (os.getD (A (D R (i+w))) 0) ||| T (Al .u32) (D A5 (D U ((D U (xs.getD (A i) 0))*2^(min (A s) (Al .u64)))))).toNat)))) from (CQ n4 n3)) (P HX (P n5 (P (show Cu (lm (os.set (A (D R (i+w))) (D A5 ((T (Al .u32) (os.getD (A (D R (i+w))) 0) ||| T (Al .u32) (D A5 (D U ((D U (xs.getD (A i) 0))*2^(min (A s) (Al .u64)))))).toNat)))) (A (D R ((D R (i+w))+1))*1) [A6l A5 (D A5 (d (D U ((D U (xs.getD (A i) 0))*2^(min (A s) (Al .u64)))) (2^(min (A 32) (Al .u64)))))]=some (lm ((os.set (A (D R (i+w))) (D A5 ((T (Al .u32) (os.getD (A (D R (i+w))) 0) ||| T (Al .u32) (D A5 (D U ((D U (xs.getD (A i) 0))*2^(min (A s) (Al .u64)))))).toNat))).set (A (D R ((D R (i+w))+1))) (D A5 (d (D U ((D U (xs.getD (A i) 0))*2^(min (A s) (Al .u64)))) (2^(min (A 32) (Al .u64))))))) from (CQ n6 n5)) a0))))))))))))
theorem Ara(na:Bool)(xs:List Int)(w:Int)(s:Int)(k:Nat)(os:List Int)(n:Int)(i:Int)(z:Rn)(c1:B (i<n)=false):W I UA (P_ na xs w s k os n i z) (.exit 0) (P_ na xs w s k os n i z):=(C BH 400 [.b false] [4,5,7,8,9,33,34,35] (P c1 a0))
theorem mM(b na:Bool)(xs as1:List Int)(m:Int)(c1:((as1.length:Int)==0)=true)(n1:H I 143 [A6r [A6m b,sL lm xs]] (A6t [A6m na,sL lm as1])):H I 104 [A6r [A6m b,sL lm xs],A6l R m] (A6r [A6m false,A6n 0 []]):=X (fn:=RB) (s:=(Q 4 (A6s [A6m false,A6n 0 []]::(Q 62 [])))) (ex := .ret) rfl rfl (L (L (L (L (q (p (C BH 400 [.r (A6t [A6m na,sL lm as1]),.b true] [4] (P n1 (P c1 a0))) (by nofun))))))) (by nofun) rfl
theorem mN(b na:Bool)(xs as1 os:List Int)(m w s n i v:Int)(k:Nat)(z:Rn)(c1:((as1.length:Int)==0)=false)(n1:H I 143 [A6r [A6m b,sL lm xs]] (A6t [A6m na,sL lm as1]))(n2:0<=(D R ((D R ((as1.length:Int)+(D R (As m 32))))+1))/\(D R ((D R ((as1.length:Int)+(D R (As m 32))))+1))<=1048576)(hl3:W I (.loop UA) ((Q 4 (A6s [A6m false,A6n 0 []]::(A6o (A6m na)::(Q 1 (A6o (A6l R (D R (As m 32)))::(A6o (A6l U (D U (AA m 32)))::(A6q 1 (A (D R ((D R ((as1.length:Int)+(D R (As m 32))))+1))) (Cp [A6l A5 0] (A (D R ((D R ((as1.length:Int)+(D R (As m 32))))+1))))::(Q 23 (A6o (sL lm as1)::(A6o (A6l R (as1.length:Int))::(A6o (A6l R 0)::(Q 31 []))))))))))))) (.exit 0) (P_ na as1 w s k os n i z))(n4:H I 152 [A6m na,A6n k (lm os)] (o v)):H I 104 [A6r [A6m b,sL lm xs],A6l R m] (o v):=X (fn:=RB) (s:=(Q 4 (A6s [A6m (B (v<0)),A6n ((G (E v)).length) (lm (G (E v)))]::(Q 62 [])))) (ex := .ret) rfl rfl (L (L (L (L (q (W.seq (C BH 400 [.r (A6t [A6m na,sL lm as1]),.b false] [4,5,7,8,9,33,34,35] (P n1 (P c1 (P FB (P FB (P n2 a0)))))) (W.seq (W.block hl3) (C BH 400 [.r (o v)] [4] (P n4 a0))))))))) (by nofun) rfl
def Ti(ts:List Rn)(r:Rn)(e:Int)(w:Rn)(i:Int)(s:Int):Ak:=(A6o (sL pc ts)::(Q 2 (A6s [A6m r.1,A6n r.2.length (lm r.2),A6l R e]::(Q 1 (A6s [A6m w.1,A6n w.2.length (lm w.2)]::(A6o (A6l R i)::(A6o (A6l R s)::(Q 24 []))))))))
theorem Azu(ts:List Rn)(r:Rn)(e:Int)(w:Rn)(i:Int)(s:Int)(t:Int)(c1:B (i>=0)=true)(n1:0<=i/\i<(ts.length:Int))(n2:H I 112 [At w,At r] (o ((O w)*(O r))))(n3:H I 104 [At (ts.getD (A i) z0),A6l R s] (o t))(n4:H I 111 [o ((O w)*(O r)),o t] (o (((O w)*(O r))+t))):W I aQ (Ti ts r e w i s) .norm (Ti ts r e (cn (((O w)*(O r))+t)) (D R (i-1)) (D R (s+e))):=(C BH 400 [.b true,.r (o ((O w)*(O r))),.v (At (ts.getD (A i) z0)),.r (o t),.r (o (((O w)*(O r))+t))] [0,3,5,6,7] (P c1 (P n2 (P n1 (P (x n1) (P n3 (P n4 a0)))))))
theorem Azv(ts:List Rn)(r:Rn)(e:Int)(w:Rn)(i:Int)(s:Int)(c1:B (i>=0)=false):W I aQ (Ti ts r e w i s) (.exit 0) (Ti ts r e w i s):=(C BH 400 [.b false] [0,3,5,6,7] (P c1 a0))
theorem Azw(ts:List Rn)(r w:Rn)(e i s sg:Int)(hl1:W I (.loop aQ) (Ti ts r e (false,[]) (D R ((ts.length:Int)-1)) 0) (.exit 0) (Ti ts r e w i s))(n2:H I 101 [At w] (A6l R sg)):H I 65 [sL pc ts,A6r [A6m r.1,A6n r.2.length (lm r.2),A6l R e]] (A6l R sg):=X (fn:=aR) (s:=(Q 4 (A6o (A6l R sg)::(Q 27 [])))) (ex := .ret) rfl rfl (L (q (W.seq (C BH 400 [] [0,3,5,6,7] a0) (W.seq (W.block hl1) (C BH 400 [.r (A6l R sg)] [4] (P n2 a0)))))) (by nofun) rfl
def TSA:Cm:=TWC
theorem mO:BY I TSA:=BH
theorem zM{na:Bool}{xs:List Int}{z:Rn}{w s:Nat}(hx:AL xs)(hs:s<32)(hN:w+xs.length<1048576):∀ (r i:Nat) (os:List Int),i+r=xs.length->os.length=w+xs.length+1->AL os->Ac os=4294967296^w*(2^s*Ac (xs.take i))->os.getD (i+w) 0<2^s->(∀ t,i+w<t->os.getD t 0=0) ->
  ∃ os',W I (.loop UA) (P_ na xs (w:Nat) (s:Nat) (w+xs.length+1) os (xs.length:Nat) (i:Nat) z) (.exit 0) (P_ na xs (w:Nat) (s:Nat) (w+xs.length+1) os' (xs.length:Nat) (xs.length:Nat) z)/\os'.length=w+xs.length+1/\AL os'/\Ac os'=4294967296^w*(2^s*Ac xs):=by
 intro r;induction r with
 | zero =>
  intro i os hi hl hu hv _ _;have:i=xs.length:=by omega
  subst this;exact⟨os,Am (Ara na xs _ _ _ os _ _ z (by simp)) (by nofun),hl,hu,by rw[hv,E3]⟩
 | succ r ih =>
  intro i os hi hl hu hv hc hz;have ei:D R ((i:Int)+1)=((i+1:Nat):Int):=by rw[Bg (by omega) (by omega)];omega
  have ew:D R ((i:Int)+(w:Int))=((i+w:Nat):Int):=by rw[Bg (by omega) (by omega)];omega
  have ew1:D R (((i+w:Nat):Int)+1)=((i+w+1:Nat):Int):=by rw[Bg (by omega) (by omega)];omega
  have hxi:=AE hx i;have hoi:=AE hu (i+w);obtain⟨p0,p1,p2,q,q0,q1⟩:=VL hxi hs;have es:(2:Int)^(min (A (s:Int)) (Al .u64))=2^s:=by
   rw[F];congr 1;show min s 64=s;omega
  have hk:=Aqz na xs (w:Nat) (s:Nat) (w+xs.length+1) os (xs.length:Nat) (i:Nat) z (by simp;omega) (by omega) (by omega) (by rw[ew];omega) hl (by rw[ew,ew1];omega) (by simpa using hl);rw[ei,ew,ew1,es,F,F,F,C2 (n:=xs.getD i 0) (by omega),C2 ⟨p0,p1⟩,XT,DL (xs.getD i 0*2^s),q1] at hk;have hqs:q*2^s<4294967296:=by rw[<- q1];omega
  rw[Aps q0 hqs (by omega) ⟨hoi.1,hc⟩] at hk;have hhi:0<=xs.getD i 0*2^s / 4294967296:=by omega
  have hp2:(2:Int)^s<=4294967296:=by have:=Gv (show s<=32 by omega);rwa [show (2:Int)^32=4294967296 by decide] at this
  rw[QR ⟨hhi,by omega⟩] at hk;have hsum:0<=q*2^s+os.getD (i+w) 0/\q*2^s+os.getD (i+w) 0<4294967296:=by
   have hq2:0<=q*2^s:=by rw[<- q1];omega
   refine⟨by omega,?_⟩;have e:=QS (show s<=32 by omega);rw[e] at hqs |-;have hp:=BG s;have:=E1 hqs (by omega);have:=Ae (show q+1<=2^(32-s) by omega) (show (0:Int)<=2^s by omega);rw[GX,CO] at this;omega
  obtain⟨os',g1,g2,g3,g4⟩:=ih (i+1) ((os.set (i+w) (q*2^s+os.getD (i+w) 0)).set (i+w+1) (xs.getD i 0*2^s / 4294967296)) (by omega) (by simpa using hl) (Cq (Cq hu hsum) ⟨hhi,by omega⟩) (by
    rw[DE _ _ _ (by simp;omega),DE _ _ _ (by omega),Co (by omega),hz (i+w+1) (by omega),hv,DM xs i (by omega),Ax,BC];have e3:xs.getD i 0*2^s=4294967296*(xs.getD i 0*2^s / 4294967296)+q*2^s:=by omega
    generalize (4294967296:Int)^i=P at *
    generalize (4294967296:Int)^w=V at *
    generalize xs.getD i 0*2^s / 4294967296=H at *
    generalize os.getD (i+w) 0=o at *
    generalize q*2^s=Q at *
    have e4:(2:Int)^s*(Ac (xs.take i)+P*xs.getD i 0)=2^s*Ac (xs.take i)+P*(xs.getD i 0*2^s):=by grind
    rw[e4,e3];grind) (by
    rw[show i+1+w=i+w+1 by omega,show ((os.set (i+w) (q*2^s+os.getD (i+w) 0)).set (i+w+1) (xs.getD i 0*2^s / 4294967296)).getD (i+w+1) 0=xs.getD i 0*2^s / 4294967296 by simp[Z,show i+w+1<os.length by omega]];exact p2) (fun t ht=>by rw[Co (by omega),Co (by omega)];exact hz t (by omega))
  exact⟨os',W.loop hk g1,g2,g3,g4⟩
theorem XZ{neg:Bool}{xs:List Int}(hu:AL xs)(n:Nat)(hn:n<=9223372036854775807)(hN:n / 32+xs.length+1<=1048576):H I 104 [A6r [A6m neg,sL lm xs],A6l R (n:Nat)] (o (rv neg xs*2^n)):=by
 have l1:=E6 (neg:=neg) hu;have r1:=Dh (neg:=neg) hu (by omega);generalize rv neg xs=a at *
 by_cases h0:(G a.natAbs).length=0
 ·have h:=mM neg _ xs (G a.natAbs) (n:Nat) (by rw[h0];rfl) r1;have ha:a=0:=by have:=(Db a.natAbs).1 h0;omega
  rw[ha,CJ];exact h
 ·have e1:D R (As (n:Int) 32)=((n / 32:Nat):Int):=by
   rw[B5 (by omega),Bg (by omega) (by omega)];omega
  have e2:D U (AA (n:Int) 32)=((n % 32:Nat):Int):=by
   rw[Bl (by omega),C2 (by omega)];omega
  have e3:D R ((((G a.natAbs).length:Nat):Int)+((n / 32:Nat):Int))=((n / 32+(G a.natAbs).length:Nat):Int):=by rw[Bg (by omega) (by omega)];omega
  have e4:D R (((n / 32+(G a.natAbs).length:Nat):Int)+1)=((n / 32+(G a.natAbs).length+1:Nat):Int):=by rw[Bg (by omega) (by omega)];omega
  have hs:n % 32<32:=H8 _ (by decide);obtain⟨os,g1,g2,g3,g4⟩:=zM (na:=decide (a<0)) (xs:=G a.natAbs) (z:=z0) (w:=n / 32) (BK a.natAbs) hs (by omega) (G a.natAbs).length 0 (Ar (n / 32+(G a.natAbs).length+1) 0) (by omega) (by simp) (EC _) (by rw[Ez];simp[Ac]) (by rw[Dx];exact BG _) (fun t _=>Dx _ _);have hm:=E8 (neg:=decide (a<0)) g3 (by omega);have hv:rv (B (a<0)) os=a*2^n:=by
   rw[XP (xs:=G a.natAbs) (t:=2^n) (by rw[g4,HP n];grind),Fr]
  rw[hv] at hm;unfold sL at hm;rw[g2] at hm;exact mN neg _ xs (G a.natAbs) os (n:Nat) _ _ _ _ _ _ _ (by rw[beq_eq_false_iff_ne];omega) r1 (by rw[e1,e3,e4];omega) (by rw[e1,e2,e3,e4,F,EO];exact g1) hm
theorem Arb{K X:Nat}{ts:List Rn}{r:Rn}(ht:∀ t∈ts,AN K t)(hr:AN X r)(e:Nat)(hS:K+2+(ts.length+1)*(X+(e / 32+1)+1)<=1048576)(he:e<=1073741824) :
  ∀ n (w:Rn),n<=ts.length->O w=hv ((M ts).drop n) (O r) (2^e)->AN (K+1+(ts.length-n)*(X+(e / 32+1)+1)) w -> 
  ∃ w' s',O w'=hv (M ts) (O r) (2^e)/\AN (K+1+ts.length*(X+(e / 32+1)+1)) w'/\W I (.loop aQ) (Ti ts r (e:Nat) w ((n:Int)-1) ((e*(ts.length-n):Nat):Int)) (.exit 0) (Ti ts r (e:Nat) w' (-1) s'):=by
 have hle:ts.length<=1048576:=by
  have:ts.length*1<=(ts.length+1)*(X+(e / 32+1)+1):=Bu (by omega) (by omega);omega
 intro n;induction n with
 | zero =>
  intro w _ hw gw;exact⟨w,_,by simpa using hw,gw,Am (Azv ts r (e:Nat) w (((0:Nat):Int)-1) _ (by simp)) (by nofun)⟩
 | succ n ih =>
  intro w hn hw gw;obtain⟨t1,t2⟩:=Be ht n;have e0:((n+1:Nat):Int)-1=(n:Int):=by omega
  have hK1:(ts.length-(n+1))*(X+(e / 32+1)+1)+(X+(e / 32+1)+1)=(ts.length-n)*(X+(e / 32+1)+1):=by
   rw[show ts.length-n=ts.length-(n+1)+1 by omega,DN,EV]
  have hK2:(ts.length-n)*(X+(e / 32+1)+1)<=(ts.length+1)*(X+(e / 32+1)+1):=AD _ (by omega);have hsh:e*(ts.length-(n+1)) / 32<=(ts.length-(n+1))*(X+(e / 32+1)+1):=by
   have h3:e<=32*(e / 32+1):=by omega
   have h4:e*(ts.length-(n+1))<=32*((ts.length-(n+1))*(e / 32+1)):=by
    calc e*(ts.length-(n+1))<=(32*(e / 32+1))*(ts.length-(n+1)):=AD _ h3
     _=32*((ts.length-(n+1))*(e / 32+1)):=by rw[EA,CM (e / 32+1)]
   have h5:(ts.length-(n+1))*(e / 32+1)<=(ts.length-(n+1))*(X+(e / 32+1)+1):=z _ (by omega);omega
  have hb1:e*(ts.length-(n+1))<=1073741824*1048576:=Bu he (by omega);have hb2:e*(ts.length-n)<=1073741824*1048576:=Bu he (by omega);have w1:D R (((e*(ts.length-(n+1)):Nat):Int)+(e:Int))=((e*(ts.length-n):Nat):Int):=by
   have:e*(ts.length-n)=e*(ts.length-(n+1))+e:=by rw[show ts.length-n=ts.length-(n+1)+1 by omega,OZ]
   rw[Bg (by omega) (by omega)];omega
  have w2:D R ((n:Int)-1)=(n:Int)-1:=Bg (by omega) (by omega);have hst:hv ((M ts).drop n) (O r) (2^e)=O w*O r+O (ts.getD n z0)*2^(e*(ts.length-(n+1))):=by
   have h1:(M ts).drop n=(M ts).getD n 0::(M ts).drop (n+1):=by
    rw[CV (by rw[s];omega)];congr 1;rw[Z,Af (by rw[s];omega)];rfl
   rw[h1,hv,C9,Eh,s,<- hw,<- iM];generalize O (ts.getD n z0)*2^(e*(ts.length-(n+1)))=A;grind
  have fw:=gw.fits;have fp:=(fw.mul hr.fits);have ft:Bj (K+(e*(ts.length-(n+1)) / 32+1)) (O (ts.getD n z0)*2^(e*(ts.length-(n+1)))):=(Be ht n).fits.mul (PY _);have hgood:AN (K+1+(ts.length-n)*(X+(e / 32+1)+1)) (cn (O w*O r+O (ts.getD n z0)*2^(e*(ts.length-(n+1))))):=by
   refine (B9 ((fp.mono (k:=K+1+(ts.length-(n+1))*(X+(e / 32+1)+1)+X+(e / 32+1)) (by omega)).add (ft.mono (by omega)))).mono (by omega)
  obtain⟨w',s',q1,q2,q3⟩:=ih (cn (O w*O r+O (ts.getD n z0)*2^(e*(ts.length-(n+1))))) (by omega) (by rw[u,hst]) hgood;refine⟨w',s',q1,q2,?_⟩;rw[e0];have l1:=fp.len;have l2:=ft.len;obtain⟨gw1,gw2⟩:=gw;have k:=Azu ts r (e:Nat) w (n:Nat) ((e*(ts.length-(n+1)):Nat):Int) (O (ts.getD n z0)*2^(e*(ts.length-(n+1)))) (by simp) (by omega)
   (Sg gw1 hr.1 (by have:=hr.2;omega))
   (by rw[F];exact XZ t1 _ (by omega) (by omega))
   (by
    have:=OF (na:=decide (O w*O r<0)) (nb:=decide (O (ts.getD n z0)*2^(e*(ts.length-(n+1)))<0)) (BK (O w*O r).natAbs) (BK (O (ts.getD n z0)*2^(e*(ts.length-(n+1)))).natAbs) (by omega) (by omega);rw[Fr,Fr] at this;exact this)
  rw[w1,w2] at k;exact W.loop k q3
theorem ME{K X:Nat}{rs:List Rn}{r:Rn}(ht:∀ t∈rs,AN K t)(hr:AN X r)(e:Nat)(hS:K+2+(rs.length+1)*(X+(e / 32+1)+1)<=1048576)(he:e<=1073741824) :
  H I 65 [sL pc rs,A6r [A6m r.1,A6n r.2.length (lm r.2),A6l R (e:Nat)]] (A6l R (BL (hv (M rs) (O r) (2^e)))):=by
 have hle:rs.length<=1048576:=by
  have:rs.length*1<=(rs.length+1)*(X+(e / 32+1)+1):=Bu (by omega) (by omega);omega
 obtain⟨w',s',q1,q2,q3⟩:=Arb ht hr e hS he rs.length z0 (An _) (by rw[<- s,JC];rfl) (LJ _);rw[OY,ZG] at q3;have hK2:rs.length*(X+(e / 32+1)+1)<=(rs.length+1)*(X+(e / 32+1)+1):=AD _ (by omega);have hs:=M9 (neg:=w'.1) q2.1 (by have:=q2.2;omega);rw[show rv w'.1 w'.2=O w' from rfl,q1] at hs;have e1:D R ((rs.length:Int)-1)=(rs.length:Int)-1:=Bg (by omega) (by omega);exact Azw rs r w' (e:Nat) (-1) s' _ (by rw[e1];exact q3) hs
def TSB:Cm:=TSA
theorem IA:BY I TSB:=mO
def Pp(as1:List Rn)(k:Nat)(cs:List AV)(bs:List Rn):Ak:=(Q 3 (A6o (sL pc as1)::(A6q 1 k cs::(A6o (sL pc bs)::(Q 23 [])))))
theorem Azx(as1:List Rn)(k:Nat)(cs:List AV)(bs:List Rn)(us vs:List Rn)(c1:B ((bs.length:Int)>0)=true)(n1:k+1<=1048576)(n2:H I 118 [sL pc as1,sL pc bs] (A6p 2 us.length (pc us)))(n3:H I 117 [sL pc us] (A6p 2 vs.length (pc vs))):W I X4 (Pp as1 k cs bs) .norm (Pp bs (k+1) (cs++([sL pc bs]:List AV)) vs):=(C a 400 [.b true,.r (A6p 2 us.length (pc us)),.r (A6p 2 vs.length (pc vs))] [3,4,5] (P c1 (P (show Bk ([sL pc bs]:List AV)=1*1 from rfl) (P n1 (P n2 (P n3 a0))))))
theorem sF(as1:List Rn)(k:Nat)(cs:List AV)(bs:List Rn)(c1:B ((bs.length:Int)>0)=false):W I X4 (Pp as1 k cs bs) (.exit 0) (Pp as1 k cs bs):=(C a 400 [.b false] [3,4,5] (P c1 a0))
theorem cX(rs fs:List Rn)(c1:((fs.length:Int)==0)=true)(n1:H I 114 [sL pc rs] (A6p 2 fs.length (pc fs))):H I 67 [sL pc rs] (A6p 1 0 []):=X (fn:=SP) (s:=(Q 2 (A6q 1 0 []::(Q 26 [])))) (ex := .ret) rfl rfl (L (L (L (L (p (C a 400 [.r (A6p 2 fs.length (pc fs)),.b true] [2] (P n1 (P c1 a0))) (by nofun)))))) (by nofun) rfl
theorem cY(rs fs ds ps as1 bs:List Rn)(ls:List (List Rn))(c1:((fs.length:Int)==0)=false)(n1:H I 114 [sL pc rs] (A6p 2 fs.length (pc fs)))(n2:H I 116 [sL pc fs] (A6p 2 ds.length (pc ds)))(n3:H I 115 [sL pc ds] (A6p 2 ps.length (pc ps)))(hl4:W I (.loop X4) (Pp fs 1 ([sL pc fs]:List AV) ps) (.exit 0) (Pp as1 ls.length (pp ls) bs)):H I 67 [sL pc rs] (A6p 1 ls.length (pp ls)):=X (fn:=SP) (s:=(Q 2 (A6q 1 ls.length (pp ls)::(Q 26 [])))) (ex := .ret) rfl rfl (L (L (L (L (W.seq (C a 400 [.r (A6p 2 fs.length (pc fs)),.b false,.r (A6p 2 ds.length (pc ds)),.r (A6p 2 ps.length (pc ps))] [3,4,5] (P n1 (P c1 (P n2 (P n3 a0))))) (W.seq (W.block hl4) (C a 400 [] [2] a0))))))) (by nofun) rfl
theorem cZ(rs fs:List Rn)(c1:((fs.length:Int)==0)=true)(n1:H I 114 [sL pc rs] (sL pc fs)):H I 67 [sL pc rs] (A6p 1 0 []):=X (fn:=SP) (s:=(Q 2 (A6q 1 0 []::(Q 26 [])))) (ex := .ret) rfl rfl (L (L (L (L (p (C a 400 [.r (sL pc fs),.b true] [2] (P n1 (P c1 a0))) (by nofun)))))) (by nofun) rfl
theorem dA(rs fs ds ps as1 bs:List Rn)(ls:List (List Rn))(c1:((fs.length:Int)==0)=false)(n1:H I 114 [sL pc rs] (sL pc fs))(n2:H I 116 [sL pc fs] (A6p 2 ds.length (pc ds)))(n3:H I 115 [sL pc ds] (A6p 2 ps.length (pc ps)))(hl4:W I (.loop X4) (Pp fs 1 ([sL pc fs]:List AV) ps) (.exit 0) (Pp as1 ls.length (pp ls) bs)):H I 67 [sL pc rs] (A6p 1 ls.length (pp ls)):=X (fn:=SP) (s:=(Q 2 (A6q 1 ls.length (pp ls)::(Q 26 [])))) (ex := .ret) rfl rfl (L (L (L (L (W.seq (C a 400 [.r (sL pc fs),.b false,.r (A6p 2 ds.length (pc ds)),.r (A6p 2 ps.length (pc ps))] [3,4,5] (P n1 (P c1 (P n2 (P n3 a0))))) (W.seq (W.block hl4) (C a 400 [] [2] a0))))))) (by nofun) rfl
def KY(ls:List (List Rn))(r:Rn)(e:Int)(n:Int)(last:Int)(m:Int)(i:Int):Ak:=(Q 3 (A6s [A6m r.1,A6n r.2.length (lm r.2),A6l R e]::(Q 1 (A6o (A6l R n)::(A6o (A6l R last)::(Q 3 (A6o (sL pp ls)::(A6o (A6l R m)::(A6o (A6l R i)::(Q 24 []))))))))))
theorem Azy(ls:List (List Rn))(r:Rn)(e:Int)(n:Int)(last:Int)(m:Int)(i:Int)(s:Int)(c1:B (i<m)=true)(c2:(s != 0)=true)(c3:(last != 0)=true)(c4:(s != last)=true)(n1:0<=i/\i<(ls.length:Int))(n2:H I 65 [A6n ((ls.getD (A i) []).length) (pc (ls.getD (A i) [])),A6r [A6m r.1,A6n r.2.length (lm r.2),A6l R e]] (A6l R s)):W I SQ (KY ls r e n last m i) .norm (KY ls r e (D R (n+1)) s m (D R (i+1))):=(C a 400 [.b true,.v (A6n ((ls.getD (A i) []).length) (pc (ls.getD (A i) []))),.r (A6l R s),.b true,.b true,.b true,.b true] [3,5,6,10,11,12] (P c1 (P n1 (P (Fj n1) (P n2 (P c2 (P c3 (P c4 (P c2 a0)))))))))
theorem Azz(ls:List (List Rn))(r:Rn)(e:Int)(n:Int)(last:Int)(m:Int)(i:Int)(s:Int)(c1:B (i<m)=true)(c2:(s != 0)=true)(c3:(last != 0)=true)(c4:(s != last)=false)(n1:0<=i/\i<(ls.length:Int))(n2:H I 65 [A6n ((ls.getD (A i) []).length) (pc (ls.getD (A i) [])),A6r [A6m r.1,A6n r.2.length (lm r.2),A6l R e]] (A6l R s)):W I SQ (KY ls r e n last m i) .norm (KY ls r e n s m (D R (i+1))):=(C a 400 [.b true,.v (A6n ((ls.getD (A i) []).length) (pc (ls.getD (A i) []))),.r (A6l R s),.b true,.b true,.b false,.b true] [3,5,6,10,11,12] (P c1 (P n1 (P (Fj n1) (P n2 (P c2 (P c3 (P c4 (P c2 a0)))))))))
theorem A0a(ls:List (List Rn))(r:Rn)(e:Int)(n:Int)(last:Int)(m:Int)(i:Int)(s:Int)(c1:B (i<m)=true)(c2:(s != 0)=true)(c3:(last != 0)=false)(n1:0<=i/\i<(ls.length:Int))(n2:H I 65 [A6n ((ls.getD (A i) []).length) (pc (ls.getD (A i) [])),A6r [A6m r.1,A6n r.2.length (lm r.2),A6l R e]] (A6l R s)):W I SQ (KY ls r e n last m i) .norm (KY ls r e n s m (D R (i+1))):=(C a 400 [.b true,.v (A6n ((ls.getD (A i) []).length) (pc (ls.getD (A i) []))),.r (A6l R s),.b true,.b false,.b false,.b true] [3,5,6,10,11,12] (P c1 (P n1 (P (Fj n1) (P n2 (P c2 (P c3 (P FA (P c2 a0)))))))))
theorem A0b(ls:List (List Rn))(r:Rn)(e:Int)(n:Int)(last:Int)(m:Int)(i:Int)(s:Int)(c1:B (i<m)=true)(c2:(s != 0)=false)(n1:0<=i/\i<(ls.length:Int))(n2:H I 65 [A6n ((ls.getD (A i) []).length) (pc (ls.getD (A i) [])),A6r [A6m r.1,A6n r.2.length (lm r.2),A6l R e]] (A6l R s)):W I SQ (KY ls r e n last m i) .norm (KY ls r e n last m (D R (i+1))):=(C a 400 [.b true,.v (A6n ((ls.getD (A i) []).length) (pc (ls.getD (A i) []))),.r (A6l R s),.b false,.b false,.b false,.b false] [3,5,6,10,11,12] (P c1 (P n1 (P (Fj n1) (P n2 (P c2 (P FA (P FA (P c2 a0)))))))))
theorem A0c(ls:List (List Rn))(r:Rn)(e:Int)(n:Int)(last:Int)(m:Int)(i:Int)(c1:B (i<m)=false):W I SQ (KY ls r e n last m i) (.exit 0) (KY ls r e n last m i):=(C a 400 [.b false] [3,5,6,10,11,12] (P c1 a0))
theorem A0d(ls:List (List Rn))(r:Rn)(e n last i:Int)(hl1:W I (.loop SQ) (KY ls r e 0 0 (ls.length:Int) 0) (.exit 0) (KY ls r e n last (ls.length:Int) i)):H I 68 [sL pp ls,A6r [A6m r.1,A6n r.2.length (lm r.2),A6l R e]] (A6l R n):=X (fn:=aU) (s:=(Q 4 (A6o (A6l R n)::(Q 32 [])))) (ex := .ret) rfl rfl (L (q (W.seq (C a 400 [] [3,5,6,10,11,12] a0) (W.seq (W.block hl1) (C a 400 [] [4] a0))))) (by nofun) rfl
def NY(k:Nat)(cs:List AV)(bs:List Rn):Ak:=(Q 4 (A6q 1 k cs::(A6o (sL pc bs)::(Q 27 []))))
theorem Arc(k:Nat)(cs:List AV)(bs:List Rn)(ws us vs:List Rn)(c1:B ((bs.length:Int)>0)=true)(n1:k+1<=1048576)(n2:0<=(D R ((((k+1):Nat):Int)-2))/\(D R ((((k+1):Nat):Int)-2))<(((k+1):Nat):Int))(n3:Bm (cs++([sL pc bs]:List AV)) (A (D R ((((k+1):Nat):Int)-2))*1) 1 true=some (sL pc ws))(n4:H I 119 [sL pc ws,sL pc bs] (sL pc us))(n5:H I 153 [sL pc us] (A6p 2 vs.length (pc vs))):W I UC (NY k cs bs) .norm (NY (k+1) (cs++([sL pc bs]:List AV)) vs):=(C a 400 [.b true,.v (sL pc ws),.r (sL pc us),.r (A6p 2 vs.length (pc vs))] [4,5] (P c1 (P (show Bk ([sL pc bs]:List AV)=1*1 from rfl) (P n1 (P n2 (P n3 (P n4 (P n5 a0))))))))
theorem dB(k:Nat)(cs:List AV)(bs:List Rn)(c1:B ((bs.length:Int)>0)=false):W I UC (NY k cs bs) (.exit 0) (NY k cs bs):=(C a 400 [.b false] [4,5] (P c1 a0))
theorem mP(rs fs:List Rn)(c1:((fs.length:Int)==0)=true)(n1:H I 73 [sL pc rs] (sL pc fs)):H I 108 [sL pc rs] (A6p 1 0 []):=X (fn:=RC) (s:=(Q 2 (A6q 1 0 []::(Q 30 [])))) (ex := .ret) rfl rfl (L (L (L (L (p (C a 400 [.r (sL pc fs),.b true] [2] (P n1 (P c1 a0))) (by nofun)))))) (by nofun) rfl
theorem mQ(rs fs ds ps bs:List Rn)(ls:List (List Rn))(c1:((fs.length:Int)==0)=false)(n1:H I 73 [sL pc rs] (sL pc fs))(n2:H I 122 [sL pc fs] (A6p 2 ds.length (pc ds)))(n3:H I 86 [sL pc ds] (A6p 2 ps.length (pc ps)))(hl4:W I (.loop UC) (NY 1 ([sL pc fs]:List AV) ps) (.exit 0) (NY ls.length (pp ls) bs)):H I 108 [sL pc rs] (A6p 1 ls.length (pp ls)):=X (fn:=RC) (s:=(Q 2 (A6q 1 ls.length (pp ls)::(Q 30 [])))) (ex := .ret) rfl rfl (L (L (L (L (W.seq (C a 400 [.r (sL pc fs),.b false,.r (A6p 2 ds.length (pc ds)),.r (A6p 2 ps.length (pc ps))] [4,5] (P n1 (P c1 (P n2 (P n3 a0))))) (W.seq (W.block hl4) (C a 400 [] [2] a0))))))) (by nofun) rfl
def Ik(ls:List (List Rn))(r:Rn)(e:Int)(n:Int)(last:Int)(i:Int):Ak:=(A6o (sL pp ls)::(Q 2 (A6s [A6m r.1,A6n r.2.length (lm r.2),A6l R e]::(Q 1 (A6o (A6l R n)::(A6o (A6l R last)::(A6o (A6l R i)::(Q 34 []))))))))
theorem Ard(ls:List (List Rn))(r:Rn)(e:Int)(n:Int)(last:Int)(i:Int)(w s:Int)(c1:B (i<(ls.length:Int))=true)(c2:(s != 0)=true)(c3:(last != 0)=true)(c4:(s != last)=true)(n1:0<=i/\i<(ls.length:Int))(n2:H I 80 [A6n ((ls.getD (A i) []).length) (pc (ls.getD (A i) [])),At r,A6l R e] (o w))(n3:H I 79 [o w] (A6l R s)):W I NE (Ik ls r e n last i) .norm (Ik ls r e (D R (n+1)) s (D R (i+1))):=(C a 400 [.b true,.v (A6n ((ls.getD (A i) []).length) (pc (ls.getD (A i) []))),.r (o w),.r (A6l R s),.b true,.b true,.b true,.b true] [0,3,5,6,7] (P c1 (P n1 (P (Fj n1) (P n2 (P n3 (P c2 (P c3 (P c4 (P c2 a0))))))))))
theorem Are(ls:List (List Rn))(r:Rn)(e:Int)(n:Int)(last:Int)(i:Int)(w s:Int)(c1:B (i<(ls.length:Int))=true)(c2:(s != 0)=true)(c3:(last != 0)=true)(c4:(s != last)=false)(n1:0<=i/\i<(ls.length:Int))(n2:H I 80 [A6n ((ls.getD (A i) []).length) (pc (ls.getD (A i) [])),At r,A6l R e] (o w))(n3:H I 79 [o w] (A6l R s)):W I NE (Ik ls r e n last i) .norm (Ik ls r e n s (D R (i+1))):=(C a 400 [.b true,.v (A6n ((ls.getD (A i) []).length) (pc (ls.getD (A i) []))),.r (o w),.r (A6l R s),.b true,.b true,.b false,.b true] [0,3,5,6,7] (P c1 (P n1 (P (Fj n1) (P n2 (P n3 (P c2 (P c3 (P c4 (P c2 a0))))))))))
theorem Arf(ls:List (List Rn))(r:Rn)(e:Int)(n:Int)(last:Int)(i:Int)(w s:Int)(c1:B (i<(ls.length:Int))=true)(c2:(s != 0)=true)(c3:(last != 0)=false)(n1:0<=i/\i<(ls.length:Int))(n2:H I 80 [A6n ((ls.getD (A i) []).length) (pc (ls.getD (A i) [])),At r,A6l R e] (o w))(n3:H I 79 [o w] (A6l R s)):W I NE (Ik ls r e n last i) .norm (Ik ls r e n s (D R (i+1))):=(C a 400 [.b true,.v (A6n ((ls.getD (A i) []).length) (pc (ls.getD (A i) []))),.r (o w),.r (A6l R s),.b true,.b false,.b false,.b true] [0,3,5,6,7] (P c1 (P n1 (P (Fj n1) (P n2 (P n3 (P c2 (P c3 (P FA (P c2 a0))))))))))
theorem Arg(ls:List (List Rn))(r:Rn)(e:Int)(n:Int)(last:Int)(i:Int)(w s:Int)(c1:B (i<(ls.length:Int))=true)(c2:(s != 0)=false)(n1:0<=i/\i<(ls.length:Int))(n2:H I 80 [A6n ((ls.getD (A i) []).length) (pc (ls.getD (A i) [])),At r,A6l R e] (o w))(n3:H I 79 [o w] (A6l R s)):W I NE (Ik ls r e n last i) .norm (Ik ls r e n last (D R (i+1))):=(C a 400 [.b true,.v (A6n ((ls.getD (A i) []).length) (pc (ls.getD (A i) []))),.r (o w),.r (A6l R s),.b false,.b false,.b false,.b false] [0,3,5,6,7] (P c1 (P n1 (P (Fj n1) (P n2 (P n3 (P c2 (P FA (P FA (P c2 a0))))))))))
theorem Arh(ls:List (List Rn))(r:Rn)(e:Int)(n:Int)(last:Int)(i:Int)(c1:B (i<(ls.length:Int))=false):W I NE (Ik ls r e n last i) (.exit 0) (Ik ls r e n last i):=(C a 400 [.b false] [0,3,5,6,7] (P c1 a0))
theorem Ari(ls:List (List Rn))(r:Rn)(e n last i:Int)(hl1:W I (.loop NE) (Ik ls r e 0 0 0) (.exit 0) (Ik ls r e n last i)):H I 110 [sL pp ls,A6r [A6m r.1,A6n r.2.length (lm r.2),A6l R e]] (A6l R n):=X (fn:=UD) (s:=(Q 4 (A6o (A6l R n)::(Q 37 [])))) (ex := .ret) rfl rfl (L (q (W.seq (C a 400 [] [0,3,5,6,7] a0) (W.seq (W.block hl1) (C a 400 [] [4] a0))))) (by nofun) rfl
def TZA:Cm:=TDD
theorem mR:BY I TZA:=a
theorem Arj(na nb:Bool)(xs ys qs rs:List Int)(v w:Int)(n1:H I 99 [sL lm xs] (A6p 1 ((Y xs).length) (lm (Y xs))))(n2:H I 99 [sL lm ys] (A6p 1 ((Y ys).length) (lm (Y ys))))(n3:H I 165 [A6n ((Y xs).length) (lm (Y xs)),A6n ((Y ys).length) (lm (Y ys))] (A6t [sL lm qs,sL lm rs]))(n4:H I 98 [A6m (!(na==nb)),sL lm qs] (C6 v))(n5:H I 98 [A6m na,sL lm rs] (C6 w)):H I 138 [A6r [A6m na,sL lm xs],A6r [A6m nb,sL lm ys]] (A6t [o v,o w]):=i (fn:=UX) a rfl 400 rfl [.r (A6p 1 ((Y xs).length) (lm (Y xs))),.r (A6p 1 ((Y ys).length) (lm (Y ys))),.r (A6t [sL lm qs,sL lm rs]),.r (C6 v),.r (C6 w)] (P n1 (P n2 (P n3 (P n4 (P n5 a0)))))
def KZ(x:Rn)(y:Rn):Ak:=(Q 4 (A6s [A6m false,A6n 0 []]::(A6s [A6m x.1,A6n x.2.length (lm x.2)]::(A6s [A6m y.1,A6n y.2.length (lm y.2)]::(Q 20 [])))))
theorem zN(x:Rn)(y:Rn)(q r:Int)(c1:((BL (O y)) != 0)=true)(n1:H I 79 [At y] (A6l R (BL (O y))))(n2:H I 138 [At x,At y] (A6t [o q,o r])):W I QF (KZ x y) .norm (KZ y (cn r)):=(C a 400 [.r (A6l R (BL (O y))),.b true,.r (A6t [o q,o r])] [4,5,6] (P n1 (P c1 (P n2 a0))))
theorem X_(x:Rn)(y:Rn)(c1:((BL (O y)) != 0)=false)(n1:H I 79 [At y] (A6l R (BL (O y)))):W I QF (KZ x y) (.exit 0) (KZ x y):=(C a 400 [.r (A6l R (BL (O y))),.b false] [4,5,6] (P n1 (P c1 a0)))
theorem Ark(na nb:Bool)(xs ys:List Int)(va vb:Int)(x y:Rn)(n1:H I 98 [A6m false,sL lm xs] (C6 va))(n2:H I 98 [A6m false,sL lm ys] (C6 vb))(hl3:W I (.loop QF) (KZ (cn va) (cn vb)) (.exit 0) (KZ x y)):H I 164 [A6r [A6m na,sL lm xs],A6r [A6m nb,sL lm ys]] (At x):=X (fn:=Vm) (s:=(Q 4 (A6s [A6m x.1,A6n x.2.length (lm x.2)]::(Q 22 [])))) (ex := .ret) rfl rfl (L (W.seq (C a 400 [.r (C6 va),.r (C6 vb)] [4,5,6] (P n1 (P n2 a0))) (W.seq (W.block hl3) (C a 400 [] [4] a0)))) (by nofun) rfl
def NZ(rs:List Rn)(w:Rn)(i:Int):Ak:=(A6o (sL pc rs)::(Q 1 (A6s [A6m false,A6n 0 []]::(A6s [A6m w.1,A6n w.2.length (lm w.2)]::(A6o (A6l R i)::(Q 14 []))))))
theorem Arl(rs:List Rn)(w:Rn)(i:Int)(g:Int)(c1:B (i<(rs.length:Int))=true)(n1:0<=i/\i<(rs.length:Int))(n2:H I 164 [At w,At (rs.getD (A i) z0)] (o g)):W I UV (NZ rs w i) .norm (NZ rs (cn g) (D R (i+1))):=(C a 400 [.b true,.v (At (rs.getD (A i) z0)),.r (o g)] [0,2,3,4] (P c1 (P n1 (P (x n1) (P n2 a0)))))
theorem Arm(rs:List Rn)(w:Rn)(i:Int)(c1:B (i<(rs.length:Int))=false):W I UV (NZ rs w i) (.exit 0) (NZ rs w i):=(C a 400 [.b false] [0,2,3,4] (P c1 a0))
theorem Arn(rs:List Rn)(w:Rn)(i:Int)(hl1:W I (.loop UV) (NZ rs (false,[]) 0) (.exit 0) (NZ rs w i)):H I 137 [sL pc rs] (At w):=X (fn:=UW) (s:=(Q 2 (A6s [A6m w.1,A6n w.2.length (lm w.2)]::(Q 16 [])))) (ex := .ret) rfl rfl (L (q (W.seq (C a 400 [] [0,2,3,4] a0) (W.seq (W.block hl1) (C a 400 [] [2] a0))))) (by nofun) rfl
def Tj(rs:List Rn)(c:Rn)(k:Nat)(cs:List AV)(i:Int):Ak:=(A6o (sL pc rs)::(Q 1 (A6q 2 0 []::(A6s [A6m c.1,A6n c.2.length (lm c.2)]::(A6q 2 k cs::(A6o (A6l R i)::(Q 28 [])))))))
theorem A0e(rs:List Rn)(c:Rn)(k:Nat)(cs:List AV)(i:Int)(q r:Int)(c1:B (i<(rs.length:Int))=true)(n1:0<=i/\i<(rs.length:Int))(n2:k+1<=1048576)(n3:H I 138 [At (rs.getD (A i) z0),At c] (A6t [o q,o r])):W I aZ (Tj rs c k cs i) .norm (Tj rs c (k+1) (cs++([A6m (B (q<0)),A6n ((G (E q)).length) (lm (G (E q)))]:List AV)) (D R (i+1))):=(C a 400 [.b true,.v (At (rs.getD (A i) z0)),.r (A6t [o q,o r])] [0,2,3,4,5] (P c1 (P n1 (P (x n1) (P n3 (P (show Bk ([A6m (B (q<0)),A6n ((G (E q)).length) (lm (G (E q)))]:List AV)=1*2 from rfl) (P n2 a0)))))))
theorem A0f(rs:List Rn)(c:Rn)(k:Nat)(cs:List AV)(i:Int)(c1:B (i<(rs.length:Int))=false):W I aZ (Tj rs c k cs i) (.exit 0) (Tj rs c k cs i):=(C a 400 [.b false] [0,2,3,4,5] (P c1 a0))
theorem zO(rs:List Rn)(c:Int)(c1:((BL c)==0)=true)(n1:H I 137 [sL pc rs] (o c))(n2:H I 79 [o c] (A6l R (BL c))):H I 86 [sL pc rs] (A6p 2 0 []):=X (fn:=X8) (s:=(Q 2 (A6q 2 0 []::(Q 31 [])))) (ex := .ret) rfl rfl (L (L (L (q (p (C a 400 [.r (o c),.r (A6l R (BL c)),.b true] [2] (P n1 (P n2 (P c1 a0)))) (by nofun)))))) (by nofun) rfl
theorem zP(rs os ts:List Rn)(c i:Int)(k:Nat)(c1:((BL c)==0)=false)(n1:H I 137 [sL pc rs] (o c))(n2:H I 79 [o c] (A6l R (BL c)))(hl3:W I (.loop aZ) (Tj rs (cn c) 0 ([]:List AV) 0) (.exit 0) (Tj rs (cn c) k (pc os) i))(n4:H I 46 [A6n k (pc os)] (A6p 2 ts.length (pc ts))):H I 86 [sL pc rs] (A6p 2 ts.length (pc ts)):=X (fn:=X8) (s:=(Q 2 (A6q 2 ts.length (pc ts)::(Q 31 [])))) (ex := .ret) rfl rfl (L (L (L (q (W.seq (C a 400 [.r (o c),.r (A6l R (BL c)),.b false] [0,2,3,4,5] (P n1 (P n2 (P c1 a0)))) (W.seq (W.block hl3) (C a 400 [.r (A6p 2 ts.length (pc ts))] [2] (P n4 a0)))))))) (by nofun) rfl
def N'(rs:List Rn)(k:Nat)(cs:List AV)(i:Int):Ak:=(A6o (sL pc rs)::(Q 1 (A6q 2 0 []::(A6q 2 k cs::(A6o (A6l R i)::(Q 18 []))))))
theorem Aro(rs:List Rn)(k:Nat)(cs:List AV)(i:Int)(c1:B (i<(rs.length:Int))=true)(n1:0<=i/\i<(rs.length:Int))(n2:k+1<=1048576)(n3:H I 49 [A6l R i] (o i))(n4:H I 96 [o i,At (rs.getD (A i) z0)] (o (i*(O (rs.getD (A i) z0))))):W I UN (N' rs k cs i) .norm (N' rs (k+1) (cs++([A6m (B ((i*(O (rs.getD (A i) z0)))<0)),A6n ((G (E (i*(O (rs.getD (A i) z0))))).length) (lm (G (E (i*(O (rs.getD (A i) z0))))))]:List AV)) (D R (i+1))):=(C a 400 [.b true,.r (o i),.v (At (rs.getD (A i) z0)),.r (o (i*(O (rs.getD (A i) z0))))] [0,2,3,4] (P c1 (P n3 (P n1 (P (x n1) (P n4 (P (show Bk ([A6m (B ((i*(O (rs.getD (A i) z0)))<0)),A6n ((G (E (i*(O (rs.getD (A i) z0))))).length) (lm (G (E (i*(O (rs.getD (A i) z0))))))]:List AV)=1*2 from rfl) (P n2 a0))))))))
theorem Arp(rs:List Rn)(k:Nat)(cs:List AV)(i:Int)(c1:B (i<(rs.length:Int))=false):W I UN (N' rs k cs i) (.exit 0) (N' rs k cs i):=(C a 400 [.b false] [0,2,3,4] (P c1 a0))
theorem Arq(rs os ts:List Rn)(i:Int)(k:Nat)(hl1:W I (.loop UN) (N' rs 0 ([]:List AV) 1) (.exit 0) (N' rs k (pc os) i))(n2:H I 46 [A6n k (pc os)] (A6p 2 ts.length (pc ts))):H I 122 [sL pc rs] (A6p 2 ts.length (pc ts)):=X (fn:=UO) (s:=(Q 2 (A6q 2 ts.length (pc ts)::(Q 20 [])))) (ex := .ret) rfl rfl (L (q (W.seq (C a 400 [] [0,2,3,4] a0) (W.seq (W.block hl1) (C a 400 [.r (A6p 2 ts.length (pc ts))] [2] (P n2 a0)))))) (by nofun) rfl
def N_(rs:List Rn)(k:Nat)(cs:List AV)(i:Int):Ak:=(A6o (sL pc rs)::(Q 1 (A6q 2 0 []::(A6q 2 k cs::(A6o (A6l R i)::(Q 16 []))))))
theorem Arr(rs:List Rn)(k:Nat)(cs:List AV)(i:Int)(c1:B (i<(rs.length:Int))=true)(n1:0<=i/\i<(rs.length:Int))(n2:k+1<=1048576)(n3:H I 161 [At (rs.getD (A i) z0)] (o (-(O (rs.getD (A i) z0))))):W I Vc (N_ rs k cs i) .norm (N_ rs (k+1) (cs++([A6m (B ((-(O (rs.getD (A i) z0)))<0)),A6n ((G (E (-(O (rs.getD (A i) z0))))).length) (lm (G (E (-(O (rs.getD (A i) z0))))))]:List AV)) (D R (i+1))):=(C a 400 [.b true,.v (At (rs.getD (A i) z0)),.r (o (-(O (rs.getD (A i) z0))))] [0,2,3,4] (P c1 (P n1 (P (x n1) (P n3 (P (show Bk ([A6m (B ((-(O (rs.getD (A i) z0)))<0)),A6n ((G (E (-(O (rs.getD (A i) z0))))).length) (lm (G (E (-(O (rs.getD (A i) z0))))))]:List AV)=1*2 from rfl) (P n2 a0)))))))
theorem Ars(rs:List Rn)(k:Nat)(cs:List AV)(i:Int)(c1:B (i<(rs.length:Int))=false):W I Vc (N_ rs k cs i) (.exit 0) (N_ rs k cs i):=(C a 400 [.b false] [0,2,3,4] (P c1 a0))
theorem Art(rs os ts:List Rn)(i:Int)(k:Nat)(hl1:W I (.loop Vc) (N_ rs 0 ([]:List AV) 0) (.exit 0) (N_ rs k (pc os) i))(n2:H I 46 [A6n k (pc os)] (A6p 2 ts.length (pc ts))):H I 153 [sL pc rs] (A6p 2 ts.length (pc ts)):=X (fn:=Ve) (s:=(Q 2 (A6q 2 ts.length (pc ts)::(Q 18 [])))) (ex := .ret) rfl rfl (L (q (W.seq (C a 400 [] [0,2,3,4] a0) (W.seq (W.block hl1) (C a 400 [.r (A6p 2 ts.length (pc ts))] [2] (P n2 a0)))))) (by nofun) rfl
theorem mS(rs ns:List Rn)(c1:B ((rs.length:Int)>0)=true)(c2:(B ((BL (O (rs.getD (A (D R ((rs.length:Int)-1))) z0)))<0))=true)(n1:0<=(D R ((rs.length:Int)-1))/\(D R ((rs.length:Int)-1))<(rs.length:Int))(n2:H I 79 [At (rs.getD (A (D R ((rs.length:Int)-1))) z0)] (A6l R (BL (O (rs.getD (A (D R ((rs.length:Int)-1))) z0)))))(n3:H I 153 [sL pc rs] (A6p 2 ns.length (pc ns))):H I 120 [sL pc rs] (A6p 2 ns.length (pc ns)):=i (fn:=PE) a rfl 400 rfl [.b true,.v (At (rs.getD (A (D R ((rs.length:Int)-1))) z0)),.r (A6l R (BL (O (rs.getD (A (D R ((rs.length:Int)-1))) z0)))),.b true,.r (A6p 2 ns.length (pc ns))] (P c1 (P n1 (P (x n1) (P n2 (P c2 (P n3 a0))))))
theorem mT(rs:List Rn)(c1:B ((rs.length:Int)>0)=true)(c2:(B ((BL (O (rs.getD (A (D R ((rs.length:Int)-1))) z0)))<0))=false)(n1:0<=(D R ((rs.length:Int)-1))/\(D R ((rs.length:Int)-1))<(rs.length:Int))(n2:H I 79 [At (rs.getD (A (D R ((rs.length:Int)-1))) z0)] (A6l R (BL (O (rs.getD (A (D R ((rs.length:Int)-1))) z0))))):H I 120 [sL pc rs] (sL pc rs):=i (fn:=PE) a rfl 400 rfl [.b true,.v (At (rs.getD (A (D R ((rs.length:Int)-1))) z0)),.r (A6l R (BL (O (rs.getD (A (D R ((rs.length:Int)-1))) z0)))),.b false] (P c1 (P n1 (P (x n1) (P n2 (P c2 a0)))))
theorem mU(rs:List Rn)(c1:B ((rs.length:Int)>0)=false):H I 120 [sL pc rs] (sL pc rs):=i (fn:=PE) a rfl 400 rfl [.b false,.b false] (P c1 (P FA a0))
def Gn(rs:List Rn)(ds:List Rn)(t:Rn)(u:Rn)(q:Int)(k:Nat)(cs:List AV)(i:Int):Ak:=(Q 4 (A6q 2 0 []::(A6o (sL pc rs)::(A6o (sL pc ds)::(A6s [A6m t.1,A6n t.2.length (lm t.2)]::(A6s [A6m u.1,A6n u.2.length (lm u.2)]::(A6o (A6l R q)::(A6q 2 k cs::(A6o (A6l R i)::(Q 68 []))))))))))
theorem zQ(rs:List Rn)(ds:List Rn)(t:Rn)(u:Rn)(q:Int)(k:Nat)(cs:List AV)(i:Int)(c1:(B (i<(D R ((rs.length:Int)-1))))=true)(c2:B (i>=q)=true)(n1:0<=i/\i<(rs.length:Int))(n2:0<=(D R (i-q))/\(D R (i-q))<(ds.length:Int))(n3:k+1<=1048576)(n4:H I 96 [A6r [A6m false,A6n t.2.length (lm t.2)],At (rs.getD (A i) z0)] (o ((O (false,t.2))*(O (rs.getD (A i) z0)))))(n5:H I 96 [At u,At (ds.getD (A (D R (i-q))) z0)] (o ((O u)*(O (ds.getD (A (D R (i-q))) z0)))))(n6:H I 129 [o ((O (false,t.2))*(O (rs.getD (A i) z0))),o ((O u)*(O (ds.getD (A (D R (i-q))) z0)))] (o (((O (false,t.2))*(O (rs.getD (A i) z0)))-((O u)*(O (ds.getD (A (D R (i-q))) z0)))))):W I KM (Gn rs ds t u q k cs i) .norm (Gn rs ds t u q (k+1) (cs++([A6m (B ((((O (false,t.2))*(O (rs.getD (A i) z0)))-((O u)*(O (ds.getD (A (D R (i-q))) z0))))<0)),A6n ((G (E (((O (false,t.2))*(O (rs.getD (A i) z0)))-((O u)*(O (ds.getD (A (D R (i-q))) z0)))))).length) (lm (G (E (((O (false,t.2))*(O (rs.getD (A i) z0)))-((O u)*(O (ds.getD (A (D R (i-q))) z0)))))))]:List AV)) (D R (i+1))):=(C a 400 [.b true,.v (At (rs.getD (A i) z0)),.r (o ((O (false,t.2))*(O (rs.getD (A i) z0)))),.b true,.v (At (ds.getD (A (D R (i-q))) z0)),.r (o ((O u)*(O (ds.getD (A (D R (i-q))) z0)))),.r (o (((O (false,t.2))*(O (rs.getD (A i) z0)))-((O u)*(O (ds.getD (A (D R (i-q))) z0)))))] [4,5,6,7,8,9,10,11] (P c1 (P n1 (P (x n1) (P n4 (P c2 (P n2 (P (x n2) (P n5 (P n6 (P (show Bk ([A6m (B ((((O (false,t.2))*(O (rs.getD (A i) z0)))-((O u)*(O (ds.getD (A (D R (i-q))) z0))))<0)),A6n ((G (E (((O (false,t.2))*(O (rs.getD (A i) z0)))-((O u)*(O (ds.getD (A (D R (i-q))) z0)))))).length) (lm (G (E (((O (false,t.2))*(O (rs.getD (A i) z0)))-((O u)*(O (ds.getD (A (D R (i-q))) z0)))))))]:List AV)=1*2 from rfl) (P n3 a0))))))))))))
theorem zU(rs:List Rn)(ds:List Rn)(t:Rn)(u:Rn)(q:Int)(k:Nat)(cs:List AV)(i:Int)(c1:(B (i<(D R ((rs.length:Int)-1))))=true)(c2:B (i>=q)=false)(n1:0<=i/\i<(rs.length:Int))(n2:k+1<=1048576)(n3:H I 96 [A6r [A6m false,A6n t.2.length (lm t.2)],At (rs.getD (A i) z0)] (o ((O (false,t.2))*(O (rs.getD (A i) z0))))):W I KM (Gn rs ds t u q k cs i) .norm (Gn rs ds t u q (k+1) (cs++([A6m (B (((O (false,t.2))*(O (rs.getD (A i) z0)))<0)),A6n ((G (E ((O (false,t.2))*(O (rs.getD (A i) z0))))).length) (lm (G (E ((O (false,t.2))*(O (rs.getD (A i) z0))))))]:List AV)) (D R (i+1))):=(C a 400 [.b true,.v (At (rs.getD (A i) z0)),.r (o ((O (false,t.2))*(O (rs.getD (A i) z0)))),.b false] [4,5,6,7,8,9,10,11] (P c1 (P n1 (P (x n1) (P n3 (P c2 (P (show Bk ([A6m (B (((O (false,t.2))*(O (rs.getD (A i) z0)))<0)),A6n ((G (E ((O (false,t.2))*(O (rs.getD (A i) z0))))).length) (lm (G (E ((O (false,t.2))*(O (rs.getD (A i) z0))))))]:List AV)=1*2 from rfl) (P n2 a0))))))))
theorem zW(rs:List Rn)(ds:List Rn)(t:Rn)(u:Rn)(q:Int)(k:Nat)(cs:List AV)(i:Int)(c1:(B (i<(D R ((rs.length:Int)-1))))=false):W I KM (Gn rs ds t u q k cs i) (.exit 2) (Gn rs ds t u q k cs i):=(C a 400 [.b false] [4,5,6,7,8,9,10,11] (P c1 a0))
def J3(rs:List Rn)(ds:List Rn)(t:Rn):Ak:=(Q 4 (A6q 2 0 []::(A6o (sL pc rs)::(A6o (sL pc ds)::(A6s [A6m t.1,A6n t.2.length (lm t.2)]::(Q 72 []))))))
theorem Aru(rs:List Rn)(ds:List Rn)(t:Rn)(os ts xs:List Rn)(k:Nat)(i:Int)(c1:B ((rs.length:Int)>=(ds.length:Int))=true)(c2:B ((BL (O t))<0)=true)(n1:0<=(D R ((rs.length:Int)-1))/\(D R ((rs.length:Int)-1))<(rs.length:Int))(n2:H I 79 [At t] (A6l R (BL (O t))))(n3:H I 161 [At (rs.getD (A (D R ((rs.length:Int)-1))) z0)] (o (-(O (rs.getD (A (D R ((rs.length:Int)-1))) z0)))))(hl4:W I (.loop KM) (Gn rs ds t (cn (-(O (rs.getD (A (D R ((rs.length:Int)-1))) z0)))) (D R ((rs.length:Int)-(ds.length:Int))) 0 ([]:List AV) 0) (.exit 2) (Gn rs ds t (cn (-(O (rs.getD (A (D R ((rs.length:Int)-1))) z0)))) (D R ((rs.length:Int)-(ds.length:Int))) k (pc os) i))(n5:H I 46 [A6n k (pc os)] (A6p 2 ts.length (pc ts)))(n6:H I 86 [sL pc ts] (A6p 2 xs.length (pc xs))):W I PD (J3 rs ds t) .norm (J3 xs ds t):=(W.seq (C (t:=(Q 4 (A6q 2 0 []::(vp rs::(vp ds::(bR t::(Q 72 []))))))) a 400 [.b true] [4,5,6,7] (P c1 a0)) (Ci (L (L (L (q (W.seq (C a 400 [.v (At (rs.getD (A (D R ((rs.length:Int)-1))) z0)),.r (A6l R (BL (O t))),.b true,.r (o (-(O (rs.getD (A (D R ((rs.length:Int)-1))) z0))))] [4,5,6,7,8,9,10,11] (P n1 (P (x n1) (P n2 (P c2 (P n3 a0)))))) (W.seq (W.block hl4) (C a 400 [.r (A6p 2 ts.length (pc ts)),.r (A6p 2 xs.length (pc xs))] [4,5,6,7] (P n5 (P n6 a0)))))))))))
theorem Arv(rs:List Rn)(ds:List Rn)(t:Rn)(os ts xs:List Rn)(k:Nat)(i:Int)(c1:B ((rs.length:Int)>=(ds.length:Int))=true)(c2:B ((BL (O t))<0)=false)(n1:0<=(D R ((rs.length:Int)-1))/\(D R ((rs.length:Int)-1))<(rs.length:Int))(n2:H I 79 [At t] (A6l R (BL (O t))))(hl3:W I (.loop KM) (Gn rs ds t (rs.getD (A (D R ((rs.length:Int)-1))) z0) (D R ((rs.length:Int)-(ds.length:Int))) 0 ([]:List AV) 0) (.exit 2) (Gn rs ds t (rs.getD (A (D R ((rs.length:Int)-1))) z0) (D R ((rs.length:Int)-(ds.length:Int))) k (pc os) i))(n4:H I 46 [A6n k (pc os)] (A6p 2 ts.length (pc ts)))(n5:H I 86 [sL pc ts] (A6p 2 xs.length (pc xs))):W I PD (J3 rs ds t) .norm (J3 xs ds t):=(W.seq (C (t:=(Q 4 (A6q 2 0 []::(vp rs::(vp ds::(bR t::(Q 72 []))))))) a 400 [.b true] [4,5,6,7] (P c1 a0)) (Ci (L (L (L (q (W.seq (C a 400 [.v (At (rs.getD (A (D R ((rs.length:Int)-1))) z0)),.r (A6l R (BL (O t))),.b false] [4,5,6,7,8,9,10,11] (P n1 (P (x n1) (P n2 (P c2 a0))))) (W.seq (W.block hl3) (C a 400 [.r (A6p 2 ts.length (pc ts)),.r (A6p 2 xs.length (pc xs))] [4,5,6,7] (P n4 (P n5 a0)))))))))))
theorem dC(rs:List Rn)(ds:List Rn)(t:Rn)(c1:B ((rs.length:Int)>=(ds.length:Int))=false):W I PD (J3 rs ds t) (.exit 0) (J3 rs ds t):=(p (C a 400 [.b false] [4,5,6,7] (P c1 a0)) (by nofun))
theorem Arw(rs ss ps ds us:List Rn)(t:Rn)(n1:H I 86 [sL pc rs] (A6p 2 ps.length (pc ps)))(n2:H I 46 [sL pc ss] (A6p 2 ds.length (pc ds)))(n3:0<=(D R ((ds.length:Int)-1))/\(D R ((ds.length:Int)-1))<(ds.length:Int))(hl4:W I (.loop PD) (J3 ps ds (ds.getD (A (D R ((ds.length:Int)-1))) z0)) (.exit 0) (J3 us ds t)):H I 119 [sL pc rs,sL pc ss] (sL pc us):=X (fn:=UL) (s:=(Q 4 (A6o (sL pc us)::(Q 75 [])))) (ex := .ret) rfl rfl (L (L (W.seq (C a 400 [.r (A6p 2 ps.length (pc ps)),.r (A6p 2 ds.length (pc ds)),.v (At (ds.getD (A (D R ((ds.length:Int)-1))) z0))] [4,5,6,7] (P n1 (P n2 (P n3 (P (x n3) a0))))) (W.seq (W.block hl4) (C a 400 [] [4] a0))))) (by nofun) rfl
def J4(as1:List Rn)(bs:List Rn):Ak:=(Q 4 (A6q 2 0 []::(A6o (sL pc as1)::(A6o (sL pc bs)::(Q 15 [])))))
theorem dF(as1:List Rn)(bs:List Rn)(us:List Rn)(c1:B ((bs.length:Int)>0)=true)(n1:H I 119 [sL pc as1,sL pc bs] (sL pc us)):W I PA (J4 as1 bs) .norm (J4 bs us):=(C a 400 [.b true,.r (sL pc us)] [4,5,6] (P c1 (P n1 a0)))
theorem dH(as1:List Rn)(bs:List Rn)(c1:B ((bs.length:Int)>0)=false):W I PA (J4 as1 bs) (.exit 0) (J4 as1 bs):=(C a 400 [.b false] [4,5,6] (P c1 a0))
theorem zX(rs ss ps qs as1 bs ts:List Rn)(n1:H I 86 [sL pc rs] (A6p 2 ps.length (pc ps)))(n2:H I 86 [sL pc ss] (A6p 2 qs.length (pc qs)))(hl3:W I (.loop PA) (J4 ps qs) (.exit 0) (J4 as1 bs))(n4:H I 120 [sL pc as1] (A6p 2 ts.length (pc ts))):H I 70 [sL pc rs,sL pc ss] (A6p 2 ts.length (pc ts)):=X (fn:=X6) (s:=(Q 4 (A6q 2 ts.length (pc ts)::(Q 17 [])))) (ex := .ret) rfl rfl (L (W.seq (C a 400 [.r (A6p 2 ps.length (pc ps)),.r (A6p 2 qs.length (pc qs))] [4,5,6] (P n1 (P n2 a0))) (W.seq (W.block hl3) (C a 400 [.r (A6p 2 ts.length (pc ts))] [4] (P n4 a0))))) (by nofun) rfl
theorem zY(rs ss ps qs as1 bs:List Rn)(n1:H I 86 [sL pc rs] (A6p 2 ps.length (pc ps)))(n2:H I 86 [sL pc ss] (A6p 2 qs.length (pc qs)))(hl3:W I (.loop PA) (J4 ps qs) (.exit 0) (J4 as1 bs))(n4:H I 120 [sL pc as1] (sL pc as1)):H I 70 [sL pc rs,sL pc ss] (sL pc as1):=X (fn:=X6) (s:=(Q 4 (A6o (sL pc as1)::(Q 17 [])))) (ex := .ret) rfl rfl (L (W.seq (C a 400 [.r (A6p 2 ps.length (pc ps)),.r (A6p 2 qs.length (pc qs))] [4,5,6] (P n1 (P n2 a0))) (W.seq (W.block hl3) (C a 400 [.r (sL pc as1)] [4] (P n4 a0))))) (by nofun) rfl
def IP(rs:List Rn)(ds:List Rn)(t:Rn)(k:Nat)(os:List Rn)(u:Rn)(q:Int)(i:Int):Ak:=(Q 4 (A6q 2 0 []::(A6o (sL pc rs)::(A6o (sL pc ds)::(A6s [A6m t.1,A6n t.2.length (lm t.2)]::(A6q 2 k (pc os)::(A6s [A6m u.1,A6n u.2.length (lm u.2)]::(A6o (A6l R q)::(A6o (A6l R i)::(Q 91 []))))))))))
theorem zZ(rs:List Rn)(ds:List Rn)(t:Rn)(k:Nat)(os:List Rn)(u:Rn)(q:Int)(i:Int)(c1:B (i<(k:Int))=true)(n1:0<=i/\i<(k:Int))(n2:os.length=k)(n3:H I 96 [At (os.getD (A i) z0),At t] (o ((O (os.getD (A i) z0))*(O t)))):W I O4 (IP rs ds t k os u q i) .norm (IP rs ds t k (os.set (A i) (cn ((O (os.getD (A i) z0))*(O t)))) u q (D R (i+1))):=(C a 400 [.b true,.v (At (os.getD (A i) z0)),.r (o ((O (os.getD (A i) z0))*(O t))),.l (pc (os.set (A i) (cn ((O (os.getD (A i) z0))*(O t)))))] [4,5,6,7,8,9,10,11] (P c1 (P n1 (P (FQ n2 n1) (P n3 (P n1 (P (Ft (r:=cn ((O (os.getD (A i) z0))*(O t))) n2 n1) a0)))))))
theorem Aaa(rs:List Rn)(ds:List Rn)(t:Rn)(k:Nat)(os:List Rn)(u:Rn)(q:Int)(i:Int)(c1:B (i<(k:Int))=false):W I O4 (IP rs ds t k os u q i) (.exit 2) (IP rs ds t k os u q i):=(C a 400 [.b false] [4,5,6,7,8,9,10,11] (P c1 a0))
def Hd(rs:List Rn)(ds:List Rn)(t:Rn)(k:Nat)(os:List Rn)(u:Rn)(q:Int)(m:Nat)(cs:List AV)(i:Int):Ak:=(Q 4 (A6q 2 0 []::(A6o (sL pc rs)::(A6o (sL pc ds)::(A6s [A6m t.1,A6n t.2.length (lm t.2)]::(A6q 2 k (pc os)::(A6s [A6m u.1,A6n u.2.length (lm u.2)]::(A6o (A6l R q)::(Q 1 (A6q 2 m cs::(A6o (A6l R i)::(Q 89 []))))))))))))
theorem Aab(rs:List Rn)(ds:List Rn)(t:Rn)(k:Nat)(os:List Rn)(u:Rn)(q:Int)(m:Nat)(cs:List AV)(i:Int)(c1:(B (i<(D R ((rs.length:Int)-1))))=true)(c2:B (i>=q)=true)(n1:0<=i/\i<(rs.length:Int))(n2:0<=(D R (i-q))/\(D R (i-q))<(ds.length:Int))(n3:m+1<=1048576)(n4:H I 96 [At t,At (rs.getD (A i) z0)] (o ((O t)*(O (rs.getD (A i) z0)))))(n5:H I 96 [At u,At (ds.getD (A (D R (i-q))) z0)] (o ((O u)*(O (ds.getD (A (D R (i-q))) z0)))))(n6:H I 129 [o ((O t)*(O (rs.getD (A i) z0))),o ((O u)*(O (ds.getD (A (D R (i-q))) z0)))] (o (((O t)*(O (rs.getD (A i) z0)))-((O u)*(O (ds.getD (A (D R (i-q))) z0)))))):W I Mq (Hd rs ds t k os u q m cs i) .norm (Hd rs ds t k os u q (m+1) (cs++([A6m (B ((((O t)*(O (rs.getD (A i) z0)))-((O u)*(O (ds.getD (A (D R (i-q))) z0))))<0)),A6n ((G (E (((O t)*(O (rs.getD (A i) z0)))-((O u)*(O (ds.getD (A (D R (i-q))) z0)))))).length) (lm (G (E (((O t)*(O (rs.getD (A i) z0)))-((O u)*(O (ds.getD (A (D R (i-q))) z0)))))))]:List AV)) (D R (i+1))):=(C a 400 [.b true,.v (At (rs.getD (A i) z0)),.r (o ((O t)*(O (rs.getD (A i) z0)))),.b true,.v (At (ds.getD (A (D R (i-q))) z0)),.r (o ((O u)*(O (ds.getD (A (D R (i-q))) z0)))),.r (o (((O t)*(O (rs.getD (A i) z0)))-((O u)*(O (ds.getD (A (D R (i-q))) z0)))))] [4,5,6,7,8,9,10,12,13] (P c1 (P n1 (P (x n1) (P n4 (P c2 (P n2 (P (x n2) (P n5 (P n6 (P (show Bk ([A6m (B ((((O t)*(O (rs.getD (A i) z0)))-((O u)*(O (ds.getD (A (D R (i-q))) z0))))<0)),A6n ((G (E (((O t)*(O (rs.getD (A i) z0)))-((O u)*(O (ds.getD (A (D R (i-q))) z0)))))).length) (lm (G (E (((O t)*(O (rs.getD (A i) z0)))-((O u)*(O (ds.getD (A (D R (i-q))) z0)))))))]:List AV)=1*2 from rfl) (P n3 a0))))))))))))
theorem Aac(rs:List Rn)(ds:List Rn)(t:Rn)(k:Nat)(os:List Rn)(u:Rn)(q:Int)(m:Nat)(cs:List AV)(i:Int)(c1:(B (i<(D R ((rs.length:Int)-1))))=true)(c2:B (i>=q)=false)(n1:0<=i/\i<(rs.length:Int))(n2:m+1<=1048576)(n3:H I 96 [At t,At (rs.getD (A i) z0)] (o ((O t)*(O (rs.getD (A i) z0))))):W I Mq (Hd rs ds t k os u q m cs i) .norm (Hd rs ds t k os u q (m+1) (cs++([A6m (B (((O t)*(O (rs.getD (A i) z0)))<0)),A6n ((G (E ((O t)*(O (rs.getD (A i) z0))))).length) (lm (G (E ((O t)*(O (rs.getD (A i) z0))))))]:List AV)) (D R (i+1))):=(C a 400 [.b true,.v (At (rs.getD (A i) z0)),.r (o ((O t)*(O (rs.getD (A i) z0)))),.b false] [4,5,6,7,8,9,10,12,13] (P c1 (P n1 (P (x n1) (P n3 (P c2 (P (show Bk ([A6m (B (((O t)*(O (rs.getD (A i) z0)))<0)),A6n ((G (E ((O t)*(O (rs.getD (A i) z0))))).length) (lm (G (E ((O t)*(O (rs.getD (A i) z0))))))]:List AV)=1*2 from rfl) (P n2 a0))))))))
theorem Aad(rs:List Rn)(ds:List Rn)(t:Rn)(k:Nat)(os:List Rn)(u:Rn)(q:Int)(m:Nat)(cs:List AV)(i:Int)(c1:(B (i<(D R ((rs.length:Int)-1))))=false):W I Mq (Hd rs ds t k os u q m cs i) (.exit 4) (Hd rs ds t k os u q m cs i):=(C a 400 [.b false] [4,5,6,7,8,9,10,12,13] (P c1 a0))
def Qa(rs:List Rn)(ds:List Rn)(t:Rn)(k:Nat)(os:List Rn):Ak:=(Q 4 (A6q 2 0 []::(A6o (sL pc rs)::(A6o (sL pc ds)::(A6s [A6m t.1,A6n t.2.length (lm t.2)]::(A6q 2 k (pc os)::(Q 94 [])))))))
theorem Arx(rs:List Rn)(ds:List Rn)(t:Rn)(k:Nat)(os:List Rn)(os1 ns ts:List Rn)(m:Nat)(i1 i2:Int)(c1:B ((rs.length:Int)>=(ds.length:Int))=true)(n1:0<=(D R ((rs.length:Int)-1))/\(D R ((rs.length:Int)-1))<(rs.length:Int))(hl2:W I (.loop O4) (IP rs ds t k os (rs.getD (A (D R ((rs.length:Int)-1))) z0) (D R ((rs.length:Int)-(ds.length:Int))) 0) (.exit 2) (IP rs ds t k os1 (rs.getD (A (D R ((rs.length:Int)-1))) z0) (D R ((rs.length:Int)-(ds.length:Int))) i1))(n3:0<=(D R ((rs.length:Int)-(ds.length:Int)))/\(D R ((rs.length:Int)-(ds.length:Int)))<(k:Int))(n4:os1.length=k)(hl5:W I (.loop Mq) (Hd rs ds t k (os1.set (A (D R ((rs.length:Int)-(ds.length:Int)))) (rs.getD (A (D R ((rs.length:Int)-1))) z0)) (rs.getD (A (D R ((rs.length:Int)-1))) z0) (D R ((rs.length:Int)-(ds.length:Int))) 0 ([]:List AV) 0) (.exit 4) (Hd rs ds t k (os1.set (A (D R ((rs.length:Int)-(ds.length:Int)))) (rs.getD (A (D R ((rs.length:Int)-1))) z0)) (rs.getD (A (D R ((rs.length:Int)-1))) z0) (D R ((rs.length:Int)-(ds.length:Int))) m (pc ns) i2))(n6:H I 46 [A6n m (pc ns)] (A6p 2 ts.length (pc ts))):W I UP (Qa rs ds t k os) .norm (Qa ts ds t k (os1.set (A (D R ((rs.length:Int)-(ds.length:Int)))) (rs.getD (A (D R ((rs.length:Int)-1))) z0))):=(W.seq (C (t:=(Q 4 (A6q 2 0 []::(vp rs::(vp ds::(bR t::(A6q 2 k (pc os)::(Q 94 [])))))))) a 400 [.b true] [4,5,6,7,8] (P c1 a0)) (Ci (L (q (W.seq (C a 400 [.v (At (rs.getD (A (D R ((rs.length:Int)-1))) z0))] [4,5,6,7,8,9,10,11] (P n1 (P (x n1) a0))) (W.seq (W.block hl2) (L (q (W.seq (C a 400 [.l (pc (os1.set (A (D R ((rs.length:Int)-(ds.length:Int)))) (rs.getD (A (D R ((rs.length:Int)-1))) z0)))] [4,5,6,7,8,9,10,12,13] (P n3 (P (Ft (r:=rs.getD (A (D R ((rs.length:Int)-1))) z0) n4 n3) a0))) (W.seq (W.block hl5) (C a 400 [.r (A6p 2 ts.length (pc ts))] [4,5,6,7,8] (P n6 a0))))))))))))
theorem dI(rs:List Rn)(ds:List Rn)(t:Rn)(k:Nat)(os:List Rn)(c1:B ((rs.length:Int)>=(ds.length:Int))=false):W I UP (Qa rs ds t k os) (.exit 0) (Qa rs ds t k os):=(p (C a 400 [.b false] [4,5,6,7,8] (P c1 a0)) (by nofun))
theorem Ary(rs ss ps ds xs os us ts:List Rn)(t:Rn)(k:Nat)(n1:H I 46 [sL pc rs] (A6p 2 ps.length (pc ps)))(n2:H I 46 [sL pc ss] (A6p 2 ds.length (pc ds)))(n3:0<=(D R ((ds.length:Int)-1))/\(D R ((ds.length:Int)-1))<(ds.length:Int))(n4:0<=(D R ((D R ((ps.length:Int)-(ds.length:Int)))+1))/\(D R ((D R ((ps.length:Int)-(ds.length:Int)))+1))<=1048576)(hl5:W I (.loop UP) ((Q 4 (A6q 2 0 []::(A6o (sL pc ps)::(A6o (sL pc ds)::(A6s [A6m ((ds.getD (A (D R ((ds.length:Int)-1))) z0).1),A6n ((ds.getD (A (D R ((ds.length:Int)-1))) z0).2.length) (lm (ds.getD (A (D R ((ds.length:Int)-1))) z0).2)]::(A6q 2 (A (D R ((D R ((ps.length:Int)-(ds.length:Int)))+1))) (Cp [A6m false,A6n 0 []] (A (D R ((D R ((ps.length:Int)-(ds.length:Int)))+1))))::(Q 94 [])))))))) (.exit 0) (Qa xs ds t k os))(n6:H I 46 [A6n k (pc os)] (A6p 2 ts.length (pc ts)))(n7:H I 86 [sL pc ts] (A6p 2 us.length (pc us)))(n8:H I 120 [sL pc us] (sL pc us)):H I 123 [sL pc rs,sL pc ss] (sL pc us):=X (fn:=UQ) (s:=(Q 4 (A6o (sL pc us)::(Q 98 [])))) (ex := .ret) rfl rfl (L (L (L (W.seq (C a 400 [.r (A6p 2 ps.length (pc ps)),.r (A6p 2 ds.length (pc ds)),.v (At (ds.getD (A (D R ((ds.length:Int)-1))) z0))] [4,5,6,7,8] (P n1 (P n2 (P n3 (P (x n3) (P n4 a0)))))) (W.seq (W.block hl5) (C a 400 [.r (A6p 2 ts.length (pc ts)),.r (A6p 2 us.length (pc us)),.r (sL pc us)] [4] (P n6 (P n7 (P n8 a0))))))))) (by nofun) rfl
theorem Zj(rs ps xs:List Rn)(c1:B ((xs.length:Int)<=1)=true)(n1:H I 86 [sL pc rs] (A6p 2 ps.length (pc ps)))(n2:H I 120 [sL pc ps] (A6p 2 xs.length (pc xs))):H I 73 [sL pc rs] (sL pc xs):=i (fn:=Pj) a rfl 400 rfl [.r (A6p 2 ps.length (pc ps)),.r (A6p 2 xs.length (pc xs)),.b true] (P n1 (P n2 (P c1 a0)))
theorem Zk(rs ps xs ds gs us:List Rn)(c1:B ((xs.length:Int)<=1)=false)(n1:H I 86 [sL pc rs] (A6p 2 ps.length (pc ps)))(n2:H I 120 [sL pc ps] (A6p 2 xs.length (pc xs)))(n3:H I 122 [sL pc xs] (A6p 2 ds.length (pc ds)))(n4:H I 70 [sL pc xs,sL pc ds] (A6p 2 gs.length (pc gs)))(n5:H I 123 [sL pc xs,sL pc gs] (sL pc us)):H I 73 [sL pc rs] (sL pc us):=i (fn:=Pj) a rfl 400 rfl [.r (A6p 2 ps.length (pc ps)),.r (A6p 2 xs.length (pc xs)),.b false,.r (A6p 2 ds.length (pc ds)),.r (A6p 2 gs.length (pc gs)),.r (sL pc us)] (P n1 (P n2 (P c1 (P n3 (P n4 (P n5 a0))))))
theorem Zl(rs ps xs ds gs us:List Rn)(c1:B ((xs.length:Int)<=1)=false)(n1:H I 86 [sL pc rs] (A6p 2 ps.length (pc ps)))(n2:H I 120 [sL pc ps] (A6p 2 xs.length (pc xs)))(n3:H I 122 [sL pc xs] (A6p 2 ds.length (pc ds)))(n4:H I 70 [sL pc xs,sL pc ds] (sL pc gs))(n5:H I 123 [sL pc xs,sL pc gs] (sL pc us)):H I 73 [sL pc rs] (sL pc us):=i (fn:=Pj) a rfl 400 rfl [.r (A6p 2 ps.length (pc ps)),.r (A6p 2 xs.length (pc xs)),.b false,.r (A6p 2 ds.length (pc ds)),.r (sL pc gs),.r (sL pc us)] (P n1 (P n2 (P c1 (P n3 (P n4 (P n5 a0))))))
theorem Zm(rs ps ds gs us:List Rn)(c1:B ((ps.length:Int)<=1)=false)(n1:H I 86 [sL pc rs] (A6p 2 ps.length (pc ps)))(n2:H I 120 [sL pc ps] (sL pc ps))(n3:H I 122 [sL pc ps] (A6p 2 ds.length (pc ds)))(n4:H I 70 [sL pc ps,sL pc ds] (A6p 2 gs.length (pc gs)))(n5:H I 123 [sL pc ps,sL pc gs] (sL pc us)):H I 73 [sL pc rs] (sL pc us):=i (fn:=Pj) a rfl 400 rfl [.r (A6p 2 ps.length (pc ps)),.r (sL pc ps),.b false,.r (A6p 2 ds.length (pc ds)),.r (A6p 2 gs.length (pc gs)),.r (sL pc us)] (P n1 (P n2 (P c1 (P n3 (P n4 (P n5 a0))))))
theorem Zn(rs ps:List Rn)(c1:B ((ps.length:Int)<=1)=true)(n1:H I 86 [sL pc rs] (A6p 2 ps.length (pc ps)))(n2:H I 120 [sL pc ps] (sL pc ps)):H I 73 [sL pc rs] (sL pc ps):=i (fn:=Pj) a rfl 400 rfl [.r (A6p 2 ps.length (pc ps)),.r (sL pc ps),.b true] (P n1 (P n2 (P c1 a0)))
theorem Zo(rs ps ds gs us:List Rn)(c1:B ((ps.length:Int)<=1)=false)(n1:H I 86 [sL pc rs] (A6p 2 ps.length (pc ps)))(n2:H I 120 [sL pc ps] (sL pc ps))(n3:H I 122 [sL pc ps] (A6p 2 ds.length (pc ds)))(n4:H I 70 [sL pc ps,sL pc ds] (sL pc gs))(n5:H I 123 [sL pc ps,sL pc gs] (sL pc us)):H I 73 [sL pc rs] (sL pc us):=i (fn:=Pj) a rfl 400 rfl [.r (A6p 2 ps.length (pc ps)),.r (sL pc ps),.b false,.r (A6p 2 ds.length (pc ds)),.r (sL pc gs),.r (sL pc us)] (P n1 (P n2 (P c1 (P n3 (P n4 (P n5 a0))))))
theorem mV(a b q r:Int)(hq:q=(a.natAbs:Int) / (b.natAbs:Int))(hr:r=(a.natAbs:Int) % (b.natAbs:Int)) :
  (if (!(decide (a<0)==decide (b<0)))=true then -q else q)=As a b/\(if decide (a<0)=true then -r else r)=AA a b:=by
 subst hq hr;have hA:(0:Int)<=(a.natAbs:Int):=by omega
 by_cases ha:a<0 <;> by_cases hb:b<0
 ·have ea:a = -(a.natAbs:Int):=by omega
  have eb:b = -(b.natAbs:Int):=by omega
  have h1:As a b=(a.natAbs:Int) / (b.natAbs:Int):=by
   rw[<- B5 hA];conv=>lhs;rw[ea,eb,Aeq,Aer,Int.neg_neg]
  have h2:AA a b = -((a.natAbs:Int) % (b.natAbs:Int)):=by
   rw[<- Bl hA];conv=>lhs;rw[ea,eb,Aes,Aet]
  rw[h1,h2,decide_eq_true ha,decide_eq_true hb];simp
 ·have ea:a = -(a.natAbs:Int):=by omega
  have eb:b=(b.natAbs:Int):=by omega
  have h1:As a b = -((a.natAbs:Int) / (b.natAbs:Int)):=by
   rw[<- B5 hA];conv=>lhs;rw[ea,eb,Aeq]
  have h2:AA a b = -((a.natAbs:Int) % (b.natAbs:Int)):=by
   rw[<- Bl hA];conv=>lhs;rw[ea,eb,Aes]
  rw[h1,h2,decide_eq_true ha,decide_eq_false hb];simp
 ·have ea:a=(a.natAbs:Int):=by omega
  have eb:b = -(b.natAbs:Int):=by omega
  have h1:As a b = -((a.natAbs:Int) / (b.natAbs:Int)):=by
   rw[<- B5 hA];conv=>lhs;rw[ea,eb,Aer]
  have h2:AA a b=(a.natAbs:Int) % (b.natAbs:Int):=by
   rw[<- Bl hA];conv=>lhs;rw[ea,eb,Aet]
  rw[h1,h2,decide_eq_false ha,decide_eq_true hb];simp
 ·have ea:a=(a.natAbs:Int):=by omega
  have eb:b=(b.natAbs:Int):=by omega
  have h1:As a b=(a.natAbs:Int) / (b.natAbs:Int):=by
   rw[<- B5 hA];conv=>lhs;rw[ea,eb]
  have h2:AA a b=(a.natAbs:Int) % (b.natAbs:Int):=by
   rw[<- Bl hA];conv=>lhs;rw[ea,eb]
  rw[h1,h2,decide_eq_false ha,decide_eq_false hb];simp
theorem OG{na nb:Bool}{xs ys:List Int}(hx:AL xs)(hy:AL ys)(h0:rv nb ys ≠ 0)(h1:xs.length<1048576)(h2:ys.length<1048576) :
  H I 158 [A6r [A6m na,sL lm xs],A6r [A6m nb,sL lm ys]] (A6t [o (As (rv na xs) (rv nb ys)),o (AA (rv na xs) (rv nb ys))]):=by
 have l1:=E6 (neg:=na) hx;have l2:=E6 (neg:=nb) hy;have r1:=Dh (neg:=na) hx (by omega);have r2:=Dh (neg:=nb) hy (by omega);generalize rv na xs=a at *
 generalize rv nb ys=b at *
 have hb0:G b.natAbs ≠ []:=by rw[Ne,I4];omega
 obtain⟨qs,rs,q1,q2,q3,q4,q5,q6,q7⟩:=WV (Cc a.natAbs) (Cc b.natAbs) hb0 (by omega) (by omega);rw[Cn,Cn] at q5 q6;obtain⟨e1,e2⟩:=mV a b _ _ q5 q6;have m1:=E8 (neg := !(decide (a<0)==decide (b<0))) q1 q3;have m2:=E8 (neg:=decide (a<0)) q2 q4;have f1:rv (!(decide (a<0)==decide (b<0))) qs=As a b:=e1;have f2:rv (B (a<0)) rs=AA a b:=e2;rw[f1] at m1;rw[f2] at m2;exact Aqg na nb _ _ xs ys _ _ qs rs _ _ r1 r2 q7 m1 m2
theorem Tk{n:Nat}{b:Bool}(h:(G n).length<=2):H I 183 [A6r [A6m b,A6n (G n).length (lm (G n))]] (A6l U (n:Nat)):=by
 have hu:=BK n;have hv:=Cn n;generalize hxs:G n=xs at *
 have hl:=W.up (prog:=I) (c:=Vs) (ex := .exit 0) (fin:=NT xs (n:Nat) (xs.length:Nat) (xs.length:Nat))
  (fun i=>NT xs (Ac (xs.take i)) (xs.length:Nat) (i:Nat)) xs.length (by nofun) ?_ ?_ 0 (Bv _)
 ·exact Aqj b xs (n:Nat) (xs.length:Nat) (xs.length:Nat) (by simpa [Ac] using hl)
 ·intro i hi;have ei:D R ((i:Int)+1)=((i+1:Nat):Int):=by rw[Bg (by omega) (by omega)];omega
  have e32:D U (D R (32*(i:Int)))=((32*i:Nat):Int):=by rw[Bg (by omega) (by omega),C2 (by omega)];omega
  have em:min (A ((32*i:Nat):Int)) (Al .u64)=32*i:=by rw[F];show min (32*i) 64=32*i;omega
  have hxi:=AE hu i;have k:=Aqh xs (Ac (xs.take i)) (xs.length:Nat) (i:Nat) (by simp;omega) (by omega) (by rw[e32];omega);rw[ei,e32,em,F,C2 (n:=xs.getD i 0) (by omega)] at k;have hp:xs.getD i 0*2^(32*i)<18446744073709551616:=by
   have:=Gv (show 32*i<=32 by omega);rw[show (2:Int)^32=4294967296 by decide] at this;have:=DR (show xs.getD i 0<=4294967295 by omega) this (by have:=BG (32*i);omega) (by omega);omega
  have h0:=A3 hxi.1 (show (0:Int)<=2^(32*i) by have:=BG (32*i);omega);have hlt:=FS hu i;rw[M7] at hlt;rw[C2 ⟨h0,hp⟩,TL,Aos hxi.1 hp (by omega) ⟨AT (DH hu i),hlt⟩] at k;refine k.to rfl ?_;rw[DM xs i hi,M7];congr 1;rw[A8];omega
 ·rw[E3,hv];exact Aqi xs (n:Nat) (xs.length:Nat) (xs.length:Nat) (by simp)
theorem Zp:∀ (f a b:Nat),b<=f->W I (.loop Vq) (NU (a:Nat) (b:Nat)) (.exit 0) (NU (Il a b:Nat) 0):=by
 intro f;induction f with
 | zero =>
  intro a b hb;have:b=0:=by omega
  subst this;rw[GB];exact Am (cO _ _ (by simp)) (by nofun)
 | succ f ih =>
  intro a b hb;by_cases h0:b=0
  ·subst h0;rw[GB];exact Am (cO _ _ (by simp)) (by nofun)
  ·have k:=Aql (a:Nat) (b:Nat) (by simp;omega) (by omega);rw[Bl (by omega),<- Arz] at k;have hm:=H8 a (show 0<b by omega);have:=ih b (a % b) (by omega);rw[Jr b,<- Avs,Jr b a] at this;exact W.loop k this
theorem sG{n:Nat}(h:(G n).length<=2):(n:Int)<18446744073709551616:=by
 have h1:=D9 (BK n);rw[Cn] at h1;have h2:=Gb h;rw[show (4294967296:Int)^2=18446744073709551616 by decide] at h2;omega
theorem dJ{n:Nat}(h:(n:Int)<18446744073709551616):H I 181 [A6l U (n:Nat)] (o (n:Nat)):=by
 obtain⟨h1,h2⟩:=LI (u:=(n:Nat)) (by omega);have m:=E8 (neg:=false) h1 (by simp);have e:rv false [D A5 (n:Int),D A5 (d (n:Int) (2^(min (A 32) (Al .u64))))]=(n:Nat):=h2;rw[e] at m;exact Aqk (n:Nat) _ m
theorem A0g(n:Nat):cn (n:Nat)=(false,G n):=by
 unfold cn;rw[BF,decide_eq_false (by omega)]
theorem J5(n:Nat):(cn (n:Nat)).2.length=(G n).length:=by rw [A0g]
theorem Aae{K:Nat}(hK:K<1048576):∀ (f a b:Nat),b<=f->Bj K (a:Nat)->Bj K (b:Nat) ->
  (∃ y z,W I (.loop Lt) (G2 (cn (a:Nat)) (cn (b:Nat)) (false,[])) (.exit 0) (G2 (cn (Il a b:Nat)) y z)) \/
  (∃ x y,W I (.loop Lt) (G2 (cn (a:Nat)) (cn (b:Nat)) (false,[])) .ret (G2 x y (cn (Il a b:Nat)))):=by
 intro f;induction f with
 | zero =>
  intro a b hb _ _;have:b=0:=by omega
  subst this;rw[GB];exact tE ⟨_,_,Am (cP _ _ _ (by rw[J5];rfl)) (by nofun)⟩
 | succ f ih =>
  intro a b hb ka kb;by_cases h0:b=0
  ·subst h0;rw[GB];exact tE ⟨_,_,Am (cP _ _ _ (by rw[J5];rfl)) (by nofun)⟩
  ·have hbl:0<(G b).length:=Aj.2 (by rw[Ne,I4];exact h0);have la:=ka.len;have lb:=kb.len;rw[BF] at la lb;by_cases h2:(G a).length<=2/\(G b).length<=2
   ·right;have ta:=sG h2.1;have tb:=sG h2.2;have hg:((Il a b:Nat):Int)<18446744073709551616:=by
     have:=QW (by omega) (Nat.gcd_dvd_right a b);omega
    have u1:=Tk (b:=(cn (a:Nat)).1) h2.1;have u2:=Tk (b:=(cn (b:Nat)).1) h2.2;have u3:=Aqm (a:Nat) (b:Nat) _ _ (Zp b a b (An _));have u4:=dJ hg;have k:=Aqn (cn (a:Nat)) (cn (b:Nat)) (false,[]) (a:Nat) (b:Nat) (Il a b:Nat) (Il a b:Nat) (by rw[J5];simp;omega) (by rw[J5];simp;omega) (by rw[J5];simp;omega) u1 u2 u3 u4;exact⟨_,_,Am k (by nofun)⟩
   ·have hq:=OG (na:=(cn (a:Nat)).1) (nb:=(cn (b:Nat)).1) (xs:=(cn (a:Nat)).2) (ys:=(cn (b:Nat)).2) (BK _) (BK _) (by have:=u (b:Nat);unfold O at this;rw[this];omega) (by rw[J5];omega) (by rw[J5];omega);rw[show rv (cn (a:Nat)).1 (cn (a:Nat)).2=(a:Nat) from u _,show rv (cn (b:Nat)).1 (cn (b:Nat)).2=(b:Nat) from u _,Bl (by omega),<- Arz] at hq;have hm:=H8 a (show 0<b by omega);have step:W I Lt (G2 (cn (a:Nat)) (cn (b:Nat)) (false,[])) .norm (G2 (cn (b:Nat)) (cn ((a % b:Nat):Int)) (false,[])):=by
     by_cases h3:(G a).length<=2
     ·exact Aqo (cn (a:Nat)) (cn (b:Nat)) (false,[]) _ _ (by rw[J5];simp;omega) (by rw[J5];simp;omega) (by rw[J5];simp;omega) hq
     ·exact Aqp (cn (a:Nat)) (cn (b:Nat)) (false,[]) _ _ (by rw[J5];simp;omega) (by rw[J5];simp;omega) hq
    have kr:Bj K ((a % b:Nat):Int):=by
     unfold Bj at *
     rw[BF] at *
     exact Dk (kO hm) kb
    have e:Il b (a % b)=Il a b:=by rw[Jr b,<- Avs,Jr b a]
    rcases ih b (a % b) (by omega) kb kr with ⟨y,z,h⟩ | ⟨x,y,h⟩
    ·rw[e] at h;exact tE ⟨y,z,W.loop step h⟩
    ·rw[e] at h;exact Nq ⟨x,y,W.loop step h⟩
theorem Ya{na nb:Bool}{xs ys:List Int}(hx:AL xs)(hy:AL ys)(h1:xs.length<1048576)(h2:ys.length<1048576) :
  H I 159 [A6r [A6m na,sL lm xs],A6r [A6m nb,sL lm ys]] (o (CX (rv na xs) (rv nb ys):Nat)):=by
 have a1:=Sf (neg:=na) hx (by omega);have a2:=Sf (neg:=nb) hy (by omega);have f1:=V6 (neg:=na) hx;have f2:=V6 (neg:=nb) hy;have g1:Bj (max xs.length ys.length) (((rv na xs).natAbs:Nat):Int):=by
  unfold Bj at *;rw[BF];exact EL f1 (B4 (by decide) (by omega))
 have g2:Bj (max xs.length ys.length) (((rv nb ys).natAbs:Nat):Int):=by
  unfold Bj at *;rw[BF];exact EL f2 (B4 (by decide) (by omega))
 rcases Aae (K:=max xs.length ys.length) (by omega) _ _ _ (An _) g1 g2 with ⟨y,z,h⟩ | ⟨x,y,h⟩
 ·exact kZ na nb xs ys _ _ _ _ _ a1 a2 h
 ·exact lC na nb xs ys _ _ _ _ _ a1 a2 h
def TQE:Cm:=TQD
theorem CH:BY I TQE:=lH
def Pq(N:Nat)(cs:List AV)(i:Int):Ak:=(A6o (A6n N cs)::(Q 1 (A6o (A6l R 0)::(A6o (A6l R i)::(Q 16 [])))))
theorem A0h(N:Nat)(cs:List AV)(i:Int)(r:Rn)(v:Int)(c1:B (i>=0)=true)(c2:(v==0)=true)(n1:0<=i/\i<(N:Int))(n2:Bm (g (A i*2) cs) 0 2 false=some (A6r [A6m r.1,A6n r.2.length (lm r.2)]))(n3:H I 101 [A6r [A6m r.1,A6n r.2.length (lm r.2)]] (A6l R v)):W I X2 (Pq N cs i) .norm (Pq N cs (D R (i-1))):=C BH 300 [.b true,.v (A6r [A6m r.1,A6n r.2.length (lm r.2)]),.r (A6l R v),.b true] [0,2,3] (P c1 (P n1 (P n2 (P n3 (P c2 a0))))) (by kernel_rfl)
theorem A0i(N:Nat)(cs:List AV)(i:Int)(r:Rn)(v:Int)(c1:B (i>=0)=true)(c2:(v==0)=false)(n1:0<=i/\i<(N:Int))(n2:Bm (g (A i*2) cs) 0 2 false=some (A6r [A6m r.1,A6n r.2.length (lm r.2)]))(n3:H I 101 [A6r [A6m r.1,A6n r.2.length (lm r.2)]] (A6l R v)):W I X2 (Pq N cs i) (.exit 0) (Pq N cs i):=C BH 300 [.b true,.v (A6r [A6m r.1,A6n r.2.length (lm r.2)]),.r (A6l R v),.b false] [0,2,3] (P c1 (P n1 (P n2 (P n3 (P c2 a0))))) (by kernel_rfl)
theorem A0j(N:Nat)(cs:List AV)(i:Int)(c1:B (i>=0)=false):W I X2 (Pq N cs i) (.exit 0) (Pq N cs i):=C BH 300 [.b false,.b false] [0,2,3] (P c1 (P FA a0)) (by kernel_rfl)
theorem Yb{n:Int}:BL n=0↔n=0:=by unfold BL;split <;> (try split) <;> omega
theorem Asa(rs:List Rn)(hg:∀ r∈rs,AN 1048576 r)(hN:rs.length<=1048576):∀ m,m<=rs.length->W I (.loop X2) (Pq rs.length (pc rs) ((m:Int)-1)) (.exit 0) (Pq rs.length (pc rs) (((l (M rs) m:Nat):Int)-1)):=by
 intro m;induction m with
 | zero =>
  intro _;exact Am (A0j rs.length (pc rs) (((0:Nat):Int)-1) (by simp)) (by nofun)
 | succ m ih =>
  intro hm;have e0:((m+1:Nat):Int)-1=(m:Int):=by omega
  have e1:D R ((m:Int)-1)=(m:Int)-1:=Bg (by omega) (by omega);have hx:=NO (rs:=rs) (i:=m) (by omega);have gm:=Be hg m;have hs:=M9 (neg:=(rs.getD m z0).1) gm.1 gm.2;rw[e0];simp only[l];rw[C9];by_cases h0:O (rs.getD m z0)=0
  ·rw[if_pos h0];have h1:=A0h rs.length (pc rs) (m:Int) (rs.getD m z0) (BL (O (rs.getD m z0))) (by simp) (by rw[beq_iff_eq];exact Yb.2 h0) (by omega) (by rw[F];exact hx) hs;rw[e1] at h1;exact W.loop h1 (ih (by omega))
  ·rw[if_neg h0,e0];exact Am (A0i rs.length (pc rs) (m:Int) (rs.getD m z0) (BL (O (rs.getD m z0))) (by simp) (by rw[beq_eq_false_iff_ne];exact fun h=>h0 (Yb.1 h)) (by omega) (by rw[F];exact hx) hs) (by nofun)
theorem GL{rs:List Rn}(hg:∀ r∈rs,AN 1048576 r)(hN:rs.length<=1048576):H I 53 [sL pc rs] (A6l R (((l (M rs) rs.length:Nat):Int)-1)):=by
 have e1:D R ((rs.length:Int)-1)=(rs.length:Int)-1:=Bg (by omega) (by omega);have hl:W I (.loop X2) (Pq rs.length (pc rs) (D R ((rs.length:Int)-1))) (.exit 0) (Pq rs.length (pc rs) (((l (M rs) rs.length:Nat):Int)-1)):=by
  rw[e1];exact Asa rs hg hN rs.length (An _)
 exact X (fn:=aM) (s:=(A6o (sL pc rs)::(Q 1 (A6o (A6l R (((l (M rs) rs.length:Nat):Int)-1))::(A6o (A6l R (((l (M rs) rs.length:Nat):Int)-1))::(Q 15 (A6o (A6l R (((l (M rs) rs.length:Nat):Int)-1))::[]))))))) (ex := .ret) rfl rfl
  (W.seq (DK (t:=(A6o (sL pc rs)::(Q 1 (A6o (A6l R 0)::(Q 17 []))))) (ex := .norm) (ps:=[]) BH 300 [] [0,2] (by kernel_rfl) trivial)
  (W.seq (DK (t:=(A6o (sL pc rs)::(Q 1 (A6o (A6l R 0)::(A6o (A6l R (D R ((rs.length:Int)-1)))::(Q 16 [])))))) (ex := .norm) (ps:=[]) BH 300 [] [0,2,3] (by kernel_rfl) trivial)
  (W.seq (W.block hl)
  (DK (t:=(A6o (sL pc rs)::(Q 1 (A6o (A6l R (((l (M rs) rs.length:Nat):Int)-1))::(A6o (A6l R (((l (M rs) rs.length:Nat):Int)-1))::(Q 15 (A6o (A6l R (((l (M rs) rs.length:Nat):Int)-1))::[]))))))) (ex := .ret) (ps:=[]) BH 300 [] [0,2,3,19] (by kernel_rfl) trivial)))) (by nofun) rfl
def Tl(N:Nat)(cs:List AV)(n:Nat)(os:List AV)(m:Int)(i:Int):Ak:=(A6o (A6n N cs)::(Q 1 (A6q 2 0 []::(Q 1 (A6q 2 n os::(Q 9 (A6o (A6l R m)::(A6o (A6l R i)::(Q 12 [])))))))))
theorem A0k(N:Nat)(cs:List AV)(n:Nat)(os:List AV)(m:Int)(i:Int)(ds:List AV)(r:Rn)(v:Int)(c1:B (i<m)=true)(n1:0<=i/\i<(N:Int))(n2:Bm (g (A i*2) cs) 0 2 false=some (A6r [A6m r.1,A6n r.2.length (lm r.2)]))(n3:H I 113 [A6r [A6m r.1,A6n r.2.length (lm r.2)]] (A6r [A6m (B (v<0)),A6n ((G (E v)).length) (lm (G (E v)))]))(n4:0<=i/\i<(n:Int))(n5:Cu os (A i*2) [A6m (B (v<0)),A6n ((G (E v)).length) (lm (G (E v)))]=some ds):W I aS (Tl N cs n os m i) .norm (Tl N cs n ds m (D R (i+1))):=C BH 300 [.b true,.v (A6r [A6m r.1,A6n r.2.length (lm r.2)]),.r (A6r [A6m (B (v<0)),A6n ((G (E v)).length) (lm (G (E v)))]),.l ds] [0,2,4,14,15] (P c1 (P n1 (P n2 (P n3 (P n4 (P n5 a0)))))) (by kernel_rfl)
theorem A0l(N:Nat)(cs:List AV)(n:Nat)(os:List AV)(m:Int)(i:Int)(c1:B (i<m)=false):W I aS (Tl N cs n os m i) (.exit 0) (Tl N cs n os m i):=C BH 300 [.b false] [0,2,4,14,15] (P c1 a0) (by kernel_rfl)
theorem Asb(rs:List Rn)(hg:∀ r∈rs,AN 1048576 r)(hN:rs.length<=1048576)(n:Nat)(hn:n<=rs.length):∀ (r i:Nat),i+r=n ->
  W I (.loop aS) (Tl rs.length (pc rs) n (pc (E7 (fun j=>cn (O (rs.getD j z0))) i r)) (n:Int) (i:Int)) (.exit 0) (Tl rs.length (pc rs) n (pc (E7 (fun j=>cn (O (rs.getD j z0))) n 0)) (n:Int) (n:Int)):=by
 intro r;induction r with
 | zero =>
  intro i hi;have hi':i=n:=by omega
  subst hi';exact Am (A0l rs.length (pc rs) i _ (i:Int) (i:Int) (by simp)) (by nofun)
 | succ r ih =>
  intro i hi;have ei:D R ((i:Int)+1)=((i+1:Nat):Int):=by rw[Bg (by omega) (by omega)];omega
  have hx:=NO (rs:=rs) (i:=i) (by omega);have gm:=Be hg i;have hs:=M8 (neg:=(rs.getD i z0).1) gm.1 gm.2;have hst:=Zh (rs:=E7 (fun j=>cn (O (rs.getD j z0))) i (r+1)) (i:=i) (r:=cn (O (rs.getD i z0))) (by rw[Kw];omega);rw[NQ (fun j=>cn (O (rs.getD j z0))) i r] at hst;have h1:=A0k rs.length (pc rs) n _ (n:Int) (i:Int) _ (rs.getD i z0) (O (rs.getD i z0)) (by simp;omega) (by omega) (by rw[F];exact hx) hs (by omega) (by rw[F];exact hst);rw[ei] at h1;exact W.loop h1 (ih (i+1) (by omega))
theorem Aaf(rs:List Rn)(hd:H I 53 [sL pc rs] (A6l R (((l (M rs) rs.length:Nat):Int)-1)))(hz:((D R ((((l (M rs) rs.length:Nat):Int)-1)+1))==0)=true):H I 66 [sL pc rs] (A6p 2 0 []):=Bt (ps:=[H I 53 [sL pc rs] (A6l R (((l (M rs) rs.length:Nat):Int)-1)),((D R ((((l (M rs) rs.length:Nat):Int)-1)+1))==0)=true]) BH rfl 300 rfl [.r (A6l R (((l (M rs) rs.length:Nat):Int)-1)),.b true] (by kernel_rfl) ⟨hd,hz,trivial⟩
theorem Aag(rs ss:List Rn)(hd:H I 53 [sL pc rs] (A6l R (((l (M rs) rs.length:Nat):Int)-1)))(hz:((D R ((((l (M rs) rs.length:Nat):Int)-1)+1))==0)=false)(hmk:0<=D R ((((l (M rs) rs.length:Nat):Int)-1)+1)/\D R ((((l (M rs) rs.length:Nat):Int)-1)+1)<=1048576)(hl:W I (.loop aS) (Tl rs.length (pc rs) (A (D R ((((l (M rs) rs.length:Nat):Int)-1)+1))) (Cp [A6m false,A6n 0 []] (A (D R ((((l (M rs) rs.length:Nat):Int)-1)+1)))) (((A (D R ((((l (M rs) rs.length:Nat):Int)-1)+1))):Nat):Int) 0) (.exit 0) (Tl rs.length (pc rs) (A (D R ((((l (M rs) rs.length:Nat):Int)-1)+1))) (pc ss) (((A (D R ((((l (M rs) rs.length:Nat):Int)-1)+1))):Nat):Int) (((A (D R ((((l (M rs) rs.length:Nat):Int)-1)+1))):Nat):Int))):H I 66 [sL pc rs] (A6p 2 (A (D R ((((l (M rs) rs.length:Nat):Int)-1)+1))) (pc ss)):=X (fn:=aT) (s:=(A6o (sL pc rs)::(Q 1 (A6q 2 (A (D R ((((l (M rs) rs.length:Nat):Int)-1)+1))) (pc ss)::(Q 11 (A6o (A6l R (((A (D R ((((l (M rs) rs.length:Nat):Int)-1)+1))):Nat):Int))::(A6o (A6l R (((A (D R ((((l (M rs) rs.length:Nat):Int)-1)+1))):Nat):Int))::(Q 12 [])))))))) (ex := .ret) rfl rfl (W.seq (C (t:=(vp rs::(Q 1 (A6q 2 0 []::(Q 25 []))))) BH 300 [] [0,2] a0) (W.seq (C (t:=(vp rs::(Q 1 (A6q 2 0 []::(vi (D R ((((l (M rs) rs.length:Nat):Int)-1)+1))::(Q 2 (vp rs::(vi (((l (M rs) rs.length:Nat):Int)-1)::(vi (D R ((((l (M rs) rs.length:Nat):Int)-1)+1))::(Q 19 [])))))))))) BH 300 [.r (A6l R (((l (M rs) rs.length:Nat):Int)-1))] [0,2,3,6,7,8] (P (show H I 53 [sL pc rs] (A6l R (((l (M rs) rs.length:Nat):Int)-1)) from hd) a0)) (W.seq (C (t:=(vp rs::(Q 1 (A6q 2 0 []::(vi (D R ((((l (M rs) rs.length:Nat):Int)-1)+1))::(Q 2 (vp rs::(vi (((l (M rs) rs.length:Nat):Int)-1)::(vi (D R ((((l (M rs) rs.length:Nat):Int)-1)+1))::(vi (D R ((((l (M rs) rs.length:Nat):Int)-1)+1))::(A6o (A6m ((D R ((((l (M rs) rs.length:Nat):Int)-1)+1))==0))::(Q 17 [])))))))))))) BH 300 [.b false] [0,2,3,6,7,8,9,10] (P (show ((D R ((((l (M rs) rs.length:Nat):Int)-1)+1))==0)=false from hz) a0)) (W.seq (C (t:=(vp rs::(Q 1 (A6q 2 0 []::(vi (D R ((((l (M rs) rs.length:Nat):Int)-1)+1))::(A6q 2 (A (D R ((((l (M rs) rs.length:Nat):Int)-1)+1))) (Cp [A6m false,A6n 0 []] (A (D R ((((l (M rs) rs.length:Nat):Int)-1)+1))))::(Q 1 (vp rs::(vi (((l (M rs) rs.length:Nat):Int)-1)::(vi (D R ((((l (M rs) rs.length:Nat):Int)-1)+1))::(vi (D R ((((l (M rs) rs.length:Nat):Int)-1)+1))::(A6o (A6m ((D R ((((l (M rs) rs.length:Nat):Int)-1)+1))==0))::(vi (D R ((((l (M rs) rs.length:Nat):Int)-1)+1))::(Q 16 [])))))))))))))) BH 300 [] [0,2,3,4,6,7,8,9,10,11] (P (show 0<=(D R ((((l (M rs) rs.length:Nat):Int)-1)+1))/\(D R ((((l (M rs) rs.length:Nat):Int)-1)+1))<=1048576 from hmk) a0)) (W.seq (W.seq (C (t:=(vp rs::(Q 1 (A6q 2 0 []::(Q 1 (A6q 2 (A (D R ((((l (M rs) rs.length:Nat):Int)-1)+1))) (Cp [A6m false,A6n 0 []] (A (D R ((((l (M rs) rs.length:Nat):Int)-1)+1))))::(Q 9 (vi (((A (D R ((((l (M rs) rs.length:Nat):Int)-1)+1))):Nat):Int)::(vi 0::(Q 12 [])))))))))) BH 300 [] [0,2,4,14,15] a0) (W.block hl)) (C (t:=(vp rs::(Q 1 (A6q 2 (A (D R ((((l (M rs) rs.length:Nat):Int)-1)+1))) (pc ss)::(Q 11 (vi (((A (D R ((((l (M rs) rs.length:Nat):Int)-1)+1))):Nat):Int)::(vi (((A (D R ((((l (M rs) rs.length:Nat):Int)-1)+1))):Nat):Int)::(Q 12 [])))))))) (ex := .ret) BH 300 [] [0,2,14,15] a0)))))) (by nofun) rfl
theorem HI{rs:List Rn}(hg:∀ r∈rs,AN 1048576 r)(hN:rs.length<=1048576):H I 66 [sL pc rs] (A6p 2 (Y (M rs)).length (pk (Y (M rs)))):=by
 have hle:=GG (M rs) rs.length;have hlen:(Y (M rs)).length=l (M rs) rs.length:=by rw[Fs,s]
 have hd:=GL hg hN;have e1:D R ((((l (M rs) rs.length:Nat):Int)-1)+1)=((l (M rs) rs.length:Nat):Int):=by rw[Bg (by omega) (by omega)];omega
 have e2:(A (D R ((((l (M rs) rs.length:Nat):Int)-1)+1)))=l (M rs) rs.length:=by rw[e1,F]
 by_cases h0:l (M rs) rs.length=0
 ·have h:=Aaf rs hd (by rw[e1,h0];rfl);have:Y (M rs)=[]:=A1 (by omega);rw[this];exact h
 ·have hl:=Asb rs hg hN (l (M rs) rs.length) hle (l (M rs) rs.length) 0 (by omega);rw[M4,<- NP] at hl;have h:=Aag rs _ hd (by rw[e1,beq_eq_false_iff_ne];omega) (by rw[e1];omega) (by rw[e2];exact hl);rw[e2,M5] at h;have e3:(Ao (l (M rs) rs.length)).map (fun j=>cn (O (rs.getD j z0)))=(Y (M rs)).map cn:=by
   rw[<- Sb,hlen];apply F_;intro i _;rw[CG,C9]
  rw[e3] at h;rw[hlen];exact h
def Oa(N:Nat)(cs:List AV)(n:Nat)(os:List AV)(m:Int)(i:Int):Ak:=(A6o (A6n N cs)::(Q 1 (A6q 2 0 []::(A6q 2 n os::(Q 5 (A6o (A6l R m)::(A6o (A6l R i)::(Q 12 []))))))))
theorem Asc(N:Nat)(cs:List AV)(n:Nat)(os:List AV)(m:Int)(i:Int)(ds:List AV)(r:Rn)(v:Int)(c1:B (i<m)=true)(n1:0<=i/\i<(N:Int))(n2:Bm (g (A i*2) cs) 0 2 false=some (A6r [A6m r.1,A6n r.2.length (lm r.2)]))(n3:H I 131 [A6r [A6m r.1,A6n r.2.length (lm r.2)]] (A6r [A6m (B (v<0)),A6n ((G (E v)).length) (lm (G (E v)))]))(n4:0<=i/\i<(n:Int))(n5:Cu os (A i*2) [A6m (B (v<0)),A6n ((G (E v)).length) (lm (G (E v)))]=some ds):W I UI (Oa N cs n os m i) .norm (Oa N cs n ds m (D R (i+1))):=C BH 300 [.b true,.v (A6r [A6m r.1,A6n r.2.length (lm r.2)]),.r (A6r [A6m (B (v<0)),A6n ((G (E v)).length) (lm (G (E v)))]),.l ds] [0,2,3,9,10] (P c1 (P n1 (P n2 (P n3 (P n4 (P n5 a0)))))) (by kernel_rfl)
theorem Asd(N:Nat)(cs:List AV)(n:Nat)(os:List AV)(m:Int)(i:Int)(c1:B (i<m)=false):W I UI (Oa N cs n os m i) (.exit 0) (Oa N cs n os m i):=C BH 300 [.b false] [0,2,3,9,10] (P c1 a0) (by kernel_rfl)
theorem Aah(rs:List Rn)(hg:∀ r∈rs,AN 1048576 r)(hN:rs.length<=1048576)(n:Nat)(hn:n<=rs.length):∀ (r i:Nat),i+r=n ->
  W I (.loop UI) (Oa rs.length (pc rs) n (pc (E7 (fun j=>cn (-(O (rs.getD j z0)))) i r)) (n:Int) (i:Int)) (.exit 0) (Oa rs.length (pc rs) n (pc (E7 (fun j=>cn (-(O (rs.getD j z0)))) n 0)) (n:Int) (n:Int)):=by
 intro r;induction r with
 | zero =>
  intro i hi;have hi':i=n:=by omega
  subst hi';exact Am (Asd rs.length (pc rs) i _ (i:Int) (i:Int) (by simp)) (by nofun)
 | succ r ih =>
  intro i hi;have ei:D R ((i:Int)+1)=((i+1:Nat):Int):=by rw[Bg (by omega) (by omega)];omega
  have hx:=NO (rs:=rs) (i:=i) (by omega);have gm:=Be hg i;have hs:=XR (neg:=(rs.getD i z0).1) gm.1 gm.2;have hst:=Zh (rs:=E7 (fun j=>cn (-(O (rs.getD j z0)))) i (r+1)) (i:=i) (r:=cn (-(O (rs.getD i z0)))) (by rw[Kw];omega);rw[NQ (fun j=>cn (-(O (rs.getD j z0)))) i r] at hst;have h1:=Asc rs.length (pc rs) n _ (n:Int) (i:Int) _ (rs.getD i z0) (-(O (rs.getD i z0))) (by simp;omega) (by omega) (by rw[F];exact hx) hs (by omega) (by rw[F];exact hst);rw[ei] at h1;exact W.loop h1 (ih (i+1) (by omega))
theorem Ase(rs ss:List Rn)(hmk:0<=(rs.length:Int)/\(rs.length:Int)<=1048576)(hl:W I (.loop UI) (Oa rs.length (pc rs) (A (rs.length:Int)) (Cp [A6m false,A6n 0 []] (A (rs.length:Int))) (rs.length:Int) 0) (.exit 0) (Oa rs.length (pc rs) (A (rs.length:Int)) (pc ss) (rs.length:Int) (rs.length:Int))):H I 117 [sL pc rs] (A6p 2 (A (rs.length:Int)) (pc ss)):=X (fn:=UJ) (s:=(A6o (sL pc rs)::(Q 1 (A6q 2 (A (rs.length:Int)) (pc ss)::(Q 6 (A6o (A6l R (rs.length:Int))::(A6o (A6l R (rs.length:Int))::(Q 12 [])))))))) (ex := .ret) rfl rfl (W.seq (C (t:=(vp rs::(Q 1 (A6q 2 0 []::(Q 20 []))))) BH 300 [] [0,2] a0) (W.seq (C (t:=(vp rs::(Q 1 (A6q 2 0 []::(A6q 2 (A (rs.length:Int)) (Cp [A6m false,A6n 0 []] (A (rs.length:Int)))::(Q 1 (vp rs::(vi (rs.length:Int)::(Q 16 []))))))))) BH 300 [] [0,2,3,5,6] (P (show 0<=(rs.length:Int)/\(rs.length:Int)<=1048576 from hmk) a0)) (W.seq (W.seq (C (t:=(vp rs::(Q 1 (A6q 2 0 []::(A6q 2 (A (rs.length:Int)) (Cp [A6m false,A6n 0 []] (A (rs.length:Int)))::(Q 5 (vi (rs.length:Int)::(vi 0::(Q 12 []))))))))) BH 300 [] [0,2,3,9,10] a0) (W.block hl)) (C (t:=(vp rs::(Q 1 (A6q 2 (A (rs.length:Int)) (pc ss)::(Q 6 (vi (rs.length:Int)::(vi (rs.length:Int)::(Q 12 [])))))))) (ex := .ret) BH 300 [] [0,2,9,10] a0)))) (by nofun) rfl
theorem Kz{rs:List Rn}(hg:∀ r∈rs,AN 1048576 r)(hN:rs.length<=1048576):H I 117 [sL pc rs] (A6p 2 rs.length (pk (BZ (M rs)))):=by
 have hl:=Aah rs hg hN rs.length (An _) rs.length 0 (by omega);rw[M4,<- NP] at hl;have h:=Ase rs _ (by omega) (by rw[F];exact hl);rw[F,M5] at h;have e3:(Ao rs.length).map (fun j=>cn (-(O (rs.getD j z0))))=(BZ (M rs)).map cn:=by
  have hq:(BZ (M rs)).length=rs.length:=by simp[BZ,M]
  rw[<- Sb,hq];apply F_;intro i _;rw[GI,C9]
 rw[e3] at h;exact h
def TAA:Cm:=TWC
theorem CR:BY I TAA:=BH
def Ly(rs:List Rn)(w:Rn)(i:Int)(z:Rn):Ak:=(A6o (sL pc rs)::(Q 1 (A6s [A6m z.1,A6n z.2.length (lm z.2)]::(A6s [A6m w.1,A6n w.2.length (lm w.2)]::(A6o (A6l R i)::(Q 19 []))))))
theorem Asf(rs:List Rn)(w:Rn)(i:Int)(z:Rn)(b g:Int)(c1:B (i>=0)=true)(c2:(b != 1)=true)(n1:0<=i/\i<(rs.length:Int))(n2:H I 102 [At w] (A6l R b))(n3:H I 159 [At w,At (rs.getD (A i) z0)] (o g)):W I RU (Ly rs w i z) .norm (Ly rs (cn g) (D R (i-1)) z):=(C CH 400 [.b true,.r (A6l R b),.b true,.v (At (rs.getD (A i) z0)),.r (o g)] [0,2,3,4] (P c1 (P n2 (P c2 (P n1 (P (x n1) (P n3 a0)))))))
theorem Asg(rs:List Rn)(w:Rn)(i:Int)(z:Rn)(b:Int)(c1:B (i>=0)=true)(c2:(b != 1)=false)(n1:H I 102 [At w] (A6l R b)):W I RU (Ly rs w i z) (.exit 0) (Ly rs w i z):=(C CH 400 [.b true,.r (A6l R b),.b false] [0,2,3,4] (P c1 (P n1 (P c2 a0))))
theorem Ash(rs:List Rn)(w:Rn)(i:Int)(z:Rn)(c1:B (i>=0)=false):W I RU (Ly rs w i z) (.exit 0) (Ly rs w i z):=(C CH 400 [.b false,.b false] [0,2,3,4] (P c1 (P FA a0)))
theorem Asi(rs:List Rn)(w z:Rn)(i:Int)(hl1:W I (.loop RU) (Ly rs (false,[]) (D R ((rs.length:Int)-1)) (false,[])) (.exit 0) (Ly rs w i z)):H I 157 [sL pc rs] (At w):=X (fn:=Vh) (s:=(Q 2 (A6s [A6m w.1,A6n w.2.length (lm w.2)]::(Q 21 [])))) (ex := .ret) rfl rfl (L (q (W.seq (C CH 400 [] [0,2,3,4] a0) (W.seq (W.block hl1) (C CH 400 [] [2] a0))))) (by nofun) rfl
def Lz(k:Nat)(os:List Rn)(w:Rn)(n:Int)(i:Int):Ak:=(Q 3 (A6q 2 k (pc os)::(A6s [A6m w.1,A6n w.2.length (lm w.2)]::(Q 9 (A6o (A6l R n)::(A6o (A6l R i)::(Q 16 [])))))))
theorem Asj(k:Nat)(os:List Rn)(w:Rn)(n:Int)(i:Int)(q r:Int)(c1:B (i<n)=true)(n1:0<=i/\i<(k:Int))(n2:os.length=k)(n3:H I 158 [At (os.getD (A i) z0),At w] (A6t [o q,o r])):W I RD (Lz k os w n i) .norm (Lz k (os.set (A i) (cn q)) w n (D R (i+1))):=(C CH 400 [.b true,.v (At (os.getD (A i) z0)),.r (A6t [o q,o r]),.l (pc (os.set (A i) (cn q)))] [3,4,14,15] (P c1 (P n1 (P (FQ n2 n1) (P n3 (P n1 (P (Ft (r:=cn q) n2 n1) a0)))))))
theorem Asl(k:Nat)(os:List Rn)(w:Rn)(n:Int)(i:Int)(c1:B (i<n)=false):W I RD (Lz k os w n i) (.exit 0) (Lz k os w n i):=(C CH 400 [.b false] [3,4,14,15] (P c1 a0))
theorem mW(rs ts os:List Rn)(w:Rn)(g b n i:Int)(k:Nat)(c1:B (b>1)=true)(n1:H I 66 [sL pc rs] (A6p 2 ts.length (pc ts)))(n2:qW (pc ts) (fun c => !Uk c)=true)(n3:Gx (o g)=true)(n4:H I 157 [sL pc ts] (o g))(n5:H I 102 [o g] (A6l R b))(hl6:W I (.loop RD) (Lz ts.length ts (cn g) (ts.length:Int) 0) (.exit 0) (Lz k os w n i)):H I 115 [sL pc rs] (A6p 2 k (pc os)):=X (fn:=RE) (s:=(Q 2 (A6q 2 k (pc os)::(Q 29 [])))) (ex := .ret) rfl rfl (L (L (q (W.seq (C (t:=(vp rs::(Q 1 (A6q 2 0 []::(A6q 2 ts.length (pc ts)::(bN g::(Q 7 (A6o (A6m (B (b>1)))::(Q 19 []))))))))) CH 400 [.r (A6p 2 ts.length (pc ts)),.r (o g),.r (A6l R b)] [0,2,3,4,12] (P n1 (P n2 (P n3 (P n4 (P n5 a0)))))) (W.seq (IJ (by rfl) c1 (W.seq (C CH 400 [] [3,4,14,15] a0) (W.block hl6))) (C CH 400 [] [2] a0)))))) (by nofun) rfl
theorem mX(rs ts:List Rn)(g b:Int)(c1:B (b>1)=false)(n1:H I 66 [sL pc rs] (A6p 2 ts.length (pc ts)))(n2:qW (pc ts) (fun c => !Uk c)=true)(n3:Gx (o g)=true)(n4:H I 157 [sL pc ts] (o g))(n5:H I 102 [o g] (A6l R b)):H I 115 [sL pc rs] (A6p 2 ts.length (pc ts)):=X (fn:=RE) (s:=(Q 2 (A6q 2 ts.length (pc ts)::(Q 29 [])))) (ex := .ret) rfl rfl (L (L (q (W.seq (C (t:=(vp rs::(Q 1 (A6q 2 0 []::(A6q 2 ts.length (pc ts)::(bN g::(Q 7 (A6o (A6m (B (b>1)))::(Q 19 []))))))))) CH 400 [.r (A6p 2 ts.length (pc ts)),.r (o g),.r (A6l R b)] [0,2,3,4,12] (P n1 (P n2 (P n3 (P n4 (P n5 a0)))))) (W.seq (IK (by rfl) c1 (C (t:=(Q 2 (A6q 2 0 []::(A6q 2 ts.length (pc ts)::(Q 28 []))))) CH 400 [] [2,3] a0)) (C CH 400 [] [2] a0)))))) (by nofun) rfl
theorem mY(rs ts:List Rn)(s:Int)(c1:B ((rs.length:Int)>0)=true)(c2:B (s<0)=true)(n1:0<=(D R ((rs.length:Int)-1))/\(D R ((rs.length:Int)-1))<(rs.length:Int))(n2:H I 101 [At (rs.getD (A (D R ((rs.length:Int)-1))) z0)] (A6l R s))(n3:H I 117 [sL pc rs] (A6p 2 ts.length (pc ts))):H I 155 [sL pc rs] (A6p 2 ts.length (pc ts)):=i (fn:=PJ) CH rfl 400 rfl [.b true,.v (At (rs.getD (A (D R ((rs.length:Int)-1))) z0)),.r (A6l R s),.b true,.r (A6p 2 ts.length (pc ts))] (P c1 (P n1 (P (x n1) (P n2 (P c2 (P n3 a0))))))
theorem mZ(rs:List Rn)(s:Int)(c1:B ((rs.length:Int)>0)=true)(c2:B (s<0)=false)(n1:0<=(D R ((rs.length:Int)-1))/\(D R ((rs.length:Int)-1))<(rs.length:Int))(n2:H I 101 [At (rs.getD (A (D R ((rs.length:Int)-1))) z0)] (A6l R s)):H I 155 [sL pc rs] (sL pc rs):=i (fn:=PJ) CH rfl 400 rfl [.b true,.v (At (rs.getD (A (D R ((rs.length:Int)-1))) z0)),.r (A6l R s),.b false] (P c1 (P n1 (P (x n1) (P n2 (P c2 a0)))))
theorem nA(rs:List Rn)(c1:B ((rs.length:Int)>0)=false):H I 155 [sL pc rs] (sL pc rs):=i (fn:=PJ) CH rfl 400 rfl [.b false,.b false] (P c1 (P FA a0))
def Ob(rs:List Rn)(k:Nat)(cs:List AV)(i:Int):Ak:=(A6o (sL pc rs)::(Q 2 (A6q 2 k cs::(A6o (A6l R i)::(Q 18 [])))))
theorem Asm(rs:List Rn)(k:Nat)(cs:List AV)(i:Int)(d v:Int)(c1:B (i<=d)=true)(n1:0<=i/\i<(rs.length:Int))(n2:k+1<=1048576)(n3:H I 53 [sL pc rs] (A6l R d))(n4:H I 132 [A6l R i] (o i))(n5:H I 112 [At (rs.getD (A i) z0),o i] (o v)):W I UG (Ob rs k cs i) .norm (Ob rs (k+1) (cs++([A6m (B (v<0)),A6n ((G (E v)).length) (lm (G (E v)))]:List AV)) (D R (i+1))):=(C CH 400 [.r (A6l R d),.b true,.v (At (rs.getD (A i) z0)),.r (o i),.r (o v)] [0,3,4] (P n3 (P c1 (P n1 (P (x n1) (P n4 (P n5 (P (show Bk ([A6m (B (v<0)),A6n ((G (E v)).length) (lm (G (E v)))]:List AV)=1*2 from rfl) (P n2 a0)))))))))
theorem Asn(rs:List Rn)(k:Nat)(cs:List AV)(i:Int)(d:Int)(c1:B (i<=d)=false)(n1:H I 53 [sL pc rs] (A6l R d)):W I UG (Ob rs k cs i) (.exit 0) (Ob rs k cs i):=(C CH 400 [.r (A6l R d),.b false] [0,3,4] (P n1 (P c1 a0)))
theorem Aso(rs os ts:List Rn)(k:Nat)(i:Int)(hl1:W I (.loop UG) (Ob rs 0 ([]:List AV) 1) (.exit 0) (Ob rs k (pc os) i))(n2:H I 66 [A6n k (pc os)] (A6p 2 ts.length (pc ts))):H I 116 [sL pc rs] (A6p 2 ts.length (pc ts)):=X (fn:=UH) (s:=(Q 2 (A6q 2 ts.length (pc ts)::(Q 20 [])))) (ex := .ret) rfl rfl (L (q (W.seq (C CH 400 [] [0,3,4] a0) (W.seq (W.block hl1) (C CH 400 [.r (A6p 2 ts.length (pc ts))] [2] (P n2 a0)))))) (by nofun) rfl
def TRA:Cm:=TQE
theorem nB:BY I TRA:=CH
end Go.Proofs.YtajompaehjkgkaaGreat
namespace Go.Ai
open Classical renaming byContradiction->Az
open Function renaming comp->A2b
open Int renaming add_zero->B2,eq_of_mul_eq_mul_left->Gw,mul_assoc->A9,mul_comm->A8,mul_ediv_cancel'->Iz,mul_ediv_cancel_left->BP,mul_ne_zero->AG,mul_neg_of_pos_of_neg->Ir,mul_nonneg->A3,mul_pos->Ba,mul_sub->EG,mul_zero->AC,natAbs_mul->BM,natAbs_natCast->BF,natAbs_of_nonneg->KA,natCast_mul->CZ,neg_mul->Nn,not_le->H',ofNat_dvd_left->Gt,pos_of_mul_pos_right->Zt,pow_succ->Ax,sub_zero->EJ,zero_mul->CJ
open List renaming eq_nil_of_length_eq_zero->A1,getD_eq_getElem?_getD->Z,getElem?_eq_getElem->Af,getElem?_eq_none->AB,getElem?_map->C7,getElem?_replicate_of_lt->Aep,length->Bk,length_cons->Bq,length_map->N,length_pos_iff->Aj,length_replicate->E',length_set->AW,map_congr_left->F_,map_cons->Cw,map_map->Awg,map_take->R5,mem_iff_getElem->Jq,range->Ao,replicate->Ar,replicate_succ->FZ
open Nat renaming add_comm->Hn,add_mul->DN,eq_zero_or_pos->F4,gcd->Il,le_add_right->O',le_mul_of_pos_left->Xo,le_refl->An,le_trans->Bp,mul_assoc->EA,mul_comm->CM,mul_le_mul_left->z,mul_le_mul_right->AD,mul_one->Iu,mul_succ->OZ,one_mul->EV,pow_add->C8,pow_le_pow_right->B4,pow_succ->F7,sub_add_cancel->La
open Or renaming inr->Nq
def AO:List Int->Nat
 | []=>0
 | x::xs=>Il x.natAbs (AO xs)
theorem J_(d:Nat):∀ xs:List Int,d∣AO xs↔∀ i,(d:Int)∣xs.getD i 0
 | []=>by simp[AO]
 | x::xs=>by
  have ih:=J_ d xs;simp only[AO,Nat.dvd_gcd_iff,ih];constructor
  ·rintro⟨h1,h2⟩ i;cases i with
   | zero=>simpa using Gt.2 h1
   | succ i=>simpa using h2 i
  ·intro h;refine⟨Gt.1 (by simpa using h 0),fun i=>by simpa using h (i+1)⟩
theorem Hf(xs:List Int)(i:Nat):(AO xs:Int)∣xs.getD i 0:=(J_ _ xs).1 (Nat.dvd_refl _) i
theorem Sh{xs ys:List Int}(h:∀ i,xs.getD i 0=ys.getD i 0):AO xs=AO ys :=
 Nat.dvd_antisymm ((J_ _ _).2 fun i=>h i ▸ Hf xs i) ((J_ _ _).2 fun i=>h i ▸ Hf ys i)
theorem VQ(xs:List Int):AO (Y xs)=AO xs:=Sh (CG xs)
theorem IB{xs:List Int}:AO xs=0↔∀ i,xs.getD i 0=0:=by
 constructor
 ·intro h i;have:=Hf xs i;rw[h] at this;exact Int.zero_dvd.1 this
 ·intro h;have:AO xs=AO []:=Sh fun i=>by rw[h i];simp
  rw[this];rfl
theorem K_(k:Int):∀ xs:List Int,AO (Av k xs)=k.natAbs*AO xs
 | []=>rfl
 | x::xs=>by
  have ih:=K_ k xs;simp only[Av,Cw,AO] at *
  rw[ih,BM,Nat.gcd_mul_left]
theorem CL{xs:List Int}:Y xs=[]↔∀ i,xs.getD i 0=0:=by
 constructor
 ·intro h i;rw[<- CG,h];simp
 ·intro h;have:Y xs=Y []:=Fi fun i=>by rw[h i];simp
  rw[this];rfl
theorem HS{xs:List Int}(h:Y xs ≠ []):0<AO xs:=by
 rcases F4 (AO xs) with g | g
 ·exact absurd (CL.2 (IB.1 g)) h
 ·exact g
theorem Jg{k:Int}(hk:k ≠ 0)(xs:List Int):Y (Av k xs)=Av k (Y xs):=by
 have e:∀ n,l (Av k xs) n=l xs n:=by
  intro n;induction n with
  | zero=>rfl
  | succ n ih =>
   simp only[l,ih,AJ];by_cases h:xs.getD n 0=0
   ·rw[h,AC]
   ·rw[if_neg h,if_neg (AG hk h)]
 simp only[Y];rw[e,show (Av k xs).length=xs.length by simp[Av]];simp[Av,R5]
def prim(xs:List Int):List Int:=(Y xs).map fun x=>x / (AO xs:Int)
theorem IC(xs:List Int)(i:Nat):(prim xs).getD i 0=xs.getD i 0 / (AO xs:Int):=by
 rw[<- CG xs i];simp only[prim,Z,C7];cases (Y xs)[i]? <;> simp
theorem BB(xs:List Int):(prim xs).length=(Y xs).length:=by simp [prim]
theorem OH(xs:List Int)(i:Nat):(AO xs:Int)*(prim xs).getD i 0=xs.getD i 0:=by
 rw[IC];exact Iz (Hf xs i)
theorem Ka{xs ys:List Int}(h:∀ i,xs.getD i 0=ys.getD i 0):prim xs=prim ys:=by
 simp only[prim];rw[Fi h,Sh h]
theorem Do{xs:List Int}:prim xs=[]↔∀ i,xs.getD i 0=0:=by
 rw[<- CL];simp[prim]
theorem Oc{k:Int}(hk:0<k)(xs:List Int):prim (Av k xs)=prim xs:=by
 simp only[prim];rw[Jg (by omega),K_];simp only[Av,Awg];apply F_;intro x _;simp only[A2b];rw[CZ,KA (by omega),Int.mul_ediv_mul_of_pos _ _ hk]
theorem Zq{k:Int}(hk:0<k){xs ys:List Int}(h:∀ i,ys.getD i 0=k*xs.getD i 0):prim ys=prim xs:=by
 rw[<- Oc hk xs];exact Ka fun i=>by rw[h,AJ]
theorem nC{xs:List Int}(h:l xs xs.length=xs.length):Y xs=xs:=by simp [Y,h]
def BN(xs:List Int):Prop:=Y xs=xs
theorem GM(xs:List Int):BN (Y xs):=HH xs
theorem Eo{xs:List Int}(h:BN xs)(hn:xs ≠ []):xs.getD (xs.length-1) 0 ≠ 0:=by
 have e:=congrArg Bk h;rw[Fs] at e;rcases XG xs xs.length with g | g
 ·rw[g] at e;exact absurd (A1 e.symm) hn
 ·rw[e] at g;exact g
theorem Od{xs:List Int}(h:xs=[]\/xs.getD (xs.length-1) 0 ≠ 0):BN xs:=by
 rcases h with rfl | h
 ·rfl
 ·cases hl:xs.length with
  | zero=>rw[A1 hl];rfl
  | succ n =>
   apply nC;rw[hl];simp only[l];rw[if_neg (by rw[hl] at h;simpa using h)]
theorem dK{k:Int}(hk:k ≠ 0){xs:List Int}(h:BN xs):BN (Av k xs):=by
 unfold BN;rw[Jg hk,h]
theorem Jh(xs:List Int):Av (AO xs) (prim xs)=Y xs:=by
 apply JZ
 ·simp[Av,BB]
 ·intro i;rw[AJ,OH,CG]
theorem B_(xs:List Int):BN (prim xs):=by
 by_cases h:Y xs=[]
 ·rw[Do.2 (CL.1 h)];rfl
 ·have hc:=HS h;have h1:=GM xs;rw[<- Jh] at h1;unfold BN at h1 |-;rw[Jg (by omega)] at h1;have hinj:∀ a b:List Int,Av (AO xs) a=Av (AO xs) b->a=b:=by
   intro a b hab;have hl:=congrArg Bk hab;simp only[Av,N] at hl;apply JZ hl;intro i;have:=congrArg (fun l:List Int=>l.getD i 0) hab;simp only[AJ] at this;exact Gw (by omega) this
  exact hinj _ _ h1
theorem K0{xs:List Int}(h:Y xs ≠ []):AO (prim xs)=1:=by
 have hc:=HS h;have h1:=K_ (AO xs) (prim xs);rw[Jh,VQ,BF] at h1;have h2:AO xs*1=AO xs*AO (prim xs):=by rw[Iu];exact h1
 exact (Nat.eq_of_mul_eq_mul_left hc h2).symm
theorem Si{xs:List Int}(h:AO xs=1):prim xs=Y xs:=by
 simp only[prim,h];rw[show (fun x:Int=>x / ((1:Nat):Int))=id by funext x;simp];simp
theorem BI(xs:List Int):prim (prim xs)=prim xs:=by
 by_cases h:Y xs=[]
 ·rw[Do.2 (CL.1 h)];rfl
 ·rw[Si (K0 h)];exact B_ xs
theorem Sj{K:Nat}{x:Int}(h:Bj K x)(c:Nat):Bj K (x / (c:Int))\/¬ (c:Int)∣x:=by
 by_cases hd:(c:Int)∣x
 ·left;obtain⟨y,rfl⟩:=hd;rcases F4 c with h0 | h0
  ·subst h0;simpa using h
  ·rw[BP _ (by omega)];unfold Bj at *
   rw[BM,BF] at h;have:=Xo y.natAbs h0;omega
 ·exact Nq hd
theorem VR{K:Nat}{xs:List Int}(h:∀ i,Bj K (xs.getD i 0))(i:Nat):Bj K ((prim xs).getD i 0):=by
 rw[IC];rcases Sj (h i) (AO xs) with g | g
 ·exact g
 ·exact absurd (Hf xs i) g
def Kb(K:Nat)(r:List Int):Prop:=∀ i,Bj K (r.getD i 0)
theorem Kb.mono{J K:Nat}{r:List Int}(h:Kb J r)(hk:J<=K):Kb K r:=fun i=>(h i).mono hk
theorem Kb.mem{K:Nat}{r:List Int}(h:Kb K r):∀ x∈r,Bj K x:=fun x hx=>by
 obtain⟨i,hi,rfl⟩:=Jq.1 hx;have:=h i;rwa [Z,Af hi] at this
theorem HJ{K:Nat}{r:List Int}(h:∀ x∈r,Bj K x):Kb K r:=VC h
theorem Kb.prim{K:Nat}{r:List Int}(h:Kb K r):Kb K (prim r):=VR h
theorem Kb.trim{K:Nat}{r:List Int}(h:Kb K r):Kb K (Y r):=fun i=>by rw [CG];exact h i
def w(r:List Int):Int:=r.getD (r.length-1) 0
def C3(r d:List Int)(a b:Int)(n:Nat):List Int:=(Ao n).map fun i=>if r.length-d.length<=i then a*r.getD i 0-b*d.getD (i-(r.length-d.length)) 0 else a*r.getD i 0
theorem Eb(r d:List Int)(a b:Int)(n:Nat):(C3 r d a b n).length=n:=by simp [C3]
theorem GN(f:Nat->Int)(n i:Nat):((Ao n).map f).getD i 0=if i<n then f i else 0:=by
 rw[Z,C7];by_cases h:i<n
 ·rw[List.getElem?_range h,if_pos h];rfl
 ·rw[AB (by simpa using h),if_neg h];rfl
theorem Gp(r d:List Int)(a b:Int)(n i:Nat):(C3 r d a b n).getD i 0=if i<n then (if r.length-d.length<=i then a*r.getD i 0-b*d.getD (i-(r.length-d.length)) 0 else a*r.getD i 0) else 0:=GN _ _ _
theorem QX{J K:Nat}{r d:List Int}{a b:Int}(hr:Kb J r)(hd:Kb K d)(ha:Bj K a)(hb:Bj J b)(n:Nat):Kb (J+K+1) (C3 r d a b n):=by
 intro i;rw[Gp];have h1:=(Bj.mul ha (hr i));have h2:=(Bj.mul hb (hd (i-(r.length-d.length))));rw[Hn] at h1;split
 ·split
  ·exact h1.add h2.neg
  ·exact h1.mono (by omega)
 ·exact GH _
theorem VS{r d:List Int}{a b:Int}(hd:d ≠ [])(hl:d.length<=r.length)(h:a*w r=b*w d)(i:Nat):(C3 r d a b r.length).getD i 0=(C3 r d a b (r.length-1)).getD i 0:=by
 have:=Aj.2 hd;rw[Gp,Gp];by_cases h1:i<r.length-1
 ·rw[if_pos h1,if_pos (by omega)]
 ·rw[if_neg h1];split
  ·have:i=r.length-1:=by omega
   subst this;rw[if_pos (by omega),show r.length-1-(r.length-d.length)=d.length-1 by omega];unfold w at h;omega
  ·rfl
theorem dL(r d:List Int)(k a b:Int)(n i:Nat):(C3 r d (k*a) (k*b) n).getD i 0=k*(C3 r d a b n).getD i 0:=by
 rw[Gp,Gp];split
 ·split
  ·rw[EG,A9,A9]
  ·rw[A9]
 ·simp
theorem dM(r d:List Int)(c a b:Int)(n:Nat):C3 r (Av c d) a b n=C3 r d a (b*c) n:=by
 apply JZ (by rw[Eb,Eb]);intro i;rw[Gp,Gp,AJ,show (Av c d).length=d.length by simp[Av]];rw[A9]
def sg(n:Int):Int:=if n<0 then -1 else 1
theorem A0m(n:Int):sg n*n=(n.natAbs:Int):=by unfold sg;split <;> omega
def D8(r d:List Int):List Int:=prim (C3 r d ((w d).natAbs:Int) (sg (w d)*w r) r.length)
def DT:Nat->List Int->List Int->List Int
 | 0,r,_=>r
 | f+1,r,d=>if d.length<=r.length then DT f (D8 r d) d else r
theorem WW(r d:List Int):((w d).natAbs:Int)*w r=sg (w d)*w r*w d:=by
 rw[<- A0m];grind
theorem VT{r d:List Int}(hd:d ≠ [])(hl:d.length<=r.length):D8 r d=prim (C3 r d ((w d).natAbs:Int) (sg (w d)*w r) (r.length-1)) :=
 Ka (VS hd hl (WW r d))
theorem IQ{r d:List Int}(hd:d ≠ [])(hl:d.length<=r.length):(D8 r d).length<r.length:=by
 have:=Aj.2 hd;rw[VT hd hl,BB];have:=Bf (C3 r d ((w d).natAbs:Int) (sg (w d)*w r) (r.length-1));rw[Eb] at this;omega
theorem nD(c:Int)(d:List Int):w (Av c d)=c*w d:=by
 unfold w;rw[AJ,show (Av c d).length=d.length by simp[Av]]
theorem dN{c:Int}(hc:0<c)(n:Int):sg (c*n)=sg n:=by
 unfold sg;have:c*n<0↔n<0:=by
  constructor
  ·intro h;apply H'.1;intro hn;have:=A3 (show 0<=c by omega) hn;omega
  ·intro h;exact Ir hc h
 simp only[this]
theorem Tm{r d:List Int}{c g a b:Int}(hc:0<c)(hg:0<g)(ha:g*a=((w d).natAbs:Int))(hb:g*b=sg (w d)*w r):D8 r (Av c d)=prim (C3 r d a b r.length):=by
 unfold D8;rw[dM,nD,dN hc,BM];apply Zq (k:=c*g) (Ba hc hg);intro i;rw[<- dL];congr 2
 ·rw[A9,ha,CZ,KA (by omega)]
 ·rw[A9 c g b,hb];grind
theorem Zr{c:Int}(hc:0<c)(r d:List Int):D8 r (Av c d)=D8 r d:=by
 rw[Tm (g:=1) (a:=((w d).natAbs:Int)) (b:=sg (w d)*w r) hc (by decide) (by omega) (by omega)];rfl
theorem Zs{c:Int}(hc:0<c)(d:List Int):∀ (f:Nat) (r:List Int),DT f r (Av c d)=DT f r d:=by
 intro f;induction f with
 | zero=>intro r;rfl
 | succ f ih =>
  intro r;simp only[DT];rw[show (Av c d).length=d.length by simp[Av],Zr hc,ih]
theorem Tn(r d:List Int):BN (D8 r d):=B_ _
theorem Et{K:Nat}{d:List Int}(h:Kb K d):Bj K (w d):=h _
theorem OI{K:Nat}{n:Int}(h:Bj K n):Bj K (n.natAbs:Int):=by unfold Bj at *;rwa [BF]
theorem Asp{K:Nat}{m n:Int}(h:Bj K n):Bj K (sg m*n):=by
 unfold Bj sg at *;split <;> simpa using h
theorem Sk{J K:Nat}{r d:List Int}(hr:Kb J r)(hd:Kb K d):Kb (J+K+1) (D8 r d) :=
 (QX hr hd (OI (Et hd)) (Asp (Et hr)) _).prim
theorem Sl{d:List Int}(hd:d ≠ []){K:Nat}(hK:Kb K d):∀ (f:Nat) (r:List Int) (J:Nat),r.length<=f->BN r->Kb J r ->
  BN (DT f r d)/\(DT f r d).length<d.length/\Kb (J+(r.length+1-d.length)*(K+1)) (DT f r d):=by
 have hd1:=Aj.2 hd;intro f;induction f with
 | zero =>
  intro r J h1 h2 h3;exact⟨h2,by simp only[DT];omega,h3.mono (O' _ _)⟩
 | succ f ih =>
  intro r J h1 h2 h3;simp only[DT];split
  ·rename_i hl;have hp:=IQ hd hl;obtain⟨a1,a2,a3⟩:=ih (D8 r d) (J+K+1) (by omega) (Tn r d) (Sk h3 hK);refine⟨a1,a2,a3.mono ?_⟩;have e:((D8 r d).length+1-d.length)+1<=r.length+1-d.length:=by omega
   have:=AD (K+1) e;rw[DN,EV] at this;omega
  ·exact⟨h2,by omega,h3.mono (O' _ _)⟩
def Bz(x y:List Int):List Int:=DT x.length x y
def HK:Nat->List Int->List Int->List Int
 | 0,x,_=>x
 | f+1,x,y=>if y=[] then x else HK f y (Bz x y)
def y(x:List Int):List Int:=if w x<0 then BZ x else x
theorem HT(d:List Int):∀ (f:Nat) (r:List Int),prim r=r->prim (DT f r d)=DT f r d:=by
 intro f;induction f with
 | zero=>intro r h;exact h
 | succ f ih =>
  intro r h;simp only[DT];split
  ·exact ih _ (BI _)
  ·exact h
theorem Cl{r:List Int}(h:prim r=r):BN r:=h ▸ B_ r
theorem nE{m l:Nat}(h:l<m):(m-l+2)*3^l<=3^m:=by
 obtain⟨k,rfl⟩:∃ k,m=l+1+k:=⟨m-l-1,by omega⟩;rw[show l+1+k-l+2=k+3 by omega,show l+1+k=(k+1)+l by omega,C8];apply AD;clear h;induction k with
 | zero=>decide
 | succ k ih=>rw[F7];omega
def ID(n m:Nat):Nat:=(n-m+2)*3^m
theorem Kc{x y:List Int}{M:Nat}(hM:0<M)(hx:BN x)(hy:y ≠ [])(kx:Kb (M-1) x)(ky:Kb (M-1) y)(hl:y.length<=x.length) :
  BN (Bz x y)/\(Bz x y).length<y.length/\Kb (M*(x.length-y.length+2)-1) (Bz x y):=by
 obtain⟨a,b,c⟩:=Sl hy ky x.length x (M-1) (An _) hx kx;refine⟨a,b,c.mono ?_⟩;rw[La hM,show x.length+1-y.length=x.length-y.length+1 by omega,CM _ M];have:M*(x.length-y.length+2)=M*(x.length-y.length+1)+M:=by rw[<- OZ]
 omega
theorem Ke{n m l M T:Nat}(hl:l<m)(h:M*ID n m<=T):M*(n-m+2)*ID m l<=T:=by
 refine Bp ?_ h;unfold ID;rw[EA];apply z;apply z;exact nE hl
theorem Oe{n m c:Nat}(h:m<=n)(hn:n<=c):ID n m<=2*3^c:=by
 have h1:ID n m<=2*3^n:=by
  unfold ID;obtain⟨k,rfl⟩:∃ k,n=m+k:=⟨n-m,by omega⟩;rw[show m+k-m+2=k+2 by omega,C8,CM (3^m),<- EA];apply AD;clear h hn;induction k with
  | zero=>decide
  | succ k ih=>rw[F7];omega
 exact Bp h1 (z _ (B4 (by decide) hn))
def Aq(p:List Int):List Int:=Y ((Ao (p.length-1)).map fun j=>p.getD (j+1) 0*((j+1:Nat):Int))
theorem C_(p:List Int)(i:Nat):(Aq p).getD i 0=p.getD (i+1) 0*((i+1:Nat):Int):=by
 unfold Aq;rw[CG,GN];split
 ·rfl
 ·rw[Bs (xs:=p) (by omega),CJ]
theorem VU{a b:Int}{us bs cs:List Int}(h:∀ i,cs.getD i 0=a*us.getD i 0+b*bs.getD i 0)(x:Int):Aa cs x=a*Aa us x+b*Aa bs x:=by
 have e:Aa cs x=Aa (Dl (Av a us) (Av b bs)) x:=Gl (fun i=>by rw[h,C',AJ,AJ]) x;rw[e,BJ,Ap,Ap]
def Da(k:Nat)(q:List Int):List Int:=Ar k 0++q
theorem Cd(k:Nat)(q:List Int)(i:Nat):(Da k q).getD i 0=if k<=i then q.getD (i-k) 0 else 0:=by
 simp only[Da,Z,List.getElem?_append,E'];split
 ·rename_i h;rw[if_neg (by omega),Aep h];rfl
 ·rename_i h;rw[if_pos (by omega)]
theorem Df(k:Nat)(q:List Int)(x:Int):Aa (Da k q) x=x^k*Aa q x:=by
 induction k with
 | zero=>simp[Da]
 | succ k ih =>
  have:Da (k+1) q=0::Da k q:=by simp[Da,FZ]
  rw[this];simp only[Aa];rw[ih,Ax];grind
theorem Qb{r d:List Int}(hl:d.length<=r.length)(a b x:Int):Aa (C3 r d a b r.length) x=a*Aa r x-b*(x^(r.length-d.length)*Aa d x):=by
 rw[<- Df];have:=VU (a:=a) (b := -b) (us:=r) (bs:=Da (r.length-d.length) d) (cs:=C3 r d a b r.length) (fun i=>by
  rw[Gp,Cd];by_cases h:i<r.length
  ·rw[if_pos h];split
   ·rw[Nn];omega
   ·simp
  ·rw[if_neg h,Bs (show r.length<=i by omega)];have:d.getD (i-(r.length-d.length)) 0=0:=Bs (by omega);split
   ·rw[this];simp
   ·simp) x
 rw[this,Nn];omega
theorem ED(a:Int)(p q:List Int)(i:Nat):(Bo (a::p) q).getD i 0=a*q.getD i 0+(Da 1 (Bo p q)).getD i 0:=by
 simp only[Bo];rw[C',AJ];rfl
theorem OJ:∀ (p q:List Int),p ≠ []->q ≠ []->(Bo p q).getD (p.length+q.length-2) 0=w p*w q/\∀ i,p.length+q.length-1<=i->(Bo p q).getD i 0=0
 | [],q,h,_=>absurd rfl h
 | [a],q,_,hq=>by
  have hq1:=Aj.2 hq;refine⟨?_,fun i hi => ?_⟩
  ·rw[ED,Cd,show [a].length+q.length-2=q.length-1 by simp;omega];simp[Bo,w]
  ·rw[ED,Cd,Bs (show q.length<=i by simp at hi;omega)];simp[Bo]
 | a::b::p,q,_,hq=>by
  have hq1:=Aj.2 hq;obtain⟨h1,h2⟩:=OJ (b::p) q (by simp) hq;refine⟨?_,fun i hi => ?_⟩
  ·rw[ED,Cd,if_pos (by simp;omega)];simp only[Bq] at *
   rw[Bs (show q.length<=p.length+1+1+q.length-2 by omega),show p.length+1+1+q.length-2-1=p.length+1+q.length-2 by omega,h1];simp[w]
  ·rw[ED,Cd];simp only[Bq] at *
   rw[Bs (show q.length<=i by omega)];split
   ·rw[h2 _ (by omega)];simp
   ·simp
theorem Dg{p:List Int}(h:Y p=[])(x:Int):Aa p x=0:=by rw [<- Dy,h];rfl
theorem QY{p q S r1 o2 r2:List Int}{c1 c2:Int}(hq:BN q)(hq0:q ≠ [])(h1:∀ x,c1*Aa p x=Aa q x*Aa S x+Aa r1 x)(h2:∀ x,c2*Aa p x=Aa q x*Aa o2 x+Aa r2 x)
  (z1:∀ i,q.length-1<=i->r1.getD i 0=0) (z2:∀ i,q.length-1<=i->r2.getD i 0=0) (i:Nat):c2*S.getD i 0=c1*o2.getD i 0:=by
 have hql:=Aj.2 hq0;have hD:Y (KT (Av c2 S) (Av c1 o2))=[]:=by
  apply Az;intro hD;have hev:∀ x,Aa (Bo q (Y (KT (Av c2 S) (Av c1 o2)))) x=Aa (KT (Av c1 r2) (Av c2 r1)) x:=by
   intro x;rw[AP,Dy,EN,EN,Ap,Ap,Ap,Ap];have a:=h1 x;have b:=h2 x;grind
  generalize hDD:Y (KT (Av c2 S) (Av c1 o2))=D at *
  have hDl:BN D:=hDD ▸ GM _;have hD1:=Aj.2 hD;have h3:=(OJ q D hq0 hD).1;rw[CW hev,PS,AJ,AJ,z1 _ (by omega),z2 _ (by omega)] at h3;have t1:=Eo hq hq0;have t2:=Eo hDl hD;rw[AC,AC,EJ] at h3;exact AG t1 t2 h3.symm
 have:=CL.1 hD i;rw[PS,AJ,AJ] at this;omega
theorem QZ{S o2:List Int}{c1 c2:Int}(hc1:0<c1)(hc2:0<c2)(h:∀ i,c2*S.getD i 0=c1*o2.getD i 0):prim S=prim o2:=by
 rw[<- Oc hc2 S,<- Oc hc1 o2];exact Ka fun i=>by rw[AJ,AJ];exact h i
def GO(r q:List Int)(l:Int)(k:Nat):List Int:=(Ao r.length).map fun i=>if k<=i then r.getD i 0-l*q.getD (i-k) 0 else r.getD i 0
theorem Lb(r q:List Int)(l:Int)(k i:Nat)(hk:k+q.length<=r.length):(GO r q l k).getD i 0=r.getD i 0-l*(Da k q).getD i 0:=by
 rw[GO,GN,Cd];split
 ·split <;> simp
 ·rw[Bs (show r.length<=i by omega),Bs (xs:=q) (show q.length<=i-k by omega)];simp
theorem G0(r q:List Int)(l:Int)(k:Nat):(GO r q l k).length=r.length:=by simp [GO]
def GP(q:List Int):Nat->List Int->List Int->List Int
 | 0,_,out=>out
 | k+1,r,out=>GP q k (GO (Av (w q) r) q (r.getD (k+q.length-1) 0) k) ((Av (w q) out).set k (r.getD (k+q.length-1) 0))
theorem AX(a:Int)(q:List Int):(Av a q).length=q.length:=by simp [Av]
theorem Asq{p q:List Int}(hq0:q ≠ [])(ht:0<w q):∀ (k:Nat) (r out:List Int) (c:Int),0<c->k<=out.length->out.length+q.length=r.length+1->(∀ i,k+q.length-1<=i->r.getD i 0=0)->(∀ i,i<k->out.getD i 0=0) ->
  (∀ x,c*Aa p x=Aa q x*Aa out x+Aa r x) ->
  ∃ c' r',0<c'/\(∀ i,q.length-1<=i->r'.getD i 0=0)/\(GP q k r out).length=out.length/\∀ x,c'*Aa p x=Aa q x*Aa (GP q k r out) x+Aa r' x:=by
 have hql:=Aj.2 hq0;intro k;induction k with
 | zero =>
  intro r out c hc _ _ hz _ he;exact⟨c,r,hc,fun i hi=>hz i (by omega),rfl,he⟩
 | succ k ih =>
  intro r out c hc hk hl hz hz2 he;simp only[GP];generalize hlead:r.getD (k+q.length-1) 0=l at *
  have hkr:k+q.length<=(Av (w q) r).length:=by rw[AX];omega
  obtain⟨c',r',a1,a2,a3,a4⟩:=ih (GO (Av (w q) r) q l k) ((Av (w q) out).set k l) (w q*c) (Ba ht hc) (by rw[AW,AX];omega) (by rw[AW,AX,G0,AX];exact hl)
   (fun i hi=>by
    rw[Lb _ _ _ _ _ hkr,AJ,Cd];by_cases h1:i=k+q.length-1
    ·subst h1;rw[hlead,if_pos (by omega),show k+q.length-1-k=q.length-1 by omega];unfold w;grind
    ·rw[hz i (by omega),Bs (xs:=q) (show q.length<=i-k by omega)];simp)
   (fun i hi=>by rw[Co (by omega),AJ,hz2 i (by omega),AC])
   (fun x=>by
    rw[VD _ _ _ _ (by rw[AX];omega),AJ,hz2 k (by omega),Ap];have e:=VU (a:=1) (b := -l) (us:=Av (w q) r) (bs:=Da k q) (cs:=GO (Av (w q) r) q l k) (fun i=>by rw[Lb _ _ _ _ _ hkr,Nn];omega) x;rw[e,Ap,Df];have:=he x;grind)
  exact⟨c',r',a1,a2,by rw[a3,AW,AX],a4⟩
theorem To{p q:List Int}(hq0:q ≠ [])(ht:0<w q)(hl:q.length<=p.length):∃ c' r',0<c'/\(∀ i,q.length-1<=i->r'.getD i 0=0)/\(GP q (p.length-q.length+1) p (Ar (p.length-q.length+1) 0)).length=p.length-q.length+1 /\
  ∀ x,c'*Aa p x=Aa q x*Aa (GP q (p.length-q.length+1) p (Ar (p.length-q.length+1) 0)) x+Aa r' x:=by
 have hql:=Aj.2 hq0;have h:=Asq (p:=p) hq0 ht (p.length-q.length+1) p (Ar (p.length-q.length+1) 0) 1 (by decide) (by simp) (by simp;omega) (fun i hi=>Bs (by omega)) (fun i _=>Dx _ _) (fun x=>by rw[QP];omega);rw[E'] at h;exact h
def K1(d:List Int):Nat->List Int->List Int->List Int
 | 0,_,out=>out
 | f+1,r,out=>if d.length<=r.length then K1 d f (Y (C3 r d (w d) (w r) (r.length-1))) ((Av (w d) out).set (r.length-d.length) (w r)) else out
theorem LN{r d:List Int}(hd0:d ≠ [])(hl:d.length<=r.length):(Y (C3 r d (w d) (w r) (r.length-1))).length<r.length:=by
 have:=Aj.2 hd0;have:=Bf (C3 r d (w d) (w r) (r.length-1));rw[Eb] at this;omega
theorem Asr{p d:List Int}(hd0:d ≠ [])(ht:0<w d):∀ (f:Nat) (r out:List Int) (c:Int),r.length<=f->0<c->r.length+1<=out.length+d.length->(∀ i,i+d.length<=r.length->out.getD i 0=0) ->
  (∀ x,c*Aa p x=Aa d x*Aa out x+Aa r x) ->
  ∃ c' r',0<c'/\(∀ i,d.length-1<=i->r'.getD i 0=0)/\(K1 d f r out).length=out.length/\∀ x,c'*Aa p x=Aa d x*Aa (K1 d f r out) x+Aa r' x:=by
 have hdl:=Aj.2 hd0;intro f;induction f with
 | zero =>
  intro r out c hf hc _ _ he;exact⟨c,r,hc,fun i hi=>Bs (by omega),rfl,he⟩
 | succ f ih =>
  intro r out c hf hc hl hz he;simp only[K1];split
  ·rename_i hg;have hlen:=LN hd0 hg;obtain⟨c',r',a1,a2,a3,a4⟩:=ih (Y (C3 r d (w d) (w r) (r.length-1))) ((Av (w d) out).set (r.length-d.length) (w r)) (w d*c) (by omega) (Ba ht hc) (by rw[AW,AX];omega)
    (fun i hi=>by rw[Co (by omega),AJ,hz i (by omega),AC])
    (fun x=>by
     rw[VD _ _ _ _ (by rw[AX];omega),AJ,hz _ (by omega),Ap,Dy];have e1:Aa (C3 r d (w d) (w r) (r.length-1)) x=Aa (C3 r d (w d) (w r) r.length) x:=Gl (fun i=>(VS hd0 hg (A8 _ _) i).symm) x;rw[e1,Qb hg];have:=he x;grind)
   exact⟨c',r',a1,a2,by rw[a3,AW,AX],a4⟩
  ·rename_i hg;exact⟨c,r,hc,fun i hi=>Bs (by omega),rfl,he⟩
theorem Of{p d:List Int}(hd0:d ≠ [])(ht:0<w d)(hl:d.length<=p.length):∃ c' r',0<c'/\(∀ i,d.length-1<=i->r'.getD i 0=0)/\(K1 d p.length p (Ar (p.length-d.length+1) 0)).length=p.length-d.length+1 /\
  ∀ x,c'*Aa p x=Aa d x*Aa (K1 d p.length p (Ar (p.length-d.length+1) 0)) x+Aa r' x:=by
 have h:=Asr (p:=p) hd0 ht p.length p (Ar (p.length-d.length+1) 0) 1 (An _) (by decide) (by simp;omega) (fun i _=>Dx _ _) (fun x=>by rw[QP];omega);rw[E'] at h;exact h
theorem Ass{p q:List Int}(hq:BN q)(hq0:q ≠ [])(ht:0<w q)(hl:q.length<=p.length):prim (GP q (p.length-q.length+1) p (Ar (p.length-q.length+1) 0))=prim (K1 q p.length p (Ar (p.length-q.length+1) 0)):=by
 obtain⟨c1,r1,a1,a2,_,a4⟩:=To hq0 ht hl;obtain⟨c2,r2,b1,b2,_,b4⟩:=Of hq0 ht hl;exact QZ a1 b1 (QY hq hq0 a4 b4 a2 b2)
theorem Yc{p q o r:List Int}{c:Int}(hc:0<c)(hp:0<w p)(hq0:q ≠ [])(ht:0<w q)(hl:q.length<=p.length)(ho:o.length=p.length-q.length+1)(h:∀ x,c*Aa p x=Aa q x*Aa o x+Aa r x)(z:∀ i,q.length-1<=i->r.getD i 0=0):0<w o:=by
 have hql:=Aj.2 hq0;have ho0:o ≠ []:=by intro h0;rw[h0] at ho;simp at ho
 have h3:=(OJ q o hq0 ho0).1;have hev:∀ x,Aa (Av c p) x=Aa (Dl (Bo q o) r) x:=fun x=>by rw[Ap,BJ,AP];exact h x
 have h4:=CW hev (p.length-1);rw[AJ,C',z _ (by omega),show p.length-1=q.length+o.length-2 by omega,h3,B2] at h4;have h5:0<w q*w o:=by
  rw[<- h4,show q.length+o.length-2=p.length-1 by omega];exact Ba hc hp
 exact Zt h5 ht |> fun h=>h
theorem Ps{o:List Int}(h:0<w o):0<w (prim o):=by
 have hl:BN o:=Od (Nq (by unfold w at h;omega));unfold w;rw[BB,hl,IC];have hc:0<AO o:=HS (by rw[hl];intro h0;rw[h0] at h;simp[w] at h);have hd:=OH o (o.length-1);rw[IC] at hd;unfold w at h;rw[<- hd] at h;exact Zt h (by omega)
end Go.Ai
namespace Go.Proofs.YtajompaehjkgkaaGreat
open Go.Ai
set_option maxRecDepth 100000
open Classical renaming byContradiction->Az
open Go.Ai.AV renaming fresh->A6p
open Go.IntKind renaming i64->R,wrap->D
open Int renaming gcd->CX,mul_ediv_cancel_left->BP,natAbs_natCast->BF,ofNat_dvd_left->Gt,tdiv->As,toNat_natCast->F,zero_mul->CJ
open List renaming append_nil->O_,drop_eq_getElem_cons->CV,drop_length->JC,drop_zero->EP,eq_nil_of_length_eq_zero->A1,ext_getElem?->FX,getD_eq_getElem?_getD->Z,getElem?_append_left->AK,getElem?_append_right->AR,getElem?_drop->Bn,getElem?_eq_getElem->Af,getElem?_map->C7,getElem?_set_ne->F9,getElem?_set_self->WA,getElem?_take_of_lt->By,length_append->AY,length_drop->Eh,length_map->N,length_range->B6,length_take->A7,map_append->Ef,mem_map->DS,mem_of_mem_drop->EK,mem_range->Lo,range->Ao,range_succ->Hi,take_of_length_le->Ei
open Nat renaming eq_zero_or_pos->F4,gcd_comm->Jr,le_of_dvd->QW,le_refl->An,log2->Cb,log2_eq_iff->Qr,zero_le->Bv
theorem Yd{n:Nat}:D4 n=1↔n=1:=by
 unfold D4;split
 ·omega
 ·rename_i h;constructor
  ·intro h1;have h2:Cb n=0:=by omega
   have:=(Qr h).1 h2;omega
  ·rintro rfl;decide
theorem dO{n:Nat}:1<D4 n↔1<n:=by
 have h1:=Yd (n:=n);have h0:D4 n=0↔n=0:=by unfold D4;split <;> omega
 omega
theorem HE(n:Int):(cn n).2.length=(G n.natAbs).length:=rfl
theorem nF{rs:List Rn}{n:Nat}(h:n<rs.length):(M rs).drop n=O (rs.getD n z0)::(M rs).drop (n+1):=by
 rw[CV (by rw[s];exact h)];congr 1;rw[<- C9,Z,Af (by rw[s];exact h)];rfl
theorem Q'{K:Nat}{p:List Int}(h:∀ x∈p,Bj K x):Bj K ((AO p:Nat):Int):=by
 by_cases h0:Y p=[]
 ·rw[IB.2 (CL.1 h0)];exact GH K
 ·have hc:=HS h0;have:∃ i,p.getD i 0 ≠ 0:=Az fun hn=>h0 (CL.2 fun i=>Az fun hi=>hn ⟨i,hi⟩);obtain⟨i,hi⟩:=this;have hd:=Hf p i;have hf:=VC h i;unfold Bj at *
  rw[BF];have:=QW (by omega) (Gt.1 hd);omega
theorem nH{p:List Int}(n:Nat):AO p∣AO (p.drop n):=by
 rw[J_];intro i;have:=Hf p (n+i);rw[Z] at this |-;rwa [Bn]
theorem Aai{K:Nat}{rs:List Rn}{z:Rn}(hg:∀ r∈rs,AN K r)(hK:K<1048576)(hN:rs.length<=1048576):∀ n,n<=rs.length ->
  ∃ i',W I (.loop RU) (Ly rs (cn (AO ((M rs).drop n):Nat)) ((n:Int)-1) z) (.exit 0) (Ly rs (cn (AO (M rs):Nat)) i' z):=by
 intro n;induction n with
 | zero =>
  intro _;rw[EP];exact⟨_,Am (Ash rs _ _ z (by simp)) (by nofun)⟩
 | succ n ih =>
  intro hn;have e0:((n+1:Nat):Int)-1=(n:Int):=by omega
  have e1:D R ((n:Int)-1)=(n:Int)-1:=Bg (by omega) (by omega);have hf:Bj K ((AO ((M rs).drop (n+1)):Nat):Int):=Q' fun x hx=>Cs hg x (EK hx);have hl:=hf.len;have hb:=MB (neg:=(cn (AO ((M rs).drop (n+1)):Nat)).1) (xs:=(cn (AO ((M rs).drop (n+1)):Nat)).2) (BK _) (by rw[HE];omega);rw[show rv (cn (AO ((M rs).drop (n+1)):Nat)).1 (cn (AO ((M rs).drop (n+1)):Nat)).2=(AO ((M rs).drop (n+1)):Nat) from u _,BF] at hb;rw[e0];by_cases h1:AO ((M rs).drop (n+1))=1
  ·have hc:AO (M rs)=1:=by
    have:=nH (p:=M rs) (n+1);rw[h1] at this;exact Nat.dvd_one.1 this
   rw[h1] at hb |-;rw[hc];exact⟨_,Am (Asg rs _ (n:Nat) z _ (by simp) (by decide) hb) (by nofun)⟩
  ·obtain⟨g1,g2⟩:=Be hg n;have hgc:=Ya (na:=(cn (AO ((M rs).drop (n+1)):Nat)).1) (nb:=(rs.getD n z0).1) (xs:=(cn (AO ((M rs).drop (n+1)):Nat)).2) (ys:=(rs.getD n z0).2) (BK _) g1 (by rw[HE];omega) (by omega);rw[show rv (cn (AO ((M rs).drop (n+1)):Nat)).1 (cn (AO ((M rs).drop (n+1)):Nat)).2=(AO ((M rs).drop (n+1)):Nat) from u _,show rv (rs.getD n z0).1 (rs.getD n z0).2=O (rs.getD n z0) from rfl] at hgc;have hstep:(CX ((AO ((M rs).drop (n+1)):Nat):Int) (O (rs.getD n z0)))=AO ((M rs).drop n):=by
    rw[nF (n:=n) (by omega),AO,CX,BF,Jr]
   rw[hstep] at hgc;have k1:=Asf rs (cn (AO ((M rs).drop (n+1)):Nat)) (n:Nat) z _ _ (by simp) (by
    rw[bne_iff_ne];have:=Yd (n:=AO ((M rs).drop (n+1)));omega) (by omega) hb (by rw[F];exact hgc)
   rw[e1] at k1;obtain⟨i',h⟩:=ih (by omega);exact⟨i',W.loop k1 h⟩
theorem WX{K:Nat}{rs:List Rn}(hg:∀ r∈rs,AN K r)(hK:K<1048576)(hN:rs.length<=1048576):H I 157 [sL pc rs] (o (AO (M rs):Nat)):=by
 obtain⟨i',h⟩:=Aai (z:=z0) hg hK hN rs.length (An _);rw[show (M rs).drop rs.length=[] by rw[<- s,JC],show cn ((AO []:Nat):Int)=z0 from rfl] at h;exact Asi rs (cn (AO (M rs):Nat)) z0 i' (by rw[Bg (by omega) (by omega)];exact h)
theorem Lc{x g:Int}(hg:0<g)(h:g∣x):As x g=x / g:=by
 obtain⟨y,rfl⟩:=h;rw[Int.mul_tdiv_cancel_left _ (by omega),BP _ (by omega)]
theorem Eg{K:Nat}{rs:List Rn}(hg:∀ r∈rs,AN K r)(hK:K<1048576)(hN:rs.length<=1048576):H I 115 [sL pc rs] (A6p 2 (prim (M rs)).length (pk (prim (M rs)))):=by
 have ht:=HI (fun r h=>(hg r h).mono (show K<=1048576 by omega)) hN;have hfT:∀ x∈Y (M rs),Bj K x:=GJ (Cs hg);have gts:=LL hfT;have hvs:=v (Y (M rs));have hll:=Bf (M rs);rw[s] at hll;have hpk:pk (Y (M rs))=pc ((Y (M rs)).map cn):=rfl;(first|rw[hpk,<- N (f:=cn)] at ht|(rw[hpk] at ht;unfold sL at ht;rw[<- N (f:=cn)] at ht));have hlm:((Y (M rs)).map cn).length=(Y (M rs)).length:=N ..;have hc:=WX gts hK (by omega);rw[hvs,VQ] at hc;have hfc:Bj K ((AO (M rs):Nat):Int):=Q' (Cs hg);have hlc:=hfc.len;have hb:=MB (neg:=(cn (AO (M rs):Nat)).1) (xs:=(cn (AO (M rs):Nat)).2) (BK _) (by rw[HE];omega);rw[show rv (cn (AO (M rs):Nat)).1 (cn (AO (M rs):Nat)).2=(AO (M rs):Nat) from u _,BF] at hb;by_cases h1:1<AO (M rs)
 ·have hgd:∀ t,O (((Y (M rs)).map cn).getD t z0)=(Y (M rs)).getD t 0:=fun t=>by rw[<- C9,hvs]
  have key:∀ ts:List Rn,ts.length=(Y (M rs)).length->(∀ r∈ts,AN K r)->(∀ t,O (ts.getD t z0)=(Y (M rs)).getD t 0) ->
    W I (.loop RD) (Lz ts.length ts (cn (AO (M rs):Nat)) (ts.length:Nat) 0) (.exit 0) (Lz ts.length ((prim (M rs)).map cn) (cn (AO (M rs):Nat)) (ts.length:Nat) (ts.length:Nat)):=by
   intro ts hl gt hv;have hlp:((prim (M rs)).map cn).length=ts.length:=by rw[N,BB,hl]
   have h:=W.up (prog:=I) (c:=RD) (ex := .exit 0) (fin:=Lz ts.length ((prim (M rs)).map cn) (cn (AO (M rs):Nat)) (ts.length:Nat) (ts.length:Nat))
    (fun i=>Lz ts.length (((prim (M rs)).map cn).take i++ts.drop i) (cn (AO (M rs):Nat)) (ts.length:Nat) (i:Nat)) ts.length (by nofun) ?_ ?_ 0 (Bv _)
   ·exact h
   ·intro i hi;have ei:D R ((i:Int)+1)=((i+1:Nat):Int):=by rw[Bg (by omega) (by omega)];omega
    have hlen:(((prim (M rs)).map cn).take i++ts.drop i).length=ts.length:=by rw[AY,A7,Eh];omega
    have hget:(((prim (M rs)).map cn).take i++ts.drop i).getD i z0=ts.getD i z0:=by
     rw[Z,Z,AR (by rw[A7];omega),A7,Bn];congr 2;omega
    obtain⟨g1,g2⟩:=Be gt i;have hq:=OG (na:=(ts.getD i z0).1) (nb:=(cn (AO (M rs):Nat)).1) (xs:=(ts.getD i z0).2) (ys:=(cn (AO (M rs):Nat)).2) g1 (BK _) (by rw[show rv (cn (AO (M rs):Nat)).1 (cn (AO (M rs):Nat)).2=(AO (M rs):Nat) from u _];omega) (by omega) (by rw[HE];omega);rw[show rv (cn (AO (M rs):Nat)).1 (cn (AO (M rs):Nat)).2=(AO (M rs):Nat) from u _,show rv (ts.getD i z0).1 (ts.getD i z0).2=O (ts.getD i z0) from rfl,hv,CG] at hq;have k:=Asj ts.length (((prim (M rs)).map cn).take i++ts.drop i) (cn (AO (M rs):Nat)) (ts.length:Nat) (i:Nat) _ _ (by simp;omega) (by omega) hlen (by rw[F,hget];exact hq);refine k.to rfl ?_;rw[ei,F,Lc (by omega) (Hf (M rs) i),<- IC];congr 1;apply FX;intro t;have hpi:((prim (M rs)).map cn)[i]?=some (cn ((prim (M rs)).getD i 0)):=by
     rw[C7,Z,Af (by (first|rw[N] at hlp|(unfold sL at hlp;rw[N] at hlp));omega)];rfl
    rcases Nat.lt_trichotomy t i with g | g | g
    ·rw[F9 (by omega),AK (by rw[A7];omega),AK (by rw[A7];omega),By g,By (by omega)]
    ·subst g;rw[WA (by omega),AK (by rw[A7];omega),By (by omega),hpi]
    ·rw[F9 (by omega),AR (by rw[A7];omega),AR (by rw[A7];omega),A7,A7,Bn,Bn];congr 1;omega
   ·rw[Ei (by omega),JC,O_];exact Asl ts.length _ _ (ts.length:Nat) (ts.length:Nat) (by simp)
  have hl:=key _ hlm gts hgd;have h:=mW rs ((Y (M rs)).map cn) _ _ _ _ _ _ _ (by rw[decide_eq_true_eq];have:=(dO (n:=AO (M rs))).2 h1;omega) ht (sB _) (Pm _) hc hb hl;(first|rw[hlm,<- BB] at h|(unfold sL at h;rw[hlm,<- BB] at h));exact h
 ·have h:=mX rs ((Y (M rs)).map cn) _ _ (by rw[decide_eq_false_iff_not];have:=(dO (n:=AO (M rs))).1;omega) ht (sB _) (Pm _) hc hb;have hp:prim (M rs)=Y (M rs):=by
   rcases F4 (AO (M rs)) with g | g
   ·rw[Do.2 (IB.1 g),CL.2 (IB.1 g)]
   ·exact Si (by omega)
  rw[hp];(first|rw[hlm] at h|(unfold sL at h;rw[hlm] at h));exact h
theorem nI(rs:List Rn):O (rs.getD (rs.length-1) z0)=w (M rs):=by unfold w;rw [C9,s]
theorem VV{rs:List Rn}(hg:∀ r∈rs,AN 1048576 r)(hN:rs.length<=1048576) : 
  (w (M rs)<0->H I 155 [sL pc rs] (A6p 2 rs.length (pk (BZ (M rs)))))/\(¬ w (M rs)<0->H I 155 [sL pc rs] (sL pc rs)):=by
 by_cases h0:0<rs.length
 ·have e1:D R ((rs.length:Int)-1)=((rs.length-1:Nat):Int):=by rw[Bg (by omega) (by omega)];omega
  obtain⟨g1,g2⟩:=Be hg (rs.length-1);have hs:=M9 (neg:=(rs.getD (rs.length-1) z0).1) g1 g2;rw[show rv (rs.getD (rs.length-1) z0).1 (rs.getD (rs.length-1) z0).2=O (rs.getD (rs.length-1) z0) from rfl,nI] at hs;refine⟨fun h => ?_,fun h => ?_⟩
  ·have hn:=Kz hg hN;have hpk:pk (BZ (M rs))=pc ((BZ (M rs)).map cn):=rfl;have hll:((BZ (M rs)).map cn).length=rs.length:=by rw[N,DG,s]
   rw[hpk] at hn |-;(first|rw[<- hll] at hn |-|(unfold sL at hn;rw[<- hll] at hn |-));have hn':H I 117 [sL pc rs] (A6p 2 ((BZ (M rs)).map cn).length (pc ((BZ (M rs)).map cn))):=by
    have:=Kz hg hN;rw[hll];exact this
   rw[hll];have k:=mY rs ((BZ (M rs)).map cn) (BL (w (M rs))) (by simp;omega) (by unfold BL;rw[if_pos h];rfl) (by rw[e1];omega) (by rw[e1,F];exact hs) hn';(first|rw[hll] at k|(unfold sL at k;rw[hll] at k));exact k
  ·exact mZ rs (BL (w (M rs))) (by simp;omega) (by unfold BL;rw[if_neg h];split <;> rfl) (by rw[e1];omega) (by rw[e1,F];exact hs)
 ·have hz:rs=[]:=A1 (by omega);subst hz;refine⟨fun h=>absurd h (by decide),fun _=>nA [] (by decide)⟩
theorem Pt{K:Nat}{rs:List Rn}(hg:∀ r∈rs,AN K r)(hK:K+2<=1048576)(hN:rs.length<=1048576):H I 116 [sL pc rs] (A6p 2 (Aq (M rs)).length (pk (Aq (M rs)))):=by
 have hd:=GL (fun r h=>(hg r h).mono (show K<=1048576 by omega)) hN;have hle:=GG (M rs) rs.length;have hl:=W.up (prog:=I) (c:=UG) (ex := .exit 0) (fin:=Ob rs (l (M rs) rs.length-1) (pc ((Ao (l (M rs) rs.length-1)).map fun j=>cn (O (rs.getD (j+1) z0)*((j+1:Nat):Int)))) ((l (M rs) rs.length-1+1:Nat):Int))
  (fun i=>Ob rs i (pc ((Ao i).map fun j=>cn (O (rs.getD (j+1) z0)*((j+1:Nat):Int)))) ((i+1:Nat):Int)) (l (M rs) rs.length-1) (by nofun) ?_ ?_ 0 (Bv _)
 ·have hfit:∀ r∈(Ao (l (M rs) rs.length-1)).map (fun j=>cn (O (rs.getD (j+1) z0)*((j+1:Nat):Int))),AN 1048576 r:=by
   intro r hr;obtain⟨j,hj,rfl⟩:=DS.1 hr;rw[Lo] at hj;have h2:Bj 2 ((j+1:Nat):Int):=OC (by omega);exact (B9 ((Be hg (j+1)).fits.mul h2)).mono (by omega)
  have ht:=HI hfit (by rw[N,B6];omega);have hlen:((Ao (l (M rs) rs.length-1)).map (fun j=>cn (O (rs.getD (j+1) z0)*((j+1:Nat):Int)))).length=l (M rs) rs.length-1:=by rw[N,B6]
  have e:Y (M ((Ao (l (M rs) rs.length-1)).map (fun j=>cn (O (rs.getD (j+1) z0)*((j+1:Nat):Int)))))=Aq (M rs):=by
   unfold Aq;apply Fi;intro i;rw[Jc,GN,u,C9,s];by_cases h1:i<l (M rs) rs.length-1
   ·rw[if_pos h1,if_pos (by omega)]
   ·rw[if_neg h1];split
    ·have:O (rs.getD (i+1) z0)=0:=by rw[<- C9];exact My (M rs) rs.length (i+1) (by omega) (by omega)
     rw[this,CJ]
    ·rfl
  (first|rw[e,hlen] at ht|(rw[e] at ht;unfold sL at ht;rw[hlen] at ht));have hpk:pk (Aq (M rs))=pc ((Aq (M rs)).map cn):=rfl;(first|rw[hpk,<- N (f:=cn)] at ht |-|(rw[hpk] at ht |-;unfold sL at ht;rw[<- N (f:=cn)] at ht |-));exact Aso rs _ _ _ _ hl ht
 ·intro i hi;have ei:D R (((i+1:Nat):Int)+1)=((i+1+1:Nat):Int):=by rw[Bg (by omega) (by omega)];omega
  obtain⟨g1,g2⟩:=Be hg (i+1);have ho:=Apa (n:=((i+1:Nat):Int)) (by omega);have hfi:Bj 2 ((i+1:Nat):Int):=OC (by omega);have hm:=Sg (na:=(rs.getD (i+1) z0).1) (nb:=decide (((i+1:Nat):Int)<0)) (xs:=(rs.getD (i+1) z0).2) (ys:=G ((i+1:Nat):Int).natAbs) g1 (BK _) (by have:=hfi.len;omega);rw[Fr] at hm;have k:=Asm rs i (pc ((Ao i).map fun j=>cn (O (rs.getD (j+1) z0)*((j+1:Nat):Int)))) ((i+1:Nat):Int) (((l (M rs) rs.length:Nat):Int)-1) (O (rs.getD (i+1) z0)*((i+1:Nat):Int)) (by simp;omega) (by omega) (by omega) hd ho (by rw[F];exact hm);refine k.to rfl ?_;rw[ei];congr 1;rw[Hi,Ef,M3];rfl
 ·exact Asn rs _ _ _ _ (by rw[decide_eq_false_iff_not];omega) hd
def TRB:Cm:=TRA
theorem Bh:BY I TRB:=nB
end Go.Proofs.YtajompaehjkgkaaGreat
