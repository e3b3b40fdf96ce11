/- Texts of the proof of EntryWithin: part 7 of 13. -/
import Derived.Test.YtajompaehjkgkaaGreatEwn6
namespace Go.Proofs.YtajompaehjkgkaaGreat
open Go.Ai
set_option maxRecDepth 100000
open BitVec renaming ofInt->Aj,ofInt_natCast->Nh,or_comm->YC,toNat_and->Ri,toNat_ofNat->LF,toNat_or->yQ
open Bool renaming and_false->Li,and_true->Ob,eq_iff_iff->W2,false_and->QV,false_eq_true->CI,true_and->ABe
open Classical renaming byContradiction->A6
open Decidable renaming decide->E
open Go.Ai.AV renaming agg->Ao,bool->W,fresh->Ae,int->J,sl->P,tup->A3
open Go.Ai.Reg renaming box->AH,own->Ak,val->C
open Go.IntKind renaming bits->A5,i64->X,u32->U,u64->R,u8->w,wrap->Q
open Go.Proofs.Tryz renaming prog->AC
open Int renaming add_comm->Nx,add_mul->H2,add_mul_ediv_left->X7,add_mul_ediv_right->AHs,add_mul_emod_self_left->Y5,add_zero->Cx,ediv_emod_unique->OO,ediv_eq_zero_of_lt->IQ,ediv_lt_of_lt_mul->N4,ediv_nonneg->Kr,emod_add_mul_ediv->X6,emod_eq_of_lt->HR,emod_lt_of_pos->FH,emod_nonneg->Hu,eq_ofNat_of_zero_le->PQ,eq_of_mul_eq_mul_left->GA,fdiv->d,fdiv_eq_ediv_of_nonneg->BX,gcd->Ed,le_of_lt->A9,le_refl->DO,lt_of_le_of_lt->Ano,lt_of_lt_of_le->yZ,lt_of_mul_lt_mul_left->G9,lt_of_mul_lt_mul_right->CY,mul_add->DJ,mul_assoc->Bm,mul_comm->AT,mul_ediv_add_emod->Ik,mul_ediv_cancel_left->CL,mul_emod_mul_of_pos->AHo,mul_eq_zero->F5,mul_le_mul->Fk,mul_le_mul_of_nonneg_left->Ax,mul_le_mul_of_nonneg_right->Ap,mul_lt_mul_of_pos_left->J0,mul_lt_mul_of_pos_right->BG,mul_neg->F8,mul_nonneg->A8,mul_one->DQ,mul_pos->Br,mul_sub->Gs,mul_zero->Be,natAbs->I,natAbs_natCast->C9,natAbs_pow->Oh,natCast_ediv->A3k,natCast_emod->A5o,natCast_mul->Eg,natCast_nonneg->JI,natCast_pow->Ea,neg_tdiv->Axs,neg_tmod->Axu,not_lt->Ma,ofNat_dvd_left->Il,one_mul->D0,pow_add->Cc,pow_mul->yS,pow_nonneg->Og,pow_pos->FP,pow_succ->AD,pow_zero->DC,sub_self->TA,sub_zero->FV,tdiv->AF,tdiv_eq_ediv_of_nonneg->Cu,tdiv_neg->Axt,tmod->Bl,tmod_eq_emod_of_nonneg->BY,tmod_neg->Axv,toNat->Y,toNat_natCast->Aa,zero_add->E7,zero_mul->Cs
open List renaming all->Aio,all_eq_true->CG,append_assoc->Iu,append_nil->Ld,drop->AL,drop_eq_getElem_cons->BL,drop_length->DD,drop_zero->DA,eq_nil_of_length_eq_zero->AU,ext_getElem?->HP,getD->H,getD_eq_getElem?_getD->Ad,getElem?_append_left->B2,getElem?_append_right->BN,getElem?_drop->Cb,getElem?_eq_getElem->Am,getElem?_map->CC,getElem?_set_ne->H5,getElem?_set_self->dZ,getElem?_take_of_lt->Cr,length->F,length_append->B0,length_cons->BM,length_drop->CX,length_eq_one_iff->AGg,length_map->Ac,length_nil->IP,length_pos_iff->Av,length_range->CF,length_replicate->GJ,length_set->BH,length_take->AX,map_append->D_,map_congr_left->GP,map_cons->CW,map_nil->HC,map_take->Od,mem_append->BD,mem_cons_of_mem->Bg,mem_cons_self->Ba,mem_map->DI,mem_of_mem_drop->E3,mem_range->Hf,mem_singleton->Dh,range->Ay,range_succ->Jw,replicate->AI,replicate_succ->GO,set_append_right->AHm,set_set->Ue,take->BF,take_length->DV,take_of_length_le->Dt,take_zero->OQ
open Nat renaming add_assoc->E1,add_mul->DU,add_zero->Gb,and_two_pow_sub_one_eq_mod->YD,div_add_mod->yO,eq_zero_or_pos->Gk,gcd->FO,gcd_comm->Ji,gcd_rec->yT,gcd_zero_right->Gw,le_of_dvd->V4,le_of_lt->Abm,le_of_not_lt->QY,le_refl->A2,le_trans->B6,log2->CZ,log2_eq_iff->UW,log2_lt->TD,lt_of_le_of_lt->Ey,lt_of_lt_of_le->Dg,lt_or_ge->CN,lt_trichotomy->Mv,mod_eq_of_lt->Hc,mod_lt->IV,mul_assoc->Gj,mul_comm->Du,mul_le_mul->Ck,mul_le_mul_left->Bu,mul_le_mul_right->Bf,mul_one->H9,mul_succ->TB,mul_zero->rD,one_mul->Gi,pow_add->Dw,pow_le_pow_right->B_,pow_lt_pow_right->UA,pow_mul->AJl,pow_pos->E5,sub_self->T9,sub_zero->Lb,testBit_and->ABn,testBit_lt_two_pow->vC,two_pow_add_eq_or_of_lt->ABp,two_pow_pos->ABm,zero_add->Cv,zero_le->A_
open Or renaming inl->Alo,inr->TQ
noncomputable section
section
variable(neg:Bool)(xs:G)
theorem Acq(c1:((F (Af xs):Int)==0)=true)(a:T 99 [sL A xs] (Ae 1 (F (Af xs)) (A (Af xs)))):T 79 [Ao [W neg,sL A xs]] (J X 0):=Bc (fn:=iF AC Ajg) D8 rfl 400 rfl [.r (Ae 1 (F (Af xs)) (A (Af xs))),bT] (DH a c1)
theorem Acr(c1:((F (Af xs):Int)==0)=false)(b:neg=true)(a:T 99 [sL A xs] (Ae 1 (F (Af xs)) (A (Af xs)))):T 79 [Ao [W neg,sL A xs]] (J X (-1)):=Bc (fn:=iF AC Ajg) D8 rfl 400 rfl [.r (Ae 1 (F (Af xs)) (A (Af xs))),bF,bT] (Gy a c1 b)
theorem Acs(c1:((F (Af xs):Int)==0)=false)(b:neg=false)(a:T 99 [sL A xs] (Ae 1 (F (Af xs)) (A (Af xs)))):T 79 [Ao [W neg,sL A xs]] (J X 1):=Bc (fn:=iF AC Ajg) D8 rfl 400 rfl [.r (Ae 1 (F (Af xs)) (A (Af xs))),bF,bF] (Gy a c1 b)
theorem A1v(v:Int)(a:T 98 [W (!neg),sL A xs] (Dk v)):T 161 [Ao [W neg,sL A xs]] (M v):=Bc (fn:=iF AC Azp) D8 rfl 400 rfl [.r (Dk v)] (BO a)
theorem ADf(v:Int)(a:T 98 [W neg,sL A xs] (Dk v)):T 97 [Ao [W neg,sL A xs]] (M v):=Bc (fn:=iF AC AGs) D8 rfl 400 rfl [.r (Dk v)] (BO a)
end
def Sh:ICode:=a Aah 92 244
section
variable(xs a:G)(n:Nat)(cs:AK)(c i:Int)
def J7:Az:=C (sL A xs)::C (sL A a)::L 3 (Ak 1 n cs::C (J R c)::N i::L 46 [])
theorem A1w(c1:E (i<F xs)=true)(b:E (i<F a)=true)(e:0<=i/\i<F xs)(f:0<=i/\i<F a)(h:n+1<=35184372088832):Z Sh (J7 xs a n cs c i) .norm (J7 xs a (n+1) (cs++([J U (Q U (Q R (Q R (c+Q R (H xs (Y i) 0))+Q R (H a (Y i) 0))))]:AK)) (d (Q R (Q R (c+Q R (H xs (Y i) 0))+Q R (H a (Y i) 0))) (2^(min (Y 32) (A5 .u64)))) (Q X (i+1))):=Ab D8 [bT,bT,bT,bT,.v (J U (H xs (Y i) 0)),bT,.v (J U (H a (Y i) 0))] TM (Vi c1 I6 I6 c1 e (B7 e) b f (B7 f) (show F ([J U (Q U (Q R (Q R (c+Q R (H xs (Y i) 0))+Q R (H a (Y i) 0))))]:AK)=1*1 from rfl) h K9)
theorem A1x(c1:E (i<F xs)=true)(b:E (i<F a)=false)(e:0<=i/\i<F xs)(f:n+1<=35184372088832):Z Sh (J7 xs a n cs c i) .norm (J7 xs a (n+1) (cs++([J U (Q U (Q R (c+Q R (H xs (Y i) 0))))]:AK)) (d (Q R (c+Q R (H xs (Y i) 0))) (2^(min (Y 32) (A5 .u64)))) (Q X (i+1))):=Ab D8 [bT,bT,bT,bT,.v (J U (H xs (Y i) 0)),bF] TM (Kw c1 I6 I6 c1 e (B7 e) b (show F ([J U (Q U (Q R (c+Q R (H xs (Y i) 0))))]:AK)=1*1 from rfl) f K9)
theorem A1y(c1:E (i<F xs)=false)(b:E (i<F a)=true)(e:0<=i/\i<F a)(f:n+1<=35184372088832):Z Sh (J7 xs a n cs c i) .norm (J7 xs a (n+1) (cs++([J U (Q U (Q R (c+Q R (H a (Y i) 0))))]:AK)) (d (Q R (c+Q R (H a (Y i) 0))) (2^(min (Y 32) (A5 .u64)))) (Q X (i+1))):=Ab D8 [bF,bT,bT,bF,bT,.v (J U (H a (Y i) 0))] TM (Kw c1 b I6 c1 b e (B7 e) (show F ([J U (Q U (Q R (c+Q R (H a (Y i) 0))))]:AK)=1*1 from rfl) f K9)
theorem A1z(c1:E (i<F xs)=false)(b:E (i<F a)=false)(g:E (c>0)=true)(e:n+1<=35184372088832):Z Sh (J7 xs a n cs c i) .norm (J7 xs a (n+1) (cs++([J U (Q U c)]:AK)) (d c (2^(min (Y 32) (A5 .u64)))) (Q X (i+1))):=Ab D8 [bF,bF,bT,bF,bF] TM (Ip c1 b g c1 b (show F ([J U (Q U c)]:AK)=1*1 from rfl) e K9)
theorem uN(c1:E (i<F xs)=false)(b:E (i<F a)=false)(g:E (c>0)=false):Z Sh (J7 xs a n cs c i) xZ0 (J7 xs a n cs c i):=Ab D8 [bF,bF,bF] TM (Gy c1 b g)
end
theorem A2a(xs a:G)(n:Nat)(cs:AK)(c i:Int)(b:Z (.loop Sh) (J7 xs a 0 ([]:AK) 0 0) xZ0 (J7 xs a n cs c i)):T 144 [sL A xs,sL A a] (Ae 1 n cs):=CQ Aah (L 1 (C (sL A a)::L 2 (Ak 1 n cs::L 49 []))) (As (As (AA (Ag (Ab D8 [] TM a0) (Ag (A7 b) (Ab D8 [] [1,4] a0))))))
def Xa:ICode:=a Aai 92 244
section
variable(xs a:G)(n:Nat)(cs:AK)(c i:Int)
def M6:Az:=C (sL A xs)::C (sL A a)::L 3 (Ak 1 n cs::C (J R c)::N i::L 34 [])
theorem A2b(c1:E (i<F xs)=true)(f:E (i<F a)=true)(b:0<=i/\i<F a)(e:0<=i/\i<F xs)(g:n+1<=35184372088832):Z Xa (M6 xs a n cs c i) .norm (M6 xs a (n+1) (cs++([J U (Q U (Q R ((Q R ((Q R (H xs (Y i) 0))-(Q R (H a (Y i) 0))))-c)))]:AK)) (d (Q R ((Q R ((Q R (H xs (Y i) 0))-(Q R (H a (Y i) 0))))-c)) (2^(min (Y 63) (A5 .u64)))) (Q X (i+1))):=Ab D8 [bT,bT,.v (J U (H a (Y i) 0)),.v (J U (H xs (Y i) 0))] TM (M3 c1 f b (B7 b) e (B7 e) (show F ([J U (Q U (Q R ((Q R ((Q R (H xs (Y i) 0))-(Q R (H a (Y i) 0))))-c)))]:AK)=1*1 from rfl) g eQ)
theorem A2c(c1:E (i<F xs)=true)(f:E (i<F a)=false)(b:0<=i/\i<F xs)(e:n+1<=35184372088832):Z Xa (M6 xs a n cs c i) .norm (M6 xs a (n+1) (cs++([J U (Q U (Q R ((Q R ((Q R (H xs (Y i) 0))-0))-c)))]:AK)) (d (Q R ((Q R ((Q R (H xs (Y i) 0))-0))-c)) (2^(min (Y 63) (A5 .u64)))) (Q X (i+1))):=Ab D8 [bT,bF,.v (J U (H xs (Y i) 0))] TM (GZ c1 f b (B7 b) (show F ([J U (Q U (Q R ((Q R ((Q R (H xs (Y i) 0))-0))-c)))]:AK)=1*1 from rfl) e eQ)
theorem A2d(c1:E (i<F xs)=false):Z Xa (M6 xs a n cs c i) xZ0 (M6 xs a n cs c i):=Ab D8 [bF] TM (BO c1)
end
theorem A2e(xs a:G)(n:Nat)(cs:AK)(c i:Int)(b:Z (.loop Xa) (M6 xs a 0 ([]:AK) 0 0) xZ0 (M6 xs a n cs c i)):T 145 [sL A xs,sL A a] (Ae 1 n cs):=CQ Aai (L 1 (C (sL A a)::L 2 (Ak 1 n cs::L 37 []))) (As (As (AA (Ag (Ab D8 [] TM a0) (Ag (A7 b) (Ab D8 [] [1,4] a0))))))
theorem JP(xs:G)(v:Int):A xs++([J U v]:AK)=A (xs++[v]):=by simp [A]
theorem P8{xs:G}(h:B9 xs){v:Int}(hv:0<=v/\v<4294967296):B9 (xs++[v]):=by
 intro x hx;rcases BD.1 hx with g | g
 ·exact h x g
 ·rw[Dh.1 g];exact hv
theorem NN(xs:G)(v:Int):An (xs++[v])=An xs+4294967296^F xs*v:=by rw [H'];simp [An]
theorem uO{s:Int}:d s (2^(min (Y 32) (A5 .u64)))=s / 4294967296:=by
 show d s 4294967296=_;rw[BX _ (by omega)]
theorem AHb{s:Int}:d s (2^(min (Y 63) (A5 .u64)))=s / 9223372036854775808:=by
 show d s 9223372036854775808=_;rw[BX _ (by omega)]
theorem Anj{xs b:G}(hx:B9 xs)(hy:B9 b)(h1:F xs<1048576)(h2:F b<1048576):∀ (r i:Nat) (e:G) (c:Int),i+r=max (F xs) (F b)->F e=i->B9 e->0<=c/\c<=1 ->
  ∃ (f:G) (n o:Int),B9 f/\F f<=max (F xs) (F b)+1/\An f=An e+4294967296^i*(c+An (xs.drop i)+An (b.drop i)) /\
   Z (.loop Sh) (J7 xs b i (A e) c (i:Nat)) xZ0 (J7 xs b (F f) (A f) n o):=by
 intro r;induction r with
 | zero =>
  intro i e c hi g l hc;have t:An (xs.drop i)=0:=EX (by omega);have u:An (b.drop i)=0:=EX (by omega);have q:decide ((i:Int)<(F xs:Int))=false:=by simp;omega
  have s:decide ((i:Int)<(F b:Int))=false:=by simp;omega
  by_cases x:c=0
  ·refine⟨e,c,i,l,by omega,by rw[t,u,x];simp,?_⟩;rw[g];exact Aq (uN xs b i (A e) c (i:Nat) q s (by simp;omega))
  ·have y:c=1:=by omega
   subst y;refine⟨e++[1],0,Q X (i+1),P8 l (by omega),by simp;omega,by rw[NN,t,u,g];simp,?_⟩;have k:=A1z xs b i (A e) 1 (i:Nat) q s (by simp) (by omega);rw[uO,Fb,show (1:Int) % 4294967296=1 by decide,show (1:Int) / 4294967296=0 by decide,JP] at k;have h:Q X (i+1)=((i+1:Nat):Int):=wrz
   rw[h] at k |-;have z:=uN xs b (i+1) (A (e++[1])) 0 ((i+1:Nat)) (by simp;omega) (by simp;omega) (by simp);have B:F (e++[1])=i+1:=by simp[g]
   rw[B];exact Bk k (Aq z)
 | succ r C =>
  intro i e c hi g l hc;have K:=Bn hx i;have L:=Bn hy i;have h:Q X (i+1)=((i+1:Nat):Int):=wrz
  have step:Z Sh (J7 xs b i (A e) c (i:Nat)) .norm (J7 xs b (i+1) (A (e++[(c+H xs i 0+H b i 0) % 4294967296])) ((c+H xs i 0+H b i 0) / 4294967296) ((i+1:Nat))):=by
   have v:Q R (H xs i 0)=H xs i 0:=by rw[Cz];omega
   have w:Q R (H b i 0)=H b i 0:=by rw[Cz];omega
   by_cases q:i<F xs <;> by_cases s:i<F b
   ·have k:=A1w xs b i (A e) c (i:Nat) (by simp;omega) (by simp;omega) (by omega) (by omega) (by omega);have j:Q R (Q R (c+H xs i 0)+H b i 0)=c+H xs i 0+H b i 0:=by rw[Cz,Cz];omega
    simp only[Aa,v,w,j,uO,Fb,h,JP] at k;exact k
   ·have k:=A1x xs b i (A e) c (i:Nat) (by simp;omega) (by simp;omega) (by omega) (by omega);have hz:H b i 0=0:=Cp (by omega);have j:Q R (c+H xs i 0)=c+H xs i 0+H b i 0:=by rw[Cz,hz];omega
    simp only[Aa,v,j,uO,Fb,h,JP] at k;exact k
   ·have k:=A1y xs b i (A e) c (i:Nat) (by simp;omega) (by simp;omega) (by omega) (by omega);have hz:H xs i 0=0:=Cp (by omega);have j:Q R (c+H b i 0)=c+H xs i 0+H b i 0:=by rw[Cz,hz];omega
    simp only[Aa,w,j,uO,Fb,h,JP] at k;exact k
   ·omega
  obtain⟨f,n,o,D,E,I,J⟩:=C (i+1) (e++[(c+H xs i 0+H b i 0) % 4294967296]) ((c+H xs i 0+H b i 0) / 4294967296) (by omega) (by simp[g]) (P8 l (by omega)) (by omega);refine⟨f,n,o,D,E,?_,Bk step J⟩;rw[I,NN,g,D4 xs i,D4 b i,AD];have hd:=X6 (c+H xs i 0+H b i 0) 4294967296;generalize (c+H xs i 0+H b i 0) % 4294967296=m at *
  generalize (c+H xs i 0+H b i 0) / 4294967296=d at *
  generalize (4294967296:Int)^i=p at *
  generalize An (xs.drop (i+1))=a at *
  generalize An (b.drop (i+1))=Y at *
  have:c+(H xs i 0+4294967296*a)+(H b i 0+4294967296*Y)=m+4294967296*(d+a+Y):=by omega
  rw[this];grind
theorem uP{xs a:G}(hx:B9 xs)(hy:B9 a)(h1:F xs<1048576)(h2:F a<1048576):∃ b,B9 b/\An b=An xs+An a/\F b<=max (F xs) (F a)+1/\T 144 [sL A xs,sL A a] (Ae 1 (F b) (A b)):=by
 obtain⟨b,g,h,c,d,e,f⟩:=Anj hx hy h1 h2 (max (F xs) (F a)) 0 [] 0 (by omega) rfl (fun x hx=>by cases hx) (by omega);refine⟨b,c,by rw[e];simp[An],d,?_⟩;exact A2a xs a _ _ _ _ f
theorem Ank{xs b:G}(hx:B9 xs)(hy:B9 b)(E:F b<=F xs)(h1:F xs<=1048576):∀ (r i:Nat) (e:G) (c:Int),i+r=F xs->F e=i->B9 e->0<=c/\c<=1 ->
  ∃ (f:G) (g j:Int),B9 f/\F f=F xs/\0<=g/\An f-4294967296^F xs*g=An e+4294967296^i*(An (xs.drop i)-An (b.drop i)-c) /\
   Z (.loop Xa) (M6 xs b i (A e) c (i:Nat)) xZ0 (M6 xs b (F f) (A f) g j):=by
 intro r;induction r with
 | zero =>
  intro i e c hi h l hc;have t:An (xs.drop i)=0:=EX (by omega);have u:An (b.drop i)=0:=EX (by omega);have v:F xs=i:=by omega
  refine⟨e,c,i,l,by omega,hc.1,by rw[t,u,v];grind,?_⟩;rw[h];exact Aq (A2d xs b i (A e) c (i:Nat) (by simp;omega))
 | succ r w =>
  intro i e c hi h l hc;have I:=Bn hx i;have J:=Bn hy i;have q:Q X (i+1)=((i+1:Nat):Int):=wrz
  have step:Z Xa (M6 xs b i (A e) c (i:Nat)) .norm (M6 xs b (i+1) (A (e++[(H xs i 0-H b i 0-c) % 4294967296])) (-((H xs i 0-H b i 0-c) / 4294967296)) ((i+1:Nat))):=by
   have s:Q R (H xs i 0)=H xs i 0:=by rw[Cz];omega
   have x:Q R (H b i 0)=H b i 0:=by rw[Cz];omega
   by_cases K:i<F b
   ·have k:=A2b xs b i (A e) c (i:Nat) (by simp;omega) (by simp;omega) (by omega) (by omega) (by omega);have n:Q R (Q R (H xs i 0-H b i 0)-c) % 4294967296=(H xs i 0-H b i 0-c) % 4294967296:=by rw[Cz,Cz];omega
    have o:Q R (Q R (H xs i 0-H b i 0)-c) / 9223372036854775808 = -((H xs i 0-H b i 0-c) / 4294967296):=by rw[Cz,Cz];omega
    simp only[Aa,s,x,AHb,Fb,n,o,q,JP] at k;exact k
   ·have k:=A2c xs b i (A e) c (i:Nat) (by simp;omega) (by simp;omega) (by omega) (by omega);have hz:H b i 0=0:=Cp (by omega);have n:Q R (Q R (H xs i 0-0)-c) % 4294967296=(H xs i 0-H b i 0-c) % 4294967296:=by rw[Cz,Cz,hz];omega
    have o:Q R (Q R (H xs i 0-0)-c) / 9223372036854775808 = -((H xs i 0-H b i 0-c) / 4294967296):=by rw[Cz,Cz,hz];omega
    simp only[Aa,s,AHb,Fb,n,o,q,JP] at k;exact k
  obtain⟨f,g,j,y,z,B,C,D⟩:=w (i+1) (e++[(H xs i 0-H b i 0-c) % 4294967296]) (-((H xs i 0-H b i 0-c) / 4294967296)) (by omega) (by simp[h]) (P8 l (by omega)) (by omega);refine⟨f,g,j,y,z,B,?_,Bk step D⟩;rw[C,NN,h,D4 xs i,D4 b i,AD];have hd:=X6 (H xs i 0-H b i 0-c) 4294967296;generalize (H xs i 0-H b i 0-c) % 4294967296=m at *
  generalize (H xs i 0-H b i 0-c) / 4294967296=d at *
  generalize (4294967296:Int)^i=p at *
  generalize An (xs.drop (i+1))=a at *
  generalize An (b.drop (i+1))=Y at *
  have:H xs i 0+4294967296*a-(H b i 0+4294967296*Y)-c=m+4294967296*(d+a-Y):=by omega
  rw[this];grind
theorem Yg{xs b:G}(hx:B9 xs)(hy:B9 b)(h:F b<=F xs)(hv:An b<=An xs)(h1:F xs<=1048576):∃ a,B9 a/\An a=An xs-An b/\F a=F xs/\T 145 [sL A xs,sL A b] (Ae 1 (F a) (A a)):=by
 obtain⟨a,c,k,d,e,l,f,i⟩:=Ank hx hy h h1 (F xs) 0 [] 0 (by omega) rfl (fun x hx=>by cases hx) (by omega);simp only[An,DC,DA,D0,E7,FV] at f;have j:=EP d;rw[e] at j;have hp:=Dx (F xs);have hc:c=0:=by
  generalize (4294967296:Int)^F xs=p at *
  rcases Int.lt_or_le 0 c with g | g
  ·have:p*1<=p*c:=Ax (by omega) (by omega);omega
  ·omega
 subst hc;refine⟨a,d,by simpa using f,e,?_⟩;exact A2e xs b _ _ _ _ i
theorem HM{neg:Bool}{xs:G}(a:B9 xs)(b:F xs<=1048576):T 98 [W neg,sL A xs] (Dk (v neg xs)):=U1 a b
theorem If{neg:Bool}{xs:G}(a:B9 xs)(c:F xs<=1048576):T 79 [Ao [W neg,sL A xs]] (J X (B4 (v neg xs))):=by
 have b:=Fp (B6 c (by decide));have hz:F (Af xs)=0↔An xs=0:=by
  have:=BK a;rw[Lq a,Em];omega
 have hv:=BK a;by_cases d:An xs=0
 ·have h:=Acq neg xs (by rw[BJ];omega) b;have e:B4 (v neg xs)=0:=by unfold v;rw[d];cases neg <;> rfl
  rw[e];exact h
 ·cases neg with
  | true =>
   have h:=Acr true xs (by rw[C3];omega) rfl b;have e:B4 (v true xs) = -1:=by simp only[v,if_true,B4]; (repeat' split) <;> omega
   rw[e];exact h
  | false =>
   have h:=Acs false xs (by rw[C3];omega) rfl b;have e:B4 (v false xs)=1:=by simp only[v,CI,if_false,B4]; (repeat' split) <;> omega
   rw[e];exact h
theorem A2f(neg:Bool)(xs:G):v (!neg) xs = -(v neg xs):=by unfold v;cases neg <;> simp
theorem Th{neg:Bool}{xs:G}(a:B9 xs)(b:F xs<=1048576):T 161 [Ao [W neg,sL A xs]] (M (-(v neg xs))):=by
 have h:=HM (neg := !neg) a b;rw[A2f] at h;exact A1v neg xs _ h
theorem aV{neg:Bool}{xs:G}(a:B9 xs)(b:F xs<=1048576):T 97 [Ao [W neg,sL A xs]] (M (v neg xs)):=ADf neg xs _ (HM a b)
section
variable(d nb:Bool)(xs a b:G)
theorem A2g(v:Int)(e:T 99 [sL A xs] (Ae 1 (F (Af xs)) (A (Af xs))))(f:T 99 [sL A a] (Ae 1 (F (Af a)) (A (Af a))))(g:T 146 [sL A (Af xs),sL A (Af a)] (Ae 1 (F b) (A b)))(h:T 98 [W (!(d==nb)),sL A b] (Dk v)):T 96 [Ao [W d,sL A xs],Ao [W nb,sL A a]] (M v):=Bc (fn:=iF AC AGr) D8 rfl 400 rfl [.r (Ae 1 (F (Af xs)) (A (Af xs))),.r (Ae 1 (F (Af a)) (A (Af a))),.r (Ae 1 (F b) (A b)),.r (Dk v)] (FJ e f g h)
theorem Anl(v:Int)(c1:(d==nb)=true)(e:T 99 [sL A xs] (Ae 1 (F (Af xs)) (A (Af xs))))(f:T 99 [sL A a] (Ae 1 (F (Af a)) (A (Af a))))(g:T 144 [sL A (Af xs),sL A (Af a)] (Ae 1 (F b) (A b)))(h:T 98 [W d,sL A b] (Dk v)):T 95 [Ao [W d,sL A xs],Ao [W nb,sL A a]] (M v):=Bc (fn:=iF AC Ajl) D8 rfl 400 rfl [.r (Ae 1 (F (Af xs)) (A (Af xs))),.r (Ae 1 (F (Af a)) (A (Af a))),bT,.r (Ae 1 (F b) (A b)),.r (Dk v)] (Ff e f c1 g h)
theorem Anm(v c:Int)(c1:(d==nb)=false)(i:E (c>=0)=true)(e:T 99 [sL A xs] (Ae 1 (F (Af xs)) (A (Af xs))))(f:T 99 [sL A a] (Ae 1 (F (Af a)) (A (Af a))))(g:T 134 [sL A (Af xs),sL A (Af a)] (J X c))(h:T 145 [sL A (Af xs),sL A (Af a)] (Ae 1 (F b) (A b)))(j:T 98 [W d,sL A b] (Dk v)):T 95 [Ao [W d,sL A xs],Ao [W nb,sL A a]] (M v):=Bc (fn:=iF AC Ajl) D8 rfl 400 rfl [.r (Ae 1 (F (Af xs)) (A (Af xs))),.r (Ae 1 (F (Af a)) (A (Af a))),bF,.r (J X c),bT,.r (Ae 1 (F b) (A b)),.r (Dk v)] (GZ e f c1 g i h j)
theorem Ann(v c:Int)(c1:(d==nb)=false)(i:E (c>=0)=false)(e:T 99 [sL A xs] (Ae 1 (F (Af xs)) (A (Af xs))))(f:T 99 [sL A a] (Ae 1 (F (Af a)) (A (Af a))))(g:T 134 [sL A (Af xs),sL A (Af a)] (J X c))(h:T 145 [sL A (Af a),sL A (Af xs)] (Ae 1 (F b) (A b)))(j:T 98 [W nb,sL A b] (Dk v)):T 95 [Ao [W d,sL A xs],Ao [W nb,sL A a]] (M v):=Bc (fn:=iF AC Ajl) D8 rfl 400 rfl [.r (Ae 1 (F (Af xs)) (A (Af xs))),.r (Ae 1 (F (Af a)) (A (Af a))),bF,.r (J X c),bF,.r (Ae 1 (F b) (A b)),.r (Dk v)] (GZ e f c1 g i h j)
end
theorem A2h(a nb:Bool)(xs b:G)(v w:Int)(c:T 161 [Ao [W nb,sL A b]] (M w))(d:T 95 [Ao [W a,sL A xs],M w] (M v)):T 129 [Ao [W a,sL A xs],Ao [W nb,sL A b]] (M v):=Bc (fn:=iF AC Azj) D8 rfl 400 rfl [.r (M w),.r (M v)] (DH c d)
theorem aW(neg:Bool)(xs:G):v neg (Af xs)=v neg xs:=by unfold v;rw [Fz]
theorem Ti{xs:G}(h:B9 xs):B9 (Af xs):=(Hk h).1
theorem ADg(b nb:Bool)(xs c d:G)(h:An d=An xs*An c):v (!(b==nb)) d=v b xs*v nb c:=by
 unfold v;rw[h];generalize An xs=a;generalize An c=Y;cases b <;> cases nb <;> simp <;> grind
section
variable{na nb:Bool}{xs ys:G}
theorem Si(hx:B9 xs)(hy:B9 ys)(r:F xs+F ys<=1048576):T 96 [Ao [W na,sL A xs],Ao [W nb,sL A ys]] (M (v na xs*v nb ys)):=by
 have n:=Ct xs;have p:=Ct ys;obtain⟨a,f,c,j,d⟩:=uM (Ti hx) (Ti hy) (by omega);have b:=HM (neg := !(na==nb)) c (by omega);rw[ADg na nb (Af xs) (Af ys) a j,aW,aW] at b;exact A2g na nb xs ys a _ (Fp (by omega)) (Fp (by omega)) d b
theorem NO(hx:B9 xs)(hy:B9 ys)(h1:F xs<1048576)(h2:F ys<1048576):T 95 [Ao [W na,sL A xs],Ao [W nb,sL A ys]] (M (v na xs+v nb ys)):=by
 have n:=Ct xs;have p:=Ct ys;have c1:=Hk hx;have g:=Hk hy;have m1:=Fp (xs:=xs) (by omega);have k:=Fp (xs:=ys) (by omega);have m:=Sg c1 g (by omega);by_cases hn:na=nb
 ·subst hn;obtain⟨a,f,c,j,d⟩:=uP c1.1 g.1 (by omega) (by omega);have b:=HM (neg:=na) f (by omega);have e:v na a=v na xs+v na ys:=by
   unfold v;rw[c,Fz,Fz];cases na <;> simp;omega
  rw[e] at b;exact Anl na na xs ys a _ (by simp) m1 k d b
 ·have hb:nb = !na:=by cases na <;> cases nb <;> simp at hn |-
  by_cases hc:DE (An (Af xs)) (An (Af ys))>=0
  ·have i:An (Af ys)<=An (Af xs):=by unfold DE at hc;split at hc <;> (try split at hc) <;> omega
   have l:F (Af ys)<=F (Af xs):=NC g (Ano i (EP c1.1));obtain⟨a,f,c,j,d⟩:=Yg c1.1 g.1 l i (by omega);have b:=HM (neg:=na) f (by omega);have e:v na a=v na xs+v nb ys:=by
    unfold v;rw[c,Fz,Fz,hb];cases na <;> simp <;> omega
   rw[e] at b;exact Anm na nb xs ys a _ _ (by rw[hb];cases na <;> rfl) (by simpa using hc) m1 k m d b
  ·have i:An (Af xs)<=An (Af ys):=by unfold DE at hc;split at hc <;> (try split at hc) <;> omega
   have l:F (Af xs)<=F (Af ys):=NC c1 (Ano i (EP g.1));obtain⟨a,f,c,j,d⟩:=Yg g.1 c1.1 l i (by omega);have b:=HM (neg:=nb) f (by omega);have e:v nb a=v na xs+v nb ys:=by
    unfold v;rw[c,Fz,Fz,hb];cases na <;> simp <;> omega
   rw[e] at b;exact Ann na nb xs ys a _ _ (by rw[hb];cases na <;> rfl) (by simpa using hc) m1 k m d b
theorem Yh(hx:B9 xs)(hy:B9 ys)(h1:F xs<1048576)(h2:F ys<1048576):T 129 [Ao [W na,sL A xs],Ao [W nb,sL A ys]] (M (v na xs-v nb ys)):=by
 have hn:=Th (neg:=nb) hy (by omega);have q:F (o (I (-(v nb ys))))<1048576:=by rw[Int.natAbs_neg];exact Ey (Gc hy) h2
 have h:=NO (na:=na) (nb:=decide (-(v nb ys)<0)) hx (CB (I (-(v nb ys)))) h1 q;rw[GT] at h;exact A2h na nb xs ys _ _ hn h
end
def TBD:Dd:=TBC
theorem NP:CT DP TBD:=D8
theorem A2i{q c:Int}{s:Nat}(f:0<=q)(hs:q*2^s<18446744073709551616)(d:s<=64)(hc:0<=c/\c<2^s) :
  Q R ((Aj (A5 .u64) (q*2^s) ||| Aj (A5 .u64) c).toNat)=q*2^s+c:=by
 obtain⟨a,rfl⟩:∃ a:Nat,q=a:=⟨q.toNat,by omega⟩;obtain⟨b,rfl⟩:∃ b:Nat,c=b:=⟨c.toNat,by omega⟩;have e:(a:Int)*2^s=((a*2^s:Nat):Int):=by rw[Eg,Ea];rfl
 have hb:b<2^s:=by
  have:(b:Int)<((2^s:Nat):Int):=by rw[Ea];exact hc.2
  omega
 have h:2^s<=2^64:=B_ (by decide) d;have i:2^64=18446744073709551616:=by decide
 rw[e] at hs |-;show Q R ((Aj 64 ((a*2^s:Nat):Int) ||| Aj 64 (b:Int)).toNat)=_;rw[yQ,Nh,Nh,LF,LF,Hc (by omega),Hc (by omega),Du a,<- ABp hb,Du (2^s) a,Cz];have j:a*2^s+b<18446744073709551616:=by
  have hd:a*2^s+2^s<=2^64:=by
   have k:2^64=2^(64-s)*2^s:=by rw[<- Dw];congr 1;omega
   have h1:a<2^(64-s):=by
    rcases CN a (2^(64-s)) with g | g
    ·exact g
    ·have:=Bf (2^s) g;omega
   have h2:=Bf (2^s) (show a+1<=2^(64-s) by omega);rw[DU,Gi] at h2;omega
  omega
 omega
theorem CA(n:Nat):(0:Int)<2^n:=FP (by decide)
theorem Iq{a b:Nat}(h:a<=b):(2:Int)^a<=2^b:=by
 have h1:2^a<=2^b:=B_ (by decide) h;have e:∀ n:Nat,(2:Int)^n=((2^n:Nat):Int):=fun n=>by rw[Ea];rfl
 rw[e,e];omega
theorem Qq(n:Nat):(4294967296:Int)^n=2^(32*n):=by
 rw[yS];rfl
theorem K2(n:Nat):(2:Int)^n=4294967296^(n / 32)*2^(n % 32):=by
 rw[Qq,<- Cc,yO]
def Aki:ICode:=a Azd 90 1012
section
variable(neg:Bool)(xs:G)(n:Nat)(cs:AK)(c s:Int)(a:G)(i:Int)
def Yi:Az:=L 2 (AH [W neg,sL A xs]::L 1 (AH [W false,P 0 []]::Ak 1 n cs::C (J U c)::C (J R s)::C (sL A a)::N i::L 41 []))
theorem ADh(c1:E (i<F a)=true)(b:0<=i/\i<F a)(e:¬ s<0)(f:n+1<=35184372088832):Z Aki (Yi neg xs n cs c s a i) .norm (Yi neg xs (n+1) (cs++([J U (Q U (Q R ((Aj (A5 .u64) (Q R (Q R (H a (Y i) 0)*2^(min (Y s) (A5 .u64)))) ||| Aj (A5 .u64) (Q R c)).toNat)))]:AK)) (Q U (d (Q R ((Aj (A5 .u64) (Q R (Q R (H a (Y i) 0)*2^(min (Y s) (A5 .u64)))) ||| Aj (A5 .u64) (Q R c)).toNat)) (2^(min (Y 32) (A5 .u64))))) s a (Q X (i+1))):=Ab NP [bT,.v (J U (H a (Y i) 0))] [2,4,5,6,7,8,9] (GZ c1 b (B7 b) e (show F ([J U (Q U (Q R ((Aj (A5 .u64) (Q R (Q R (H a (Y i) 0)*2^(min (Y s) (A5 .u64)))) ||| Aj (A5 .u64) (Q R c)).toNat)))]:AK)=1*1 from rfl) f K9)
theorem ADi(c1:E (i<F a)=false):Z Aki (Yi neg xs n cs c s a i) xZ0 (Yi neg xs n cs c s a i):=Ab NP [bF] [2,4,5,6,7,8,9] (BO c1)
end
theorem ADj(neg:Bool)(xs:G)(a:Int)(n:Nat)(cs:AK)(c i v:Int)(b:0<=Q X (AF a 32)/\Q X (AF a 32)<=1048576)(d:T 99 [sL A xs] (Ae 1 (F (Af xs)) (A (Af xs))))(e:Z (.loop Aki) (Yi neg xs (Y (Q X (AF a 32))) (C_ [J U 0] (Y (Q X (AF a 32)))) 0 (Q R (Bl a 32)) (Af xs) 0) xZ0 (Yi neg xs n cs c (Q R (Bl a 32)) (Af xs) i))(f:n+1<=35184372088832)(g:T 98 [W neg,P (n+1) (cs++([J U c]:AK))] (Dk v)):T 84 [Ao [W neg,sL A xs],J X a] (Dk v):=CQ Azd (L 4 (.bxl 50::L 45 (.agn (.st (E (v<0))) 1 (F (o (I v))) (A (o (I v)))::[]))) (As (As (As (As (AA (Ag (Ab NP [.r (Ae 1 (F (Af xs)) (A (Af xs)))] [2,4,5,6,7,8,9] (FJ H7 b H7 d)) (Ag (A7 e) (Ab NP [.r (Dk v)] [4,50] (Gy (show F ([J U c]:AK)=1*1 from rfl) f g)))))))))
theorem uQ{x c:Int}{s:Nat}(hx:0<=x/\x<4294967296)(hs:s<32)(hc:0<=c/\c<2^s) :
  Q R ((Aj (A5 .u64) (Q R (Q R x*2^(min (Y s) (A5 .u64)))) ||| Aj (A5 .u64) (Q R c)).toNat)=x*2^s+c
  /\ 0<=(x*2^s+c) / 4294967296/\(x*2^s+c) / 4294967296<2^s/\(2:Int)^s<=2147483648:=by
 have hp:=CA s;have a:(2:Int)^s<=2147483648:=Iq (show s<=31 by omega);have g:x*2^s<=4294967295*2^s:=Ap (by omega) (by omega);have h:0<=x*2^s:=A8 hx.1 (by omega);have b:min (Y s) (A5 .u64)=s:=by
  rw[Aa];show min s 64=s;omega
 have d:Q R x=x:=by rw[Cz];omega
 have e:Q R (x*2^s)=x*2^s:=by rw[Cz];omega
 have f:Q R c=c:=by rw[Cz];omega
 refine⟨?_,by omega,by omega,a⟩;rw[b,d,e,f];exact A2i hx.1 (by omega) (by omega) hc
theorem A2j{neg:Bool}{xs e pre:G}(n:B9 e){s:Nat}(hs:s<32)(J:F pre+F e<=1048576):∀ (r i:Nat) (f:G) (c:Int),i+r=F e->F f=i->B9 f->0<=c/\c<2^s ->
  ∃ (g:G) (h:Int),B9 g/\F g=F e/\(0<=h/\h<2^s)/\An g+4294967296^F e*h=An f+4294967296^i*(c+2^s*An (e.drop i)) /\
   Z (.loop Aki) (Yi neg xs (F pre+i) (A (pre++f)) c (s:Nat) e (i:Nat)) xZ0 (Yi neg xs (F pre+F e) (A (pre++g)) h (s:Nat) e (F e:Nat)):=by
 intro r;induction r with
 | zero =>
  intro i f c hi j l hc;have o:An (e.drop i)=0:=EX (by omega);have hi':i=F e:=by omega
  refine⟨f,c,l,by omega,hc,by rw[o,hi'];simp,?_⟩;rw[hi'];exact Aq (ADi neg xs _ _ c (s:Nat) e (F e:Nat) (by simp))
 | succ r q =>
  intro i f c hi j l hc;have t:=Bn n i;obtain⟨u,v,w,K⟩:=uQ t hs hc;have x:Q X (i+1)=((i+1:Nat):Int):=wrz
  have k:=ADh neg xs (F pre+i) (A (pre++f)) c (s:Nat) e (i:Nat) (by simp;omega) (by omega) (by omega) (by omega);have z:Q U ((H e i 0*2^s+c) / 4294967296)=(H e i 0*2^s+c) / 4294967296:=by rw[Fb];omega
  simp only[Aa i,u,uO,z,Fb (H e i 0*2^s+c),x,JP,Iu] at k;obtain⟨g,h,B,C,D,E,I⟩:=q (i+1) (f++[(H e i 0*2^s+c) % 4294967296]) ((H e i 0*2^s+c) / 4294967296) (by omega) (by simp[j]) (P8 l (by omega)) ⟨v,w⟩;refine⟨g,h,B,C,D,?_,Bk k I⟩;rw[E,NN,j,D4 e i,AD];have hd:=X6 (H e i 0*2^s+c) 4294967296;generalize (H e i 0*2^s+c) % 4294967296=m at *
  generalize (H e i 0*2^s+c) / 4294967296=d at *
  generalize (4294967296:Int)^i=p at *
  generalize An (e.drop (i+1))=b at *
  generalize (2:Int)^s=a at *
  generalize H e i 0=y at *
  have:c+a*(y+4294967296*b)=m+4294967296*(d+a*b):=by
   have:c+a*(y+4294967296*b)=(y*a+c)+4294967296*(a*b):=by grind
   omega
  rw[this];grind
theorem jD{neg:Bool}{xs b:G}{t:Int}(h:An b=t*An xs):v neg b=v neg xs*t:=by
 unfold v;rw[h];generalize An xs=a;cases neg <;> simp <;> grind
theorem NQ{neg:Bool}{xs:G}(l:B9 xs)(n:Nat)(w:n / 32+F xs+1<=1048576):T 84 [Ao [W neg,sL A xs],J X (n:Nat)] (Dk (v neg xs*2^n)):=by
 have y:=Ct xs;have h:Q X (AF (n:Int) 32)=((n / 32:Nat):Int):=by
  rw[Cu (by omega),wqz];omega
 have m:Q R (Bl (n:Int) 32)=((n % 32:Nat):Int):=by
  rw[BY (by omega),Cz];omega
 obtain⟨d,e,o,i,z,j,k⟩:=A2j (neg:=neg) (xs:=xs) (pre:=AI (n / 32) 0) (Ti l) (s:=n % 32) (by omega) (by simp;omega) (F (Af xs)) 0 [] 0 (by omega) rfl (fun x hx=>by cases hx) ⟨by omega,CA _⟩;have B:(2:Int)^(n % 32)<=2147483648:=Iq (show n % 32<=31 by omega);simp only[GJ,Ld,Gb,An,DC,DA,D0,E7] at j k;have r:B9 (AI (n / 32) 0++d++[e]):=by
  refine P8 ?_ (by omega);intro x hx;rcases BD.1 hx with g | g
  ·exact Gp _ x g
  ·exact o x g
 have t:F (AI (n / 32) 0++d++[e])=n / 32+F (Af xs)+1:=by simp[i];omega
 have f:=HM (neg:=neg) r (by omega);have u:An (AI (n / 32) 0++d++[e])=2^n*An xs:=by
  rw[NN,H',FX,K2 n,B0,GJ,Cc,i];rw[Fz] at j;generalize (4294967296:Int)^(n / 32)=p at *
  generalize (4294967296:Int)^F (Af xs)=q at *
  generalize (2:Int)^(n % 32)=a at *
  generalize An xs=b at *
  generalize An d=c at *
  grind
 rw[jD u] at f;unfold sL at f;rw[t] at f;refine ADj neg xs (n:Nat) (n / 32+F (Af xs)) (A (AI (n / 32) 0++d)) e (F (Af xs):Nat) _ (by rw[h];omega) (Fp (by omega)) (by rw[h,m,Aa,G4];exact k) (by omega) (by rw[JP];exact f)
def TBE:Dd:=TBD
theorem x:CT DP TBE:=NP
def TQ0:Dd:=[]
theorem Df:CT DP TQ0:=CT.nil _
def Xb:ICode:=a mO 94 56
section
variable(neg:Bool)(a:Nat)(cs:AK)(n:Int)
def M7:Az:=L 1 (AH [W neg,P a cs]::C (W false)::Ak 1 0 []::N n::L 26 [])
theorem A2k(x:Int)(c1:E (n>0)=true)(b:(x==0)=true)(c:0<=Q X (n-1)/\Q X (n-1)<(a:Int))(d:BQ (AL (Y (Q X (n-1))*1) cs) 0 1 true=some (J U x)):Z Xb (M7 neg a cs n) .norm (M7 neg a cs (Q X (n-1))):=e Df 300 [bT,.v (J U x),bT] sG (FJ c1 c d b) (by kernel_rfl)
theorem A2l(x:Int)(c1:E (n>0)=true)(b:(x==0)=false)(c:0<=Q X (n-1)/\Q X (n-1)<(a:Int))(d:BQ (AL (Y (Q X (n-1))*1) cs) 0 1 true=some (J U x)):Z Xb (M7 neg a cs n) xZ0 (M7 neg a cs n):=e Df 300 [bT,.v (J U x),bF] sG (FJ c1 c d b) (by kernel_rfl)
theorem A2m(c1:E (n>0)=false):Z Xb (M7 neg a cs n) xZ0 (M7 neg a cs n):=e Df 300 [bF,bF] sG (DH c1 F9) (by kernel_rfl)
end
theorem jE(neg:Bool)(xs:G)(d:F xs<=1048576):∀ m,m<=F xs->Z (.loop Xb) (M7 neg (F xs) (A xs) m) xZ0 (M7 neg (F xs) (A xs) (p xs m)):=by
 intro m;induction m with
 | zero =>
  intro _;exact Aq (A2m neg (F xs) (A xs) ((0:Nat)) (by simp))
 | succ m c =>
  intro e;have a:Q X ((m+1:Nat)-1)=(m:Int):=wrz
  have hx:=Fo (xs:=xs) (i:=m) (by omega);simp only[p];by_cases b:H xs m 0=0
  ·rw[Ar b];have h1:=A2k neg (F xs) (A xs) ((m+1:Nat)) (H xs m 0) (by simp) (by rw[b];rfl) (by rw[a];omega) (by rw[a,Aa];exact hx);rw[a] at h1;exact Bk h1 (c (by omega))
  ·rw[Aw b];exact Aq (A2l neg (F xs) (A xs) ((m+1:Nat)) (H xs m 0) (by simp) (by simpa using b) (by rw[a];omega) (by rw[a,Aa];exact hx))
theorem fB(xs:G)(a:Z (.loop Xb) (M7 true (F xs) (A xs) (F xs)) xZ0 (M7 true (F xs) (A xs) (p xs (F xs))))(b:0<=Y (p xs (F xs))/\Y (p xs (F xs))<=F xs/\F xs<=F xs/\(false=true->true=true)):T 143 [Ao [W true,sL A xs]] (A3 [W (E ((p xs (F xs):Int)>0)),P ((Y (p xs (F xs)))-0) (BF (((Y (p xs (F xs)))-0)*1) (AL (0*1) (A xs)))]):=CQ mO (L 1 (AH [W true,sL A xs]::C (W (E ((p xs (F xs):Int)>0)))::C (P ((Y (p xs (F xs)))-0) (BF (((Y (p xs (F xs)))-0)*1) (AL (0*1) (A xs))))::N (p xs (F xs):Int)::L 16 (.ptr 1 0::C (W true)::C (W true)::N (p xs (F xs):Int)::C (W (E ((p xs (F xs):Int)>0)))::C (W (E ((p xs (F xs):Int)>0)))::.ptr 1 1::C (sL A xs)::N (p xs (F xs):Int)::C (P ((Y (p xs (F xs)))-0) (BF (((Y (p xs (F xs)))-0)*1) (AL (0*1) (A xs))))::[]))) (Ag (e (t:=(C (Ao [W true,sL A xs])::AH [W true,sL A xs]::C (W false)::Ak 1 0 []::L 27 [])) Df 300 [] [0,1,2,3] a0) (Ag (e (t:=L 1 (AH [W true,sL A xs]::C (W false)::Ak 1 0 []::N (F xs:Int)::L 26 [])) Df 300 [] sG a0) (Ag (A7 a) (e (t:=L 1 (AH [W true,sL A xs]::C (W (E ((p xs (F xs):Int)>0)))::C (P ((Y (p xs (F xs)))-0) (BF (((Y (p xs (F xs)))-0)*1) (AL (0*1) (A xs))))::N (p xs (F xs):Int)::L 16 (.ptr 1 0::C (W true)::C (W true)::N (p xs (F xs):Int)::C (W (E ((p xs (F xs):Int)>0)))::C (W (E ((p xs (F xs):Int)>0)))::.ptr 1 1::f xs::N (p xs (F xs):Int)::C (P ((Y (p xs (F xs)))-0) (BF (((Y (p xs (F xs)))-0)*1) (AL (0*1) (A xs))))::[]))) (ex := .ret) Df 300 [bT] AGu (Gy I6 (show 0<=(p xs (F xs):Int) from (JI _)) b)))))
theorem aX(xs:G)(a:Z (.loop Xb) (M7 false (F xs) (A xs) (F xs)) xZ0 (M7 false (F xs) (A xs) (p xs (F xs))))(b:0<=Y (p xs (F xs))/\Y (p xs (F xs))<=F xs/\F xs<=F xs/\(false=true->true=true)):T 143 [Ao [W false,sL A xs]] (A3 [W false,P ((Y (p xs (F xs)))-0) (BF (((Y (p xs (F xs)))-0)*1) (AL (0*1) (A xs)))]):=CQ mO (L 1 (AH [W false,sL A xs]::C (W false)::C (P ((Y (p xs (F xs)))-0) (BF (((Y (p xs (F xs)))-0)*1) (AL (0*1) (A xs))))::N (p xs (F xs):Int)::L 16 (.ptr 1 0::C (W false)::C (W false)::C (.undef)::C (.undef)::C (W false)::.ptr 1 1::C (sL A xs)::N (p xs (F xs):Int)::C (P ((Y (p xs (F xs)))-0) (BF (((Y (p xs (F xs)))-0)*1) (AL (0*1) (A xs))))::[]))) (Ag (e (t:=(C (Ao [W false,sL A xs])::AH [W false,sL A xs]::C (W false)::Ak 1 0 []::L 27 [])) Df 300 [] [0,1,2,3] a0) (Ag (e (t:=L 1 (AH [W false,sL A xs]::C (W false)::Ak 1 0 []::N (F xs:Int)::L 26 [])) Df 300 [] sG a0) (Ag (A7 a) (e (t:=L 1 (AH [W false,sL A xs]::C (W false)::C (P ((Y (p xs (F xs)))-0) (BF (((Y (p xs (F xs)))-0)*1) (AL (0*1) (A xs))))::N (p xs (F xs):Int)::L 16 (.ptr 1 0::C (W false)::C (W false)::C (.undef)::C (.undef)::C (W false)::.ptr 1 1::f xs::N (p xs (F xs):Int)::C (P ((Y (p xs (F xs)))-0) (BF (((Y (p xs (F xs)))-0)*1) (AL (0*1) (A xs))))::[]))) (ex := .ret) Df 300 [bF] AGu (Gy F9 (show 0<=(p xs (F xs):Int) from (JI _)) b)))))
theorem uR(xs:G):(Y (p xs (F xs))-0)=F (Af xs)/\BF ((Y (p xs (F xs))-0)*1) (AL (0*1) (A xs))=A (Af xs)/\(0<=Y (p xs (F xs))/\Y (p xs (F xs))<=F xs/\F xs<=F xs/\(false=true->true=true)):=by
 have a:=Mi xs (F xs);rw[Aa];refine⟨by simp[Af];omega,by simp[A,Af,Od],by omega,a,A2 _,fun h=>by cases h⟩
theorem EE{neg:Bool}{xs:G}(c:B9 xs)(d:F xs<=1048576):T 143 [Ao [W neg,sL A xs]]
  (A3 [W (E (v neg xs<0)),sL A (o (I (v neg xs)))]):=by
 obtain⟨a,e,f⟩:=uR xs;have b:=SU (neg:=neg) c;have hn:=Ajw (neg:=neg) c;have g:F (Af xs)=p xs (F xs):=by rw[<- a,Aa];rfl
 cases neg with
 | true =>
  have h:=fB xs (jE true xs d (F xs) (A2 _)) f;rw[e,a,b] at h;have i:decide ((p xs (F xs):Int)>0)=decide (v true xs<0):=by
   rw[<- hn,ABe,<- b,g,decide_eq_decide];omega
  rw[i] at h;exact h
 | false =>
  have h:=aX xs (jE false xs d (F xs) (A2 _)) f;rw[e,a,b] at h;rw[QV] at hn;rw[<- hn];exact h
def Xc:ICode:=a mR 94 56
section
variable(neg:Bool)(a:Nat)(cs:AK)(n:Int)
def M8:Az:=C (W neg)::C (P a cs)::L 2 (AH [W false,P 0 []]::N n::L 23 [])
theorem A2n(x:Int)(c1:E (n>0)=true)(b:(x==0)=true)(c:0<=Q X (n-1)/\Q X (n-1)<(a:Int))(d:BQ (AL (Y (Q X (n-1))*1) cs) 0 1 true=some (J U x)):Z Xc (M8 neg a cs n) .norm (M8 neg a cs (Q X (n-1))):=e Df 300 [bT,.v (J U x),bT] KH (FJ c1 c d b) (by kernel_rfl)
theorem A2o(x:Int)(c1:E (n>0)=true)(b:(x==0)=false)(c:0<=Q X (n-1)/\Q X (n-1)<(a:Int))(d:BQ (AL (Y (Q X (n-1))*1) cs) 0 1 true=some (J U x)):Z Xc (M8 neg a cs n) xZ0 (M8 neg a cs n):=e Df 300 [bT,.v (J U x),bF] KH (FJ c1 c d b) (by kernel_rfl)
theorem A2p(c1:E (n>0)=false):Z Xc (M8 neg a cs n) xZ0 (M8 neg a cs n):=e Df 300 [bF,bF] KH (DH c1 F9) (by kernel_rfl)
end
section
variable(neg:Bool)(xs:G)
theorem Anp(h:F xs<=1048576):∀ m,m<=F xs->Z (.loop Xc) (M8 neg (F xs) (A xs) m) xZ0 (M8 neg (F xs) (A xs) (p xs m)):=by
 intro m;induction m with
 | zero =>
  intro _;exact Aq (A2p neg (F xs) (A xs) ((0:Nat)) (by simp))
 | succ m d =>
  intro j;have a:Q X ((m+1:Nat)-1)=(m:Int):=wrz
  have hx:=Fo (xs:=xs) (i:=m) (by omega);simp only[p];by_cases b:H xs m 0=0
  ·rw[Ar b];have h1:=A2n neg (F xs) (A xs) ((m+1:Nat)) (H xs m 0) (by simp) (by rw[b];rfl) (by rw[a];omega) (by rw[a,Aa];exact hx);rw[a] at h1;exact Bk h1 (d (by omega))
  ·rw[Aw b];exact Aq (A2o neg (F xs) (A xs) ((m+1:Nat)) (H xs m 0) (by simp) (by simpa using b) (by rw[a];omega) (by rw[a,Aa];exact hx))
theorem Acu(hz:((p xs (F xs):Int)==0)=true)(c:Z (.loop Xc) (M8 neg (F xs) (A xs) (F xs)) xZ0 (M8 neg (F xs) (A xs) (p xs (F xs)))):T 152 [W neg,sL A xs] (Ao [W false,P 0 []]):=CQ mR (C (W neg)::C (sL A xs)::L 2 (AH [W false,P 0 []]::N (p xs (F xs):Int)::L 14 (N (p xs (F xs):Int)::C (W ((p xs (F xs):Int)==0))::C (Ao [W false,P 0 []])::L 6 []))) (Ag (e (t:=(C (W neg)::f xs::L 2 (AH [W false,P 0 []]::L 24 []))) Df 300 [] TL a0) (Ag (e (t:=(C (W neg)::f xs::L 2 (AH [W false,P 0 []]::N (F xs:Int)::L 23 []))) Df 300 [] KH a0) (Ag (A7 c) (e (t:=(C (W neg)::f xs::L 2 (AH [W false,P 0 []]::N (p xs (F xs):Int)::L 14 (N (p xs (F xs):Int)::C (W ((p xs (F xs):Int)==0))::C (Ao [W false,P 0 []])::L 6 [])))) (ex := .ret) Df 300 [bT] [0,1,4,5,20,21,22] (BO hz)))))
theorem Acv(hz:((p xs (F xs):Int)==0)=false)(c:Z (.loop Xc) (M8 neg (F xs) (A xs) (F xs)) xZ0 (M8 neg (F xs) (A xs) (p xs (F xs))))(g:0<=Y (p xs (F xs))/\Y (p xs (F xs))<=Y (p xs (F xs))/\Y (p xs (F xs))<=F xs/\(true=true->true=true)):T 152 [W neg,sL A xs] (Ao [W neg,P ((Y (p xs (F xs)))-0) (BF (((Y (p xs (F xs)))-0)*1) (AL (0*1) (A xs)))]):=CQ mR (C (W neg)::C (sL A xs)::L 2 (AH [W neg,P ((Y (p xs (F xs)))-0) (BF (((Y (p xs (F xs)))-0)*1) (AL (0*1) (A xs)))]::N (p xs (F xs):Int)::L 14 (N (p xs (F xs):Int)::C (W ((p xs (F xs):Int)==0))::L 1 (C (W neg)::C (sL A xs)::N (p xs (F xs):Int)::N (p xs (F xs):Int)::C (P ((Y (p xs (F xs)))-0) (BF (((Y (p xs (F xs)))-0)*1) (AL (0*1) (A xs))))::C (Ao [W neg,P ((Y (p xs (F xs)))-0) (BF (((Y (p xs (F xs)))-0)*1) (AL (0*1) (A xs)))])::[])))) (Ag (e (t:=(C (W neg)::f xs::L 2 (AH [W false,P 0 []]::L 24 []))) Df 300 [] TL a0) (Ag (e (t:=(C (W neg)::f xs::L 2 (AH [W false,P 0 []]::N (F xs:Int)::L 23 []))) Df 300 [] KH a0) (Ag (A7 c) (e (t:=(C (W neg)::f xs::L 2 (AH [W neg,P ((Y (p xs (F xs)))-0) (BF (((Y (p xs (F xs)))-0)*1) (AL (0*1) (A xs)))]::N (p xs (F xs):Int)::L 14 (N (p xs (F xs):Int)::C (W ((p xs (F xs):Int)==0))::L 1 (C (W neg)::f xs::N (p xs (F xs):Int)::N (p xs (F xs):Int)::C (P ((Y (p xs (F xs)))-0) (BF (((Y (p xs (F xs)))-0)*1) (AL (0*1) (A xs))))::C (Ao [W neg,P ((Y (p xs (F xs)))-0) (BF (((Y (p xs (F xs)))-0)*1) (AL (0*1) (A xs)))])::[]))))) (ex := .ret) Df 300 [bF] [0,1,4,5,20,21,23,24,25,26,27,28] (FJ hz (show 0<=(p xs (F xs):Int) from (JI _)) (show 0<=(p xs (F xs):Int) from (JI _)) g)))))
end
theorem Ge{neg:Bool}{xs:G}(b:B9 xs)(i:F xs<=1048576):T 152 [W neg,sL A xs] (M (v neg xs)):=by
 obtain⟨c,j,d⟩:=uR xs;have a:=SU (neg:=neg) b;have hn:=Ajw (neg:=neg) b;have e:F (Af xs)=p xs (F xs):=by rw[<- c,Aa];rfl
 have f:=Anp neg xs i (F xs) (A2 _);by_cases g:p xs (F xs)=0
 ·have h:=Acu neg xs (by rw[g];rfl) f;have hz:F (o (I (v neg xs)))=0:=by rw[<- a,e,g]
  have hv:v neg xs=0:=by have:=(Em _).1 hz;omega
  rw[hv];exact h
 ·have h:=Acv neg xs (by rw[C3];omega) f ⟨d.1,A2 _,d.2.1,fun _=>rfl⟩;rw[j,c,a] at h;have hp:decide (0<F (o (I (v neg xs))))=true:=by rw[<- a,e];simp;omega
  rw[hp,Ob] at hn;rw[M,<- hn];exact h
theorem Acw(n:Int)(c1:decide (n<0)=true)(a:T 152 [W (E (n<0)),P 2 [J U (Q U (Q R (0-(Q R n)))),J U (Q U (d (Q R (0-(Q R n))) (2^(min (Y 32) (A5 .u64)))))]] (Ao [W (E (n<0)),sL A (o (I n))])):T 132 [J X n] (Ao [W (E (n<0)),sL A (o (I n))]):=Cl (ps:=[E (n<0)=true,¬ (32:Int)<0,T 152 [W (E (n<0)),P 2 [J U (Q U (Q R (0-(Q R n)))),J U (Q U (d (Q R (0-(Q R n))) (2^(min (Y 32) (A5 .u64)))))]] (Ao [W (E (n<0)),sL A (o (I n))])]) Df rfl 300 rfl [bT,.r (Ao [W (E (n<0)),sL A (o (I n))])] (by kernel_rfl) ⟨c1,(by decide),a,trivial⟩
theorem Acx(n:Int)(c1:decide (n<0)=false)(a:T 152 [W (E (n<0)),P 2 [J U (Q U (Q R n)),J U (Q U (d (Q R n) (2^(min (Y 32) (A5 .u64)))))]] (Ao [W (E (n<0)),sL A (o (I n))])):T 132 [J X n] (Ao [W (E (n<0)),sL A (o (I n))]):=Cl (ps:=[E (n<0)=false,¬ (32:Int)<0,T 152 [W (E (n<0)),P 2 [J U (Q U (Q R n)),J U (Q U (d (Q R n) (2^(min (Y 32) (A5 .u64)))))]] (Ao [W (E (n<0)),sL A (o (I n))])]) Df rfl 300 rfl [bF,.r (Ao [W (E (n<0)),sL A (o (I n))])] (by kernel_rfl) ⟨c1,(by decide),a,trivial⟩
theorem aY{n:Int}(hn : -9223372036854775808<=n/\n<=9223372036854775807):T 132 [J X n] (M n):=by
 cases c1:decide (n<0) with
 | true =>
  have f:n<0:=by simpa using c1
  have a:(Q R (0-Q R n)) = -n:=by rw[Cz,Cz];omega
  obtain⟨b,c⟩:=P7 (u:=Q R (0-Q R n)) (by rw[a];omega);refine Acw n c1 ?_;have:=Ge (neg:=true) b (by simp);have e:v true [Q U (Q R (0-Q R n)),Q U (d (Q R (0-Q R n)) (2^(min (Y 32) (A5 .u64))))]=n:=by
   unfold v;rw[c,Ar rfl,a];omega
  rw[e,M,c1] at this;rw[c1];exact this
 | false =>
  have f:¬ n<0:=by simpa using c1
  have a:Q R n=n:=by rw[Cz];omega
  obtain⟨b,c⟩:=P7 (u:=Q R n) (by rw[a];omega);refine Acx n c1 ?_;have:=Ge (neg:=false) b (by simp);have e:v false [Q U (Q R n),Q U (d (Q R n) (2^(min (Y 32) (A5 .u64))))]=n:=by
   unfold v;rw[Aw (by decide),c,a]
  rw[e,M,c1] at this;rw[c1];exact this
section
variable(neg:Bool)(xs:G)(a r:Int)
theorem A2q(h1:T 143 [Ao [W neg,sL A xs]] (A3 [W (E (a<0)),sL A (o (I a))]))(h2:T 152 [W (E (a<0)),sL A (o (I a))] (Ao [W (E (r<0)),sL A (o (I r))]))(b:F (A (o (I a)))=F (o (I a))*1)(c:F (o (I a))<=1048576):T 113 [Ao [W neg,sL A xs]] (Ao [W (E (r<0)),sL A (o (I r))]):=Cl (ps:=[T 143 [Ao [W neg,sL A xs]] (A3 [W (E (a<0)),sL A (o (I a))]),F (A (o (I a)))=F (o (I a))*1,F (o (I a))<=35184372088832,T 152 [W (E (a<0)),sL A (o (I a))] (Ao [W (E (r<0)),sL A (o (I r))])]) Df rfl 300 rfl [.r (A3 [W (E (a<0)),sL A (o (I a))]),.r (Ao [W (E (r<0)),sL A (o (I r))])] (by kernel_rfl) ⟨h1,b,B6 c (by decide),h2,trivial⟩
theorem A2r(h1:T 143 [Ao [W neg,sL A xs]] (A3 [W (E (a<0)),sL A (o (I a))]))(h2:T 152 [W (!(decide (a<0))),sL A (o (I a))] (Ao [W (E (r<0)),sL A (o (I r))]))(b:F (A (o (I a)))=F (o (I a))*1)(c:F (o (I a))<=1048576):T 131 [Ao [W neg,sL A xs]] (Ao [W (E (r<0)),sL A (o (I r))]):=Cl (ps:=[T 143 [Ao [W neg,sL A xs]] (A3 [W (E (a<0)),sL A (o (I a))]),F (A (o (I a)))=F (o (I a))*1,F (o (I a))<=35184372088832,T 152 [W (!(decide (a<0))),sL A (o (I a))] (Ao [W (E (r<0)),sL A (o (I r))])]) Df rfl 300 rfl [.r (A3 [W (E (a<0)),sL A (o (I a))]),.r (Ao [W (E (r<0)),sL A (o (I r))])] (by kernel_rfl) ⟨h1,b,B6 c (by decide),h2,trivial⟩
end
theorem YV(xs:G):F (A xs)=F xs*1:=by rw [RO,H9]
theorem ADk(n:Int):v false (o (I n))=(I n:Int):=by unfold v;rw [Aw (by decide),Do]
theorem Akj(n:Int):v (!decide (n<0)) (o (I n)) = -n:=by
 unfold v;rw[Do];by_cases h:n<0 <;> simp[h] <;> omega
theorem NR{neg:Bool}{xs:G}(a:B9 xs)(b:F xs<=1048576):T 113 [Ao [W neg,sL A xs]] (M (v neg xs)):=by
 have c:F (o (I (v neg xs)))<=1048576:=B6 (Gc a) b;have h2:=Ge (neg:=decide (v neg xs<0)) (CB (I (v neg xs))) c;rw[GT] at h2;exact A2q neg xs (v neg xs) (v neg xs) (EE a b) h2 (YV _) c
theorem jF{neg:Bool}{xs:G}(a:B9 xs)(b:F xs<=1048576):T 131 [Ao [W neg,sL A xs]] (M (-(v neg xs))):=by
 have c:F (o (I (v neg xs)))<=1048576:=B6 (Gc a) b;have h2:=Ge (neg := !decide (v neg xs<0)) (CB (I (v neg xs))) c;rw[Akj] at h2;exact A2r neg xs (v neg xs) (-(v neg xs)) (EE a b) h2 (YV _) c
def YW(a:Int):AV :=
 match (F (o (I a)):Int)==0 with
 | true=>(J X 0)
 | false=>(match decide (a<0) with
 | true=>(J X (-1))
 | false=>J X 1)
theorem A2s(neg:Bool)(xs:G)(a:Int)(h1:T 143 [Ao [W neg,sL A xs]] (A3 [W (E (a<0)),sL A (o (I a))])):T 101 [Ao [W neg,sL A xs]] (YW a):=by
 unfold YW;cases c1:((F (o (I a)):Int)==0)
 ·cases b:(E (a<0))
  ·exact Cl (r := J X 1) (ps:=[T 143 [Ao [W neg,sL A xs]] (A3 [W (E (a<0)),sL A (o (I a))]),((F (o (I a)):Int)==0)=false,E (a<0)=false]) Df rfl 300 rfl [.r (A3 [W (E (a<0)),sL A (o (I a))]),bF,bF] (by kernel_rfl) ⟨h1,c1,b,trivial⟩
  ·exact Cl (r := J X (-1)) (ps:=[T 143 [Ao [W neg,sL A xs]] (A3 [W (E (a<0)),sL A (o (I a))]),((F (o (I a)):Int)==0)=false,E (a<0)=true]) Df rfl 300 rfl [.r (A3 [W (E (a<0)),sL A (o (I a))]),bF,bT] (by kernel_rfl) ⟨h1,c1,b,trivial⟩
 ·exact Cl (r := J X 0) (ps:=[T 143 [Ao [W neg,sL A xs]] (A3 [W (E (a<0)),sL A (o (I a))]),((F (o (I a)):Int)==0)=true]) Df rfl 300 rfl [.r (A3 [W (E (a<0)),sL A (o (I a))]),bT] (by kernel_rfl) ⟨h1,c1,trivial⟩
theorem Lz{neg:Bool}{xs:G}(a:B9 xs)(b:F xs<=1048576):T 101 [Ao [W neg,sL A xs]] (J X (B4 (v neg xs))):=by
 have h:=A2s neg xs (v neg xs) (EE a b);have e:YW (v neg xs) = J X (B4 (v neg xs)):=by
  unfold YW B4;have hz:=Em (I (v neg xs));by_cases c:v neg xs=0
  ·rw[c];rfl
  ·have d:((F (o (I (v neg xs))):Int)==0)=false:=by rw[C3];omega
   rw[d];by_cases h1:v neg xs<0
   ·simp[h1]
   ·have h2:0<v neg xs:=by omega
    simp[h1,h2]
 rw[<- e];exact h
theorem aZ{n:Int}(a:F (o (I n))<=1048576):T 101 [M n] (J X (B4 n)):=by
 have:=Lz (neg:=decide (n<0)) (CB (I n)) a;rwa [GT] at this
def TWA:Dd:=TQ0
theorem BI:CT DP TWA:=Df
def Sj:ICode:=a mQ 93 116
section
variable(a:Nat)(cs:AK)(M:Nat)(b:AK)
def J8(v i:Int):Az:=C (P a cs)::C (P M b)::L 2 (N v::N i::L 35 [])
theorem A2t(v i x y:Int)(c1:E (i>=0)=true)(c:(x != y)=true)(j:E (x<y)=true)(d:0<=i/\i<a)(f:BQ (AL (Y i*1) cs) 0 1 true=some (J U x))(g:0<=i/\i<M)(h:BQ (AL (Y i*1) b) 0 1 true=some (J U y))(k:0<=i/\i<a)(l:BQ (AL (Y i*1) cs) 0 1 true=some (J U x))(m:0<=i/\i<M)(n:BQ (AL (Y i*1) b) 0 1 true=some (J U y)):Z Sj (J8 a cs M b v i) .ret (J8 a cs M b (-1) i):=e BI 300 [bT,.v (J U x),.v (J U y),bT,.v (J U x),.v (J U y),bT] KH (IU c1 d f g h c k l m n j) (by kernel_rfl)
theorem A2u(v i x y:Int)(c1:E (i>=0)=true)(c:(x != y)=true)(j:E (x<y)=false)(d:0<=i/\i<a)(f:BQ (AL (Y i*1) cs) 0 1 true=some (J U x))(g:0<=i/\i<M)(h:BQ (AL (Y i*1) b) 0 1 true=some (J U y))(k:0<=i/\i<a)(l:BQ (AL (Y i*1) cs) 0 1 true=some (J U x))(m:0<=i/\i<M)(n:BQ (AL (Y i*1) b) 0 1 true=some (J U y)):Z Sj (J8 a cs M b v i) .ret (J8 a cs M b 1 i):=e BI 300 [bT,.v (J U x),.v (J U y),bT,.v (J U x),.v (J U y),bF] KH (IU c1 d f g h c k l m n j) (by kernel_rfl)
theorem A2v(v i x y:Int)(c1:E (i>=0)=true)(c:(x != y)=false)(d:0<=i/\i<a)(f:BQ (AL (Y i*1) cs) 0 1 true=some (J U x))(g:0<=i/\i<M)(h:BQ (AL (Y i*1) b) 0 1 true=some (J U y)):Z Sj (J8 a cs M b v i) .norm (J8 a cs M b v (Q X (i-1))):=e BI 300 [bT,.v (J U x),.v (J U y),bF] KH (Gm c1 d f g h c) (by kernel_rfl)
theorem A2w(v i:Int)(c1:E (i>=0)=false):Z Sj (J8 a cs M b v i) xZ0 (J8 a cs M b v i):=e BI 300 [bF] KH (BO c1) (by kernel_rfl)
end
theorem Anq(xs a:G)(g:F xs<=1048576)(k:F xs=F a):∀ m,m<=F xs ->
  (M5 xs a m=0/\Z (.loop Sj) (J8 (F xs) (A xs) (F a) (A a) 0 (m-1)) xZ0 (J8 (F xs) (A xs) (F a) (A a) 0 (-1))) \/
  (M5 xs a m ≠ 0/\∃ j,Z (.loop Sj) (J8 (F xs) (A xs) (F a) (A a) 0 (m-1)) .ret (J8 (F xs) (A xs) (F a) (A a) (M5 xs a m) j)):=by
 intro m;induction m with
 | zero =>
  intro _;left;refine⟨rfl,?_⟩;exact Aq (A2w (F xs) (A xs) (F a) (A a) 0 ((0:Nat)-1) (by simp))
 | succ m e =>
  intro l;have e0:((m+1:Nat):Int)-1=(m:Int):=by omega
  have f:Q X (m-1)=(m:Int)-1:=By (by omega) (by omega);have hx:=Fo (xs:=xs) (i:=m) (by omega);have hy:=Fo (xs:=a) (i:=m) (by omega);rw[e0];simp only[M5];by_cases h:H xs m 0=H a m 0
  ·rw[Ar h];have h1:=A2v (F xs) (A xs) (F a) (A a) 0 m (H xs m 0) (H a m 0) (by simp) (by simpa using h) (by omega) (by rw[Aa];exact hx) (by omega) (by rw[Aa];exact hy);rw[f] at h1;rcases e (by omega) with ⟨c,d⟩ | ⟨c,j,d⟩
   ·exact .inl ⟨c,Bk h1 d⟩
   ·exact .inr ⟨c,j,Bk h1 d⟩
  ·rw[Aw h];right;by_cases b:H xs m 0<H a m 0
   ·rw[Ar b];refine⟨by decide,(m:Int),?_⟩;exact Aq (A2t (F xs) (A xs) (F a) (A a) 0 m (H xs m 0) (H a m 0) (by simp) (by simpa using h) (by simpa using b) (by omega) (by rw[Aa];exact hx) (by omega) (by rw[Aa];exact hy) (by omega) (by rw[Aa];exact hx) (by omega) (by rw[Aa];exact hy))
   ·rw[Aw b];refine⟨by decide,(m:Int),?_⟩;exact Aq (A2u (F xs) (A xs) (F a) (A a) 0 m (H xs m 0) (H a m 0) (by simp) (by simpa using h) (by simpa using b) (by omega) (by rw[Aa];exact hx) (by omega) (by rw[Aa];exact hy) (by omega) (by rw[Aa];exact hx) (by omega) (by rw[Aa];exact hy))
section
variable(xs a:G)
theorem uS(h:((F xs:Int) != (F a:Int))=true)(h2:E ((F xs:Int)<(F a:Int))=true):T 151 [sL A xs,sL A a] (J X (-1)):=Cl (ps:=[((F xs:Int) != (F a:Int))=true,E ((F xs:Int)<(F a:Int))=true]) BI rfl 300 rfl [bT,bT] (by kernel_rfl) ⟨h,h2,trivial⟩
theorem uT(h:((F xs:Int) != (F a:Int))=true)(h2:E ((F xs:Int)<(F a:Int))=false):T 151 [sL A xs,sL A a] (J X 1):=Cl (ps:=[((F xs:Int) != (F a:Int))=true,E ((F xs:Int)<(F a:Int))=false]) BI rfl 300 rfl [bT,bF] (by kernel_rfl) ⟨h,h2,trivial⟩
theorem uU(h:((F xs:Int) != (F a:Int))=false)(b:Z (.loop Sj) (J8 (F xs) (A xs) (F a) (A a) 0 (Q X (F xs-1))) xZ0 (J8 (F xs) (A xs) (F a) (A a) 0 (-1))):T 151 [sL A xs,sL A a] (J X 0):=CQ mQ (C (sL A xs)::C (sL A a)::L 2 (N 0::N (-1)::L 35 [])) (Ag (e (t:=(f xs::f a::L 2 (N 0::L 36 []))) BI 300 [] TL a0) (Ag (e (t:=(f xs::f a::L 2 (N 0::L 1 (f xs::N (F xs:Int)::f a::N (F a:Int)::C (W ((F xs:Int) != (F a:Int)))::L 30 [])))) BI 300 [bF] Ajo (BO h)) (Ag (Ag (e (t:=(f xs::f a::L 2 (N 0::N (Q X (F xs-1))::L 35 []))) BI 300 [] KH a0) (A7 b)) (e (t:=(f xs::f a::L 2 (N 0::N (-1)::L 35 []))) (ex := .ret) BI 300 [] KH a0))))
theorem uV(r j:Int)(h:((F xs:Int) != (F a:Int))=false)(b:Z (.loop Sj) (J8 (F xs) (A xs) (F a) (A a) 0 (Q X (F xs-1))) .ret (J8 (F xs) (A xs) (F a) (A a) r j)):T 151 [sL A xs,sL A a] (J X r):=CQ mQ (C (sL A xs)::C (sL A a)::L 2 (N r::N j::L 35 [])) (Ag (e (t:=(f xs::f a::L 2 (N 0::L 36 []))) BI 300 [] TL a0) (Ag (e (t:=(f xs::f a::L 2 (N 0::L 1 (f xs::N (F xs:Int)::f a::N (F a:Int)::C (W ((F xs:Int) != (F a:Int)))::L 30 [])))) BI 300 [bF] Ajo (BO h)) (AG (Ag (e (t:=(f xs::f a::L 2 (N 0::N (Q X (F xs-1))::L 35 []))) BI 300 [] KH a0) (BT b)))))
end
theorem LQ{xs a:G}(hx:G_ xs)(hy:G_ a)(i:F xs<=1048576):T 151 [sL A xs,sL A a] (J X (DE (An xs) (An a))):=by
 by_cases b:F xs=F a
 ·have h:((F xs:Int) != (F a:Int))=false:=by rw[b];simp
  have c:=jB hx.1 hy.1 (F xs) (A2 _) (by omega);rw[DV,b,DV,<- b] at c;have f:Q X (F xs-1)=(F xs:Int)-1:=By (by omega) (by omega);rcases Anq xs a i b (F xs) (A2 _) with ⟨g,d⟩ | ⟨g,j,d⟩
  ·rw[<- c,g];exact uU xs a h (by rw[f];exact d)
  ·rw[<- c];exact uV xs a _ j h (by rw[f];exact d)
 ·have h:((F xs:Int) != (F a:Int))=true:=by simp;omega
  by_cases k:F xs<F a
  ·have e:DE (An xs) (An a) = -1:=by unfold DE;rw[Ar (Ly hx hy k)]
   rw[e];exact uS xs a h (by simp;omega)
  ·have:=Ly hy hx (by omega);have e:DE (An xs) (An a)=1:=by unfold DE;rw[Aw (by omega),Ar this]
   rw[e];exact uT xs a h (by simp;omega)
def U3:ICode:=a mW 91 500
section
variable(b:Nat)(f:AK)(a:Nat)(g:AK)(n:Nat)(cs:AK)(c m i:Int)
def KM:Az:=C (P b f)::C (P a g)::L 2 (Ak 1 0 []::Ak 1 n cs::C (J R c)::L 14 (N m::N i::L 35 []))
theorem A2x(h:AK)(x y:Int)(c1:E (i<m)=true)(j:E (i<a)=true)(k:0<=i/\i<b)(o:BQ (AL (Y i*1) f) 0 1 true=some (J U x))(p:0<=i/\i<a)(q:BQ (AL (Y i*1) g) 0 1 true=some (J U y))(r:0<=i/\i<n)(s:Di cs (Y i*1) [J U (Q U (Q R (Q R (Q R x+c)+Q R y)))]=some h):Z U3 (KM b f a g n cs c m i) .norm (KM b f a g n h (d (Q R (Q R (Q R x+c)+Q R y)) (2^(min (Y 32) (A5 .u64)))) m (Q X (i+1))):=e BI 300 [bT,.v (J U x),bT,.v (J U y),.l h] sF (M3 c1 k o j p q K9 r s) (by kernel_rfl)
theorem A2y(h:AK)(x:Int)(c1:E (i<m)=true)(j:E (i<a)=false)(k:0<=i/\i<b)(o:BQ (AL (Y i*1) f) 0 1 true=some (J U x))(p:0<=i/\i<n)(q:Di cs (Y i*1) [J U (Q U (Q R (Q R x+c)))]=some h):Z U3 (KM b f a g n cs c m i) .norm (KM b f a g n h (d (Q R (Q R x+c)) (2^(min (Y 32) (A5 .u64)))) m (Q X (i+1))):=e BI 300 [bT,.v (J U x),bF,.l h] sF (GZ c1 k o j K9 p q) (by kernel_rfl)
theorem A2z(c1:E (i<m)=false):Z U3 (KM b f a g n cs c m i) xZ0 (KM b f a g n cs c m i):=e BI 300 [bF] sF (BO c1) (by kernel_rfl)
end
theorem Anr(xs a:G)(hx:B9 xs)(hy:B9 a)(n:Nat)(hn:n<=1048576)(s:F xs<=n):∀ (r i:Nat) (o:G) (c:Int),r+i=F xs->F o=n->B9 o->0<=c/\c<=1 ->
  Z (.loop U3) (KM (F xs) (A xs) (F a) (A a) n (A o) c (F xs) i) xZ0
   (KM (F xs) (A xs) (F a) (A a) n (A (KK xs a r i o c).1) (KK xs a r i o c).2 (F xs) (F xs)):=by
 intro r;induction r with
 | zero =>
  intro i o c hi _ _ _;have hi':i=F xs:=by omega
  subst hi';exact Aq (A2z (F xs) (A xs) (F a) (A a) n (A o) c (F xs) (F xs) (by simp))
 | succ r f =>
  intro i o c hi g h hc;have h1:=Bn hx i;have h2:=Bn hy i;have j:Q X (i+1)=((i+1:Nat):Int):=wrz
  have l:=Fo (xs:=xs) (i:=i) (by omega);have m:=KJ (xs:=o) (i:=i) (v:=(H xs i 0+c+H a i 0) % 4294967296) (by omega);by_cases p:i<F a
  ·have q:=Fo (xs:=a) (i:=i) p;have b:Q U (Q R (Q R (Q R (H xs i 0)+c)+Q R (H a i 0)))=(H xs i 0+c+H a i 0) % 4294967296:=by rw[Fb,Cz,Cz,Cz,Cz];omega
   have e:d (Q R (Q R (Q R (H xs i 0)+c)+Q R (H a i 0))) (2^(min (Y 32) (A5 .u64)))=((H xs i 0+c+H a i 0) / 4294967296):=by
    show d _ 4294967296=_;rw[BX _ (by omega),Cz,Cz,Cz,Cz];omega
   have k:=A2x (F xs) (A xs) (F a) (A a) n (A o) c (F xs) i (A (o.set i ((H xs i 0+c+H a i 0) % 4294967296))) (H xs i 0) (H a i 0)
    (by simp;omega) (by simp;omega) (by omega) (by rw[Aa];exact l) (by omega) (by rw[Aa];exact q) (by omega) (by rw[Aa,b];exact m)
   rw[e,j] at k;exact Bk k (f (i+1) _ _ (by omega) (by simpa using g) (Ds h (by omega)) (by omega))
  ·have t:=Cp (xs:=a) (i:=i) (by omega);have b:Q U (Q R (Q R (H xs i 0)+c))=(H xs i 0+c+H a i 0) % 4294967296:=by rw[Fb,Cz,Cz];omega
   have e:d (Q R (Q R (H xs i 0)+c)) (2^(min (Y 32) (A5 .u64)))=((H xs i 0+c+H a i 0) / 4294967296):=by
    show d _ 4294967296=_;rw[BX _ (by omega),Cz,Cz];omega
   have k:=A2y (F xs) (A xs) (F a) (A a) n (A o) c (F xs) i (A (o.set i ((H xs i 0+c+H a i 0) % 4294967296))) (H xs i 0)
    (by simp;omega) (by simp;omega) (by omega) (by rw[Aa];exact l) (by omega) (by rw[Aa,b];exact m)
   rw[e,j] at k;exact Bk k (f (i+1) _ _ (by omega) (by simpa using g) (Ds h (by omega)) (by omega))
def bA:ICode:=a Aar 92 244
section
variable(b:Nat)(f:AK)(a:Nat)(g:AK)(n:Nat)(cs:AK)(c m i:Int)
def O_:Az:=C (P b f)::C (P a g)::L 2 (Ak 1 0 []::Ak 1 n cs::C (J R c)::L 6 (N m::N i::L 29 []))
theorem A3a(h:AK)(x y:Int)(c1:E (i<m)=true)(j:E (i<a)=true)(k:0<=i/\i<b)(o:BQ (AL (Y i*1) f) 0 1 true=some (J U x))(p:0<=i/\i<a)(q:BQ (AL (Y i*1) g) 0 1 true=some (J U y))(r:0<=i/\i<n)(s:Di cs (Y i*1) [J U (Q U (Q R ((Q R ((Q R x)-c))-(Q R y))))]=some h):Z bA (O_ b f a g n cs c m i) .norm (O_ b f a g n h (d (Q R ((Q R ((Q R x)-c))-(Q R y))) (2^(min (Y 63) (A5 .u64)))) m (Q X (i+1))):=e BI 300 [bT,.v (J U x),bT,.v (J U y),.l h] Ajn (M3 c1 k o j p q eQ r s) (by kernel_rfl)
theorem A3b(h:AK)(x:Int)(c1:E (i<m)=true)(j:E (i<a)=false)(k:0<=i/\i<b)(o:BQ (AL (Y i*1) f) 0 1 true=some (J U x))(p:0<=i/\i<n)(q:Di cs (Y i*1) [J U (Q U (Q R ((Q R x)-c)))]=some h):Z bA (O_ b f a g n cs c m i) .norm (O_ b f a g n h (d (Q R ((Q R x)-c)) (2^(min (Y 63) (A5 .u64)))) m (Q X (i+1))):=e BI 300 [bT,.v (J U x),bF,.l h] Ajn (GZ c1 k o j eQ p q) (by kernel_rfl)
theorem A3c(c1:E (i<m)=false):Z bA (O_ b f a g n cs c m i) xZ0 (O_ b f a g n cs c m i):=e BI 300 [bF] Ajn (BO c1) (by kernel_rfl)
end
theorem Ant(xs a:G)(hx:B9 xs)(hy:B9 a)(n:Nat)(hn:n<=1048576)(s:F xs<=n):∀ (r i:Nat) (o:G) (c:Int),r+i=F xs->F o=n->B9 o->0<=c/\c<=1 ->
  Z (.loop bA) (O_ (F xs) (A xs) (F a) (A a) n (A o) c (F xs) i) xZ0
   (O_ (F xs) (A xs) (F a) (A a) n (A (Lr xs a r i o c).1) (Lr xs a r i o c).2 (F xs) (F xs)):=by
 intro r;induction r with
 | zero =>
  intro i o c hi _ _ _;have hi':i=F xs:=by omega
  subst hi';exact Aq (A3c (F xs) (A xs) (F a) (A a) n (A o) c (F xs) (F xs) (by simp))
 | succ r f =>
  intro i o c hi g h hc;have h1:=Bn hx i;have h2:=Bn hy i;have j:Q X (i+1)=((i+1:Nat):Int):=wrz
  have l:=Fo (xs:=xs) (i:=i) (by omega);have m:=KJ (xs:=o) (i:=i) (v:=(H xs i 0-c-H a i 0) % 4294967296) (by omega);by_cases p:i<F a
  ·have q:=Fo (xs:=a) (i:=i) p;have b:Q U (Q R (Q R (Q R (H xs i 0)-c)-Q R (H a i 0)))=(H xs i 0-c-H a i 0) % 4294967296:=by rw[Fb,Cz,Cz,Cz,Cz];omega
   have e:d (Q R (Q R (Q R (H xs i 0)-c)-Q R (H a i 0))) (2^(min (Y 63) (A5 .u64)))=(-((H xs i 0-c-H a i 0) / 4294967296)):=by
    show d _ 9223372036854775808=_;rw[BX _ (by omega),Cz,Cz,Cz,Cz];omega
   have k:=A3a (F xs) (A xs) (F a) (A a) n (A o) c (F xs) i (A (o.set i ((H xs i 0-c-H a i 0) % 4294967296))) (H xs i 0) (H a i 0)
    (by simp;omega) (by simp;omega) (by omega) (by rw[Aa];exact l) (by omega) (by rw[Aa];exact q) (by omega) (by rw[Aa,b];exact m)
   rw[e,j] at k;exact Bk k (f (i+1) _ _ (by omega) (by simpa using g) (Ds h (by omega)) (by omega))
  ·have t:=Cp (xs:=a) (i:=i) (by omega);have b:Q U (Q R (Q R (H xs i 0)-c))=(H xs i 0-c-H a i 0) % 4294967296:=by rw[Fb,Cz,Cz];omega
   have e:d (Q R (Q R (H xs i 0)-c)) (2^(min (Y 63) (A5 .u64)))=(-((H xs i 0-c-H a i 0) / 4294967296)):=by
    show d _ 9223372036854775808=_;rw[BX _ (by omega),Cz,Cz];omega
   have k:=A3b (F xs) (A xs) (F a) (A a) n (A o) c (F xs) i (A (o.set i ((H xs i 0-c-H a i 0) % 4294967296))) (H xs i 0)
    (by simp;omega) (by simp;omega) (by omega) (by rw[Aa];exact l) (by omega) (by rw[Aa,b];exact m)
   rw[e,j] at k;exact Bk k (f (i+1) _ _ (by omega) (by simpa using g) (Ds h (by omega)) (by omega))
theorem uW(xs a o:G)(c:Int)(h:E ((F xs:Int)<(F a:Int))=true)(b:0<=Q X (F a+1)/\Q X (F a+1)<=1048576)(d:Z (.loop U3) (KM (F a) (A a) (F xs) (A xs) (Y (Q X (F a+1))) (C_ [J U 0] (Y (Q X (F a+1)))) 0 (F a) 0) xZ0 (KM (F a) (A a) (F xs) (A xs) (Y (Q X (F a+1))) (A o) c (F a) (F a)))(g:0<=(F a:Int)/\(F a:Int)<(Y (Q X (F a+1)):Int))(i:Di (A o) (Y (F a)*1) [J U (Q U c)]=some (A (o.set (F a) c))):T 178 [sL A xs,sL A a] (Ae 1 (Y (Q X (F a+1))) (A (o.set (F a) c))):=CQ mW (C (sL A a)::C (sL A xs)::L 2 (Ak 1 (Y (Q X (F a+1))) (A (o.set (F a) c))::L 1 (C (J R c)::L 14 (N (F a:Int)::N (F a:Int)::L 28 (.dup 5::C (sL A a)::N (F a:Int)::C (J R c)::C (J U (Q U c))::.ptr 5 (Y (F a)*1)::L 1 []))))) (Ag (e (t:=(f xs::f a::L 2 (Ak 1 0 []::L 53 []))) BI 300 [] TL a0) (Ag (e (t:=(f a::f xs::L 2 (Ak 1 0 []::L 4 (f xs::N (F xs:Int)::f a::N (F a:Int)::C (W (E ((F xs:Int)<(F a:Int))))::f a::f xs::L 42 [])))) BI 300 [bT] [0,1,4,9,10,11,12,13,14,15] (BO h)) (Ag (e (t:=(f a::f xs::L 2 (Ak 1 0 []::Ak 1 (Y (Q X (F a+1))) (C_ [J U 0] (Y (Q X (F a+1))))::L 3 (f xs::N (F xs:Int)::f a::N (F a:Int)::C (W (E ((F xs:Int)<(F a:Int))))::f a::f xs::f a::N (F a:Int)::N (Q X (F a+1))::L 39 [])))) BI 300 [] [0,1,4,5,9,10,11,12,13,14,15,16,17,18] (BO b)) (Ag (e (t:=(f a::f xs::L 2 (Ak 1 0 []::Ak 1 (Y (Q X (F a+1))) (C_ [J U 0] (Y (Q X (F a+1))))::C (J R 0)::L 2 (f xs::N (F xs:Int)::f a::N (F a:Int)::C (W (E ((F xs:Int)<(F a:Int))))::f a::f xs::f a::N (F a:Int)::N (Q X (F a+1))::L 39 [])))) BI 300 [] [0,1,4,5,6,9,10,11,12,13,14,15,16,17,18] a0) (Ag (Ag (e (t:=(f a::f xs::L 2 (Ak 1 0 []::Ak 1 (Y (Q X (F a+1))) (C_ [J U 0] (Y (Q X (F a+1))))::C (J R 0)::L 14 (N (F a:Int)::N 0::L 35 [])))) BI 300 [] sF a0) (A7 d)) (e (t:=(f a::f xs::L 2 (Ak 1 (Y (Q X (F a+1))) (A (o.set (F a) c))::L 1 (C (J R c)::L 14 (N (F a:Int)::N (F a:Int)::L 28 (.dup 5::f a::N (F a:Int)::C (J R c)::C (J U (Q U c))::.ptr 5 (Y (F a)*1)::L 1 [])))))) (ex := .ret) BI 300 [.l (A (o.set (F a) c))] AGt (DH g i)))))))
theorem uX(xs a o:G)(c:Int)(h:E ((F xs:Int)<(F a:Int))=false)(b:0<=Q X (F xs+1)/\Q X (F xs+1)<=1048576)(d:Z (.loop U3) (KM (F xs) (A xs) (F a) (A a) (Y (Q X (F xs+1))) (C_ [J U 0] (Y (Q X (F xs+1)))) 0 (F xs) 0) xZ0 (KM (F xs) (A xs) (F a) (A a) (Y (Q X (F xs+1))) (A o) c (F xs) (F xs)))(g:0<=(F xs:Int)/\(F xs:Int)<(Y (Q X (F xs+1)):Int))(i:Di (A o) (Y (F xs)*1) [J U (Q U c)]=some (A (o.set (F xs) c))):T 178 [sL A xs,sL A a] (Ae 1 (Y (Q X (F xs+1))) (A (o.set (F xs) c))):=CQ mW (C (sL A xs)::C (sL A a)::L 2 (Ak 1 (Y (Q X (F xs+1))) (A (o.set (F xs) c))::L 1 (C (J R c)::L 14 (N (F xs:Int)::N (F xs:Int)::L 28 (.dup 5::C (sL A xs)::N (F xs:Int)::C (J R c)::C (J U (Q U c))::.ptr 5 (Y (F xs)*1)::L 1 []))))) (Ag (e (t:=(f xs::f a::L 2 (Ak 1 0 []::L 53 []))) BI 300 [] TL a0) (Ag (e (t:=(f xs::f a::L 2 (Ak 1 0 []::L 4 (f xs::N (F xs:Int)::f a::N (F a:Int)::C (W (E ((F xs:Int)<(F a:Int))))::L 44 [])))) BI 300 [bF] [0,1,4,9,10,11,12,13] (BO h)) (Ag (e (t:=(f xs::f a::L 2 (Ak 1 0 []::Ak 1 (Y (Q X (F xs+1))) (C_ [J U 0] (Y (Q X (F xs+1))))::L 3 (f xs::N (F xs:Int)::f a::N (F a:Int)::C (W (E ((F xs:Int)<(F a:Int))))::L 2 (f xs::N (F xs:Int)::N (Q X (F xs+1))::L 39 []))))) BI 300 [] [0,1,4,5,9,10,11,12,13,16,17,18] (BO b)) (Ag (e (t:=(f xs::f a::L 2 (Ak 1 0 []::Ak 1 (Y (Q X (F xs+1))) (C_ [J U 0] (Y (Q X (F xs+1))))::C (J R 0)::L 2 (f xs::N (F xs:Int)::f a::N (F a:Int)::C (W (E ((F xs:Int)<(F a:Int))))::L 2 (f xs::N (F xs:Int)::N (Q X (F xs+1))::L 39 []))))) BI 300 [] [0,1,4,5,6,9,10,11,12,13,16,17,18] a0) (Ag (Ag (e (t:=(f xs::f a::L 2 (Ak 1 0 []::Ak 1 (Y (Q X (F xs+1))) (C_ [J U 0] (Y (Q X (F xs+1))))::C (J R 0)::L 14 (N (F xs:Int)::N 0::L 35 [])))) BI 300 [] sF a0) (A7 d)) (e (t:=(f xs::f a::L 2 (Ak 1 (Y (Q X (F xs+1))) (A (o.set (F xs) c))::L 1 (C (J R c)::L 14 (N (F xs:Int)::N (F xs:Int)::L 28 (.dup 5::f xs::N (F xs:Int)::C (J R c)::C (J U (Q U c))::.ptr 5 (Y (F xs)*1)::L 1 [])))))) (ex := .ret) BI 300 [.l (A (o.set (F xs) c))] AGt (DH g i)))))))
theorem TT{xs a:G}(hx:B9 xs)(hy:B9 a)(d:F a<=F xs)(j:F xs<1048576):∃ o c,F (o:G)=F xs+1/\B9 (o.set (F xs) c)/\An (o.set (F xs) c)=An xs+An a/\(0<=c/\c<=1) /\
  Z (.loop U3) (KM (F xs) (A xs) (F a) (A a) (F xs+1) (A (AI (F xs+1) 0)) 0 (F xs) 0) xZ0 (KM (F xs) (A xs) (F a) (A a) (F xs+1) (A o) c (F xs) (F xs)):=by
 have b:=Anr xs a hx hy (F xs+1) (by omega) (by omega) (F xs) 0 (AI (F xs+1) 0) 0 (by omega) (by simp) (Gp _) (by omega);cases e:KK xs a (F xs) 0 (AI (F xs+1) 0) 0 with
 | mk o c =>
  obtain⟨f,k,g,h,i⟩:=Abj hx hy d o c e;rw[e] at b;exact⟨o,c,f,h,i,g,b⟩
theorem fD{xs a:G}(hx:B9 xs)(hy:B9 a)(h1:F xs<1048576)(h2:F a<1048576):∃ d,B9 d/\An d=An xs+An a/\F d<=1048576/\T 178 [sL A xs,sL A a] (Ae 1 (F d) (A d)):=by
 by_cases n:F xs<F a
 ·obtain⟨o,c,f,g,j,m,k⟩:=TT hy hx (by omega) h2;have e:Q X (F a+1)=((F a+1:Nat):Int):=wrz
  have b:Y (Q X (F a+1))=F a+1:=by rw[e,Aa]
  have l:=KJ (xs:=o) (i:=F a) (v:=c) (by omega);have h:=uW xs a o c (by simp;omega) (by rw[e];omega) (by rw[b,G4];exact k) (by rw[b];omega) (by rw[Aa,Fb,HR (by omega) (by omega)];exact l);refine⟨o.set (F a) c,g,by rw[j,Nx],by simp;omega,?_⟩;rw[b] at h;rw[BH,f];exact h
 ·obtain⟨o,c,f,g,j,m,k⟩:=TT hx hy (by omega) h1;have e:Q X (F xs+1)=((F xs+1:Nat):Int):=wrz
  have b:Y (Q X (F xs+1))=F xs+1:=by rw[e,Aa]
  have l:=KJ (xs:=o) (i:=F xs) (v:=c) (by omega);have h:=uX xs a o c (by simp;omega) (by rw[e];omega) (by rw[b,G4];exact k) (by rw[b];omega) (by rw[Aa,Fb,HR (by omega) (by omega)];exact l);refine⟨o.set (F xs) c,g,j,by simp;omega,?_⟩;rw[b] at h;rw[BH,f];exact h
theorem A3d(xs a o:G)(c:Int)(b:0<=(F xs:Int)/\(F xs:Int)<=1048576)(d:Z (.loop bA) (O_ (F xs) (A xs) (F a) (A a) (Y (F xs)) (C_ [J U 0] (Y (F xs))) 0 (F xs) 0) xZ0 (O_ (F xs) (A xs) (F a) (A a) (Y (F xs)) (A o) c (F xs) (F xs))):T 179 [sL A xs,sL A a] (Ae 1 (Y (F xs)) (A o)):=CQ Aar (C (sL A xs)::C (sL A a)::L 2 (Ak 1 (Y (F xs)) (A o)::L 1 (C (J R c)::L 6 (N (F xs:Int)::N (F xs:Int)::L 29 [])))) (Ag (e (t:=(f xs::f a::L 2 (Ak 1 0 []::L 39 []))) BI 300 [] TL a0) (Ag (e (t:=(f xs::f a::L 2 (Ak 1 0 []::Ak 1 (Y (F xs)) (C_ [J U 0] (Y (F xs)))::L 3 (f xs::N (F xs:Int)::L 33 [])))) BI 300 [] [0,1,4,5,9,10] (BO b)) (Ag (e (t:=(f xs::f a::L 2 (Ak 1 0 []::Ak 1 (Y (F xs)) (C_ [J U 0] (Y (F xs)))::C (J R 0)::L 2 (f xs::N (F xs:Int)::L 33 [])))) BI 300 [] [0,1,4,5,6,9,10] a0) (Ag (Ag (e (t:=(f xs::f a::L 2 (Ak 1 0 []::Ak 1 (Y (F xs)) (C_ [J U 0] (Y (F xs)))::C (J R 0)::L 6 (N (F xs:Int)::N 0::L 29 [])))) BI 300 [] Ajn a0) (A7 d)) (e (t:=(f xs::f a::L 2 (Ak 1 (Y (F xs)) (A o)::L 1 (C (J R c)::L 6 (N (F xs:Int)::N (F xs:Int)::L 29 []))))) (ex := .ret) BI 300 [] [0,1,4,6,13,14] a0)))))
theorem TU{xs a:G}(hx:B9 xs)(hy:B9 a)(f:F a<=F xs)(hv:An a<=An xs)(g:F xs<=1048576):∃ b,B9 b/\An b=An xs-An a/\F b<=1048576/\T 179 [sL A xs,sL A a] (Ae 1 (F b) (A b)):=by
 have d:=Ant xs a hx hy (F xs) g (A2 _) (F xs) 0 (AI (F xs) 0) 0 (by omega) (by simp) (Gp _) (by omega);cases e:Lr xs a (F xs) 0 (AI (F xs) 0) 0 with
 | mk o c =>
  obtain⟨i,j,k⟩:=Abk hx hy f hv o c e;rw[e] at d;have h:=A3d xs a o c (by omega) (by rw[Aa,G4];exact d);rw[Aa] at h;refine⟨o,j,k,by omega,?_⟩;rw[i];exact h
section
variable(b:Bool)(p:Nat)(nb:Bool)(q:Nat)(a:G)(r:Int)
theorem Acy(h:(b==nb)=true)(h1:T 178 [sL A (o p),sL A (o q)] (Ae 1 (F a) (A a)))(h2:T 152 [W b,sL A a] (Ao [W (E (r<0)),sL A (o (I r))])):T 154 [W b,sL A (o p),W nb,sL A (o q)] (Ao [W (E (r<0)),sL A (o (I r))]):=Cl (ps:=[(b==nb)=true,T 178 [sL A (o p),sL A (o q)] (Ae 1 (F a) (A a)),T 152 [W b,sL A a] (Ao [W (E (r<0)),sL A (o (I r))])]) BI rfl 300 rfl [bT,.r (Ae 1 (F a) (A a)),.r (Ao [W (E (r<0)),sL A (o (I r))])] (by kernel_rfl) ⟨h,h1,h2,trivial⟩
theorem Acz(k:Int)(h:(b==nb)=false)(c:T 151 [sL A (o p),sL A (o q)] (J X k))(d:E (k>=0)=true)(h1:T 179 [sL A (o p),sL A (o q)] (Ae 1 (F a) (A a)))(h2:T 152 [W b,sL A a] (Ao [W (E (r<0)),sL A (o (I r))])):T 154 [W b,sL A (o p),W nb,sL A (o q)] (Ao [W (E (r<0)),sL A (o (I r))]):=Cl (ps:=[(b==nb)=false,T 151 [sL A (o p),sL A (o q)] (J X k),E (k>=0)=true,T 179 [sL A (o p),sL A (o q)] (Ae 1 (F a) (A a)),T 152 [W b,sL A a] (Ao [W (E (r<0)),sL A (o (I r))])]) BI rfl 300 rfl [bF,.r (J X k),bT,.r (Ae 1 (F a) (A a)),.r (Ao [W (E (r<0)),sL A (o (I r))])] (by kernel_rfl) ⟨h,c,d,h1,h2,trivial⟩
theorem Ada(k:Int)(h:(b==nb)=false)(c:T 151 [sL A (o p),sL A (o q)] (J X k))(d:E (k>=0)=false)(h1:T 179 [sL A (o q),sL A (o p)] (Ae 1 (F a) (A a)))(h2:T 152 [W nb,sL A a] (Ao [W (E (r<0)),sL A (o (I r))])):T 154 [W b,sL A (o p),W nb,sL A (o q)] (Ao [W (E (r<0)),sL A (o (I r))]):=Cl (ps:=[(b==nb)=false,T 151 [sL A (o p),sL A (o q)] (J X k),E (k>=0)=false,T 179 [sL A (o q),sL A (o p)] (Ae 1 (F a) (A a)),T 152 [W nb,sL A a] (Ao [W (E (r<0)),sL A (o (I r))])]) BI rfl 300 rfl [bF,.r (J X k),bF,.r (Ae 1 (F a) (A a)),.r (Ao [W (E (r<0)),sL A (o (I r))])] (by kernel_rfl) ⟨h,c,d,h1,h2,trivial⟩
end
theorem uY{na nb:Bool}{p q:Nat}(hp:F (o p)<1048576)(t:F (o q)<1048576):T 154 [W na,sL A (o p),W nb,sL A (o q)] (M (v na (o p)+v nb (o q))):=by
 have up:=CB p;have l:=CB q;by_cases e:na=nb
 ·subst e;obtain⟨c,d,f,i,j⟩:=fD up l hp t;have h2:=Ge (neg:=na) d i;have k:v na c=v na (o p)+v na (o q):=by
   unfold v;rw[f];cases na <;> simp <;> omega
  rw[k] at h2;exact Acy na p na q c _ (by simp) j h2
 ·have m:(na==nb)=false:=by simpa using e
  have hc:=LQ (Da p) (Da q) (by omega);have n:nb = !na:=by cases na <;> cases nb <;> simp_all
  have r:∀ {a b:Nat},An (o a)<=An (o b)->F (o a)<=F (o b):=by
   intro a b h;rcases CN (F (o b)) (F (o a)) with g | g
   ·have:=Ly (Da b) (Da a) g;omega
   ·exact g
  by_cases s:An (o q)<=An (o p)
  ·obtain⟨c,d,f,i,j⟩:=TU up l (r s) s (by omega);have h2:=Ge (neg:=na) d i;have k:v na c=v na (o p)+v nb (o q):=by
    subst n;unfold v;rw[f];cases na <;> simp <;> omega
   rw[k] at h2;refine Acz na p nb q c _ _ m hc ?_ j h2;unfold DE;rw[Aw (by omega)];split <;> rfl
  ·obtain⟨c,d,f,i,j⟩:=TU l up (r (by omega)) (by omega) (by omega);have h2:=Ge (neg:=nb) d i;have k:v nb c=v na (o p)+v nb (o q):=by
    subst n;unfold v;rw[f];cases na <;> simp <;> omega
   rw[k] at h2;refine Ada na p nb q c _ _ m hc ?_ j h2;unfold DE;rw[Ar (by omega)];rfl
theorem A3e(c:Bool)(xs:G)(nb:Bool)(d:G)(a b r:Int)(h1:T 143 [Ao [W c,sL A xs]] (A3 [W (E (a<0)),sL A (o (I a))]))(h2:T 143 [Ao [W nb,sL A d]] (A3 [W (E (b<0)),sL A (o (I b))]))(e:T 154 [W (E (a<0)),sL A (o (I a)),W (E (b<0)),sL A (o (I b))] (Ao [W (E (r<0)),sL A (o (I r))])):T 111 [Ao [W c,sL A xs],Ao [W nb,sL A d]] (Ao [W (E (r<0)),sL A (o (I r))]):=Cl (ps:=[T 143 [Ao [W c,sL A xs]] (A3 [W (E (a<0)),sL A (o (I a))]),T 143 [Ao [W nb,sL A d]] (A3 [W (E (b<0)),sL A (o (I b))]),T 154 [W (E (a<0)),sL A (o (I a)),W (E (b<0)),sL A (o (I b))] (Ao [W (E (r<0)),sL A (o (I r))])]) BI rfl 300 rfl [.r (A3 [W (E (a<0)),sL A (o (I a))]),.r (A3 [W (E (b<0)),sL A (o (I b))]),.r (Ao [W (E (r<0)),sL A (o (I r))])] (by kernel_rfl) ⟨h1,h2,e,trivial⟩
theorem jG{na nb:Bool}{xs a:G}(hx:B9 xs)(hy:B9 a)(h1:F xs<1048576)(h2:F a<1048576):T 111 [Ao [W na,sL A xs],Ao [W nb,sL A a]] (M (v na xs+v nb a)):=by
 have c:=Ey (Gc (neg:=na) hx) h1;have d:=Ey (Gc (neg:=nb) hy) h2;have b:=uY (na:=decide (v na xs<0)) (nb:=decide (v nb a<0)) c d;rw[GT,GT] at b;exact A3e na xs nb a (v na xs) (v nb a) _ (EE hx (by omega)) (EE hy (by omega)) b
theorem jH{a b:Int}(h1:F (o (I a))<1048576)(h2:F (o (I b))<1048576):T 111 [M a,M b] (M (a+b)):=by
 have:=jG (na:=decide (a<0)) (nb:=decide (b<0)) (CB (I a)) (CB (I b)) h1 h2;rwa [GT,GT] at this
theorem A3f(c:Bool)(xs:G)(nb:Bool)(d:G)(a b r:Int)(h1:T 143 [Ao [W c,sL A xs]] (A3 [W (E (a<0)),sL A (o (I a))]))(h2:T 143 [Ao [W nb,sL A d]] (A3 [W (E (b<0)),sL A (o (I b))]))(e:T 154 [W (E (a<0)),sL A (o (I a)),W (!(decide (b<0))),sL A (o (I b))] (Ao [W (E (r<0)),sL A (o (I r))])):T 127 [Ao [W c,sL A xs],Ao [W nb,sL A d]] (Ao [W (E (r<0)),sL A (o (I r))]):=Cl (ps:=[T 143 [Ao [W c,sL A xs]] (A3 [W (E (a<0)),sL A (o (I a))]),T 143 [Ao [W nb,sL A d]] (A3 [W (E (b<0)),sL A (o (I b))]),T 154 [W (E (a<0)),sL A (o (I a)),W (!(decide (b<0))),sL A (o (I b))] (Ao [W (E (r<0)),sL A (o (I r))])]) BI rfl 300 rfl [.r (A3 [W (E (a<0)),sL A (o (I a))]),.r (A3 [W (E (b<0)),sL A (o (I b))]),.r (Ao [W (E (r<0)),sL A (o (I r))])] (by kernel_rfl) ⟨h1,h2,e,trivial⟩
theorem Anu{na nb:Bool}{xs a:G}(hx:B9 xs)(hy:B9 a)(h1:F xs<1048576)(h2:F a<1048576):T 127 [Ao [W na,sL A xs],Ao [W nb,sL A a]] (M (v na xs-v nb a)):=by
 have c:=Ey (Gc (neg:=na) hx) h1;have d:=Ey (Gc (neg:=nb) hy) h2;have b:=uY (na:=decide (v na xs<0)) (nb := !decide (v nb a<0)) c d;rw[GT,Akj,<- Int.sub_eq_add_neg] at b;exact A3f na xs nb a (v na xs) (v nb a) _ (EE hx (by omega)) (EE hy (by omega)) b
def TWB:Dd:=TWA
theorem m:CT DP TWB:=BI
theorem VH{n:Int}(h:0<=n/\n<4294967296):Q U n=n:=by rw [Fb];omega
theorem D9{n:Int}(h:0<=n/\n<18446744073709551616):Q R n=n:=by rw [Cz];omega
theorem p32:(2:Int)^(min (Y 32) (A5 .u64))=4294967296:=by decide
theorem p63:(2:Int)^(min (Y 63) (A5 .u64))=9223372036854775808:=by decide
theorem jI(s:Int):d s (2^(min (Y 32) (A5 .u64)))=s / 4294967296:=by
 rw[p32,BX _ (by decide)]
theorem A3g(s:Int):d s (2^(min (Y 63) (A5 .u64)))=s / 9223372036854775808:=by
 rw[p63,BX _ (by decide)]
theorem Qr{r x:Int}(hr:0<=r/\r<4294967296)(hx:0<=x/\x<4294967296) :
  Q R ((Aj (A5 .u64) (Q R (r*2^(min (Y 32) (A5 .u64)))) ||| Aj (A5 .u64) (Q R x)).toNat)=r*4294967296+x:=by
 rw[p32,D9 (n:=r*4294967296) (by omega),D9 (n:=x) (by omega)];have:=A2i (q:=r) (c:=x) (s:=32) hr.1 (by rw[show (2:Int)^32=4294967296 by decide];omega) (by omega) (by rw[show (2:Int)^32=4294967296 by decide];exact hx);rw[show (2:Int)^32=4294967296 by decide] at this;exact this
theorem A3h{q c:Int}{s:Nat}(f:0<=q)(hs:q*2^s<4294967296)(d:s<=32)(hc:0<=c/\c<2^s) :
  Q U ((Aj (A5 .u32) c ||| Aj (A5 .u32) (q*2^s)).toNat)=q*2^s+c:=by
 obtain⟨a,rfl⟩:∃ a:Nat,q=a:=⟨q.toNat,by omega⟩;obtain⟨b,rfl⟩:∃ b:Nat,c=b:=⟨c.toNat,by omega⟩;have e:(a:Int)*2^s=((a*2^s:Nat):Int):=by rw[Eg,Ea];rfl
 have hb:b<2^s:=by
  have:(b:Int)<((2^s:Nat):Int):=by rw[Ea];exact hc.2
  omega
 have h:2^s<=2^32:=B_ (by decide) d;have i:2^32=4294967296:=by decide
 rw[e] at hs |-;show Q U ((Aj 32 (b:Int) ||| Aj 32 ((a*2^s:Nat):Int)).toNat)=_;rw[YC,yQ,Nh,Nh,LF,LF,Hc (by omega),Hc (by omega),Du a,<- ABp hb,Du (2^s) a,Fb];have j:a*2^s+b<4294967296:=by
  have hd:a*2^s+2^s<=2^32:=by
   have k:2^32=2^(32-s)*2^s:=by rw[<- Dw];congr 1;omega
   have h1:a<2^(32-s):=by
    rcases CN a (2^(32-s)) with g | g
    ·exact g
    ·have:=Bf (2^s) g;omega
   have h2:=Bf (2^s) (show a+1<=2^(32-s) by omega);rw[DU,Gi] at h2;omega
  omega
 omega
theorem VI{s:Nat}(hs:s<=32):(4294967296:Int)=2^(32-s)*2^s:=by rw [<- Cc,show 32-s+s=32 by omega];decide
theorem bB{x:Int}{s:Nat}(hx:0<=x/\x<4294967296)(hs:s<32) :
  0<=x*2^s/\x*2^s<18446744073709551616/\x*2^s / 4294967296<2^s/\∃ q:Int,0<=q/\x*2^s % 4294967296=q*2^s:=by
 have hp:=CA s;have a:(2:Int)^s<=2147483648:=by
  have:=Iq (show s<=31 by omega);rwa [show (2:Int)^31=2147483648 by decide] at this
 have b:=A8 hx.1 (show (0:Int)<=2^s by omega);have h1:=Fk (show x<=4294967295 by omega) a (by omega) (by omega);have h2:=BG hx.2 hp;refine⟨b,by omega,by omega,?_⟩;have e:(4294967296:Int)=2^(32-s)*2^s:=by
  rw[<- Cc,show 32-s+s=32 by omega];decide
 refine⟨x % 2^(32-s),Hu _ (by have:=CA (32-s);omega),?_⟩;rw[e,AT x,AT (2^(32-s)),AHo _ _ hp,AT]
def oJ(n:Nat):Nat:=if n=0 then 0 else CZ n+1
def K3(i:Int):Int:=(oJ i.toNat:Nat)
theorem Anv:∀ n:Nat,n<256->(GF[n]?).map (fun c=>(c.toNat:Int))=some (oJ n:Int):=by
 have h:(Ay 256).all (fun n=>decide ((GF[n]?).map (fun c=>(c.toNat:Int))=some (oJ n:Int)))=true:=by decide +kernel
 intro n hn;have:=CG.1 h n (by simpa using hn);simpa using this
theorem VJ(x:Int):((if 0<=(w.wrap x) then (GF)[Y (w.wrap x)]? else none).map fun c=>(c.toNat:Int))=some (K3 (w.wrap x)):=by
 have a:0<=w.wrap x/\w.wrap x<256:=by
  simp only[Q,A5,IntKind.signed,QV,CI,if_false];omega
 rw[Ar a.1];exact Anv _ (by omega)
def YX(x:Int):Int :=
 match decide (x>=65536) with
 | true=>(match decide (d x (2^(min (Y 16) (A5 .u32)))>=256) with
 | true=>(Q X (24+Q X (K3 (w.wrap (d (d x (2^(min (Y 16) (A5 .u32)))) (2^(min (Y 8) (A5 .u32))))))))
 | false=>Q X (16+Q X (K3 (w.wrap (d x (2^(min (Y 16) (A5 .u32))))))))
 | false=>(match decide (x>=256) with
 | true=>(Q X (8+Q X (K3 (w.wrap (d x (2^(min (Y 8) (A5 .u32))))))))
 | false=>Q X (0+Q X (K3 (w.wrap x))))
theorem A3i(x:Int)  : T 150 [J U x] (J X (YX x)):=by
 unfold YX;cases c1:(E (x>=65536))
 ·cases a:(E (x>=256))
  ·exact Cl (r := J X (Q X (0+Q X (K3 (w.wrap x))))) (ps:=[E (x>=65536)=false,E (x>=256)=false,((if 0<=(w.wrap x) then (GF)[Y (w.wrap x)]? else none).map fun c=>(c.toNat:Int))=some (K3 (w.wrap x))]) BI rfl 300 rfl [bF,bF,.v (J .u8 (K3 (w.wrap x)))] (by kernel_rfl) ⟨c1,a,VJ _,trivial⟩
  ·exact Cl (r := J X (Q X (8+Q X (K3 (w.wrap (d x (2^(min (Y 8) (A5 .u32))))))))) (ps:=[E (x>=65536)=false,E (x>=256)=true,¬ (8:Int)<0,((if 0<=(w.wrap (d x (2^(min (Y 8) (A5 .u32))))) then (GF)[Y (w.wrap (d x (2^(min (Y 8) (A5 .u32)))))]? else none).map fun c=>(c.toNat:Int))=some (K3 (w.wrap (d x (2^(min (Y 8) (A5 .u32))))))]) BI rfl 300 rfl [bF,bT,.v (J .u8 (K3 (w.wrap (d x (2^(min (Y 8) (A5 .u32)))))))] (by kernel_rfl) ⟨c1,a,(by decide),VJ _,trivial⟩
 ·cases a:(E (d x (2^(min (Y 16) (A5 .u32)))>=256))
  ·exact Cl (r := J X (Q X (16+Q X (K3 (w.wrap (d x (2^(min (Y 16) (A5 .u32))))))))) (ps:=[E (x>=65536)=true,¬ (16:Int)<0,E (d x (2^(min (Y 16) (A5 .u32)))>=256)=false,((if 0<=(w.wrap (d x (2^(min (Y 16) (A5 .u32))))) then (GF)[Y (w.wrap (d x (2^(min (Y 16) (A5 .u32)))))]? else none).map fun c=>(c.toNat:Int))=some (K3 (w.wrap (d x (2^(min (Y 16) (A5 .u32))))))]) BI rfl 300 rfl [bT,bF,.v (J .u8 (K3 (w.wrap (d x (2^(min (Y 16) (A5 .u32)))))))] (by kernel_rfl) ⟨c1,(by decide),a,VJ _,trivial⟩
  ·exact Cl (r := J X (Q X (24+Q X (K3 (w.wrap (d (d x (2^(min (Y 16) (A5 .u32)))) (2^(min (Y 8) (A5 .u32))))))))) (ps:=[E (x>=65536)=true,¬ (16:Int)<0,E (d x (2^(min (Y 16) (A5 .u32)))>=256)=true,¬ (8:Int)<0,((if 0<=(w.wrap (d (d x (2^(min (Y 16) (A5 .u32)))) (2^(min (Y 8) (A5 .u32))))) then (GF)[Y (w.wrap (d (d x (2^(min (Y 16) (A5 .u32)))) (2^(min (Y 8) (A5 .u32)))))]? else none).map fun c=>(c.toNat:Int))=some (K3 (w.wrap (d (d x (2^(min (Y 16) (A5 .u32)))) (2^(min (Y 8) (A5 .u32))))))]) BI rfl 300 rfl [bT,bT,.v (J .u8 (K3 (w.wrap (d (d x (2^(min (Y 16) (A5 .u32)))) (2^(min (Y 8) (A5 .u32)))))))] (by kernel_rfl) ⟨c1,(by decide),a,(by decide),VJ _,trivial⟩
theorem A3j(x l:Int)(a:T 150 [J U x] (J X l)):T 188 [J U x] (J X (Q X (32-l))):=Bc (fn:=iF AC Azu) BI rfl 400 rfl [.r (J X l)] (BO a)
theorem AIu(n b:Bool)(xs a:G)(v:Int)(c:F (A a)=F a*1)
  (d:F a<=35184372088832)
  (e:T 143 [Ao [W n,sL A xs]] (A3 [W b,sL A a]))
  (f:T 152 [W false,sL A a] (M v)):T 160 [Ao [W n,sL A xs]] (M v) :=
 Bc (fn:=iF AC Azo) BI rfl 400 rfl [.r (A3 [W b,sL A a]),.r (M v)] (FJ e c d f) (by kernel_rfl)
theorem Adb(n b:Bool)(xs a:G)(c1:((F a:Int)==0)=true)(c:T 143 [Ao [W n,sL A xs]] (A3 [W b,sL A a])):T 102 [Ao [W n,sL A xs]] (J X 0):=Bc (fn:=iF AC Aab) BI rfl 400 rfl [.r (A3 [W b,sL A a]),bT] (DH c c1)
theorem Adc(n b:Bool)(xs a:G)(l:Int)(c1:((F a:Int)==0)=false)(c:0<=Q X (F a-1)/\Q X (F a-1)<(F a:Int))(d:T 143 [Ao [W n,sL A xs]] (A3 [W b,sL A a]))(e:T 150 [J U (H a (Y (Q X (F a-1))) 0)] (J X l)):T 102 [Ao [W n,sL A xs]] (J X (Q X (Q X (32*Q X (F a-1))+l))):=Bc (fn:=iF AC Aab) BI rfl 400 rfl [.r (A3 [W b,sL A a]),bF,.v (J U (H a (Y (Q X (F a-1))) 0)),.r (J X l)] (Ff d c1 c (B7 c) e)
theorem Ja(n k:Nat)(h:n / 2^k ≠ 0):CZ n=CZ (n / 2^k)+k:=by
 have hn:n ≠ 0:=by intro e;subst e;simp at h
 have:=(UW h).1 rfl;rw[UW hn];generalize CZ (n / 2^k)=j at *
 have hp:0<2^k:=ABm k;constructor
 ·rw[Dw];exact (Nat.le_div_iff_mul_le hp).1 this.1
 ·have:n<2^(j+1)*2^k:=(Nat.div_lt_iff_lt_mul hp).1 this.2;rw[<- Dw] at this;have e:j+k+1=j+1+k:=by omega
  rw[e];exact this
theorem Anw(v:Nat)(h:v<256)(a:v ≠ 0):K3 (w.wrap (v:Int))=((CZ v+1:Nat):Int):=by
 have b:w.wrap (v:Int)=v:=by
  simp only[Q,A5,IntKind.signed,QV,CI,if_false];omega
 rw[b];unfold K3 oJ;rw[Aa,Aw a]
theorem Ade(n k:Nat)(a:k<=32):d (n:Int) (2^(min (Y k) (A5 .u32)))=((n / 2^k:Nat):Int):=by
 have e:min (Y k) (A5 .u32)=k:=by
  show min (Y k) 32=k;rw[Aa];omega
 rw[e,BX _ (Og (by omega))];have:(2:Int)^k=((2^k:Nat):Int):=by simp
 rw[this,<- A3k]
theorem Anx(n:Nat)(h:n<4294967296)(i:n ≠ 0):YX n=((CZ n+1:Nat):Int):=by
 have s16 (n:Nat):d (n:Int) (2^(min (Y 16) (A5 .u32)))=((n / 2^16:Nat):Int):=Ade n 16 (by omega);have s8 (n:Nat):d (n:Int) (2^(min (Y 8) (A5 .u32)))=((n / 2^8:Nat):Int):=Ade n 8 (by omega);have e (v c:Nat) (hv:v<256) (g:v ≠ 0) (hc:c<=56):Q X (c+Q X (K3 (w.wrap (v:Int))))=((CZ v+1+c:Nat):Int):=by
  have:CZ v<8:=(TD g).2 hv;rw[Anw v hv g,By (n:=((CZ v+1:Nat):Int)) (by omega) (by omega),wqz];omega
 unfold YX;simp only[s16,s8];by_cases b:n<65536
 ·have f:decide ((n:Int)>=65536)=false:=by simp;omega
  rw[f];by_cases c:n<256
  ·have a:decide ((n:Int)>=256)=false:=by simp;omega
   rw[a];exact e n 0 c i (by omega)
  ·have a:decide ((n:Int)>=256)=true:=by simp;omega
   rw[a,Ja n 8 (by omega)];have:=e (n / 2^8) 8 (by omega) (by omega) (by omega);exact this.trans (by omega)
 ·have f:decide ((n:Int)>=65536)=true:=by simp;omega
  rw[f];dsimp only;by_cases c:n / 2^16<256
  ·have a:decide (((n / 2^16:Nat):Int)>=256)=false:=by simp;omega
   rw[a,Ja n 16 (by omega)];have:=e (n / 2^16) 16 (by omega) (by omega) (by omega);exact this.trans (by omega)
  ·have a:decide (((n / 2^16:Nat):Int)>=256)=true:=by simp;omega
   rw[a,Ja n 16 (by omega),Ja (n / 2^16) 8 (by omega)];have:=e (n / 2^16 / 2^8) 24 (by omega) (by omega) (by omega);exact this.trans (by omega)
theorem bC{n:Nat}(h:n<4294967296)(a:n ≠ 0):T 150 [J U (n:Nat)] (J X ((CZ n+1:Nat))):=by
 have:=A3i (n:Nat);rwa [Anx n h a] at this
theorem Akk{x:Int}(hx:0<x/\x<4294967296):∃ s:Nat,s<32/\2147483648<=x*2^s/\x*2^s<4294967296/\T 188 [J U x] (J X (s:Nat)):=by
 obtain⟨n,rfl⟩:∃ n:Nat,x=n:=⟨x.toNat,by omega⟩;have a:n ≠ 0:=by omega
 have b:=(UW a).1 rfl;have c:CZ n<32:=(TD a).2 (by omega);refine⟨31-CZ n,by omega,?_,?_,?_⟩
 ·have:2^31<=n*2^(31-CZ n):=by
   have h:=Bf (2^(31-CZ n)) b.1;rwa [<- Dw,show CZ n+(31-CZ n)=31 by omega] at h
  have e:(n:Int)*2^(31-CZ n)=((n*2^(31-CZ n):Nat):Int):=by rw[Eg,Ea];rfl
  rw[e];omega
 ·have:n*2^(31-CZ n)<2^32:=by
   have h:=Nat.mul_lt_mul_of_pos_right b.2 (ABm (31-CZ n));rwa [<- Dw,show CZ n+1+(31-CZ n)=32 by omega] at h
  have e:(n:Int)*2^(31-CZ n)=((n*2^(31-CZ n):Nat):Int):=by rw[Eg,Ea];rfl
  rw[e];omega
 ·have h:=A3j (n:Nat) _ (bC (by omega) a);rw[wqz] at h;rwa [show (32:Int)-((CZ n+1:Nat):Int)=((31-CZ n:Nat):Int) by omega] at h
theorem Xd{neg:Bool}{xs:G}(a:B9 xs)(b:F xs<=1048576):T 160 [Ao [W neg,sL A xs]] (M (I (v neg xs):Nat)):=by
 have c:=Gc (neg:=neg) a;have h:=Ge (neg:=false) (CB (I (v neg xs))) (by omega);rw[ADk] at h;exact AIu neg _ xs _ _ (YV _) (by omega) (EE a b) h
def FY(n:Nat):Nat:=if n=0 then 0 else CZ n+1
theorem jJ{n:Nat}(h:n ≠ 0):1<=F (o n)/\∃ x:Nat,H (o n) (F (o n)-1) 0=x/\x ≠ 0/\x<4294967296/\n / 2^(32*(F (o n)-1))=x:=by
 have hc:=Da n;have b:o n ≠ []:=by rw[Ne,Lp];exact h
 have c:=Av.2 b;have f:=Bn hc.1 (F (o n)-1);have hz:H (o n) (F (o n)-1) 0 ≠ 0:=by
  rcases hc.2 with g | g
  ·exact absurd g b
  ·exact g
 have hs:=Eu (o n) (j:=F (o n)-1) (by omega);have hd:=D4 (o n) (F (o n)-1);rw[EX (xs:=o n) (i:=F (o n)-1+1) (by omega),Be,Cx] at hd;have h1:=HK hc.1 (F (o n)-1);have d:=BK (EZ hc.1 (F (o n)-1));rw[hd,Do] at hs;generalize F (o n)-1=j at *
 generalize H (o n) j 0=x at *
 obtain⟨x,rfl⟩:∃ y:Nat,x=y:=⟨x.toNat,by omega⟩;refine⟨c,x,rfl,by omega,by omega,?_⟩;generalize An (BF j (o n))=a at *
 have e:((n / 2^(32*j):Nat):Int)=(x:Int):=by
  rw[A3k,Ea,show ((2:Nat):Int)^(32*j)=4294967296^j by rw[Qq];rfl,hs];have hp:=Dx j;rw[AT (4294967296^j),AHs _ _ (by omega),IQ d h1,E7]
 omega
theorem U4{neg:Bool}{xs:G}(e:B9 xs)(j:F xs<=1048576):T 102 [Ao [W neg,sL A xs]] (J X (FY (I (v neg xs)))):=by
 have p:=Gc (neg:=neg) e;have f:=EE (neg:=neg) e j;generalize v neg xs=a at *
 by_cases b:I a=0
 ·have h:=Adb neg _ xs _ (by rw[b];rfl) f;rw[show FY (I a)=0 by unfold FY;rw[Ar b]];exact h
 ·obtain⟨q,x,k,c,g,i⟩:=jJ b;have d:Q X (F (o (I a))-1)=((F (o (I a))-1:Nat):Int):=wrz
  have l:=bC g c;have h:=Adc neg _ xs (o (I a)) _ (by rw[C3];omega) (by rw[d];omega) f (by rw[d,Aa,k];exact l);have r:CZ x<32:=(TD c).2 g;rw[d,By (n:=32*((F (o (I a))-1:Nat):Int)) (by omega) (by omega),wqz] at h;have m:FY (I a)=CZ x+1+32*(F (o (I a))-1):=by
   unfold FY;rw[Aw b,Ja (I a) (32*(F (o (I a))-1)) (by rw[i];exact c),i];omega
  rw[m];rwa [show 32*((F (o (I a))-1:Nat):Int)+((CZ x+1:Nat):Int)=((CZ x+1+32*(F (o (I a))-1):Nat):Int) by omega] at h
def oK:ICode:=a Aav 92 244
section
variable(xs:G)(d:Int)(k:Nat)(a:G)(r i:Int)
def U5:Az:=C (sL A xs)::C (J U d)::L 4 (Ak 1 k (A a)::C (J R r)::N i::L 34 [])
theorem A3l(c1:E (i>=0)=true)(b:0<=i/\i<F xs)(c:¬ (Q R d)=0)(e:0<=i/\i<k)(f:F a=k):Z oK (U5 xs d k a r i) .norm (U5 xs d k (a.set (Y i) (Q U (Q R (AF (Q R ((Aj (A5 .u64) (Q R (r*2^(min (Y 32) (A5 .u64)))) ||| Aj (A5 .u64) (Q R (H xs (Y i) 0))).toNat)) (Q R d))))) (Bl (Q R ((Aj (A5 .u64) (Q R (r*2^(min (Y 32) (A5 .u64)))) ||| Aj (A5 .u64) (Q R (H xs (Y i) 0))).toNat)) (Q R d)) (Q X (i-1))):=Ab m [bT,.v (J U (H xs (Y i) 0)),.l (A (a.set (Y i) (Q U (Q R (AF (Q R ((Aj (A5 .u64) (Q R (r*2^(min (Y 32) (A5 .u64)))) ||| Aj (A5 .u64) (Q R (H xs (Y i) 0))).toNat)) (Q R d))))))] [0,1,6,7,8] (Ip c1 K9 b (B7 b) c c e (show Di (A a) (Y i*1) [J U (Q U (Q R (AF (Q R ((Aj (A5 .u64) (Q R (r*2^(min (Y 32) (A5 .u64)))) ||| Aj (A5 .u64) (Q R (H xs (Y i) 0))).toNat)) (Q R d))))]=some (A (a.set (Y i) (Q U (Q R (AF (Q R ((Aj (A5 .u64) (Q R (r*2^(min (Y 32) (A5 .u64)))) ||| Aj (A5 .u64) (Q R (H xs (Y i) 0))).toNat)) (Q R d)))))) from (DX f e)))
theorem A3m(c1:E (i>=0)=false):Z oK (U5 xs d k a r i) xZ0 (U5 xs d k a r i):=Ab m [bF] [0,1,6,7,8] (BO c1)
end
theorem A3n(xs a:G)(d r i:Int)(k:Nat)(b:0<=(F xs:Int)/\(F xs:Int)<=1048576)(c:Z (.loop oK) ((C (sL A xs)::C (J U d)::L 4 (Ak 1 (Y (F xs)) (C_ [J U 0] (Y (F xs)))::C (J R 0)::N (Q X (F xs-1))::L 34 []))) xZ0 (U5 xs d k a r i)):T 187 [sL A xs,J U d] (A3 [P k (A a),J U (Q U r)]):=CQ Aav (L 1 (C (J U d)::L 2 (Ak 1 k (A a)::C (J U (Q U r))::L 37 []))) (As (As (AA (Ag (Ab m [] [0,1,6,7,8] (BO b)) (Ag (A7 c) (Ab m [] [1,4,5] a0))))))
def oL:ICode:=a Aaw 93 116
section
variable(xs:G)(s:Int)(k:Nat)(os:G)(n i:Int)
def U6:Az:=L 1 (N s::L 3 (Ak 1 k (A os)::L 7 (C (sL A xs)::N n::N i::L 26 [])))
theorem A3o(c1:E (i<n)=true)(b:0<=i/\i<F xs)(f:¬ (Q R s)<0)(a:0<=i/\i<k)(c:F os=k)(e:0<=Q X (i+1)/\Q X (i+1)<(k:Int))(g:F (os.set (Y i) (Q U ((Aj (A5 .u32) (H os (Y i) 0) ||| Aj (A5 .u32) (Q U (Q R (Q R (H xs (Y i) 0)*2^(min (Y (Q R s)) (A5 .u64)))))).toNat)))=k):Z oL (U6 xs s k os n i) .norm (U6 xs s k ((os.set (Y i) (Q U ((Aj (A5 .u32) (H os (Y i) 0) ||| Aj (A5 .u32) (Q U (Q R (Q R (H xs (Y i) 0)*2^(min (Y (Q R s)) (A5 .u64)))))).toNat))).set (Y (Q X (i+1))) (Q U (d (Q R (Q R (H xs (Y i) 0)*2^(min (Y (Q R s)) (A5 .u64)))) (2^(min (Y 32) (A5 .u64)))))) n (Q X (i+1))):=Ab m [bT,.v (J U (H xs (Y i) 0)),.v (J U (H os (Y i) 0)),.l (A (os.set (Y i) (Q U ((Aj (A5 .u32) (H os (Y i) 0) ||| Aj (A5 .u32) (Q U (Q R (Q R (H xs (Y i) 0)*2^(min (Y (Q R s)) (A5 .u64)))))).toNat)))),.l (A ((os.set (Y i) (Q U ((Aj (A5 .u32) (H os (Y i) 0) ||| Aj (A5 .u32) (Q U (Q R (Q R (H xs (Y i) 0)*2^(min (Y (Q R s)) (A5 .u64)))))).toNat))).set (Y (Q X (i+1))) (Q U (d (Q R (Q R (H xs (Y i) 0)*2^(min (Y (Q R s)) (A5 .u64)))) (2^(min (Y 32) (A5 .u64)))))))] [1,5,13,14,15] (IU c1 b (B7 b) f a (Dc c a) a (show Di (A os) (Y i*1) [J U (Q U ((Aj (A5 .u32) (H os (Y i) 0) ||| Aj (A5 .u32) (Q U (Q R (Q R (H xs (Y i) 0)*2^(min (Y (Q R s)) (A5 .u64)))))).toNat))]=some (A (os.set (Y i) (Q U ((Aj (A5 .u32) (H os (Y i) 0) ||| Aj (A5 .u32) (Q U (Q R (Q R (H xs (Y i) 0)*2^(min (Y (Q R s)) (A5 .u64)))))).toNat)))) from (DX c a)) K9 e (show Di (A (os.set (Y i) (Q U ((Aj (A5 .u32) (H os (Y i) 0) ||| Aj (A5 .u32) (Q U (Q R (Q R (H xs (Y i) 0)*2^(min (Y (Q R s)) (A5 .u64)))))).toNat)))) (Y (Q X (i+1))*1) [J U (Q U (d (Q R (Q R (H xs (Y i) 0)*2^(min (Y (Q R s)) (A5 .u64)))) (2^(min (Y 32) (A5 .u64)))))]=some (A ((os.set (Y i) (Q U ((Aj (A5 .u32) (H os (Y i) 0) ||| Aj (A5 .u32) (Q U (Q R (Q R (H xs (Y i) 0)*2^(min (Y (Q R s)) (A5 .u64)))))).toNat))).set (Y (Q X (i+1))) (Q U (d (Q R (Q R (H xs (Y i) 0)*2^(min (Y (Q R s)) (A5 .u64)))) (2^(min (Y 32) (A5 .u64))))))) from (DX g e)))
theorem A3p(c1:E (i<n)=false):Z oL (U6 xs s k os n i) xZ0 (U6 xs s k os n i):=Ab m [bF] [1,5,13,14,15] (BO c1)
end
theorem A3q(xs os:G)(s n i:Int)(k:Nat)(a:0<=Q X (F xs+1)/\Q X (F xs+1)<=1048576)(b:Z (.loop oL) ((L 1 (N s::L 3 (Ak 1 (Y (Q X (F xs+1))) (C_ [J U 0] (Y (Q X (F xs+1))))::L 7 (C (sL A xs)::N (F xs:Int)::N 0::L 26 []))))) xZ0 (U6 xs s k os n i)):T 189 [sL A xs,J X s] (Ae 1 k (A os)):=CQ Aaw (L 1 (N s::L 2 (Ak 1 k (A os)::L 37 []))) (As (AA (Ag (Ab m [] [1,5,13,14,15] (BO a)) (Ag (A7 b) (Ab m [] [1,4] a0)))))
def KN:ICode:=a Qa 79 2094232
section
variable(k:Nat)(us vs:G)(n t a:Int)(b:Nat)(c:G)(s j g r:Int)
def FE:Az:=L 4 (Ak 1 b (A c)::L 3 (N s::Ak 1 k (A us)::C (sL A vs)::N n::L 1 (C (J R t)::C (J R a)::N j::L 1 (C (J R g)::C (J R r)::L 263 []))))
theorem Any(c1:E (g>=4294967296)=true)(d:E (Q R (r+t)>=4294967296)=true):Z KN (FE k us vs n t a b c s j g r) xZ2 (FE k us vs n t a b c s j (Q R (g-1)) (Q R (r+t))):=Ab m [bT,bT,bT] Um (Gy c1 I6 d)
theorem Anz(c1:E (g>=4294967296)=true)(d:E (Q R (r+t)>=4294967296)=false):Z KN (FE k us vs n t a b c s j g r) .norm (FE k us vs n t a b c s j (Q R (g-1)) (Q R (r+t))):=Ab m [bT,bT,bF] Um (Gy c1 I6 d)
theorem Aoa(c1:E (g>=4294967296)=false)(d:E (Q R (g*a)>Q R ((Aj (A5 .u64) (Q R (r*2^(min (Y 32) (A5 .u64)))) ||| Aj (A5 .u64) (Q R (H us (Y (Q X ((Q X (j+n))-2))) 0))).toNat))=true)(h:E (Q R (r+t)>=4294967296)=true)(e:0<=Q X ((Q X (j+n))-2)/\Q X ((Q X (j+n))-2)<(k:Int))(f:F us=k):Z KN (FE k us vs n t a b c s j g r) xZ2 (FE k us vs n t a b c s j (Q R (g-1)) (Q R (r+t))):=Ab m [bF,.v (J U (H us (Y (Q X ((Q X (j+n))-2))) 0)),bT,bT] Um (Gm c1 K9 e (Dc f e) d h)
theorem Aob(c1:E (g>=4294967296)=false)(d:E (Q R (g*a)>Q R ((Aj (A5 .u64) (Q R (r*2^(min (Y 32) (A5 .u64)))) ||| Aj (A5 .u64) (Q R (H us (Y (Q X ((Q X (j+n))-2))) 0))).toNat))=true)(h:E (Q R (r+t)>=4294967296)=false)(e:0<=Q X ((Q X (j+n))-2)/\Q X ((Q X (j+n))-2)<(k:Int))(f:F us=k):Z KN (FE k us vs n t a b c s j g r) .norm (FE k us vs n t a b c s j (Q R (g-1)) (Q R (r+t))):=Ab m [bF,.v (J U (H us (Y (Q X ((Q X (j+n))-2))) 0)),bT,bF] Um (Gm c1 K9 e (Dc f e) d h)
theorem jK(c1:E (g>=4294967296)=false)(d:E (Q R (g*a)>Q R ((Aj (A5 .u64) (Q R (r*2^(min (Y 32) (A5 .u64)))) ||| Aj (A5 .u64) (Q R (H us (Y (Q X ((Q X (j+n))-2))) 0))).toNat))=false)(e:0<=Q X ((Q X (j+n))-2)/\Q X ((Q X (j+n))-2)<(k:Int))(f:F us=k):Z KN (FE k us vs n t a b c s j g r) xZ2 (FE k us vs n t a b c s j g r):=Ab m [bF,.v (J U (H us (Y (Q X ((Q X (j+n))-2))) 0)),bF] Um (Ff c1 K9 e (Dc f e) d)
end
def VK:ICode:=a Qa 76 16753908
section
variable(k:Nat)(us vs:G)(n t a:Int)(e:Nat)(f:G)(s j g b c i:Int)
def LR:Az:=L 4 (Ak 1 e (A f)::L 3 (N s::Ak 1 k (A us)::C (sL A vs)::N n::L 1 (C (J R t)::C (J R a)::N j::L 1 (C (J R g)::L 1 (C (J R b)::C (J R c)::N i::L 260 [])))))
theorem Aoc(c1:E (i<n)=true)(o:0<=i/\i<F vs)(h:0<=Q X (i+j)/\Q X (i+j)<(k:Int))(p:F us=k):Z VK (LR k us vs n t a e f s j g b c i) .norm (LR k (us.set (Y (Q X (i+j))) (Q U (Q R ((Q R ((Q R (H us (Y (Q X (i+j))) 0))-(Q R (Q U (Q R (Q R (g*Q R (H vs (Y i) 0))+c))))))-b)))) vs n t a e f s j g (d (Q R ((Q R ((Q R (H us (Y (Q X (i+j))) 0))-(Q R (Q U (Q R (Q R (g*Q R (H vs (Y i) 0))+c))))))-b)) (2^(min (Y 63) (A5 .u64)))) (d (Q R (Q R (g*Q R (H vs (Y i) 0))+c)) (2^(min (Y 32) (A5 .u64)))) (Q X (i+1))):=Ab m [bT,.v (J U (H vs (Y i) 0)),.v (J U (H us (Y (Q X (i+j))) 0)),.l (A (us.set (Y (Q X (i+j))) (Q U (Q R ((Q R ((Q R (H us (Y (Q X (i+j))) 0))-(Q R (Q U (Q R (Q R (g*Q R (H vs (Y i) 0))+c))))))-b)))))] nD (M3 c1 o (B7 o) K9 h (Dc p h) eQ h (show Di (A us) (Y (Q X (i+j))*1) [J U (Q U (Q R ((Q R ((Q R (H us (Y (Q X (i+j))) 0))-(Q R (Q U (Q R (Q R (g*Q R (H vs (Y i) 0))+c))))))-b)))]=some (A (us.set (Y (Q X (i+j))) (Q U (Q R ((Q R ((Q R (H us (Y (Q X (i+j))) 0))-(Q R (Q U (Q R (Q R (g*Q R (H vs (Y i) 0))+c))))))-b))))) from (DX p h)))
theorem Aod(c1:E (i<n)=false):Z VK (LR k us vs n t a e f s j g b c i) xZ4 (LR k us vs n t a e f s j g b c i):=Ab m [bF] nD (BO c1)
end
def YY:ICode:=a Qa 68 4289003188
section
variable(k:Nat)(us vs:G)(n t a:Int)(b:Nat)(e:G)(s j g c i:Int)
def O9:Az:=L 4 (Ak 1 b (A e)::L 3 (N s::Ak 1 k (A us)::C (sL A vs)::N n::L 1 (C (J R t)::C (J R a)::N j::L 1 (C (J R g)::L 7 (C (J R c)::N i::L 255 [])))))
theorem Aoe(c1:E (i<n)=true)(f:0<=Q X (i+j)/\Q X (i+j)<(k:Int))(h:F us=k)(o:0<=i/\i<F vs):Z YY (O9 k us vs n t a b e s j g c i) .norm (O9 k (us.set (Y (Q X (i+j))) (Q U (Q R (Q R (Q R (H us (Y (Q X (i+j))) 0)+Q R (H vs (Y i) 0))+c)))) vs n t a b e s j g (d (Q R (Q R (Q R (H us (Y (Q X (i+j))) 0)+Q R (H vs (Y i) 0))+c)) (2^(min (Y 32) (A5 .u64)))) (Q X (i+1))):=Ab m [bT,.v (J U (H us (Y (Q X (i+j))) 0)),.v (J U (H vs (Y i) 0)),.l (A (us.set (Y (Q X (i+j))) (Q U (Q R (Q R (Q R (H us (Y (Q X (i+j))) 0)+Q R (H vs (Y i) 0))+c)))))] Abd (Ip c1 f (Dc h f) o (B7 o) K9 f (show Di (A us) (Y (Q X (i+j))*1) [J U (Q U (Q R (Q R (Q R (H us (Y (Q X (i+j))) 0)+Q R (H vs (Y i) 0))+c)))]=some (A (us.set (Y (Q X (i+j))) (Q U (Q R (Q R (Q R (H us (Y (Q X (i+j))) 0)+Q R (H vs (Y i) 0))+c))))) from (DX h f)))
theorem Aof(c1:E (i<n)=false):Z YY (O9 k us vs n t a b e s j g c i) xZ6 (O9 k us vs n t a b e s j g c i):=Ab m [bF] Abd (BO c1)
end
def Sk:ICode:=a Qa 87 8180
section
variable(k:Nat)(us vs:G)(n t i:Int)(h:Nat)(e:G)(s j:Int)
def J9:Az:=L 4 (Ak 1 h (A e)::L 3 (N s::Ak 1 k (A us)::C (sL A vs)::N n::L 1 (C (J R t)::C (J R i)::N j::L 266 [])))
theorem A3r(a p:G)(g r b c q:Int)(c1:E (j>=0)=true)(B:((d (Q R ((Q R ((Q R (H a (Y (Q X (j+n))) 0))-c))-b)) (2^(min (Y 63) (A5 .u64)))) != 0)=true)(o:0<=Q X (j+n)/\Q X (j+n)<(k:Int))(u:F us=k)(w:0<=Q X (Q X (j+n)-1)/\Q X (Q X (j+n)-1)<(k:Int))(x:¬ t=0)(D:Z (.loop KN) (FE k us vs n t i h e s j (Q R (AF (Q R ((Aj (A5 .u64) (Q R (Q R (H us (Y (Q X (j+n))) 0)*2^(min (Y 32) (A5 .u64)))) ||| Aj (A5 .u64) (Q R (H us (Y (Q X (Q X (j+n)-1))) 0))).toNat)) t)) (Bl (Q R ((Aj (A5 .u64) (Q R (Q R (H us (Y (Q X (j+n))) 0)*2^(min (Y 32) (A5 .u64)))) ||| Aj (A5 .u64) (Q R (H us (Y (Q X (Q X (j+n)-1))) 0))).toNat)) t)) xZ2 (FE k us vs n t i h e s j g r))(I:Z (.loop VK) (LR k us vs n t i h e s j g 0 0 0) xZ4 (LR k a vs n t i h e s j g b c n))(y:F a=k)(O:Z (.loop YY) (O9 k (a.set (Y (Q X (j+n))) (Q U (Q R ((Q R ((Q R (H a (Y (Q X (j+n))) 0))-c))-b)))) vs n t i h e s j (Q R (g-1)) 0 0) xZ6 (O9 k p vs n t i h e s j (Q R (g-1)) q n))(z:F p=k)(K:0<=j/\j<h)(P:F e=h):Z Sk (J9 k us vs n t i h e s j) .norm (J9 k (p.set (Y (Q X (j+n))) (Q U (H p (Y (Q X (j+n))) 0+Q U q))) vs n t i h (e.set (Y j) (Q U (Q R (g-1)))) s (Q X (j-1))):=Ag (Ab (t:=L 4 (Ak 1 h (A e)::L 3 (N s::Ak 1 k (A us)::f vs::N n::L 1 (C (J R t)::C (J R i)::N j::L 266 [])))) m [bT] RL (BO c1)) (Ag (Bo (As (Ag (Ab m [.v (J U (H us (Y (Q X (j+n))) 0)),.v (J U (H us (Y (Q X (Q X (j+n)-1))) 0))] Um (GZ o (Dc u o) K9 w (Dc u w) x x)) (Ag (A7 D) (AA (Ag (Ab m [] nD a0) (Ag (A7 I) (As (AA (Ag (Ab (t:=L 4 (Ak 1 h (A e)::L 3 (N s::Ak 1 k (A (a.set (Y (Q X (j+n))) (Q U (Q R ((Q R ((Q R (H a (Y (Q X (j+n))) 0))-c))-b)))))::f vs::N n::L 1 (C (J R t)::C (J R i)::N j::L 1 (C (J R g)::L 181 (C (W ((d (Q R ((Q R ((Q R (H a (Y (Q X (j+n))) 0))-c))-b)) (2^(min (Y 63) (A5 .u64)))) != 0))::L 82 [])))))) m [.v (J U (H a (Y (Q X (j+n))) 0)),.l (A (a.set (Y (Q X (j+n))) (Q U (Q R ((Q R ((Q R (H a (Y (Q X (j+n))) 0))-c))-b)))))] A0c (Ff o (Dc y o) o (show Di (A a) (Y (Q X (j+n))*1) [J U (Q U (Q R ((Q R ((Q R (H a (Y (Q X (j+n))) 0))-c))-b)))]=some (A (a.set (Y (Q X (j+n))) (Q U (Q R ((Q R ((Q R (H a (Y (Q X (j+n))) 0))-c))-b))))) from (DX y o)) eQ)) (Ag (LL (by rfl) B (As (AA (Ag (Ab m [] Abd a0) (Ag (A7 O) (Ab (t:=L 4 (Ak 1 h (A e)::L 3 (N s::Ak 1 k (A (p.set (Y (Q X (j+n))) (Q U (H p (Y (Q X (j+n))) 0+Q U q))))::f vs::N n::L 1 (C (J R t)::C (J R i)::N j::L 1 (C (J R (Q R (g-1)))::L 264 []))))) m [.v (J U (H p (Y (Q X (j+n))) 0)),.l (A (p.set (Y (Q X (j+n))) (Q U (H p (Y (Q X (j+n))) 0+Q U q))))] [4,8,9,10,11,13,14,15,17] (FJ o (Dc z o) o (show Di (A p) (Y (Q X (j+n))*1) [J U (Q U (H p (Y (Q X (j+n))) 0+Q U q))]=some (A (p.set (Y (Q X (j+n))) (Q U (H p (Y (Q X (j+n))) 0+Q U q)))) from (DX z o))))))))) (Ab (t:=L 4 (Ak 1 h (A (e.set (Y j) (Q U (Q R (g-1)))))::L 3 (N s::Ak 1 k (A (p.set (Y (Q X (j+n))) (Q U (H p (Y (Q X (j+n))) 0+Q U q))))::f vs::N n::L 1 (C (J R t)::C (J R i)::N j::L 266 [])))) m [.l (A (e.set (Y j) (Q U (Q R (g-1)))))] RL (DH K (show Di (A e) (Y j*1) [J U (Q U (Q R (g-1)))]=some (A (e.set (Y j) (Q U (Q R (g-1))))) from (DX P K))))))))))))))) (Ab m [] RL a0))
theorem A3s(a:G)(g r b c:Int)(c1:E (j>=0)=true)(B:((d (Q R ((Q R ((Q R (H a (Y (Q X (j+n))) 0))-c))-b)) (2^(min (Y 63) (A5 .u64)))) != 0)=false)(o:0<=Q X (j+n)/\Q X (j+n)<(k:Int))(u:F us=k)(w:0<=Q X (Q X (j+n)-1)/\Q X (Q X (j+n)-1)<(k:Int))(x:¬ t=0)(D:Z (.loop KN) (FE k us vs n t i h e s j (Q R (AF (Q R ((Aj (A5 .u64) (Q R (Q R (H us (Y (Q X (j+n))) 0)*2^(min (Y 32) (A5 .u64)))) ||| Aj (A5 .u64) (Q R (H us (Y (Q X (Q X (j+n)-1))) 0))).toNat)) t)) (Bl (Q R ((Aj (A5 .u64) (Q R (Q R (H us (Y (Q X (j+n))) 0)*2^(min (Y 32) (A5 .u64)))) ||| Aj (A5 .u64) (Q R (H us (Y (Q X (Q X (j+n)-1))) 0))).toNat)) t)) xZ2 (FE k us vs n t i h e s j g r))(I:Z (.loop VK) (LR k us vs n t i h e s j g 0 0 0) xZ4 (LR k a vs n t i h e s j g b c n))(y:F a=k)(M:0<=j/\j<h)(z:F e=h):Z Sk (J9 k us vs n t i h e s j) .norm (J9 k (a.set (Y (Q X (j+n))) (Q U (Q R ((Q R ((Q R (H a (Y (Q X (j+n))) 0))-c))-b)))) vs n t i h (e.set (Y j) (Q U g)) s (Q X (j-1))):=Ag (Ab (t:=L 4 (Ak 1 h (A e)::L 3 (N s::Ak 1 k (A us)::f vs::N n::L 1 (C (J R t)::C (J R i)::N j::L 266 [])))) m [bT] RL (BO c1)) (Ag (Bo (As (Ag (Ab m [.v (J U (H us (Y (Q X (j+n))) 0)),.v (J U (H us (Y (Q X (Q X (j+n)-1))) 0))] Um (GZ o (Dc u o) K9 w (Dc u w) x x)) (Ag (A7 D) (AA (Ag (Ab m [] nD a0) (Ag (A7 I) (As (AA (Ag (Ab (t:=L 4 (Ak 1 h (A e)::L 3 (N s::Ak 1 k (A (a.set (Y (Q X (j+n))) (Q U (Q R ((Q R ((Q R (H a (Y (Q X (j+n))) 0))-c))-b)))))::f vs::N n::L 1 (C (J R t)::C (J R i)::N j::L 1 (C (J R g)::L 181 (C (W ((d (Q R ((Q R ((Q R (H a (Y (Q X (j+n))) 0))-c))-b)) (2^(min (Y 63) (A5 .u64)))) != 0))::L 82 [])))))) m [.v (J U (H a (Y (Q X (j+n))) 0)),.l (A (a.set (Y (Q X (j+n))) (Q U (Q R ((Q R ((Q R (H a (Y (Q X (j+n))) 0))-c))-b)))))] A0c (Ff o (Dc y o) o (show Di (A a) (Y (Q X (j+n))*1) [J U (Q U (Q R ((Q R ((Q R (H a (Y (Q X (j+n))) 0))-c))-b)))]=some (A (a.set (Y (Q X (j+n))) (Q U (Q R ((Q R ((Q R (H a (Y (Q X (j+n))) 0))-c))-b))))) from (DX y o)) eQ)) (Ag (LM (by rfl) B (Ab (t:=L 4 (Ak 1 h (A e)::L 3 (N s::Ak 1 k (A (a.set (Y (Q X (j+n))) (Q U (Q R ((Q R ((Q R (H a (Y (Q X (j+n))) 0))-c))-b)))))::f vs::N n::L 1 (C (J R t)::C (J R i)::N j::L 1 (C (J R g)::L 264 []))))) m [] [4,8,9,10,11,13,14,15,17] a0)) (Ab (t:=L 4 (Ak 1 h (A (e.set (Y j) (Q U g)))::L 3 (N s::Ak 1 k (A (a.set (Y (Q X (j+n))) (Q U (Q R ((Q R ((Q R (H a (Y (Q X (j+n))) 0))-c))-b)))))::f vs::N n::L 1 (C (J R t)::C (J R i)::N j::L 266 [])))) m [.l (A (e.set (Y j) (Q U g)))] RL (DH M (show Di (A e) (Y j*1) [J U (Q U g)]=some (A (e.set (Y j) (Q U g))) from (DX z M))))))))))))))) (Ab m [] RL a0))
theorem A3t(c1:E (j>=0)=false):Z Sk (J9 k us vs n t i h e s j) xZ0 (J9 k us vs n t i h e s j):=AG (Ab m [bF] RL (BO c1))
end
def Tj:ICode:=a Qa 85 32756
section
variable(k:Nat)(us:G)(n:Int)(c:Nat)(e:G)(a:Nat)(rs:G)(s i:Int)
def KO:Az:=L 4 (Ak 1 c (A e)::Ak 1 a (A rs)::L 2 (N s::Ak 1 k (A us)::L 1 (N n::L 16 (N i::L 253 []))))
theorem Aog(c1:E (i<n)=true)(h:E (s>0)=true)(f:0<=i/\i<k)(g:F us=k)(j:¬ (Q R s)<0)(b:0<=i/\i<a)(o:F rs=a)(p:F (rs.set (Y i) (d (H us (Y i) 0) (2^(min (Y (Q R s)) (A5 .u32)))))=a)(q:0<=Q X (i+1)/\Q X (i+1)<(k:Int))(r:¬ (Q R (Q X (32-s)))<0):Z Tj (KO k us n c e a rs s i) .norm (KO k us n c e a ((rs.set (Y i) (d (H us (Y i) 0) (2^(min (Y (Q R s)) (A5 .u32))))).set (Y i) (Q U ((Aj (A5 .u32) (H (rs.set (Y i) (d (H us (Y i) 0) (2^(min (Y (Q R s)) (A5 .u32))))) (Y i) 0) ||| Aj (A5 .u32) (Q U (H us (Y (Q X (i+1))) 0*2^(min (Y (Q R (Q X (32-s)))) (A5 .u32))))).toNat))) s (Q X (i+1))):=Ab m [bT,.v (J U (H us (Y i) 0)),.l (A (rs.set (Y i) (d (H us (Y i) 0) (2^(min (Y (Q R s)) (A5 .u32)))))),bT,.v (J U (H (rs.set (Y i) (d (H us (Y i) 0) (2^(min (Y (Q R s)) (A5 .u32))))) (Y i) 0)),.v (J U (H us (Y (Q X (i+1))) 0)),.l (A ((rs.set (Y i) (d (H us (Y i) 0) (2^(min (Y (Q R s)) (A5 .u32))))).set (Y i) (Q U ((Aj (A5 .u32) (H (rs.set (Y i) (d (H us (Y i) 0) (2^(min (Y (Q R s)) (A5 .u32))))) (Y i) 0) ||| Aj (A5 .u32) (Q U (H us (Y (Q X (i+1))) 0*2^(min (Y (Q R (Q X (32-s)))) (A5 .u32))))).toNat))))] nB (OX c1 f (Dc g f) j b (show Di (A rs) (Y i*1) [J U (d (H us (Y i) 0) (2^(min (Y (Q R s)) (A5 .u32))))]=some (A (rs.set (Y i) (d (H us (Y i) 0) (2^(min (Y (Q R s)) (A5 .u32)))))) from (DX o b)) h b (Gm (Dc p b) q (Dc g q) r b (show Di (A (rs.set (Y i) (d (H us (Y i) 0) (2^(min (Y (Q R s)) (A5 .u32)))))) (Y i*1) [J U (Q U ((Aj (A5 .u32) (H (rs.set (Y i) (d (H us (Y i) 0) (2^(min (Y (Q R s)) (A5 .u32))))) (Y i) 0) ||| Aj (A5 .u32) (Q U (H us (Y (Q X (i+1))) 0*2^(min (Y (Q R (Q X (32-s)))) (A5 .u32))))).toNat))]=some (A ((rs.set (Y i) (d (H us (Y i) 0) (2^(min (Y (Q R s)) (A5 .u32))))).set (Y i) (Q U ((Aj (A5 .u32) (H (rs.set (Y i) (d (H us (Y i) 0) (2^(min (Y (Q R s)) (A5 .u32))))) (Y i) 0) ||| Aj (A5 .u32) (Q U (H us (Y (Q X (i+1))) 0*2^(min (Y (Q R (Q X (32-s)))) (A5 .u32))))).toNat)))) from (DX p b))))
theorem Aoh(c1:E (i<n)=true)(h:E (s>0)=false)(f:0<=i/\i<k)(g:F us=k)(j:¬ (Q R s)<0)(b:0<=i/\i<a)(o:F rs=a):Z Tj (KO k us n c e a rs s i) .norm (KO k us n c e a (rs.set (Y i) (d (H us (Y i) 0) (2^(min (Y (Q R s)) (A5 .u32))))) s (Q X (i+1))):=Ab m [bT,.v (J U (H us (Y i) 0)),.l (A (rs.set (Y i) (d (H us (Y i) 0) (2^(min (Y (Q R s)) (A5 .u32)))))),bF] nB (GZ c1 f (Dc g f) j b (show Di (A rs) (Y i*1) [J U (d (H us (Y i) 0) (2^(min (Y (Q R s)) (A5 .u32))))]=some (A (rs.set (Y i) (d (H us (Y i) 0) (2^(min (Y (Q R s)) (A5 .u32)))))) from (DX o b)) h)
theorem Aoi(c1:E (i<n)=false):Z Tj (KO k us n c e a rs s i) xZ8 (KO k us n c e a rs s i):=Ab m [bF] nB (BO c1)
end
theorem Adf(xs a:G)(b:Int)(c1:E (b<0)=true)(c:F (A xs)=F xs*1)(d:F xs<=35184372088832)(e:T 151 [sL A xs,sL A a] (J X b)):T 180 [sL A xs,sL A a] (A3 [P 0 [],sL A xs]):=CQ Qa (L 1 (C (sL A a)::L 2 (Ak 1 0 []::Ak 1 (F xs) (A xs)::L 276 []))) (As (As (As (As (As (As (As (AA (AG (Ab m [.r (J X b),bT] [1,4,5] (FJ e c1 c d)))))))))))
theorem Adg(xs a b:G)(d c:Int)(c1:E (d<0)=false)(f:((F a:Int)==1)=true)(g:T 151 [sL A xs,sL A a] (J X d))(e:0<=(0:Int)/\(0:Int)<(F a:Int))(h:T 187 [sL A xs,J U (H a (Y 0) 0)] (A3 [sL A b,J U c])):T 180 [sL A xs,sL A a] (A3 [sL A b,P 1 [J U c]]):=CQ Qa (L 1 (C (sL A a)::L 2 (C (sL A b)::Ak 1 1 [J U c]::L 276 []))) (As (As (As (As (As (As (As (AA (AG (Ab m [.r (J X d),bF,bT,.v (J U (H a (Y 0) 0)),.r (A3 [sL A b,J U c])] [1,4,5] (Gm g c1 f e (B7 e) h)))))))))))
theorem Adh(xs a us ws d vs b rs:G)(e s n t o j:Int)(k c f:Nat)(c1:E (e<0)=false)(p:((F a:Int)==1)=false)(q:T 151 [sL A xs,sL A a] (J X e))(h:0<=Q X (F a-1)/\Q X (F a-1)<(F a:Int))(u:T 188 [J U (H a (Y (Q X (F a-1))) 0)] (J X s))(w:0<=(F a:Int))(g:0<=Y (F a)/\Y (F a)<=F ws/\F ws<=F ws/\(false=true->true=true))(x:T 189 [sL A xs,J X s] (Ae 1 (F us) (A us)))(y:T 189 [sL A a,J X s] (Ae 1 (F ws) (A ws)))(z:0<=Q X (Q X (F xs-F a)+1)/\Q X (Q X (F xs-F a)+1)<=1048576)(i:0<=Q X (F a-1)/\Q X (F a-1)<((((Y (F a))-0):Nat):Int))(l:0<=Q X (F a-2)/\Q X (F a-2)<((((Y (F a))-0):Nat):Int))(B:Z (.loop Sk) ((L 4 (Ak 1 (Y (Q X (Q X (F xs-F a)+1))) (C_ [J U 0] (Y (Q X (Q X (F xs-F a)+1))))::L 3 (N s::Ak 1 (F us) (A us)::C (P ((Y (F a))-0) (BF (((Y (F a))-0)*1) (AL (0*1) (A ws))))::N (F a:Int)::L 1 (C (J R (Q R (H ((ws.drop 0).take ((Y (F a))-0)) (Y (Q X (F a-1))) 0)))::C (J R (Q R (H ((ws.drop 0).take ((Y (F a))-0)) (Y (Q X (F a-2))) 0)))::N (Q X (F xs-F a))::L 266 []))))) xZ0 (J9 k d vs n t o c b s j))(D:0<=n/\n<=1048576)(I:Z (.loop Tj) ((L 4 (Ak 1 c (A b)::Ak 1 (Y n) (C_ [J U 0] (Y n))::L 2 (N s::Ak 1 k (A d)::L 1 (N n::L 16 (N 0::L 253 [])))))) xZ8 (KO k d n c b f rs s n)):T 180 [sL A xs,sL A a] (A3 [P c (A b),P f (A rs)]):=CQ Qa (L 4 (Ak 1 c (A b)::Ak 1 f (A rs)::L 276 [])) (As (As (As (As (As (As (As (AA (Ag (Ab m [.r (J X e),bF,bF,.v (J U (H a (Y (Q X (F a-1))) 0)),.r (J X s),.r (Ae 1 (F us) (A us)),.r (Ae 1 (F ws) (A ws)),.v (J U (H ((ws.drop 0).take ((Y (F a))-0)) (Y (Q X (F a-1))) 0)),.v (J U (H ((ws.drop 0).take ((Y (F a))-0)) (Y (Q X (F a-2))) 0))] RL (OX q c1 p h (B7 h) u x y (GZ w g z i (XR i g) l (XR l g)))) (Ag (A7 B) (AA (Ag (Ab m [] nB (BO D)) (Ag (A7 I) (Ab m [] [4,5] a0))))))))))))))
def TQA:Dd:=TWB
theorem Adi:CT DP TQA:=m
theorem Aoj{xs:G}{d:Int}(hx:B9 xs)(hd:0<d/\d<4294967296)(A:F xs<=1048576):∀ (i:Nat) (qs:G) (r:Int),i<=F xs->F qs=F xs->B9 qs->0<=r/\r<d->(∀ t,t<i->H qs t 0=0) ->
  ∃ a b,Z (.loop oK) (U5 xs d (F xs) qs r (i-1)) xZ0 (U5 xs d (F xs) a b (-1))/\F a=F xs/\B9 a/\(0<=b/\b<d)/\d*An a+b=d*An qs+4294967296^i*r+An (xs.take i):=by
 intro i;induction i with
 | zero =>
  intro qs r _ c f hr _;refine⟨qs,r,Aq (A3m xs d (F xs) qs r _ (by simp)),c,f,hr,by simp[An]⟩
 | succ i k =>
  intro qs r hi c f hr hz;have l:(((i+1:Nat):Int)-1)=(i:Nat):=by omega
  have m:Q X (i-1)=(i:Int)-1:=By (by omega) (by omega);have o:=Bn hx i;have e:=A3l xs d (F xs) qs r (i:Nat) (by simp) (by omega) (by rw[D9 (by omega)];omega) (by omega) c;rw[m,Aa,Qr (by omega) o,D9 (n:=d) (by omega)] at e;have g:0<=r*4294967296+H xs i 0:=by omega
  rw[Cu g,BY g] at e;generalize hv:r*4294967296+H xs i 0=v at *
  have B:=Ik v d;have p:=Hu v (show d ≠ 0 by omega);have q:=FH v hd.1;have h:0<=v / d:=Kr g (by omega);have j:v / d<4294967296:=by
   apply N4 hd.1;have:=Ap (show r<=d-1 by omega) (show (0:Int)<=4294967296 by omega);have:(d-1)*4294967296=4294967296*d-4294967296:=by omega
   omega
  rw[D9 (n:=v / d) (by omega),VH ⟨h,j⟩] at e;obtain⟨a,b,s,u,w,x,y⟩:=k (qs.set i (v / d)) (v % d) (by omega) (by simpa using c) (Ds f ⟨h,j⟩) ⟨p,q⟩ (fun t C=>by rw[Dp (by omega)];exact hz t (by omega));rw[l];refine⟨a,b,Bk e s,u,w,x,?_⟩;rw[y,EW _ _ _ (by omega),hz i (by omega),Fc xs i (by omega),AD];generalize (4294967296:Int)^i=P at *
  have z:H xs i 0=d*(v / d)+v % d-r*4294967296:=by omega
  rw[z];grind
theorem fE{xs:G}{d:Int}(hx:B9 xs)(hd:0<d/\d<4294967296)(a:F xs<=1048576):∃ qs r,F (qs:G)=F xs/\B9 qs/\(0<=r/\r<d)/\d*An qs+r=An xs/\T 187 [sL A xs,J U d] (A3 [sL A qs,J U r]):=by
 obtain⟨qs,r,h1,h2,b,c,e⟩:=Aoj hx hd a (F xs) (AI (F xs) 0) 0 (A2 _) (by simp) (Gp _) (by omega) (fun t _=>EB _ _);refine⟨qs,r,h2,b,c,?_,?_⟩
 ·rw[e,FX,DV];omega
 ·have h:=A3n xs qs d r (-1) (F xs) (by omega) (by
   rw[Aa,G4,wqz];exact h1)
  rw[VH (n:=r) (by omega)] at h;unfold sL;rw[h2];exact h
theorem Aok{xs:G}{s:Nat}(hx:B9 xs)(hs:s<32)(K:F xs<1048576):∀ (r i:Nat) (os:G),i+r=F xs->F os=F xs+1->B9 os->An os=2^s*An (xs.take i)->H os i 0<2^s->(∀ t,i<t->H os t 0=0) ->
  ∃ c,Z (.loop oL) (U6 xs (s:Nat) (F xs+1) os (F xs:Nat) (i:Nat)) xZ0 (U6 xs (s:Nat) (F xs+1) c (F xs:Nat) (F xs:Nat))/\F c=F xs+1/\B9 c/\An c=2^s*An xs:=by
 intro r;induction r with
 | zero =>
  intro i os hi d f hv _ _;have:i=F xs:=by omega
  subst this;exact⟨os,Aq (A3p xs _ _ os _ _ (by simp)),d,f,by rw[hv,DV]⟩
 | succ r m =>
  intro i os hi d f hv hc hz;have k:Q X (i+1)=((i+1:Nat):Int):=wrz
  have p:=Bn hx i;have u:=Bn f i;obtain⟨v,w,x,q,y,h⟩:=bB p hs;have z:(2:Int)^(min (Y (Q R s)) (A5 .u64))=2^s:=by
   rw[D9 (by omega),Aa];congr 1;show min s 64=s;omega
  have g:=A3o xs (s:Nat) (F xs+1) os (F xs:Nat) (i:Nat) (by simp;omega) (by omega) (by rw[D9 (by omega)];omega) (by omega) d (by rw[k];omega) (by simpa using d);rw[k,Aa,Aa,D9 (n:=H xs i 0) (by omega),z,D9 ⟨v,w⟩,jI,Fb (H xs i 0*2^s),h] at g;have j:q*2^s<4294967296:=by rw[<- h];omega
  rw[A3h y j (by omega) ⟨u.1,hc⟩] at g;have l:0<=H xs i 0*2^s / 4294967296:=by omega
  have L:(2:Int)^s<=4294967296:=by have:=Iq (show s<=32 by omega);rwa [show (2:Int)^32=4294967296 by decide] at this
  rw[VH ⟨l,by omega⟩] at g;have A:0<=q*2^s+H os i 0/\q*2^s+H os i 0<4294967296:=by
   have M:0<=q*2^s:=by rw[<- h];omega
   refine⟨by omega,?_⟩;have e:(4294967296:Int)=2^(32-s)*2^s:=by
    rw[<- Cc,show 32-s+s=32 by omega];decide
   rw[e] at j |-;have hp:=CA s;have:=CY j (by omega);have:=Ap (show q+1<=2^(32-s) by omega) (show (0:Int)<=2^s by omega);rw[H2,D0] at this;omega
  obtain⟨c,B,C,D,E⟩:=m (i+1) ((os.set i (q*2^s+H os i 0)).set (i+1) (H xs i 0*2^s / 4294967296)) (by omega) (by simpa using d) (Ds (Ds f A) ⟨l,by omega⟩) (by
    rw[EW _ _ _ (by simp;omega),EW _ _ _ (by omega),Dp (by omega),hz (i+1) (by omega),hv,Fc xs i (by omega),AD];have I:H xs i 0*2^s=4294967296*(H xs i 0*2^s / 4294967296)+q*2^s:=by omega
    generalize (4294967296:Int)^i=P at *
    generalize H xs i 0*2^s / 4294967296=a at *
    generalize H os i 0=o at *
    generalize q*2^s=b at *
    have J:(2:Int)^s*(An (xs.take i)+P*H xs i 0)=2^s*An (xs.take i)+P*(H xs i 0*2^s):=by grind
    rw[J,I];grind) (by
    rw[show H ((os.set i (q*2^s+H os i 0)).set (i+1) (H xs i 0*2^s / 4294967296)) (i+1) 0=H xs i 0*2^s / 4294967296 by simp[Ad,show i+1<F os by omega]];exact x) (fun t N=>by rw[Dp (by omega),Dp (by omega)];exact hz t (by omega))
  exact⟨c,Bk g B,C,D,E⟩
theorem VL{xs:G}{s:Nat}(hx:B9 xs)(hs:s<32)(a:F xs<1048576):∃ os,F (os:G)=F xs+1/\B9 os/\An os=2^s*An xs/\T 189 [sL A xs,J X (s:Nat)] (Ae 1 (F os) (A os)):=by
 obtain⟨os,h1,h2,b,c⟩:=Aok hx hs a (F xs) 0 (AI (F xs+1) 0) (by omega) (by simp) (Gp _) (by rw[FX];simp[An]) (by rw[EB];exact CA s) (fun t _=>EB _ _);refine⟨os,h2,b,c,?_⟩;have e:Q X (F xs+1)=((F xs+1:Nat):Int):=wrz
 have h:=A3q xs os (s:Nat) (F xs:Nat) (F xs:Nat) (F xs+1) (by rw[e];omega) (by rw[e,Aa,G4];exact h1);rw[h2];exact h
section
variable {k:Nat} {us vs:G} {kq:Nat} {qs:G} {s:Int} {j m:Nat}
theorem Adj(q:F us=k)(M:k<=1048577)(hj:j+m+2<k)(h:Dig m (An vs) (An (us.drop j)) (H vs (m+1) 0) (H vs m 0) (H us (j+m+2) 0) (H us (j+m+1) 0) (H us (j+m) 0)):∀ (f:Nat) (g r:Int),g.toNat<=f ->
  DigI (An vs) (An (us.drop j)) (H vs (m+1) 0) (H us (j+m+2) 0*4294967296+H us (j+m+1) 0) g r->r<4294967296 ->
  ∃ c u,Z (.loop KN) (FE k us vs ((m+2:Nat)) (H vs (m+1) 0) (H vs m 0) kq qs s (j:Nat) g r) xZ2 (FE k us vs ((m+2:Nat)) (H vs (m+1) 0) (H vs m 0) kq qs s (j:Nat) c u) /\
   (0<=c/\c<4294967296)/\An (us.drop j)<(c+1)*An vs/\c*An vs<An (us.drop j)+An vs:=by
 have N:=h.htop;have x:=h.hnxt;have hz:=h.hz;have d:Q X (Q X (j+(m+2:Nat))-2)=((j+m:Nat):Int):=by
  rw[By (n:=(j:Int)+((m+2:Nat):Int)) (by omega) (by omega),wqz];omega
 intro f;induction f with
 | zero =>
  intro g r A i hr;have l:g=0:=by have:=i.g0;omega
  subst l;have O:¬ (r*4294967296+H us (j+m) 0<0*H vs m 0):=by have:=i.r0;omega
  have v:=jK k us vs ((m+2:Nat)) (H vs (m+1) 0) (H vs m 0) kq qs s (j:Nat) 0 r (by simp) (by
   rw[d,Aa,Qr ⟨i.r0,hr⟩ hz,D9 (n:=0*H vs m 0) (by omega),AW];omega) (by rw[d];omega) q
  exact⟨0,r,Aq v,by omega,i.up,h.out i (by omega) (TQ (by omega))⟩
 | succ f B =>
  intro g r A i hr;have C:=i.gle;have D:=i.g0;have G:=i.r0;have I:0<=g*H vs m 0/\g*H vs m 0<18446744073709551616:=by
   have a:=A8 D x.1;have b:=Fk C (show H vs m 0<=4294967295 by omega) x.1 (by omega);omega
  have e:Q R (r+H vs (m+1) 0)=r+H vs (m+1) 0:=D9 (by omega);have w:(E (Q R (g*H vs m 0)>Q R ((Aj (A5 .u64) (Q R (r*2^(min (Y 32) (A5 .u64)))) ||| Aj (A5 .u64) (Q R (H us (Y (Q X (Q X (j+(m+2:Nat))-2))) 0))).toNat)):Bool)=decide (r*4294967296+H us (j+m) 0<g*H vs m 0):=by
   rw[d,Aa,Qr ⟨G,hr⟩ hz,D9 I]
  by_cases hc:4294967296<=g\/r*4294967296+H us (j+m) 0<g*H vs m 0
  ·have o:=h.step i hc;have J:=o.g0;have y:Q R (g-1)=g-1:=D9 (by omega);by_cases t:4294967296<=r+H vs (m+1) 0
   ·have z:=h.small_g o t;have p:Z KN (FE k us vs ((m+2:Nat)) (H vs (m+1) 0) (H vs m 0) kq qs s (j:Nat) g r) xZ2 (FE k us vs ((m+2:Nat)) (H vs (m+1) 0) (H vs m 0) kq qs s (j:Nat) (Q R (g-1)) (Q R (r+H vs (m+1) 0))):=by
     by_cases l:4294967296<=g
     ·exact Any k us vs _ _ _ kq qs s _ g r (by simpa using l) (by rw[e];simpa using t)
     ·exact Aoa k us vs _ _ _ kq qs s _ g r (by simp;omega) (by rw[w,AZ];omega) (by rw[e];simpa using t) (by rw[d];omega) q
    rw[y,e] at p;exact⟨g-1,_,Aq p,⟨J,z⟩,o.up,h.out o z (Alo t)⟩
   ·have p:Z KN (FE k us vs ((m+2:Nat)) (H vs (m+1) 0) (H vs m 0) kq qs s (j:Nat) g r) .norm (FE k us vs ((m+2:Nat)) (H vs (m+1) 0) (H vs m 0) kq qs s (j:Nat) (Q R (g-1)) (Q R (r+H vs (m+1) 0))):=by
     by_cases l:4294967296<=g
     ·exact Anz k us vs _ _ _ kq qs s _ g r (by simpa using l) (by rw[e,AW];omega)
     ·exact Aob k us vs _ _ _ kq qs s _ g r (by simp;omega) (by rw[w,AZ];omega) (by rw[e,AW];omega) (by rw[d];omega) q
    rw[y,e] at p;obtain⟨c,u,K,L⟩:=B (g-1) (r+H vs (m+1) 0) (by omega) o (by omega);exact⟨c,u,Bk p K,L⟩
  ·have v:=jK k us vs ((m+2:Nat)) (H vs (m+1) 0) (H vs m 0) kq qs s (j:Nat) g r (by simp;omega) (by rw[w,AW];omega) (by rw[d];omega) q;exact⟨g,r,Aq v,by omega,i.up,h.out i (by omega) (TQ (by omega))⟩
end
section
variable {k:Nat} {vs:G} {t t2:Int} {kq:Nat} {qs:G} {s:Int} {j:Nat} {g:Int}
theorem Adk(hv:B9 vs)(x:k<=1048577)(a:0<=g/\g<4294967296)(hj:j+F vs<=k):∀ (r i:Nat) (us:G) (b c:Int),r+i=F vs->F us=k->B9 us->0<=b/\b<=1->0<=c/\c<4294967296 ->
  Z (.loop VK) (LR k us vs (F vs:Nat) t t2 kq qs s (j:Nat) g b c (i:Nat)) xZ4 (LR k (H1 g vs j r i us b c).1 vs (F vs:Nat) t t2 kq qs s (j:Nat) g (H1 g vs j r i us b c).2.1 (H1 g vs j r i us b c).2.2 (F vs:Nat)):=by
 intro r;induction r with
 | zero =>
  intro i us b c hi _ _ _ _;have:i=F vs:=by omega
  subst this;exact Aq (Aod k us vs _ t t2 kq qs s _ g b c _ (by simp))
 | succ r m =>
  intro i us b c hi e f hb hc;have o:Q X (i+1)=((i+1:Nat):Int):=wrz
  have h:Q X (i+j)=((i+j:Nat):Int):=wrz
  have l:=Bn hv i;have y:=Bn f (i+j);have q:=ZR a l hc;have z:=A8 a.1 l.1;have h1:=Aoc k us vs (F vs:Nat) t t2 kq qs s (j:Nat) g b c (i:Nat) (by simp;omega) (by omega) (by rw[h];omega) e;rw[h,o,Aa,Aa,D9 (n:=H vs i 0) (by omega),D9 (n:=H us (i+j) 0) (by omega),D9 (n:=g*H vs i 0) (by omega),D9 q,jI,A3g,Fb (g*H vs i 0+c)] at h1;generalize hp:g*H vs i 0+c=p at *
  rw[D9 (n:=p % 4294967296) (by omega),Cz,Cz] at h1;have u:H1 g vs j (r+1) i us b c=H1 g vs j r (i+1) (us.set (i+j) ((H us (i+j) 0-p % 4294967296-b) % 4294967296)) (if H us (i+j) 0-p % 4294967296-b<0 then 1 else 0) (p / 4294967296):=by rw[H1,hp]
  generalize hd:H us (i+j) 0-p % 4294967296-b=d at *
  have v:Q U (((H us (i+j) 0-p % 4294967296) % 18446744073709551616-b) % 18446744073709551616)=d % 4294967296:=by rw[Fb];omega
  have w:((H us (i+j) 0-p % 4294967296) % 18446744073709551616-b) % 18446744073709551616 / 9223372036854775808=(if d<0 then 1 else 0):=by split <;> omega
  rw[v,w] at h1;rw[u];exact Bk h1 (m (i+1) _ _ _ (by omega) (by simpa using e) (Ds f (by omega)) (by split <;> omega) (by omega))
theorem Adl(hv:B9 vs)(h:k<=1048577)(hj:j+F vs<=k):∀ (r i:Nat) (us:G) (c:Int),r+i=F vs->F us=k->B9 us->0<=c/\c<=1 ->
  Z (.loop YY) (O9 k us vs (F vs:Nat) t t2 kq qs s (j:Nat) g c (i:Nat)) xZ6 (O9 k (Kx vs j r i us c).1 vs (F vs:Nat) t t2 kq qs s (j:Nat) g (Kx vs j r i us c).2 (F vs:Nat)):=by
 intro r;induction r with
 | zero =>
  intro i us c hi _ _ _;have:i=F vs:=by omega
  subst this;exact Aq (Aof k us vs _ t t2 kq qs s _ g c _ (by simp))
 | succ r e =>
  intro i us c hi a b hc;have f:Q X (i+1)=((i+1:Nat):Int):=wrz
  have d:Q X (i+j)=((i+j:Nat):Int):=wrz
  have l:=Bn hv i;have m:=Bn b (i+j);have h1:=Aoe k us vs (F vs:Nat) t t2 kq qs s (j:Nat) g c (i:Nat) (by simp;omega) (by rw[d];omega) a (by omega);rw[d,f,Aa,Aa,D9 (n:=H vs i 0) (by omega),D9 (n:=H us (i+j) 0) (by omega),D9 (n:=H us (i+j) 0+H vs i 0) (by omega),D9 (n:=H us (i+j) 0+H vs i 0+c) (by omega),jI,Fb] at h1;exact Bk h1 (e (i+1) _ _ (by omega) (by simpa using a) (Ds b (by omega)) (by omega))
end
theorem A3u{a c b:Int}(hX:0<=a/\a<4294967296)(hc:0<=c/\c<4294967296)(hb:0<=b/\b<=1) :
  d (Q R (Q R (Q R a-c)-b)) (2^(min (Y 63) (A5 .u64)))=(if a-c-b<0 then 1 else 0)/\Q U (Q R (Q R (Q R a-c)-b))=(a-c-b) % 4294967296:=by
 rw[A3g,D9 (n:=a) (by omega),Cz,Cz,Fb];refine⟨?_,by omega⟩;split <;> omega
section
variable {vs:G} {m:Nat} {k kq:Nat} {s:Int}
theorem Aol(hv:B9 vs)(w:F vs=m+2)(x:2147483648<=H vs (m+1) 0)(hk:k=kq+F vs)(l:k<=1048577):∀ (i:Nat) (us qs:G),i<=kq->F us=k->B9 us->F qs=kq->B9 qs->(∀ t,t<i->H qs t 0=0)->An (us.drop i)<An vs ->
  ∃ a b,Z (.loop Sk) (J9 k us vs (F vs:Nat) (H vs (m+1) 0) (H vs m 0) kq qs s (i-1)) xZ0 (J9 k a vs (F vs:Nat) (H vs (m+1) 0) (H vs m 0) kq b s (-1)) /\
   F a=k/\B9 a/\F b=kq/\B9 b/\An a<An vs/\An us=An vs*(An b-An qs)+An a:=by
 intro i;induction i with
 | zero =>
  intro us qs _ h1 h2 d o _ h;exact⟨us,qs,Aq (A3t k us vs _ _ _ kq qs s _ (by simp)),h1,h2,d,o,h,by rw[TA,Be,E7]⟩
 | succ i U =>
  intro us qs hi h1 h2 d o y h;have V:(((i+1:Nat):Int)-1)=(i:Nat):=by omega
  have z:Q X (i-1)=(i:Int)-1:=By (by omega) (by omega);have en:Q X (i+F vs)=((i+F vs:Nat):Int):=wrz
  have p:Q X ((i+F vs:Nat)-1)=((i+m+1:Nat):Int):=wrz
  have c:=Ajy (us:=us) (vs:=vs) (j:=i) (m:=m) h2 hv w (by omega) x h;have u:=c.init;have b6:=FH (H us (i+m+2) 0*4294967296+H us (i+m+1) 0) (show 0<H vs (m+1) 0 by omega);have b7:=c.htop;obtain⟨g,r,A,f,W,q4⟩:=Adj (k:=k) (kq:=kq) (qs:=qs) (s:=s) h1 l (by omega) c _ _ _ (A2 _) u (by omega);rw[<- w] at A;have B:0<=H us (i+m+2) 0*4294967296+H us (i+m+1) 0:=by have:=c.hx;have:=c.hy;omega
  have a8:=u.g0;have b8:=u.gle;have C:Z (.loop KN) (FE k us vs (F vs:Nat) (H vs (m+1) 0) (H vs m 0) kq qs s (i:Nat) (Q R (AF (Q R ((Aj (A5 .u64) (Q R (Q R (H us (Y (Q X (i+F vs))) 0)*2^(min (Y 32) (A5 .u64)))) ||| Aj (A5 .u64) (Q R (H us (Y (Q X (Q X (i+F vs)-1))) 0))).toNat)) (H vs (m+1) 0))) (Bl (Q R ((Aj (A5 .u64) (Q R (Q R (H us (Y (Q X (i+F vs))) 0)*2^(min (Y 32) (A5 .u64)))) ||| Aj (A5 .u64) (Q R (H us (Y (Q X (Q X (i+F vs)-1))) 0))).toNat)) (H vs (m+1) 0))) xZ2 (FE k us vs (F vs:Nat) (H vs (m+1) 0) (H vs m 0) kq qs s (i:Nat) g r):=by
   rw[en,p,Aa,Aa,show i+F vs=i+m+2 by omega,D9 (n:=H us (i+m+2) 0) (by have:=c.hx;omega),Qr c.hx c.hy,Cu B,BY B,D9 ⟨a8,by omega⟩];exact A
  have D:=Adk (k:=k) (t:=H vs (m+1) 0) (t2:=H vs m 0) (kq:=kq) (qs:=qs) (s:=s) (j:=i) (g:=g) hv l f (by omega) (F vs) 0 us 0 0 (by omega) h1 h2 (by omega) (by omega);have a9:=ZS (j:=i) f hv (F vs) 0 us 0 0 (by omega) (by omega) h2 (by omega) (by omega);have E:=XU h2 hv (j:=i) (by omega) h f W q4;generalize hM:H1 g vs i (F vs) 0 us 0 0=M at *
  obtain⟨m1,I,m3,m4,_,_⟩:=a9;obtain⟨J,K⟩:=A3u (Bn I (i+F vs)) m4 m3;dsimp only at E;obtain⟨S1,v⟩:=E;have L:∀ (ws:G) (q:Int),StepOk us vs ws i q->(0<=q/\q<4294967296)->Z Sk (J9 k us vs (F vs:Nat) (H vs (m+1) 0) (H vs m 0) kq qs s (i:Nat)) .norm (J9 k ws vs (F vs:Nat) (H vs (m+1) 0) (H vs m 0) kq (qs.set i q) s (i-1)) ->
    ∃ a b,Z (.loop Sk) (J9 k us vs (F vs:Nat) (H vs (m+1) 0) (H vs m 0) kq qs s (i:Nat)) xZ0 (J9 k a vs (F vs:Nat) (H vs (m+1) 0) (H vs m 0) kq b s (-1)) /\
   F a=k/\B9 a/\F b=kq/\B9 b/\An a<An vs/\An us=An vs*(An b-An qs)+An a:=by
   intro ws q hs hq b0;obtain⟨a,b,a1,a2,a3,a4,a5,a6,a7⟩:=U ws (qs.set i q) (by omega) (by rw[hs.len];exact h1) hs.u32 (by simpa using d) (Ds o hq) (fun t x=>by rw[Dp (by omega)];exact y t (by omega)) hs.low;refine⟨a,b,Bk b0 a1,a2,a3,a4,a5,a6,?_⟩;have e:=hs.val;rw[EW _ _ _ (by omega),y i (by omega),FV] at a7;generalize (4294967296:Int)^i=P at *
   grind
  rw[V];by_cases hd:H M.1 (i+F vs) 0-M.2.2-M.2.1<0
  ·obtain⟨v,b9⟩:=v hd;have N:B9 (M.1.set (i+F vs) ((H M.1 (i+F vs) 0-M.2.2-M.2.1) % 4294967296)):=Ds I (by omega);have b4:=Adl (k:=k) (t:=H vs (m+1) 0) (t2:=H vs m 0) (kq:=kq) (qs:=qs) (s:=s) (j:=i) (g:=g-1) hv l (by omega) (F vs) 0 (M.1.set (i+F vs) ((H M.1 (i+F vs) 0-M.2.2-M.2.1) % 4294967296)) 0 (by omega) (by rw[BH,m1];exact h1) N (by omega);have b5:=ZT (j:=i) hv (F vs) 0 (M.1.set (i+F vs) ((H M.1 (i+F vs) 0-M.2.2-M.2.1) % 4294967296)) 0 (by omega) (by rw[BH,m1];omega) N (by omega);obtain⟨b1,b2,b3,_,_⟩:=b5;generalize hB:Kx vs i (F vs) 0 (M.1.set (i+F vs) ((H M.1 (i+F vs) 0-M.2.2-M.2.1) % 4294967296)) 0=Bb at *
   have O:Q R (g-1)=g-1:=D9 (by omega);have S:=A3r k us vs (F vs:Nat) (H vs (m+1) 0) (H vs m 0) kq qs s (i:Nat) M.1 Bb.1 g r M.2.1 M.2.2 Bb.2 (by simp) (by rw[en,Aa,J,Ar hd];rfl) (by rw[en];omega) h1 (by rw[en,p];omega) (by omega) C D (by rw[m1];exact h1) (by rw[en,Aa,K,O];exact b4) (by rw[b1,BH,m1];exact h1) (by omega) d;rw[en,Aa,O,Aa,VH (n:=g-1) (by omega),z,VH (n:=Bb.2) (by omega),Fb] at S;exact L _ _ v (by omega) S
  ·have T:=A3s k us vs (F vs:Nat) (H vs (m+1) 0) (H vs m 0) kq qs s (i:Nat) M.1 g r M.2.1 M.2.2 (by simp) (by rw[en,Aa,J,Aw hd];rfl) (by rw[en];omega) h1 (by rw[en,p];omega) (by omega) C D (by rw[m1];exact h1) (by omega) d;rw[en,Aa,Aa,K,VH (n:=g) f,z] at T;exact L _ _ (S1 (by omega)) f T
end
def TQB:Dd:=TQA
theorem Ew:CT DP TQB:=Adi
theorem A3v(d e a nb:Bool)(xs f b bs c rs:G)(v w:Int)(g:T 143 [Ao [W d,sL A xs]] (A3 [W a,sL A b]))(h:T 143 [Ao [W e,sL A f]] (A3 [W nb,sL A bs]))(i:T 180 [sL A b,sL A bs] (A3 [sL A c,sL A rs]))(j:T 152 [W (!(a==nb)),sL A c] (M v))(k:T 152 [W a,sL A rs] (M w)):T 158 [Ao [W d,sL A xs],Ao [W e,sL A f]] (A3 [M v,M w]):=Bc (fn:=iF AC Azn) Ew rfl 400 rfl [.r (A3 [W a,sL A b]),.r (A3 [W nb,sL A bs]),.r (A3 [sL A c,sL A rs]),.r (M v),.r (M w)] (Ff g h i j k)
def oM:ICode:=a Aat 93 116
section
variable(xs:G)(v n i:Int)
def Sl:Az:=L 3 (C (J R v)::L 3 (C (sL A xs)::N n::N i::L 14 []))
theorem A3w(c1:E (i<n)=true)(a:0<=i/\i<F xs)(b:¬ (Q R (Q X (32*i)))<0):Z oM (Sl xs v n i) .norm (Sl xs (Q R ((Aj (A5 .u64) v ||| Aj (A5 .u64) (Q R (Q R (H xs (Y i) 0)*2^(min (Y (Q R (Q X (32*i)))) (A5 .u64))))).toNat)) n (Q X (i+1))):=Ab Ew [bT,.v (J U (H xs (Y i) 0))] [3,7,8,9] (FJ c1 a (B7 a) b)
theorem A3x(c1:E (i<n)=false):Z oM (Sl xs v n i) xZ0 (Sl xs v n i):=Ab Ew [bF] [3,7,8,9] (BO c1)
end
theorem A3y(n:Bool)(xs:G)(v i m:Int)(a:Z (.loop oM) (Sl xs 0 (F xs) 0) xZ0 (Sl xs v m i)):T 183 [Ao [W n,sL A xs]] (J R v):=CQ Aat (L 2 (C (J R v)::L 21 [])) (As (AA (Ag (Ab Ew [] [3,7,8,9] a0) (Ag (A7 a) (Ab Ew [] [2] a0)))))
theorem A3z(n v:Int)(a:T 152 [W false,P 2 [J U (Q U n),J U (Q U (d n (2^(min (Y 32) (A5 .u64)))))]] (M v)):T 181 [J R n] (M v):=Bc (fn:=iF AC Azs) Ew rfl 400 rfl [.r (M v)] (DH K9 a)
def oN:ICode:=a Aas 95 24
section
variable(a b:Int)
def Sm:Az:=C (J R a)::C (J R b)::L 10 []
theorem A4a(c1:E (b>0)=true)(c:¬ b=0):Z oN (Sm a b) .norm (Sm b (Bl a b)):=Ab Ew [bT] [0,1] (DH c1 c)
theorem uZ(c1:E (b>0)=false):Z oN (Sm a b) xZ0 (Sm a b):=Ab Ew [bF] [0,1] (BO c1)
end
theorem A4b(a b c d:Int)(e:Z (.loop oN) (Sm a b) xZ0 (Sm c d)):T 182 [J R a,J R b] (J R c):=CQ Aas (L 4 (C (J R c)::L 7 [])) (Ag (Ab Ew [] [0,1] a0) (Ag (A7 e) (Ab Ew [] [4] a0)))
def Qs:ICode:=a mT 94 56
section
variable(x y z:Rn)
def I7:Az:=L 4 (AH [W z.1,P (F z.2) (A z.2)]::AH [W x.1,P (F x.2) (A x.2)]::AH [W y.1,P (F y.2) (A y.2)]::L 35 [])
theorem A4c(c d e g:Int)(c1:E ((F y.2:Int)>0)=true)(a:E ((F x.2:Int)<=2)=true)(f:E ((F y.2:Int)<=2)=true)(b:T 183 [AB x] (J R c))(h:T 183 [AB y] (J R d))(i:T 182 [J R c,J R d] (J R e))(j:T 181 [J R e] (M g)):Z Qs (I7 x y z) .ret (I7 x y (V g)):=Ab Ew [bT,bT,bT,.r (J R c),.r (J R d),.r (J R e),.r (M g)] Lm (GZ c1 a f b h i j)
theorem A4d(q r:Int)(c1:E ((F y.2:Int)>0)=true)(a:E ((F x.2:Int)<=2)=true)(f:E ((F y.2:Int)<=2)=false)(b:T 158 [AB x,AB y] (A3 [M q,M r])):Z Qs (I7 x y z) .norm (I7 y (V r) z):=Ab Ew [bT,bT,bF,.r (A3 [M q,M r])] Lm (FJ c1 a f b)
theorem A4e(q r:Int)(c1:E ((F y.2:Int)>0)=true)(a:E ((F x.2:Int)<=2)=false)(b:T 158 [AB x,AB y] (A3 [M q,M r])):Z Qs (I7 x y z) .norm (I7 y (V r) z):=Ab Ew [bT,bF,bF,.r (A3 [M q,M r])] Lm (FJ c1 a F9 b)
theorem vA(c1:E ((F y.2:Int)>0)=false):Z Qs (I7 x y z) xZ0 (I7 x y z):=Ab Ew [bF] Lm (BO c1)
end
section
variable(a b:Bool)(xs c:G)(v w:Int)(x y z:Rn)
theorem Adm(d:T 160 [Ao [W a,sL A xs]] (M v))(e:T 160 [Ao [W b,sL A c]] (M w))(f:Z (.loop Qs) (I7 (V v) (V w) (false,[])) xZ0 (I7 x y z)):T 159 [Ao [W a,sL A xs],Ao [W b,sL A c]] (AB x):=CQ mT (L 4 (AH [W x.1,P (F x.2) (A x.2)]::L 37 [])) (As (Ag (Ab Ew [.r (M v),.r (M w)] Lm (DH d e)) (Ag (A7 f) (Ab Ew [] [4] a0))))
theorem Adn(d:T 160 [Ao [W a,sL A xs]] (M v))(e:T 160 [Ao [W b,sL A c]] (M w))(f:Z (.loop Qs) (I7 (V v) (V w) (false,[])) .ret (I7 x y z)):T 159 [Ao [W a,sL A xs],Ao [W b,sL A c]] (AB z):=CQ mT (L 4 (AH [W z.1,P (F z.2) (A z.2)]::AH [W x.1,P (F x.2) (A x.2)]::AH [W y.1,P (F y.2) (A y.2)]::L 35 [])) (As (Ag (Ab Ew [.r (M v),.r (M w)] Lm (DH d e)) (AG (BT f))))
end
def TQC:Dd:=TQB
theorem Ado:CT DP TQC:=Ew
section
variable(g:Nat->Int)(i r:Nat)
def L0:G:=(Ay i).map g++AI r 0
theorem fG:F (L0 g i r)=i+r:=by simp [L0]
theorem Adp:(L0 g i (r+1)).set i (g i)=L0 g (i+1) r:=by
 simp only[L0,Jw,D_,CW,HC];rw[AHm _ _ (by simp)];simp[GO]
end
def En(us:G)(s i:Nat):Int:=H us (i+1) 0 % 2^s*2^(32-s)+H us i 0 / 2^s
theorem VM{us:G}(a:B9 us){s:Nat}(hs:s<32)(i:Nat):(0<=H us i 0 / 2^s/\H us i 0 / 2^s<2^(32-s))/\0<=H us (i+1) 0 % 2^s/\H us (i+1) 0 % 2^s*2^(32-s)<4294967296/\(0<=En us s i/\En us s i<4294967296):=by
 have b:=Bn a i;have h1:=Bn a (i+1);have hp:=CA s;have d:=CA (32-s);have e:=VI (show s<=32 by omega);have c:=Hu (H us (i+1) 0) (show (2:Int)^s ≠ 0 by omega);have f:=FH (H us (i+1) 0) hp;have g:0<=H us i 0 / 2^s:=Kr b.1 (by omega);have h:H us i 0 / 2^s<2^(32-s):=N4 hp (by rw[<- e];exact b.2);unfold En;generalize H us (i+1) 0 % 2^s=x at *
 generalize H us i 0 / 2^s=y at *
 have c1:=Ap (show x+1<=2^s by omega) (show (0:Int)<=2^(32-s) by omega);rw[H2,D0,AT (2^s),<- e] at c1;have j:=A8 c (show (0:Int)<=2^(32-s) by omega);omega
theorem vB{us:G}(s:Nat)(hs:s<32):∀ n,n<=F us->2^s*An ((Ay n).map (En us s))=An (us.take n)-H us 0 0 % 2^s+4294967296^n*(H us n 0 % 2^s):=by
 intro n;induction n with
 | zero =>
  intro _;simp only[List.range_zero,HC,OQ,An,DC,Be,D0];generalize H us 0 0 % 2^s=w;omega
 | succ n d =>
  intro hn;have e:=VI (show s<=32 by omega);rw[Jw,D_,CW,HC,H',Ac,CF,DJ,d (by omega),Fc us n (by omega),AD];have f:An [En us s n]=En us s n:=by simp[An]
  rw[f];unfold En;have g:=Ik (H us n 0) (2^s);generalize H us (n+1) 0 % 2^s=x at *
  generalize H us n 0 / 2^s=y at *
  generalize H us n 0 % 2^s=z at *
  generalize H us 0 0 % 2^s=w at *
  generalize H us n 0=u at *
  generalize An (us.take n)=c at *
  generalize (4294967296:Int)^n=P at *
  rw[e];generalize (2:Int)^(32-s)=b at *
  generalize (2:Int)^s=a at *
  rw[<- g];grind
theorem Adq{us:G}{k n kq:Nat}{qs:G}{s:Nat}(p:B9 us)(g:F us=k)(hn:n<k)(D:k<=1048577)(hs:s<32) :
  Z (.loop Tj) (KO k us (n:Nat) kq qs n (AI n 0) (s:Nat) 0) xZ8 (KO k us (n:Nat) kq qs n ((Ay n).map (En us s)) (s:Nat) (n:Nat)):=by
 have h:=Et (prog:=DP) (c:=Tj) (ex := .exit 8) (fin:=KO k us (n:Nat) kq qs n ((Ay n).map (En us s)) (s:Nat) (n:Nat))
  (fun i=>KO k us (n:Nat) kq qs n (L0 (En us s) i (n-i)) (s:Nat) (i:Nat)) n (by nofun) ?_ ?_ 0 (A_ _)
 ·simpa [L0] using h
 ·intro i hi;obtain⟨r,hr⟩:∃ r,n-i=r+1:=⟨n-i-1,by omega⟩;have q:n-(i+1)=r:=by omega
  have b:Q X (i+1)=((i+1:Nat):Int):=wrz
  have e:F (L0 (En us s) i (r+1))=n:=by rw[fG];omega
  obtain⟨t,u,w,E⟩:=VM p hs i;have a:Q R s=(s:Nat):=D9 (by omega);have j:min (Y s) (A5 .u32)=s:=by rw[Aa];show min s 32=s;omega
  have hp:=CA s;rw[hr,q,<- Adp];have x:∀ v:Int,H ((L0 (En us s) i (r+1)).set i v) i 0=v:=fun v=>by simp[Ad,show i<F (L0 (En us s) i (r+1)) by omega]
  have l:d (H us i 0) (2^s)=H us i 0 / 2^s:=BX _ (by omega);by_cases y:s=0
  ·subst y;have m:=Aoh k us (n:Nat) kq qs n (L0 (En us 0) i (r+1)) ((0:Nat)) (i:Nat) (by simp;omega) (by simp) (by omega) g (by rw[a];omega) (by omega) e;rw[b,Aa,a,j,l] at m;have z:En us 0 i=H us i 0 / 2^0:=by simp[En,Int.emod_one]
   rw[z];exact m
  ·have o:Q R (Q X (32-s))=((32-s:Nat):Int):=by rw[wqz,D9 (by omega)];omega
   have A:min (Y ((32-s:Nat))) (A5 .u32)=32-s:=by rw[Aa];show min (32-s) 32=32-s;omega
   have f:=Aog k us (n:Nat) kq qs n (L0 (En us s) i (r+1)) s (i:Nat) (by simp;omega) (by simp;omega) (by omega) g (by rw[a];omega) (by omega) e (by simpa using e) (by rw[b];omega) (by rw[o];omega);rw[b,Aa,Aa,a,j,o,A,l,x,Ue,Fb (H us (i+1) 0*2^(32-s))] at f;have B:H us (i+1) 0*2^(32-s) % 4294967296=H us (i+1) 0 % 2^s*2^(32-s):=by
    rw[VI (show s<=32 by omega),AT (H us (i+1) 0),AHo _ _ (CA (32-s)),AT]
   rw[B,A3h u w (by omega) t] at f;exact f
 ·have C:=Aoi k us (n:Nat) kq qs n ((Ay n).map (En us s)) (s:Nat) (n:Nat) (by simp);simpa [L0] using C
theorem U7{g:Nat->Int}{n:Nat}(h:∀ i,0<=g i/\g i<4294967296):B9 ((Ay n).map g):=fun x hx=>by
 obtain⟨i,_,rfl⟩:=DI.1 hx;exact h i
theorem fH{xs f:G}(hx:G_ xs)(hy:G_ f)(E:f ≠ [])(h1:F xs<1048576)(h2:F f<1048576):∃ qs rs,B9 qs/\B9 rs/\F (qs:G)<=1048576/\F (rs:G)<=1048576/\An qs=An xs / An f/\An rs=An xs % An f /\
  T 180 [sL A xs,sL A f] (A3 [sL A qs,sL A rs]):=by
 have c5:=Av.2 E;have I:=LQ hx hy (by omega);have N:=BK hx.1;have w:=Lo hy E;by_cases v:An xs<An f
 ·refine⟨[],xs,fun x h=>(nomatch h),hx.1,by simp,by omega,?_,?_,?_⟩
  ·rw[IQ N v];rfl
  ·rw[HR N v]
  ·exact Adf xs f _ (by unfold DE;rw[Ar v];rfl) (YV xs) (by omega) I
 have O:decide (DE (An xs) (An f)<0)=false:=by unfold DE;rw[Aw v];split <;> rfl
 by_cases a5:F f=1
 ·obtain⟨y,rfl⟩:=AGg.1 a5;have o:An [y]=y:=by simp[An]
  rw[o] at w;have a6:=hy.1 y (by simp);obtain⟨qs,r,q1,q2,P,q4,q5⟩:=fE hx.1 (d:=y) ⟨w,a6.2⟩ (by omega);have p:An [r]=r:=by simp[An]
  have hd:=(OO w (a:=An xs) (r:=r) (q:=An qs)).2 ⟨by omega,P.1,P.2⟩;refine⟨qs,[r],q2,fun x h=>by rw[Dh.1 h];omega,by omega,by simp,by rw[o];exact hd.1.symm,by rw[o,p];exact hd.2.symm,?_⟩;exact Adg xs [y] qs _ r O (by rfl) I (by simp) q5
 ·obtain⟨m,R⟩:∃ m,F f=m+2:=⟨F f-2,by omega⟩;have c6:F f<=F xs:=by
   rcases CN (F xs) (F f) with g | g
   ·exact absurd (Ly hx hy g) v
   ·exact g
  have a7:0<H f (m+1) 0/\H f (m+1) 0<4294967296:=by
   have a:=Bn hy.1 (m+1);rcases hy.2 with g | g
   ·exact absurd g E
   ·rw[show F f-1=m+1 by omega] at g;omega
  obtain⟨s,hs,s1,S,a8⟩:=Akk a7;obtain⟨us,J,U,u3,a9⟩:=VL hx.1 hs h1;obtain⟨ws,w1,W,z,b0⟩:=VL hy.1 hs h2;have hp:=CA s;have K:=Eu f (j:=m+1) (by omega);have Y:=D4 f (m+1);rw[EX (xs:=f) (i:=m+1+1) (by omega),Be,Cx] at Y;rw[Y] at K;have b1:=HK hy.1 (m+1);have b2:=BK (EZ hy.1 (m+1));have hP:=Dx (m+1);have c7:2147483648*4294967296^(m+1)<=An ws:=by
   rw[z,K];have a:=Ap s1 (show (0:Int)<=4294967296^(m+1) by omega);have b:=A8 (show (0:Int)<=2^s by omega) b2;have e:2^s*(An (BF (m+1) f)+4294967296^(m+1)*H f (m+1) 0)=2^s*An (BF (m+1) f)+H f (m+1) 0*2^s*4294967296^(m+1):=by grind
   omega
  have b3:An ws<4294967296^(m+2):=by
   have e9:(4294967296:Int)^(m+2)=4294967296^(m+1)*4294967296:=AD _ _;rw[z,K];have e0:=VI (show s<=32 by omega);have a1:H f (m+1) 0+1<=2^(32-s):=by
    rw[e0] at S;have:=CY S (by omega);omega
   have a2:=Ap a1 (show (0:Int)<=2^s*4294967296^(m+1) by have:=Br hp hP;omega);have a3:=J0 b1 hp;have o:(H f (m+1) 0+1)*(2^s*4294967296^(m+1))=2^s*(4294967296^(m+1)*H f (m+1) 0)+2^s*4294967296^(m+1):=by grind
   have p:(2:Int)^(32-s)*(2^s*4294967296^(m+1))=4294967296^(m+1)*4294967296:=by rw[<- Bm,<- e0,AT]
   rw[DJ];omega
  have b4:=Mk W (n:=m+2) (V:=4294967296^(m+2)) (DO _) b3;have L:An (ws.take (m+2))=An ws:=by
   have:=Eu ws (j:=m+2) (by omega);rw[b4,Be,Cx] at this;exact this.symm
  have a4:F (ws.take (m+2))=m+2:=by simp;omega
  have B:=EZ W (m+2);generalize b5:ws.take (m+2)=vs at *
  have b6:2147483648<=H vs (m+1) 0:=by
   have a:=Eu vs (j:=m+1) (by omega);have b:=D4 vs (m+1);rw[EX (xs:=vs) (i:=m+1+1) (by omega),Be,Cx] at b;rw[b] at a;have c:=HK B (m+1);apply Ma.1;intro h;have:=Ax (show H vs (m+1) 0+1<=2147483648 by omega) (show (0:Int)<=4294967296^(m+1) by omega);rw[DJ,DQ,AT _ 2147483648] at this;omega
  have b7:An (us.drop (F xs-F f+1))<An vs:=by
   have a:=Eu us (j:=F xs-F f+1) (by omega);have b:=BK (EZ U (F xs-F f+1));have c:=EP hx.1;have d:=J0 c hp;have e:(4294967296:Int)^F xs=4294967296^(F xs-F f+1)*4294967296^(m+1):=by rw[<- Cc];congr 1;omega
   have b8:(2:Int)^s<=2147483648:=by
    have:=Iq (show s<=31 by omega);rwa [show (2:Int)^31=2147483648 by decide] at this
   have hQ:=Dx (F xs-F f+1);rw[L];apply yZ (b:=2^s*4294967296^(m+1))
   ·apply G9 (a:=4294967296^(F xs-F f+1)) _ (by omega);have p:(4294967296:Int)^(F xs-F f+1)*(2^s*4294967296^(m+1))=2^s*4294967296^F xs:=by rw[e];grind
    omega
   ·have:=Ap b8 (show (0:Int)<=4294967296^(m+1) by omega);omega
  obtain⟨l,qs,l1,l2,u,l4,l5,C,l7⟩:=Aol (k:=F xs+1) (kq:=F xs-F f+1) (s:=(s:Nat)) B a4 b6 (by omega) (by omega) (F xs-F f+1) us (AI (F xs-F f+1) 0) (A2 _) J U (by simp) (Gp _) (fun t _=>EB _ _) b7;have l8:=Adq (us:=l) (k:=F xs+1) (n:=m+2) (kq:=F xs-F f+1) (qs:=qs) u l2 (by omega) (by omega) hs;rw[FX,FV,u3,L,z] at l7;rw[L] at C;have M:An l=2^s*(An xs-An f*An qs):=by
   rw[Gs];have:2^s*An f*An qs=2^s*(An f*An qs):=by grind
   omega
  have c8:=BK u;have b9:0<=An xs-An f*An qs:=by
   apply Ma.1;intro h;have:=Ax (show An xs-An f*An qs <= -1 by omega) (show (0:Int)<=2^s by omega);omega
  have c0:An xs-An f*An qs<An f:=by
   rw[M,z] at C;exact G9 C (by omega)
  have c1:An ((Ay (m+2)).map (En l s))=An xs-An f*An qs:=by
   have a:=vB (us:=l) s hs (m+2) (by omega);have b:H l 0 0 % 2^s=0:=by
    have c:=D4 l 0;rw[DA,Cv,M] at c;have e0:=VI (show s<=32 by omega);have:H l 0 0=2^s*(An xs-An f*An qs-2^(32-s)*An (l.drop 1)):=by rw[Gs,<- Bm,AT (2^s) (2^(32-s)),<- e0];omega
    rw[this];exact Int.mul_emod_right _ _
   have dz:=Mk u (n:=m+2) (V:=An ws) (by omega) C;have c2:H l (m+2) 0=0:=by
    have c:=D4 l (m+2);rw[dz] at c;have d1:=BK (G5 u (m+2+1));have d2:=Bn u (m+2);omega
   have d:=Eu l (j:=m+2) (by omega);rw[dz,Be,Cx] at d;rw[b,c2,<- d,M,Int.zero_emod,Be,FV,Cx] at a;exact GA (by omega) a
  have hd:=(OO w (a:=An xs) (r:=An xs-An f*An qs) (q:=An qs)).2 ⟨by omega,b9,c0⟩;have o:Q X (F f-1)=((m+1:Nat):Int):=wrz
  have p:Q X (F f-2)=(m:Int):=wrz
  have e3:Q X (F xs-F f)=((F xs-F f:Nat):Int):=wrz
  have e4:Q X ((F xs-F f:Nat)+1)=((F xs-F f+1:Nat):Int):=wrz
  have c3:F vs=F f:=by omega
  have c4:ws.take (F f)=vs:=by rw[R];exact b5
  have v1:=Bn B (m+1);have v2:=Bn B m;refine⟨qs,(Ay (m+2)).map (En l s),l5,U7 (fun i=>(VM u hs i).2.2.2),by omega,by simp;omega,hd.1.symm,by rw[c1];exact hd.2.symm,?_⟩;have D:Z (.loop Sk) (J9 (F us) us vs (F vs:Nat) (H vs (m+1) 0) (H vs m 0) (F xs-F f+1) (AI (F xs-F f+1) 0) (s:Nat) ((F xs-F f:Nat))) xZ0 (J9 (F us) l vs (F vs:Nat) (H vs (m+1) 0) (H vs m 0) (F xs-F f+1) qs (s:Nat) (-1)):=by
   rw[J];refine l1.to ?_ rfl;congr 1;omega
  have h:=Adh xs f us ws l vs qs ((Ay (m+2)).map (En l s)) _ (s:Nat) (F vs:Nat) (H vs (m+1) 0) (H vs m 0) (-1) (F us) (F xs-F f+1) (m+2) O (by rw[R,C3];omega) I (by rw[o];omega) (by rw[o,Aa];exact a8) (by omega) (by rw[Aa];exact⟨by omega,by omega,A2 _,fun _=>rfl⟩) a9 b0 (by rw[e3,e4];omega) (by rw[o,Aa];omega) (by rw[p,Aa];omega)
   (by
    rw[o,p,e3,e4,Aa,Aa,Aa,Aa,G4,iH,DA,Lb,c4,D9 (n:=H vs (m+1) 0) (by omega),D9 (n:=H vs m 0) (by omega)];unfold J9 at D |-;unfold sL at D |-;rw[c3] at D |-;exact D)
   (by omega) (by
    rw[a4,Aa,G4,J];exact l8)
  unfold sL;rw[show F qs=F xs-F f+1 from l4,show F ((Ay (m+2)).map (En l s))=m+2 by simp];exact h
def TQD:Dd:=TQC
theorem Adr:CT DP TQD:=Ado
def IE:ICode:=a NB 91 500
section
variable(neg:Bool)(xs:G)(b:Int)(a:G)(c:Bool)(i:Int)
def E8:Az:=L 1 (N b::AH [W neg,sL A xs]::L 1 (AH [W false,P 0 []]::C (sL A a)::Ak 1 0 []::C (W c)::N i::L 95 []))
theorem Aom(c1:E (i<F a)=true)(d:E (i<Q X (AF b 32))=true)(e:c=true):Z IE (E8 neg xs b a c i) .norm (E8 neg xs b a true (Q X (i+1))):=Ab x [bT,bT,bT] Q' (FJ c1 H7 d e)
theorem Aon(c1:E (i<F a)=true)(d:E (i<Q X (AF b 32))=true)(e:c=false)(f:0<=i/\i<F a):Z IE (E8 neg xs b a c i) .norm (E8 neg xs b a ((H a (Y i) 0) != 0) (Q X (i+1))):=Ab x [bT,bT,bF,.v (J U (H a (Y i) 0))] Q' (Gm c1 H7 d e f (B7 f))
theorem Aoo(c1:E (i<F a)=true)(d:E (i<Q X (AF b 32))=false):Z IE (E8 neg xs b a c i) xZ0 (E8 neg xs b a c i):=Ab x [bT,bF] Q' (Gy c1 H7 d)
theorem Aop(c1:E (i<F a)=false):Z IE (E8 neg xs b a c i) xZ0 (E8 neg xs b a c i):=Ab x [bF,bF] Q' (DH c1 F9)
end
def Ig:ICode:=a NB 89 2036
section
variable(neg:Bool)(xs:G)(b:Int)(a:G)(n:Nat)(cs:AK)(c:Bool)(s i:Int)
def Eo:Az:=L 1 (N b::AH [W neg,sL A xs]::L 1 (AH [W false,P 0 []]::C (sL A a)::Ak 1 n cs::C (W c)::L 1 (C (J R s)::N i::L 93 [])))
theorem Aoq(c1:E (i<F a)=true)(g:E (Q X (i+1)<(F a:Int))=true)(e:0<=i/\i<F a)(f:0<=Q X (i+1)/\Q X (i+1)<(F a:Int))(h:¬ s<0)(j:n+1<=35184372088832):Z Ig (Eo neg xs b a n cs c s i) .norm (Eo neg xs b a (n+1) (cs++([J U (Q U (d (Q R ((Aj (A5 .u64) (Q R (H a (Y i) 0)) ||| Aj (A5 .u64) (Q R (Q R (H a (Y (Q X (i+1))) 0)*2^(min (Y 32) (A5 .u64))))).toNat)) (2^(min (Y s) (A5 .u64)))))]:AK)) c s (Q X (i+1))):=Ab x [bT,.v (J U (H a (Y i) 0)),bT,.v (J U (H a (Y (Q X (i+1))) 0))] RG (Kw c1 e (B7 e) g f (B7 f) K9 h (show F ([J U (Q U (d (Q R ((Aj (A5 .u64) (Q R (H a (Y i) 0)) ||| Aj (A5 .u64) (Q R (Q R (H a (Y (Q X (i+1))) 0)*2^(min (Y 32) (A5 .u64))))).toNat)) (2^(min (Y s) (A5 .u64)))))]:AK)=1*1 from rfl) j)
theorem Aor(c1:E (i<F a)=true)(g:E (Q X (i+1)<(F a:Int))=false)(e:0<=i/\i<F a)(f:¬ s<0)(h:n+1<=35184372088832):Z Ig (Eo neg xs b a n cs c s i) .norm (Eo neg xs b a (n+1) (cs++([J U (Q U (d (Q R (H a (Y i) 0)) (2^(min (Y s) (A5 .u64)))))]:AK)) c s (Q X (i+1))):=Ab x [bT,.v (J U (H a (Y i) 0)),bF] RG (GZ c1 e (B7 e) g f (show F ([J U (Q U (d (Q R (H a (Y i) 0)) (2^(min (Y s) (A5 .u64)))))]:AK)=1*1 from rfl) h)
theorem jL(c1:E (i<F a)=false):Z Ig (Eo neg xs b a n cs c s i) xZ2 (Eo neg xs b a n cs c s i):=Ab x [bF] RG (BO c1)
end
section
variable(neg b:Bool)(xs:G)(a l:Int)(n:Nat)(cs:AK)
theorem Ads(d v w:Int)(c1:E (Q X (AF a 32)<(F (Af xs):Int))=true)(e:b=true)(i:neg=true)(f:T 99 [sL A xs] (Ae 1 (F (Af xs)) (A (Af xs))))(g:Z (.loop IE) (E8 neg xs a (Af xs) false 0) xZ0 (E8 neg xs a (Af xs) b l))(h:Z (.loop Ig) (Eo neg xs a (Af xs) 0 ([]:AK) b (Q R (Bl a 32)) (Q X (AF a 32))) xZ2 (Eo neg xs a (Af xs) n cs b (Q R (Bl a 32)) d))(c:T 98 [W neg,P n cs] (Dk v))(j:T 49 [J X 1] (M 1))(k:T 129 [M v,M 1] (M w)):T 128 [Ao [W neg,sL A xs],J X a] (M w):=CQ NB (L 4 (AH [W (E (w<0)),sL A (o (I w))]::L 99 [])) (As (As (As (AA (Ag (Ab x [.r (Ae 1 (F (Af xs)) (A (Af xs)))] Q' (BO f)) (Ag (A7 g) (AA (Ag (Ab x [] RG (DH H7 H7)) (Ag (A7 h) (Ab x [bT,bT,.r (Dk v),bT,bT,.r (M 1),.r (M w)] [4] (Ip H7 c1 e c i I6 j k)))))))))))
theorem Adt(d v:Int)(c1:E (Q X (AF a 32)<(F (Af xs):Int))=true)(e:b=true)(i:neg=false)(f:T 99 [sL A xs] (Ae 1 (F (Af xs)) (A (Af xs))))(g:Z (.loop IE) (E8 neg xs a (Af xs) false 0) xZ0 (E8 neg xs a (Af xs) b l))(h:Z (.loop Ig) (Eo neg xs a (Af xs) 0 ([]:AK) b (Q R (Bl a 32)) (Q X (AF a 32))) xZ2 (Eo neg xs a (Af xs) n cs b (Q R (Bl a 32)) d))(c:T 98 [W neg,P n cs] (Dk v)):T 128 [Ao [W neg,sL A xs],J X a] (M v):=CQ NB (L 4 (AH [W (E (v<0)),sL A (o (I v))]::L 99 [])) (As (As (As (AA (Ag (Ab x [.r (Ae 1 (F (Af xs)) (A (Af xs)))] Q' (BO f)) (Ag (A7 g) (AA (Ag (Ab x [] RG (DH H7 H7)) (Ag (A7 h) (Ab x [bT,bT,.r (Dk v),bF,bF] [4] (Gm H7 c1 e c i F9)))))))))))
theorem Adu(d v w:Int)(c1:E (Q X (AF a 32)<(F (Af xs):Int))=true)(e:b=false)(i:neg=true)(m:((Q U ((Aj (A5 .u32) (H (Af xs) (Y (Q X (AF a 32))) 0) &&& Aj (A5 .u32) (Q U (Q U (1*2^(min (Y (Q R (Bl a 32))) (A5 .u32)))-1))).toNat)) != 0)=true)(f:T 99 [sL A xs] (Ae 1 (F (Af xs)) (A (Af xs))))(g:Z (.loop IE) (E8 neg xs a (Af xs) false 0) xZ0 (E8 neg xs a (Af xs) b l))(h:Z (.loop Ig) (Eo neg xs a (Af xs) 0 ([]:AK) b (Q R (Bl a 32)) (Q X (AF a 32))) xZ2 (Eo neg xs a (Af xs) n cs b (Q R (Bl a 32)) d))(c:0<=Q X (AF a 32)/\Q X (AF a 32)<(F (Af xs):Int))(j:¬ (Q R (Bl a 32))<0)(k:T 98 [W neg,P n cs] (Dk v))(p:T 49 [J X 1] (M 1))(q:T 129 [M v,M 1] (M w)):T 128 [Ao [W neg,sL A xs],J X a] (M w):=CQ NB (L 4 (AH [W (E (w<0)),sL A (o (I w))]::L 99 [])) (As (As (As (AA (Ag (Ab x [.r (Ae 1 (F (Af xs)) (A (Af xs)))] Q' (BO f)) (Ag (A7 g) (AA (Ag (Ab x [] RG (DH H7 H7)) (Ag (A7 h) (Ab x [bT,bF,.v (J U (H (Af xs) (Y (Q X (AF a 32))) 0)),.r (Dk v),bT,bT,.r (M 1),.r (M w)] [4] (Vi H7 c1 e H7 c (B7 c) j k i m p q)))))))))))
theorem Adv(d v:Int)(c1:E (Q X (AF a 32)<(F (Af xs):Int))=true)(e:b=false)(i:neg=true)(m:((Q U ((Aj (A5 .u32) (H (Af xs) (Y (Q X (AF a 32))) 0) &&& Aj (A5 .u32) (Q U (Q U (1*2^(min (Y (Q R (Bl a 32))) (A5 .u32)))-1))).toNat)) != 0)=false)(f:T 99 [sL A xs] (Ae 1 (F (Af xs)) (A (Af xs))))(g:Z (.loop IE) (E8 neg xs a (Af xs) false 0) xZ0 (E8 neg xs a (Af xs) b l))(h:Z (.loop Ig) (Eo neg xs a (Af xs) 0 ([]:AK) b (Q R (Bl a 32)) (Q X (AF a 32))) xZ2 (Eo neg xs a (Af xs) n cs b (Q R (Bl a 32)) d))(c:0<=Q X (AF a 32)/\Q X (AF a 32)<(F (Af xs):Int))(j:¬ (Q R (Bl a 32))<0)(k:T 98 [W neg,P n cs] (Dk v)):T 128 [Ao [W neg,sL A xs],J X a] (M v):=CQ NB (L 4 (AH [W (E (v<0)),sL A (o (I v))]::L 99 [])) (As (As (As (AA (Ag (Ab x [.r (Ae 1 (F (Af xs)) (A (Af xs)))] Q' (BO f)) (Ag (A7 g) (AA (Ag (Ab x [] RG (DH H7 H7)) (Ag (A7 h) (Ab x [bT,bF,.v (J U (H (Af xs) (Y (Q X (AF a 32))) 0)),.r (Dk v),bT,bF] [4] (Kw H7 c1 e H7 c (B7 c) j k i m)))))))))))
theorem Adw(d v:Int)(c1:E (Q X (AF a 32)<(F (Af xs):Int))=true)(e:b=false)(i:neg=false)(f:T 99 [sL A xs] (Ae 1 (F (Af xs)) (A (Af xs))))(g:Z (.loop IE) (E8 neg xs a (Af xs) false 0) xZ0 (E8 neg xs a (Af xs) b l))(h:Z (.loop Ig) (Eo neg xs a (Af xs) 0 ([]:AK) b (Q R (Bl a 32)) (Q X (AF a 32))) xZ2 (Eo neg xs a (Af xs) n cs b (Q R (Bl a 32)) d))(c:0<=Q X (AF a 32)/\Q X (AF a 32)<(F (Af xs):Int))(j:¬ (Q R (Bl a 32))<0)(k:T 98 [W neg,P n cs] (Dk v)):T 128 [Ao [W neg,sL A xs],J X a] (M v):=CQ NB (L 4 (AH [W (E (v<0)),sL A (o (I v))]::L 99 [])) (As (As (As (AA (Ag (Ab x [.r (Ae 1 (F (Af xs)) (A (Af xs)))] Q' (BO f)) (Ag (A7 g) (AA (Ag (Ab x [] RG (DH H7 H7)) (Ag (A7 h) (Ab x [bT,bF,.v (J U (H (Af xs) (Y (Q X (AF a 32))) 0)),.r (Dk v),bF,bF] [4] (Kw H7 c1 e H7 c (B7 c) j k i F9)))))))))))
theorem Adx(d v w:Int)(c1:E (Q X (AF a 32)<(F (Af xs):Int))=false)(e:neg=true)(i:b=true)(f:T 99 [sL A xs] (Ae 1 (F (Af xs)) (A (Af xs))))(g:Z (.loop IE) (E8 neg xs a (Af xs) false 0) xZ0 (E8 neg xs a (Af xs) b l))(h:Z (.loop Ig) (Eo neg xs a (Af xs) 0 ([]:AK) b (Q R (Bl a 32)) (Q X (AF a 32))) xZ2 (Eo neg xs a (Af xs) n cs b (Q R (Bl a 32)) d))(c:T 98 [W neg,P n cs] (Dk v))(j:T 49 [J X 1] (M 1))(k:T 129 [M v,M 1] (M w)):T 128 [Ao [W neg,sL A xs],J X a] (M w):=CQ NB (L 4 (AH [W (E (w<0)),sL A (o (I w))]::L 99 [])) (As (As (As (AA (Ag (Ab x [.r (Ae 1 (F (Af xs)) (A (Af xs)))] Q' (BO f)) (Ag (A7 g) (AA (Ag (Ab x [] RG (DH H7 H7)) (Ag (A7 h) (Ab x [bF,.r (Dk v),bT,bT,.r (M 1),.r (M w)] [4] (GZ H7 c1 c e i j k)))))))))))
theorem Ady(d v:Int)(c1:E (Q X (AF a 32)<(F (Af xs):Int))=false)(e:neg=true)(i:b=false)(f:T 99 [sL A xs] (Ae 1 (F (Af xs)) (A (Af xs))))(g:Z (.loop IE) (E8 neg xs a (Af xs) false 0) xZ0 (E8 neg xs a (Af xs) b l))(h:Z (.loop Ig) (Eo neg xs a (Af xs) 0 ([]:AK) b (Q R (Bl a 32)) (Q X (AF a 32))) xZ2 (Eo neg xs a (Af xs) n cs b (Q R (Bl a 32)) d))(c:T 98 [W neg,P n cs] (Dk v)):T 128 [Ao [W neg,sL A xs],J X a] (M v):=CQ NB (L 4 (AH [W (E (v<0)),sL A (o (I v))]::L 99 [])) (As (As (As (AA (Ag (Ab x [.r (Ae 1 (F (Af xs)) (A (Af xs)))] Q' (BO f)) (Ag (A7 g) (AA (Ag (Ab x [] RG (DH H7 H7)) (Ag (A7 h) (Ab x [bF,.r (Dk v),bT,bF] [4] (Ff H7 c1 c e i)))))))))))
theorem Adz(d v:Int)(c1:E (Q X (AF a 32)<(F (Af xs):Int))=false)(e:neg=false)(f:T 99 [sL A xs] (Ae 1 (F (Af xs)) (A (Af xs))))(g:Z (.loop IE) (E8 neg xs a (Af xs) false 0) xZ0 (E8 neg xs a (Af xs) b l))(h:Z (.loop Ig) (Eo neg xs a (Af xs) 0 ([]:AK) b (Q R (Bl a 32)) (Q X (AF a 32))) xZ2 (Eo neg xs a (Af xs) n cs b (Q R (Bl a 32)) d))(c:T 98 [W neg,P n cs] (Dk v)):T 128 [Ao [W neg,sL A xs],J X a] (M v):=CQ NB (L 4 (AH [W (E (v<0)),sL A (o (I v))]::L 99 [])) (As (As (As (AA (Ag (Ab x [.r (Ae 1 (F (Af xs)) (A (Af xs)))] Q' (BO f)) (Ag (A7 g) (AA (Ag (Ab x [] RG (DH H7 H7)) (Ag (A7 h) (Ab x [bF,.r (Dk v),bF,bF] [4] (Ff H7 c1 c e F9)))))))))))
end
def YZ:ICode:=a OW 88 3764
section
variable(xs a:G)(k:Nat)(b:G)(r i:Int)
def Qt:Az:=C (sL A xs)::C (sL A a)::L 2 (Ak 1 0 []::Ak 1 0 []::Ak 1 k (A b)::C (J R r)::N i::L 298 [])
theorem Aos(c1:E (i>=0)=true)(d:0<=i/\i<F xs)(c:0<=(0:Int)/\(0:Int)<(F a:Int))(e:¬ (Q R (H a (Y 0) 0))=0)(f:0<=i/\i<k)(g:F b=k):Z YZ (Qt xs a k b r i) .norm (Qt xs a k (b.set (Y i) (Q U (Q R (AF (Q R ((Aj (A5 .u64) (Q R (r*2^(min (Y 32) (A5 .u64)))) ||| Aj (A5 .u64) (Q R (H xs (Y i) 0))).toNat)) (Q R (H a (Y 0) 0)))))) (Bl (Q R ((Aj (A5 .u64) (Q R (r*2^(min (Y 32) (A5 .u64)))) ||| Aj (A5 .u64) (Q R (H xs (Y i) 0))).toNat)) (Q R (H a (Y 0) 0))) (Q X (i-1))):=Ab x [bT,.v (J U (H xs (Y i) 0)),.v (J U (H a (Y 0) 0)),.l (A (b.set (Y i) (Q U (Q R (AF (Q R ((Aj (A5 .u64) (Q R (r*2^(min (Y 32) (A5 .u64)))) ||| Aj (A5 .u64) (Q R (H xs (Y i) 0))).toNat)) (Q R (H a (Y 0) 0))))))),.v (J U (H a (Y 0) 0))] gS (Vi c1 K9 d (B7 d) c (B7 c) e f (show Di (A b) (Y i*1) [J U (Q U (Q R (AF (Q R ((Aj (A5 .u64) (Q R (r*2^(min (Y 32) (A5 .u64)))) ||| Aj (A5 .u64) (Q R (H xs (Y i) 0))).toNat)) (Q R (H a (Y 0) 0)))))]=some (A (b.set (Y i) (Q U (Q R (AF (Q R ((Aj (A5 .u64) (Q R (r*2^(min (Y 32) (A5 .u64)))) ||| Aj (A5 .u64) (Q R (H xs (Y i) 0))).toNat)) (Q R (H a (Y 0) 0))))))) from (DX g f)) c (B7 c) e)
theorem Aot(c1:E (i>=0)=false):Z YZ (Qt xs a k b r i) xZ0 (Qt xs a k b r i):=Ab x [bF] gS (BO c1)
end
def Y_:ICode:=a OW 92 248
section
variable(xs a:G)(s:Int)
def OA:Az:=C (sL A xs)::C (sL A a)::L 2 (Ak 1 0 []::Ak 1 0 []::L 3 (N s::L 297 []))
theorem Aou(c1:(Q U ((Aj (A5 .u32) (Q U (H a (Y (Q X (F a-1))) 0*2^(min (Y (Q R s)) (A5 .u32)))) &&& Aj (A5 .u32) 2147483648).toNat)==0)=true)(b:0<=Q X (F a-1)/\Q X (F a-1)<(F a:Int))(c:¬ (Q R s)<0):Z Y_ (OA xs a s) .norm (OA xs a (Q X (s+1))):=Ab x [.v (J U (H a (Y (Q X (F a-1))) 0)),bT] [0,1,4,5,9] (FJ b (B7 b) c c1)
theorem Aov(c1:(Q U ((Aj (A5 .u32) (Q U (H a (Y (Q X (F a-1))) 0*2^(min (Y (Q R s)) (A5 .u32)))) &&& Aj (A5 .u32) 2147483648).toNat)==0)=false)(b:0<=Q X (F a-1)/\Q X (F a-1)<(F a:Int))(c:¬ (Q R s)<0):Z Y_ (OA xs a s) xZ2 (OA xs a s):=Ab x [.v (J U (H a (Y (Q X (F a-1))) 0)),bF] [0,1,4,5,9] (FJ b (B7 b) c c1)
end
def KP:ICode:=a OW 77 8385688
section
variable(k:Nat)(us vs:G)(n:Int)(kq:Nat)(qs:G)(s j g r:Int)
def FF:Az:=L 4 (Ak 1 0 []::Ak 1 0 []::L 3 (N s::C (sL A vs)::Ak 1 k (A us)::N n::Ak 1 kq (A qs)::N j::L 1 (C (J R g)::C (J R r)::L 289 [])))
theorem Aow(c1:E (g>=4294967296)=true)(b:E (Q R (r+Q R (H vs (Y (Q X (n-1))) 0))>=4294967296)=true)(a:0<=Q X (n-1)/\Q X (n-1)<(F vs:Int)):Z KP (FF k us vs n kq qs s j g r) xZ6 (FF k us vs n kq qs s j (Q R (g-1)) (Q R (r+Q R (H vs (Y (Q X (n-1))) 0)))):=Ab x [bT,bT,.v (J U (H vs (Y (Q X (n-1))) 0)),bT] Ul (Ff c1 I6 a (B7 a) b)
theorem Aox(c1:E (g>=4294967296)=true)(b:E (Q R (r+Q R (H vs (Y (Q X (n-1))) 0))>=4294967296)=false)(a:0<=Q X (n-1)/\Q X (n-1)<(F vs:Int)):Z KP (FF k us vs n kq qs s j g r) .norm (FF k us vs n kq qs s j (Q R (g-1)) (Q R (r+Q R (H vs (Y (Q X (n-1))) 0)))):=Ab x [bT,bT,.v (J U (H vs (Y (Q X (n-1))) 0)),bF] Ul (Ff c1 I6 a (B7 a) b)
theorem Aoy(c1:E (g>=4294967296)=false)(b:E (r<4294967296)=true)(d:E (Q R (g*Q R (H vs (Y (Q X (n-2))) 0))>Q R ((Aj (A5 .u64) (Q R (r*2^(min (Y 32) (A5 .u64)))) ||| Aj (A5 .u64) (Q R (H us (Y (Q X ((Q X (j+n))-2))) 0))).toNat))=true)(h:E (Q R (r+Q R (H vs (Y (Q X (n-1))) 0))>=4294967296)=true)(a:0<=Q X (n-2)/\Q X (n-2)<(F vs:Int))(c:0<=Q X ((Q X (j+n))-2)/\Q X ((Q X (j+n))-2)<(k:Int))(e:F us=k)(f:0<=Q X (n-1)/\Q X (n-1)<(F vs:Int)):Z KP (FF k us vs n kq qs s j g r) xZ6 (FF k us vs n kq qs s j (Q R (g-1)) (Q R (r+Q R (H vs (Y (Q X (n-1))) 0)))):=Ab x [bF,bT,.v (J U (H vs (Y (Q X (n-2))) 0)),.v (J U (H us (Y (Q X ((Q X (j+n))-2))) 0)),bF,bT,bT,.v (J U (H vs (Y (Q X (n-1))) 0)),bT] Ul (OX c1 b a (B7 a) K9 c (Dc e c) c1 (Ff b d f (B7 f) h))
theorem Aoz(c1:E (g>=4294967296)=false)(b:E (r<4294967296)=true)(d:E (Q R (g*Q R (H vs (Y (Q X (n-2))) 0))>Q R ((Aj (A5 .u64) (Q R (r*2^(min (Y 32) (A5 .u64)))) ||| Aj (A5 .u64) (Q R (H us (Y (Q X ((Q X (j+n))-2))) 0))).toNat))=true)(h:E (Q R (r+Q R (H vs (Y (Q X (n-1))) 0))>=4294967296)=false)(a:0<=Q X (n-2)/\Q X (n-2)<(F vs:Int))(c:0<=Q X ((Q X (j+n))-2)/\Q X ((Q X (j+n))-2)<(k:Int))(e:F us=k)(f:0<=Q X (n-1)/\Q X (n-1)<(F vs:Int)):Z KP (FF k us vs n kq qs s j g r) .norm (FF k us vs n kq qs s j (Q R (g-1)) (Q R (r+Q R (H vs (Y (Q X (n-1))) 0)))):=Ab x [bF,bT,.v (J U (H vs (Y (Q X (n-2))) 0)),.v (J U (H us (Y (Q X ((Q X (j+n))-2))) 0)),bF,bT,bT,.v (J U (H vs (Y (Q X (n-1))) 0)),bF] Ul (OX c1 b a (B7 a) K9 c (Dc e c) c1 (Ff b d f (B7 f) h))
theorem jM(c1:E (g>=4294967296)=false)(b:E (r<4294967296)=true)(d:E (Q R (g*Q R (H vs (Y (Q X (n-2))) 0))>Q R ((Aj (A5 .u64) (Q R (r*2^(min (Y 32) (A5 .u64)))) ||| Aj (A5 .u64) (Q R (H us (Y (Q X ((Q X (j+n))-2))) 0))).toNat))=false)(a:0<=Q X (n-2)/\Q X (n-2)<(F vs:Int))(c:0<=Q X ((Q X (j+n))-2)/\Q X ((Q X (j+n))-2)<(k:Int))(e:F us=k):Z KP (FF k us vs n kq qs s j g r) xZ6 (FF k us vs n kq qs s j g r):=Ab x [bF,bT,.v (J U (H vs (Y (Q X (n-2))) 0)),.v (J U (H us (Y (Q X ((Q X (j+n))-2))) 0)),bF,bT,bF] Ul (Kw c1 b a (B7 a) K9 c (Dc e c) c1 b d)
end
def VN:ICode:=a OW 74 67085556
section
variable(k:Nat)(us vs:G)(n:Int)(a:Nat)(e:G)(s j g b c i:Int)
def LS:Az:=L 4 (Ak 1 0 []::Ak 1 0 []::L 3 (N s::C (sL A vs)::Ak 1 k (A us)::N n::Ak 1 a (A e)::N j::L 1 (C (J R g)::L 1 (C (J R b)::C (J R c)::N i::L 286 []))))
theorem Apa(c1:E (i<n)=true)(h:0<=i/\i<F vs)(f:0<=Q X (i+j)/\Q X (i+j)<(k:Int))(m:F us=k):Z VN (LS k us vs n a e s j g b c i) .norm (LS k (us.set (Y (Q X (i+j))) (Q U (Q R ((Q R ((Q R (H us (Y (Q X (i+j))) 0))-(Q R ((Aj (A5 .u64) (Q R (c+Q R (g*Q R (H vs (Y i) 0)))) &&& Aj (A5 .u64) 4294967295).toNat))))-b)))) vs n a e s j g (d (Q R ((Q R ((Q R (H us (Y (Q X (i+j))) 0))-(Q R ((Aj (A5 .u64) (Q R (c+Q R (g*Q R (H vs (Y i) 0)))) &&& Aj (A5 .u64) 4294967295).toNat))))-b)) (2^(min (Y 63) (A5 .u64)))) (d (Q R (c+Q R (g*Q R (H vs (Y i) 0)))) (2^(min (Y 32) (A5 .u64)))) (Q X (i+1))):=Ab x [bT,.v (J U (H vs (Y i) 0)),.v (J U (H us (Y (Q X (i+j))) 0)),.l (A (us.set (Y (Q X (i+j))) (Q U (Q R ((Q R ((Q R (H us (Y (Q X (i+j))) 0))-(Q R ((Aj (A5 .u64) (Q R (c+Q R (g*Q R (H vs (Y i) 0)))) &&& Aj (A5 .u64) 4294967295).toNat))))-b)))))] nC (M3 c1 h (B7 h) f (Dc m f) f (show Di (A us) (Y (Q X (i+j))*1) [J U (Q U (Q R ((Q R ((Q R (H us (Y (Q X (i+j))) 0))-(Q R ((Aj (A5 .u64) (Q R (c+Q R (g*Q R (H vs (Y i) 0)))) &&& Aj (A5 .u64) 4294967295).toNat))))-b)))]=some (A (us.set (Y (Q X (i+j))) (Q U (Q R ((Q R ((Q R (H us (Y (Q X (i+j))) 0))-(Q R ((Aj (A5 .u64) (Q R (c+Q R (g*Q R (H vs (Y i) 0)))) &&& Aj (A5 .u64) 4294967295).toNat))))-b))))) from (DX m f)) eQ K9)
theorem Apb(c1:E (i<n)=false):Z VN (LS k us vs n a e s j g b c i) xZ8 (LS k us vs n a e s j g b c i):=Ab x [bF] nC (BO c1)
end
def Za:ICode:=a OW 66 17173905076
section
variable(k:Nat)(us vs:G)(n:Int)(a:Nat)(b:G)(s j g c i:Int)
def OB:Az:=L 4 (Ak 1 0 []::Ak 1 0 []::L 3 (N s::C (sL A vs)::Ak 1 k (A us)::N n::Ak 1 a (A b)::N j::L 1 (C (J R g)::L 6 (C (J R c)::N i::L 282 []))))
theorem Apc(c1:E (i<n)=true)(e:0<=Q X (i+j)/\Q X (i+j)<(k:Int))(f:F us=k)(h:0<=i/\i<F vs):Z Za (OB k us vs n a b s j g c i) .norm (OB k (us.set (Y (Q X (i+j))) (Q U (Q R (c+Q R (Q R (H us (Y (Q X (i+j))) 0)+Q R (H vs (Y i) 0)))))) vs n a b s j g (d (Q R (c+Q R (Q R (H us (Y (Q X (i+j))) 0)+Q R (H vs (Y i) 0)))) (2^(min (Y 32) (A5 .u64)))) (Q X (i+1))):=Ab x [bT,.v (J U (H us (Y (Q X (i+j))) 0)),.v (J U (H vs (Y i) 0)),.l (A (us.set (Y (Q X (i+j))) (Q U (Q R (c+Q R (Q R (H us (Y (Q X (i+j))) 0)+Q R (H vs (Y i) 0)))))))] Abc (Ip c1 e (Dc f e) h (B7 h) e (show Di (A us) (Y (Q X (i+j))*1) [J U (Q U (Q R (c+Q R (Q R (H us (Y (Q X (i+j))) 0)+Q R (H vs (Y i) 0)))))]=some (A (us.set (Y (Q X (i+j))) (Q U (Q R (c+Q R (Q R (H us (Y (Q X (i+j))) 0)+Q R (H vs (Y i) 0))))))) from (DX f e)) K9)
theorem Apd(c1:E (i<n)=false):Z Za (OB k us vs n a b s j g c i) (.exit 10) (OB k us vs n a b s j g c i):=Ab x [bF] Abc (BO c1)
end
def U8:ICode:=a OW 85 32756
section
variable(k:Nat)(us vs:G)(n:Int)(h:Nat)(e:G)(s j:Int)
def L5:Az:=L 4 (Ak 1 0 []::Ak 1 0 []::L 3 (N s::C (sL A vs)::Ak 1 k (A us)::N n::Ak 1 h (A e)::N j::L 292 []))
theorem A4f(a m:G)(g r b c p:Int)(c1:E (j>=0)=true)(B:((d (Q R ((Q R ((Q R (H a (Y (Q X (j+n))) 0))-c))-b)) (2^(min (Y 63) (A5 .u64)))) != 0)=true)(i:0<=Q X (j+n)/\Q X (j+n)<(k:Int))(q:F us=k)(u:0<=Q X (Q X (j+n)-1)/\Q X (Q X (j+n)-1)<(k:Int))(o:0<=Q X (n-1)/\Q X (n-1)<(F vs:Int))(w:¬ (Q R (H vs (Y (Q X (n-1))) 0))=0)(D:Z (.loop KP) (FF k us vs n h e s j (Q R (AF (Q R ((Aj (A5 .u64) (Q R (Q R (H us (Y (Q X (j+n))) 0)*2^(min (Y 32) (A5 .u64)))) ||| Aj (A5 .u64) (Q R (H us (Y (Q X (Q X (j+n)-1))) 0))).toNat)) (Q R (H vs (Y (Q X (n-1))) 0)))) (Bl (Q R ((Aj (A5 .u64) (Q R (Q R (H us (Y (Q X (j+n))) 0)*2^(min (Y 32) (A5 .u64)))) ||| Aj (A5 .u64) (Q R (H us (Y (Q X (Q X (j+n)-1))) 0))).toNat)) (Q R (H vs (Y (Q X (n-1))) 0)))) xZ6 (FF k us vs n h e s j g r))(I:Z (.loop VN) (LS k us vs n h e s j g 0 0 0) xZ8 (LS k a vs n h e s j g b c n))(y:F a=k)(O:Z (.loop Za) (OB k (a.set (Y (Q X (j+n))) (Q U (Q R ((Q R ((Q R (H a (Y (Q X (j+n))) 0))-c))-b)))) vs n h e s j (Q R (g-1)) 0 0) (.exit 10) (OB k m vs n h e s j (Q R (g-1)) p n))(z:F m=k)(K:0<=j/\j<h)(P:F e=h):Z U8 (L5 k us vs n h e s j) .norm (L5 k (m.set (Y (Q X (j+n))) (Q U (H m (Y (Q X (j+n))) 0+Q U p))) vs n h (e.set (Y j) (Q U (Q R (g-1)))) s (Q X (j-1))):=Ag (Ab (t:=L 4 (Ak 1 0 []::Ak 1 0 []::L 3 (N s::f vs::Ak 1 k (A us)::N n::Ak 1 h (A e)::N j::L 292 []))) x [bT] RK (BO c1)) (Ag (Bo (As (Ag (Ab x [.v (J U (H us (Y (Q X (j+n))) 0)),.v (J U (H us (Y (Q X (Q X (j+n)-1))) 0)),.v (J U (H vs (Y (Q X (n-1))) 0)),.v (J U (H vs (Y (Q X (n-1))) 0))] Ul (IU i (Dc q i) K9 u (Dc q u) o (B7 o) w o (B7 o) w)) (Ag (A7 D) (AA (Ag (Ab x [] nC a0) (Ag (A7 I) (As (AA (Ag (Ab (t:=L 4 (Ak 1 0 []::Ak 1 0 []::L 3 (N s::f vs::Ak 1 k (A (a.set (Y (Q X (j+n))) (Q U (Q R ((Q R ((Q R (H a (Y (Q X (j+n))) 0))-c))-b)))))::N n::Ak 1 h (A e)::N j::L 1 (C (J R g)::L 236 (C (W ((d (Q R ((Q R ((Q R (H a (Y (Q X (j+n))) 0))-c))-b)) (2^(min (Y 63) (A5 .u64)))) != 0))::L 53 []))))) x [.v (J U (H a (Y (Q X (j+n))) 0)),.l (A (a.set (Y (Q X (j+n))) (Q U (Q R ((Q R ((Q R (H a (Y (Q X (j+n))) 0))-c))-b)))))] A0b (Ff i (Dc y i) i (show Di (A a) (Y (Q X (j+n))*1) [J U (Q U (Q R ((Q R ((Q R (H a (Y (Q X (j+n))) 0))-c))-b)))]=some (A (a.set (Y (Q X (j+n))) (Q U (Q R ((Q R ((Q R (H a (Y (Q X (j+n))) 0))-c))-b))))) from (DX y i)) eQ)) (Ag (LL (by rfl) B (As (AA (Ag (Ab x [] Abc a0) (Ag (A7 O) (Ab (t:=L 4 (Ak 1 0 []::Ak 1 0 []::L 3 (N s::f vs::Ak 1 k (A (m.set (Y (Q X (j+n))) (Q U (H m (Y (Q X (j+n))) 0+Q U p))))::N n::Ak 1 h (A e)::N j::L 1 (C (J R (Q R (g-1)))::L 290 [])))) x [.v (J U (H m (Y (Q X (j+n))) 0)),.l (A (m.set (Y (Q X (j+n))) (Q U (H m (Y (Q X (j+n))) 0+Q U p))))] [4,5,9,10,11,12,13,14,16] (FJ i (Dc z i) i (show Di (A m) (Y (Q X (j+n))*1) [J U (Q U (H m (Y (Q X (j+n))) 0+Q U p))]=some (A (m.set (Y (Q X (j+n))) (Q U (H m (Y (Q X (j+n))) 0+Q U p)))) from (DX z i))))))))) (Ab (t:=L 4 (Ak 1 0 []::Ak 1 0 []::L 3 (N s::f vs::Ak 1 k (A (m.set (Y (Q X (j+n))) (Q U (H m (Y (Q X (j+n))) 0+Q U p))))::N n::Ak 1 h (A (e.set (Y j) (Q U (Q R (g-1)))))::N j::L 292 []))) x [.l (A (e.set (Y j) (Q U (Q R (g-1)))))] RK (DH K (show Di (A e) (Y j*1) [J U (Q U (Q R (g-1)))]=some (A (e.set (Y j) (Q U (Q R (g-1))))) from (DX P K))))))))))))))) (Ab x [] RK a0))
theorem A4g(a:G)(g r b c:Int)(c1:E (j>=0)=true)(B:((d (Q R ((Q R ((Q R (H a (Y (Q X (j+n))) 0))-c))-b)) (2^(min (Y 63) (A5 .u64)))) != 0)=false)(i:0<=Q X (j+n)/\Q X (j+n)<(k:Int))(q:F us=k)(u:0<=Q X (Q X (j+n)-1)/\Q X (Q X (j+n)-1)<(k:Int))(o:0<=Q X (n-1)/\Q X (n-1)<(F vs:Int))(w:¬ (Q R (H vs (Y (Q X (n-1))) 0))=0)(D:Z (.loop KP) (FF k us vs n h e s j (Q R (AF (Q R ((Aj (A5 .u64) (Q R (Q R (H us (Y (Q X (j+n))) 0)*2^(min (Y 32) (A5 .u64)))) ||| Aj (A5 .u64) (Q R (H us (Y (Q X (Q X (j+n)-1))) 0))).toNat)) (Q R (H vs (Y (Q X (n-1))) 0)))) (Bl (Q R ((Aj (A5 .u64) (Q R (Q R (H us (Y (Q X (j+n))) 0)*2^(min (Y 32) (A5 .u64)))) ||| Aj (A5 .u64) (Q R (H us (Y (Q X (Q X (j+n)-1))) 0))).toNat)) (Q R (H vs (Y (Q X (n-1))) 0)))) xZ6 (FF k us vs n h e s j g r))(I:Z (.loop VN) (LS k us vs n h e s j g 0 0 0) xZ8 (LS k a vs n h e s j g b c n))(y:F a=k)(M:0<=j/\j<h)(z:F e=h):Z U8 (L5 k us vs n h e s j) .norm (L5 k (a.set (Y (Q X (j+n))) (Q U (Q R ((Q R ((Q R (H a (Y (Q X (j+n))) 0))-c))-b)))) vs n h (e.set (Y j) (Q U g)) s (Q X (j-1))):=Ag (Ab (t:=L 4 (Ak 1 0 []::Ak 1 0 []::L 3 (N s::f vs::Ak 1 k (A us)::N n::Ak 1 h (A e)::N j::L 292 []))) x [bT] RK (BO c1)) (Ag (Bo (As (Ag (Ab x [.v (J U (H us (Y (Q X (j+n))) 0)),.v (J U (H us (Y (Q X (Q X (j+n)-1))) 0)),.v (J U (H vs (Y (Q X (n-1))) 0)),.v (J U (H vs (Y (Q X (n-1))) 0))] Ul (IU i (Dc q i) K9 u (Dc q u) o (B7 o) w o (B7 o) w)) (Ag (A7 D) (AA (Ag (Ab x [] nC a0) (Ag (A7 I) (As (AA (Ag (Ab (t:=L 4 (Ak 1 0 []::Ak 1 0 []::L 3 (N s::f vs::Ak 1 k (A (a.set (Y (Q X (j+n))) (Q U (Q R ((Q R ((Q R (H a (Y (Q X (j+n))) 0))-c))-b)))))::N n::Ak 1 h (A e)::N j::L 1 (C (J R g)::L 236 (C (W ((d (Q R ((Q R ((Q R (H a (Y (Q X (j+n))) 0))-c))-b)) (2^(min (Y 63) (A5 .u64)))) != 0))::L 53 []))))) x [.v (J U (H a (Y (Q X (j+n))) 0)),.l (A (a.set (Y (Q X (j+n))) (Q U (Q R ((Q R ((Q R (H a (Y (Q X (j+n))) 0))-c))-b)))))] A0b (Ff i (Dc y i) i (show Di (A a) (Y (Q X (j+n))*1) [J U (Q U (Q R ((Q R ((Q R (H a (Y (Q X (j+n))) 0))-c))-b)))]=some (A (a.set (Y (Q X (j+n))) (Q U (Q R ((Q R ((Q R (H a (Y (Q X (j+n))) 0))-c))-b))))) from (DX y i)) eQ)) (Ag (LM (by rfl) B (Ab (t:=L 4 (Ak 1 0 []::Ak 1 0 []::L 3 (N s::f vs::Ak 1 k (A (a.set (Y (Q X (j+n))) (Q U (Q R ((Q R ((Q R (H a (Y (Q X (j+n))) 0))-c))-b)))))::N n::Ak 1 h (A e)::N j::L 1 (C (J R g)::L 290 [])))) x [] [4,5,9,10,11,12,13,14,16] a0)) (Ab (t:=L 4 (Ak 1 0 []::Ak 1 0 []::L 3 (N s::f vs::Ak 1 k (A (a.set (Y (Q X (j+n))) (Q U (Q R ((Q R ((Q R (H a (Y (Q X (j+n))) 0))-c))-b)))))::N n::Ak 1 h (A (e.set (Y j) (Q U g)))::N j::L 292 []))) x [.l (A (e.set (Y j) (Q U g)))] RK (DH M (show Di (A e) (Y j*1) [J U (Q U g)]=some (A (e.set (Y j) (Q U g))) from (DX z M))))))))))))))) (Ab x [] RK a0))
theorem A4h(c1:E (j>=0)=false):Z U8 (L5 k us vs n h e s j) xZ4 (L5 k us vs n h e s j):=AG (Ab x [bF] RK (BO c1))
end
theorem Aea(xs a:G)(b:Int)(c1:E (b<0)=true)(c:T 134 [sL A xs,sL A a] (J X b)):T 165 [sL A xs,sL A a] (A3 [P 0 [],sL A xs]):=CQ OW (L 1 (C (sL A a)::L 2 (Ak 1 0 []::C (sL A xs)::L 301 []))) (As (AA (AG (Ab x [.r (J X b),bT] [1,4,5] (DH c c1)))))
theorem Aeb(xs b a:G)(c r i:Int)(k:Nat)(c1:E (c<0)=false)(d:((F b:Int)==1)=true)(e:T 134 [sL A xs,sL A b] (J X c))(g:0<=(F xs:Int)/\(F xs:Int)<=1048576)(h:Z (.loop YZ) ((C (sL A xs)::C (sL A b)::L 2 (Ak 1 0 []::Ak 1 0 []::Ak 1 (Y (F xs)) (C_ [J U 0] (Y (F xs)))::C (J R 0)::N (Q X (F xs-1))::L 298 []))) xZ0 (Qt xs b k a r i))(j:T 99 [P k (A a)] (Ae 1 (F (Af a)) (A (Af a))))(l:T 99 [P 1 [J U (Q U r)]] (Ae 1 (F (Af [Q U r])) (A (Af [Q U r])))):T 165 [sL A xs,sL A b] (A3 [sL A (Af a),sL A (Af [Q U r])]):=CQ OW (L 1 (C (sL A b)::L 2 (Ak 1 (F (Af a)) (A (Af a))::Ak 1 (F (Af [Q U r])) (A (Af [Q U r]))::L 301 []))) (As (AA (Ag (Ab (t:=(f xs::f b::L 2 (Ak 1 0 []::Ak 1 0 []::L 26 (C (W ((F b:Int)==1))::L 274 [])))) x [.r (J X c),bF] [0,1,4,5,32] (DH e c1)) (AG (LL (by rfl) d (As (AA (Ag (Ab x [] gS (BO g)) (Ag (A7 h) (Ab x [.r (Ae 1 (F (Af a)) (A (Af a))),.r (Ae 1 (F (Af [Q U r])) (A (Af [Q U r])))] [1,4,5] (DH j l)))))))))))
theorem Aec(xs c d us vs:G)(e s n j a b w:Int)(k g:Nat)(c1:E (e<0)=false)(h:((F c:Int)==1)=false)(i:T 134 [sL A xs,sL A c] (J X e))(l:Z (.loop Y_) (OA xs c 0) xZ2 (OA xs c s))(m:T 84 [Ao [W false,sL A c],J X s] (Dk b))(p:F (o (I a))+2<=35184372088832)(q:T 84 [Ao [W false,sL A xs],J X s] (Dk a))(u:0<=(if (Q X (F c+1))>(Q X (F xs+1)) then (Q X (F c+1)) else (Q X (F xs+1)))/\(if (Q X (F c+1))>(Q X (F xs+1)) then (Q X (F c+1)) else (Q X (F xs+1)))<=(((F (o (I a))+2):Nat):Int))(v:0<=Q X (Y (if (Q X (F c+1))>(Q X (F xs+1)) then (Q X (F c+1)) else (Q X (F xs+1)))-F (o (I b)))/\Q X (Y (if (Q X (F c+1))>(Q X (F xs+1)) then (Q X (F c+1)) else (Q X (F xs+1)))-F (o (I b)))<=1048576)(y:Z (.loop U8) ((L 4 (Ak 1 0 []::Ak 1 0 []::L 3 (N s::C (sL A (o (I b)))::Ak 1 (Y (if (Q X (F c+1))>(Q X (F xs+1)) then (Q X (F c+1)) else (Q X (F xs+1)))) (BF (Y (if (Q X (F c+1))>(Q X (F xs+1)) then (Q X (F c+1)) else (Q X (F xs+1)))*1) (A (o (I a))++([J U 0,J U 0]:AK)))::N (F (o (I b)):Int)::Ak 1 (Y (Q X (Y (if (Q X (F c+1))>(Q X (F xs+1)) then (Q X (F c+1)) else (Q X (F xs+1)))-F (o (I b))))) (C_ [J U 0] (Y (Q X (Y (if (Q X (F c+1))>(Q X (F xs+1)) then (Q X (F c+1)) else (Q X (F xs+1)))-F (o (I b))))))::N (Q X (Q X (Y (if (Q X (F c+1))>(Q X (F xs+1)) then (Q X (F c+1)) else (Q X (F xs+1)))-F (o (I b)))-1))::L 292 [])))) xZ4 (L5 k us vs n g d s j))(z:T 99 [P g (A d)] (Ae 1 (F (Af d)) (A (Af d))))(B:T 128 [Ao [W false,P k (A us)],J X s] (M w)):T 165 [sL A xs,sL A c] (A3 [sL A (Af d),sL A (o (I w))]):=CQ OW (L 4 (Ak 1 (F (Af d)) (A (Af d))::C (sL A (o (I w)))::L 301 [])) (As (AA (Ag (Ab (t:=(f xs::f c::L 2 (Ak 1 0 []::Ak 1 0 []::L 26 (C (W ((F c:Int)==1))::L 274 [])))) x [.r (J X e),bF] [0,1,4,5,32] (DH i c1)) (Ag (LM (by rfl) h (Ab (t:=(f xs::f c::L 2 (Ak 1 0 []::Ak 1 0 []::L 26 (C (W ((F c:Int)==1))::L 274 [])))) x [] [0,1,4,5,32] a0)) (Ag (Ab x [] [0,1,4,5,9] a0) (Ag (A7 l) (As (As (As (As (AA (Ag (Ab x [.r (Dk b),.r (Dk a)] RK (Gm m q (show F ([J U 0,J U 0]:AK)=2*1 from rfl) p u v)) (Ag (A7 y) (Ab x [.r (Ae 1 (F (Af d)) (A (Af d))),.r (M w)] [4,5] (DH z B)))))))))))))))
def TDA:Dd:=TBE
theorem Aed:CT DP TDA:=x
theorem AIv{p:Int}{s:Nat}(hp:0<=p/\p<18446744073709551616)(hs:s<=63):Q R ((Aj (A5 .u64) p &&& Aj (A5 .u64) (2^s-1)).toNat)=p % 2^s:=by
 obtain⟨m,rfl⟩:=PQ hp.1;have hb:A5 .u64=64:=rfl;have a:(Aj 64 (m:Int)).toNat=m:=Gn 64 m (by omega);have h2:2^s<=2^63:=B_ (by decide) hs;have b:0<2^s:=E5 (by decide);have c:((2:Int)^s-1)=((2^s-1:Nat):Int):=by
  have:((2^s:Nat):Int)=(2:Int)^s:=by simp
  omega
 have d:(Aj 64 ((2^s-1:Nat):Int)).toNat=2^s-1:=Gn 64 (2^s-1) (by omega);rw[hb,Ri,a,c,d,YD,Cz];have f:m % 2^s<2^s:=IV _ b;have e:((m % 2^s:Nat):Int)=(m:Int) % 2^s:=by simp
 rw[<- e];omega
theorem Aee{p:Int}{s:Nat}(hp:0<=p/\p<4294967296)(hs:s<=31):Q U ((Aj (A5 .u32) p &&& Aj (A5 .u32) (2^s-1)).toNat)=p % 2^s:=by
 obtain⟨m,rfl⟩:=PQ hp.1;have hb:A5 .u32=32:=rfl;have a:(Aj 32 (m:Int)).toNat=m:=Gn 32 m (by omega);have h2:2^s<=2^31:=B_ (by decide) hs;have b:0<2^s:=E5 (by decide);have c:((2:Int)^s-1)=((2^s-1:Nat):Int):=by
  have:((2^s:Nat):Int)=(2:Int)^s:=by simp
  omega
 have d:(Aj 32 ((2^s-1:Nat):Int)).toNat=2^s-1:=Gn 32 (2^s-1) (by omega);rw[hb,Ri,a,c,d,YD,Fb];have f:m % 2^s<2^s:=IV _ b;have e:((m % 2^s:Nat):Int)=(m:Int) % 2^s:=by simp
 rw[<- e];omega
theorem AIw{p:Int}(hp:0<=p/\p<4294967296):(Q U ((Aj (A5 .u32) p &&& Aj (A5 .u32) 2147483648).toNat)==0)=decide (p<2147483648):=by
 obtain⟨m,rfl⟩:=PQ hp.1;have hb:A5 .u32=32:=rfl;have c:(Aj 32 (m:Int)).toNat=m:=Gn 32 m (by omega);have d:(Aj 32 2147483648).toNat=2147483648:=Gn 32 2147483648 (by decide);rw[hb,Ri,c,d,Fb];have f:m &&& 2147483648<=2147483648:=Nat.and_le_right;have b:(m &&& 2147483648=0)↔m<2147483648:=by
  constructor
  ·intro h;have e:m<2^32:=by omega
   have a:(m &&& 2^31).testBit 31=false:=by
    have:(m &&& 2^31)=0:=h;rw[this];rfl
   rw[ABn] at a;have:(2^31:Nat).testBit 31=true:=by decide
   rw[this,Ob] at a;refine Nat.lt_pow_two_of_testBit m (n:=31) fun i hi => ?_;rcases Nat.eq_or_lt_of_le hi with h1 | h1
   ·rw[<- h1];exact a
   ·exact vC (Dg e (B_ (by decide) (by omega)))
  ·intro h;apply Nat.eq_of_testBit_eq;intro i;rw[ABn,Nat.zero_testBit];by_cases hi:i=31
   ·subst hi;rw[vC (x:=m) (i:=31) (by omega)];rfl
   ·have:(2147483648:Nat).testBit i=false:=by
     rw[show (2147483648:Nat)=2^31 by decide,Nat.testBit_two_pow];simp;omega
    rw[this,Li]
 rw[W2,BJ,AZ];constructor
 ·intro h;have:m &&& 2147483648=0:=by omega
  have:=b.1 this;omega
 ·intro h;have:=b.2 (by omega);omega
theorem Sn{a b:Int}(c:F (o (I a))<1048576)(hb:F (o (I b))<1048576):T 129 [M a,M b] (M (a-b)):=by
 have h:=Yh (na:=decide (a<0)) (nb:=decide (b<0)) (CB (I a)) (CB (I b)) c hb;rw[GT,GT] at h;exact h
theorem So{xs:G}(h:B9 xs){v:Int}(hv:0<=v):(An xs+v=0)↔(An xs=0/\v=0):=by
 have:=BK h;omega
theorem Aef{neg:Bool}{xs c:G}{n:Nat}(g:B9 c)(hn:(n:Int)<=9223372036854775807)(q:F c<=1048576):∀ (r i:Nat),i+r=min (F c) (n / 32) ->
  Z (.loop IE) (E8 neg xs (n:Nat) c (E (An (c.take i) ≠ 0)) (i:Nat)) xZ0 (E8 neg xs (n:Nat) c (E (An (c.take (n / 32)) ≠ 0)) ((min (F c) (n / 32):Nat))):=by
 have e:Q X (AF (n:Int) 32)=((n / 32:Nat):Int):=by
  rw[Cu (by omega),wqz];omega
 intro r;induction r with
 | zero =>
  intro i hi;have hi':i=min (F c) (n / 32):=by omega
  have l:c.take i=c.take (n / 32):=by
   rcases Nat.le_total (F c) (n / 32) with h | h
   ·rw[Dt (by omega),Dt h]
   ·rw[hi',Nat.min_eq_right h]
  rw[l,<- hi'];by_cases s:i<F c
  ·exact Aq (Aoo neg xs _ c _ _ (by simp;omega) (by rw[e];simp;omega))
  ·exact Aq (Aop neg xs _ c _ _ (by simp;omega))
 | succ r m =>
  intro i hi;have j:Q X (i+1)=((i+1:Nat):Int):=wrz
  have o:=Bn g i;have hp:=Dx i;have p:=Fc c i (by omega);have hz:(An (c.take (i+1))=0)↔(An (c.take i)=0/\H c i 0=0):=by
   have hx:=So (EZ g i) (A8 (A9 hp) o.1);rw[<- p] at hx;rw[hx,F5];constructor
   ·rintro⟨a,b⟩;exact⟨a,by omega⟩
   ·rintro⟨a,b⟩;exact⟨a,.inr b⟩
  have step:Z IE (E8 neg xs (n:Nat) c (E (An (c.take i) ≠ 0)) (i:Nat)) .norm (E8 neg xs (n:Nat) c (E (An (c.take (i+1)) ≠ 0)) ((i+1:Nat))):=by
   by_cases d:An (c.take i)=0
   ·have k:=Aon neg xs (n:Nat) c (E (An (c.take i) ≠ 0)) (i:Nat) (by simp;omega) (by rw[e];simp;omega) (by simp[d]) (by omega);rw[j,Aa] at k;have f:(H c i 0 != 0)=decide (An (c.take (i+1)) ≠ 0):=by
     rw[W2,bne_iff_ne,AZ,ne_eq,ne_eq,hz];simp[d]
    rw[f] at k;exact k
   ·have k:=Aom neg xs (n:Nat) c (E (An (c.take i) ≠ 0)) (i:Nat) (by simp;omega) (by rw[e];simp;omega) (by simp[d]);rw[j] at k;have f:true=decide (An (c.take (i+1)) ≠ 0):=by
     symm;rw[AZ,ne_eq,hz];exact fun h=>d h.1
    rw[<- f];exact k
  exact Bk step (m (i+1) (by omega))
theorem vD{x y:Int}(hx:0<=x/\x<4294967296){s:Nat}(hs:s<32):(y*4294967296+x) / 2^s % 4294967296=y % 2^s*2^(32-s)+x / 2^s:=by
 have e:=VI (show s<=32 by omega);have hp:=CA s;have i:=CA (32-s);have h1:(y*4294967296+x) / 2^s=y*2^(32-s)+x / 2^s:=by
  rw[e,<- Bm,Nx,AHs _ _ (by omega),Nx]
 have j:x / 2^s<2^(32-s):=N4 hp (by rw[<- e];exact hx.2);have k:0<=x / 2^s:=Kr hx.1 (by omega);have d:=Hu y (show (2:Int)^s ≠ 0 by omega);have m1:=FH y hp;have g:=Ik y (2^s);rw[h1];have h:y*2^(32-s)+x / 2^s=(y % 2^s*2^(32-s)+x / 2^s)+4294967296*(y / 2^s):=by
  rw[e];generalize y % 2^s=a at *
  generalize y / 2^s=b at *
  generalize (2:Int)^(32-s)=f at *
  generalize (2:Int)^s=c at *
  generalize x / c=z at *
  rw[<- g];grind
 rw[h,Y5];apply HR
 ·have:=A8 d (show (0:Int)<=2^(32-s) by omega);omega
 ·have c1:=Ap (show y % 2^s+1<=2^s by omega) (show (0:Int)<=2^(32-s) by omega);rw[H2,D0,AT (2^s),<- e] at c1;omega
theorem Aeg{neg lost:Bool}{xs ms:G}{sh:Int}{s k:Nat}(c:B9 ms)(hs:s<32)(o:F ms<=1048576)(p:k<=F ms):∀ (r i:Nat),i+r=F ms-k ->
  Z (.loop Ig) (Eo neg xs sh ms i (A ((Ay i).map (En (ms.drop k) s))) lost (s:Nat) ((k+i:Nat))) xZ2 (Eo neg xs sh ms (F ms-k) (A ((Ay (F ms-k)).map (En (ms.drop k) s))) lost (s:Nat) (F ms:Nat)):=by
 intro r;induction r with
 | zero =>
  intro i hi;have hi':i=F ms-k:=by omega
  subst hi';have e0:((k+(F ms-k):Nat):Int)=(F ms:Nat):=by omega
  rw[e0];exact Aq (jL neg xs sh ms _ _ lost _ _ (by simp))
 | succ r e =>
  intro i hi;have b:Q X ((k+i:Nat)+1)=((k+(i+1):Nat):Int):=wrz
  have hx:=Bn c (k+i);have hy:=Bn c (k+i+1);have f:H (ms.drop k) i 0=H ms (k+i) 0:=by simp[Ad,Cb]
  have g:H (ms.drop k) (i+1) 0=H ms (k+i+1) 0:=by simp[Ad,Cb,E1]
  have d:min (Y s) (A5 .u64)=s:=by rw[Aa];show min s 64=s;omega
  have h:En (ms.drop k) s i=(H ms (k+i+1) 0*4294967296+H ms (k+i) 0) / 2^s % 4294967296:=by
   rw[vD hx hs];unfold En;rw[f,g]
  have j:Z Ig (Eo neg xs sh ms i (A ((Ay i).map (En (ms.drop k) s))) lost (s:Nat) ((k+i:Nat))) .norm (Eo neg xs sh ms (i+1) (A ((Ay (i+1)).map (En (ms.drop k) s))) lost (s:Nat) ((k+(i+1):Nat))):=by
   have l:A ((Ay (i+1)).map (En (ms.drop k) s))=A ((Ay i).map (En (ms.drop k) s))++([J U (En (ms.drop k) s i)]:AK):=by
    rw[Jw,D_,CW,HC,JP]
   rw[l,h];by_cases h1:k+i+1<F ms
   ·have a:=Aoq neg xs sh ms i (A ((Ay i).map (En (ms.drop k) s))) lost (s:Nat) ((k+i:Nat)) (by simp;omega) (by rw[b];simp;omega) (by omega) (by rw[b];omega) (by omega) (by omega);rw[b,Aa,Aa,d] at a;have m:Q R ((Aj (A5 .u64) (Q R (H ms (k+i) 0)) ||| Aj (A5 .u64) (Q R (Q R (H ms (k+(i+1)) 0)*2^(min (Y 32) (A5 .u64))))).toNat)=H ms (k+i+1) 0*4294967296+H ms (k+i) 0:=by
     rw[YC,D9 (n:=H ms (k+(i+1)) 0) (by rw[<- E1];omega),<- E1];exact Qr hy hx
    have q:0<=H ms (k+i+1) 0*4294967296+H ms (k+i) 0:=by omega
    rw[m,BX _ (by have:=CA s;omega),Fb] at a;exact a
   ·have hz:H ms (k+i+1) 0=0:=Cp (by omega);have a:=Aor neg xs sh ms i (A ((Ay i).map (En (ms.drop k) s))) lost (s:Nat) ((k+i:Nat)) (by simp;omega) (by rw[b];simp;omega) (by omega) (by omega) (by omega);rw[b,Aa,d,D9 (n:=H ms (k+i) 0) (by omega),BX _ (by have:=CA s;omega),Fb] at a;rw[hz,Cs,E7];exact a
  exact Bk j (e (i+1) (by omega))
theorem vE{ms:G}{s k:Nat}(hs:s<32)(b:k<=F ms) :
  An ms=4294967296^k*(2^s*An ((Ay (F ms-k)).map (En (ms.drop k) s))+H ms k 0 % 2^s)+An (ms.take k):=by
 have h1:=Eu ms b;have h2:=vB (us:=ms.drop k) s hs (F ms-k) (by simp);have g0:H (ms.drop k) 0 0=H ms k 0:=by simp[Ad,Cb]
 have c:H (ms.drop k) (F ms-k) 0=0:=Cp (by simp);rw[Dt (by simp),g0,c,Int.zero_emod,Be,Cx] at h2;rw[h2,h1];generalize An (ms.drop k)=a;generalize An (ms.take k)=Y;generalize H ms k 0 % 2^s=z;have:a-z+z=a:=by omega
 rw[this];omega
theorem bD{neg:Bool}{xs:G}(hu:B9 xs)(n:Nat)(hn:(n:Int)<=9223372036854775807)(hN:F xs<1048576):T 128 [Ao [W neg,sL A xs],J X (n:Nat)] (M (v neg xs / 2^n)):=by
 have t1:=Ct xs;have p:=Ti hu;have u:Q X (AF (n:Int) 32)=((n / 32:Nat):Int):=by
  rw[Cu (by omega),wqz];omega
 have w:Q R (Bl (n:Int) 32)=((n % 32:Nat):Int):=by
  rw[BY (by omega),Cz];omega
 have hs:n % 32<32:=IV _ (by decide);have r:=Fp (xs:=xs) (by omega);have m:=Aef (neg:=neg) (xs:=xs) (n:=n) p hn (by omega) (min (F (Af xs)) (n / 32)) 0 (by omega);rw[OQ] at m;have e0:decide (An ([]:G) ≠ 0)=false:=rfl;rw[e0] at m;have D:=MW (n:=1) (by omega);have hp:=K2 n;have C:=Dx (n / 32);have hS:=CA (n % 32);rw[<- aW neg xs];generalize d:Af xs=ms at *
 have N:∀ (q l:Int),0<=l->l<2^n->An ms=2^n*q+l->v neg ms / 2^n=if neg=true/\l ≠ 0 then -q-1 else if neg then -q else q:=by
  intro q l a3 a4 hv;have b0:=CA n;unfold v;rw[hv];cases neg with
  | false=>simp only[CI,if_false,false_and];rw[Nx,X7 _ _ (by omega),IQ a3 a4];omega
  | true =>
   simp only[if_true,true_and];by_cases f:l=0
   ·rw[Aw (by simp[f]),f,Cx,<- F8,CL _ (by omega)]
   ·rw[Ar (by simpa using f)];have : -(2^n*q+l)=(2^n-l)+2^n*(-q-1):=by rw[Gs,F8];omega
    rw[this,X7 _ _ (by omega),IQ (by omega) (by omega)];omega
 by_cases hk:n / 32<F ms
 ·-- some o are left
  have hb:=Aeg (neg:=neg) (lost:=decide (An (ms.take (n / 32)) ≠ 0)) (xs:=xs) (ms:=ms) (sh:=(n:Int)) (s:=n % 32) (k:=n / 32) p hs (by omega) (by omega) (F ms-n / 32) 0 (by omega);have c1:decide (Q X (AF (n:Int) 32)<(F ms:Int))=true:=by rw[u];simp;omega
  have a5:=vE (ms:=ms) hs (show n / 32<=F ms by omega);have O:B9 ((Ay (F ms-n / 32)).map (En (ms.drop (n / 32)) (n % 32))):=U7 fun i=>(VM (G5 p _) hs i).2.2.2;have j:=HM (neg:=neg) O (by simp;omega);have a6:F ((Ay (F ms-n / 32)).map (En (ms.drop (n / 32)) (n % 32)))=F ms-n / 32:=by simp
  unfold sL at j;rw[a6] at j;have hq:=Gc (neg:=neg) O;generalize hQ:(Ay (F ms-n / 32)).map (En (ms.drop (n / 32)) (n % 32))=c at *
  have S:=Hu (H ms (n / 32) 0) (show (2:Int)^(n % 32) ≠ 0 by omega);have b1:=FH (H ms (n / 32) 0) hS;have b2:=BK (EZ p (n / 32));have b3:=HK p (n / 32);have y:Z (.loop Ig) (Eo neg xs (n:Nat) ms 0 [] (E (An (ms.take (n / 32)) ≠ 0)) (Q R (Bl (n:Int) 32)) (Q X (AF (n:Int) 32))) xZ2 (Eo neg xs (n:Nat) ms (F ms-n / 32) (A c) (E (An (ms.take (n / 32)) ≠ 0)) (Q R (Bl (n:Int) 32)) (F ms:Nat)):=by
   rw[u,w];exact hb
  have a7:Q U (Q U (1*2^(min (Y (Q R (Bl (n:Int) 32))) (A5 .u32)))-1)=2^(n % 32)-1:=by
   have:min (Y ((n % 32:Nat))) (A5 .u32)=n % 32:=by rw[Aa];show min (n % 32) 32=n % 32;omega
   have b4:(2:Int)^(n % 32)<=2147483648:=Iq (show n % 32<=31 by omega);rw[w,this,D0,Fb,Fb];omega
  have V:Q U ((Aj (A5 .u32) (H ms (Y (Q X (AF (n:Int) 32))) 0) &&& Aj (A5 .u32) (Q U (Q U (1*2^(min (Y (Q R (Bl (n:Int) 32))) (A5 .u32)))-1))).toNat)=H ms (n / 32) 0 % 2^(n % 32):=by
   rw[a7,u,Aa];exact Aee (Bn p _) (by omega)
  have hl:0<=4294967296^(n / 32)*(H ms (n / 32) 0 % 2^(n % 32))+An (ms.take (n / 32))/\4294967296^(n / 32)*(H ms (n / 32) 0 % 2^(n % 32))+An (ms.take (n / 32))<2^n:=by
   rw[hp];generalize (4294967296:Int)^(n / 32)=P at *
   generalize H ms (n / 32) 0 % 2^(n % 32)=z at *
   generalize (2:Int)^(n % 32)=e at *
   have a:=A8 (A9 C) S;have b:=Ax (show z+1<=e by omega) (A9 C);rw[DJ,DQ] at b;omega
  have t:=N (An c) _ hl.1 hl.2 (by rw[a5,hp];grind);have I:(4294967296^(n / 32)*(H ms (n / 32) 0 % 2^(n % 32))+An (ms.take (n / 32)) ≠ 0)↔(An (ms.take (n / 32)) ≠ 0\/H ms (n / 32) 0 % 2^(n % 32) ≠ 0):=by
   have a:=A8 (A9 C) S;by_cases hz:H ms (n / 32) 0 % 2^(n % 32)=0
   ·rw[hz,Be,E7];simp
   ·have:0<4294967296^(n / 32)*(H ms (n / 32) 0 % 2^(n % 32)):=Br C (by omega);constructor
    ·intro _;exact .inr hz
    ·intro _;omega
  by_cases K:neg=true
  ·subst K;have a1:v true c = -An c:=rfl;by_cases f:An (ms.take (n / 32)) ≠ 0
   ·rw[t,Ar ⟨rfl,I.2 (.inl f)⟩];have B:=Sn (a := -An c) (b:=1) (by rw[<- a1];omega) (by decide);refine Ads true (E (An (ms.take (n / 32)) ≠ 0)) xs (n:Nat) _ (F ms-n / 32) (A c) _ (-An c) _ (by rw[d];exact c1) (by simpa using f) rfl (by rw[d];exact r) (by rw[d];exact m) (by rw[d];exact y) j D B
   ·by_cases h1:H ms (n / 32) 0 % 2^(n % 32)=0
    ·rw[t,Aw (fun h=>by rcases I.1 h.2 with g | g;exact f g;exact g h1),Ar rfl];exact Adv true (E (An (ms.take (n / 32)) ≠ 0)) xs (n:Nat) _ (F ms-n / 32) (A c) _ (-An c) (by rw[d];exact c1) (by simpa using f) rfl (by rw[d,V,h1];rfl) (by rw[d];exact r) (by rw[d];exact m) (by rw[d];exact y) (by rw[d,u];omega) (by rw[w];omega) j
    ·rw[t,Ar ⟨rfl,I.2 (.inr h1)⟩];have B:=Sn (a := -An c) (b:=1) (by rw[<- a1];omega) (by decide);exact Adu true (E (An (ms.take (n / 32)) ≠ 0)) xs (n:Nat) _ (F ms-n / 32) (A c) _ (-An c) _ (by rw[d];exact c1) (by simpa using f) rfl (by rw[d,V];simpa using h1) (by rw[d];exact r) (by rw[d];exact m) (by rw[d];exact y) (by rw[d,u];omega) (by rw[w];omega) j D B
  ·have L:neg=false:=by cases neg <;> simp_all
   subst L;rw[t,Aw (by simp),Aw (by simp)];by_cases f:An (ms.take (n / 32)) ≠ 0
   ·exact Adt false (E (An (ms.take (n / 32)) ≠ 0)) xs (n:Nat) _ (F ms-n / 32) (A c) _ (An c) (by rw[d];exact c1) (by simpa using f) rfl (by rw[d];exact r) (by rw[d];exact m) (by rw[d];exact y) j
   ·exact Adw false (E (An (ms.take (n / 32)) ≠ 0)) xs (n:Nat) _ (F ms-n / 32) (A c) _ (An c) (by rw[d];exact c1) (by simpa using f) rfl (by rw[d];exact r) (by rw[d];exact m) (by rw[d];exact y) (by rw[d,u];omega) (by rw[w];omega) j
 ·-- nothing is left
  have c1:decide (Q X (AF (n:Int) 32)<(F ms:Int))=false:=by rw[u];simp;omega
  have a2:ms.take (n / 32)=ms:=Dt (by omega);have hb:Z (.loop Ig) (Eo neg xs (n:Nat) ms 0 [] (E (An (ms.take (n / 32)) ≠ 0)) (Q R (Bl (n:Int) 32)) (Q X (AF (n:Int) 32))) xZ2 (Eo neg xs (n:Nat) ms 0 [] (E (An (ms.take (n / 32)) ≠ 0)) (Q R (Bl (n:Int) 32)) (Q X (AF (n:Int) 32))) :=
   Aq (jL neg xs _ ms _ _ _ _ _ c1)
  have j:=HM (neg:=neg) (xs:=[]) (fun x h=>(nomatch h)) (by simp);have a8:v neg ([]:G)=0:=by unfold v;cases neg <;> rfl
  rw[a8] at j;have a9:An ms<2^n:=by
   have a:=EP p;have b:=HT (show F ms<=n / 32 by omega);rw[hp];have:=Ax (show (1:Int)<=2^(n % 32) by omega) (show (0:Int)<=4294967296^(n / 32) by omega);rw[DQ] at this;omega
  have t:=N 0 (An ms) (BK p) a9 (by rw[Be,E7]);by_cases K:neg=true
  ·subst K;by_cases f:An ms ≠ 0
   ·rw[t,Ar ⟨rfl,f⟩];have B:=Sn (a:=0) (b:=1) (by decide) (by decide);exact Adx true (E (An (ms.take (n / 32)) ≠ 0)) xs (n:Nat) _ 0 [] _ 0 _ (by rw[d];exact c1) rfl (by rw[a2];simpa using f) (by rw[d];exact r) (by rw[d];exact m) (by rw[d];exact hb) j D B
   ·rw[t,Aw (fun h=>f h.2),Ar rfl];exact Ady true (E (An (ms.take (n / 32)) ≠ 0)) xs (n:Nat) _ 0 [] _ 0 (by rw[d];exact c1) rfl (by rw[a2];simpa using f) (by rw[d];exact r) (by rw[d];exact m) (by rw[d];exact hb) j
  ·have L:neg=false:=by cases neg <;> simp_all
   subst L;rw[t,Aw (by simp),Aw (by simp)];exact Adz false (E (An (ms.take (n / 32)) ≠ 0)) xs (n:Nat) _ 0 [] _ 0 (by rw[d];exact c1) rfl (by rw[d];exact r) (by rw[d];exact m) (by rw[d];exact hb) j
def TDB:Dd:=TDA
theorem Aeh:CT DP TDB:=Aed
theorem Aei{xs:G}{d:Int}(hx:B9 xs)(hd:0<d/\d<4294967296)(B:F xs<=1048576):∀ (i:Nat) (qs:G) (r:Int),i<=F xs->F qs=F xs->B9 qs->0<=r/\r<d->(∀ t,t<i->H qs t 0=0) ->
  ∃ a b,Z (.loop YZ) (Qt xs [d] (F xs) qs r (i-1)) xZ0 (Qt xs [d] (F xs) a b (-1))/\F a=F xs/\B9 a/\(0<=b/\b<d)/\d*An a+b=d*An qs+4294967296^i*r+An (xs.take i):=by
 intro i;induction i with
 | zero =>
  intro qs r _ c f hr _;refine⟨qs,r,Aq (Aot xs [d] (F xs) qs r _ (by simp)),c,f,hr,by simp[An]⟩
 | succ i l =>
  intro qs r hi c f hr hz;have m:(((i+1:Nat):Int)-1)=(i:Nat):=by omega
  have o:Q X (i-1)=(i:Int)-1:=By (by omega) (by omega);have p:=Bn hx i;have h:H ([d]:G) (Y 0) 0=d:=rfl;have e:=Aos xs [d] (F xs) qs r (i:Nat) (by simp) (by omega) (by simp) (by rw[h,D9 (by omega)];omega) (by omega) c;rw[o,Aa,h,Qr (by omega) p,D9 (n:=d) (by omega)] at e;have g:0<=r*4294967296+H xs i 0:=by omega
  rw[Cu g,BY g] at e;generalize hv:r*4294967296+H xs i 0=v at *
  have C:=Ik v d;have q:=Hu v (show d ≠ 0 by omega);have s:=FH v hd.1;have j:0<=v / d:=Kr g (by omega);have k:v / d<4294967296:=by
   apply N4 hd.1;have:=Ap (show r<=d-1 by omega) (show (0:Int)<=4294967296 by omega);have:(d-1)*4294967296=4294967296*d-4294967296:=by omega
   omega
  rw[D9 (n:=v / d) (by omega),VH ⟨j,k⟩] at e;obtain⟨a,b,u,w,x,y,z⟩:=l (qs.set i (v / d)) (v % d) (by omega) (by simpa using c) (Ds f ⟨j,k⟩) ⟨q,s⟩ (fun t D=>by rw[Dp (by omega)];exact hz t (by omega));rw[m];refine⟨a,b,Bk e u,w,x,y,?_⟩;rw[z,EW _ _ _ (by omega),hz i (by omega),Fc xs i (by omega),AD];generalize (4294967296:Int)^i=P at *
  have A:H xs i 0=d*(v / d)+v % d-r*4294967296:=by omega
  rw[A];grind
theorem Aej{xs ys:G}{y:Int}{s:Nat}(b:ys ≠ [])(g:F ys<=1048576)(hy:H ys (F ys-1) 0=y)(hb:0<y)(hs:s<32)(h1:2147483648<=y*2^s)(h2:y*2^s<4294967296):∀ (r i:Nat),i+r=s ->
  Z (.loop Y_) (OA xs ys (i:Nat)) xZ2 (OA xs ys (s:Nat)):=by
 have h:=Av.2 b;have en:Q X (F ys-1)=((F ys-1:Nat):Int):=wrz
 have cond:∀ i:Nat,i<=s->(Q U ((Aj (A5 .u32) (Q U (H ys (Y (Q X (F ys-1))) 0*2^(min (Y (Q R i)) (A5 .u32)))) &&& Aj (A5 .u32) 2147483648).toNat)==0)=decide (y*2^i<2147483648):=by
  intro i hi;have c:min (Y i) (A5 .u32)=i:=by rw[Aa];show min i 32=i;omega
  have hp:=Iq hi;have j:=CA i;have a:=Ax hp (show 0<=y by omega);have l:=A8 (show 0<=y by omega) (show (0:Int)<=2^i by omega);rw[D9 (n:=(i:Int)) (by omega),c,en,Aa,hy,VH (n:=y*2^i) (by omega)];exact AIw (by omega)
 intro r;induction r with
 | zero =>
  intro i hi;have:i=s:=by omega
  subst this;exact Aq (Aov xs ys _ (by rw[cond i (A2 _)];simp;omega) (by rw[en];omega) (by rw[D9 (by omega)];omega))
 | succ r d =>
  intro i hi;have e:Q X (i+1)=((i+1:Nat):Int):=wrz
  have f:y*2^i<2147483648:=by
   have hp:=Iq (show i+1<=s by omega);rw[AD] at hp;have a:=Ax hp (show 0<=y by omega);rw[<- Bm] at a;omega
  have k:=Aou xs ys (i:Nat) (by rw[cond i (by omega)];simpa using f) (by rw[en];omega) (by rw[D9 (by omega)];omega);rw[e] at k;exact Bk k (d (i+1) (by omega))
section
variable {k:Nat} {us vs:G} {kq:Nat} {qs:G} {s:Int} {j m:Nat}
theorem Aek(V:F vs=m+2)(t:F us=k)(W:k<=1048577)(hj:j+m+2<k)(h:Dig m (An vs) (An (us.drop j)) (H vs (m+1) 0) (H vs m 0) (H us (j+m+2) 0) (H us (j+m+1) 0) (H us (j+m) 0)):∀ (f:Nat) (g r:Int),g.toNat<=f ->
  DigI (An vs) (An (us.drop j)) (H vs (m+1) 0) (H us (j+m+2) 0*4294967296+H us (j+m+1) 0) g r->r<4294967296 ->
  ∃ c z,Z (.loop KP) (FF k us vs ((m+2:Nat)) kq qs s (j:Nat) g r) xZ6 (FF k us vs ((m+2:Nat)) kq qs s (j:Nat) c z) /\
   (0<=c/\c<4294967296)/\An (us.drop j)<(c+1)*An vs/\c*An vs<An (us.drop j)+An vs:=by
 have ht:=h.htop;have B:=h.hnxt;have hz:=h.hz;have C:Q X (Q X (j+(m+2:Nat))-2)=((j+m:Nat):Int):=by
  rw[By (n:=(j:Int)+((m+2:Nat):Int)) (by omega) (by omega),wqz];omega
 have D:Q X ((m+2:Nat)-2)=(m:Int):=wrz
 have G:Q X ((m+2:Nat)-1)=((m+1:Nat):Int):=wrz
 have K:Q R (H vs (Y (Q X ((m+2:Nat)-1))) 0)=H vs (m+1) 0:=by rw[G,Aa,D9 (by omega)]
 have en:Q R (H vs (Y (Q X ((m+2:Nat)-2))) 0)=H vs m 0:=by rw[D,Aa,D9 (by omega)]
 have u:0<=Q X ((m+2:Nat)-2)/\Q X ((m+2:Nat)-2)<(F vs:Int):=by rw[D];omega
 have v:0<=Q X ((m+2:Nat)-1)/\Q X ((m+2:Nat)-1)<(F vs:Int):=by rw[G];omega
 have w:0<=Q X (Q X (j+(m+2:Nat))-2)/\Q X (Q X (j+(m+2:Nat))-2)<(k:Int):=by rw[C];omega
 have x:∀ g r:Int,0<=r->r<4294967296->0<=g*H vs m 0/\g*H vs m 0<18446744073709551616->(E (Q R (g*Q R (H vs (Y (Q X ((m+2:Nat)-2))) 0))>Q R ((Aj (A5 .u64) (Q R (r*2^(min (Y 32) (A5 .u64)))) ||| Aj (A5 .u64) (Q R (H us (Y (Q X (Q X (j+(m+2:Nat))-2))) 0))).toNat)):Bool)=decide (r*4294967296+H us (j+m) 0<g*H vs m 0):=by
  intro g r e hr l;rw[en,C,Aa,Qr ⟨e,hr⟩ hz,D9 l]
 intro f;induction f with
 | zero =>
  intro g r L i hr;have o:g=0:=by have:=i.g0;omega
  subst o;have M:¬ (r*4294967296+H us (j+m) 0<0*H vs m 0):=by have:=i.r0;omega
  have A:=jM k us vs ((m+2:Nat)) kq qs s (j:Nat) 0 r (by simp) (by simpa using hr) (by
   rw[x 0 r i.r0 hr (by omega),AW];exact M) u w t
  exact⟨0,r,Aq A,by omega,i.up,h.out i (by omega) (TQ (by omega))⟩
 | succ f N =>
  intro g r L i hr;have O:=i.gle;have P:=i.g0;have e:=i.r0;have l:0<=g*H vs m 0/\g*H vs m 0<18446744073709551616:=by
   have a:=A8 P B.1;have b:=Fk O (show H vs m 0<=4294967295 by omega) B.1 (by omega);omega
  have d:Q R (r+Q R (H vs (Y (Q X ((m+2:Nat)-1))) 0))=r+H vs (m+1) 0:=by rw[K];exact D9 (by omega)
  by_cases hc:4294967296<=g\/r*4294967296+H us (j+m) 0<g*H vs m 0
  ·have p:=h.step i hc;have S:=p.g0;have I:Q R (g-1)=g-1:=D9 (by omega);by_cases y:4294967296<=r+H vs (m+1) 0
   ·have J:=h.small_g p y;have q:Z KP (FF k us vs ((m+2:Nat)) kq qs s (j:Nat) g r) xZ6 (FF k us vs ((m+2:Nat)) kq qs s (j:Nat) (Q R (g-1)) (Q R (r+Q R (H vs (Y (Q X ((m+2:Nat)-1))) 0)))):=by
     by_cases o:4294967296<=g
     ·exact Aow k us vs _ kq qs s _ g r (by simpa using o) (by rw[d];simpa using y) v
     ·exact Aoy k us vs _ kq qs s _ g r (by simp;omega) (by simpa using hr) (by rw[x g r e hr l,AZ];omega) (by rw[d];simpa using y) u w t v
    rw[I,d] at q;exact⟨g-1,_,Aq q,⟨S,J⟩,p.up,h.out p J (Alo y)⟩
   ·have q:Z KP (FF k us vs ((m+2:Nat)) kq qs s (j:Nat) g r) .norm (FF k us vs ((m+2:Nat)) kq qs s (j:Nat) (Q R (g-1)) (Q R (r+Q R (H vs (Y (Q X ((m+2:Nat)-1))) 0)))):=by
     by_cases o:4294967296<=g
     ·exact Aox k us vs _ kq qs s _ g r (by simpa using o) (by rw[d,AW];omega) v
     ·exact Aoz k us vs _ kq qs s _ g r (by simp;omega) (by simpa using hr) (by rw[x g r e hr l,AZ];omega) (by rw[d,AW];omega) u w t v
    rw[I,d] at q;obtain⟨c,z,T,U⟩:=N (g-1) (r+H vs (m+1) 0) (by omega) p (by omega);exact⟨c,z,Bk q T,U⟩
  ·have A:=jM k us vs ((m+2:Nat)) kq qs s (j:Nat) g r (by simp;omega) (by simpa using hr) (by rw[x g r e hr l,AW];omega) u w t;exact⟨g,r,Aq A,by omega,i.up,h.out i (by omega) (TQ (by omega))⟩
end
section
variable {k:Nat} {vs:G} {kq:Nat} {qs:G} {s:Int} {j:Nat} {g:Int}
theorem Ael(hv:B9 vs)(y:k<=1048577)(a:0<=g/\g<4294967296)(hj:j+F vs<=k):∀ (r i:Nat) (us:G) (b c:Int),r+i=F vs->F us=k->B9 us->0<=b/\b<=1->0<=c/\c<4294967296 ->
  Z (.loop VN) (LS k us vs (F vs:Nat) kq qs s (j:Nat) g b c (i:Nat)) xZ8 (LS k (H1 g vs j r i us b c).1 vs (F vs:Nat) kq qs s (j:Nat) g (H1 g vs j r i us b c).2.1 (H1 g vs j r i us b c).2.2 (F vs:Nat)):=by
 intro r;induction r with
 | zero =>
  intro i us b c hi _ _ _ _;have:i=F vs:=by omega
  subst this;exact Aq (Apb k us vs _ kq qs s _ g b c _ (by simp))
 | succ r o =>
  intro i us b c hi e f hb hc;have q:Q X (i+1)=((i+1:Nat):Int):=wrz
  have h:Q X (i+j)=((i+j:Nat):Int):=wrz
  have l:=Bn hv i;have z:=Bn f (i+j);have m:=ZR a l hc;have A:=A8 a.1 l.1;have h1:=Apa k us vs (F vs:Nat) kq qs s (j:Nat) g b c (i:Nat) (by simp;omega) (by omega) (by rw[h];omega) e;have t:c+g*H vs i 0=g*H vs i 0+c:=Nx _ _;rw[h,q,Aa,Aa,D9 (n:=H vs i 0) (by omega),D9 (n:=H us (i+j) 0) (by omega),D9 (n:=g*H vs i 0) (by omega),t,D9 m,jI,A3g] at h1;have u:Q R ((Aj (A5 .u64) (g*H vs i 0+c) &&& Aj (A5 .u64) 4294967295).toNat)=(g*H vs i 0+c) % 4294967296:=AIv (s:=32) m (by decide);rw[u] at h1;generalize hp:g*H vs i 0+c=p at *
  rw[Cz,Cz] at h1;have v:H1 g vs j (r+1) i us b c=H1 g vs j r (i+1) (us.set (i+j) ((H us (i+j) 0-p % 4294967296-b) % 4294967296)) (if H us (i+j) 0-p % 4294967296-b<0 then 1 else 0) (p / 4294967296):=by rw[H1,hp]
  generalize hd:H us (i+j) 0-p % 4294967296-b=d at *
  have w:Q U (((H us (i+j) 0-p % 4294967296) % 18446744073709551616-b) % 18446744073709551616)=d % 4294967296:=by rw[Fb];omega
  have x:((H us (i+j) 0-p % 4294967296) % 18446744073709551616-b) % 18446744073709551616 / 9223372036854775808=(if d<0 then 1 else 0):=by split <;> omega
  rw[w,x] at h1;rw[v];exact Bk h1 (o (i+1) _ _ _ (by omega) (by simpa using e) (Ds f (by omega)) (by split <;> omega) (by omega))
theorem Aem(hv:B9 vs)(l:k<=1048577)(hj:j+F vs<=k):∀ (r i:Nat) (us:G) (c:Int),r+i=F vs->F us=k->B9 us->0<=c/\c<=1 ->
  Z (.loop Za) (OB k us vs (F vs:Nat) kq qs s (j:Nat) g c (i:Nat)) (.exit 10) (OB k (Kx vs j r i us c).1 vs (F vs:Nat) kq qs s (j:Nat) g (Kx vs j r i us c).2 (F vs:Nat)):=by
 intro r;induction r with
 | zero =>
  intro i us c hi _ _ _;have:i=F vs:=by omega
  subst this;exact Aq (Apd k us vs _ kq qs s _ g c _ (by simp))
 | succ r e =>
  intro i us c hi a b hc;have f:Q X (i+1)=((i+1:Nat):Int):=wrz
  have d:Q X (i+j)=((i+j:Nat):Int):=wrz
  have m:=Bn hv i;have o:=Bn b (i+j);have h1:=Apc k us vs (F vs:Nat) kq qs s (j:Nat) g c (i:Nat) (by simp;omega) (by rw[d];omega) a (by omega);have h:c+(H us (i+j) 0+H vs i 0)=H us (i+j) 0+H vs i 0+c:=Nx _ _;rw[d,f,Aa,Aa,D9 (n:=H vs i 0) (by omega),D9 (n:=H us (i+j) 0) (by omega),D9 (n:=H us (i+j) 0+H vs i 0) (by omega),h,D9 (n:=H us (i+j) 0+H vs i 0+c) (by omega),jI,Fb] at h1;exact Bk h1 (e (i+1) _ _ (by omega) (by simpa using a) (Ds b (by omega)) (by omega))
end
def TDC:Dd:=TDB
theorem Aen:CT DP TDC:=Aeh
section
variable {vs:G} {m:Nat} {k kq:Nat} {s:Int}
theorem Ape(hv:B9 vs)(l:F vs=m+2)(y:2147483648<=H vs (m+1) 0)(hk:k=kq+F vs)(o:k<=1048577):∀ (i:Nat) (us qs:G),i<=kq->F us=k->B9 us->F qs=kq->B9 qs->(∀ t,t<i->H qs t 0=0)->An (us.drop i)<An vs ->
  ∃ a b,Z (.loop U8) (L5 k us vs (F vs:Nat) kq qs s (i-1)) xZ4 (L5 k a vs (F vs:Nat) kq b s (-1)) /\
   F a=k/\B9 a/\F b=kq/\B9 b/\An a<An vs/\An us=An vs*(An b-An qs)+An a:=by
 intro i;induction i with
 | zero =>
  intro us qs _ h1 h2 d p _ h;exact⟨us,qs,Aq (A4h k us vs _ kq qs s _ (by simp)),h1,h2,d,p,h,by rw[TA,Be,E7]⟩
 | succ i ih =>
  intro us qs hi h1 h2 d p z h;have ei:(((i+1:Nat):Int)-1)=(i:Nat):=by omega
  have A:Q X (i-1)=(i:Int)-1:=By (by omega) (by omega);have en:Q X (i+F vs)=((i+F vs:Nat):Int):=wrz
  have u:Q X ((i+F vs:Nat)-1)=((i+m+1:Nat):Int):=wrz
  have v:Q X (F vs-1)=((m+1:Nat):Int):=wrz
  have c:=Ajy (us:=us) (vs:=vs) (j:=i) (m:=m) h2 hv l (by omega) y h;have w:=c.init;have b6:=FH (H us (i+m+2) 0*4294967296+H us (i+m+1) 0) (show 0<H vs (m+1) 0 by omega);have b7:=c.htop;have B:Q R (H vs (Y (Q X (F vs-1))) 0)=H vs (m+1) 0:=by rw[v,Aa,D9 (by omega)]
  obtain⟨g,r,C,f,q3,q4⟩:=Aek (k:=k) (kq:=kq) (qs:=qs) (s:=s) l h1 o (by omega) c _ _ _ (A2 _) w (by omega);rw[<- l] at C;have D:0<=H us (i+m+2) 0*4294967296+H us (i+m+1) 0:=by have:=c.hx;have:=c.hy;omega
  have a8:=w.g0;have b8:=w.gle;have E:Z (.loop KP) (FF k us vs (F vs:Nat) kq qs s (i:Nat) (Q R (AF (Q R ((Aj (A5 .u64) (Q R (Q R (H us (Y (Q X (i+F vs))) 0)*2^(min (Y 32) (A5 .u64)))) ||| Aj (A5 .u64) (Q R (H us (Y (Q X (Q X (i+F vs)-1))) 0))).toNat)) (Q R (H vs (Y (Q X (F vs-1))) 0)))) (Bl (Q R ((Aj (A5 .u64) (Q R (Q R (H us (Y (Q X (i+F vs))) 0)*2^(min (Y 32) (A5 .u64)))) ||| Aj (A5 .u64) (Q R (H us (Y (Q X (Q X (i+F vs)-1))) 0))).toNat)) (Q R (H vs (Y (Q X (F vs-1))) 0)))) xZ6 (FF k us vs (F vs:Nat) kq qs s (i:Nat) g r):=by
   rw[B,en,u,Aa,Aa,show i+F vs=i+m+2 by omega,D9 (n:=H us (i+m+2) 0) (by have:=c.hx;omega),Qr c.hx c.hy,Cu D,BY D,D9 ⟨a8,by omega⟩];exact C
  have I:=Ael (k:=k) (kq:=kq) (qs:=qs) (s:=s) (j:=i) (g:=g) hv o f (by omega) (F vs) 0 us 0 0 (by omega) h1 h2 (by omega) (by omega);have a9:=ZS (j:=i) f hv (F vs) 0 us 0 0 (by omega) (by omega) h2 (by omega) (by omega);have J:=XU h2 hv (j:=i) (by omega) h f q3 q4;generalize hM:H1 g vs i (F vs) 0 us 0 0=M at *
  obtain⟨m1,K,m3,m4,_,_⟩:=a9;obtain⟨L,N⟩:=A3u (Bn K (i+F vs)) m4 m3;dsimp only at J;obtain⟨S1,x⟩:=J;have O:∀ (ws:G) (q:Int),StepOk us vs ws i q->(0<=q/\q<4294967296)->Z U8 (L5 k us vs (F vs:Nat) kq qs s (i:Nat)) .norm (L5 k ws vs (F vs:Nat) kq (qs.set i q) s (i-1)) ->
    ∃ a b,Z (.loop U8) (L5 k us vs (F vs:Nat) kq qs s (i:Nat)) xZ4 (L5 k a vs (F vs:Nat) kq b s (-1)) /\
   F a=k/\B9 a/\F b=kq/\B9 b/\An a<An vs/\An us=An vs*(An b-An qs)+An a:=by
   intro ws q hs hq b0;obtain⟨a,b,a1,a2,a3,a4,a5,a6,a7⟩:=ih ws (qs.set i q) (by omega) (by rw[hs.len];exact h1) hs.u32 (by simpa using d) (Ds p hq) (fun t y=>by rw[Dp (by omega)];exact z t (by omega)) hs.low;refine⟨a,b,Bk b0 a1,a2,a3,a4,a5,a6,?_⟩;have e:=hs.val;rw[EW _ _ _ (by omega),z i (by omega),FV] at a7;generalize (4294967296:Int)^i=P at *
   grind
  have S:¬ Q R (H vs (Y (Q X (F vs-1))) 0)=0:=by rw[B];omega
  rw[ei];by_cases hd:H M.1 (i+F vs) 0-M.2.2-M.2.1<0
  ·obtain⟨x,b9⟩:=x hd;have T:B9 (M.1.set (i+F vs) ((H M.1 (i+F vs) 0-M.2.2-M.2.1) % 4294967296)):=Ds K (by omega);have b4:=Aem (k:=k) (kq:=kq) (qs:=qs) (s:=s) (j:=i) (g:=g-1) hv o (by omega) (F vs) 0 (M.1.set (i+F vs) ((H M.1 (i+F vs) 0-M.2.2-M.2.1) % 4294967296)) 0 (by omega) (by rw[BH,m1];exact h1) T (by omega);have b5:=ZT (j:=i) hv (F vs) 0 (M.1.set (i+F vs) ((H M.1 (i+F vs) 0-M.2.2-M.2.1) % 4294967296)) 0 (by omega) (by rw[BH,m1];omega) T (by omega);obtain⟨b1,b2,b3,_,_⟩:=b5;generalize hB:Kx vs i (F vs) 0 (M.1.set (i+F vs) ((H M.1 (i+F vs) 0-M.2.2-M.2.1) % 4294967296)) 0=Bb at *
   have U:Q R (g-1)=g-1:=D9 (by omega);have V:=A4f k us vs (F vs:Nat) kq qs s (i:Nat) M.1 Bb.1 g r M.2.1 M.2.2 Bb.2 (by simp) (by rw[en,Aa,L,Ar hd];rfl) (by rw[en];omega) h1 (by rw[en,u];omega) (by rw[v];omega) S E I (by rw[m1];exact h1) (by rw[en,Aa,N,U];exact b4) (by rw[b1,BH,m1];exact h1) (by omega) d;rw[en,Aa,U,Aa,VH (n:=g-1) (by omega),A,VH (n:=Bb.2) (by omega),Fb] at V;exact O _ _ x (by omega) V
  ·have W:=A4g k us vs (F vs:Nat) kq qs s (i:Nat) M.1 g r M.2.1 M.2.2 (by simp) (by rw[en,Aa,L,Aw hd];rfl) (by rw[en];omega) h1 (by rw[en,u];omega) (by rw[v];omega) S E I (by rw[m1];exact h1) (by omega) d;rw[en,Aa,Aa,N,VH (n:=g) f,A] at W;exact O _ _ (S1 (by omega)) f W
end
abbrev lz(n:Int):G:=o n.toNat
theorem Apf{xs:G}(h:G_ xs):xs=lz (An xs):=by
 refine WJ h (Da _) ?_;rw[Do];have:=BK h.1;omega
theorem ADl{n:Int}(h:0<=n):o (I n)=lz n:=by unfold lz;congr 1;omega
theorem rvF(xs:G):v false xs=An xs:=rfl
theorem vF{xs ys:G}(hx:G_ xs)(hy:G_ ys)(w:ys ≠ [])(h1:F xs<1000000)(h2:F ys<1000000) :
  T 165 [sL A xs,sL A ys] (A3 [sL A (lz (An xs / An ys)),sL A (lz (An xs % An ys))]):=by
 have c7:=Av.2 w;have B:=Sg hx hy (by omega);have z:=BK hx.1;have p:=Lo hy w;by_cases u:An xs<An ys
 ·rw[IQ z u,HR z u,<- Apf hx];exact Aea xs ys _ (by unfold DE;rw[Ar u];rfl) B
 have P:decide (DE (An xs) (An ys)<0)=false:=by unfold DE;rw[Aw u];split <;> rfl
 by_cases b5:F ys=1
 ·obtain⟨y,rfl⟩:=AGg.1 b5;have R:An [y]=y:=by simp[An]
  rw[R] at p |-;have b6:=hy.1 y (by simp);obtain⟨f,r,q1,q2,q3,S,q5⟩:=Aei hx.1 (d:=y) ⟨p,b6.2⟩ (by omega) (F xs) (AI (F xs) 0) 0 (A2 _) (by simp) (Gp _) (by omega) (fun t _=>EB _ _);rw[FX,DV,Be,Be,Cx,E7] at q5;have hd:=(OO p (a:=An xs) (r:=r) (q:=An f)).2 ⟨by omega,S.1,S.2⟩;have ur:B9 [r]:=fun x h=>by rw[Dh.1 h];omega
  have er:An [r]=r:=by simp[An]
  have h:=Aeb xs [y] f _ r (-1) (F xs) P rfl B (by omega) (by
   rw[Aa,G4,wqz];exact q1) (by rw[<- q2];exact Fp (by omega)) (by rw[VH (n:=r) (by omega)];exact Fp (xs:=[r]) (by simp))
  rw[VH (n:=r) (by omega),Lq q3,Lq ur,er,<- hd.1,<- hd.2] at h;exact h
 ·obtain⟨m,hm⟩:∃ m,F ys=m+2:=⟨F ys-2,by omega⟩;have b7:F ys<=F xs:=by
   rcases CN (F xs) (F ys) with g | g
   ·exact absurd (Ly hx hy g) u
   ·exact g
  have W:0<H ys (m+1) 0/\H ys (m+1) 0<4294967296:=by
   have a:=Bn hy.1 (m+1);rcases hy.2 with g | g
   ·exact absurd g w
   ·rw[show F ys-1=m+1 by omega] at g;omega
  obtain⟨s,hs,Y,C,_⟩:=Akk W;have hp:=CA s;have Z:=NQ (neg:=false) hx.1 s (by omega);have hV:=NQ (neg:=false) hy.1 s (by omega);rw[rvF] at Z hV;have c8:0<=An xs*2^s:=A8 z (by omega);have c9:0<An ys*2^s:=Br p hp;have D:An (o (I (An xs*2^s)))=An xs*2^s:=by rw[Do];omega
  have v:An (o (I (An ys*2^s)))=An ys*2^s:=by rw[Do];omega
  have E:=Da (I (An xs*2^s));have cv:=Da (I (An ys*2^s));have a4:(2:Int)^s<=2147483648:=by
   have:=Iq (show s<=31 by omega);rwa [show (2:Int)^31=2147483648 by decide] at this
  have K:=Eu ys (j:=m+1) (by omega);have yd:=D4 ys (m+1);rw[EX (xs:=ys) (i:=m+1+1) (by omega),Be,Cx] at yd;rw[yd] at K;have b8:=HK hy.1 (m+1);have b9:=BK (EZ hy.1 (m+1));have hP:=Dx (m+1);have d0:2147483648*4294967296^(m+1)<=An ys*2^s:=by
   rw[K];have a:=Ap Y (show (0:Int)<=4294967296^(m+1) by omega);have b:=A8 (show (0:Int)<=2^s by omega) b9;have e:(An (BF (m+1) ys)+4294967296^(m+1)*H ys (m+1) 0)*2^s=2^s*An (BF (m+1) ys)+H ys (m+1) 0*2^s*4294967296^(m+1):=by grind
   omega
  have e9:(4294967296:Int)^(m+2)=4294967296^(m+1)*4294967296:=AD _ _;have c0:An ys*2^s<4294967296^(m+2):=by
   rw[K];have e0:=VI (show s<=32 by omega);have a1:H ys (m+1) 0+1<=2^(32-s):=by
    rw[e0] at C;have:=CY C (by omega);omega
   have a2:=Ap a1 (show (0:Int)<=2^s*4294967296^(m+1) by have:=Br hp hP;omega);have a3:=J0 b8 hp;have R:(H ys (m+1) 0+1)*(2^s*4294967296^(m+1))=2^s*(4294967296^(m+1)*H ys (m+1) 0)+2^s*4294967296^(m+1):=by grind
   have e2:(2:Int)^(32-s)*(2^s*4294967296^(m+1))=4294967296^(m+1)*4294967296:=by rw[<- Bm,<- e0,AT]
   rw[AT,DJ];omega
  have d1:F (o (I (An ys*2^s)))<=m+2:=NC cv (by rw[v];exact c0);have d2:m+2<=F (o (I (An ys*2^s))):=by
   apply QY;intro L;have a:=EP cv.1;rw[v] at a;have b:=HT (show F (o (I (An ys*2^s)))<=m+1 by omega);omega
  have a5:An xs*2^s<4294967296^(F xs+1):=by
   have a:=EP hx.1;have b:=BG a hp;have c:=Ax a4 (show (0:Int)<=4294967296^F xs by have:=Dx (F xs);omega);have d:(4294967296:Int)^(F xs+1)=4294967296^F xs*4294967296:=AD _ _;have e:=Dx (F xs);omega
  have d3:F (o (I (An xs*2^s)))<=F xs+1:=NC E (by rw[D];exact a5);have a6:xs ≠ []:=by intro e;rw[e,IP] at b7;omega
  have d4:F xs<=F (o (I (An xs*2^s))):=by
   apply QY;intro L;have a:=EP E.1;rw[D] at a;have b:=HT (show F (o (I (An xs*2^s)))<=F xs-1 by omega);have c:=SR hx a6;have d:=Ax (show (1:Int)<=2^s by omega) z;omega
  have d5:0<F xs:=Av.2 a6;generalize a7:o (I (An ys*2^s))=vs at *
  generalize M:o (I (An xs*2^s))=l at *
  have c1:F vs=m+2:=by omega
  have a8:B9 (l++[0,0]):=fun x L=>by
   rcases BD.1 L with g | g
   ·exact E.1 x g
   ·simp at g;omega
  have a9:An (l++[0,0])=An xs*2^s:=by rw[H'];simp[An,D]
  have u2:B9 ((l++[0,0]).take (F xs+1)):=EZ a8 _;have u1:F ((l++[0,0]).take (F xs+1))=F xs+1:=by simp;omega
  have u3:An ((l++[0,0]).take (F xs+1))=An xs*2^s:=by
   have a:=Eu (l++[0,0]) (j:=F xs+1) (by simp;omega);rw[Mk a8 (n:=F xs+1) (V:=4294967296^(F xs+1)) (DO _) (by rw[a9];exact a5),Be,Cx,a9] at a;exact a.symm
  have c2:BF ((F xs+1)*1) (A l++([J U 0,J U 0]:AK))=A ((l++[0,0]).take (F xs+1)):=by
   simp[A,Od]
  generalize d6:(l++[0,0]).take (F xs+1)=us at *
  have c3:2147483648<=H vs (m+1) 0:=by
   have a:=Eu vs (j:=m+1) (by omega);have b:=D4 vs (m+1);rw[EX (xs:=vs) (i:=m+1+1) (by omega),Be,Cx] at b;rw[b] at a;have c:=HK cv.1 (m+1);apply Ma.1;intro h;have:=Ax (show H vs (m+1) 0+1<=2147483648 by omega) (show (0:Int)<=4294967296^(m+1) by omega);rw[DJ,DQ,AT _ 2147483648] at this;omega
  have c4:An (us.drop (F xs-F ys+1))<An vs:=by
   have a:=Eu us (j:=F xs-F ys+1) (by omega);have b:=BK (EZ u2 (F xs-F ys+1));have c:=EP hx.1;have d:=BG c hp;have e:(4294967296:Int)^F xs=4294967296^(F xs-F ys+1)*4294967296^(m+1):=by rw[<- Cc];congr 1;omega
   have hQ:=Dx (F xs-F ys+1);rw[v];apply yZ (b:=2^s*4294967296^(m+1))
   ·apply G9 (a:=4294967296^(F xs-F ys+1)) _ (by omega);have e2:(4294967296:Int)^(F xs-F ys+1)*(2^s*4294967296^(m+1))=4294967296^F xs*2^s:=by rw[e];grind
    omega
   ·have:=Ap a4 (show (0:Int)<=4294967296^(m+1) by omega);omega
  obtain⟨b0,f,l1,l2,l3,l4,l5,N,l7⟩:=Ape (k:=F xs+1) (kq:=F xs-F ys+1) (s:=(s:Nat)) cv.1 c1 c3 (by omega) (by omega) (F xs-F ys+1) us (AI (F xs-F ys+1) 0) (A2 _) u1 u2 (by simp) (Gp _) (fun t _=>EB _ _) c4;rw[FX,FV,u3,v] at l7;rw[v] at N;have hR:An b0=2^s*(An xs-An ys*An f):=by
   rw[Gs];have:2^s*(An ys*An f)=An ys*2^s*An f:=by grind
   rw[this,AT (2^s) (An xs)];omega
  have d7:=BK l3;have b1:0<=An xs-An ys*An f:=by
   apply Ma.1;intro h;have:=Ax (show An xs-An ys*An f <= -1 by omega) (show (0:Int)<=2^s by omega);omega
  have c5:An xs-An ys*An f<An ys:=by
   rw[hR,AT (An ys) (2^s)] at N;exact G9 N (by omega)
  have hd:=(OO p (a:=An xs) (r:=An xs-An ys*An f) (q:=An f)).2 ⟨by omega,b1,c5⟩;have b2:=bD (neg:=false) l3 s (by omega) (by omega);rw[rvF,hR,CL _ (show (2:Int)^s ≠ 0 by omega)] at b2;have O:(if (Q X (F ys+1))>(Q X (F xs+1)) then (Q X (F ys+1)) else (Q X (F xs+1)))=((F xs+1:Nat):Int):=by
   rw[By (n:=(F ys:Int)+1) (by omega) (by omega),By (n:=(F xs:Int)+1) (by omega) (by omega),Aw (by omega)];omega
  have b3:Q X ((F xs+1:Nat)-F vs)=((F xs-F ys+1:Nat):Int):=wrz
  have c6:Q X ((F xs-F ys+1:Nat)-1)=((F xs-F ys+1:Nat):Int)-1:=By (by omega) (by omega);have hz:=Aej (xs:=xs) (ys:=ys) (y:=H ys (m+1) 0) (s:=s) w (by omega) (by rw[show F ys-1=m+1 by omega]) W.1 hs Y C s 0 (by omega);have b4:=Aec xs ys f b0 vs (DE (An xs) (An ys)) (s:Nat) (F vs:Nat) (-1) (An xs*2^s) (An ys*2^s) (An xs-An ys*An f) (F xs+1) (F xs-F ys+1) P (by simp;omega) B hz hV (by rw[M];omega) Z
   (by rw[M,O];omega) (by rw[O,a7,Aa,b3];omega) (by
    rw[M,a7,O,Aa,b3,Aa,c6,c2,G4];exact l1) (by rw[<- l4];exact Fp (by omega)) (by rw[<- l2];exact b2)
  rw[Lq l5,ADl b1] at b4;rw[hd.1,hd.2];exact b4
def TDD:Dd:=TDC
theorem j:CT DP TDD:=Aen
def bE:ICode:=a Ajb 94 56
section
variable(rs:D)(n:Int)
def Pa:Az:=C (sL S rs)::L 2 (N n::L 31 [])
theorem A4i(c1:E (n>0)=true)(b:(B4 (B (H rs (Y (Q X (n-1))) z0))==0)=true)(a:0<=Q X (n-1)/\Q X (n-1)<(F rs:Int))(c:T 79 [AB (H rs (Y (Q X (n-1))) z0)] (J X (B4 (B (H rs (Y (Q X (n-1))) z0))))):Z bE (Pa rs n) .norm (Pa rs (Q X (n-1))):=Ab x [bT,.v (AB (H rs (Y (Q X (n-1))) z0)),.r (J X (B4 (B (H rs (Y (Q X (n-1))) z0)))),bT] [0,3] (Ff c1 a (BZ a) c b)
theorem A4j(c1:E (n>0)=true)(b:(B4 (B (H rs (Y (Q X (n-1))) z0))==0)=false)(a:0<=Q X (n-1)/\Q X (n-1)<(F rs:Int))(c:T 79 [AB (H rs (Y (Q X (n-1))) z0)] (J X (B4 (B (H rs (Y (Q X (n-1))) z0))))):Z bE (Pa rs n) xZ0 (Pa rs n):=Ab x [bT,.v (AB (H rs (Y (Q X (n-1))) z0)),.r (J X (B4 (B (H rs (Y (Q X (n-1))) z0)))),bF] [0,3] (Ff c1 a (BZ a) c b)
theorem A4k(c1:E (n>0)=false):Z bE (Pa rs n) xZ0 (Pa rs n):=Ab x [bF,bF] [0,3] (DH c1 F9)
end
def oO:ICode:=a Ajb 91 500
section
variable(rs:D)(n:Int)(k:Nat)(cs:AK)(i:Int)
def Qu:Az:=C (sL S rs)::L 2 (N n::Ak 2 k cs::N i::L 29 [])
theorem A4l(c1:E (i<n)=true)(a:0<=i/\i<F rs)(b:k+1<=1048576)(c:T 97 [AB (H rs (Y i) z0)] (M (B (H rs (Y i) z0)))):Z oO (Qu rs n k cs i) .norm (Qu rs n (k+1) (cs++([W (E (B (H rs (Y i) z0)<0)),sL A (o (I (B (H rs (Y i) z0))))]:AK)) (Q X (i+1))):=Ab x [bT,.v (AB (H rs (Y i) z0)),.r (M (B (H rs (Y i) z0)))] XL (Gm c1 a (BZ a) c (show F ([W (E (B (H rs (Y i) z0)<0)),sL A (o (I (B (H rs (Y i) z0))))]:AK)=1*2 from rfl) b)
theorem A4m(c1:E (i<n)=false):Z oO (Qu rs n k cs i) xZ2 (Qu rs n k cs i):=Ab x [bF] XL (BO c1)
end
theorem ADm(rs:D)(n i:Int)(k:Nat)(cs:AK)(a:Z (.loop bE) (Pa rs (F rs)) xZ0 (Pa rs n))(b:Z (.loop oO) (Qu rs n 0 ([]:AK) 0) xZ2 (Qu rs n k cs i)):T 46 [sL S rs] (Ae 2 k cs):=CQ Ajb (L 2 (Ak 2 k cs::L 32 [])) (As (Ag (Ab x [] [0,3] a0) (Ag (A7 a) (AA (Ag (Ab x [] XL a0) (Ag (A7 b) (Ab x [] [2] a0)))))))
def Akl:ICode:=a Azc 92 244
section
variable(ts:D)(r:Rn)(e:Int)(w:Rn)(i:Int)
def Yj:Az:=L 2 (N e::L 1 (AH [W r.1,P (F r.2) (A r.2)]::L 1 (AH [W false,P 0 []]::C (sL S ts)::AH [W w.1,P (F w.2) (A w.2)]::N i::L 27 [])))
theorem ADn(u:Int)(c1:E (i>=0)=true)(a:0<=i/\i<F ts)(b:T 96 [AB w,AB r] (M (B w*B r)))(c:T 84 [AB (H ts (Y i) z0),J X (Q X (e*Q X ((Q X (F ts-1))-i)))] (Dk u))(d:T 95 [M (B w*B r),M u] (M ((B w*B r)+u))):Z Akl (Yj ts r e w i) .norm (Yj ts r e (V ((B w*B r)+u)) (Q X (i-1))):=Ab x [bT,.r (M (B w*B r)),.v (AB (H ts (Y i) z0)),.r (Dk u),.r (M ((B w*B r)+u))] [2,4,6,7,8,9] (Gm c1 b a (BZ a) c d)
theorem ADo(c1:E (i>=0)=false):Z Akl (Yj ts r e w i) xZ0 (Yj ts r e w i):=Ab x [bF] [2,4,6,7,8,9] (BO c1)
end
theorem ADp(rs ts:D)(r w:Rn)(e i:Int)(a:T 46 [sL S rs] (Ae 2 (F ts) (S ts)))(b:Z (.loop Akl) (Yj ts r e (false,[]) (Q X (F ts-1))) xZ0 (Yj ts r e w i)):T 80 [sL S rs,AB r,J X e] (AB w):=CQ Azc (L 6 (AH [W w.1,P (F w.2) (A w.2)]::L 30 [])) (As (As (AA (Ag (Ab x [.r (Ae 2 (F ts) (S ts))] [2,4,6,7,8,9] (BO a)) (Ag (A7 b) (Ab x [] [6] a0))))))
theorem vG(rs:D)(r:Rn):S rs++([W r.1,P (F r.2) (A r.2)]:AK)=S (rs++[r]):=by rw [Qf];rfl
theorem Re(g:Nat->Rn)(i:Nat):(Ay (i+1)).map g=(Ay i).map g++[g i]:=by rw [Jw,D_];rfl
theorem Apg{rs:D}(c:∀ r∈rs,BC 1048576 r)(g:F rs<=1048576):∀ m,m<=F rs->Z (.loop bE) (Pa rs (m:Nat)) xZ0 (Pa rs (p (Al rs) m:Nat)):=by
 intro m;induction m with
 | zero=>intro _;exact Aq (A4k rs ((0:Nat)) (by simp))
 | succ m d =>
  intro h;have a:Q X ((m+1:Nat)-1)=(m:Int):=wrz
  obtain⟨e,f⟩:=Cm c m;have hs:=If (neg:=(H rs m z0).1) e f;simp only[p];rw[Eh];by_cases b:B (H rs m z0)=0
  ·rw[Ar b];have k:=A4i rs ((m+1:Nat)) (by simp) (by rw[a,Aa,b];rfl) (by rw[a];omega) (by simp only[a,Aa];exact hs);rw[a] at k;exact Bk k (d (by omega))
  ·rw[Aw b];exact Aq (A4j rs ((m+1:Nat)) (by simp) (by rw[a,Aa,C3];unfold B4; (repeat' split) <;> omega) (by rw[a];omega) (by simp only[a,Aa];exact hs))
theorem Aph{rs:D}(a:∀ r∈rs,BC 1048576 r)(e:F rs<=1048576)(n:Nat)(hn:n<=F rs) :
  Z (.loop oO) (Qu rs (n:Nat) 0 [] 0) xZ2 (Qu rs (n:Nat) n (S ((Ay n).map fun j=>V (B (H rs j z0)))) (n:Nat)):=by
 refine Et (fun i=>Qu rs (n:Nat) i (S ((Ay i).map fun j=>V (B (H rs j z0)))) (i:Nat)) n (by nofun) ?_ ?_ 0 (A_ _)
 ·intro i hi;have b:Q X (i+1)=((i+1:Nat):Int):=wrz
  obtain⟨c,d⟩:=Cm a i;have k:=A4l rs (n:Nat) i (S ((Ay i).map fun j=>V (B (H rs j z0)))) (i:Nat) (by simp;omega) (by omega) (by omega) (by simp only[Aa];exact aV c d);refine k.to rfl ?_;simp only[Aa,b];rw[Re,<- vG];rfl
 ·exact A4m rs (n:Nat) n _ (n:Nat) (by simp)
theorem FM{rs:D}(b:∀ r∈rs,BC 1048576 r)(c:F rs<=1048576):T 46 [sL S rs] (Ae 2 (F (Af (Al rs))) (pk (Af (Al rs)))):=by
 have e:=Mi (Al rs) (F rs);have a:F (Af (Al rs))=p (Al rs) (F rs):=by rw[MR,B1]
 have h:=ADm rs _ _ _ _ (Apg b c (F rs) (A2 _)) (Aph b c _ e);have d:(Ay (p (Al rs) (F rs))).map (fun j=>V (B (H rs j z0)))=(Af (Al rs)).map V:=by
  rw[<- SV,a];apply GP;intro i _;rw[Ei,Eh]
 (first|rw[d,<- a] at h|(rw[d] at h;unfold sL at h;rw[<- a] at h));exact h
theorem U9(e:Nat):u (e / 32+1) ((2:Int)^e):=by
 unfold u;have h1:I ((2:Int)^e)=2^e:=by rw[Oh];rfl
 have h2:(4294967296:Nat)^(e / 32+1)=2^(32*(e / 32+1)):=by rw[AJl]
 rw[h1,h2];exact UA (by decide) (by omega)
theorem bG{K a:Nat}{x:Int}(hx:u a x)(e:Nat):∀ {ts:G},(∀ t∈ts,u K t)->u (K+1+F ts*(a+(e / 32+1)+1)) (hv ts x (2^e))
 | [],_=>Ib _
 | t::ts,h=>by
  have c:=bG (K:=K) hx e (ts:=ts) fun y hy=>h y (Bg _ hy);have h1:u (K+(e*F ts / 32+1)) (t*((2:Int)^e)^F ts):=by
   rw[<- yS];exact (h t Ba).mul (U9 _)
  have h2:=hx.mul c;have hb:e*F ts / 32<=F ts*(e / 32+1):=by
   have:e*F ts<=32*(F ts*(e / 32+1)):=by
    have b:e<=32*(e / 32+1):=by omega
    calc e*F ts<=(32*(e / 32+1))*F ts:=Bf _ b
     _=32*(F ts*(e / 32+1)):=by rw[Gj,Du (e / 32+1)]
   omega
  have d:F ts*(e / 32+1)<=F ts*(a+(e / 32+1)+1):=Bu _ (by omega);have b:=(h1.mono (k:=K+1+F ts*(a+(e / 32+1)+1)+a+(e / 32+1)) (by omega)).add (h2.mono (by omega));simp only[hv,BM,DU,Gi];exact b.mono (by omega)
theorem A4n{K a:Nat}{ts:D}{r:Rn}(f:∀ t∈ts,BC K t)(hr:BC a r)(e:Nat)(M:K+2+(F ts+1)*(a+(e / 32+1)+1)<=1048576)(m:e<=1073741824) :
  ∀ n (w:Rn),n<=F ts->B w=hv ((Al ts).drop n) (B r) (2^e)->BC (K+1+(F ts-n)*(a+(e / 32+1)+1)) w -> 
  ∃ b,B b=hv (Al ts) (B r) (2^e)/\(b=w/\n=0\/b=V (hv (Al ts) (B r) (2^e)))/\Z (.loop Akl) (Yj ts r (e:Nat) w (n-1)) xZ0 (Yj ts r (e:Nat) b (-1)):=by
 intro n;induction n with
 | zero =>
  intro w _ c _;refine⟨w,by simpa using c,.inl ⟨rfl,rfl⟩,?_⟩;exact Aq (ADo ts r (e:Nat) w ((0:Nat)-1) (by simp))
 | succ n o =>
  intro w hn c h;obtain⟨p,N⟩:=Cm f n;have e0:((n+1:Nat):Int)-1=(n:Int):=by omega
  have O:(F ts-(n+1))*(a+(e / 32+1)+1)+(a+(e / 32+1)+1)=(F ts-n)*(a+(e / 32+1)+1):=by
   rw[show F ts-n=F ts-(n+1)+1 by omega,DU,Gi]
  have P:(F ts-n)*(a+(e / 32+1)+1)<=(F ts+1)*(a+(e / 32+1)+1):=Bf _ (by omega);have R:e*(F ts-1-n) / 32<=(F ts-(n+1))*(a+(e / 32+1)+1):=by
   have q:e<=32*(e / 32+1):=by omega
   have S:e*(F ts-1-n)<=32*((F ts-(n+1))*(e / 32+1)):=by
    calc e*(F ts-1-n)<=(32*(e / 32+1))*(F ts-1-n):=Bf _ q
     _=32*((F ts-(n+1))*(e / 32+1)):=by rw[Gj,Du (e / 32+1),show F ts-1-n=F ts-(n+1) by omega]
   have T:(F ts-(n+1))*(e / 32+1)<=(F ts-(n+1))*(a+(e / 32+1)+1):=Bu _ (by omega);omega
  have s:Q X (e*Q X (Q X (F ts-1)-n))=((e*(F ts-1-n):Nat):Int):=by
   have v:F ts<=1048576:=by
    have:F ts*1<=(F ts+1)*(a+(e / 32+1)+1):=Ck (by omega) (by omega);omega
   rw[By (n:=(F ts:Int)-1) (by omega) (by omega),By (n:=(F ts:Int)-1-(n:Int)) (by omega) (by omega)];have x:(F ts:Int)-1-(n:Int)=((F ts-1-n:Nat):Int):=by omega
   rw[x,<- Eg];have:e*(F ts-1-n)<=1073741824*1048576:=Ck m (by omega);exact By (by omega) (by omega)
  have y:Q X (n-1)=(n:Int)-1:=by
   have v:F ts<=1048576:=by
    have:F ts*1<=(F ts+1)*(a+(e / 32+1)+1):=Ck (by omega) (by omega);omega
   exact By (by omega) (by omega)
  have z:hv ((Al ts).drop n) (B r) (2^e)=B w*B r+B (H ts n z0)*2^(e*(F ts-1-n)):=by
   have h1:(Al ts).drop n=H (Al ts) n 0::(Al ts).drop (n+1):=by
    rw[BL (by rw[B1];omega)];congr 1;rw[Ad,Am (by rw[B1];omega)];rfl
   rw[h1,hv,Eh,CX,B1,<- c,<- yS,show F ts-(n+1)=F ts-1-n by omega];generalize B (H ts n z0)*2^(e*(F ts-1-n))=A;grind
  have C:=h.fits;have i:=(C.mul hr.fits);have j:u (K+(e*(F ts-1-n) / 32+1)) (B (H ts n z0)*2^(e*(F ts-1-n))):=(Cm f n).fits.mul (U9 _);have E:BC (K+1+(F ts-n)*(a+(e / 32+1)+1)) (V (B w*B r+B (H ts n z0)*2^(e*(F ts-1-n)))):=by
   refine (BB ((i.mono (k:=K+1+(F ts-(n+1))*(a+(e / 32+1)+1)+a+(e / 32+1)) (by omega)).add (j.mono (by omega)))).mono (by omega)
  obtain⟨b,d,G,J⟩:=o (V (B w*B r+B (H ts n z0)*2^(e*(F ts-1-n)))) (by omega) (by rw[AO,z]) E;refine⟨b,d,.inr ?_,?_⟩
  ·rcases G with ⟨l,U⟩ | g
   ·rw[l];rw[l,AO] at d;rw[d]
   ·exact g
  ·rw[e0];have W:=i.len;have Y:=j.len;obtain⟨L,a1⟩:=h;have k:=ADn ts r (e:Nat) w (n:Nat) (B (H ts n z0)*2^(e*(F ts-1-n))) (by simp) (by omega)
    (Si L hr.1 (by have:=hr.2;omega))
    (by rw[s,Aa];exact NQ p _ (by omega))
    (by
     have:=NO (na:=decide (B w*B r<0)) (nb:=decide (B (H ts n z0)*2^(e*(F ts-1-n))<0)) (CB (I (B w*B r))) (CB (I (B (H ts n z0)*2^(e*(F ts-1-n))))) (by omega) (by omega);rw[GT,GT] at this;exact this)
   rw[y] at k;exact Bk k J
theorem Yk{K a:Nat}{rs:D}{r:Rn}(d:∀ t∈rs,BC K t)(hr:BC a r)(e:Nat)(x:K+2+(F rs+1)*(a+(e / 32+1)+1)<=1048576)(k:e<=1073741824) :
  T 80 [sL S rs,Ao [W r.1,P (F r.2) (A r.2)],J X (e:Nat)] (M (hv (Af (Al rs)) (B r) (2^e))):=by
 have l:F rs<=1048576:=by
  have:F rs*1<=(F rs+1)*(a+(e / 32+1)+1):=Ck (by omega) (by omega);omega
 have m:K<=1048576:=by omega
 have b:=FM (fun r h=>(d r h).mono m) l;have n:=Ct (Al rs);rw[B1] at n;have o:∀ t∈(Af (Al rs)).map V,BC K t:=WK (NE (DW d));have p:K+2+(F ((Af (Al rs)).map V)+1)*(a+(e / 32+1)+1)<=1048576:=by
  have:(F ((Af (Al rs)).map V)+1)*(a+(e / 32+1)+1)<=(F rs+1)*(a+(e / 32+1)+1):=Bf _ (by simp;omega);omega
 obtain⟨i,q,j,s⟩:=A4n o hr e p k (F ((Af (Al rs)).map V)) z0 (A2 _) (by
  rw[Bs,Ac,DD];rfl) (Py _)
 rw[Bs] at q j;have u:Q X (F ((Af (Al rs)).map V)-1)=(F ((Af (Al rs)).map V):Int)-1:=By (by omega) (by rw[Ac];omega);have v:i=V (hv (Af (Al rs)) (B r) (2^e)):=by
  rcases j with ⟨w,c⟩ | g
  ·(first|rw[Ac] at c|(unfold sL at c;rw[Ac] at c));rw[w,AU c];rfl
  ·exact g
 (first|rw[<- Ac (f:=V)] at b|(unfold sL at b;rw[<- Ac (f:=V)] at b));have h:=ADp rs ((Af (Al rs)).map V) r i (e:Nat) (-1) b (by rw[u];exact s);rw[v] at h;exact h
def Zb:ICode:=a mF 80 1037108
section
variable(g nb:Bool)(f:Nat)(h:AK)(a:Nat)(b:AK)(n:Nat)(cs:AK)(i x c k:Int)
def OC:Az:=L 4 (AH [W false,P 0 []]::C (W g)::L 1 (C (W nb)::C (P a b)::Ak 1 n cs::N i::C (J U x)::C (J R c)::L 28 (C (P f h)::N (f:Int)::N i::L 4 (C (P a b)::N (a:Int)::N k::L 43 []))))
theorem Api(j:AK)(y z:Int)(c1:E (k<a)=true)(o:0<=k/\k<a)(p:BQ (AL (Y k*1) b) 0 1 true=some (J U y))(q:0<=Q X (i+k)/\Q X (i+k)<(n:Int))(r:BQ cs (Y (Q X (i+k))*1) 1 true=some (J U z))(s:0<=Q X (i+k)/\Q X (i+k)<(n:Int))(t:Di cs (Y (Q X (i+k))*1) [J U (Q U (Q R (Q R (Q R (Q R x*Q R y)+Q R z)+c)))]=some j):Z Zb (OC g nb f h a b n cs i x c k) .norm (OC g nb f h a b n j i x (d (Q R (Q R (Q R (Q R x*Q R y)+Q R z)+c)) (2^(min (Y 32) (A5 .u64)))) (Q X (k+1))):=e m 300 [bT,.v (J U y),.v (J U z),.l j] Aaz (Ip c1 o p q r K9 s t) (by kernel_rfl)
theorem Apj(c1:E (k<a)=false):Z Zb (OC g nb f h a b n cs i x c k) xZ2 (OC g nb f h a b n cs i x c k):=e m 300 [bF] Aaz (BO c1) (by kernel_rfl)
end
def oP:ICode:=a mF 90 1012
def Sp(b nb:Bool)(a:Nat)(c:AK)(d:Nat)(e:AK)(n:Nat)(cs:AK)(i:Int):Az:=L 4 (AH [W false,P 0 []]::C (W b)::L 1 (C (W nb)::C (P d e)::Ak 1 n cs::L 31 (C (P a c)::N (a:Int)::N i::L 50 [])))
section
variable(g nb:Bool)(a:Nat)(d:AK)(b:Nat)(f:AK)(n:Nat)
theorem Aeo(cs:AK)(i:Int)(h:E (i<a)=false):Z oP (Sp g nb a d b f n cs i) xZ0 (Sp g nb a d b f n cs i):=e m 300 [bF] Abb (BO (show (E (i<(a:Int)))=false from h)) (by kernel_rfl)
theorem vH(cs o j:AK)(i x c k:Int)(h:E (i<a)=true)(hi:0<=i/\i<a)(hx:BQ (AL (Y i*1) d) 0 1 true=some (J U x))(p:Z (.loop Zb) (OC g nb a d b f n cs i x 0 0) xZ2 (OC g nb a d b f n o i x c k))(q:0<=Q X (i+b)/\Q X (i+b)<(n:Int))(r:Di o (Y (Q X (i+b))*1) [J U (Q U c)]=some j):Z oP (Sp g nb a d b f n cs i) .norm (Sp g nb a d b f n j (Q X (i+1))):=Ag (e (t:=L 4 (AH [W false,P 0 []]::C (W g)::L 1 (C (W nb)::C (P b f)::Ak 1 n cs::L 31 (C (P a d)::N (a:Int)::N i::C (W (E (i<(a:Int))))::L 49 [])))) m 300 [] [4,5,7,8,9,41,42,43,44] a0) (Ag (e (t:=L 4 (AH [W false,P 0 []]::C (W g)::L 1 (C (W nb)::C (P b f)::Ak 1 n cs::L 31 (C (P a d)::N (a:Int)::N i::C (W (E (i<(a:Int))))::L 49 [])))) m 300 [bT] [4,5,7,8,9,41,42,43,44] (BO (show (E (i<(a:Int)))=true from h))) (Ag (Bo (Ag (e (t:=L 4 (AH [W false,P 0 []]::C (W g)::L 1 (C (W nb)::C (P b f)::Ak 1 n cs::N i::C (J U x)::L 29 (C (P a d)::N (a:Int)::N i::C (W (E (i<(a:Int))))::N i::.mem (AL (Y i*1) d)::C (J U x)::L 46 [])))) m 300 [.v (J U x)] [4,5,7,8,9,10,11,41,42,43,44,45,46,47] (DH (show 0<=i/\i<(a:Int) from hi) hx)) (Ag (e (t:=L 4 (AH [W false,P 0 []]::C (W g)::L 1 (C (W nb)::C (P b f)::Ak 1 n cs::N i::C (J U x)::C (J R 0)::L 28 (C (P a d)::N (a:Int)::N i::C (W (E (i<(a:Int))))::N i::.mem (AL (Y i*1) d)::C (J U x)::L 46 [])))) m 300 [] [4,5,7,8,9,10,11,12,41,42,43,44,45,46,47] a0) (Ag (Ag (e (t:=L 4 (AH [W false,P 0 []]::C (W g)::L 1 (C (W nb)::C (P b f)::Ak 1 n cs::N i::C (J U x)::C (J R 0)::L 28 (C (P a d)::N (a:Int)::N i::L 4 (C (P b f)::N (b:Int)::N 0::L 43 []))))) m 300 [] Aaz a0) (A7 p)) (e (t:=L 4 (AH [W false,P 0 []]::C (W g)::L 1 (C (W nb)::C (P b f)::Ak 1 n j::N i::C (J U x)::C (J R c)::L 28 (C (P a d)::N (a:Int)::N i::L 4 (C (P b f)::N (b:Int)::N k::L 29 (.dup 9::N i::C (P b f)::N (b:Int)::N (Q X (i+b))::C (J R c)::C (J U (Q U c))::.ptr 9 (Y (Q X (i+b))*1)::L 6 [])))))) m 300 [.l j] [4,5,7,8,9,10,11,12,41,42,43,48,49,50,80,81,82,83,84,85,86,87] (DH q r)))))) (e (t:=L 4 (AH [W false,P 0 []]::C (W g)::L 1 (C (W nb)::C (P b f)::Ak 1 n j::L 31 (C (P a d)::N (a:Int)::N (Q X (i+1))::L 50 [])))) m 300 [] Abb a0)))
end
theorem Aep(b nb:Bool)(xs a:G)(hx:B9 xs)(hy:B9 a)(n i:Nat)(hn:n<=1048576)(B:i+F a<=n):∀ (r k:Nat) (out:G) (c:Int),r+k=F a->F out=n->B9 out->0<=c/\c<4294967296 ->
  Z (.loop Zb) (OC b nb (F xs) (A xs) (F a) (A a) n (A out) i (H xs i 0) c k) xZ2
   (OC b nb (F xs) (A xs) (F a) (A a) n (A (J6 (H xs i 0) a i r k out c).1) i (H xs i 0) (J6 (H xs i 0) a i r k out c).2 (F a)):=by
 intro r;induction r with
 | zero =>
  intro k out c h _ _ _;have j:k=F a:=by omega
  subst j;exact Aq (Apj b nb (F xs) (A xs) (F a) (A a) n (A out) i (H xs i 0) c (F a) (by simp))
 | succ r l =>
  intro k out c h m f hc;have o:=Bn hx i;have p:=Bn hy k;have q:=Bn f (i+k);obtain⟨C,D,E,I⟩:=aU o p hc q;have e:Q X (i+k)=((i+k:Nat):Int):=wrz
  have s:Q X (k+1)=((k+1:Nat):Int):=wrz
  have hz:=ZL (xs:=out) (i:=i+k) (by omega);have t:=Fo (xs:=a) (i:=k) (by omega);have u:=KJ (xs:=out) (i:=i+k) (v:=(c+(H out (i+k) 0+H xs i 0*H a k 0)) % 4294967296) (by omega);have g:Q R (Q R (Q R (Q R (H xs i 0)*Q R (H a k 0))+Q R (H out (i+k) 0))+c)=c+(H out (i+k) 0+H xs i 0*H a k 0):=by
   have w:Q R (H xs i 0)=H xs i 0:=by rw[Cz];omega
   have x:Q R (H a k 0)=H a k 0:=by rw[Cz];omega
   have y:Q R (H out (i+k) 0)=H out (i+k) 0:=by rw[Cz];omega
   rw[w,x,y,Cz,Cz,Cz];omega
  have z:d (c+(H out (i+k) 0+H xs i 0*H a k 0)) (2^(min (Y 32) (A5 .u64)))=(c+(H out (i+k) 0+H xs i 0*H a k 0)) / 4294967296:=by
   show d _ 4294967296=_;rw[BX _ (by omega)]
  have h1:=Api b nb (F xs) (A xs) (F a) (A a) n (A out) i (H xs i 0) c k (A (out.set (i+k) ((c+(H out (i+k) 0+H xs i 0*H a k 0)) % 4294967296))) (H a k 0) (H out (i+k) 0)
   (by simp;omega) (by omega) (by rw[Aa];exact t) (by rw[e];omega) (by rw[e,Aa];exact hz) (by rw[e];omega) (by rw[e,Aa,g,Fb];exact u)
  rw[g,z,s] at h1;exact Bk h1 (l (k+1) _ _ (by omega) (by simpa using m) (Ds f (by omega)) (by omega))
theorem Apk(f nb:Bool)(xs b:G)(hx:B9 xs)(hy:B9 b)(t:F xs+F b<=1048576):∀ (r i:Nat) (out:G),r+i=F xs->F out=F xs+F b->B9 out->(∀ j,i+F b<=j->H out j 0=0) ->
  ∃ d,F d=F xs+F b/\B9 d/\An d=An out+4294967296^i*(An (xs.drop i)*An b) /\
   Z (.loop oP) (Sp f nb (F xs) (A xs) (F b) (A b) (F xs+F b) (A out) i) xZ0 (Sp f nb (F xs) (A xs) (F b) (A b) (F xs+F b) (A d) (F xs)):=by
 intro r;induction r with
 | zero =>
  intro i out hi h g _;have hi':i=F xs:=by omega
  subst hi';refine⟨out,h,g,by simp[An],?_⟩;exact Aq (Aeo f nb (F xs) (A xs) (F b) (A b) (F xs+F b) (A out) (F xs) (by simp))
 | succ r u =>
  intro i out hi h g hz;have w:=Bn hx i;have x:i<F xs:=by omega
  have m:=Aep f nb xs b hx hy (F xs+F b) i t (by omega) (F b) 0 out 0 (by omega) h g (by omega);obtain⟨y,n,o,k,l⟩:=jC (i:=i) w hy (F b) 0 out 0 (by omega) (by omega) g (by omega);generalize J6 (H xs i 0) b i (F b) 0 out 0=q at *
  obtain⟨e,c⟩:=q;dsimp only at y n o k l m;have s:Q X (i+F b)=((i+F b:Nat):Int):=wrz
  have z:Q X (i+1)=((i+1:Nat):Int):=wrz
  have B:Q U c=c:=by rw[Fb];omega
  have C:=KJ (xs:=e) (i:=i+F b) (v:=c) (by omega);have D:=Fo (xs:=xs) (i:=i) x;have h1:=vH f nb (F xs) (A xs) (F b) (A b) (F xs+F b) (A out) (A e) (A (e.set (i+F b) c)) i (H xs i 0) c (F b) (by simp;omega) (by omega) (by rw[Aa];exact D) m (by rw[s];omega) (by rw[s,Aa,B];exact C);rw[z] at h1;obtain⟨d,E,I,J,K⟩:=u (i+1) (e.set (i+F b) c) (by omega) (by simp;omega) (Ds n o) (fun j hj=>by rw[Qp (by omega),l j (by omega),hz j (by omega)]);refine⟨d,E,I,?_,Bk h1 K⟩;have hv:An (e.set (i+F b) c)=An out+4294967296^i*(H xs i 0*An b):=by
   rw[EW e _ _ (by omega),l _ (A2 _),hz _ (A2 _)];simp only[Gb,DA,E7,FV] at k |-;exact k
  have hd:An (xs.drop i)=H xs i 0+4294967296*An (xs.drop (i+1)):=D4 xs i;rw[J,hv,hd,AD];generalize (4294967296:Int)^i=p at *
  generalize An (xs.drop (i+1))=a at *
  grind
section
variable(c:Bool)(xs:G)(nb:Bool)(d:G)(a b:Int)
theorem Aeq(h1:T 143 [Ao [W c,sL A xs]] (A3 [W (E (a<0)),sL A (o (I a))]))(h2:T 143 [Ao [W nb,sL A d]] (A3 [W (E (b<0)),sL A (o (I b))]))(z:((F (o (I a)):Int)==0)=true):T 112 [Ao [W c,sL A xs],Ao [W nb,sL A d]] (Ao [W false,P 0 []]):=Cl (ps:=[T 143 [Ao [W c,sL A xs]] (A3 [W (E (a<0)),sL A (o (I a))]),T 143 [Ao [W nb,sL A d]] (A3 [W (E (b<0)),sL A (o (I b))]),((F (o (I a)):Int)==0)=true,true=true]) m rfl 300 rfl [.r (A3 [W (E (a<0)),sL A (o (I a))]),.r (A3 [W (E (b<0)),sL A (o (I b))]),bT,bT] (by kernel_rfl) ⟨h1,h2,z,rfl,trivial⟩
theorem Aer(h1:T 143 [Ao [W c,sL A xs]] (A3 [W (E (a<0)),sL A (o (I a))]))(h2:T 143 [Ao [W nb,sL A d]] (A3 [W (E (b<0)),sL A (o (I b))]))(y:((F (o (I a)):Int)==0)=false)(z:((F (o (I b)):Int)==0)=true):T 112 [Ao [W c,sL A xs],Ao [W nb,sL A d]] (Ao [W false,P 0 []]):=Cl (ps:=[T 143 [Ao [W c,sL A xs]] (A3 [W (E (a<0)),sL A (o (I a))]),T 143 [Ao [W nb,sL A d]] (A3 [W (E (b<0)),sL A (o (I b))]),((F (o (I a)):Int)==0)=false,((F (o (I b)):Int)==0)=true]) m rfl 300 rfl [.r (A3 [W (E (a<0)),sL A (o (I a))]),.r (A3 [W (E (b<0)),sL A (o (I b))]),bF,bT] (by kernel_rfl) ⟨h1,h2,y,z,trivial⟩
theorem Aes(h1:T 143 [Ao [W c,sL A xs]] (A3 [W (E (a<0)),sL A (o (I a))]))(h2:T 143 [Ao [W nb,sL A d]] (A3 [W (E (b<0)),sL A (o (I b))]))(out:G)(r:Int)(y:((F (o (I a)):Int)==0)=false)(z:((F (o (I b)):Int)==0)=false)(f:0<=Q X (F (o (I a))+F (o (I b)))/\Q X (F (o (I a))+F (o (I b)))<=1048576)(g:Z (.loop oP) (Sp (E (a<0)) (E (b<0)) (F (o (I a))) (A (o (I a))) (F (o (I b))) (A (o (I b))) (Y (Q X (F (o (I a))+F (o (I b))))) (C_ [J U 0] (Y (Q X (F (o (I a))+F (o (I b)))))) 0) xZ0 (Sp (E (a<0)) (E (b<0)) (F (o (I a))) (A (o (I a))) (F (o (I b))) (A (o (I b))) (Y (Q X (F (o (I a))+F (o (I b))))) (A out) (F (o (I a)))))(h:T 152 [W (!(E (a<0)==E (b<0))),P (Y (Q X (F (o (I a))+F (o (I b))))) (A out)] (Ao [W (E (r<0)),sL A (o (I r))])):T 112 [Ao [W c,sL A xs],Ao [W nb,sL A d]] (Ao [W (E (r<0)),sL A (o (I r))]):=CQ mF (L 4 (AH [W (E (r<0)),sL A (o (I r))]::C (W (E (a<0)))::L 1 (C (W (E (b<0)))::C (sL A (o (I b)))::C (P (Y (Q X (F (o (I a))+F (o (I b))))) (A out))::L 31 (C (sL A (o (I a)))::N (F (o (I a)):Int)::N (F (o (I a)):Int)::L 45 (C (W (E (a<0)))::C (W (E (b<0)))::C (W (!(E (a<0)==E (b<0))))::C (P (Y (Q X (F (o (I a))+F (o (I b))))) (A out))::C (Ao [W (E (r<0)),sL A (o (I r))])::[]))))) (Ag (e (t:=(C (Ao [W c,sL A xs])::C (Ao [W nb,sL A d])::AH [W c,sL A xs]::AH [W nb,sL A d]::AH [W false,P 0 []]::L 89 [])) m 300 [] [0,1,2,3,4] a0) (Ag (e (t:=(C (Ao [W c,sL A xs])::C (Ao [W nb,sL A d])::AH [W c,sL A xs]::AH [W nb,sL A d]::AH [W false,P 0 []]::C (W (E (a<0)))::C (sL A (o (I a)))::L 9 (C (A3 [W (E (a<0)),sL A (o (I a))])::C (Ao [W c,sL A xs])::C (A3 [W (E (a<0)),sL A (o (I a))])::C (W (E (a<0)))::C (sL A (o (I a)))::L 73 []))) m 300 [.r (A3 [W (E (a<0)),sL A (o (I a))])] [0,1,2,3,4,5,6,16,17,18,19,20] (BO h1)) (Ag (e (t:=(C (Ao [W c,sL A xs])::C (Ao [W nb,sL A d])::AH [W c,sL A xs]::AH [W nb,sL A d]::AH [W false,P 0 []]::C (W (E (a<0)))::C (sL A (o (I a)))::C (W (E (b<0)))::C (sL A (o (I b)))::L 7 (C (A3 [W (E (a<0)),sL A (o (I a))])::C (Ao [W c,sL A xs])::C (A3 [W (E (a<0)),sL A (o (I a))])::C (W (E (a<0)))::C (sL A (o (I a)))::C (A3 [W (E (b<0)),sL A (o (I b))])::C (Ao [W nb,sL A d])::C (A3 [W (E (b<0)),sL A (o (I b))])::C (W (E (b<0)))::C (sL A (o (I b)))::L 68 []))) m 300 [.r (A3 [W (E (b<0)),sL A (o (I b))])] [0,1,2,3,4,5,6,7,8,16,17,18,19,20,21,22,23,24,25] (BO h2)) (Ag (e (t:=(C (Ao [W c,sL A xs])::C (Ao [W nb,sL A d])::AH [W c,sL A xs]::AH [W nb,sL A d]::AH [W false,P 0 []]::C (W (E (a<0)))::C (sL A (o (I a)))::C (W (E (b<0)))::C (sL A (o (I b)))::L 7 (C (A3 [W (E (a<0)),sL A (o (I a))])::C (Ao [W c,sL A xs])::C (A3 [W (E (a<0)),sL A (o (I a))])::C (W (E (a<0)))::C (sL A (o (I a)))::C (A3 [W (E (b<0)),sL A (o (I b))])::C (Ao [W nb,sL A d])::C (A3 [W (E (b<0)),sL A (o (I b))])::C (W (E (b<0)))::C (sL A (o (I b)))::C (sL A (o (I a)))::N (F (o (I a)):Int)::C (W ((F (o (I a)):Int)==0))::C (W ((F (o (I a)):Int)==0))::C (sL A (o (I b)))::N (F (o (I b)):Int)::C (W ((F (o (I b)):Int)==0))::C (W ((F (o (I b)):Int)==0))::L 60 []))) m 300 [bF,bF] [0,1,2,3,4,5,6,7,8,16,17,18,19,20,21,22,23,24,25,26,27,28,29,30,31,32,33] (DH y z)) (Ag (e (t:=(C (Ao [W c,sL A xs])::C (Ao [W nb,sL A d])::AH [W c,sL A xs]::AH [W nb,sL A d]::AH [W false,P 0 []]::C (W (E (a<0)))::C (sL A (o (I a)))::C (W (E (b<0)))::C (sL A (o (I b)))::Ak 1 (Y (Q X (F (o (I a))+F (o (I b))))) (C_ [J U 0] (Y (Q X (F (o (I a))+F (o (I b))))))::L 6 (C (A3 [W (E (a<0)),sL A (o (I a))])::C (Ao [W c,sL A xs])::C (A3 [W (E (a<0)),sL A (o (I a))])::C (W (E (a<0)))::C (sL A (o (I a)))::C (A3 [W (E (b<0)),sL A (o (I b))])::C (Ao [W nb,sL A d])::C (A3 [W (E (b<0)),sL A (o (I b))])::C (W (E (b<0)))::C (sL A (o (I b)))::C (sL A (o (I a)))::N (F (o (I a)):Int)::C (W ((F (o (I a)):Int)==0))::C (W ((F (o (I a)):Int)==0))::C (sL A (o (I b)))::N (F (o (I b)):Int)::C (W ((F (o (I b)):Int)==0))::C (W ((F (o (I b)):Int)==0))::L 1 (C (sL A (o (I a)))::N (F (o (I a)):Int)::C (sL A (o (I b)))::N (F (o (I b)):Int)::N (Q X (F (o (I a))+F (o (I b))))::L 54 [])))) m 300 [] ((0)::(1)::(2)::(3)::(4)::(5)::(6)::(7)::(8)::(9)::(16)::(17)::(18)::(19)::(20)::(21)::(22)::(23)::(24)::(25)::(26)::(27)::(28)::(29)::(30)::(31)::(32)::(33)::(35)::(36)::(37)::(38)::(39)::[]) (BO f)) (Ag (Ag (e (t:=L 4 (AH [W false,P 0 []]::C (W (E (a<0)))::L 1 (C (W (E (b<0)))::C (sL A (o (I b)))::Ak 1 (Y (Q X (F (o (I a))+F (o (I b))))) (C_ [J U 0] (Y (Q X (F (o (I a))+F (o (I b))))))::L 31 (C (sL A (o (I a)))::N (F (o (I a)):Int)::N 0::L 50 [])))) m 300 [] Abb a0) (A7 g)) (e (t:=L 4 (bN r::C (W (E (a<0)))::L 1 (C (W (E (b<0)))::C (sL A (o (I b)))::C (P (Y (Q X (F (o (I a))+F (o (I b))))) (A out))::L 31 (C (sL A (o (I a)))::N (F (o (I a)):Int)::N (F (o (I a)):Int)::L 45 (C (W (E (a<0)))::C (W (E (b<0)))::C (W (!(E (a<0)==E (b<0))))::C (P (Y (Q X (F (o (I a))+F (o (I b))))) (A out))::C (Ao [W (E (r<0)),sL A (o (I r))])::[]))))) (ex := .ret) m 300 [.r (Ao [W (E (r<0)),sL A (o (I r))])] [4,5,7,8,9,41,42,43,89,90,91,92,93] (BO h))))))))
end
theorem jN(a b:Int)(g:G)(h:An g=(I a:Int)*(I b:Int)):v (!(decide (a<0)==decide (b<0))) g=a*b:=by
 unfold v;rw[h];by_cases e:a<0 <;> by_cases f:b<0
 ·have c:(I a:Int) = -a:=by omega
  have d:(I b:Int) = -b:=by omega
  rw[c,d];simp[e,f] <;> grind
 ·have c:(I a:Int) = -a:=by omega
  have d:(I b:Int)=b:=by omega
  rw[c,d];simp[e,f] <;> grind
 ·have c:(I a:Int)=a:=by omega
  have d:(I b:Int) = -b:=by omega
  rw[c,d];simp[e,f] <;> grind
 ·have c:(I a:Int)=a:=by omega
  have d:(I b:Int)=b:=by omega
  rw[c,d];simp[e,f]
theorem Xe{na nb:Bool}{xs ys:G}(hx:B9 xs)(hy:B9 ys)(n:F xs+F ys<=1048576):T 112 [Ao [W na,sL A xs],Ao [W nb,sL A ys]] (M (v na xs*v nb ys)):=by
 have p:=Gc (neg:=na) hx;have q:=Gc (neg:=nb) hy;have d:=EE (neg:=na) hx (by omega);have e:=EE (neg:=nb) hy (by omega);generalize v na xs=a at *
 generalize v nb ys=b at *
 have r:=Em (I a);have s:=Em (I b);by_cases i:a=0
 ·have h:=Aeq na xs nb ys a b d e (by rw[BJ];omega);rw[i,Cs];exact h
 by_cases hb:b=0
 ·have h:=Aer na xs nb ys a b d e (by rw[C3];omega) (by rw[BJ];omega);rw[hb,Be];exact h
 have f:Q X (F (o (I a))+F (o (I b)))=((F (o (I a))+F (o (I b)):Nat):Int):=wrz
 have g:Y (Q X (F (o (I a))+F (o (I b))))=F (o (I a))+F (o (I b)):=by rw[f,Aa]
 obtain⟨out,o1,k,l,m⟩:=Apk (E (a<0)) (E (b<0)) (o (I a)) (o (I b)) (CB _) (CB _) (by omega) (F (o (I a))) 0 (AI (F (o (I a))+F (o (I b))) 0) (by omega) (by simp) (Gp _) (fun j _=>EB _ j);have hv:An out=(I a:Int)*(I b:Int):=by rw[l,FX];simp[Do]
 have c:=Ge (neg := !(decide (a<0)==decide (b<0))) k (by omega);(first|rw[jN a b out hv,o1] at c|(rw[jN a b out hv] at c;unfold sL at c;rw[o1] at c));exact Aes na xs nb ys a b d e out _ (by rw[C3];omega) (by rw[C3];omega) (by rw[f];omega) (by rw[g,G4];exact m) (by rw[g];exact c)
def TWC:Dd:=TWB
theorem CH:CT DP TWC:=m
def oQ:ICode:=a mB 90 1012
section
variable(a:Bool)(xs:G)(w s:Int)(k:Nat)(os:G)(n i:Int)(z:Rn)
def UB:Az:=L 4 (AH [W z.1,P (F z.2) (A z.2)]::C (W a)::L 1 (N w::C (J R s)::Ak 1 k (A os)::L 23 (C (sL A xs)::N n::N i::L 31 [])))
theorem A4o(c1:E (i<n)=true)(c:0<=i/\i<F xs)(g:¬ s<0)(b:0<=Q X (i+w)/\Q X (i+w)<(k:Int))(e:F os=k)(f:0<=Q X (Q X (i+w)+1)/\Q X (Q X (i+w)+1)<(k:Int))(h:F (os.set (Y (Q X (i+w))) (Q U ((Aj (A5 .u32) (H os (Y (Q X (i+w))) 0) ||| Aj (A5 .u32) (Q U (Q R (Q R (H xs (Y i) 0)*2^(min (Y s) (A5 .u64)))))).toNat)))=k):Z oQ (UB a xs w s k os n i z) .norm (UB a xs w s k ((os.set (Y (Q X (i+w))) (Q U ((Aj (A5 .u32) (H os (Y (Q X (i+w))) 0) ||| Aj (A5 .u32) (Q U (Q R (Q R (H xs (Y i) 0)*2^(min (Y s) (A5 .u64)))))).toNat))).set (Y (Q X (Q X (i+w)+1))) (Q U (d (Q R (Q R (H xs (Y i) 0)*2^(min (Y s) (A5 .u64)))) (2^(min (Y 32) (A5 .u64)))))) n (Q X (i+1)) z):=Ab CH [bT,.v (J U (H xs (Y i) 0)),.v (J U (H os (Y (Q X (i+w))) 0)),.l (A (os.set (Y (Q X (i+w))) (Q U ((Aj (A5 .u32) (H os (Y (Q X (i+w))) 0) ||| Aj (A5 .u32) (Q U (Q R (Q R (H xs (Y i) 0)*2^(min (Y s) (A5 .u64)))))).toNat)))),.l (A ((os.set (Y (Q X (i+w))) (Q U ((Aj (A5 .u32) (H os (Y (Q X (i+w))) 0) ||| Aj (A5 .u32) (Q U (Q R (Q R (H xs (Y i) 0)*2^(min (Y s) (A5 .u64)))))).toNat))).set (Y (Q X (Q X (i+w)+1))) (Q U (d (Q R (Q R (H xs (Y i) 0)*2^(min (Y s) (A5 .u64)))) (2^(min (Y 32) (A5 .u64)))))))] Aba (IU c1 c (B7 c) g b (Dc e b) b (show Di (A os) (Y (Q X (i+w))*1) [J U (Q U ((Aj (A5 .u32) (H os (Y (Q X (i+w))) 0) ||| Aj (A5 .u32) (Q U (Q R (Q R (H xs (Y i) 0)*2^(min (Y s) (A5 .u64)))))).toNat))]=some (A (os.set (Y (Q X (i+w))) (Q U ((Aj (A5 .u32) (H os (Y (Q X (i+w))) 0) ||| Aj (A5 .u32) (Q U (Q R (Q R (H xs (Y i) 0)*2^(min (Y s) (A5 .u64)))))).toNat)))) from (DX e b)) K9 f (show Di (A (os.set (Y (Q X (i+w))) (Q U ((Aj (A5 .u32) (H os (Y (Q X (i+w))) 0) ||| Aj (A5 .u32) (Q U (Q R (Q R (H xs (Y i) 0)*2^(min (Y s) (A5 .u64)))))).toNat)))) (Y (Q X (Q X (i+w)+1))*1) [J U (Q U (d (Q R (Q R (H xs (Y i) 0)*2^(min (Y s) (A5 .u64)))) (2^(min (Y 32) (A5 .u64)))))]=some (A ((os.set (Y (Q X (i+w))) (Q U ((Aj (A5 .u32) (H os (Y (Q X (i+w))) 0) ||| Aj (A5 .u32) (Q U (Q R (Q R (H xs (Y i) 0)*2^(min (Y s) (A5 .u64)))))).toNat))).set (Y (Q X (Q X (i+w)+1))) (Q U (d (Q R (Q R (H xs (Y i) 0)*2^(min (Y s) (A5 .u64)))) (2^(min (Y 32) (A5 .u64))))))) from (DX h f)))
theorem A4p(c1:E (i<n)=false):Z oQ (UB a xs w s k os n i z) xZ0 (UB a xs w s k os n i z):=Ab CH [bF] Aba (BO c1)
end
theorem Aet(b c:Bool)(xs a:G)(m:Int)(c1:((F a:Int)==0)=true)(d:T 143 [Ao [W b,sL A xs]] (A3 [W c,sL A a])):T 104 [Ao [W b,sL A xs],J X m] (Ao [W false,P 0 []]):=CQ mB (L 4 (AH [W false,P 0 []]::L 62 [])) (As (As (As (As (AA (AG (Ab CH [.r (A3 [W c,sL A a]),bT] [4] (DH d c1))))))))
theorem Aeu(b c:Bool)(xs a os:G)(m w s n i v:Int)(k:Nat)(z:Rn)(c1:((F a:Int)==0)=false)(d:T 143 [Ao [W b,sL A xs]] (A3 [W c,sL A a]))(e:0<=Q X (Q X (F a+Q X (AF m 32))+1)/\Q X (Q X (F a+Q X (AF m 32))+1)<=1048576)(f:Z (.loop oQ) ((L 4 (AH [W false,P 0 []]::C (W c)::L 1 (N (Q X (AF m 32))::C (J R (Q R (Bl m 32)))::Ak 1 (Y (Q X (Q X (F a+Q X (AF m 32))+1))) (C_ [J U 0] (Y (Q X (Q X (F a+Q X (AF m 32))+1))))::L 23 (C (sL A a)::N (F a:Int)::N 0::L 31 []))))) xZ0 (UB c a w s k os n i z))(g:T 152 [W c,P k (A os)] (M v)):T 104 [Ao [W b,sL A xs],J X m] (M v):=CQ mB (L 4 (AH [W (E (v<0)),sL A (o (I v))]::L 62 [])) (As (As (As (As (AA (Ag (Ab CH [.r (A3 [W c,sL A a]),bF] Aba (Ff d c1 H7 H7 e)) (Ag (A7 f) (Ab CH [.r (M v)] [4] (BO g)))))))))
def Akm:ICode:=a Ayx 93 116
section
variable(ts:D)(r:Rn)(e:Int)(w:Rn)(i s:Int)
def Yl:Az:=C (sL S ts)::L 2 (AH [W r.1,P (F r.2) (A r.2),J X e]::L 1 (AH [W w.1,P (F w.2) (A w.2)]::N i::N s::L 24 []))
theorem ADq(t:Int)(c1:E (i>=0)=true)(a:0<=i/\i<F ts)(b:T 112 [AB w,AB r] (M (B w*B r)))(c:T 104 [AB (H ts (Y i) z0),J X s] (M t))(d:T 111 [M (B w*B r),M t] (M ((B w*B r)+t))):Z Akm (Yl ts r e w i s) .norm (Yl ts r e (V ((B w*B r)+t)) (Q X (i-1)) (Q X (s+e))):=Ab CH [bT,.r (M (B w*B r)),.v (AB (H ts (Y i) z0)),.r (M t),.r (M ((B w*B r)+t))] Vk (Gm c1 b a (BZ a) c d)
theorem ADr(c1:E (i>=0)=false):Z Akm (Yl ts r e w i s) xZ0 (Yl ts r e w i s):=Ab CH [bF] Vk (BO c1)
end
theorem ADs(ts:D)(r w:Rn)(e i s sg:Int)(a:Z (.loop Akm) (Yl ts r e (false,[]) (Q X (F ts-1)) 0) xZ0 (Yl ts r e w i s))(b:T 101 [AB w] (J X sg)):T 65 [sL S ts,Ao [W r.1,P (F r.2) (A r.2),J X e]] (J X sg):=CQ Ayx (L 4 (N sg::L 27 [])) (As (AA (Ag (Ab CH [] Vk a0) (Ag (A7 a) (Ab CH [.r (J X sg)] [4] (BO b))))))
def TSA:Dd:=TWC
theorem Aev:CT DP TSA:=CH
theorem Apl{na:Bool}{xs:G}{z:Rn}{w s:Nat}(hx:B9 xs)(hs:s<32)(R:w+F xs<1048576):∀ (r i:Nat) (os:G),i+r=F xs->F os=w+F xs+1->B9 os->An os=4294967296^w*(2^s*An (xs.take i))->H os (i+w) 0<2^s->(∀ t,i+w<t->H os t 0=0) ->
  ∃ d,Z (.loop oQ) (UB na xs (w:Nat) (s:Nat) (w+F xs+1) os (F xs:Nat) (i:Nat) z) xZ0 (UB na xs (w:Nat) (s:Nat) (w+F xs+1) d (F xs:Nat) (F xs:Nat) z)/\F d=w+F xs+1/\B9 d/\An d=4294967296^w*(2^s*An xs):=by
 intro r;induction r with
 | zero =>
  intro i os hi f g hv _ _;have:i=F xs:=by omega
  subst this;exact⟨os,Aq (A4p na xs _ _ _ os _ _ z (by simp)),f,g,by rw[hv,DV]⟩
 | succ r u =>
  intro i os hi f g hv hc hz;have v:Q X (i+1)=((i+1:Nat):Int):=wrz
  have j:Q X (i+w)=((i+w:Nat):Int):=wrz
  have m:Q X ((i+w:Nat)+1)=((i+w+1:Nat):Int):=wrz
  have x:=Bn hx i;have y:=Bn g (i+w);obtain⟨A,B,C,q,D,k⟩:=bB x hs;have E:(2:Int)^(min (Y s) (A5 .u64))=2^s:=by
   rw[Aa];congr 1;show min s 64=s;omega
  have h:=A4o na xs (w:Nat) (s:Nat) (w+F xs+1) os (F xs:Nat) (i:Nat) z (by simp;omega) (by omega) (by omega) (by rw[j];omega) f (by rw[j,m];omega) (by simpa using f);rw[v,j,m,E,Aa,Aa,Aa,D9 (n:=H xs i 0) (by omega),D9 ⟨A,B⟩,jI,Fb (H xs i 0*2^s),k] at h;have l:q*2^s<4294967296:=by rw[<- k];omega
  rw[A3h D l (by omega) ⟨y.1,hc⟩] at h;have p:0<=H xs i 0*2^s / 4294967296:=by omega
  have S:(2:Int)^s<=4294967296:=by have:=Iq (show s<=32 by omega);rwa [show (2:Int)^32=4294967296 by decide] at this
  rw[VH ⟨p,by omega⟩] at h;have I:0<=q*2^s+H os (i+w) 0/\q*2^s+H os (i+w) 0<4294967296:=by
   have T:0<=q*2^s:=by rw[<- k];omega
   refine⟨by omega,?_⟩;have e:=VI (show s<=32 by omega);rw[e] at l |-;have hp:=CA s;have:=CY l (by omega);have:=Ap (show q+1<=2^(32-s) by omega) (show (0:Int)<=2^s by omega);rw[H2,D0] at this;omega
  obtain⟨d,J,K,L,M⟩:=u (i+1) ((os.set (i+w) (q*2^s+H os (i+w) 0)).set (i+w+1) (H xs i 0*2^s / 4294967296)) (by omega) (by simpa using f) (Ds (Ds g I) ⟨p,by omega⟩) (by
    rw[EW _ _ _ (by simp;omega),EW _ _ _ (by omega),Dp (by omega),hz (i+w+1) (by omega),hv,Fc xs i (by omega),AD,Cc];have N:H xs i 0*2^s=4294967296*(H xs i 0*2^s / 4294967296)+q*2^s:=by omega
    generalize (4294967296:Int)^i=P at *
    generalize (4294967296:Int)^w=c at *
    generalize H xs i 0*2^s / 4294967296=a at *
    generalize H os (i+w) 0=o at *
    generalize q*2^s=b at *
    have O:(2:Int)^s*(An (xs.take i)+P*H xs i 0)=2^s*An (xs.take i)+P*(H xs i 0*2^s):=by grind
    rw[O,N];grind) (by
    rw[show i+1+w=i+w+1 by omega,show H ((os.set (i+w) (q*2^s+H os (i+w) 0)).set (i+w+1) (H xs i 0*2^s / 4294967296)) (i+w+1) 0=H xs i 0*2^s / 4294967296 by simp[Ad,show i+w+1<F os by omega]];exact C) (fun t U=>by rw[Dp (by omega),Dp (by omega)];exact hz t (by omega))
  exact⟨d,Bk h J,K,L,M⟩
theorem jO{neg:Bool}{xs:G}(c:B9 xs)(n:Nat)(hn:n<=9223372036854775807)(r:n / 32+F xs+1<=1048576):T 104 [Ao [W neg,sL A xs],J X (n:Nat)] (M (v neg xs*2^n)):=by
 have s:=Gc (neg:=neg) c;have d:=EE (neg:=neg) c (by omega);generalize v neg xs=a at *
 by_cases e:F (o (I a))=0
 ·have h:=Aet neg _ xs (o (I a)) (n:Nat) (by rw[e];rfl) d;have j:a=0:=by have:=(Em (I a)).1 e;omega
  rw[j,Cs];exact h
 ·have f:Q X (AF (n:Int) 32)=((n / 32:Nat):Int):=by
   rw[Cu (by omega),wqz];omega
  have k:Q R (Bl (n:Int) 32)=((n % 32:Nat):Int):=by
   rw[BY (by omega),D9 (by omega)];omega
  have g:Q X (F (o (I a))+(n / 32:Nat))=((n / 32+F (o (I a)):Nat):Int):=wrz
  have i:Q X ((n / 32+F (o (I a)):Nat)+1)=((n / 32+F (o (I a))+1:Nat):Int):=wrz
  have hs:n % 32<32:=IV _ (by decide);obtain⟨os,l,m,p,q⟩:=Apl (na:=decide (a<0)) (xs:=o (I a)) (z:=z0) (w:=n / 32) (CB (I a)) hs (by omega) (F (o (I a))) 0 (AI (n / 32+F (o (I a))+1) 0) (by omega) (by simp) (Gp _) (by rw[FX];simp[An]) (by rw[EB];exact CA _) (fun t _=>EB _ _);have b:=Ge (neg:=decide (a<0)) p (by omega);have hv:v (E (a<0)) os=a*2^n:=by
   rw[jD (xs:=o (I a)) (t:=2^n) (by rw[q,K2 n];grind),GT]
  rw[hv] at b;unfold sL at b;rw[m] at b;exact Aeu neg _ xs (o (I a)) os (n:Nat) _ _ _ _ _ _ _ (by rw[C3];omega) d (by rw[f,g,i];omega) (by rw[f,k,g,i,Aa,G4];exact l) b
theorem A4q{K a:Nat}{ts:D}{r:Rn}(g:∀ t∈ts,BC K t)(hr:BC a r)(e:Nat)(G:K+2+(F ts+1)*(a+(e / 32+1)+1)<=1048576)(h:e<=1073741824) :
  ∀ n (w:Rn),n<=F ts->B w=hv ((Al ts).drop n) (B r) (2^e)->BC (K+1+(F ts-n)*(a+(e / 32+1)+1)) w -> 
  ∃ b d,B b=hv (Al ts) (B r) (2^e)/\BC (K+1+F ts*(a+(e / 32+1)+1)) b/\Z (.loop Akm) (Yl ts r (e:Nat) w (n-1) ((e*(F ts-n):Nat))) xZ0 (Yl ts r (e:Nat) b (-1) d):=by
 have J:F ts<=1048576:=by
  have:F ts*1<=(F ts+1)*(a+(e / 32+1)+1):=Ck (by omega) (by omega);omega
 intro n;induction n with
 | zero =>
  intro w _ f c;exact⟨w,_,by simpa using f,c,Aq (ADr ts r (e:Nat) w ((0:Nat)-1) _ (by simp))⟩
 | succ n l =>
  intro w hn f c;obtain⟨m,L⟩:=Cm g n;have e0:((n+1:Nat):Int)-1=(n:Int):=by omega
  have M:(F ts-(n+1))*(a+(e / 32+1)+1)+(a+(e / 32+1)+1)=(F ts-n)*(a+(e / 32+1)+1):=by
   rw[show F ts-n=F ts-(n+1)+1 by omega,DU,Gi]
  have N:(F ts-n)*(a+(e / 32+1)+1)<=(F ts+1)*(a+(e / 32+1)+1):=Bf _ (by omega);have O:e*(F ts-(n+1)) / 32<=(F ts-(n+1))*(a+(e / 32+1)+1):=by
   have o:e<=32*(e / 32+1):=by omega
   have P:e*(F ts-(n+1))<=32*((F ts-(n+1))*(e / 32+1)):=by
    calc e*(F ts-(n+1))<=(32*(e / 32+1))*(F ts-(n+1)):=Bf _ o
     _=32*((F ts-(n+1))*(e / 32+1)):=by rw[Gj,Du (e / 32+1)]
   have R:(F ts-(n+1))*(e / 32+1)<=(F ts-(n+1))*(a+(e / 32+1)+1):=Bu _ (by omega);omega
  have S:e*(F ts-(n+1))<=1073741824*1048576:=Ck h (by omega);have T:e*(F ts-n)<=1073741824*1048576:=Ck h (by omega);have p:Q X ((e*(F ts-(n+1)):Nat)+e)=((e*(F ts-n):Nat):Int):=by
   have:e*(F ts-n)=e*(F ts-(n+1))+e:=by rw[show F ts-n=F ts-(n+1)+1 by omega,TB]
   rw[wqz];omega
  have q:Q X (n-1)=(n:Int)-1:=By (by omega) (by omega);have s:hv ((Al ts).drop n) (B r) (2^e)=B w*B r+B (H ts n z0)*2^(e*(F ts-(n+1))):=by
   have h1:(Al ts).drop n=H (Al ts) n 0::(Al ts).drop (n+1):=by
    rw[BL (by rw[B1];omega)];congr 1;rw[Ad,Am (by rw[B1];omega)];rfl
   rw[h1,hv,Eh,CX,B1,<- f,<- yS];generalize B (H ts n z0)*2^(e*(F ts-(n+1)))=A;grind
  have v:=c.fits;have i:=(v.mul hr.fits);have j:u (K+(e*(F ts-(n+1)) / 32+1)) (B (H ts n z0)*2^(e*(F ts-(n+1)))):=(Cm g n).fits.mul (U9 _);have x:BC (K+1+(F ts-n)*(a+(e / 32+1)+1)) (V (B w*B r+B (H ts n z0)*2^(e*(F ts-(n+1))))):=by
   refine (BB ((i.mono (k:=K+1+(F ts-(n+1))*(a+(e / 32+1)+1)+a+(e / 32+1)) (by omega)).add (j.mono (by omega)))).mono (by omega)
  obtain⟨b,d,y,z,C⟩:=l (V (B w*B r+B (H ts n z0)*2^(e*(F ts-(n+1))))) (by omega) (by rw[AO,s]) x;refine⟨b,d,y,z,?_⟩;rw[e0];have U:=i.len;have W:=j.len;obtain⟨E,Y⟩:=c;have k:=ADq ts r (e:Nat) w (n:Nat) ((e*(F ts-(n+1)):Nat)) (B (H ts n z0)*2^(e*(F ts-(n+1)))) (by simp) (by omega)
   (Xe E hr.1 (by have:=hr.2;omega))
   (by rw[Aa];exact jO m _ (by omega) (by omega))
   (by
    have:=jG (na:=decide (B w*B r<0)) (nb:=decide (B (H ts n z0)*2^(e*(F ts-(n+1)))<0)) (CB (I (B w*B r))) (CB (I (B (H ts n z0)*2^(e*(F ts-(n+1)))))) (by omega) (by omega);rw[GT,GT] at this;exact this)
  rw[p,q] at k;exact Bk k C
theorem VO{K a:Nat}{rs:D}{r:Rn}(f:∀ t∈rs,BC K t)(hr:BC a r)(e:Nat)(g:K+2+(F rs+1)*(a+(e / 32+1)+1)<=1048576)(h:e<=1073741824) :
  T 65 [sL S rs,Ao [W r.1,P (F r.2) (A r.2),J X (e:Nat)]] (J X (B4 (hv (Al rs) (B r) (2^e)))):=by
 have l:F rs<=1048576:=by
  have:F rs*1<=(F rs+1)*(a+(e / 32+1)+1):=Ck (by omega) (by omega);omega
 obtain⟨b,i,j,c,d⟩:=A4q f hr e g h (F rs) z0 (A2 _) (by rw[<- B1,DD];rfl) (Py _);rw[T9,rD] at d;have m:F rs*(a+(e / 32+1)+1)<=(F rs+1)*(a+(e / 32+1)+1):=Bf _ (by omega);have hs:=Lz (neg:=b.1) c.1 (by have:=c.2;omega);rw[show v b.1 b.2=B b from rfl,j] at hs;have k:Q X (F rs-1)=(F rs:Int)-1:=By (by omega) (by omega);exact ADs rs r b (e:Nat) (-1) i _ (by rw[k];exact d) hs
def TSB:Dd:=TSA
theorem L6:CT DP TSB:=Aev
def vI:ICode:=a gP 91 504
section
variable(a:D)(k:Nat)(cs:AK)(bs:D)
def TV:Az:=L 3 (C (sL S a)::Ak 1 k cs::C (sL S bs)::L 23 [])
theorem ADt(us vs:D)(c1:E ((F bs:Int)>0)=true)(b:k+1<=1048576)(c:T 118 [sL S a,sL S bs] (Ae 2 (F us) (S us)))(d:T 117 [sL S us] (Ae 2 (F vs) (S vs))):Z vI (TV a k cs bs) .norm (TV bs (k+1) (cs++([sL S bs]:AK)) vs):=Ab j [bT,.r (Ae 2 (F us) (S us)),.r (Ae 2 (F vs) (S vs))] [3,4,5] (Ff c1 (show F ([sL S bs]:AK)=1*1 from rfl) b c d)
theorem Akn(c1:E ((F bs:Int)>0)=false):Z vI (TV a k cs bs) xZ0 (TV a k cs bs):=Ab j [bF] [3,4,5] (BO c1)
end
theorem vJ(rs fs:D)(c1:((F fs:Int)==0)=true)(a:T 114 [sL S rs] (Ae 2 (F fs) (S fs))):T 67 [sL S rs] (Ae 1 0 []):=CQ gP (L 2 (Ak 1 0 []::L 26 [])) (As (As (As (As (AG (Ab j [.r (Ae 2 (F fs) (S fs)),bT] [2] (DH a c1)))))))
theorem vK(rs fs a ps b bs:D)(ls:List D)(c1:((F fs:Int)==0)=false)(c:T 114 [sL S rs] (Ae 2 (F fs) (S fs)))(d:T 116 [sL S fs] (Ae 2 (F a) (S a)))(e:T 115 [sL S a] (Ae 2 (F ps) (S ps)))(f:Z (.loop vI) (TV fs 1 ([sL S fs]:AK) ps) xZ0 (TV b (F ls) (pp ls) bs)):T 67 [sL S rs] (Ae 1 (F ls) (pp ls)):=CQ gP (L 2 (Ak 1 (F ls) (pp ls)::L 26 [])) (As (As (As (As (Ag (Ab j [.r (Ae 2 (F fs) (S fs)),bF,.r (Ae 2 (F a) (S a)),.r (Ae 2 (F ps) (S ps))] [3,4,5] (FJ c c1 d e)) (Ag (A7 f) (Ab j [] [2] a0)))))))
theorem vL(rs fs:D)(c1:((F fs:Int)==0)=true)(a:T 114 [sL S rs] (sL S fs)):T 67 [sL S rs] (Ae 1 0 []):=CQ gP (L 2 (Ak 1 0 []::L 26 [])) (As (As (As (As (AG (Ab j [.r (sL S fs),bT] [2] (DH a c1)))))))
theorem vM(rs fs a ps b bs:D)(ls:List D)(c1:((F fs:Int)==0)=false)(c:T 114 [sL S rs] (sL S fs))(d:T 116 [sL S fs] (Ae 2 (F a) (S a)))(e:T 115 [sL S a] (Ae 2 (F ps) (S ps)))(f:Z (.loop vI) (TV fs 1 ([sL S fs]:AK) ps) xZ0 (TV b (F ls) (pp ls) bs)):T 67 [sL S rs] (Ae 1 (F ls) (pp ls)):=CQ gP (L 2 (Ak 1 (F ls) (pp ls)::L 26 [])) (As (As (As (As (Ag (Ab j [.r (sL S fs),bF,.r (Ae 2 (F a) (S a)),.r (Ae 2 (F ps) (S ps))] [3,4,5] (FJ c c1 d e)) (Ag (A7 f) (Ab j [] [2] a0)))))))
def bH:ICode:=a Ayz 93 116
section
variable(ls:List D)(r:Rn)(e n a m i:Int)
def OD:Az:=L 3 (AH [W r.1,P (F r.2) (A r.2),J X e]::L 1 (N n::N a::L 3 (C (sL pp ls)::N m::N i::L 24 [])))
theorem ADu(s:Int)(c1:E (i<m)=true)(b:(s != 0)=true)(f:(a != 0)=true)(g:(s != a)=true)(c:0<=i/\i<F ls)(d:T 65 [sL S (H ls (Y i) []),Ao [W r.1,P (F r.2) (A r.2),J X e]] (J X s)):Z bH (OD ls r e n a m i) .norm (OD ls r e (Q X (n+1)) s m (Q X (i+1))):=Ab j [bT,.v (sL S (H ls (Y i) [])),.r (J X s),bT,bT,bT,bT] gY (Ip c1 c (B3 c) d b f g b)
theorem ADv(s:Int)(c1:E (i<m)=true)(b:(s != 0)=true)(f:(a != 0)=true)(g:(s != a)=false)(c:0<=i/\i<F ls)(d:T 65 [sL S (H ls (Y i) []),Ao [W r.1,P (F r.2) (A r.2),J X e]] (J X s)):Z bH (OD ls r e n a m i) .norm (OD ls r e n s m (Q X (i+1))):=Ab j [bT,.v (sL S (H ls (Y i) [])),.r (J X s),bT,bT,bF,bT] gY (Ip c1 c (B3 c) d b f g b)
theorem ADw(s:Int)(c1:E (i<m)=true)(b:(s != 0)=true)(f:(a != 0)=false)(c:0<=i/\i<F ls)(d:T 65 [sL S (H ls (Y i) []),Ao [W r.1,P (F r.2) (A r.2),J X e]] (J X s)):Z bH (OD ls r e n a m i) .norm (OD ls r e n s m (Q X (i+1))):=Ab j [bT,.v (sL S (H ls (Y i) [])),.r (J X s),bT,bF,bF,bT] gY (Ip c1 c (B3 c) d b f F9 b)
theorem ADx(s:Int)(c1:E (i<m)=true)(b:(s != 0)=false)(c:0<=i/\i<F ls)(d:T 65 [sL S (H ls (Y i) []),Ao [W r.1,P (F r.2) (A r.2),J X e]] (J X s)):Z bH (OD ls r e n a m i) .norm (OD ls r e n a m (Q X (i+1))):=Ab j [bT,.v (sL S (H ls (Y i) [])),.r (J X s),bF,bF,bF,bF] gY (Ip c1 c (B3 c) d b F9 F9 b)
theorem ADy(c1:E (i<m)=false):Z bH (OD ls r e n a m i) xZ0 (OD ls r e n a m i):=Ab j [bF] gY (BO c1)
end
theorem ADz(ls:List D)(r:Rn)(e n a i:Int)(b:Z (.loop bH) (OD ls r e 0 0 (F ls) 0) xZ0 (OD ls r e n a (F ls) i)):T 68 [sL pp ls,Ao [W r.1,P (F r.2) (A r.2),J X e]] (J X n):=CQ Ayz (L 4 (N n::L 32 [])) (As (AA (Ag (Ab j [] gY a0) (Ag (A7 b) (Ab j [] [4] a0)))))
def oS:ICode:=a mD 91 504
section
variable(k:Nat)(cs:AK)(bs:D)
def Sq:Az:=L 4 (Ak 1 k cs::C (sL S bs)::L 27 [])
theorem A4r(ws us vs:D)(c1:E ((F bs:Int)>0)=true)(a:k+1<=1048576)(b:0<=Q X (((k+1):Nat)-2)/\Q X (((k+1):Nat)-2)<(((k+1):Nat):Int))(c:BQ (cs++([sL S bs]:AK)) (Y (Q X (((k+1):Nat)-2))*1) 1 true=some (sL S ws))(d:T 119 [sL S ws,sL S bs] (sL S us))(e:T 153 [sL S us] (Ae 2 (F vs) (S vs))):Z oS (Sq k cs bs) .norm (Sq (k+1) (cs++([sL S bs]:AK)) vs):=Ab j [bT,.v (sL S ws),.r (sL S us),.r (Ae 2 (F vs) (S vs))] [4,5] (GZ c1 (show F ([sL S bs]:AK)=1*1 from rfl) a b c d e)
theorem vN(c1:E ((F bs:Int)>0)=false):Z oS (Sq k cs bs) xZ0 (Sq k cs bs):=Ab j [bF] [4,5] (BO c1)
end
theorem Aew(rs fs:D)(c1:((F fs:Int)==0)=true)(a:T 73 [sL S rs] (sL S fs)):T 108 [sL S rs] (Ae 1 0 []):=CQ mD (L 2 (Ak 1 0 []::L 30 [])) (As (As (As (As (AG (Ab j [.r (sL S fs),bT] [2] (DH a c1)))))))
theorem Aex(rs fs a ps bs:D)(ls:List D)(c1:((F fs:Int)==0)=false)(b:T 73 [sL S rs] (sL S fs))(c:T 122 [sL S fs] (Ae 2 (F a) (S a)))(d:T 86 [sL S a] (Ae 2 (F ps) (S ps)))(e:Z (.loop oS) (Sq 1 ([sL S fs]:AK) ps) xZ0 (Sq (F ls) (pp ls) bs)):T 108 [sL S rs] (Ae 1 (F ls) (pp ls)):=CQ mD (L 2 (Ak 1 (F ls) (pp ls)::L 30 [])) (As (As (As (As (Ag (Ab j [.r (sL S fs),bF,.r (Ae 2 (F a) (S a)),.r (Ae 2 (F ps) (S ps))] [4,5] (FJ b c1 c d)) (Ag (A7 e) (Ab j [] [2] a0)))))))
def UC:ICode:=a Aac 93 116
section
variable(ls:List D)(r:Rn)(e n a i:Int)
def KR:Az:=C (sL pp ls)::L 2 (AH [W r.1,P (F r.2) (A r.2),J X e]::L 1 (N n::N a::N i::L 34 []))
theorem A4s(w s:Int)(c1:E (i<F ls)=true)(b:(s != 0)=true)(g:(a != 0)=true)(h:(s != a)=true)(c:0<=i/\i<F ls)(d:T 80 [sL S (H ls (Y i) []),AB r,J X e] (M w))(f:T 79 [M w] (J X s)):Z UC (KR ls r e n a i) .norm (KR ls r e (Q X (n+1)) s (Q X (i+1))):=Ab j [bT,.v (sL S (H ls (Y i) [])),.r (M w),.r (J X s),bT,bT,bT,bT] Vk (M3 c1 c (B3 c) d f b g h b)
theorem A4t(w s:Int)(c1:E (i<F ls)=true)(b:(s != 0)=true)(g:(a != 0)=true)(h:(s != a)=false)(c:0<=i/\i<F ls)(d:T 80 [sL S (H ls (Y i) []),AB r,J X e] (M w))(f:T 79 [M w] (J X s)):Z UC (KR ls r e n a i) .norm (KR ls r e n s (Q X (i+1))):=Ab j [bT,.v (sL S (H ls (Y i) [])),.r (M w),.r (J X s),bT,bT,bF,bT] Vk (M3 c1 c (B3 c) d f b g h b)
theorem A4u(w s:Int)(c1:E (i<F ls)=true)(b:(s != 0)=true)(g:(a != 0)=false)(c:0<=i/\i<F ls)(d:T 80 [sL S (H ls (Y i) []),AB r,J X e] (M w))(f:T 79 [M w] (J X s)):Z UC (KR ls r e n a i) .norm (KR ls r e n s (Q X (i+1))):=Ab j [bT,.v (sL S (H ls (Y i) [])),.r (M w),.r (J X s),bT,bF,bF,bT] Vk (M3 c1 c (B3 c) d f b g F9 b)
theorem A4v(w s:Int)(c1:E (i<F ls)=true)(b:(s != 0)=false)(c:0<=i/\i<F ls)(d:T 80 [sL S (H ls (Y i) []),AB r,J X e] (M w))(f:T 79 [M w] (J X s)):Z UC (KR ls r e n a i) .norm (KR ls r e n a (Q X (i+1))):=Ab j [bT,.v (sL S (H ls (Y i) [])),.r (M w),.r (J X s),bF,bF,bF,bF] Vk (M3 c1 c (B3 c) d f b F9 F9 b)
theorem A4w(c1:E (i<F ls)=false):Z UC (KR ls r e n a i) xZ0 (KR ls r e n a i):=Ab j [bF] Vk (BO c1)
end
theorem A4x(ls:List D)(r:Rn)(e n a i:Int)(b:Z (.loop UC) (KR ls r e 0 0 0) xZ0 (KR ls r e n a i)):T 110 [sL pp ls,Ao [W r.1,P (F r.2) (A r.2),J X e]] (J X n):=CQ Aac (L 4 (N n::L 37 [])) (As (AA (Ag (Ab j [] Vk a0) (Ag (A7 b) (Ab j [] [4] a0)))))
def TZA:Dd:=TDD
theorem Aey:CT DP TZA:=j
theorem A4y(b nb:Bool)(xs a c rs:G)(v w:Int)(d:T 99 [sL A xs] (Ae 1 (F (Af xs)) (A (Af xs))))(e:T 99 [sL A a] (Ae 1 (F (Af a)) (A (Af a))))(f:T 165 [sL A (Af xs),sL A (Af a)] (A3 [sL A c,sL A rs]))(g:T 98 [W (!(b==nb)),sL A c] (Dk v))(h:T 98 [W b,sL A rs] (Dk w)):T 138 [Ao [W b,sL A xs],Ao [W nb,sL A a]] (A3 [M v,M w]):=Bc (fn:=iF AC Azm) j rfl 400 rfl [.r (Ae 1 (F (Af xs)) (A (Af xs))),.r (Ae 1 (F (Af a)) (A (Af a))),.r (A3 [sL A c,sL A rs]),.r (Dk v),.r (Dk w)] (Ff d e f g h)
def Zc:ICode:=a Aam 94 56
section
variable(x y:Rn)
def OE:Az:=L 4 (AH [W false,P 0 []]::AH [W x.1,P (F x.2) (A x.2)]::AH [W y.1,P (F y.2) (A y.2)]::L 20 [])
theorem Apm(q r:Int)(c1:((B4 (B y)) != 0)=true)(a:T 79 [AB y] (J X (B4 (B y))))(b:T 138 [AB x,AB y] (A3 [M q,M r])):Z Zc (OE x y) .norm (OE y (V r)):=Ab j [.r (J X (B4 (B y))),bT,.r (A3 [M q,M r])] Lm (Gy a c1 b)
theorem jP(c1:((B4 (B y)) != 0)=false)(a:T 79 [AB y] (J X (B4 (B y)))):Z Zc (OE x y) xZ0 (OE x y):=Ab j [.r (J X (B4 (B y))),bF] Lm (DH a c1)
end
theorem A4z(d nb:Bool)(xs c:G)(a b:Int)(x y:Rn)(e:T 98 [W false,sL A xs] (Dk a))(f:T 98 [W false,sL A c] (Dk b))(g:Z (.loop Zc) (OE (V a) (V b)) xZ0 (OE x y)):T 164 [Ao [W d,sL A xs],Ao [W nb,sL A c]] (AB x):=CQ Aam (L 4 (AH [W x.1,P (F x.2) (A x.2)]::L 22 [])) (As (Ag (Ab j [.r (Dk a),.r (Dk b)] Lm (DH e f)) (Ag (A7 g) (Ab j [] [4] a0))))
def oU:ICode:=a Aag 93 116
section
variable(rs:D)(w:Rn)(i:Int)
def Sr:Az:=C (sL S rs)::L 1 (AH [W false,P 0 []]::AH [W w.1,P (F w.2) (A w.2)]::N i::L 14 [])
theorem A5a(g:Int)(c1:E (i<F rs)=true)(a:0<=i/\i<F rs)(b:T 164 [AB w,AB (H rs (Y i) z0)] (M g)):Z oU (Sr rs w i) .norm (Sr rs (V g) (Q X (i+1))):=Ab j [bT,.v (AB (H rs (Y i) z0)),.r (M g)] Fy (FJ c1 a (BZ a) b)
theorem A5b(c1:E (i<F rs)=false):Z oU (Sr rs w i) xZ0 (Sr rs w i):=Ab j [bF] Fy (BO c1)
theorem A5c(c:Z (.loop oU) (Sr rs (false,[]) 0) xZ0 (Sr rs w i)):T 137 [sL S rs] (AB w):=CQ Aag (L 2 (AH [W w.1,P (F w.2) (A w.2)]::L 16 [])) (As (AA (Ag (Ab j [] Fy a0) (Ag (A7 c) (Ab j [] [2] a0)))))
end
def Ako:ICode:=a Aji 91 500
section
variable(rs:D)(c:Rn)(k:Nat)(cs:AK)(i:Int)
def Ym:Az:=C (sL S rs)::L 1 (Ak 2 0 []::AH [W c.1,P (F c.2) (A c.2)]::Ak 2 k cs::N i::L 28 [])
theorem AEa(q r:Int)(c1:E (i<F rs)=true)(a:0<=i/\i<F rs)(b:k+1<=1048576)(d:T 138 [AB (H rs (Y i) z0),AB c] (A3 [M q,M r])):Z Ako (Ym rs c k cs i) .norm (Ym rs c (k+1) (cs++([W (E (q<0)),sL A (o (I q))]:AK)) (Q X (i+1))):=Ab j [bT,.v (AB (H rs (Y i) z0)),.r (A3 [M q,M r])] JN (Gm c1 a (BZ a) d (show F ([W (E (q<0)),sL A (o (I q))]:AK)=1*2 from rfl) b)
theorem AEb(c1:E (i<F rs)=false):Z Ako (Ym rs c k cs i) xZ0 (Ym rs c k cs i):=Ab j [bF] JN (BO c1)
end
theorem Apn(rs:D)(c:Int)(c1:(B4 c==0)=true)(a:T 137 [sL S rs] (M c))(b:T 79 [M c] (J X (B4 c))):T 86 [sL S rs] (Ae 2 0 []):=CQ Aji (L 2 (Ak 2 0 []::L 31 [])) (As (As (As (AA (AG (Ab j [.r (M c),.r (J X (B4 c)),bT] [2] (Gy a b c1)))))))
theorem Apo(rs os ts:D)(c i:Int)(k:Nat)(c1:(B4 c==0)=false)(a:T 137 [sL S rs] (M c))(b:T 79 [M c] (J X (B4 c)))(d:Z (.loop Ako) (Ym rs (V c) 0 ([]:AK) 0) xZ0 (Ym rs (V c) k (S os) i))(e:T 46 [P k (S os)] (Ae 2 (F ts) (S ts))):T 86 [sL S rs] (Ae 2 (F ts) (S ts)):=CQ Aji (L 2 (Ak 2 (F ts) (S ts)::L 31 [])) (As (As (As (AA (Ag (Ab j [.r (M c),.r (J X (B4 c)),bF] JN (Gy a b c1)) (Ag (A7 d) (Ab j [.r (Ae 2 (F ts) (S ts))] [2] (BO e))))))))
def oV:ICode:=a Aaf 93 116
section
variable(rs:D)(k:Nat)(cs:AK)(i:Int)
def Ss:Az:=C (sL S rs)::L 1 (Ak 2 0 []::Ak 2 k cs::N i::L 18 [])
theorem A5d(c1:E (i<F rs)=true)(a:0<=i/\i<F rs)(b:k+1<=1048576)(c:T 49 [J X i] (M i))(d:T 96 [M i,AB (H rs (Y i) z0)] (M (i*B (H rs (Y i) z0)))):Z oV (Ss rs k cs i) .norm (Ss rs (k+1) (cs++([W (E ((i*B (H rs (Y i) z0))<0)),sL A (o (I (i*B (H rs (Y i) z0))))]:AK)) (Q X (i+1))):=Ab j [bT,.r (M i),.v (AB (H rs (Y i) z0)),.r (M (i*B (H rs (Y i) z0)))] Fy (GZ c1 c a (BZ a) d (show F ([W (E ((i*B (H rs (Y i) z0))<0)),sL A (o (I (i*B (H rs (Y i) z0))))]:AK)=1*2 from rfl) b)
theorem A5e(c1:E (i<F rs)=false):Z oV (Ss rs k cs i) xZ0 (Ss rs k cs i):=Ab j [bF] Fy (BO c1)
end
theorem A5f(rs os ts:D)(i:Int)(k:Nat)(a:Z (.loop oV) (Ss rs 0 ([]:AK) 1) xZ0 (Ss rs k (S os) i))(b:T 46 [P k (S os)] (Ae 2 (F ts) (S ts))):T 122 [sL S rs] (Ae 2 (F ts) (S ts)):=CQ Aaf (L 2 (Ak 2 (F ts) (S ts)::L 20 [])) (As (AA (Ag (Ab j [] Fy a0) (Ag (A7 a) (Ab j [.r (Ae 2 (F ts) (S ts))] [2] (BO b))))))
def oW:ICode:=a Aaj 93 116
section
variable(rs:D)(k:Nat)(cs:AK)(i:Int)
def St:Az:=C (sL S rs)::L 1 (Ak 2 0 []::Ak 2 k cs::N i::L 16 [])
theorem A5g(c1:E (i<F rs)=true)(a:0<=i/\i<F rs)(b:k+1<=1048576)(c:T 161 [AB (H rs (Y i) z0)] (M (-(B (H rs (Y i) z0))))):Z oW (St rs k cs i) .norm (St rs (k+1) (cs++([W (E ((-(B (H rs (Y i) z0)))<0)),sL A (o (I (-(B (H rs (Y i) z0)))))]:AK)) (Q X (i+1))):=Ab j [bT,.v (AB (H rs (Y i) z0)),.r (M (-(B (H rs (Y i) z0))))] Fy (Gm c1 a (BZ a) c (show F ([W (E ((-(B (H rs (Y i) z0)))<0)),sL A (o (I (-(B (H rs (Y i) z0)))))]:AK)=1*2 from rfl) b)
theorem A5h(c1:E (i<F rs)=false):Z oW (St rs k cs i) xZ0 (St rs k cs i):=Ab j [bF] Fy (BO c1)
end
theorem A5i(rs os ts:D)(i:Int)(k:Nat)(a:Z (.loop oW) (St rs 0 ([]:AK) 0) xZ0 (St rs k (S os) i))(b:T 46 [P k (S os)] (Ae 2 (F ts) (S ts))):T 153 [sL S rs] (Ae 2 (F ts) (S ts)):=CQ Aaj (L 2 (Ak 2 (F ts) (S ts)::L 18 [])) (As (AA (Ag (Ab j [] Fy a0) (Ag (A7 a) (Ab j [.r (Ae 2 (F ts) (S ts))] [2] (BO b))))))
theorem Aez(rs a:D)(c1:E ((F rs:Int)>0)=true)(c:E (B4 (B (H rs (Y (Q X (F rs-1))) z0))<0)=true)(b:0<=Q X (F rs-1)/\Q X (F rs-1)<(F rs:Int))(d:T 79 [AB (H rs (Y (Q X (F rs-1))) z0)] (J X (B4 (B (H rs (Y (Q X (F rs-1))) z0)))))(e:T 153 [sL S rs] (Ae 2 (F a) (S a))):T 120 [sL S rs] (Ae 2 (F a) (S a)):=Bc (fn:=iF AC mJ) j rfl 400 rfl [bT,.v (AB (H rs (Y (Q X (F rs-1))) z0)),.r (J X (B4 (B (H rs (Y (Q X (F rs-1))) z0)))),bT,.r (Ae 2 (F a) (S a))] (Gm c1 b (BZ b) d c e)
theorem Afa(rs:D)(c1:E ((F rs:Int)>0)=true)(b:E (B4 (B (H rs (Y (Q X (F rs-1))) z0))<0)=false)(a:0<=Q X (F rs-1)/\Q X (F rs-1)<(F rs:Int))(c:T 79 [AB (H rs (Y (Q X (F rs-1))) z0)] (J X (B4 (B (H rs (Y (Q X (F rs-1))) z0))))):T 120 [sL S rs] (sL S rs):=Bc (fn:=iF AC mJ) j rfl 400 rfl [bT,.v (AB (H rs (Y (Q X (F rs-1))) z0)),.r (J X (B4 (B (H rs (Y (Q X (F rs-1))) z0)))),bF] (Ff c1 a (BZ a) c b)
theorem Afb(rs:D)(c1:E ((F rs:Int)>0)=false):T 120 [sL S rs] (sL S rs):=Bc (fn:=iF AC mJ) j rfl 400 rfl [bF,bF] (DH c1 F9)
def Qv:ICode:=a mI 83 123636
section
variable(rs a:D)(t u:Rn)(q:Int)(k:Nat)(cs:AK)(i:Int)
def Ih:Az:=L 4 (Ak 2 0 []::C (sL S rs)::C (sL S a)::AH [W t.1,P (F t.2) (A t.2)]::AH [W u.1,P (F u.2) (A u.2)]::N q::Ak 2 k cs::N i::L 68 [])
theorem App(c1:E (i<Q X (F rs-1))=true)(d:E (i>=q)=true)(b:0<=i/\i<F rs)(c:0<=Q X (i-q)/\Q X (i-q)<(F a:Int))(e:k+1<=1048576)(f:T 96 [Ao [W false,P (F t.2) (A t.2)],AB (H rs (Y i) z0)] (M (B (false,t.2)*B (H rs (Y i) z0))))(g:T 96 [AB u,AB (H a (Y (Q X (i-q))) z0)] (M (B u*B (H a (Y (Q X (i-q))) z0))))(h:T 129 [M (B (false,t.2)*B (H rs (Y i) z0)),M (B u*B (H a (Y (Q X (i-q))) z0))] (M ((B (false,t.2)*B (H rs (Y i) z0))-(B u*B (H a (Y (Q X (i-q))) z0))))):Z Qv (Ih rs a t u q k cs i) .norm (Ih rs a t u q (k+1) (cs++([W (E (((B (false,t.2)*B (H rs (Y i) z0))-(B u*B (H a (Y (Q X (i-q))) z0)))<0)),sL A (o (I ((B (false,t.2)*B (H rs (Y i) z0))-(B u*B (H a (Y (Q X (i-q))) z0)))))]:AK)) (Q X (i+1))):=Ab j [bT,.v (AB (H rs (Y i) z0)),.r (M (B (false,t.2)*B (H rs (Y i) z0))),bT,.v (AB (H a (Y (Q X (i-q))) z0)),.r (M (B u*B (H a (Y (Q X (i-q))) z0))),.r (M ((B (false,t.2)*B (H rs (Y i) z0))-(B u*B (H a (Y (Q X (i-q))) z0))))] RJ (IU c1 b (BZ b) f d c (BZ c) g h (show F ([W (E (((B (false,t.2)*B (H rs (Y i) z0))-(B u*B (H a (Y (Q X (i-q))) z0)))<0)),sL A (o (I ((B (false,t.2)*B (H rs (Y i) z0))-(B u*B (H a (Y (Q X (i-q))) z0)))))]:AK)=1*2 from rfl) e)
theorem Apq(c1:E (i<Q X (F rs-1))=true)(d:E (i>=q)=false)(b:0<=i/\i<F rs)(c:k+1<=1048576)(e:T 96 [Ao [W false,P (F t.2) (A t.2)],AB (H rs (Y i) z0)] (M (B (false,t.2)*B (H rs (Y i) z0)))):Z Qv (Ih rs a t u q k cs i) .norm (Ih rs a t u q (k+1) (cs++([W (E ((B (false,t.2)*B (H rs (Y i) z0))<0)),sL A (o (I (B (false,t.2)*B (H rs (Y i) z0))))]:AK)) (Q X (i+1))):=Ab j [bT,.v (AB (H rs (Y i) z0)),.r (M (B (false,t.2)*B (H rs (Y i) z0))),bF] RJ (GZ c1 b (BZ b) e d (show F ([W (E ((B (false,t.2)*B (H rs (Y i) z0))<0)),sL A (o (I (B (false,t.2)*B (H rs (Y i) z0))))]:AK)=1*2 from rfl) c)
theorem Aps(c1:E (i<Q X (F rs-1))=false):Z Qv (Ih rs a t u q k cs i) xZ2 (Ih rs a t u q k cs i):=Ab j [bF] RJ (BO c1)
end
def Xf:ICode:=a mI 93 120
section
variable(rs a:D)(t:Rn)
def M9:Az:=L 4 (Ak 2 0 []::C (sL S rs)::C (sL S a)::AH [W t.1,P (F t.2) (A t.2)]::L 72 [])
theorem A5j(os ts xs:D)(k:Nat)(i:Int)(c1:E ((F rs:Int)>=(F a:Int))=true)(c:E (B4 (B t)<0)=true)(b:0<=Q X (F rs-1)/\Q X (F rs-1)<(F rs:Int))(d:T 79 [AB t] (J X (B4 (B t))))(f:T 161 [AB (H rs (Y (Q X (F rs-1))) z0)] (M (-(B (H rs (Y (Q X (F rs-1))) z0)))))(g:Z (.loop Qv) (Ih rs a t (V (-(B (H rs (Y (Q X (F rs-1))) z0)))) (Q X (F rs-F a)) 0 ([]:AK) 0) xZ2 (Ih rs a t (V (-(B (H rs (Y (Q X (F rs-1))) z0)))) (Q X (F rs-F a)) k (S os) i))(e:T 46 [P k (S os)] (Ae 2 (F ts) (S ts)))(h:T 86 [sL S ts] (Ae 2 (F xs) (S xs))):Z Xf (M9 rs a t) .norm (M9 xs a t):=Ag (Ab (t:=L 4 (Ak 2 0 []::vp rs::vp a::bR t::L 72 [])) j [bT] WF (BO c1)) (Bo (As (As (As (AA (Ag (Ab j [.v (AB (H rs (Y (Q X (F rs-1))) z0)),.r (J X (B4 (B t))),bT,.r (M (-(B (H rs (Y (Q X (F rs-1))) z0))))] RJ (Ff b (BZ b) d c f)) (Ag (A7 g) (Ab j [.r (Ae 2 (F ts) (S ts)),.r (Ae 2 (F xs) (S xs))] WF (DH e h)))))))))
theorem A5k(os ts xs:D)(k:Nat)(i:Int)(c1:E ((F rs:Int)>=(F a:Int))=true)(c:E (B4 (B t)<0)=false)(b:0<=Q X (F rs-1)/\Q X (F rs-1)<(F rs:Int))(d:T 79 [AB t] (J X (B4 (B t))))(l:Z (.loop Qv) (Ih rs a t (H rs (Y (Q X (F rs-1))) z0) (Q X (F rs-F a)) 0 ([]:AK) 0) xZ2 (Ih rs a t (H rs (Y (Q X (F rs-1))) z0) (Q X (F rs-F a)) k (S os) i))(m:T 46 [P k (S os)] (Ae 2 (F ts) (S ts)))(e:T 86 [sL S ts] (Ae 2 (F xs) (S xs))):Z Xf (M9 rs a t) .norm (M9 xs a t):=Ag (Ab (t:=L 4 (Ak 2 0 []::vp rs::vp a::bR t::L 72 [])) j [bT] WF (BO c1)) (Bo (As (As (As (AA (Ag (Ab j [.v (AB (H rs (Y (Q X (F rs-1))) z0)),.r (J X (B4 (B t))),bF] RJ (FJ b (BZ b) d c)) (Ag (A7 l) (Ab j [.r (Ae 2 (F ts) (S ts)),.r (Ae 2 (F xs) (S xs))] WF (DH m e)))))))))
theorem vO(c1:E ((F rs:Int)>=(F a:Int))=false):Z Xf (M9 rs a t) xZ0 (M9 rs a t):=AG (Ab j [bF] WF (BO c1))
end
theorem A5l(rs ss ps a us:D)(t:Rn)(c:T 86 [sL S rs] (Ae 2 (F ps) (S ps)))(d:T 46 [sL S ss] (Ae 2 (F a) (S a)))(b:0<=Q X (F a-1)/\Q X (F a-1)<(F a:Int))(e:Z (.loop Xf) (M9 ps a (H a (Y (Q X (F a-1))) z0)) xZ0 (M9 us a t)):T 119 [sL S rs,sL S ss] (sL S us):=CQ mI (L 4 (C (sL S us)::L 75 [])) (As (As (Ag (Ab j [.r (Ae 2 (F ps) (S ps)),.r (Ae 2 (F a) (S a)),.v (AB (H a (Y (Q X (F a-1))) z0))] WF (FJ c d b (BZ b))) (Ag (A7 e) (Ab j [] [4] a0)))))
def Xg:ICode:=a Aje 94 56
section
variable(a bs:D)
def MA:Az:=L 4 (Ak 2 0 []::C (sL S a)::C (sL S bs)::L 15 [])
theorem vP(us:D)(c1:E ((F bs:Int)>0)=true)(b:T 119 [sL S a,sL S bs] (sL S us)):Z Xg (MA a bs) .norm (MA bs us):=Ab j [bT,.r (sL S us)] Lm (DH c1 b)
theorem vQ(c1:E ((F bs:Int)>0)=false):Z Xg (MA a bs) xZ0 (MA a bs):=Ab j [bF] Lm (BO c1)
end
theorem Apt(rs ss ps a b bs ts:D)(c:T 86 [sL S rs] (Ae 2 (F ps) (S ps)))(d:T 86 [sL S ss] (Ae 2 (F a) (S a)))(e:Z (.loop Xg) (MA ps a) xZ0 (MA b bs))(f:T 120 [sL S b] (Ae 2 (F ts) (S ts))):T 70 [sL S rs,sL S ss] (Ae 2 (F ts) (S ts)):=CQ Aje (L 4 (Ak 2 (F ts) (S ts)::L 17 [])) (As (Ag (Ab j [.r (Ae 2 (F ps) (S ps)),.r (Ae 2 (F a) (S a))] Lm (DH c d)) (Ag (A7 e) (Ab j [.r (Ae 2 (F ts) (S ts))] [4] (BO f)))))
theorem Apu(rs ss ps b a bs:D)(c:T 86 [sL S rs] (Ae 2 (F ps) (S ps)))(d:T 86 [sL S ss] (Ae 2 (F b) (S b)))(e:Z (.loop Xg) (MA ps b) xZ0 (MA a bs))(f:T 120 [sL S a] (sL S a)):T 70 [sL S rs,sL S ss] (sL S a):=CQ Aje (L 4 (C (sL S a)::L 17 [])) (As (Ag (Ab j [.r (Ae 2 (F ps) (S ps)),.r (Ae 2 (F b) (S b))] Lm (DH c d)) (Ag (A7 e) (Ab j [.r (sL S a)] [4] (BO f)))))
def VP:ICode:=a Z8 84 63668
section
variable(rs a:D)(t:Rn)(k:Nat)(os:D)(u:Rn)(q i:Int)
def LU:Az:=L 4 (Ak 2 0 []::C (sL S rs)::C (sL S a)::AH [W t.1,P (F t.2) (A t.2)]::Ak 2 k (S os)::AH [W u.1,P (F u.2) (A u.2)]::N q::N i::L 91 [])
theorem Apv(c1:E (i<k)=true)(b:0<=i/\i<k)(c:F os=k)(d:T 96 [AB (H os (Y i) z0),AB t] (M (B (H os (Y i) z0)*B t))):Z VP (LU rs a t k os u q i) .norm (LU rs a t k (os.set (Y i) (V (B (H os (Y i) z0)*B t))) u q (Q X (i+1))):=Ab j [bT,.v (AB (H os (Y i) z0)),.r (M (B (H os (Y i) z0)*B t)),.l (S (os.set (Y i) (V (B (H os (Y i) z0)*B t))))] RJ (Gm c1 b (GH c b) d b (HJ (r:=V (B (H os (Y i) z0)*B t)) c b))
theorem Apw(c1:E (i<k)=false):Z VP (LU rs a t k os u q i) xZ2 (LU rs a t k os u q i):=Ab j [bF] RJ (BO c1)
end
def Tk:ICode:=a Z8 81 509428
section
variable(rs a:D)(t:Rn)(k:Nat)(os:D)(u:Rn)(q:Int)(m:Nat)(cs:AK)(i:Int)
def Jn:Az:=L 4 (Ak 2 0 []::C (sL S rs)::C (sL S a)::AH [W t.1,P (F t.2) (A t.2)]::Ak 2 k (S os)::AH [W u.1,P (F u.2) (A u.2)]::N q::L 1 (Ak 2 m cs::N i::L 89 []))
theorem Apx(c1:E (i<Q X (F rs-1))=true)(d:E (i>=q)=true)(b:0<=i/\i<F rs)(c:0<=Q X (i-q)/\Q X (i-q)<(F a:Int))(e:m+1<=1048576)(f:T 96 [AB t,AB (H rs (Y i) z0)] (M (B t*B (H rs (Y i) z0))))(g:T 96 [AB u,AB (H a (Y (Q X (i-q))) z0)] (M (B u*B (H a (Y (Q X (i-q))) z0))))(h:T 129 [M (B t*B (H rs (Y i) z0)),M (B u*B (H a (Y (Q X (i-q))) z0))] (M ((B t*B (H rs (Y i) z0))-(B u*B (H a (Y (Q X (i-q))) z0))))):Z Tk (Jn rs a t k os u q m cs i) .norm (Jn rs a t k os u q (m+1) (cs++([W (E (((B t*B (H rs (Y i) z0))-(B u*B (H a (Y (Q X (i-q))) z0)))<0)),sL A (o (I ((B t*B (H rs (Y i) z0))-(B u*B (H a (Y (Q X (i-q))) z0)))))]:AK)) (Q X (i+1))):=Ab j [bT,.v (AB (H rs (Y i) z0)),.r (M (B t*B (H rs (Y i) z0))),bT,.v (AB (H a (Y (Q X (i-q))) z0)),.r (M (B u*B (H a (Y (Q X (i-q))) z0))),.r (M ((B t*B (H rs (Y i) z0))-(B u*B (H a (Y (Q X (i-q))) z0))))] mY (IU c1 b (BZ b) f d c (BZ c) g h (show F ([W (E (((B t*B (H rs (Y i) z0))-(B u*B (H a (Y (Q X (i-q))) z0)))<0)),sL A (o (I ((B t*B (H rs (Y i) z0))-(B u*B (H a (Y (Q X (i-q))) z0)))))]:AK)=1*2 from rfl) e)
theorem Apy(c1:E (i<Q X (F rs-1))=true)(d:E (i>=q)=false)(b:0<=i/\i<F rs)(c:m+1<=1048576)(e:T 96 [AB t,AB (H rs (Y i) z0)] (M (B t*B (H rs (Y i) z0)))):Z Tk (Jn rs a t k os u q m cs i) .norm (Jn rs a t k os u q (m+1) (cs++([W (E ((B t*B (H rs (Y i) z0))<0)),sL A (o (I (B t*B (H rs (Y i) z0))))]:AK)) (Q X (i+1))):=Ab j [bT,.v (AB (H rs (Y i) z0)),.r (M (B t*B (H rs (Y i) z0))),bF] mY (GZ c1 b (BZ b) e d (show F ([W (E ((B t*B (H rs (Y i) z0))<0)),sL A (o (I (B t*B (H rs (Y i) z0))))]:AK)=1*2 from rfl) c)
theorem Apz(c1:E (i<Q X (F rs-1))=false):Z Tk (Jn rs a t k os u q m cs i) xZ4 (Jn rs a t k os u q m cs i):=Ab j [bF] mY (BO c1)
end
def oX:ICode:=a Z8 92 248
section
variable(rs a:D)(t:Rn)(k:Nat)(os:D)
def UD:Az:=L 4 (Ak 2 0 []::C (sL S rs)::C (sL S a)::AH [W t.1,P (F t.2) (A t.2)]::Ak 2 k (S os)::L 94 [])
theorem A5m(b c ts:D)(m:Nat)(f g:Int)(c1:E ((F rs:Int)>=(F a:Int))=true)(d:0<=Q X (F rs-1)/\Q X (F rs-1)<(F rs:Int))(h:Z (.loop VP) (LU rs a t k os (H rs (Y (Q X (F rs-1))) z0) (Q X (F rs-F a)) 0) xZ2 (LU rs a t k b (H rs (Y (Q X (F rs-1))) z0) (Q X (F rs-F a)) f))(e:0<=Q X (F rs-F a)/\Q X (F rs-F a)<(k:Int))(i:F b=k)(n:Z (.loop Tk) (Jn rs a t k (b.set (Y (Q X (F rs-F a))) (H rs (Y (Q X (F rs-1))) z0)) (H rs (Y (Q X (F rs-1))) z0) (Q X (F rs-F a)) 0 ([]:AK) 0) xZ4 (Jn rs a t k (b.set (Y (Q X (F rs-F a))) (H rs (Y (Q X (F rs-1))) z0)) (H rs (Y (Q X (F rs-1))) z0) (Q X (F rs-F a)) m (S c) g))(o:T 46 [P m (S c)] (Ae 2 (F ts) (S ts))):Z oX (UD rs a t k os) .norm (UD ts a t k (b.set (Y (Q X (F rs-F a))) (H rs (Y (Q X (F rs-1))) z0))):=Ag (Ab (t:=L 4 (Ak 2 0 []::vp rs::vp a::bR t::Ak 2 k (S os)::L 94 [])) j [bT] nA (BO c1)) (Bo (As (AA (Ag (Ab j [.v (AB (H rs (Y (Q X (F rs-1))) z0))] RJ (DH d (BZ d))) (Ag (A7 h) (As (AA (Ag (Ab j [.l (S (b.set (Y (Q X (F rs-F a))) (H rs (Y (Q X (F rs-1))) z0)))] mY (DH e (HJ (r:=H rs (Y (Q X (F rs-1))) z0) i e))) (Ag (A7 n) (Ab j [.r (Ae 2 (F ts) (S ts))] nA (BO o)))))))))))
theorem vR(c1:E ((F rs:Int)>=(F a:Int))=false):Z oX (UD rs a t k os) xZ0 (UD rs a t k os):=AG (Ab j [bF] nA (BO c1))
end
theorem A5n(rs ss ps a xs os us ts:D)(t:Rn)(k:Nat)(c:T 46 [sL S rs] (Ae 2 (F ps) (S ps)))(d:T 46 [sL S ss] (Ae 2 (F a) (S a)))(b:0<=Q X (F a-1)/\Q X (F a-1)<(F a:Int))(e:0<=Q X (Q X (F ps-F a)+1)/\Q X (Q X (F ps-F a)+1)<=1048576)(f:Z (.loop oX) ((L 4 (Ak 2 0 []::C (sL S ps)::C (sL S a)::AH [W ((H a (Y (Q X (F a-1))) z0).1),sL A ((H a (Y (Q X (F a-1))) z0).2)]::Ak 2 (Y (Q X (Q X (F ps-F a)+1))) (C_ [W false,P 0 []] (Y (Q X (Q X (F ps-F a)+1))))::L 94 []))) xZ0 (UD xs a t k os))(g:T 46 [P k (S os)] (Ae 2 (F ts) (S ts)))(h:T 86 [sL S ts] (Ae 2 (F us) (S us)))(i:T 120 [sL S us] (sL S us)):T 123 [sL S rs,sL S ss] (sL S us):=CQ Z8 (L 4 (C (sL S us)::L 98 [])) (As (As (As (Ag (Ab j [.r (Ae 2 (F ps) (S ps)),.r (Ae 2 (F a) (S a)),.v (AB (H a (Y (Q X (F a-1))) z0))] nA (Ff c d b (BZ b) e)) (Ag (A7 f) (Ab j [.r (Ae 2 (F ts) (S ts)),.r (Ae 2 (F us) (S us)),.r (sL S us)] [4] (Gy g h i)))))))
theorem oY(rs ps xs:D)(c1:E ((F xs:Int)<=1)=true)(a:T 86 [sL S rs] (Ae 2 (F ps) (S ps)))(b:T 120 [sL S ps] (Ae 2 (F xs) (S xs))):T 73 [sL S rs] (sL S xs):=Bc (fn:=iF AC Z6) j rfl 400 rfl [.r (Ae 2 (F ps) (S ps)),.r (Ae 2 (F xs) (S xs)),bT] (Gy a b c1)
theorem oZ(rs ps xs a b us:D)(c1:E ((F xs:Int)<=1)=false)(c:T 86 [sL S rs] (Ae 2 (F ps) (S ps)))(d:T 120 [sL S ps] (Ae 2 (F xs) (S xs)))(e:T 122 [sL S xs] (Ae 2 (F a) (S a)))(f:T 70 [sL S xs,sL S a] (Ae 2 (F b) (S b)))(g:T 123 [sL S xs,sL S b] (sL S us)):T 73 [sL S rs] (sL S us):=Bc (fn:=iF AC Z6) j rfl 400 rfl [.r (Ae 2 (F ps) (S ps)),.r (Ae 2 (F xs) (S xs)),bF,.r (Ae 2 (F a) (S a)),.r (Ae 2 (F b) (S b)),.r (sL S us)] (Gm c d c1 e f g)
theorem pC(rs ps xs a b us:D)(c1:E ((F xs:Int)<=1)=false)(c:T 86 [sL S rs] (Ae 2 (F ps) (S ps)))(d:T 120 [sL S ps] (Ae 2 (F xs) (S xs)))(e:T 122 [sL S xs] (Ae 2 (F a) (S a)))(f:T 70 [sL S xs,sL S a] (sL S b))(g:T 123 [sL S xs,sL S b] (sL S us)):T 73 [sL S rs] (sL S us):=Bc (fn:=iF AC Z6) j rfl 400 rfl [.r (Ae 2 (F ps) (S ps)),.r (Ae 2 (F xs) (S xs)),bF,.r (Ae 2 (F a) (S a)),.r (sL S b),.r (sL S us)] (Gm c d c1 e f g)
theorem pD(rs ps a b us:D)(c1:E ((F ps:Int)<=1)=false)(c:T 86 [sL S rs] (Ae 2 (F ps) (S ps)))(d:T 120 [sL S ps] (sL S ps))(e:T 122 [sL S ps] (Ae 2 (F a) (S a)))(f:T 70 [sL S ps,sL S a] (Ae 2 (F b) (S b)))(g:T 123 [sL S ps,sL S b] (sL S us)):T 73 [sL S rs] (sL S us):=Bc (fn:=iF AC Z6) j rfl 400 rfl [.r (Ae 2 (F ps) (S ps)),.r (sL S ps),bF,.r (Ae 2 (F a) (S a)),.r (Ae 2 (F b) (S b)),.r (sL S us)] (Gm c d c1 e f g)
theorem pF(rs ps:D)(c1:E ((F ps:Int)<=1)=true)(a:T 86 [sL S rs] (Ae 2 (F ps) (S ps)))(b:T 120 [sL S ps] (sL S ps)):T 73 [sL S rs] (sL S ps):=Bc (fn:=iF AC Z6) j rfl 400 rfl [.r (Ae 2 (F ps) (S ps)),.r (sL S ps),bT] (Gy a b c1)
theorem pG(rs ps a b us:D)(c1:E ((F ps:Int)<=1)=false)(c:T 86 [sL S rs] (Ae 2 (F ps) (S ps)))(d:T 120 [sL S ps] (sL S ps))(e:T 122 [sL S ps] (Ae 2 (F a) (S a)))(f:T 70 [sL S ps,sL S a] (sL S b))(g:T 123 [sL S ps,sL S b] (sL S us)):T 73 [sL S rs] (sL S us):=Bc (fn:=iF AC Z6) j rfl 400 rfl [.r (Ae 2 (F ps) (S ps)),.r (sL S ps),bF,.r (Ae 2 (F a) (S a)),.r (sL S b),.r (sL S us)] (Gm c d c1 e f g)
theorem Afc(a b q r:Int)(g:q=(I a:Int) / (I b:Int))(hr:r=(I a:Int) % (I b:Int)) :
  (if (!(decide (a<0)==decide (b<0)))=true then -q else q)=AF a b/\(if decide (a<0)=true then -r else r)=Bl a b:=by
 subst g hr;have e:(0:Int)<=(I a:Int):=by omega
 by_cases f:a<0 <;> by_cases hb:b<0
 ·have c:a = -(I a:Int):=by omega
  have d:b = -(I b:Int):=by omega
  have h1:AF a b=(I a:Int) / (I b:Int):=by
   rw[<- Cu e];conv=>lhs;rw[c,d,Axs,Axt,Int.neg_neg]
  have h2:Bl a b = -((I a:Int) % (I b:Int)):=by
   rw[<- BY e];conv=>lhs;rw[c,d,Axu,Axv]
  rw[h1,h2,BP f,BP hb];simp
 ·have c:a = -(I a:Int):=by omega
  have d:b=(I b:Int):=by omega
  have h1:AF a b = -((I a:Int) / (I b:Int)):=by
   rw[<- Cu e];conv=>lhs;rw[c,d,Axs]
  have h2:Bl a b = -((I a:Int) % (I b:Int)):=by
   rw[<- BY e];conv=>lhs;rw[c,d,Axu]
  rw[h1,h2,BP f,Bw hb];simp
 ·have c:a=(I a:Int):=by omega
  have d:b = -(I b:Int):=by omega
  have h1:AF a b = -((I a:Int) / (I b:Int)):=by
   rw[<- Cu e];conv=>lhs;rw[c,d,Axt]
  have h2:Bl a b=(I a:Int) % (I b:Int):=by
   rw[<- BY e];conv=>lhs;rw[c,d,Axv]
  rw[h1,h2,Bw f,BP hb];simp
 ·have c:a=(I a:Int):=by omega
  have d:b=(I b:Int):=by omega
  have h1:AF a b=(I a:Int) / (I b:Int):=by
   rw[<- Cu e];conv=>lhs;rw[c,d]
  have h2:Bl a b=(I a:Int) % (I b:Int):=by
   rw[<- BY e];conv=>lhs;rw[c,d]
  rw[h1,h2,Bw f,Bw hb];simp
theorem Tl{na nb:Bool}{xs ys:G}(hx:B9 xs)(hy:B9 ys)(t:v nb ys ≠ 0)(h1:F xs<1048576)(h2:F ys<1048576) :
  T 158 [Ao [W na,sL A xs],Ao [W nb,sL A ys]] (A3 [M (AF (v na xs) (v nb ys)),M (Bl (v na xs) (v nb ys))]):=by
 have u:=Gc (neg:=na) hx;have w:=Gc (neg:=nb) hy;have g:=EE (neg:=na) hx (by omega);have h:=EE (neg:=nb) hy (by omega);generalize v na xs=a at *
 generalize v nb ys=b at *
 have i:o (I b) ≠ []:=by rw[Ne,Lp];omega
 obtain⟨c,rs,j,k,l,m,d,e,n⟩:=fH (Da (I a)) (Da (I b)) i (by omega) (by omega);rw[Do,Do] at d e;obtain⟨p,q⟩:=Afc a b _ _ d e;have m1:=Ge (neg := !(decide (a<0)==decide (b<0))) j l;have f:=Ge (neg:=decide (a<0)) k m;have r:v (!(decide (a<0)==decide (b<0))) c=AF a b:=p;have s:v (E (a<0)) rs=Bl a b:=q;rw[r] at m1;rw[s] at f;exact A3v na nb _ _ xs ys _ _ c rs _ _ g h n m1 f
theorem Yn{n:Nat}{b:Bool}(h:F (o n)<=2):T 183 [Ao [W b,sL A (o n)]] (J R (n:Nat)):=by
 have a:=CB n;have hv:=Do n;generalize p:o n=xs at *
 have g:=Et (prog:=DP) (c:=oM) (ex := .exit 0) (fin:=Sl xs (n:Nat) (F xs:Nat) (F xs:Nat))
  (fun i=>Sl xs (An (xs.take i)) (F xs:Nat) (i:Nat)) (F xs) (by nofun) ?_ ?_ 0 (A_ _)
 ·exact A3y b xs (n:Nat) (F xs:Nat) (F xs:Nat) (by simpa [An] using g)
 ·intro i hi;have j:Q X (i+1)=((i+1:Nat):Int):=wrz
  have d:Q R (Q X (32*i))=((32*i:Nat):Int):=by rw[wqz,D9 (by omega)];omega
  have l:min (Y ((32*i:Nat))) (A5 .u64)=32*i:=by rw[Aa];show min (32*i) 64=32*i;omega
  have e:=Bn a i;have k:=A3w xs (An (xs.take i)) (F xs:Nat) (i:Nat) (by simp;omega) (by omega) (by rw[d];omega);rw[j,d,l,Aa,D9 (n:=H xs i 0) (by omega)] at k;have hp:H xs i 0*2^(32*i)<18446744073709551616:=by
   have:=Iq (show 32*i<=32 by omega);rw[show (2:Int)^32=4294967296 by decide] at this;have:=Fk (show H xs i 0<=4294967295 by omega) this (by have:=CA (32*i);omega) (by omega);omega
  have m:=A8 e.1 (show (0:Int)<=2^(32*i) by have:=CA (32*i);omega);have f:=HK a i;rw[Qq] at f;rw[D9 ⟨m,hp⟩,YC,A2i e.1 hp (by omega) ⟨BK (EZ a i),f⟩] at k;refine k.to rfl ?_;rw[Fc xs i hi,Qq];congr 1;rw[AT];omega
 ·rw[DV,hv];exact A3x xs (n:Nat) (F xs:Nat) (F xs:Nat) (by simp)
theorem pH:∀ (f a b:Nat),b<=f->Z (.loop oN) (Sm (a:Nat) (b:Nat)) xZ0 (Sm (FO a b:Nat) 0):=by
 intro f;induction f with
 | zero =>
  intro a b hb;have:b=0:=by omega
  subst this;rw[Gw];exact Aq (uZ _ _ (by simp))
 | succ f c =>
  intro a b hb;by_cases d:b=0
  ·subst d;rw[Gw];exact Aq (uZ _ _ (by simp))
  ·have k:=A4a (a:Nat) (b:Nat) (by simp;omega) (by omega);rw[BY (by omega),<- A5o] at k;have e:=IV a (show 0<b by omega);have:=c b (a % b) (by omega);rw[Ji b,<- yT,Ji b a] at this;exact Bk k this
theorem Akp{n:Nat}(h:F (o n)<=2):(n:Int)<18446744073709551616:=by
 have h1:=EP (CB n);rw[Do] at h1;have h2:=HT h;rw[show (4294967296:Int)^2=18446744073709551616 by decide] at h2;omega
theorem vS{n:Nat}(h:(n:Int)<18446744073709551616):T 181 [J R (n:Nat)] (M (n:Nat)):=by
 obtain⟨h1,h2⟩:=P7 (u:=(n:Nat)) (by omega);have m:=Ge (neg:=false) h1 (by simp);have e:v false [Q U n,Q U (d (n:Int) (2^(min (Y 32) (A5 .u64))))]=(n:Nat):=h2;rw[e] at m;exact A3z (n:Nat) _ m
theorem AEc(n:Nat):V (n:Nat)=(false,o n):=by
 unfold V;rw[C9,Bw (by omega)]
theorem MB(n:Nat):F (V (n:Nat)).2=F (o n):=by rw [AEc]
theorem Aqa{K:Nat}(A:K<1048576):∀ (f a b:Nat),b<=f->u K (a:Nat)->u K (b:Nat) ->
  (∃ y z,Z (.loop Qs) (I7 (V (a:Nat)) (V (b:Nat)) (false,[])) xZ0 (I7 (V (FO a b:Nat)) y z)) \/
  (∃ x y,Z (.loop Qs) (I7 (V (a:Nat)) (V (b:Nat)) (false,[])) .ret (I7 x y (V (FO a b:Nat)))):=by
 intro f;induction f with
 | zero =>
  intro a b hb _ _;have:b=0:=by omega
  subst this;rw[Gw];exact Alo ⟨_,_,Aq (vA _ _ _ (by rw[MB];rfl))⟩
 | succ f i =>
  intro a b hb j c;by_cases g:b=0
  ·subst g;rw[Gw];exact Alo ⟨_,_,Aq (vA _ _ _ (by rw[MB];rfl))⟩
  ·have C:0<F (o b):=Av.2 (by rw[Ne,Lp];exact g);have l:=j.len;have m:=c.len;rw[C9] at l m;by_cases h2:F (o a)<=2/\F (o b)<=2
   ·right;have D:=Akp h2.1;have E:=Akp h2.2;have n:(FO a b:Int)<18446744073709551616:=by
     have:=V4 (by omega) (Nat.gcd_dvd_right a b);omega
    have p:=Yn (b:=(V (a:Nat)).1) h2.1;have q:=Yn (b:=(V (b:Nat)).1) h2.2;have r:=A4b (a:Nat) (b:Nat) _ _ (pH b a b (A2 _));have s:=vS n;have k:=A4c (V (a:Nat)) (V (b:Nat)) (false,[]) (a:Nat) (b:Nat) (FO a b:Nat) (FO a b:Nat) (by rw[MB];simp;omega) (by rw[MB];simp;omega) (by rw[MB];simp;omega) p q r s;exact⟨_,_,Aq k⟩
   ·have d:=Tl (na:=(V (a:Nat)).1) (nb:=(V (b:Nat)).1) (xs:=(V (a:Nat)).2) (ys:=(V (b:Nat)).2) (CB _) (CB _) (by have:=AO (b:Nat);unfold B at this;rw[this];omega) (by rw[MB];omega) (by rw[MB];omega);rw[show v (V (a:Nat)).1 (V (a:Nat)).2=(a:Nat) from AO _,show v (V (b:Nat)).1 (V (b:Nat)).2=(b:Nat) from AO _,BY (by omega),<- A5o] at d;have t:=IV a (show 0<b by omega);have step:Z Qs (I7 (V (a:Nat)) (V (b:Nat)) (false,[])) .norm (I7 (V (b:Nat)) (V ((a % b:Nat))) (false,[])):=by
     by_cases G:F (o a)<=2
     ·exact A4d (V (a:Nat)) (V (b:Nat)) (false,[]) _ _ (by rw[MB];simp;omega) (by rw[MB];simp;omega) (by rw[MB];simp;omega) d
     ·exact A4e (V (a:Nat)) (V (b:Nat)) (false,[]) _ _ (by rw[MB];simp;omega) (by rw[MB];simp;omega) d
    have w:u K ((a % b:Nat)):=by
     unfold u at *
     rw[C9] at *
     exact Ey (Abm t) c
    have e:FO b (a % b)=FO a b:=by rw[Ji b,<- yT,Ji b a]
    rcases i b (a % b) (by omega) c w with ⟨y,z,h⟩ | ⟨x,y,h⟩
    ·rw[e] at h;exact Alo ⟨y,z,Bk step h⟩
    ·rw[e] at h;exact TQ ⟨x,y,Bk step h⟩
theorem jQ{na nb:Bool}{xs ys:G}(hx:B9 xs)(hy:B9 ys)(h1:F xs<1048576)(h2:F ys<1048576) :
  T 159 [Ao [W na,sL A xs],Ao [W nb,sL A ys]] (M (Ed (v na xs) (v nb ys):Nat)):=by
 have a:=Xd (neg:=na) hx (by omega);have b:=Xd (neg:=nb) hy (by omega);have c:=ZM (neg:=na) hx;have d:=ZM (neg:=nb) hy;have e:u (max (F xs) (F ys)) (I (v na xs)):=by
  unfold u at *;rw[C9];exact Dg c (B_ (by decide) (by omega))
 have f:u (max (F xs) (F ys)) (I (v nb ys)):=by
  unfold u at *;rw[C9];exact Dg d (B_ (by decide) (by omega))
 rcases Aqa (K:=max (F xs) (F ys)) (by omega) _ _ _ (A2 _) e f with ⟨y,z,h⟩ | ⟨x,y,h⟩
 ·exact Adm na nb xs ys _ _ _ _ _ a b h
 ·exact Adn na nb xs ys _ _ _ _ _ a b h
def TQE:Dd:=TQD
theorem DM:CT DP TQE:=Adr
def vT:ICode:=a Ayv 94 56
section
variable(a:Nat)(cs:AK)(i:Int)
def TW:Az:=C (P a cs)::L 1 (N 0::N i::L 16 [])
theorem AEd(r:Rn)(v:Int)(c1:E (i>=0)=true)(b:(v==0)=true)(c:0<=i/\i<a)(d:BQ (AL (Y i*2) cs) 0 2 false=some (Ao [W r.1,P (F r.2) (A r.2)]))(f:T 101 [Ao [W r.1,P (F r.2) (A r.2)]] (J X v)):Z vT (TW a cs i) .norm (TW a cs (Q X (i-1))):=e CH 300 [bT,.v (Ao [W r.1,P (F r.2) (A r.2)]),.r (J X v),bT] IC (Ff c1 c d f b) (by kernel_rfl)
theorem AEe(r:Rn)(v:Int)(c1:E (i>=0)=true)(b:(v==0)=false)(c:0<=i/\i<a)(d:BQ (AL (Y i*2) cs) 0 2 false=some (Ao [W r.1,P (F r.2) (A r.2)]))(f:T 101 [Ao [W r.1,P (F r.2) (A r.2)]] (J X v)):Z vT (TW a cs i) xZ0 (TW a cs i):=e CH 300 [bT,.v (Ao [W r.1,P (F r.2) (A r.2)]),.r (J X v),bF] IC (Ff c1 c d f b) (by kernel_rfl)
theorem AEf(c1:E (i>=0)=false):Z vT (TW a cs i) xZ0 (TW a cs i):=e CH 300 [bF,bF] IC (DH c1 F9) (by kernel_rfl)
end
theorem jR{n:Int}:B4 n=0↔n=0:=by unfold B4;split <;> (try split) <;> omega
theorem A5p(rs:D)(c:∀ r∈rs,BC 1048576 r)(f:F rs<=1048576):∀ m,m<=F rs->Z (.loop vT) (TW (F rs) (S rs) (m-1)) xZ0 (TW (F rs) (S rs) (p (Al rs) m-1)):=by
 intro m;induction m with
 | zero =>
  intro _;exact Aq (AEf (F rs) (S rs) ((0:Nat)-1) (by simp))
 | succ m d =>
  intro g;have e0:((m+1:Nat):Int)-1=(m:Int):=by omega
  have e:Q X (m-1)=(m:Int)-1:=By (by omega) (by omega);have hx:=RP (rs:=rs) (i:=m) (by omega);have b:=Cm c m;have hs:=Lz (neg:=(H rs m z0).1) b.1 b.2;rw[e0];simp only[p];rw[Eh];by_cases a:B (H rs m z0)=0
  ·rw[Ar a];have h1:=AEd (F rs) (S rs) m (H rs m z0) (B4 (B (H rs m z0))) (by simp) (by rw[BJ];exact jR.2 a) (by omega) (by rw[Aa];exact hx) hs;rw[e] at h1;exact Bk h1 (d (by omega))
  ·rw[Aw a,e0];exact Aq (AEe (F rs) (S rs) m (H rs m z0) (B4 (B (H rs m z0))) (by simp) (by rw[C3];exact fun h=>a (jR.1 h)) (by omega) (by rw[Aa];exact hx) hs)
theorem Su{rs:D}(a:∀ r∈rs,BC 1048576 r)(b:F rs<=1048576):T 53 [sL S rs] (J X (p (Al rs) (F rs)-1)):=by
 have c:Q X (F rs-1)=(F rs:Int)-1:=By (by omega) (by omega);have d:Z (.loop vT) (TW (F rs) (S rs) (Q X (F rs-1))) xZ0 (TW (F rs) (S rs) (p (Al rs) (F rs)-1)):=by
  rw[c];exact A5p rs a b (F rs) (A2 _)
 exact CQ Ayv (C (sL S rs)::L 1 (N ((p (Al rs) (F rs):Int)-1)::N ((p (Al rs) (F rs):Int)-1)::L 15 (N ((p (Al rs) (F rs):Int)-1)::[]))) (Ag (Fa (t:=(C (sL S rs)::L 1 (N 0::L 17 []))) (ex := .norm) (ps:=[]) CH 300 [] [0,2] (by kernel_rfl) trivial)
  (Ag (Fa (t:=(C (sL S rs)::L 1 (N 0::N (Q X (F rs-1))::L 16 []))) (ex := .norm) (ps:=[]) CH 300 [] IC (by kernel_rfl) trivial)
  (Ag (A7 d)
  (Fa (t:=(C (sL S rs)::L 1 (N ((p (Al rs) (F rs):Int)-1)::N ((p (Al rs) (F rs):Int)-1)::L 15 (N ((p (Al rs) (F rs):Int)-1)::[])))) (ex := .ret) (ps:=[]) CH 300 [] [0,2,3,19] (by kernel_rfl) trivial))))
def Akq:ICode:=a Ayy 91 500
section
variable(a:Nat)(cs:AK)(n:Nat)(os:AK)(m i:Int)
def Yo:Az:=C (P a cs)::L 1 (Ak 2 0 []::L 1 (Ak 2 n os::L 9 (N m::N i::L 12 [])))
theorem AEg(b:AK)(r:Rn)(v:Int)(c1:E (i<m)=true)(c:0<=i/\i<a)(d:BQ (AL (Y i*2) cs) 0 2 false=some (Ao [W r.1,P (F r.2) (A r.2)]))(f:T 113 [Ao [W r.1,P (F r.2) (A r.2)]] (Ao [W (E (v<0)),sL A (o (I v))]))(g:0<=i/\i<n)(h:Di os (Y i*2) [W (E (v<0)),sL A (o (I v))]=some b):Z Akq (Yo a cs n os m i) .norm (Yo a cs n b m (Q X (i+1))):=e CH 300 [bT,.v (Ao [W r.1,P (F r.2) (A r.2)]),.r (Ao [W (E (v<0)),sL A (o (I v))]),.l b] [0,2,4,14,15] (Gm c1 c d f g h) (by kernel_rfl)
theorem AEh(c1:E (i<m)=false):Z Akq (Yo a cs n os m i) xZ0 (Yo a cs n os m i):=e CH 300 [bF] [0,2,4,14,15] (BO c1) (by kernel_rfl)
end
theorem A5q(rs:D)(c:∀ r∈rs,BC 1048576 r)(f:F rs<=1048576)(n:Nat)(hn:n<=F rs):∀ (r i:Nat),i+r=n ->
  Z (.loop Akq) (Yo (F rs) (S rs) n (S (Ia (fun j=>V (B (H rs j z0))) i r)) n i) xZ0 (Yo (F rs) (S rs) n (S (Ia (fun j=>V (B (H rs j z0))) n 0)) n n):=by
 intro r;induction r with
 | zero =>
  intro i hi;have hi':i=n:=by omega
  subst hi';exact Aq (AEh (F rs) (S rs) i _ i i (by simp))
 | succ r d =>
  intro i hi;have e:Q X (i+1)=((i+1:Nat):Int):=wrz
  have hx:=RP (rs:=rs) (i:=i) (by omega);have a:=Cm c i;have hs:=NR (neg:=(H rs i z0).1) a.1 a.2;have b:=nP (rs:=Ia (fun j=>V (B (H rs j z0))) i (r+1)) (i:=i) (r:=V (B (H rs i z0))) (by rw[RR];omega);rw[XQ (fun j=>V (B (H rs j z0))) i r] at b;have h1:=AEg (F rs) (S rs) n _ n i _ (H rs i z0) (B (H rs i z0)) (by simp;omega) (by omega) (by rw[Aa];exact hx) hs (by omega) (by rw[Aa];exact b);rw[e] at h1;exact Bk h1 (d (i+1) (by omega))
theorem Aqb(rs:D)(hd:T 53 [sL S rs] (J X (p (Al rs) (F rs)-1)))(hz:(Q X (((p (Al rs) (F rs):Int)-1)+1)==0)=true):T 66 [sL S rs] (Ae 2 0 []):=Cl (ps:=[T 53 [sL S rs] (J X (p (Al rs) (F rs)-1)),(Q X (((p (Al rs) (F rs):Int)-1)+1)==0)=true]) CH rfl 300 rfl [.r (J X (p (Al rs) (F rs)-1)),bT] (by kernel_rfl) ⟨hd,hz,trivial⟩
theorem Aqc(rs ss:D)(hd:T 53 [sL S rs] (J X (p (Al rs) (F rs)-1)))(hz:(Q X (((p (Al rs) (F rs):Int)-1)+1)==0)=false)(a:0<=Q X (((p (Al rs) (F rs):Int)-1)+1)/\Q X (((p (Al rs) (F rs):Int)-1)+1)<=1048576)(b:Z (.loop Akq) (Yo (F rs) (S rs) (Y (Q X (((p (Al rs) (F rs):Int)-1)+1))) (C_ [W false,P 0 []] (Y (Q X (((p (Al rs) (F rs):Int)-1)+1)))) (Y (Q X (((p (Al rs) (F rs):Int)-1)+1))) 0) xZ0 (Yo (F rs) (S rs) (Y (Q X (((p (Al rs) (F rs):Int)-1)+1))) (S ss) (Y (Q X (((p (Al rs) (F rs):Int)-1)+1))) (Y (Q X (((p (Al rs) (F rs):Int)-1)+1))))):T 66 [sL S rs] (Ae 2 (Y (Q X (((p (Al rs) (F rs):Int)-1)+1))) (S ss)):=CQ Ayy (C (sL S rs)::L 1 (Ak 2 (Y (Q X (((p (Al rs) (F rs):Int)-1)+1))) (S ss)::L 11 (N (Y (Q X (((p (Al rs) (F rs):Int)-1)+1)):Int)::N (Y (Q X (((p (Al rs) (F rs):Int)-1)+1)):Int)::L 12 []))) (Ag (e (t:=(vp rs::L 1 (Ak 2 0 []::L 25 []))) CH 300 [] [0,2] a0) (Ag (e (t:=(vp rs::L 1 (Ak 2 0 []::N (Q X (((p (Al rs) (F rs):Int)-1)+1))::L 2 (vp rs::N ((p (Al rs) (F rs):Int)-1)::N (Q X (((p (Al rs) (F rs):Int)-1)+1))::L 19 [])))) CH 300 [.r (J X (p (Al rs) (F rs)-1))] [0,2,3,6,7,8] (BO hd)) (Ag (e (t:=(vp rs::L 1 (Ak 2 0 []::N (Q X (((p (Al rs) (F rs):Int)-1)+1))::L 2 (vp rs::N ((p (Al rs) (F rs):Int)-1)::N (Q X (((p (Al rs) (F rs):Int)-1)+1))::N (Q X (((p (Al rs) (F rs):Int)-1)+1))::C (W (Q X (((p (Al rs) (F rs):Int)-1)+1)==0))::L 17 [])))) CH 300 [bF] [0,2,3,6,7,8,9,10] (BO hz)) (Ag (e (t:=(vp rs::L 1 (Ak 2 0 []::N (Q X (((p (Al rs) (F rs):Int)-1)+1))::Ak 2 (Y (Q X (((p (Al rs) (F rs):Int)-1)+1))) (C_ [W false,P 0 []] (Y (Q X (((p (Al rs) (F rs):Int)-1)+1))))::L 1 (vp rs::N ((p (Al rs) (F rs):Int)-1)::N (Q X (((p (Al rs) (F rs):Int)-1)+1))::N (Q X (((p (Al rs) (F rs):Int)-1)+1))::C (W (Q X (((p (Al rs) (F rs):Int)-1)+1)==0))::N (Q X (((p (Al rs) (F rs):Int)-1)+1))::L 16 [])))) CH 300 [] [0,2,3,4,6,7,8,9,10,11] (BO a)) (Ag (Ag (e (t:=(vp rs::L 1 (Ak 2 0 []::L 1 (Ak 2 (Y (Q X (((p (Al rs) (F rs):Int)-1)+1))) (C_ [W false,P 0 []] (Y (Q X (((p (Al rs) (F rs):Int)-1)+1))))::L 9 (N (Y (Q X (((p (Al rs) (F rs):Int)-1)+1)):Int)::N 0::L 12 []))))) CH 300 [] [0,2,4,14,15] a0) (A7 b)) (e (t:=(vp rs::L 1 (Ak 2 (Y (Q X (((p (Al rs) (F rs):Int)-1)+1))) (S ss)::L 11 (N (Y (Q X (((p (Al rs) (F rs):Int)-1)+1)):Int)::N (Y (Q X (((p (Al rs) (F rs):Int)-1)+1)):Int)::L 12 [])))) (ex := .ret) CH 300 [] [0,2,14,15] a0))))))
theorem L7{rs:D}(b:∀ r∈rs,BC 1048576 r)(c:F rs<=1048576):T 66 [sL S rs] (Ae 2 (F (Af (Al rs))) (pk (Af (Al rs)))):=by
 have g:=Mi (Al rs) (F rs);have d:F (Af (Al rs))=p (Al rs) (F rs):=by rw[MR,B1]
 have hd:=Su b c;have a:Q X (((p (Al rs) (F rs):Int)-1)+1)=(p (Al rs) (F rs):Int):=wrz
 have e:Y (Q X (((p (Al rs) (F rs):Int)-1)+1))=p (Al rs) (F rs):=by rw[a,Aa]
 by_cases k:p (Al rs) (F rs)=0
 ·have h:=Aqb rs hd (by rw[a,k];rfl);have:Af (Al rs)=[]:=AU (by omega);rw[this];exact h
 ·have f:=A5q rs b c (p (Al rs) (F rs)) g (p (Al rs) (F rs)) 0 (by omega);rw[Vv,<- Vu] at f;have h:=Aqc rs _ hd (by rw[a,C3];omega) (by rw[a];omega) (by rw[e];exact f);rw[e,Vw] at h;have l:(Ay (p (Al rs) (F rs))).map (fun j=>V (B (H rs j z0)))=(Af (Al rs)).map V:=by
   rw[<- SV,d];apply GP;intro i _;rw[Ei,Eh]
  rw[l] at h;rw[d];exact h
def pI:ICode:=a Aae 93 116
section
variable(a:Nat)(cs:AK)(n:Nat)(os:AK)(m i:Int)
def Sv:Az:=C (P a cs)::L 1 (Ak 2 0 []::Ak 2 n os::L 5 (N m::N i::L 12 []))
theorem A5r(b:AK)(r:Rn)(v:Int)(c1:E (i<m)=true)(c:0<=i/\i<a)(d:BQ (AL (Y i*2) cs) 0 2 false=some (Ao [W r.1,P (F r.2) (A r.2)]))(f:T 131 [Ao [W r.1,P (F r.2) (A r.2)]] (Ao [W (E (v<0)),sL A (o (I v))]))(g:0<=i/\i<n)(h:Di os (Y i*2) [W (E (v<0)),sL A (o (I v))]=some b):Z pI (Sv a cs n os m i) .norm (Sv a cs n b m (Q X (i+1))):=e CH 300 [bT,.v (Ao [W r.1,P (F r.2) (A r.2)]),.r (Ao [W (E (v<0)),sL A (o (I v))]),.l b] [0,2,3,9,10] (Gm c1 c d f g h) (by kernel_rfl)
theorem A5s(c1:E (i<m)=false):Z pI (Sv a cs n os m i) xZ0 (Sv a cs n os m i):=e CH 300 [bF] [0,2,3,9,10] (BO c1) (by kernel_rfl)
end
theorem Aqd(rs:D)(c:∀ r∈rs,BC 1048576 r)(f:F rs<=1048576)(n:Nat)(hn:n<=F rs):∀ (r i:Nat),i+r=n ->
  Z (.loop pI) (Sv (F rs) (S rs) n (S (Ia (fun j=>V (-(B (H rs j z0)))) i r)) n i) xZ0 (Sv (F rs) (S rs) n (S (Ia (fun j=>V (-(B (H rs j z0)))) n 0)) n n):=by
 intro r;induction r with
 | zero =>
  intro i hi;have hi':i=n:=by omega
  subst hi';exact Aq (A5s (F rs) (S rs) i _ i i (by simp))
 | succ r d =>
  intro i hi;have e:Q X (i+1)=((i+1:Nat):Int):=wrz
  have hx:=RP (rs:=rs) (i:=i) (by omega);have a:=Cm c i;have hs:=jF (neg:=(H rs i z0).1) a.1 a.2;have b:=nP (rs:=Ia (fun j=>V (-(B (H rs j z0)))) i (r+1)) (i:=i) (r:=V (-(B (H rs i z0)))) (by rw[RR];omega);rw[XQ (fun j=>V (-(B (H rs j z0)))) i r] at b;have h1:=A5r (F rs) (S rs) n _ n i _ (H rs i z0) (-(B (H rs i z0))) (by simp;omega) (by omega) (by rw[Aa];exact hx) hs (by omega) (by rw[Aa];exact b);rw[e] at h1;exact Bk h1 (d (i+1) (by omega))
theorem A5t(rs ss:D)(a:0<=(F rs:Int)/\(F rs:Int)<=1048576)(b:Z (.loop pI) (Sv (F rs) (S rs) (Y (F rs)) (C_ [W false,P 0 []] (Y (F rs))) (F rs) 0) xZ0 (Sv (F rs) (S rs) (Y (F rs)) (S ss) (F rs) (F rs))):T 117 [sL S rs] (Ae 2 (Y (F rs)) (S ss)):=CQ Aae (C (sL S rs)::L 1 (Ak 2 (Y (F rs)) (S ss)::L 6 (N (F rs:Int)::N (F rs:Int)::L 12 []))) (Ag (e (t:=(vp rs::L 1 (Ak 2 0 []::L 20 []))) CH 300 [] [0,2] a0) (Ag (e (t:=(vp rs::L 1 (Ak 2 0 []::Ak 2 (Y (F rs)) (C_ [W false,P 0 []] (Y (F rs)))::L 1 (vp rs::N (F rs:Int)::L 16 [])))) CH 300 [] [0,2,3,5,6] (BO a)) (Ag (Ag (e (t:=(vp rs::L 1 (Ak 2 0 []::Ak 2 (Y (F rs)) (C_ [W false,P 0 []] (Y (F rs)))::L 5 (N (F rs:Int)::N 0::L 12 [])))) CH 300 [] [0,2,3,9,10] a0) (A7 b)) (e (t:=(vp rs::L 1 (Ak 2 (Y (F rs)) (S ss)::L 6 (N (F rs:Int)::N (F rs:Int)::L 12 [])))) (ex := .ret) CH 300 [] [0,2,9,10] a0))))
theorem NS{rs:D}(b:∀ r∈rs,BC 1048576 r)(c:F rs<=1048576):T 117 [sL S rs] (Ae 2 (F rs) (pk (z (Al rs)))):=by
 have a:=Aqd rs b c (F rs) (A2 _) (F rs) 0 (by omega);rw[Vv,<- Vu] at a;have h:=A5t rs _ (by omega) (by rw[Aa];exact a);rw[Aa,Vw] at h;have d:(Ay (F rs)).map (fun j=>V (-(B (H rs j z0))))=(z (Al rs)).map V:=by
  have e:F (z (Al rs))=F rs:=by simp[z,Al]
  rw[<- SV,e];apply GP;intro i _;rw[IW,Eh]
 rw[d] at h;exact h
def bI:ICode:=a Aak 93 116
section
variable(rs:D)(w:Rn)(i:Int)(z:Rn)
def Pb:Az:=C (sL S rs)::L 1 (AH [W z.1,P (F z.2) (A z.2)]::AH [W w.1,P (F w.2) (A w.2)]::N i::L 19 [])
theorem A5u(b g:Int)(c1:E (i>=0)=true)(c:(b != 1)=true)(a:0<=i/\i<F rs)(d:T 102 [AB w] (J X b))(e:T 159 [AB w,AB (H rs (Y i) z0)] (M g)):Z bI (Pb rs w i z) .norm (Pb rs (V g) (Q X (i-1)) z):=Ab DM [bT,.r (J X b),bT,.v (AB (H rs (Y i) z0)),.r (M g)] Fy (Gm c1 d c a (BZ a) e)
theorem A5v(b:Int)(c1:E (i>=0)=true)(c:(b != 1)=false)(a:T 102 [AB w] (J X b)):Z bI (Pb rs w i z) xZ0 (Pb rs w i z):=Ab DM [bT,.r (J X b),bF] Fy (Gy c1 a c)
theorem A5w(c1:E (i>=0)=false):Z bI (Pb rs w i z) xZ0 (Pb rs w i z):=Ab DM [bF,bF] Fy (DH c1 F9)
end
theorem A5x(rs:D)(w z:Rn)(i:Int)(a:Z (.loop bI) (Pb rs (false,[]) (Q X (F rs-1)) (false,[])) xZ0 (Pb rs w i z)):T 157 [sL S rs] (AB w):=CQ Aak (L 2 (AH [W w.1,P (F w.2) (A w.2)]::L 21 [])) (As (AA (Ag (Ab DM [] Fy a0) (Ag (A7 a) (Ab DM [] [2] a0)))))
def bJ:ICode:=a mG 90 980
section
variable(k:Nat)(os:D)(w:Rn)(n i:Int)
def Pc:Az:=L 3 (Ak 2 k (S os)::AH [W w.1,P (F w.2) (A w.2)]::L 9 (N n::N i::L 16 []))
theorem A5y(q r:Int)(c1:E (i<n)=true)(a:0<=i/\i<k)(b:F os=k)(c:T 158 [AB (H os (Y i) z0),AB w] (A3 [M q,M r])):Z bJ (Pc k os w n i) .norm (Pc k (os.set (Y i) (V q)) w n (Q X (i+1))):=Ab DM [bT,.v (AB (H os (Y i) z0)),.r (A3 [M q,M r]),.l (S (os.set (Y i) (V q)))] [3,4,14,15] (Gm c1 a (GH b a) c a (HJ (r:=V q) b a))
theorem A5z(c1:E (i<n)=false):Z bJ (Pc k os w n i) xZ0 (Pc k os w n i):=Ab DM [bF] [3,4,14,15] (BO c1)
end
theorem Afd(rs ts os:D)(w:Rn)(g b n i:Int)(k:Nat)(c1:E (b>1)=true)(a:T 66 [sL S rs] (Ae 2 (F ts) (S ts)))(d:Aio (S ts) (fun c => !Zm c)=true)(e:Iw (M g)=true)(f:T 157 [sL S ts] (M g))(h:T 102 [M g] (J X b))(j:Z (.loop bJ) (Pc (F ts) ts (V g) (F ts) 0) xZ0 (Pc k os w n i)):T 115 [sL S rs] (Ae 2 k (S os)):=CQ mG (L 2 (Ak 2 k (S os)::L 29 [])) (As (As (AA (Ag (Ab (t:=(vp rs::L 1 (Ak 2 0 []::Ak 2 (F ts) (S ts)::bN g::L 7 (C (W (E (b>1)))::L 19 [])))) DM [.r (Ae 2 (F ts) (S ts)),.r (M g),.r (J X b)] [0,2,3,4,12] (Ff a d e f h)) (Ag (LL (by rfl) c1 (Ag (Ab DM [] [3,4,14,15] a0) (A7 j))) (Ab DM [] [2] a0))))))
theorem Afe(rs ts:D)(g b:Int)(c1:E (b>1)=false)(a:T 66 [sL S rs] (Ae 2 (F ts) (S ts)))(d:Aio (S ts) (fun c => !Zm c)=true)(e:Iw (M g)=true)(f:T 157 [sL S ts] (M g))(h:T 102 [M g] (J X b)):T 115 [sL S rs] (Ae 2 (F ts) (S ts)):=CQ mG (L 2 (Ak 2 (F ts) (S ts)::L 29 [])) (As (As (AA (Ag (Ab (t:=(vp rs::L 1 (Ak 2 0 []::Ak 2 (F ts) (S ts)::bN g::L 7 (C (W (E (b>1)))::L 19 [])))) DM [.r (Ae 2 (F ts) (S ts)),.r (M g),.r (J X b)] [0,2,3,4,12] (Ff a d e f h)) (Ag (LM (by rfl) c1 (Ab (t:=L 2 (Ak 2 0 []::Ak 2 (F ts) (S ts)::L 28 [])) DM [] RI a0)) (Ab DM [] [2] a0))))))
theorem Aff(rs ts:D)(s:Int)(c1:E ((F rs:Int)>0)=true)(b:E (s<0)=true)(a:0<=Q X (F rs-1)/\Q X (F rs-1)<(F rs:Int))(c:T 101 [AB (H rs (Y (Q X (F rs-1))) z0)] (J X s))(d:T 117 [sL S rs] (Ae 2 (F ts) (S ts))):T 155 [sL S rs] (Ae 2 (F ts) (S ts)):=Bc (fn:=iF AC mS) DM rfl 400 rfl [bT,.v (AB (H rs (Y (Q X (F rs-1))) z0)),.r (J X s),bT,.r (Ae 2 (F ts) (S ts))] (Gm c1 a (BZ a) c b d)
theorem Afg(rs:D)(s:Int)(c1:E ((F rs:Int)>0)=true)(b:E (s<0)=false)(a:0<=Q X (F rs-1)/\Q X (F rs-1)<(F rs:Int))(c:T 101 [AB (H rs (Y (Q X (F rs-1))) z0)] (J X s)):T 155 [sL S rs] (sL S rs):=Bc (fn:=iF AC mS) DM rfl 400 rfl [bT,.v (AB (H rs (Y (Q X (F rs-1))) z0)),.r (J X s),bF] (Ff c1 a (BZ a) c b)
theorem Afh(rs:D)(c1:E ((F rs:Int)>0)=false):T 155 [sL S rs] (sL S rs):=Bc (fn:=iF AC mS) DM rfl 400 rfl [bF,bF] (DH c1 F9)
def pJ:ICode:=a Aad 93 116
section
variable(rs:D)(k:Nat)(cs:AK)(i:Int)
def Sw:Az:=C (sL S rs)::L 2 (Ak 2 k cs::N i::L 18 [])
theorem A6a(d v:Int)(c1:E (i<=d)=true)(a:0<=i/\i<F rs)(b:k+1<=1048576)(c:T 53 [sL S rs] (J X d))(e:T 132 [J X i] (M i))(f:T 112 [AB (H rs (Y i) z0),M i] (M v)):Z pJ (Sw rs k cs i) .norm (Sw rs (k+1) (cs++([W (E (v<0)),sL A (o (I v))]:AK)) (Q X (i+1))):=Ab DM [.r (J X d),bT,.v (AB (H rs (Y i) z0)),.r (M i),.r (M v)] [0,3,4] (Ip c c1 a (BZ a) e f (show F ([W (E (v<0)),sL A (o (I v))]:AK)=1*2 from rfl) b)
theorem A6b(d:Int)(c1:E (i<=d)=false)(a:T 53 [sL S rs] (J X d)):Z pJ (Sw rs k cs i) xZ0 (Sw rs k cs i):=Ab DM [.r (J X d),bF] [0,3,4] (DH a c1)
end
theorem A6c(rs os ts:D)(k:Nat)(i:Int)(a:Z (.loop pJ) (Sw rs 0 ([]:AK) 1) xZ0 (Sw rs k (S os) i))(b:T 66 [P k (S os)] (Ae 2 (F ts) (S ts))):T 116 [sL S rs] (Ae 2 (F ts) (S ts)):=CQ Aad (L 2 (Ak 2 (F ts) (S ts)::L 20 [])) (As (AA (Ag (Ab DM [] [0,3,4] a0) (Ag (A7 a) (Ab DM [.r (Ae 2 (F ts) (S ts))] [2] (BO b))))))
def TRA:Dd:=TQE
theorem Afi:CT DP TRA:=DM
theorem jS{n:Nat}:FY n=1↔n=1:=by
 unfold FY;split
 ·omega
 ·rename_i h;constructor
  ·intro h1;have h2:CZ n=0:=by omega
   have:=(UW h).1 h2;omega
  ·rintro rfl;decide
theorem vU{n:Nat}:1<FY n↔1<n:=by
 have h1:=jS (n:=n);have a:FY n=0↔n=0:=by unfold FY;split <;> omega
 omega
theorem JY(n:Int):F (V n).2=F (o (I n)):=rfl
theorem Afj{rs:D}{n:Nat}(h:n<F rs):(Al rs).drop n=B (H rs n z0)::(Al rs).drop (n+1):=by
 rw[BL (by rw[B1];exact h)];congr 1;rw[<- Eh,Ad,Am (by rw[B1];exact h)];rfl
theorem VQ{K:Nat}{p:G}(h:∀ x∈p,u K x):u K (B5 p):=by
 by_cases a:Af p=[]
 ·rw[Ls.2 (DY.1 a)];exact Ib K
 ·have hc:=Lt a;have:∃ i,H p i 0 ≠ 0:=A6 fun hn=>a (DY.2 fun i=>A6 fun hi=>hn ⟨i,hi⟩);obtain⟨i,hi⟩:=this;have hd:=Jl p i;have b:=ZO h i;unfold u at *
  rw[C9];have:=V4 (by omega) (Il.1 hd);omega
theorem Afk{p:G}(n:Nat):B5 p∣B5 (p.drop n):=by
 rw[No];intro i;have:=Jl p (n+i);rw[Ad] at this |-;rwa [Cb]
theorem Aqe{K:Nat}{rs:D}{z:Rn}(c:∀ r∈rs,BC K r)(k:K<1048576)(l:F rs<=1048576):∀ n,n<=F rs ->
  ∃ a,Z (.loop bI) (Pb rs (V (B5 ((Al rs).drop n):Nat)) (n-1) z) xZ0 (Pb rs (V (B5 (Al rs):Nat)) a z):=by
 intro n;induction n with
 | zero =>
  intro _;rw[DA];exact⟨_,Aq (A5w rs _ _ z (by simp))⟩
 | succ n e =>
  intro hn;have e0:((n+1:Nat):Int)-1=(n:Int):=by omega
  have f:Q X (n-1)=(n:Int)-1:=By (by omega) (by omega);have g:u K (B5 ((Al rs).drop (n+1))):=VQ fun x hx=>DW c x (E3 hx);have m:=g.len;have hb:=U4 (neg:=(V (B5 ((Al rs).drop (n+1)):Nat)).1) (xs:=(V (B5 ((Al rs).drop (n+1)):Nat)).2) (CB _) (by rw[JY];omega);rw[show v (V (B5 ((Al rs).drop (n+1)):Nat)).1 (V (B5 ((Al rs).drop (n+1)):Nat)).2=(B5 ((Al rs).drop (n+1)):Nat) from AO _,C9] at hb;rw[e0];by_cases h1:B5 ((Al rs).drop (n+1))=1
  ·have hc:B5 (Al rs)=1:=by
    have:=Afk (p:=Al rs) (n+1);rw[h1] at this;exact Nat.dvd_one.1 this
   rw[h1] at hb |-;rw[hc];exact⟨_,Aq (A5v rs _ (n:Nat) z _ (by simp) (by decide) hb)⟩
  ·obtain⟨i,o⟩:=Cm c n;have b:=jQ (na:=(V (B5 ((Al rs).drop (n+1)):Nat)).1) (nb:=(H rs n z0).1) (xs:=(V (B5 ((Al rs).drop (n+1)):Nat)).2) (ys:=(H rs n z0).2) (CB _) i (by rw[JY];omega) (by omega);rw[show v (V (B5 ((Al rs).drop (n+1)):Nat)).1 (V (B5 ((Al rs).drop (n+1)):Nat)).2=(B5 ((Al rs).drop (n+1)):Nat) from AO _,show v (H rs n z0).1 (H rs n z0).2=B (H rs n z0) from rfl] at b;have j:Ed (B5 ((Al rs).drop (n+1)):Int) (B (H rs n z0))=B5 ((Al rs).drop n):=by
    rw[Afj (n:=n) (by omega),B5,Ed,C9,Ji]
   rw[j] at b;have d:=A5u rs (V (B5 ((Al rs).drop (n+1)):Nat)) (n:Nat) z _ _ (by simp) (by
    rw[bne_iff_ne];have:=jS (n:=B5 ((Al rs).drop (n+1)));omega) (by omega) hb (by rw[Aa];exact b)
   rw[f] at d;obtain⟨a,h⟩:=e (by omega);exact⟨a,Bk d h⟩
theorem fI{K:Nat}{rs:D}(a:∀ r∈rs,BC K r)(b:K<1048576)(c:F rs<=1048576):T 157 [sL S rs] (M (B5 (Al rs):Nat)):=by
 obtain⟨d,h⟩:=Aqe (z:=z0) a b c (F rs) (A2 _);rw[show (Al rs).drop (F rs)=[] by rw[<- B1,DD],show V (B5 [])=z0 from rfl] at h;exact A5x rs (V (B5 (Al rs):Nat)) z0 d (by rw[wqz];exact h)
theorem OF{x g:Int}(a:0<g)(h:g∣x):AF x g=x / g:=by
 obtain⟨y,rfl⟩:=h;rw[Int.mul_tdiv_cancel_left _ (by omega),CL _ (by omega)]
theorem FB{K:Nat}{rs:D}(d:∀ r∈rs,BC K r)(q:K<1048576)(s:F rs<=1048576):T 115 [sL S rs] (Ae 2 (F (prim (Al rs))) (pk (prim (Al rs)))):=by
 have a:=L7 (fun r h=>(d r h).mono (show K<=1048576 by omega)) s;have w:∀ x∈Af (Al rs),u K x:=NE (DW d);have l:=WK w;have m:=Bs (Af (Al rs));have y:=Ct (Al rs);rw[B1] at y;have o:pk (Af (Al rs))=S ((Af (Al rs)).map V):=rfl;(first|rw[o,<- Ac (f:=V)] at a|(rw[o] at a;unfold sL at a;rw[<- Ac (f:=V)] at a));have b:F ((Af (Al rs)).map V)=F (Af (Al rs)):=Ac ..;have hc:=fI l q (by omega);rw[m,ZV] at hc;have z:u K (B5 (Al rs)):=VQ (DW d);have M:=z.len;have hb:=U4 (neg:=(V (B5 (Al rs):Nat)).1) (xs:=(V (B5 (Al rs):Nat)).2) (CB _) (by rw[JY];omega);rw[show v (V (B5 (Al rs):Nat)).1 (V (B5 (Al rs):Nat)).2=(B5 (Al rs):Nat) from AO _,C9] at hb;by_cases h1:1<B5 (Al rs)
 ·have A:∀ t,B (H ((Af (Al rs)).map V) t z0)=H (Af (Al rs)) t 0:=fun t=>by rw[<- Eh,m]
  have C:∀ ts:D,F ts=F (Af (Al rs))->(∀ r∈ts,BC K r)->(∀ t,B (H ts t z0)=H (Af (Al rs)) t 0) ->
    Z (.loop bJ) (Pc (F ts) ts (V (B5 (Al rs):Nat)) (F ts:Nat) 0) xZ0 (Pc (F ts) ((prim (Al rs)).map V) (V (B5 (Al rs):Nat)) (F ts:Nat) (F ts:Nat)):=by
   intro ts e gt hv;have j:F ((prim (Al rs)).map V)=F ts:=by rw[Ac,CO,e]
   have h:=Et (prog:=DP) (c:=bJ) (ex := .exit 0) (fin:=Pc (F ts) ((prim (Al rs)).map V) (V (B5 (Al rs):Nat)) (F ts:Nat) (F ts:Nat))
    (fun i=>Pc (F ts) (((prim (Al rs)).map V).take i++ts.drop i) (V (B5 (Al rs):Nat)) (F ts:Nat) (i:Nat)) (F ts) (by nofun) ?_ ?_ 0 (A_ _)
   ·exact h
   ·intro i hi;have E:Q X (i+1)=((i+1:Nat):Int):=wrz
    have G:F (((prim (Al rs)).map V).take i++ts.drop i)=F ts:=by rw[B0,AX,CX];omega
    have I:H (((prim (Al rs)).map V).take i++ts.drop i) i z0=H ts i z0:=by
     rw[Ad,Ad,BN (by rw[AX];omega),AX,Cb];congr 2;omega
    obtain⟨J,N⟩:=Cm gt i;have p:=Tl (na:=(H ts i z0).1) (nb:=(V (B5 (Al rs):Nat)).1) (xs:=(H ts i z0).2) (ys:=(V (B5 (Al rs):Nat)).2) J (CB _) (by rw[show v (V (B5 (Al rs):Nat)).1 (V (B5 (Al rs):Nat)).2=(B5 (Al rs):Nat) from AO _];omega) (by omega) (by rw[JY];omega);rw[show v (V (B5 (Al rs):Nat)).1 (V (B5 (Al rs):Nat)).2=(B5 (Al rs):Nat) from AO _,show v (H ts i z0).1 (H ts i z0).2=B (H ts i z0) from rfl,hv,Ei] at p;have k:=A5y (F ts) (((prim (Al rs)).map V).take i++ts.drop i) (V (B5 (Al rs):Nat)) (F ts:Nat) (i:Nat) _ _ (by simp;omega) (by omega) G (by rw[Aa,I];exact p);refine k.to rfl ?_;rw[E,Aa,OF (by omega) (Jl (Al rs) i),<- Lu];congr 1;apply HP;intro t;have L:((prim (Al rs)).map V)[i]? = some (V (H (prim (Al rs)) i 0)):=by
     rw[CC,Ad,Am (by (first|rw[Ac] at j|(unfold sL at j;rw[Ac] at j));omega)];rfl
    rcases Mv t i with g | g | g
    ·rw[H5 (by omega),B2 (by rw[AX];omega),B2 (by rw[AX];omega),Cr g,Cr (by omega)]
    ·subst g;rw[dZ (by omega),B2 (by rw[AX];omega),Cr (by omega),L]
    ·rw[H5 (by omega),BN (by rw[AX];omega),BN (by rw[AX];omega),AX,AX,Cb,Cb];congr 1;omega
   ·rw[Dt (by omega),DD,Ld];exact A5z (F ts) _ _ (F ts:Nat) (F ts:Nat) (by simp)
  have e:=C _ b l A;have h:=Afd rs ((Af (Al rs)).map V) _ _ _ _ _ _ _ (by rw[AZ];have:=(vU (n:=B5 (Al rs))).2 h1;omega) a (Ajx _) (TP _) hc hb e;(first|rw[b,<- CO] at h|(unfold sL at h;rw[b,<- CO] at h));exact h
 ·have h:=Afe rs ((Af (Al rs)).map V) _ _ (by rw[AW];have:=(vU (n:=B5 (Al rs))).1;omega) a (Ajx _) (TP _) hc hb;have hp:prim (Al rs)=Af (Al rs):=by
   rcases Gk (B5 (Al rs)) with g | g
   ·rw[EM.2 (Ls.1 g),DY.2 (Ls.1 g)]
   ·exact WL (by omega)
  rw[hp];(first|rw[b] at h|(unfold sL at h;rw[b] at h));exact h
theorem Afl(rs:D):B (H rs (F rs-1) z0)=top (Al rs):=by unfold top;rw [Eh,B1]
theorem bK{rs:D}(c:∀ r∈rs,BC 1048576 r)(d:F rs<=1048576) : 
  (top (Al rs)<0->T 155 [sL S rs] (Ae 2 (F rs) (pk (z (Al rs)))))/\(¬ top (Al rs)<0->T 155 [sL S rs] (sL S rs)):=by
 by_cases j:0<F rs
 ·have b:Q X (F rs-1)=((F rs-1:Nat):Int):=wrz
  obtain⟨e,f⟩:=Cm c (F rs-1);have hs:=Lz (neg:=(H rs (F rs-1) z0).1) e f;rw[show v (H rs (F rs-1) z0).1 (H rs (F rs-1) z0).2=B (H rs (F rs-1) z0) from rfl,Afl] at hs;refine⟨fun h => ?_,fun h => ?_⟩
  ·have hn:=NS c d;have g:pk (z (Al rs))=S ((z (Al rs)).map V):=rfl;have a:F ((z (Al rs)).map V)=F rs:=by rw[Ac,EY,B1]
   rw[g] at hn |-;(first|rw[<- a] at hn |-|(unfold sL at hn;rw[<- a] at hn |-));have i:T 117 [sL S rs] (Ae 2 (F ((z (Al rs)).map V)) (S ((z (Al rs)).map V))):=by
    have:=NS c d;rw[a];exact this
   rw[a];have k:=Aff rs ((z (Al rs)).map V) (B4 (top (Al rs))) (by simp;omega) (by unfold B4;rw[Ar h];rfl) (by rw[b];omega) (by rw[b,Aa];exact hs) i;(first|rw[a] at k|(unfold sL at k;rw[a] at k));exact k
  ·exact Afg rs (B4 (top (Al rs))) (by simp;omega) (by unfold B4;rw[Aw h];split <;> rfl) (by rw[b];omega) (by rw[b,Aa];exact hs)
 ·have hz:rs=[]:=AU (by omega);subst hz;refine⟨fun h=>absurd h (by decide),fun _=>Afh [] (by decide)⟩
theorem TX{K:Nat}{rs:D}(b:∀ r∈rs,BC K r)(y:K+2<=1048576)(m:F rs<=1048576):T 116 [sL S rs] (Ae 2 (F (AE (Al rs))) (pk (AE (Al rs)))):=by
 have hd:=Su (fun r h=>(b r h).mono (show K<=1048576 by omega)) m;have z:=Mi (Al rs) (F rs);have q:=Et (prog:=DP) (c:=pJ) (ex := .exit 0) (fin:=Sw rs (p (Al rs) (F rs)-1) (S ((Ay (p (Al rs) (F rs)-1)).map fun j=>V (B (H rs (j+1) z0)*(j+1:Nat)))) ((p (Al rs) (F rs)-1+1:Nat)))
  (fun i=>Sw rs i (S ((Ay i).map fun j=>V (B (H rs (j+1) z0)*(j+1:Nat)))) ((i+1:Nat))) (p (Al rs) (F rs)-1) (by nofun) ?_ ?_ 0 (A_ _)
 ·have s:∀ r∈(Ay (p (Al rs) (F rs)-1)).map (fun j=>V (B (H rs (j+1) z0)*(j+1:Nat))),BC 1048576 r:=by
   intro r hr;obtain⟨j,hj,rfl⟩:=DI.1 hr;rw[Hf] at hj;have h2:u 2 ((j+1:Nat)):=SS (by omega);exact (BB ((Cm b (j+1)).fits.mul h2)).mono (by omega)
  have a:=L7 s (by rw[Ac,CF];omega);have d:F ((Ay (p (Al rs) (F rs)-1)).map (fun j=>V (B (H rs (j+1) z0)*(j+1:Nat))))=p (Al rs) (F rs)-1:=by rw[Ac,CF]
  have e:Af (Al ((Ay (p (Al rs) (F rs)-1)).map (fun j=>V (B (H rs (j+1) z0)*(j+1:Nat)))))=AE (Al rs):=by
   unfold AE;apply HI;intro i;rw[Oz,HV,AO,Eh,B1];by_cases h1:i<p (Al rs) (F rs)-1
   ·rw[Ar h1,Ar (by omega)]
   ·rw[Aw h1];split
    ·have:B (H rs (i+1) z0)=0:=by rw[<- Eh];exact Uo (Al rs) (F rs) (i+1) (by omega) (by omega)
     rw[this,Cs]
    ·rfl
  (first|rw[e,d] at a|(rw[e] at a;unfold sL at a;rw[d] at a));have g:pk (AE (Al rs))=S ((AE (Al rs)).map V):=rfl;(first|rw[g,<- Ac (f:=V)] at a |-|(rw[g] at a |-;unfold sL at a;rw[<- Ac (f:=V)] at a |-));exact A6c rs _ _ _ _ q a
 ·intro i hi;have t:Q X ((i+1:Nat)+1)=((i+1+1:Nat):Int):=wrz
  obtain⟨v,A⟩:=Cm b (i+1);have w:=aY (n:=((i+1:Nat):Int)) (by omega);have x:u 2 ((i+1:Nat)):=SS (by omega);have l:=Xe (na:=(H rs (i+1) z0).1) (nb:=decide (((i+1:Nat):Int)<0)) (xs:=(H rs (i+1) z0).2) (ys:=o (I ((i+1:Nat):Int))) v (CB _) (by have:=x.len;omega);rw[GT] at l;have k:=A6a rs i (S ((Ay i).map fun j=>V (B (H rs (j+1) z0)*(j+1:Nat)))) ((i+1:Nat)) (p (Al rs) (F rs)-1) (B (H rs (i+1) z0)*(i+1:Nat)) (by simp;omega) (by omega) (by omega) hd w (by rw[Aa];exact l);refine k.to rfl ?_;rw[t];congr 1;rw[Jw,D_,Qf];rfl
 ·exact A6b rs _ _ _ _ (by rw[AW];omega) hd
def TRB:Dd:=TRA
theorem Cd:CT DP TRB:=Afi
end
end Go.Proofs.YtajompaehjkgkaaGreat
