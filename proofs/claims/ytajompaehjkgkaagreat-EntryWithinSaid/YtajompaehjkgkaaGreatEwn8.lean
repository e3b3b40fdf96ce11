/- Texts of the proof of EntryWithin: part 8 of 13. -/
import Derived.Test.YtajompaehjkgkaaGreatEwn7
namespace Go.Proofs.YtajompaehjkgkaaGreat
open Go.Ai
set_option maxRecDepth 100000
open BitVec renaming ofInt->Aj,or_comm->YC
open Bool renaming eq_iff_iff->W2,false_eq_true->CI,or_eq_false_iff->QU,or_eq_true->I4
open Classical renaming byContradiction->A6
open Decidable renaming decide->E
open Go.Ai.AV renaming agg->Ao,bool->W,fresh->Ae,int->J,sl->P,tup->A3
open Go.Ai.Reg renaming box->AH,own->Ak,val->C
open Go.IntKind renaming bits->A5,i64->X,u32->U,u64->R,wrap->Q
open Go.Proofs.Tryz renaming prog->AC
open Int renaming add_comm->Nx,add_mul->H2,add_mul_ediv_left->X7,add_mul_emod_self_left->Y5,add_zero->Cx,ediv_eq_zero_of_lt->IQ,ediv_le_self->Axp,ediv_nonneg->Kr,ediv_one->rG,emod_eq_of_lt->HR,emod_lt_of_pos->FH,emod_nonneg->Hu,eq_of_mul_eq_mul_left->GA,fdiv->d,fdiv_eq_ediv_of_nonneg->BX,gcd->Ed,le_of_eq->JG,le_of_lt->A9,le_of_mul_le_mul_right->CR,le_refl->DO,le_trans->FC,lt_of_mul_lt_mul_left->G9,lt_of_mul_lt_mul_right->CY,lt_or_gt_of_ne->Hd,lt_trichotomy->G8,mul_add->DJ,mul_assoc->Bm,mul_comm->AT,mul_ediv_add_emod->Ik,mul_ediv_cancel'->Lh,mul_ediv_cancel_left->CL,mul_eq_zero->F5,mul_le_mul_of_nonneg_left->Ax,mul_le_mul_of_nonneg_right->Ap,mul_lt_mul_of_pos_right->BG,mul_lt_mul_right->Agh,mul_ne_zero->Bv,mul_neg->F8,mul_neg_of_neg_of_pos->IN,mul_neg_of_pos_of_neg->It,mul_nonneg->A8,mul_one->DQ,mul_pos->Br,mul_pos_of_neg_of_neg->AGf,mul_pow->aH,mul_right_comm->BE,mul_sub->Gs,mul_zero->Be,natAbs->I,natAbs_mul->C1,natAbs_natCast->C9,natAbs_of_nonneg->Ol,natAbs_pow->Oh,natCast_add->MT,natCast_mul->Eg,natCast_pow->Ea,neg_tdiv->Axs,neg_tmod->Axu,not_le->FI,ofNat_dvd_left->Il,ofNat_le->AHn,one_mul->D0,pow_add->Cc,pow_pos->FP,pow_succ->AD,pow_zero->DC,sub_mul->yR,sub_self->TA,sub_zero->FV,tdiv->AF,tdiv_eq_ediv_of_nonneg->Cu,tdiv_neg->Axt,tmod->Bl,tmod_eq_emod_of_nonneg->BY,tmod_neg->Axv,toNat->Y,toNat_natCast->Aa,toNat_of_nonneg->V9,zero_add->E7,zero_mul->Cs
open List renaming append_assoc->Iu,append_nil->Ld,cons_append->Ks,drop->AL,drop_drop->Mx,drop_eq_getElem_cons->BL,drop_length->DD,drop_zero->DA,eq_nil_of_length_eq_zero->AU,ext_getElem?->HP,getD->H,getD_eq_getElem?_getD->Ad,getElem?_append_left->B2,getElem?_append_right->BN,getElem?_drop->Cb,getElem?_eq_getElem->Am,getElem?_eq_none->Bi,getElem?_map->CC,getElem?_set_ne->H5,getElem?_set_self->dZ,getElem?_take_of_lt->Cr,getElem_mem->AP,length->F,length_append->B0,length_drop->CX,length_map->Ac,length_nil->IP,length_pos_iff->Av,length_range->CF,length_replicate->GJ,length_set->BH,length_take->AX,map_append->D_,map_cons->CW,map_map->Rr,map_nil->HC,map_replicate->AJo,map_set->Ww,mem_append->BD,mem_append_left->F6,mem_append_right->Ez,mem_cons->BW,mem_cons_self->Ba,mem_of_mem_take->C5,nil_append->Hg,range->Ay,range_succ->Jw,replicate->AI,set_eq_take_append_cons_drop->Rq,set_set->Ue,take->BF,take_of_length_le->Dt,take_succ_eq_append_getElem->Dz
open Nat renaming add_assoc->E1,add_comm->H0,add_mul->DU,add_zero->Gb,gcd->FO,gcd_comm->Ji,gcd_pos_of_pos_left->AHp,gcd_rec->yT,gcd_zero_right->Gw,le_add_right->TC,le_mul_of_pos_right->Dn,le_of_dvd->V4,le_refl->A2,le_trans->B6,log2->CZ,log2_lt->TD,lt_of_le_of_lt->Ey,lt_of_not_le->Lc,lt_or_ge->CN,lt_trichotomy->Mv,mod_lt->IV,mul_assoc->Gj,mul_comm->Du,mul_le_mul->Ck,mul_le_mul_left->Bu,mul_le_mul_right->Bf,mul_one->H9,mul_pos->HW,mul_succ->TB,one_mul->Gi,pow_add->Dw,pow_le_pow_right->B_,pow_lt_pow_right->UA,pow_mul->AJl,pow_pos->E5,pow_succ->GV,sub_add_cancel->O1,sub_self->T9,sub_zero->Lb,zero_add->Cv,zero_le->A_,zero_mul->Lj
noncomputable section
theorem Akr{n:Int}{xs:G}(a:B9 xs)(b:0<=n)(h:n<=An xs):F (lz n)<=F xs :=
 Qe (by have:=EP a;omega)
theorem Aks{n:Int}(h:0<=n):An (lz n)=n:=by unfold lz;rw [Do];omega
theorem jT{na nb:Bool}{xs ys:G}(hx:B9 xs)(hy:B9 ys)(d:v nb ys ≠ 0)(h1:F xs<1000000)(h2:F ys<1000000) :
  T 138 [Ao [W na,sL A xs],Ao [W nb,sL A ys]] (A3 [M (AF (v na xs) (v nb ys)),M (Bl (v na xs) (v nb ys))]):=by
 have f:=Hk hx;have g:=Hk hy;have n:=Ct xs;have o:=Ct ys;have hX:=BK hx;have hY:0<An ys:=by
  have:=BK hy;rcases Int.lt_or_le 0 (An ys) with h | h
  ·exact h
  ·have hz:An ys=0:=by omega
   exact absurd (by unfold v;rw[hz];cases nb <;> rfl) d
 have i:Af ys ≠ []:=by
  intro e;have:=Fz ys;rw[e] at this;simp only[An] at this;omega
 have hd:=vF f g i (by omega) (by omega);rw[Fz,Fz] at hd;have a:0<=An xs / An ys:=Kr hX (by omega);have j:An xs / An ys<=An xs:=Axp _ hX;have b:=Hu (An xs) (show An ys ≠ 0 by omega);have k:An xs % An ys<=An xs:=by
  have:=Ik (An xs) (An ys);have:=A8 (show 0<=An ys by omega) a;omega
 have p:=Akr hx a j;have q:=Akr hx b k;have m1:=HM (neg := !(na==nb)) (xs:=lz (An xs / An ys)) (CB _) (by omega);have c:=HM (neg:=na) (xs:=lz (An xs % An ys)) (CB _) (by omega);have l:v (!(na==nb)) (lz (An xs / An ys))=AF (v na xs) (v nb ys):=by
  unfold v;rw[Aks a,<- Cu hX];cases na <;> cases nb <;> simp[Axs,Axt]
 have m:v na (lz (An xs % An ys))=Bl (v na xs) (v nb ys):=by
  unfold v;rw[Aks b,<- BY hX];cases na <;> cases nb <;> simp[Axu,Axv]
 rw[l] at m1;rw[m] at c;exact A4y na nb xs ys _ _ _ _ (Fp (by omega)) (Fp (by omega)) hd m1 c
theorem pK(n:Int):B9 (V n).2:=CB _
theorem Qw(n:Int):v (V n).1 (V n).2=n:=AO n
theorem Aqf:∀ (n a Y:Nat),Y<=n->F (o a)<1000000->F (o Y)<1000000->Z (.loop Zc) (OE (V (a:Nat)) (V (Y:Nat))) xZ0 (OE (V (FO a Y:Nat)) (V 0)):=by
 intro n;induction n with
 | zero =>
  intro a Y hY _ _;have:Y=0:=by omega
  subst this;rw[Gw];exact Aq (jP (V (a:Nat)) (V 0) (by decide) (If (neg:=(V 0).1) (xs:=(V 0).2) (pK _) (by decide)))
 | succ n b =>
  intro a Y hY h1 h2;by_cases c:Y=0
  ·subst c;rw[Gw];exact Aq (jP (V (a:Nat)) (V 0) (by decide) (If (neg:=(V 0).1) (xs:=(V 0).2) (pK _) (by decide)))
  ·have hs:=If (neg:=(V (Y:Nat)).1) (xs:=(V (Y:Nat)).2) (CB _) (by rw[JY,C9];omega);have hd:=jT (na:=(V (a:Nat)).1) (nb:=(V (Y:Nat)).1) (xs:=(V (a:Nat)).2) (ys:=(V (Y:Nat)).2) (CB _) (CB _) (by rw[Qw];omega) (by rw[JY,C9];omega) (by rw[JY,C9];omega);rw[Qw,Qw] at hd;rw[Qw] at hs;have d:Bl (a:Int) (Y:Int)=((a % Y:Nat):Int):=by rw[BY (by omega)];omega
   rw[d] at hd;have k:=Apm (V (a:Nat)) (V (Y:Nat)) _ _ (by rw[AO,bne_iff_ne];unfold B4; (repeat' split) <;> omega) (by rw[AO];exact hs) hd
   have e:a % Y<Y:=IV _ (by omega);have f:F (o (a % Y))<=F (o Y):=by
    apply Qe;have:=EP (Da Y).1;rw[Do] at this;omega
   have r:=b Y (a % Y) (by omega) h2 (by omega);rw[Ji a Y,yT Y a,Ji (a % Y) Y];exact Bk k r
theorem pL{na nb:Bool}{xs ys:G}(hx:B9 xs)(hy:B9 ys)(h1:F xs<1000000)(h2:F ys<1000000) :
  T 164 [Ao [W na,sL A xs],Ao [W nb,sL A ys]] (M (Ed (v na xs) (v nb ys):Nat)):=by
 have m1:=HM (neg:=false) hx (by omega);have a:=HM (neg:=false) hy (by omega);have d:=Gc (neg:=na) hx;have e:=Gc (neg:=nb) hy;have b:v false xs=(I (v na xs):Int):=by
  have:=BK hx;unfold v;cases na <;> simp <;> omega
 have c:v false ys=(I (v nb ys):Int):=by
  have:=BK hy;unfold v;cases nb <;> simp <;> omega
 rw[b] at m1;rw[c] at a;exact A4z na nb xs ys _ _ _ _ m1 a (Aqf _ (I (v na xs)) (I (v nb ys)) (A2 _) (by omega) (by omega))
theorem pO(a b:G):B5 (a++b)=FO (B5 a) (B5 b):=by
 induction a with
 | nil=>simp[B5]
 | cons x a c=>simp only[Ks,B5,c,Nat.gcd_assoc]
theorem YE{rs:D}{i:Nat}(h:i<F rs):(Al rs).take (i+1)=(Al rs).take i++[B (H rs i z0)]:=by
 rw[Dz (by rw[B1];exact h)];congr 2;rw[<- Eh,Ad,Am (by rw[B1];exact h)];rfl
theorem vV{K:Nat}{rs:D}(a:∀ r∈rs,BC K r)(f:K<1000000)(g:F rs<=1048576):T 137 [sL S rs] (M (B5 (Al rs):Nat)):=by
 have h:=Et (prog:=DP) (c:=oU) (ex := .exit 0) (fin:=Sr rs (V (B5 (Al rs):Nat)) (F rs:Nat))
  (fun i=>Sr rs (V (B5 ((Al rs).take i):Nat)) (i:Nat)) (F rs) (by nofun) ?_ ?_ 0 (A_ _)
 ·exact A5c rs (V (B5 (Al rs):Nat)) _ h
 ·intro i hi;have b:Q X (i+1)=((i+1:Nat):Int):=wrz
  obtain⟨d,j⟩:=Cm a i;have e:u K (B5 ((Al rs).take i)):=VQ fun x hx=>DW a x (C5 hx);have l:=e.len;have hc:=pL (na:=(V (B5 ((Al rs).take i):Nat)).1) (nb:=(H rs i z0).1) (xs:=(V (B5 ((Al rs).take i):Nat)).2) (ys:=(H rs i z0).2) (CB _) d (by rw[JY];omega) (by omega);rw[Qw] at hc;have k:=A5a rs (V (B5 ((Al rs).take i):Nat)) (i:Nat) _ (by simp;omega) (by omega) (by rw[Aa];exact hc);refine k.to rfl ?_;rw[b,YE hi,pO];congr 2;show (FO (I ((B5 ((Al rs).take i):Int))) (I (B (H rs i z0))):Int)=_;rw[C9];simp[B5]
 ·rw[Dt (by rw[B1];omega)];exact A5b rs _ _ (by simp)
theorem Hn(g:Nat->Int)(i:Nat):S ((Ay i).map fun j=>V (g j))++([W (E (g i<0)),sL A (o (I (g i)))]:AK)=S ((Ay (i+1)).map fun j=>V (g j)):=by
 rw[Re (fun j=>V (g j)),<- vG];rfl
theorem Afm{K:Nat}{x:Int}(h:u K x)(c:Int):u K (AF x c):=by
 unfold u at *
 have:I (AF x c)=I x / I c:=Int.natAbs_tdiv x c;have:=Nat.div_le_self (I x) (I c);omega
theorem Kn{K:Nat}{rs:D}(b:∀ r∈rs,BC K r)(m:K<1000000)(d:F rs<=1048576):T 86 [sL S rs] (Ae 2 (F (prim (Al rs))) (pk (prim (Al rs)))):=by
 have hi:=vV b m d;have n:u K (B5 (Al rs)):=VQ (DW b);have s:=n.len;have hs:=If (neg:=(V (B5 (Al rs):Nat)).1) (xs:=(V (B5 (Al rs):Nat)).2) (CB _) (by rw[JY];omega);rw[Qw] at hs;by_cases g:B5 (Al rs)=0
 ·rw[EM.2 (Ls.1 g)];exact Apn rs _ (by rw[g];rfl) hi hs
 ·have h:=Et (prog:=DP) (c:=Ako) (ex := .exit 0) (fin:=Ym rs (V (B5 (Al rs):Nat)) (F rs) (S ((Ay (F rs)).map fun j=>V (AF (B (H rs j z0)) (B5 (Al rs):Nat)))) (F rs:Nat))
   (fun i=>Ym rs (V (B5 (Al rs):Nat)) i (S ((Ay i).map fun j=>V (AF (B (H rs j z0)) (B5 (Al rs):Nat)))) (i:Nat)) (F rs) (by nofun) ?_ ?_ 0 (A_ _)
  ·have o:∀ r∈(Ay (F rs)).map (fun j=>V (AF (B (H rs j z0)) (B5 (Al rs):Nat))),BC 1048576 r:=Ur fun j _=>(BB (Afm (Cm b j).fits _)).mono (by omega);have a:=FM o (by rw[Ac,CF];exact d);have e:Af (Al ((Ay (F rs)).map (fun j=>V (AF (B (H rs j z0)) (B5 (Al rs):Nat)))))=prim (Al rs):=by
    rw[<- De (Al rs)];apply HI;intro i;rw[Oz,AO,Lu,<- Eh];by_cases h1:i<F rs
    ·rw[Ar h1,OF (by omega) (Jl _ _)]
    ·rw[Aw h1,Cp (by rw[B1];omega),Int.zero_ediv]
   (first|rw[e,Ac,CF] at a|(rw[e] at a;unfold sL at a;rw[Ac,CF] at a));have l:pk (prim (Al rs))=S ((prim (Al rs)).map V):=rfl;(first|rw[l,<- Ac (f:=V)] at a |-|(rw[l] at a |-;unfold sL at a;rw[<- Ac (f:=V)] at a |-));exact Apo rs _ _ _ _ _ (by rw[C3];unfold B4; (repeat' split) <;> omega) hi hs h a
  ·intro i t;have p:Q X (i+1)=((i+1:Nat):Int):=wrz
   obtain⟨q,v⟩:=Cm b i;have hd:=jT (na:=(H rs i z0).1) (nb:=(V (B5 (Al rs):Nat)).1) (xs:=(H rs i z0).2) (ys:=(V (B5 (Al rs):Nat)).2) q (CB _) (by rw[Qw];omega) (by omega) (by rw[JY];omega);rw[Qw] at hd;have k:=AEa rs (V (B5 (Al rs):Nat)) i (S ((Ay i).map fun j=>V (AF (B (H rs j z0)) (B5 (Al rs):Nat)))) (i:Nat) _ _ (by simp;omega) (by omega) (by omega) (by rw[Aa];exact hd);refine k.to rfl ?_;rw[p,<- Hn (fun j=>AF (B (H rs j z0)) (B5 (Al rs):Nat)) i];rfl
  ·exact AEb rs _ _ _ _ (by simp)
theorem jU{K:Nat}{rs:D}(b:∀ r∈rs,BC K r)(s:K+2<=1000000)(t:F rs<=1048576):T 122 [sL S rs] (Ae 2 (F (AE (Al rs))) (pk (AE (Al rs)))):=by
 have h:=Et (prog:=DP) (c:=oV) (ex := .exit 0) (fin:=Ss rs (F rs-1) (S ((Ay (F rs-1)).map fun j=>V ((j+1:Nat)*B (H rs (j+1) z0)))) ((F rs-1+1:Nat)))
  (fun i=>Ss rs i (S ((Ay i).map fun j=>V ((j+1:Nat)*B (H rs (j+1) z0)))) ((i+1:Nat))) (F rs-1) (by nofun) ?_ ?_ 0 (A_ _)
 ·have l:∀ r∈(Ay (F rs-1)).map (fun j=>V ((j+1:Nat)*B (H rs (j+1) z0))),BC 1048576 r:=Ur fun j hj=>by
   have h2:u 2 ((j+1:Nat)):=SS (by omega);exact (BB (h2.mul (Cm b (j+1)).fits)).mono (by omega)
  have a:=FM l (by rw[Ac,CF];omega);have e:Af (Al ((Ay (F rs-1)).map (fun j=>V ((j+1:Nat)*B (H rs (j+1) z0)))))=AE (Al rs):=by
   unfold AE;apply HI;intro i;rw[Oz,HV,AO,Eh,B1,AT]
  (first|rw[e,Ac,CF] at a|(rw[e] at a;unfold sL at a;rw[Ac,CF] at a));have d:pk (AE (Al rs))=S ((AE (Al rs)).map V):=rfl;(first|rw[d,<- Ac (f:=V)] at a |-|(rw[d] at a |-;unfold sL at a;rw[<- Ac (f:=V)] at a |-));exact A5f rs _ _ _ _ h a
 ·intro i hi;have m:Q X ((i+1:Nat)+1)=((i+1+1:Nat):Int):=wrz
  obtain⟨o,v⟩:=Cm b (i+1);have p:=MW (n:=((i+1:Nat):Int)) (by omega);have q:u 2 ((i+1:Nat)):=SS (by omega);have g:=Si (na:=(V ((i+1:Nat))).1) (nb:=(H rs (i+1) z0).1) (xs:=(V ((i+1:Nat))).2) (ys:=(H rs (i+1) z0).2) (pK _) o (by rw[JY];have:=q.len;omega);rw[Qw] at g;have k:=A5d rs i (S ((Ay i).map fun j=>V ((j+1:Nat)*B (H rs (j+1) z0)))) ((i+1:Nat)) (by simp;omega) (by omega) (by omega) p (by rw[Aa];exact g);refine k.to rfl ?_;rw[m,<- Hn (fun j=>((j+1:Nat):Int)*B (H rs (j+1) z0)) i,Aa]
 ·exact A5e rs _ _ _ (by rw[AW];omega)
theorem jV{rs:D}(b:∀ r∈rs,BC 1048576 r)(g:F rs<=1048576):T 153 [sL S rs] (Ae 2 (F (Af (z (Al rs)))) (pk (Af (z (Al rs))))):=by
 have h:=Et (prog:=DP) (c:=oW) (ex := .exit 0) (fin:=St rs (F rs) (S ((Ay (F rs)).map fun j=>V (-B (H rs j z0)))) (F rs:Nat))
  (fun i=>St rs i (S ((Ay i).map fun j=>V (-B (H rs j z0)))) (i:Nat)) (F rs) (by nofun) ?_ ?_ 0 (A_ _)
 ·have l:∀ r∈(Ay (F rs)).map (fun j=>V (-B (H rs j z0))),BC 1048576 r:=Ur fun j _=>BB (Cm b j).fits.neg;have a:=FM l (by rw[Ac,CF];exact g);have e:Af (Al ((Ay (F rs)).map (fun j=>V (-B (H rs j z0)))))=Af (z (Al rs)):=by
   apply HI;intro i;rw[Oz,AO,IW,<- Eh];split
   ·rfl
   ·rw[Cp (by rw[B1];omega)];rfl
  (first|rw[e,Ac,CF] at a|(rw[e] at a;unfold sL at a;rw[Ac,CF] at a));have d:pk (Af (z (Al rs)))=S ((Af (z (Al rs))).map V):=rfl;(first|rw[d,<- Ac (f:=V)] at a |-|(rw[d] at a |-;unfold sL at a;rw[<- Ac (f:=V)] at a |-));exact A5i rs _ _ _ _ h a
 ·intro i hi;have m:Q X (i+1)=((i+1:Nat):Int):=wrz
  obtain⟨n,o⟩:=Cm b i;have k:=A5g rs i (S ((Ay i).map fun j=>V (-B (H rs j z0)))) (i:Nat) (by simp;omega) (by omega) (by omega) (by rw[Aa];exact Th n o);refine k.to rfl ?_;rw[m,<- Hn (fun j => -B (H rs j z0)) i,Aa]
 ·exact A5h rs _ _ _ (by simp)
def Qx:ICode:=a mH 81 494580
section
variable(d:D)(k:Nat)(rs:D)(t a b:Rn)(c n i:Int)
def IF:Az:=L 1 (C (sL S d)::L 3 (Ak 2 k (S rs)::AH [W t.1,P (F t.2) (A t.2)]::L 2 (AH [W a.1,P (F a.2) (A a.2)]::L 1 (AH [W b.1,P (F b.2) (A b.2)]::L 1 (N c::L 49 (N n::N i::L 34 []))))))
theorem Aqg(c1:E (i<n)=true)(h:E (i>=c)=true)(e:0<=i/\i<k)(f:F rs=k)(g:F (rs.set (Y i) (V (B (H rs (Y i) z0)*B a)))=k)(j:0<=Q X (i-c)/\Q X (i-c)<(F d:Int))(m:T 112 [AB (H rs (Y i) z0),AB a] (M (B (H rs (Y i) z0)*B a)))(o:T 112 [AB b,AB (H d (Y (Q X (i-c))) z0)] (M (B b*B (H d (Y (Q X (i-c))) z0))))(p:T 127 [AB (H (rs.set (Y i) (V (B (H rs (Y i) z0)*B a))) (Y i) z0),M (B b*B (H d (Y (Q X (i-c))) z0))] (M ((B (H (rs.set (Y i) (V (B (H rs (Y i) z0)*B a))) (Y i) z0))-(B b*B (H d (Y (Q X (i-c))) z0))))):Z Qx (IF d k rs t a b c n i) .norm (IF d k ((rs.set (Y i) (V (B (H rs (Y i) z0)*B a))).set (Y i) (V ((B (H (rs.set (Y i) (V (B (H rs (Y i) z0)*B a))) (Y i) z0))-(B b*B (H d (Y (Q X (i-c))) z0))))) t a b c n (Q X (i+1))):=Ab Cd [bT,.v (AB (H rs (Y i) z0)),.r (M (B (H rs (Y i) z0)*B a)),.l (S (rs.set (Y i) (V (B (H rs (Y i) z0)*B a)))),bT,.v (AB (H (rs.set (Y i) (V (B (H rs (Y i) z0)*B a))) (Y i) z0)),.v (AB (H d (Y (Q X (i-c))) z0)),.r (M (B b*B (H d (Y (Q X (i-c))) z0))),.r (M ((B (H (rs.set (Y i) (V (B (H rs (Y i) z0)*B a))) (Y i) z0))-(B b*B (H d (Y (Q X (i-c))) z0)))),.l (S ((rs.set (Y i) (V (B (H rs (Y i) z0)*B a))).set (Y i) (V ((B (H (rs.set (Y i) (V (B (H rs (Y i) z0)*B a))) (Y i) z0))-(B b*B (H d (Y (Q X (i-c))) z0))))))] sH (OX c1 e (GH f e) m e (HJ (r:=V (B (H rs (Y i) z0)*B a)) f e) h e (GZ (GH g e) j (BZ j) o p e (HJ (r:=V ((B (H (rs.set (Y i) (V (B (H rs (Y i) z0)*B a))) (Y i) z0))-(B b*B (H d (Y (Q X (i-c))) z0)))) g e)))
theorem Aqh(c1:E (i<n)=true)(h:E (i>=c)=false)(e:0<=i/\i<k)(f:F rs=k)(g:T 112 [AB (H rs (Y i) z0),AB a] (M (B (H rs (Y i) z0)*B a))):Z Qx (IF d k rs t a b c n i) .norm (IF d k (rs.set (Y i) (V (B (H rs (Y i) z0)*B a))) t a b c n (Q X (i+1))):=Ab Cd [bT,.v (AB (H rs (Y i) z0)),.r (M (B (H rs (Y i) z0)*B a)),.l (S (rs.set (Y i) (V (B (H rs (Y i) z0)*B a)))),bF] sH (GZ c1 e (GH f e) g e (HJ (r:=V (B (H rs (Y i) z0)*B a)) f e) h)
theorem Aqi(c1:E (i<n)=false):Z Qx (IF d k rs t a b c n i) xZ2 (IF d k rs t a b c n i):=Ab Cd [bF] sH (BO c1)
end
def Xh:ICode:=a mH 93 120
section
variable(c:D)(k:Nat)(rs:D)(t:Rn)
def MC:Az:=L 1 (C (sL S c)::L 3 (Ak 2 k (S rs)::AH [W t.1,P (F t.2) (A t.2)]::L 92 []))
theorem A6d(os us:D)(a b:Rn)(g ab x y h d e s j n i:Int)(c1:E ((k:Int)>=(F c:Int))=true)(l:E (s<0)=true)(f:0<=Q X (k-1)/\Q X (k-1)<(k:Int))(m:F rs=k)(o:T 159 [AB t,AB (H rs (Y (Q X (k-1))) z0)] (M g))(p:T 160 [AB t] (M ab))(q:T 158 [M ab,M g] (A3 [M x,M d]))(u:T 158 [AB (H rs (Y (Q X (k-1))) z0),M g] (A3 [M y,M e]))(w:T 101 [AB t] (J X s))(z:T 131 [M y] (M h))(B:Z (.loop Qx) (IF c k rs t (V x) (V h) (Q X (k-F c)) k 0) xZ2 (IF c k os t a b j n i))(G:T 115 [P k (S os)] (Ae 2 (F us) (S us))):Z Xh (MC c k rs t) .norm (MC c (F us) us t):=Ag (Ab (t:=L 1 (vp c::L 3 (Ak 2 k (S rs)::bR t::L 18 (.dup 5::L 73 [])))) Cd [bT] [1,5,6,25] (BO c1)) (Bo (As (As (As (As (As (AA (Ag (Ab Cd [.v (AB (H rs (Y (Q X (k-1))) z0)),.r (M g),.r (M ab),.r (A3 [M x,M d]),.r (A3 [M y,M e]),.r (J X s),bT,.r (M h)] sH (M3 f (GH m f) o p q u w l z)) (Ag (A7 B) (Ab Cd [.r (Ae 2 (F us) (S us))] [1,5,6] (BO G)))))))))))
theorem A6e(os us:D)(a b:Rn)(g ab x y d e s j n i:Int)(c1:E ((k:Int)>=(F c:Int))=true)(l:E (s<0)=false)(f:0<=Q X (k-1)/\Q X (k-1)<(k:Int))(m:F rs=k)(o:T 159 [AB t,AB (H rs (Y (Q X (k-1))) z0)] (M g))(p:T 160 [AB t] (M ab))(q:T 158 [M ab,M g] (A3 [M x,M d]))(u:T 158 [AB (H rs (Y (Q X (k-1))) z0),M g] (A3 [M y,M e]))(w:T 101 [AB t] (J X s))(I:Z (.loop Qx) (IF c k rs t (V x) (V y) (Q X (k-F c)) k 0) xZ2 (IF c k os t a b j n i))(K:T 115 [P k (S os)] (Ae 2 (F us) (S us))):Z Xh (MC c k rs t) .norm (MC c (F us) us t):=Ag (Ab (t:=L 1 (vp c::L 3 (Ak 2 k (S rs)::bR t::L 18 (.dup 5::L 73 [])))) Cd [bT] [1,5,6,25] (BO c1)) (Bo (As (As (As (As (As (AA (Ag (Ab Cd [.v (AB (H rs (Y (Q X (k-1))) z0)),.r (M g),.r (M ab),.r (A3 [M x,M d]),.r (A3 [M y,M e]),.r (J X s),bF] sH (Ip f (GH m f) o p q u w l)) (Ag (A7 I) (Ab Cd [.r (Ae 2 (F us) (S us))] [1,5,6] (BO K)))))))))))
theorem vW(c1:E ((k:Int)>=(F c:Int))=false):Z Xh (MC c k rs t) xZ0 (MC c k rs t):=AG (Ab Cd [bF] [1,5,6] (BO c1))
end
theorem A6f(rs ss ps a us:D)(t:Rn)(k:Nat)(c:T 115 [sL S rs] (Ae 2 (F ps) (S ps)))(d:T 115 [sL S ss] (Ae 2 (F a) (S a)))(b:0<=Q X (F a-1)/\Q X (F a-1)<(F a:Int))(e:Z (.loop Xh) (MC a (F ps) ps (H a (Y (Q X (F a-1))) z0)) xZ0 (MC a k us t)):T 118 [sL S rs,sL S ss] (Ae 2 k (S us)):=CQ mH (L 4 (Ak 2 k (S us)::L 94 [])) (As (As (Ag (Ab Cd [.r (Ae 2 (F ps) (S ps)),.r (Ae 2 (F a) (S a)),.v (AB (H a (Y (Q X (F a-1))) z0))] [1,5,6] (FJ c d b (BZ b))) (Ag (A7 e) (Ab Cd [] [4] a0)))))
def Xi:ICode:=a mM 94 56
section
variable(a bs:D)
def MD:Az:=L 5 (C (sL S a)::C (sL S bs)::L 13 [])
theorem vX(us:D)(c1:E ((F bs:Int)>0)=true)(b:T 118 [sL S a,sL S bs] (Ae 2 (F us) (S us))):Z Xi (MD a bs) .norm (MD bs us):=Ab Cd [bT,.r (Ae 2 (F us) (S us))] [5,6] (DH c1 b)
theorem vY(c1:E ((F bs:Int)>0)=false):Z Xi (MD a bs) xZ0 (MD a bs):=Ab Cd [bF] [5,6] (BO c1)
end
theorem Afn(rs ss ps a b bs ts:D)(c:T 115 [sL S rs] (Ae 2 (F ps) (S ps)))(d:T 115 [sL S ss] (Ae 2 (F a) (S a)))(e:Z (.loop Xi) (MD ps a) xZ0 (MD b bs))(f:T 155 [sL S b] (Ae 2 (F ts) (S ts))):T 135 [sL S rs,sL S ss] (Ae 2 (F ts) (S ts)):=CQ mM (L 4 (Ak 2 (F ts) (S ts)::L 15 [])) (As (Ag (Ab Cd [.r (Ae 2 (F ps) (S ps)),.r (Ae 2 (F a) (S a))] [5,6] (DH c d)) (Ag (A7 e) (Ab Cd [.r (Ae 2 (F ts) (S ts))] [4] (BO f)))))
theorem Afo(rs ss ps b a bs:D)(c:T 115 [sL S rs] (Ae 2 (F ps) (S ps)))(d:T 115 [sL S ss] (Ae 2 (F b) (S b)))(e:Z (.loop Xi) (MD ps b) xZ0 (MD a bs))(f:T 155 [sL S a] (sL S a)):T 135 [sL S rs,sL S ss] (sL S a):=CQ mM (L 4 (C (sL S a)::L 15 [])) (As (Ag (Ab Cd [.r (Ae 2 (F ps) (S ps)),.r (Ae 2 (F b) (S b))] [5,6] (DH c d)) (Ag (A7 e) (Ab Cd [.r (sL S a)] [4] (BO f)))))
def VR:ICode:=a WE 83 128148
section
variable(a:D)(k:Nat)(rs:D)(t:Rn)(b:Nat)(os:D)(j:Int)(l:Rn)(n i:Int)
def LV:Az:=L 1 (C (sL S a)::L 3 (Ak 2 k (S rs)::AH [W t.1,P (F t.2) (A t.2)]::Ak 2 b (S os)::N j::AH [W l.1,P (F l.2) (A l.2)]::L 34 (N n::N i::L 57 [])))
theorem Aqj(c1:E (i<n)=true)(c:0<=i/\i<k)(d:F rs=k)(e:T 112 [AB (H rs (Y i) z0),AB t] (M (B (H rs (Y i) z0)*B t))):Z VR (LV a k rs t b os j l n i) .norm (LV a k (rs.set (Y i) (V (B (H rs (Y i) z0)*B t))) t b os j l n (Q X (i+1))):=Ab Cd [bT,.v (AB (H rs (Y i) z0)),.r (M (B (H rs (Y i) z0)*B t)),.l (S (rs.set (Y i) (V (B (H rs (Y i) z0)*B t))))] Azw (Gm c1 c (GH d c) e c (HJ (r:=V (B (H rs (Y i) z0)*B t)) d c))
theorem Aqk(c1:E (i<n)=false):Z VR (LV a k rs t b os j l n i) xZ2 (LV a k rs t b os j l n i):=Ab Cd [bF] Azw (BO c1)
end
def VS:ICode:=a WE 82 256308
section
variable(b:D)(k:Nat)(rs:D)(t:Rn)(a:Nat)(os:D)(j:Int)(l:Rn)(n i:Int)
def LW:Az:=L 1 (C (sL S b)::L 3 (Ak 2 k (S rs)::AH [W t.1,P (F t.2) (A t.2)]::Ak 2 a (S os)::N j::AH [W l.1,P (F l.2) (A l.2)]::L 49 (N n::N i::L 42 [])))
theorem Aql(c1:E (i<n)=true)(c:0<=i/\i<a)(d:F os=a)(e:T 112 [AB (H os (Y i) z0),AB t] (M (B (H os (Y i) z0)*B t))):Z VS (LW b k rs t a os j l n i) .norm (LW b k rs t a (os.set (Y i) (V (B (H os (Y i) z0)*B t))) j l n (Q X (i+1))):=Ab Cd [bT,.v (AB (H os (Y i) z0)),.r (M (B (H os (Y i) z0)*B t)),.l (S (os.set (Y i) (V (B (H os (Y i) z0)*B t))))] Azx (Gm c1 c (GH d c) e c (HJ (r:=V (B (H os (Y i) z0)*B t)) d c))
theorem Aqm(c1:E (i<n)=false):Z VS (LW b k rs t a os j l n i) xZ4 (LW b k rs t a os j l n i):=Ab Cd [bF] Azx (BO c1)
end
def VT:ICode:=a WE 81 512636
section
variable(a:D)(k:Nat)(rs:D)(t:Rn)(b:Nat)(os:D)(j:Int)(l:Rn)(n i:Int)
def LX:Az:=L 1 (C (sL S a)::L 3 (Ak 2 k (S rs)::AH [W t.1,P (F t.2) (A t.2)]::Ak 2 b (S os)::N j::AH [W l.1,P (F l.2) (A l.2)]::L 68 (N n::N i::L 23 [])))
theorem Aqn(c1:E (i<n)=true)(c:0<=Q X (j+i)/\Q X (j+i)<(k:Int))(d:F rs=k)(e:0<=i/\i<F a)(f:T 112 [AB l,AB (H a (Y i) z0)] (M (B l*B (H a (Y i) z0))))(g:T 127 [AB (H rs (Y (Q X (j+i))) z0),M (B l*B (H a (Y i) z0))] (M ((B (H rs (Y (Q X (j+i))) z0))-(B l*B (H a (Y i) z0))))):Z VT (LX a k rs t b os j l n i) .norm (LX a k (rs.set (Y (Q X (j+i))) (V ((B (H rs (Y (Q X (j+i))) z0))-(B l*B (H a (Y i) z0))))) t b os j l n (Q X (i+1))):=Ab Cd [bT,.v (AB (H rs (Y (Q X (j+i))) z0)),.v (AB (H a (Y i) z0)),.r (M (B l*B (H a (Y i) z0))),.r (M ((B (H rs (Y (Q X (j+i))) z0))-(B l*B (H a (Y i) z0)))),.l (S (rs.set (Y (Q X (j+i))) (V ((B (H rs (Y (Q X (j+i))) z0))-(B l*B (H a (Y i) z0))))))] Azy (M3 c1 c (GH d c) e (BZ e) f g c (HJ (r:=V ((B (H rs (Y (Q X (j+i))) z0))-(B l*B (H a (Y i) z0)))) d c))
theorem Aqo(c1:E (i<n)=false):Z VT (LX a k rs t b os j l n i) xZ6 (LX a k rs t b os j l n i):=Ab Cd [bF] Azy (BO c1)
end
def pQ:ICode:=a WE 91 500
section
variable(a:D)(k:Nat)(rs:D)(t:Rn)(b:Nat)(os:D)(j:Int)
def UE:Az:=L 1 (C (sL S a)::L 3 (Ak 2 k (S rs)::AH [W t.1,P (F t.2) (A t.2)]::Ak 2 b (S os)::N j::L 94 []))
theorem A6g(d e c:D)(m1 h i m n o:Int)(c1:E (j>=0)=true)(f:0<=Q X (Q X (j+F a)-1)/\Q X (Q X (j+F a)-1)<(k:Int))(p:F rs=k)(q:Z (.loop VR) (LV a k rs t b os j (H rs (Y (Q X (Q X (j+F a)-1))) z0) k 0) xZ2 (LV a k d t b os j (H rs (Y (Q X (Q X (j+F a)-1))) z0) m1 h))(s:Z (.loop VS) (LW a k d t b os j (H rs (Y (Q X (Q X (j+F a)-1))) z0) b 0) xZ4 (LW a k d t b c j (H rs (Y (Q X (Q X (j+F a)-1))) z0) i m))(g:0<=j/\j<b)(u:F c=b)(w:Z (.loop VT) (LX a k d t b (c.set (Y j) (H rs (Y (Q X (Q X (j+F a)-1))) z0)) j (H rs (Y (Q X (Q X (j+F a)-1))) z0) (F a) 0) xZ6 (LX a k e t b (c.set (Y j) (H rs (Y (Q X (Q X (j+F a)-1))) z0)) j (H rs (Y (Q X (Q X (j+F a)-1))) z0) n o)):Z pQ (UE a k rs t b os j) .norm (UE a k e t b (c.set (Y j) (H rs (Y (Q X (Q X (j+F a)-1))) z0)) (Q X (j-1))):=Ag (Ab (t:=L 1 (vp a::L 3 (Ak 2 k (S rs)::bR t::Ak 2 b (S os)::N j::L 94 []))) Cd [bT] Ajp (BO c1)) (Ag (Bo (AA (Ag (Ab Cd [.v (AB (H rs (Y (Q X (Q X (j+F a)-1))) z0))] Azw (DH f (GH p f))) (Ag (A7 q) (Ag (Ag (Ab Cd [] Azx a0) (A7 s)) (As (Ag (Ab Cd [.l (S (c.set (Y j) (H rs (Y (Q X (Q X (j+F a)-1))) z0)))] Azy (DH g (HJ (r:=H rs (Y (Q X (Q X (j+F a)-1))) z0) u g))) (A7 w)))))))) (Ab Cd [] Ajp a0))
theorem A6h(c1:E (j>=0)=false):Z pQ (UE a k rs t b os j) xZ0 (UE a k rs t b os j):=AG (Ab Cd [bF] Ajp (BO c1))
end
theorem A6i(rs a ps us xs os:D)(t:Rn)(k b:Nat)(j:Int)(d:T 66 [sL S rs] (Ae 2 (F ps) (S ps)))(c:0<=Q X (F a-1)/\Q X (F a-1)<(F a:Int))(e:0<=Q X (Q X (F ps-F a)+1)/\Q X (Q X (F ps-F a)+1)<=1048576)(f:Z (.loop pQ) ((L 1 (C (sL S a)::L 3 (Ak 2 (F ps) (S ps)::AH [W ((H a (Y (Q X (F a-1))) z0).1),sL A ((H a (Y (Q X (F a-1))) z0).2)]::Ak 2 (Y (Q X (Q X (F ps-F a)+1))) (C_ [W false,P 0 []] (Y (Q X (Q X (F ps-F a)+1))))::N (Q X (Y (Q X (Q X (F ps-F a)+1))-1))::L 94 [])))) xZ0 (UE a k xs t b os j))(g:T 115 [P b (S os)] (Ae 2 (F us) (S us))):T 156 [sL S rs,sL S a] (Ae 2 (F us) (S us)):=CQ WE (L 4 (Ak 2 (F us) (S us)::L 98 [])) (As (As (As (AA (Ag (Ab Cd [.r (Ae 2 (F ps) (S ps)),.v (AB (H a (Y (Q X (F a-1))) z0))] Ajp (FJ d c (BZ c) e)) (Ag (A7 f) (Ab Cd [.r (Ae 2 (F us) (S us))] [4] (BO g))))))))
theorem fJ(rs ps xs:D)(c1:E ((F xs:Int)<2)=true)(a:T 115 [sL S rs] (Ae 2 (F ps) (S ps)))(b:T 155 [sL S ps] (Ae 2 (F xs) (S xs))):T 114 [sL S rs] (sL S xs):=Bc (fn:=iF AC NA) Cd rfl 400 rfl [.r (Ae 2 (F ps) (S ps)),.r (Ae 2 (F xs) (S xs)),bT] (Gy a b c1)
theorem fK(rs ps xs a b:D)(c1:E ((F xs:Int)<2)=false)(c:E ((F b:Int)<2)=true)(d:T 115 [sL S rs] (Ae 2 (F ps) (S ps)))(e:T 155 [sL S ps] (Ae 2 (F xs) (S xs)))(f:T 116 [sL S xs] (Ae 2 (F a) (S a)))(g:T 135 [sL S xs,sL S a] (Ae 2 (F b) (S b))):T 114 [sL S rs] (sL S xs):=Bc (fn:=iF AC NA) Cd rfl 400 rfl [.r (Ae 2 (F ps) (S ps)),.r (Ae 2 (F xs) (S xs)),bF,.r (Ae 2 (F a) (S a)),.r (Ae 2 (F b) (S b)),bT] (Gm d e c1 f g c)
theorem fL(rs ps xs b a us:D)(c1:E ((F xs:Int)<2)=false)(c:E ((F a:Int)<2)=false)(d:T 115 [sL S rs] (Ae 2 (F ps) (S ps)))(e:T 155 [sL S ps] (Ae 2 (F xs) (S xs)))(f:T 116 [sL S xs] (Ae 2 (F b) (S b)))(g:T 135 [sL S xs,sL S b] (Ae 2 (F a) (S a)))(h:T 156 [sL S xs,sL S a] (Ae 2 (F us) (S us))):T 114 [sL S rs] (Ae 2 (F us) (S us)):=Bc (fn:=iF AC NA) Cd rfl 400 rfl [.r (Ae 2 (F ps) (S ps)),.r (Ae 2 (F xs) (S xs)),bF,.r (Ae 2 (F b) (S b)),.r (Ae 2 (F a) (S a)),bF,.r (Ae 2 (F us) (S us))] (GZ d e c1 f g c h)
theorem fM(rs ps xs a b:D)(c1:E ((F xs:Int)<2)=false)(c:E ((F b:Int)<2)=true)(d:T 115 [sL S rs] (Ae 2 (F ps) (S ps)))(e:T 155 [sL S ps] (Ae 2 (F xs) (S xs)))(f:T 116 [sL S xs] (Ae 2 (F a) (S a)))(g:T 135 [sL S xs,sL S a] (sL S b)):T 114 [sL S rs] (sL S xs):=Bc (fn:=iF AC NA) Cd rfl 400 rfl [.r (Ae 2 (F ps) (S ps)),.r (Ae 2 (F xs) (S xs)),bF,.r (Ae 2 (F a) (S a)),.r (sL S b),bT] (Gm d e c1 f g c)
theorem fN(rs ps xs a b us:D)(c1:E ((F xs:Int)<2)=false)(c:E ((F b:Int)<2)=false)(d:T 115 [sL S rs] (Ae 2 (F ps) (S ps)))(e:T 155 [sL S ps] (Ae 2 (F xs) (S xs)))(f:T 116 [sL S xs] (Ae 2 (F a) (S a)))(g:T 135 [sL S xs,sL S a] (sL S b))(h:T 156 [sL S xs,sL S b] (Ae 2 (F us) (S us))):T 114 [sL S rs] (Ae 2 (F us) (S us)):=Bc (fn:=iF AC NA) Cd rfl 400 rfl [.r (Ae 2 (F ps) (S ps)),.r (Ae 2 (F xs) (S xs)),bF,.r (Ae 2 (F a) (S a)),.r (sL S b),bF,.r (Ae 2 (F us) (S us))] (GZ d e c1 f g c h)
theorem fO(rs ps a b:D)(c1:E ((F ps:Int)<2)=false)(c:E ((F b:Int)<2)=true)(d:T 115 [sL S rs] (Ae 2 (F ps) (S ps)))(e:T 155 [sL S ps] (sL S ps))(f:T 116 [sL S ps] (Ae 2 (F a) (S a)))(g:T 135 [sL S ps,sL S a] (Ae 2 (F b) (S b))):T 114 [sL S rs] (sL S ps):=Bc (fn:=iF AC NA) Cd rfl 400 rfl [.r (Ae 2 (F ps) (S ps)),.r (sL S ps),bF,.r (Ae 2 (F a) (S a)),.r (Ae 2 (F b) (S b)),bT] (Gm d e c1 f g c)
theorem fP(rs ps b a us:D)(c1:E ((F ps:Int)<2)=false)(c:E ((F a:Int)<2)=false)(d:T 115 [sL S rs] (Ae 2 (F ps) (S ps)))(e:T 155 [sL S ps] (sL S ps))(f:T 116 [sL S ps] (Ae 2 (F b) (S b)))(g:T 135 [sL S ps,sL S b] (Ae 2 (F a) (S a)))(h:T 156 [sL S ps,sL S a] (Ae 2 (F us) (S us))):T 114 [sL S rs] (Ae 2 (F us) (S us)):=Bc (fn:=iF AC NA) Cd rfl 400 rfl [.r (Ae 2 (F ps) (S ps)),.r (sL S ps),bF,.r (Ae 2 (F b) (S b)),.r (Ae 2 (F a) (S a)),bF,.r (Ae 2 (F us) (S us))] (GZ d e c1 f g c h)
theorem fQ(rs ps:D)(c1:E ((F ps:Int)<2)=true)(a:T 115 [sL S rs] (Ae 2 (F ps) (S ps)))(b:T 155 [sL S ps] (sL S ps)):T 114 [sL S rs] (sL S ps):=Bc (fn:=iF AC NA) Cd rfl 400 rfl [.r (Ae 2 (F ps) (S ps)),.r (sL S ps),bT] (Gy a b c1)
theorem fR(rs ps a b:D)(c1:E ((F ps:Int)<2)=false)(c:E ((F b:Int)<2)=true)(d:T 115 [sL S rs] (Ae 2 (F ps) (S ps)))(e:T 155 [sL S ps] (sL S ps))(f:T 116 [sL S ps] (Ae 2 (F a) (S a)))(g:T 135 [sL S ps,sL S a] (sL S b)):T 114 [sL S rs] (sL S ps):=Bc (fn:=iF AC NA) Cd rfl 400 rfl [.r (Ae 2 (F ps) (S ps)),.r (sL S ps),bF,.r (Ae 2 (F a) (S a)),.r (sL S b),bT] (Gm d e c1 f g c)
theorem fS(rs ps a b us:D)(c1:E ((F ps:Int)<2)=false)(c:E ((F b:Int)<2)=false)(d:T 115 [sL S rs] (Ae 2 (F ps) (S ps)))(e:T 155 [sL S ps] (sL S ps))(f:T 116 [sL S ps] (Ae 2 (F a) (S a)))(g:T 135 [sL S ps,sL S a] (sL S b))(h:T 156 [sL S ps,sL S b] (Ae 2 (F us) (S us))):T 114 [sL S rs] (Ae 2 (F us) (S us)):=Bc (fn:=iF AC NA) Cd rfl 400 rfl [.r (Ae 2 (F ps) (S ps)),.r (sL S ps),bF,.r (Ae 2 (F a) (S a)),.r (sL S b),bF,.r (Ae 2 (F us) (S us))] (GZ d e c1 f g c h)
def Ho(a rs:D)(i:Nat):D:=a.take i++rs.drop i
theorem Qy(a rs:D):Ho a rs 0=rs:=by simp [Ho]
section
variable{a rs:D}
theorem Qz(h:F a=F rs):Ho a rs (F rs)=a:=by
 unfold Ho;rw[DD,Ld,Dt (by omega)]
theorem Jo(h:F a=F rs)(i:Nat):F (Ho a rs i)=F rs:=by
 unfold Ho;rw[B0,AX,CX];omega
theorem P9(h:F a=F rs){i:Nat}(hi:i<F rs):H (Ho a rs i) i z0=H rs i z0:=by
 unfold Ho;rw[Ad,Ad,BN (by rw[AX];omega),AX,Cb];congr 2;omega
theorem PA(h:F a=F rs){i:Nat}(hi:i<F rs):(Ho a rs i).set i (H a i z0)=Ho a rs (i+1):=by
 have b:a[i]? = some (H a i z0):=by rw[Ad,Am (by omega)];rfl
 apply HP;intro t;have c:=Jo h i;unfold Ho at *
 rcases Mv t i with g | g | g
 ·rw[H5 (by omega),B2 (by rw[AX];omega),B2 (by rw[AX];omega),Cr g,Cr (by omega)]
 ·subst g;rw[dZ (by omega),B2 (by rw[AX];omega),Cr (by omega),b]
 ·rw[H5 (by omega),BN (by rw[AX];omega),BN (by rw[AX];omega),AX,AX,Cb,Cb];congr 1;omega
end
theorem FZ(p:G)(i:Nat):B (H (p.map V) i z0)=H p i 0:=by rw [<- Eh,Bs]
theorem F7{p:G}{i:Nat}(h:i<F p):H (p.map V) i z0=V (H p i 0):=by
 rw[Ad,CC,Ad,Am h];rfl
theorem Bx{K:Nat}{p:G}(h:Kb K p):∀ r∈p.map V,BC K r:=WK h.mem
theorem jW{rs:D}{i:Nat}{r:Rn}(h:i<F rs):H (rs.set i r) i z0=r:=by
 simp[Ad,h]
theorem NT{x y:Rn}{J K:Nat}(hx:BC J x)(hy:BC K y)(h:J+K<=1048576):T 112 [AB x,AB y] (M (B x*B y)):=Xe hx.1 hy.1 (by have:=hx.2;have:=hy.2;omega)
theorem vZ{x y:Rn}{J K:Nat}(hx:BC J x)(hy:BC K y)(h:J<1048576)(h2:K<1048576):T 127 [AB x,AB y] (M (B x-B y)):=Anu hx.1 hy.1 (by have:=hx.2;omega) (by have:=hy.2;omega)
section
variable {p d:G} {J Kd:Nat}
theorem bL{a b:Int}{t:Rn}(hp:Kb J p)(hd:Kb Kd d)(n:u Kd a)(hb:u J b)(E:J+Kd+1<1048576)(G:F d<=F p)(I:F p<=1048576) :
  Z (.loop Qx) (IF (d.map V) (F p) (p.map V) t (V a) (V b) ((F p-F d:Nat)) (F p:Nat) 0) xZ2
   (IF (d.map V) (F p) ((D7 p d a b (F p)).map V) t (V a) (V b) ((F p-F d:Nat)) (F p:Nat) (F p:Nat)):=by
 have g:F ((D7 p d a b (F p)).map V)=F (p.map V):=by rw[Ac,Ac,F1]
 have w:F (p.map V)=F p:=Ac ..;have h:=Et (prog:=DP) (c:=Qx) (ex := .exit 2) (fin:=IF (d.map V) (F p) ((D7 p d a b (F p)).map V) t (V a) (V b) ((F p-F d:Nat)) (F p:Nat) (F p:Nat))
  (fun i=>IF (d.map V) (F p) (Ho ((D7 p d a b (F p)).map V) (p.map V) i) t (V a) (V b) ((F p-F d:Nat)) (F p:Nat) (i:Nat)) (F p) (by nofun) ?_ ?_ 0 (A_ _)
 ·rw[Qy] at h;exact h
 ·intro i hi;have o:Q X (i+1)=((i+1:Nat):Int):=wrz
  have K:=Jo g i;have e:=P9 g (i:=i) (by omega);have x:H ((D7 p d a b (F p)).map V) i z0=V (H (D7 p d a b (F p)) i 0):=F7 (by rw[F1];exact hi);have f:=Ie p d a b (F p) i;rw[Ar hi] at f;have l:=PA g (i:=i) (by omega);rw[x] at l;have m:=Cm (Bx hp) i;have q:=BB n;have y:=BB hb;have N:=FZ p i;generalize Ho ((D7 p d a b (F p)).map V) (p.map V) i=M at *
  by_cases r:F p-F d<=i
  ·rw[Ar r] at f;have j:Q X (i-(F p-F d:Nat))=((i-(F p-F d):Nat):Int):=wrz
   have s:=Cm (Bx hd) (i-(F p-F d));have z:=FZ d (i-(F p-F d));have m1:=NT m q (by omega);have A:=NT y s (by omega);have C:u (J+Kd) (B (H (p.map V) i z0)*B (V a)):=m.fits.mul (by rw[AO];exact n);have D:u (J+Kd) (B (V b)*B (H (d.map V) (i-(F p-F d)) z0)):=u.mul (by rw[AO];exact hb) s.fits;have v:=vZ (BB C) (BB D) (by omega) (by omega);rw[AO (B (V b)*B (H (d.map V) (i-(F p-F d)) z0))] at v;have k:=Aqg (d.map V) (F p) M t (V a) (V b) ((F p-F d:Nat)) (F p:Nat) (i:Nat) (by simp;omega) (by rw[AZ];omega) (by omega) (by omega) (by rw[BH];omega) (by rw[j,Ac];omega)
    (by rw[Aa,e];exact m1) (by rw[j,Aa];exact A) (by
     simp only[j,Aa,e];rw[jW (by omega)];exact v)
   refine k.to rfl ?_;simp only[j,o,Aa,e];rw[jW (by omega),Ue,AO (B (H (p.map V) i z0)*B (V a)),N,z,AO,AO,AT (H p i 0) a,<- f];rw[l]
  ·rw[Aw r] at f;have m1:=NT m q (by omega);have k:=Aqh (d.map V) (F p) M t (V a) (V b) ((F p-F d:Nat)) (F p:Nat) (i:Nat) (by simp;omega) (by rw[AW];omega) (by omega) (by omega) (by rw[Aa,e];exact m1);refine k.to rfl ?_;simp only[o,Aa,e];rw[N,AO,AT (H p i 0) a,<- f,l]
 ·rw[show Ho ((D7 p d a b (F p)).map V) (p.map V) (F p)=(D7 p d a b (F p)).map V by have h:=Qz g;rw[w] at h;exact h];exact Aqi (d.map V) (F p) _ t _ _ _ _ _ (by simp)
theorem AEi{a b:Int}(h:a ≠ 0):0<Ed a b:=by
 rw[Ed];exact AHp _ (by omega)
theorem Aqp(hp:Kb J p)(hd:Kb Kd d)(L:J+Kd+1<1048576)(a2:d ≠ [])(ht:top d ≠ 0)(M:F d<=F p)(s:F p<=1048576) :
  Z Xh (MC (d.map V) (F p) (p.map V) (V (top d))) .norm (MC (d.map V) (F (EO p d)) ((EO p d).map V) (V (top d))):=by
 have a5:=Av.2 a2;have i:Q X (F p-1)=((F p-1:Nat):Int):=wrz
 have N:Q X (F p-F (d.map V))=((F p-F d:Nat):Int):=by rw[Ac,wqz];omega
 have gt:=BB (FT hd);have l:=Cm (Bx hp) (F p-1);have f:B (H (p.map V) (F p-1) z0)=top p:=FZ p (F p-1);have a6:=AEi (a:=top d) (b:=top p) ht;have w:=jQ (na:=(V (top d)).1) (nb:=(H (p.map V) (F p-1) z0).1) gt.1 l.1 (by have:=gt.2;omega) (by have:=l.2;omega);rw[show v (V (top d)).1 (V (top d)).2=top d from AO _,show v (H (p.map V) (F p-1) z0).1 (H (p.map V) (F p-1) z0).2=top p from f] at w;have O:(Ed (top d) (top p):Int)∣top d:=Int.gcd_dvd_left ..;have z:(Ed (top d) (top p):Int)∣top p:=Int.gcd_dvd_right ..;have A:(Ed (top d) (top p):Int)∣(I (top d):Int):=Int.dvd_natAbs.2 O;have a3:u Kd (Ed (top d) (top p)):=by
  have:=FT hd;unfold u at *
  rw[C9];have:=V4 (by omega) (Il.1 O);omega
 have m:=BB a3;have C:=Xd (neg:=(V (top d)).1) gt.1 (by have:=gt.2;omega);rw[show v (V (top d)).1 (V (top d)).2=top d from AO _] at C;have R:=BB (SY (FT hd));have n:=Tl (na:=(V (I (top d))).1) (nb:=(V (Ed (top d) (top p))).1) R.1 m.1 (by rw[show v (V (Ed (top d) (top p))).1 (V (Ed (top d) (top p))).2=(Ed (top d) (top p):Nat) from AO _];omega) (by have:=R.2;omega) (by have:=m.2;omega);rw[show v (V (Ed (top d) (top p))).1 (V (Ed (top d) (top p))).2=(Ed (top d) (top p):Nat) from AO _,show v (V (I (top d))).1 (V (I (top d))).2=(I (top d):Nat) from AO _] at n;have o:=Tl (na:=(H (p.map V) (F p-1) z0).1) (nb:=(V (Ed (top d) (top p))).1) l.1 m.1 (by rw[show v (V (Ed (top d) (top p))).1 (V (Ed (top d) (top p))).2=(Ed (top d) (top p):Nat) from AO _];omega) (by have:=l.2;omega) (by have:=m.2;omega);rw[show v (V (Ed (top d) (top p))).1 (V (Ed (top d) (top p))).2=(Ed (top d) (top p):Nat) from AO _,show v (H (p.map V) (F p-1) z0).1 (H (p.map V) (F p-1) z0).2=top p from f] at o;have D:(0:Int)<(Ed (top d) (top p):Int):=by omega
 have x1:=Lh A;have U:=Lh z;rw[OF D A] at n;rw[OF D z] at o;have E:=Lz (neg:=(V (top d)).1) gt.1 (by have:=gt.2;omega);rw[show v (V (top d)).1 (V (top d)).2=top d from AO _] at E;have G:u Kd ((I (top d):Int) / (Ed (top d) (top p):Int)):=by
  rcases WM (SY (FT hd)) (Ed (top d) (top p)) with g | g
  ·exact g
  ·exact absurd A g
 have j:u J (top p / (Ed (top d) (top p):Int)):=by
  rcases WM (FT hp) (Ed (top d) (top p)) with g | g
  ·exact g
  ·exact absurd z g
 generalize a7:(Ed (top d) (top p):Int)=e at *
 generalize hx:(I (top d):Int) / e=x at *
 generalize hy:top p / e=y at *
 have W:∀ b:Int,e*b=sg (top d)*top p->EO p d=prim (D7 p d x b (F p)):=by
  intro b hb;have h:=XV (r:=p) (d:=d) (c:=1) (g:=e) (a:=x) (b:=b) (by decide) D x1 hb;rwa [show AM 1 d=d by unfold AM;simp] at h
 have Y:∀ b:Int,e*b=sg (top d)*top p->u J b->T 115 [P (F p) (S ((D7 p d x b (F p)).map V))] (Ae 2 (F ((EO p d).map V)) (S ((EO p d).map V))):=by
  intro b hb a4;have hK:=Vz hp hd G a4 (F p);have h:=FB (rs:=(D7 p d x b (F p)).map V) (Bx hK) (by omega) (by rw[Ac,F1];exact s);(first|rw[Bs,<- W b hb,Ac,F1] at h|(rw[Bs,<- W b hb] at h;unfold sL at h;rw[Ac,F1] at h));rw[Ac];exact h
 by_cases q:top d<0
 ·have a1:=jF (neg:=(V y).1) (xs:=(V y).2) (CB _) (by have:=j.len;rw[JY];omega);rw[show v (V y).1 (V y).2=y from AO _] at a1;have hb:e * -y=sg (top d)*top p:=by unfold sg;rw[Ar q,F8,U];omega
  have K:=bL (t:=V (top d)) hp hd G j.neg L M s;have k:=A6d (d.map V) (F p) (p.map V) (V (top d)) _ _ _ _ e _ x y (-y) _ _ (B4 (top d)) _ _ _ (by rw[AZ,Ac];omega) (by unfold B4;rw[Ar q];rfl) (by rw[i];omega) (by rw[Ac]) (by rw[i,Aa];exact w) C n (by rw[i,Aa];exact o) E a1 (by rw[N];exact K) (Y (-y) hb j.neg);(first|rw[Ac] at k|(unfold sL at k;rw[Ac] at k));exact k
 ·have hb:e*y=sg (top d)*top p:=by unfold sg;rw[Aw q,U];omega
  have K:=bL (t:=V (top d)) hp hd G j L M s;have k:=A6e (d.map V) (F p) (p.map V) (V (top d)) _ _ _ _ e _ x y _ _ (B4 (top d)) _ _ _ (by rw[AZ,Ac];omega) (by unfold B4;rw[Aw q];split <;> rfl) (by rw[i];omega) (by rw[Ac]) (by rw[i,Aa];exact w) C n (by rw[i,Aa];exact o) E (by rw[N];exact K) (Y y hb j);(first|rw[Ac] at k|(unfold sL at k;rw[Ac] at k));exact k
end
theorem Aqq{d:G}{Kd:Nat}(hd:Kb Kd d)(a:d ≠ [])(g:top d ≠ 0):∀ (f:Nat) (p:G) (J:Nat),F p<=f->Kb J p->J+(F p+1-F d)*(Kd+1)<1048576->F p<=1048576 ->
  Z (.loop Xh) (MC (d.map V) (F p) (p.map V) (V (top d))) xZ0 (MC (d.map V) (F (Fi f p d)) ((Fi f p d).map V) (V (top d))):=by
 have k:=Av.2 a;intro f;induction f with
 | zero =>
  intro p J h _ _ _;exact Aq (vW (d.map V) (F p) (p.map V) (V (top d)) (by rw[AW,Ac];omega))
 | succ f i =>
  intro p J h c l j;simp only[Fi];split
  ·rename_i b;have m:=LN a b;have e:(F (EO p d)+1-F d)+1<=F p+1-F d:=by omega
   have:=Bf (Kd+1) e;rw[DU,Gi] at this;have h1:=Aqp c hd (by
    have h2:1*(Kd+1)<=(F p+1-F d)*(Kd+1):=Bf _ (by omega);omega) a g b j
   exact Bk h1 (i (EO p d) (J+Kd+1) (by omega) (WN c hd) (by omega) (by omega))
  next b=>exact Aq (vW (d.map V) (F p) (p.map V) (V (top d)) (by rw[AW,Ac];omega))
theorem ME{rs ss:D}{J K:Nat}(hr:∀ r∈rs,BC J r)(hs:∀ r∈ss,BC K r)(c:J<1048576)(d:K<1048576)(hn:F rs<=1048576)(e:F ss<=1048576)(a:prim (Al ss) ≠ [])(f:J+(F (prim (Al rs))+1-F (prim (Al ss)))*(K+1)<1048576) :
  T 118 [sL S rs,sL S ss] (Ae 2 (F (t (prim (Al rs)) (prim (Al ss)))) (pk (t (prim (Al rs)) (prim (Al ss))))):=by
 have g:=FB hr c hn;have h:=FB hs d e;have i:Kb J (prim (Al rs)):=(KL (DW hr)).prim;have j:Kb K (prim (Al ss)):=(KL (DW hs)).prim;have p:F (prim (Al rs))<=F rs:=by rw[CO];have:=Ct (Al rs);rwa [B1] at this
 have q:F (prim (Al ss))<=F ss:=by rw[CO];have:=Ct (Al ss);rwa [B1] at this
 have s:=Av.2 a;have l:top (prim (Al ss)) ≠ 0:=EN (De _) a;have m:=Aqq j a l (F (prim (Al rs))) (prim (Al rs)) J (A2 _) i f (by omega);have b:Q X (F ((prim (Al ss)).map V)-1)=((F (prim (Al ss))-1:Nat):Int):=by rw[Ac,wqz];omega
 have n:T 115 [sL S rs] (Ae 2 (F ((prim (Al rs)).map V)) (S ((prim (Al rs)).map V))):=by rw[Ac];exact g
 have o:T 115 [sL S ss] (Ae 2 (F ((prim (Al ss)).map V)) (S ((prim (Al ss)).map V))):=by rw[Ac];exact h
 have k:=A6f rs ss _ _ ((t (prim (Al rs)) (prim (Al ss))).map V) (V (top (prim (Al ss)))) (F (t (prim (Al rs)) (prim (Al ss)))) n o (by rw[b,Ac];omega) (by
  rw[b,Aa,F7 (show F (prim (Al ss))-1<F (prim (Al ss)) by omega),Ac];exact m)
 exact k
theorem jX:∀ (f:Nat) (x y:G) (M:Nat),0<M->F y<=f->F y<=F x->F x<=1048576->prim x=x->prim y=y->Kb (M-1) x->Kb (M-1) y->M*Lv (F x) (F y)<=500000 ->
  ∃ bs,Z (.loop Xi) (MD (x.map V) (y.map V)) xZ0 (MD ((Kj f x y).map V) bs):=by
 intro f;induction f with
 | zero =>
  intro x y M _ h1 _ _ _ _ _ _ _;have:y=[]:=AU (by omega);subst this;exact⟨_,Aq (vY _ _ (by simp))⟩
 | succ f j =>
  intro x y M c h1 h2 l a b e d g;simp only[Kj];split
  next h=>subst h;exact⟨_,Aq (vY _ _ (by simp))⟩
  ·rename_i h;have r:=Av.2 h;obtain⟨s,m,n⟩:=Nq c (Dm a) h e d h2;have o:0<M*(F x-F y+2):=HW c (by omega);have u:M<=M*(F x-F y+2):=Dn M (by omega);have v:M*(F x-F y+2)<=500000:=by
    refine B6 (Bu _ ?_) g;unfold Lv;exact Dn _ (E5 (by decide))
   have i:=ME (rs:=x.map V) (ss:=y.map V) (Bx e) (Bx d) (by omega) (by omega) (by rw[Ac];exact l) (by rw[Ac];omega) (by rw[Bs,b];exact h) (by
    rw[Bs,Bs,a,b,O1 c,show F x+1-F y=F x-F y+1 by omega,Du _ M];have:M*(F x-F y+2)=M*(F x-F y+1)+M:=by rw[<- TB]
    omega)
   rw[Bs,Bs,a,b] at i;have p:T 118 [sL S (x.map V),sL S (y.map V)] (Ae 2 (F ((t x y).map V)) (S ((t x y).map V))):=by
    have q:F ((t x y).map V)=F (t x y):=Ac ..;rw[q];exact i
   have k:=vX (x.map V) (y.map V) _ (by simp;omega) p;obtain⟨bs,hb⟩:=j y (t x y) (M*(F x-F y+2)) o (by omega) (by omega) (by omega) b (Kz _ _ _ a) (d.mono (by omega)) n (Nr m g);exact⟨bs,Bk k hb⟩
def Q5(f:Nat)(a:AK)(p:G):Prop:=T f a (Ae 2 (F (p.map V)) (S (p.map V)))\/T f a (sL S (p.map V))
theorem VU{p:G}{K:Nat}(a:Kb K p)(b:K<=1048576)(c:F p<=1048576) :
  (top p<0->T 155 [sL S (p.map V)] (Ae 2 (F ((y p).map V)) (S ((y p).map V))))/\(¬ top p<0->T 155 [sL S (p.map V)] (sL S (p.map V))):=by
 have h:=bK (rs:=p.map V) (fun r hr=>(Bx a r hr).mono b) (by rw[Ac];exact c);rw[Bs] at h;refine⟨fun hn => ?_,h.2⟩;have h1:=h.1 hn;have e:y p=z p:=by unfold y;rw[Ar hn]
 have d:F ((z p).map V)=F (p.map V):=by rw[Ac,Ac,EY]
 rw[e,d];exact h1
theorem Tm{p:G}(h:¬ top p<0):y p=p:=by unfold y;rw [Aw h]
theorem OG:∀ (f:Nat) (x y:G) (M:Nat),0<M->F y<=f->F y<=F x->Cw x->Cw y->Kb (M-1) x->Kb (M-1) y->Kb (M*Lv (F x) (F y)-1) (Kj f x y)/\F (Kj f x y)<=F x:=by
 intro f;induction f with
 | zero =>
  intro x y M d _ h2 _ _ c _;refine⟨c.mono ?_,A2 _⟩;have:M*1<=M*Lv (F x) (F y):=Bu _ (by unfold Lv;exact HW (by omega) (E5 (by decide)));omega
 | succ f g =>
  intro x y M d h1 h2 i j c e;simp only[Kj];split
  ·refine⟨c.mono ?_,A2 _⟩;have:M*1<=M*Lv (F x) (F y):=Bu _ (by unfold Lv;exact HW (by omega) (E5 (by decide)));omega
  next h=>have o:=Av.2 h;obtain⟨k,l,m⟩:=Nq d i h c e h2;have n:0<M*(F x-F y+2):=HW d (by omega);have p:M<=M*(F x-F y+2):=Dn M (by omega);obtain⟨a,b⟩:=g y (t x y) (M*(F x-F y+2)) n (by omega) (by omega) j k (e.mono (by omega)) m;exact⟨a.mono (Nat.sub_le_sub_right (Nr l (A2 _)) 1),by omega⟩
theorem TY{rs ss:D}{g:G}{bs:D}{K:Nat}(hr:∀ r∈rs,BC K r)(hs:∀ r∈ss,BC K r)(a:K<1048576)(hn:F rs<=1048576)(e:F ss<=1048576){Kg:Nat}(f:Kb Kg g)(i:Kg<=1048576)(j:F g<=1048576)
  (b:Z (.loop Xi) (MD ((prim (Al rs)).map V) ((prim (Al ss)).map V)) xZ0 (MD (g.map V) bs)) :
  Q5 135 [sL S rs,sL S ss] (y g):=by
 have k:=FB hr a hn;have l:=FB hs a e;have c:T 115 [sL S rs] (Ae 2 (F ((prim (Al rs)).map V)) (S ((prim (Al rs)).map V))):=by rw[Ac];exact k
 have d:T 115 [sL S ss] (Ae 2 (F ((prim (Al ss)).map V)) (S ((prim (Al ss)).map V))):=by rw[Ac];exact l
 obtain⟨m,n⟩:=VU f i j;by_cases h:top g<0
 ·exact .inl (Afn rs ss _ _ (g.map V) bs _ c d b (m h))
 ·rw[Tm h];exact .inr (Afo rs ss _ _ (g.map V) bs c d b (n h))
theorem VV{rs ss:D}{K c:Nat}(hr:∀ r∈rs,BC K r)(hs:∀ r∈ss,BC K r)(hn:F rs<=c)(q:F ss<=c)(hc:c<=1048576)(i:(K+1)*(2*3^c)<=500000) :
  Q5 135 [sL S rs,sL S ss] (y (Rb (prim (Al rs)) (prim (Al ss)))):=by
 have s:0<3^c:=E5 (by decide);have u:K+1<=500000:=by
  have:(K+1)*1<=(K+1)*(2*3^c):=Bu _ (by omega);omega
 have b:Kb K (prim (Al rs)):=(KL (DW hr)).prim;have d:Kb K (prim (Al ss)):=(KL (DW hs)).prim;have v:F (prim (Al rs))<=F rs:=by rw[CO];have:=Ct (Al rs);rwa [B1] at this
 have w:F (prim (Al ss))<=F ss:=by rw[CO];have:=Ct (Al ss);rwa [B1] at this
 unfold Rb;split
 next a=>have f:(K+1)*Lv (F (prim (Al rs))) (F (prim (Al ss)))<=500000:=B6 (Bu _ (RU a (by omega))) i;obtain⟨bs,hb⟩:=jX (F (prim (Al ss))) (prim (Al rs)) (prim (Al ss)) (K+1) (by omega) (A2 _) a (by omega) (CP _) (CP _) b d f;obtain⟨g,l⟩:=OG (F (prim (Al ss))) (prim (Al rs)) (prim (Al ss)) (K+1) (by omega) (A2 _) a (De _) (De _) b d;exact TY hr hs (by omega) (by omega) (by omega) g (by omega) (by omega) hb
 ·rename_i a;have f:(K+1)*Lv (F (prim (Al ss))) (F (prim (Al rs)))<=500000:=B6 (Bu _ (RU (by omega) (by omega))) i;obtain⟨bs,hb⟩:=jX (F (prim (Al rs))) (prim (Al ss)) (prim (Al rs)) (K+1) (by omega) (A2 _) (by omega) (by omega) (CP _) (CP _) d b f;obtain⟨g,l⟩:=OG (F (prim (Al rs))) (prim (Al ss)) (prim (Al rs)) (K+1) (by omega) (A2 _) (by omega) (De _) (De _) d b;have m:prim (Al ss) ≠ []:=by intro h;rw[h] at a;simp at a
  have o:t (prim (Al rs)) (prim (Al ss))=prim (Al rs):=by
   unfold t;cases hx:F (prim (Al rs)) with
   | zero=>rfl
   | succ n=>simp only[Fi];rw[Aw a]
  have e:=ME (rs:=(prim (Al rs)).map V) (ss:=(prim (Al ss)).map V) (Bx b) (Bx d) (by omega) (by omega) (by rw[Ac];omega) (by rw[Ac];omega) (by rw[Bs,CP];exact m) (by
   rw[Bs,Bs,CP,CP,show F (prim (Al rs))+1-F (prim (Al ss))=0 by omega,Lj];omega)
  rw[Bs,Bs,CP,CP,o] at e;have p:T 118 [sL S ((prim (Al rs)).map V),sL S ((prim (Al ss)).map V)] (Ae 2 (F ((prim (Al rs)).map V)) (S ((prim (Al rs)).map V))):=by
   have j:F ((prim (Al rs)).map V)=F (prim (Al rs)):=Ac ..;(first|(unfold sL at e |-;rw[j] at e |-)|rw[j] at e |-);exact e
  have k:=vX ((prim (Al rs)).map V) ((prim (Al ss)).map V) _ (by rw[AZ,Ac];omega) p;exact TY hr hs (by omega) (by omega) (by omega) g (by omega) (by omega) (Bk k hb)
theorem Afp{a rs:D}{m:Nat}(d:F a=F rs)(h:∀ x,x<m->H a x z0=H rs x z0):Ho a rs m=rs:=by
 apply HP;intro t;unfold Ho;by_cases c:t<m
 ·by_cases b:t<F a
  ·have:=h t c;rw[Ad,Ad,Am b,Am (by omega)] at this;rw[B2 (by rw[AX];omega),Cr c,Am b,Am (by omega)];simpa using this
  ·rw[Bi (by rw[B0,AX,CX];omega),Bi (by omega)]
 ·by_cases b:m<=F a
  ·rw[BN (by rw[AX];omega),AX,Cb];congr 1;omega
  ·rw[Bi (by rw[B0,AX,CX];omega),Bi (by omega)]
theorem Afq{a rs:D}{m:Nat}(d:F a=F rs)(b:m<=F rs)(h:∀ x,m<=x->H a x z0=H rs x z0):Ho a rs m=a:=by
 apply HP;intro t;unfold Ho;by_cases c:t<m
 ·rw[B2 (by rw[AX];omega),Cr c]
 ·rw[BN (by rw[AX];omega),AX,Cb,show m+(t-min m (F a))=t by omega];by_cases b:t<F a
  ·have:=h t (by omega);rw[Ad,Ad,Am b,Am (by omega)] at this;rw[Am b,Am (by omega)];simpa using this.symm
  ·rw[Bi (by omega),Bi (by omega)]
section
variable {p q:G} {J Kq:Nat}
theorem Xj{c:Int}(hp:Kb J p)(hc:u Kq c):Kb (J+Kq) (AM c p):=fun i=>by
 rw[Bt,H0];exact hc.mul (hp i)
theorem AIx{t:Int}{l:Rn}{qs os:D}{kq:Nat}{j:Int}(hp:Kb J p)(e:u Kq t)(o:J+Kq<1048576)(q:F p<=1048576) :
  Z (.loop VR) (LV qs (F p) (p.map V) (V t) kq os j l (F p:Nat) 0) xZ2 (LV qs (F p) ((AM t p).map V) (V t) kq os j l (F p:Nat) (F p:Nat)):=by
 have a:F ((AM t p).map V)=F (p.map V):=by rw[Ac,Ac,BR]
 have f:F (p.map V)=F p:=Ac ..;have h:=Et (prog:=DP) (c:=VR) (ex := .exit 2) (fin:=LV qs (F p) ((AM t p).map V) (V t) kq os j l (F p:Nat) (F p:Nat))
  (fun i=>LV qs (F p) (Ho ((AM t p).map V) (p.map V) i) (V t) kq os j l (F p:Nat) (i:Nat)) (F p) (by nofun) ?_ ?_ 0 (A_ _)
 ·rw[Qy] at h;exact h
 ·intro i hi;have g:Q X (i+1)=((i+1:Nat):Int):=wrz
  have r:=Jo a i;have b:=P9 a (i:=i) (by omega);have m:H ((AM t p).map V) i z0=V (H (AM t p) i 0):=F7 (by rw[BR];exact hi);have d:=PA a (i:=i) (by omega);rw[m,Bt] at d;have n:=Cm (Bx hp) i;have gt:=BB e;have N:=FZ p i;have m1:=NT n gt (by omega);generalize Ho ((AM t p).map V) (p.map V) i=M at *
  have k:=Aqj qs (F p) M (V t) kq os j l (F p:Nat) (i:Nat) (by simp;omega) (by omega) (by omega) (by rw[Aa,b];exact m1);refine k.to rfl ?_;simp only[g,Aa,b];rw[N,AO,AT,d]
 ·rw[show Ho ((AM t p).map V) (p.map V) (F p)=(AM t p).map V by have h:=Qz a;rw[f] at h;exact h];exact Aqk _ _ _ _ _ _ _ _ _ _ (by simp)
theorem AIy{t:Int}{l:Rn}{qs rs:D}{k:Nat}{j:Int}(hp:Kb J p)(e:u Kq t)(o:J+Kq<1048576)(q:F p<=1048576) :
  Z (.loop VS) (LW qs k rs (V t) (F p) (p.map V) j l (F p:Nat) 0) xZ4 (LW qs k rs (V t) (F p) ((AM t p).map V) j l (F p:Nat) (F p:Nat)):=by
 have a:F ((AM t p).map V)=F (p.map V):=by rw[Ac,Ac,BR]
 have f:F (p.map V)=F p:=Ac ..;have h:=Et (prog:=DP) (c:=VS) (ex := .exit 4) (fin:=LW qs k rs (V t) (F p) ((AM t p).map V) j l (F p:Nat) (F p:Nat))
  (fun i=>LW qs k rs (V t) (F p) (Ho ((AM t p).map V) (p.map V) i) j l (F p:Nat) (i:Nat)) (F p) (by nofun) ?_ ?_ 0 (A_ _)
 ·rw[Qy] at h;exact h
 ·intro i hi;have g:Q X (i+1)=((i+1:Nat):Int):=wrz
  have r:=Jo a i;have b:=P9 a (i:=i) (by omega);have m:H ((AM t p).map V) i z0=V (H (AM t p) i 0):=F7 (by rw[BR];exact hi);have d:=PA a (i:=i) (by omega);rw[m,Bt] at d;have n:=Cm (Bx hp) i;have gt:=BB e;have N:=FZ p i;have m1:=NT n gt (by omega);generalize Ho ((AM t p).map V) (p.map V) i=M at *
  have k:=Aql qs k rs (V t) (F p) M j l (F p:Nat) (i:Nat) (by simp;omega) (by omega) (by omega) (by rw[Aa,b];exact m1);refine k.to rfl ?_;simp only[g,Aa,b];rw[N,AO,AT,d]
 ·rw[show Ho ((AM t p).map V) (p.map V) (F p)=(AM t p).map V by have h:=Qz a;rw[f] at h;exact h];exact Aqm _ _ _ _ _ _ _ _ _ _ (by simp)
theorem AIz{t:Rn}{l:Int}{os:D}{kq j Jp:Nat}(hp:Kb Jp p)(s:Kb Kq q)(d:u J l)(C:J+Kq<1048576)(E:Jp<1048576)(G:F p<=1048576)(hj:j+F q<=F p) :
  Z (.loop VT) (LX (q.map V) (F p) (p.map V) t kq os (j:Nat) (V l) (F q:Nat) 0) xZ6 (LX (q.map V) (F p) ((IX p q l j).map V) t kq os (j:Nat) (V l) (F q:Nat) (F q:Nat)):=by
 have a:F ((IX p q l j).map V)=F (p.map V):=by rw[Ac,Ac,I0]
 have I:F (p.map V)=F p:=Ac ..;have e:∀ x,x<F p->H ((IX p q l j).map V) x z0=V (H p x 0-l*H (Ek j q) x 0):=fun x hx=>by
  rw[F7 (by rw[I0];exact hx),O2 _ _ _ _ _ hj]
 have f:∀ x,(x<j\/j+F q<=x)->H ((IX p q l j).map V) x z0=H (p.map V) x z0:=by
  intro x hx;by_cases h:x<F p
  ·rw[e x h,F7 h,Db];rcases hx with hx | hx
   ·rw[Aw (by omega),Be,FV]
   ·rw[Ar (by omega),Cp (xs:=q) (show F q<=x-j by omega),Be,FV]
  ·rw[Ad,Ad,Bi (by omega),Bi (by omega)]
 have h:=Et (prog:=DP) (c:=VT) (ex := .exit 6) (fin:=LX (q.map V) (F p) ((IX p q l j).map V) t kq os (j:Nat) (V l) (F q:Nat) (F q:Nat))
  (fun i=>LX (q.map V) (F p) (Ho ((IX p q l j).map V) (p.map V) (j+i)) t kq os (j:Nat) (V l) (F q:Nat) (i:Nat)) (F q) (by nofun) ?_ ?_ 0 (A_ _)
 ·rw[Gb,Afp a (fun x hx=>f x (.inl hx))] at h;exact h
 ·intro i hi;have v:Q X (i+1)=((i+1:Nat):Int):=wrz
  have b:Q X (j+i)=((j+i:Nat):Int):=wrz
  have K:=Jo a (j+i);have g:=P9 a (i:=j+i) (by omega);have m:=e (j+i) (by omega);rw[Db,Ar (by omega),show j+i-j=i by omega] at m;have n:=PA a (i:=j+i) (by omega);rw[m] at n;have w:=Cm (Bx hp) (j+i);have o:=Cm (Bx s) i;have y:=BB d;have N:=FZ p (j+i);have z:=FZ q i;have m1:=NT y o (by omega);have A:u (J+Kq) (B (V l)*B (H (q.map V) i z0)):=u.mul (by rw[AO];exact d) o.fits;have r:=vZ w (BB A) (by omega) (by omega);rw[AO (B (V l)*B (H (q.map V) i z0))] at r;generalize Ho ((IX p q l j).map V) (p.map V) (j+i)=M at *
  have k:=Aqn (q.map V) (F p) M t kq os (j:Nat) (V l) (F q:Nat) (i:Nat) (by simp;omega) (by rw[b];omega) (by omega) (by rw[Ac];omega) (by rw[Aa];exact m1) (by rw[b,Aa,Aa,g];exact r);refine k.to rfl ?_;simp only[v,b,Aa,g];rw[N,z,AO,n,E1]
 ·rw[Afq a (by omega) (fun x hx=>f x (.inr hx))];exact Aqo _ _ _ _ _ _ _ _ _ _ (by simp)
theorem Aqr{l:Int}(hp:Kb (J+Kq) p)(a:Kb Kq q)(b:u J l)(k:Nat)(c:k+F q<=F p):Kb (J+Kq+1) (IX p q l k):=fun i=>by
 rw[O2 _ _ _ _ _ c,Db];split
 ·exact (hp i).add (b.mul (a _)).neg
 ·rw[Be,FV];exact (hp i).mono (by omega)
theorem Akt{l:Int}(hp:Kb J p)(a:u J l)(k:Nat):Kb J (p.set k l):=fun i=>by
 by_cases h:i=k
 ·subst h;by_cases hi:i<F p
  ·rw[Ad,dZ hi];exact a
  ·rw[Cp (by rw[BH];omega)];exact Ib _
 ·rw[Dp (by omega)];exact hp i
end
theorem Aqs{q:G}{Kq:Nat}(e:Kb Kq q)(w:q ≠ []):∀ (k:Nat) (r out:G) (J:Nat),Kb J r->Kb J out->J+k*(Kq+1)<1048576->k<=F out->F out+F q=F r+1->F r<=1048576 ->
  (∃ f,Z (.loop pQ) (UE (q.map V) (F r) (r.map V) (V (top q)) (F out) (out.map V) (k-1)) xZ0 (UE (q.map V) (F r) f (V (top q)) (F out) ((IY q k r out).map V) (-1)))/\Kb (J+k*(Kq+1)) (IY q k r out)/\F (IY q k r out)=F out:=by
 have L:=Av.2 w;intro k;induction k with
 | zero =>
  intro r out J _ b _ _ _ _;exact⟨⟨_,Aq (A6h _ _ _ _ _ _ _ (by simp))⟩,b.mono (by omega),rfl⟩
 | succ k x =>
  intro r out J hr b y M z g;simp only[IY];have A:J+Kq+1+k*(Kq+1)<1048576:=by rw[DU,Gi] at y;omega
  have h:u J (H r (k+F q-1) 0):=hr _;have B:((k+1:Nat):Int)-1=(k:Int):=by omega
  have a:Q X (Q X (k+F (q.map V))-1)=((k+F q-1:Nat):Int):=by
   rw[Ac,By (n:=(k:Int)+(F q:Nat)) (by omega) (by omega),wqz];omega
  have c:H (r.map V) (k+F q-1) z0=V (H r (k+F q-1) 0):=F7 (by omega);have C:Q X (k-1)=(k:Int)-1:=By (by omega) (by omega);have d:u Kq (top q):=e _;generalize N:H r (k+F q-1) 0=l at *
  have i:=Xj hr d;have D:=Xj b d;have E:=AIx (l:=V l) (qs:=q.map V) (os:=out.map V) (kq:=F out) (j:=(k:Nat)) hr d (by omega) g;have I:=AIy (l:=V l) (qs:=q.map V) (rs:=(AM (top q) r).map V) (k:=F r) (j:=(k:Nat)) b d (by omega) (by omega);have m:=AIz (t:=V (top q)) (l:=l) (os:=((AM (top q) out).set k l).map V) (kq:=F out) (j:=k) (p:=AM (top q) r) (J:=J) i e h (by omega) (by omega) (by rw[BR];exact g) (by rw[BR];omega);rw[BR] at m;obtain⟨⟨f,o⟩,K,len⟩:=x (IX (AM (top q) r) q l k) ((AM (top q) out).set k l) (J+Kq+1) (Aqr i e h k (by rw[BR];omega)) (Akt (D.mono (by omega)) (h.mono (by omega)) k) A (by rw[BH,BR];omega) (by rw[BH,BR,I0,BR];exact z) (by rw[I0,BR];exact g);rw[BH,BR,I0,BR] at o;refine⟨⟨f,?_⟩,K.mono (by rw[DU,Gi];omega),by rw[len,BH,BR]⟩;have s:((AM (top q) out).map V).set k (V l)=((AM (top q) out).set k l).map V:=by rw[Ww]
  have v:=A6g (q.map V) (F r) (r.map V) (V (top q)) (F out) (out.map V) (k:Nat) ((AM (top q) r).map V) ((IX (AM (top q) r) q l k).map V) ((AM (top q) out).map V) _ _ _ _ _ _ (by simp) (by rw[a];omega) (Ac ..)
   (by rw[a,Aa,c];exact E) (by rw[a,Aa,c];exact I) (by omega) (by rw[Ac,BR]) (by rw[a,Aa,Aa,c,s,Ac];exact m)
  rw[a,Aa,Aa,c,s,C] at v;rw[B];exact Bk v o
theorem A6j:V 0=z0:=rfl
theorem fT{p q:G}{J K:Nat}(hp:Kb J p)(j:Kb K q)(l:Cw p)(c:q ≠ [])(x:F q<=F p)(y:F p<=1000000)(m:J+(F p-F q+1)*(K+1)<1048576) :
  T 156 [sL S (p.map V),sL S (q.map V)] (Ae 2 (F ((prim (IY q (F p-F q+1) p (AI (F p-F q+1) 0))).map V)) (S ((prim (IY q (F p-F q+1) p (AI (F p-F q+1) 0))).map V))):=by
 have z:=Av.2 c;have a:=L7 (rs:=p.map V) (fun r h=>(Bx hp r h).mono (show J<=1048576 by omega)) (by rw[Ac];omega);rw[Bs,l] at a;have s:T 66 [sL S (p.map V)] (Ae 2 (F (p.map V)) (S (p.map V))):=by (first|(unfold sL at a |-;rw[Ac] at a |-)|rw[Ac] at a |-);exact a
 obtain⟨⟨t,d⟩,u,len⟩:=Aqs j c (F p-F q+1) p (AI (F p-F q+1) 0) J hp (fun i=>by rw[EB];exact Ib _) m (by simp) (by simp;omega) (by omega);rw[GJ] at d len;have e:Q X (F (q.map V)-1)=((F q-1:Nat):Int):=by rw[Ac,wqz];omega
 have f:Q X (Q X (F (p.map V)-F (q.map V))+1)=((F p-F q+1:Nat):Int):=by
  rw[Ac,Ac,By (n:=(F p:Int)-(F q:Nat)) (by omega) (by omega),wqz];omega
 have v:Q X ((F p-F q+1:Nat)-1)=((F p-F q+1:Nat):Int)-1:=By (by omega) (by omega);have hz:(AI (F p-F q+1) (0:Int)).map V=AI (F p-F q+1) z0:=by rw[AJo,A6j]
 have g:=FB (rs:=(IY q (F p-F q+1) p (AI (F p-F q+1) 0)).map V) (Bx u) (by omega) (by rw[Ac];omega);rw[Bs] at g;have b:=g;unfold sL at b;rw[show ∀ o:G,F (o.map V)=F o from fun o=>Ac ..,len] at b;have k:=A6i (p.map V) (q.map V) (p.map V) ((prim (IY q (F p-F q+1) p (AI (F p-F q+1) 0))).map V) t ((IY q (F p-F q+1) p (AI (F p-F q+1) 0)).map V) (V (top q)) (F p) (F p-F q+1) (-1) s (by rw[e,Ac];omega) (by rw[f];omega) (by
   rw[e,f,Aa,Aa,v,Vu,<- hz,F7 (show F q-1<F q by omega),show F (p.map V)=F p from Ac ..];exact d) (by
   have w:F ((prim (IY q (F p-F q+1) p (AI (F p-F q+1) 0))).map V)=F (prim (IY q (F p-F q+1) p (AI (F p-F q+1) 0))):=Ac ..;rw[w];exact b)
 exact k
theorem Afr{rs:D}{K c:Nat}(hr:∀ r∈rs,BC K r)(hn:F rs<=c)(hc:c<=9)(s:(K+3)*(2*3^c)<=500000):Q5 114 [sL S rs] (O (Al rs)):=by
 have G:0<3^c:=E5 (by decide);have H:K+3<=250000:=by
  have:(K+3)*2<=(K+3)*(2*3^c):=Bu _ (by omega);omega
 have u:=FB hr (by omega) (by omega);have b:T 115 [sL S rs] (Ae 2 (F ((prim (Al rs)).map V)) (S ((prim (Al rs)).map V))):=by rw[Ac];exact u
 have l:Kb K (prim (Al rs)):=(KL (DW hr)).prim;have I:F (prim (Al rs))<=F rs:=by rw[CO];have:=Ct (Al rs);rwa [B1] at this
 obtain⟨g,j⟩:=VU l (by omega) (by omega);have k:Kb K (y (prim (Al rs))):=by
  unfold y;split
  ·intro i;rw[IW];exact (l i).neg
  ·exact l
 have J:=MS (prim (Al rs));have v:Cw (y (prim (Al rs))):=Qi (De _);have m:(¬ top (prim (Al rs))<0)->y (prim (Al rs))=prim (Al rs):=Tm;have o:=TX (rs:=(y (prim (Al rs))).map V) (Bx k) (by omega) (by rw[Ac];omega);rw[Bs] at o;have d:T 116 [sL S ((y (prim (Al rs))).map V)] (Ae 2 (F ((AE (y (prim (Al rs)))).map V)) (S ((AE (y (prim (Al rs)))).map V))):=by
  have w:F ((AE (y (prim (Al rs)))).map V)=F (AE (y (prim (Al rs)))):=Ac ..;rw[w];exact o
 have x:Kb (K+2) (AE (y (prim (Al rs)))):=aG k (by omega);have ld:F (AE (y (prim (Al rs))))<=c:=by have:=WR (y (prim (Al rs)));omega
 have e:=VV (rs:=(y (prim (Al rs))).map V) (ss:=(AE (y (prim (Al rs)))).map V) (K:=K+2) (c:=c) (fun r h=>(Bx k r h).mono (by omega)) (Bx x) (by rw[Ac];omega) (by rw[Ac];exact ld) (by omega) s;rw[Bs,Bs] at e;change Q5 135 _ (Ch (y (prim (Al rs))) (AE (y (prim (Al rs))))) at e;have f:2<=F (Ch (y (prim (Al rs))) (AE (y (prim (Al rs)))))->T 156 [sL S ((y (prim (Al rs))).map V),sL S ((Ch (y (prim (Al rs))) (AE (y (prim (Al rs))))).map V)]
   (Ae 2 (F ((prim (IY (Ch (y (prim (Al rs))) (AE (y (prim (Al rs))))) (F (y (prim (Al rs)))-F (Ch (y (prim (Al rs))) (AE (y (prim (Al rs)))))+1) (y (prim (Al rs))) (AI (F (y (prim (Al rs)))-F (Ch (y (prim (Al rs))) (AE (y (prim (Al rs)))))+1) 0))).map V)) (S ((prim (IY (Ch (y (prim (Al rs))) (AE (y (prim (Al rs))))) (F (y (prim (Al rs)))-F (Ch (y (prim (Al rs))) (AE (y (prim (Al rs)))))+1) (y (prim (Al rs))) (AI (F (y (prim (Al rs)))-F (Ch (y (prim (Al rs))) (AE (y (prim (Al rs)))))+1) 0))).map V))):=by
  intro h2;have z:Af (Al rs) ≠ []:=by
   intro n;have:prim (Al rs)=[]:=EM.2 (DY.1 n);rw[this] at h2;exact absurd h2 (by decide)
  obtain⟨p,A,_,_,_,_⟩:=RY z;obtain⟨B,q⟩:=tD (t:=AE (y (prim (Al rs)))) (Ca p A) (by omega) k;rw[p] at q;exact fT k B v (by intro n;rw[n] at h2;exact absurd h2 (by decide)) q (by omega) (by
   have C:F (y (prim (Al rs)))-F (Ch (y (prim (Al rs))) (AE (y (prim (Al rs)))))+1<=10:=by omega
   have L:=Bf (K+3+1) C;have M:3^2<=3^c:=B_ (by decide) (by omega);have N:(K+3)*18<=(K+3)*(2*3^c):=Bu _ (by omega);omega)
 unfold O;by_cases hs:F (y (prim (Al rs)))<2
 ·rw[Ar (.inl hs)];by_cases a:top (prim (Al rs))<0
  ·exact .inr (fJ rs _ _ (by rw[AZ,Ac];omega) b (g a))
  ·rw[m a] at hs |-;exact .inr (fQ rs _ (by rw[AZ,Ac];omega) b (j a))
 ·by_cases E:F (Ch (y (prim (Al rs))) (AE (y (prim (Al rs)))))<2
  ·rw[Ar (.inr E)];by_cases a:top (prim (Al rs))<0
   ·rcases e with h | h
    ·exact .inr (fK rs _ _ _ _ (by rw[AW,Ac];omega) (by rw[AZ,Ac];omega) b (g a) d h)
    ·exact .inr (fM rs _ _ _ _ (by rw[AW,Ac];omega) (by rw[AZ,Ac];omega) b (g a) d h)
   ·rw[m a] at *
    rcases e with h | h
    ·exact .inr (fO rs _ _ _ (by rw[AW,Ac];omega) (by rw[AZ,Ac];omega) b (j a) d h)
    ·exact .inr (fR rs _ _ _ (by rw[AW,Ac];omega) (by rw[AZ,Ac];omega) b (j a) d h)
  ·rw[Aw (by omega)];have f:=f (by omega);by_cases a:top (prim (Al rs))<0
   ·rcases e with h | h
    ·exact .inl (fL rs _ _ _ _ _ (by rw[AW,Ac];omega) (by rw[AW,Ac];omega) b (g a) d h f)
    ·exact .inl (fN rs _ _ _ _ _ (by rw[AW,Ac];omega) (by rw[AW,Ac];omega) b (g a) d h f)
   ·rw[m a] at *
    rcases e with h | h
    ·exact .inl (fP rs _ _ _ _ (by rw[AW,Ac];omega) (by rw[AW,Ac];omega) b (j a) d h f)
    ·exact .inl (fS rs _ _ _ _ (by rw[AW,Ac];omega) (by rw[AW,Ac];omega) b (j a) d h f)
def wA(p:G):AV := sL S (p.map V)
def plF(p:G):AV := Ae 2 (F (p.map V)) (S (p.map V))
theorem FD{f:Nat}{b:AK}{a:G}(h:T f b (Ae 2 (F a) (pk a))):T f b (Ae 2 (F (a.map V)) (S (a.map V))):=by
 rw[Ac];exact h
theorem wB(p:G):B (H (p.map V) (F p-1) z0)=top p:=FZ p (F p-1)
theorem Q6{p:G}{K:Nat}(d:Kb K p)(f:Cw p)(g:K<=1048576)(l:F p<=1048576) :
  (top p<0->T 120 [wA p] (plF (y p)))/\(¬ top p<0->T 120 [wA p] (wA p)):=by
 have c:∀ r∈p.map V,BC 1048576 r:=fun r hr=>(Bx d r hr).mono g;have i:F (p.map V)=F p:=Ac ..;by_cases m:0<F p
 ·have a:Q X (F (p.map V)-1)=((F p-1:Nat):Int):=by rw[i,wqz];omega
  obtain⟨j,k⟩:=Cm c (F p-1);have hs:=If (neg:=(H (p.map V) (F p-1) z0).1) j k;have b:B (H (p.map V) (F p-1) z0)=top p:=wB p;rw[show v (H (p.map V) (F p-1) z0).1 (H (p.map V) (F p-1) z0).2=top p from b] at hs;refine⟨fun h => ?_,fun h => ?_⟩
  ·have hn:=jV c (by omega);rw[Bs,Kl f] at hn;have e:y p=z p:=by unfold y;rw[Ar h]
   unfold wA plF;rw[e];exact Aez _ _ (by rw[AZ];omega) (by rw[a,Aa,b,AZ];unfold B4;rw[Ar h];decide) (by rw[a];omega) (by rw[a,Aa,b];exact hs) (FD hn)
  ·exact Afa _ (by rw[AZ];omega) (by rw[a,Aa,b,AW];unfold B4;rw[Aw h];split <;> decide) (by rw[a];omega) (by rw[a,Aa,b];exact hs)
 ·have hz:p=[]:=AU (by omega);subst hz;refine⟨fun h=>absurd h (by decide),fun _=>Afb [] (by decide)⟩
theorem Afs(n:Int):B (false,(V n).2)=(I n:Int):=by
 show v false (o (I n))=_;unfold v;rw[Do];simp
theorem Xk{x y:Rn}{J K:Nat}(hx:BC J x)(hy:BC K y)(h:J+K<=1048576):T 96 [Ao [W x.1,P (F x.2) (A x.2)],AB y] (M (B x*B y)):=Si hx.1 hy.1 (by have:=hx.2;have:=hy.2;omega)
theorem A6k{x y:Rn}{J K:Nat}(hx:BC J x)(hy:BC K y)(h:J<1048576)(h2:K<1048576):T 129 [AB x,AB y] (M (B x-B y)):=Yh hx.1 hy.1 (by have:=hx.2;omega) (by have:=hy.2;omega)
def Rk(p d:G)(a b:Int)(j:Nat):Int:=if F p-F d<=j then a*H p j 0-b*H d (j-(F p-F d)) 0 else a*H p j 0
theorem wC(p d:G)(a b:Int)(n:Nat):((Ay n).map fun j=>V (Rk p d a b j))=(D7 p d a b n).map V:=by
 unfold D7 Rk;rw[Rr];rfl
section
variable {p d:G} {J Kd:Nat}
theorem VW{b:Int}(hp:Kb J p)(hd:Kb Kd d)(hb:u J b)(z:J+Kd+1<1000000)(s:d ≠ [])(A:F d<=F p)(C:F p<=1048576) :
  Z (.loop Qv) (Ih (p.map V) (d.map V) (V (top d)) (V b) ((F p-F d:Nat)) 0 [] 0) xZ2
   (Ih (p.map V) (d.map V) (V (top d)) (V b) ((F p-F d:Nat)) (F p-1) (S ((D7 p d (I (top d)) b (F p-1)).map V)) ((F p-1:Nat))):=by
 have D:=Av.2 s;have t:F (p.map V)=F p:=Ac ..;have E:F (d.map V)=F d:=Ac ..;have e:Q X (F (p.map V)-1)=((F p-1:Nat):Int):=by rw[t,wqz];omega
 have h:=Et (prog:=DP) (c:=Qv) (ex := .exit 2) (fin:=Ih (p.map V) (d.map V) (V (top d)) (V b) ((F p-F d:Nat)) (F p-1) (S ((D7 p d (I (top d)) b (F p-1)).map V)) ((F p-1:Nat)))
  (fun i=>Ih (p.map V) (d.map V) (V (top d)) (V b) ((F p-F d:Nat)) i (S ((Ay i).map fun j=>V (Rk p d (I (top d)) b j))) (i:Nat)) (F p-1) (by nofun) ?_ ?_ 0 (A_ _)
 ·exact h
 ·intro i hi;have f:Q X (i+1)=((i+1:Nat):Int):=wrz
  have g:=Cm (Bx hp) i;have l:BC Kd (false,(V (top d)).2):=by
   have:=BB (FT hd);exact⟨this.1,this.2⟩
  have m:=BB hb;have N:=FZ p i;have m1:=Xk l g (by omega);have n:=Afs (top d);by_cases o:F p-F d<=i
  ·have a:Q X (i-(F p-F d:Nat))=((i-(F p-F d):Nat):Int):=wrz
   have q:=Cm (Bx hd) (i-(F p-F d));have v:=FZ d (i-(F p-F d));have w:=Xk m q (by omega);have x:u (Kd+J) (B (false,(V (top d)).2)*B (H (p.map V) i z0)):=l.fits.mul g.fits;have y:u (J+Kd) (B (V b)*B (H (d.map V) (i-(F p-F d)) z0)):=m.fits.mul q.fits;have r:=A6k (BB x) (BB y) (by omega) (by omega);rw[AO (B (false,(V (top d)).2)*_),AO (B (V b)*B (H (d.map V) (i-(F p-F d)) z0))] at r;have k:=App (p.map V) (d.map V) (V (top d)) (V b) ((F p-F d:Nat)) i (S ((Ay i).map fun j=>V (Rk p d (I (top d)) b j))) (i:Nat) (by rw[e,AZ];omega) (by rw[AZ];omega) (by omega) (by rw[a];omega) (by omega)
    (by rw[Aa];exact m1) (by rw[a,Aa];exact w) (by rw[a,Aa,Aa];exact r)
   refine k.to rfl ?_;rw[a,Aa,Aa,f];rw[<- Hn (Rk p d (I (top d)) b) i];unfold Rk;rw[Ar o,n,N,AO,v]
  ·have k:=Apq (p.map V) (d.map V) (V (top d)) (V b) ((F p-F d:Nat)) i (S ((Ay i).map fun j=>V (Rk p d (I (top d)) b j))) (i:Nat) (by rw[e,AZ];omega) (by rw[AW];omega) (by omega) (by omega)
    (by rw[Aa];exact m1)
   refine k.to rfl ?_;rw[Aa,f];rw[<- Hn (Rk p d (I (top d)) b) i];unfold Rk;rw[Aw o,n,N]
 ·show Dj _ _ (Ih _ _ _ _ _ _ (S ((Ay (F p-1)).map fun j=>V (Rk p d (I (top d)) b j))) _) _ _;rw[wC];exact Aps _ _ _ _ _ _ _ _ (by rw[e,AW];omega)
theorem wD(hp:Kb J p)(hd:Kb Kd d)(l:J+Kd+1<1000000)(c:d ≠ [])(i:F d<=F p)(m:F p<=1048576) :
  Z Xf (M9 (p.map V) (d.map V) (V (top d))) .norm (M9 ((EO p d).map V) (d.map V) (V (top d))):=by
 have B:=Av.2 c;have n:F (p.map V)=F p:=Ac ..;have y:F (d.map V)=F d:=Ac ..;have a:Q X (F (p.map V)-1)=((F p-1:Nat):Int):=by rw[n,wqz];omega
 have o:Q X (F (p.map V)-F (d.map V))=((F p-F d:Nat):Int):=by rw[n,y,wqz];omega
 have gt:=BB (FT hd);have q:=Cm (Bx hp) (F p-1);have f:=wB p;have hs:=If (neg:=(V (top d)).1) gt.1 (by have:=gt.2;omega);rw[show v (V (top d)).1 (V (top d)).2=top d from AO _] at hs;have s:∀ b,u J b->b=sg (top d)*top p->T 46 [P (F p-1) (S ((D7 p d (I (top d)) b (F p-1)).map V))] (Ae 2 (F ((Af (D7 p d (I (top d)) b (F p-1))).map V)) (S ((Af (D7 p d (I (top d)) b (F p-1))).map V)))
   /\ T 86 [sL S ((Af (D7 p d (I (top d)) b (F p-1))).map V)] (Ae 2 (F ((EO p d).map V)) (S ((EO p d).map V))):=by
  intro b z hb;have t:Kb (J+Kd+1) (D7 p d (I (top d)) b (F p-1)):=Vz hp hd (SY (FT hd)) z _;have w:=F1 p d (I (top d)) b (F p-1);have C:=Ct (D7 p d (I (top d)) b (F p-1));refine⟨?_,?_⟩
  ·have h:=FM (rs:=(D7 p d (I (top d)) b (F p-1)).map V) (fun r hr=>(Bx t r hr).mono (by omega)) (by rw[Ac];omega);(first|rw[Bs,Ac,w] at h|(rw[Bs] at h;unfold sL at h;rw[Ac,w] at h));exact FD h
  ·have h:=Kn (rs:=(Af (D7 p d (I (top d)) b (F p-1))).map V) (Bx t.trim) (by omega) (by rw[Ac];omega);rw[Bs] at h;have e:prim (Af (D7 p d (I (top d)) b (F p-1)))=EO p d:=by
    rw[ZX c i,<- hb];exact Np (Ei _)
   rw[e] at h;exact FD h
 by_cases g:top d<0
 ·have x:=Th (neg:=(H (p.map V) (F p-1) z0).1) q.1 (by have:=q.2;omega);rw[show v (H (p.map V) (F p-1) z0).1 (H (p.map V) (F p-1) z0).2=top p from f] at x;have hb : -(top p)=sg (top d)*top p:=by unfold sg;rw[Ar g];omega
  obtain⟨j,k⟩:=s _ (FT hp).neg hb;exact A5j (p.map V) (d.map V) (V (top d)) ((D7 p d (I (top d)) (-(top p)) (F p-1)).map V) _ _ (F p-1) ((F p-1:Nat)) (by rw[AZ];omega) (by rw[AO,AZ];unfold B4;rw[Ar g];decide) (by rw[a];omega) (by rw[AO];exact hs) (by rw[a,Aa,f];exact x)
   (by rw[a,o,Aa,f];exact VW hp hd (FT hp).neg l c i m) j k
 ·have hb:top p=sg (top d)*top p:=by unfold sg;rw[Aw g];omega
  obtain⟨j,k⟩:=s _ (FT hp) hb;have A:H (p.map V) (F p-1) z0=V (top p):=F7 (by omega);exact A5k (p.map V) (d.map V) (V (top d)) ((D7 p d (I (top d)) (top p) (F p-1)).map V) _ _ (F p-1) ((F p-1:Nat)) (by rw[AZ];omega) (by rw[AO,AW];unfold B4;rw[Aw g];split <;> decide) (by rw[a];omega) (by rw[AO];exact hs)
   (by rw[a,o,Aa,A];exact VW hp hd (FT hp) l c i m) j k
end
theorem wE{d:G}{Kd:Nat}(hd:Kb Kd d)(a:d ≠ []):∀ (f:Nat) (p:G) (J:Nat),F p<=f->Kb J p->J+(F p+1-F d)*(Kd+1)<1000000->F p<=1048576 ->
  Z (.loop Xf) (M9 (p.map V) (d.map V) (V (top d))) xZ0 (M9 ((Fi f p d).map V) (d.map V) (V (top d))):=by
 have j:=Av.2 a;intro f;induction f with
 | zero =>
  intro p J g _ _ _;exact Aq (vO (p.map V) (d.map V) (V (top d)) (by rw[AW,Ac,Ac];omega))
 | succ f h =>
  intro p J g c k i;simp only[Fi];split
  ·rename_i b;have l:=LN a b;have e:(F (EO p d)+1-F d)+1<=F p+1-F d:=by omega
   have:=Bf (Kd+1) e;rw[DU,Gi] at this;have h1:=wD c hd (by
    have h2:1*(Kd+1)<=(F p+1-F d)*(Kd+1):=Bf _ (by omega);omega) a b i
   exact Bk h1 (h (EO p d) (J+Kd+1) (by omega) (WN c hd) (by omega) (by omega))
  next b=>exact Aq (vO (p.map V) (d.map V) (V (top d)) (by rw[AW,Ac,Ac];omega))
theorem pR{x y:G}(hy:Af y ≠ []):t x (Af y)=t x (prim y):=by
 unfold t;rw[<- O0 y,nS (by have:=Lt hy;omega)]
theorem UF{rs ss:D}{J K:Nat}(hr:∀ r∈rs,BC J r)(hs:∀ r∈ss,BC K r)(c:J<1000000)(l:K<1000000)(hn:F rs<=1048576)(d:F ss<=1048576)(a:Af (Al ss) ≠ [])(e:J+(F (Af (Al rs))+1-F (Af (Al ss)))*(K+1)<1000000) :
  T 119 [sL S rs,sL S ss] (wA (t (prim (Al rs)) (prim (Al ss)))):=by
 have f:=Kn hr c hn;have g:=FM (fun r h=>(hs r h).mono (show K<=1048576 by omega)) d;have i:Kb J (prim (Al rs)):=(KL (DW hr)).prim;have j:Kb K (Af (Al ss)):=(KL (DW hs)).trim;have m:F (prim (Al rs))<=F rs:=by rw[CO];have:=Ct (Al rs);rwa [B1] at this
 have n:F (Af (Al ss))<=F ss:=by have:=Ct (Al ss);rwa [B1] at this
 have o:=Av.2 a;have k:=wE j a (F (prim (Al rs))) (prim (Al rs)) J (A2 _) i (by rw[CO];exact e) (by omega);have b:Q X (F ((Af (Al ss)).map V)-1)=((F (Af (Al ss))-1:Nat):Int):=by rw[Ac,wqz];omega
 rw[<- pR a];exact A5l rs ss _ _ ((t (prim (Al rs)) (Af (Al ss))).map V) (V (top (Af (Al ss)))) (FD f) (FD g) (by rw[b,Ac];omega) (by
  rw[b,Aa,F7 (show F (Af (Al ss))-1<F (Af (Al ss)) by omega)];exact k)
theorem bO:∀ (f:Nat) (x y:G) (M:Nat),0<M->F y<=f->F y<=F x->F x<=1048576->prim x=x->prim y=y->Kb (M-1) x->Kb (M-1) y->M*Lv (F x) (F y)<=500000 ->
  ∃ bs,Z (.loop Xg) (MA (x.map V) (y.map V)) xZ0 (MA ((Kj f x y).map V) bs):=by
 intro f;induction f with
 | zero =>
  intro x y M _ h1 _ _ _ _ _ _ _;have:y=[]:=AU (by omega);subst this;exact⟨_,Aq (vQ _ _ (by simp))⟩
 | succ f j =>
  intro x y M c h1 h2 l a b e d g;simp only[Kj];split
  next h=>subst h;exact⟨_,Aq (vQ _ _ (by simp))⟩
  ·rename_i h;have p:=Av.2 h;obtain⟨q,m,n⟩:=Nq c (Dm a) h e d h2;have o:0<M*(F x-F y+2):=HW c (by omega);have r:M<=M*(F x-F y+2):=Dn M (by omega);have s:M*(F x-F y+2)<=500000:=by
    refine B6 (Bu _ ?_) g;unfold Lv;exact Dn _ (E5 (by decide))
   have i:=UF (rs:=x.map V) (ss:=y.map V) (Bx e) (Bx d) (by omega) (by omega) (by rw[Ac];exact l) (by rw[Ac];omega) (by rw[Bs,Dm b];exact h) (by
    rw[Bs,Bs,Dm a,Dm b,O1 c,show F x+1-F y=F x-F y+1 by omega,Du _ M];have:M*(F x-F y+2)=M*(F x-F y+1)+M:=by rw[<- TB]
    omega)
   rw[Bs,Bs,a,b] at i;have k:=vP (x.map V) (y.map V) _ (by simp;omega) i;obtain⟨bs,hb⟩:=j y (t x y) (M*(F x-F y+2)) o (by omega) (by omega) (by omega) b (Kz _ _ _ a) (d.mono (by omega)) n (Nr m g);exact⟨bs,Bk k hb⟩
theorem TZ{rs ss:D}{g:G}{bs:D}{K:Nat}(hr:∀ r∈rs,BC K r)(hs:∀ r∈ss,BC K r)(a:K<1000000)(hn:F rs<=1048576)(e:F ss<=1048576){Kg:Nat}(f:Kb Kg g)(i:Cw g)(j:Kg<=1048576)(k:F g<=1048576)
  (b:Z (.loop Xg) (MA ((prim (Al rs)).map V) ((prim (Al ss)).map V)) xZ0 (MA (g.map V) bs)) :
  Q5 70 [sL S rs,sL S ss] (y g):=by
 have c:=Kn hr a hn;have d:=Kn hs a e;obtain⟨l,m⟩:=Q6 f i j k;by_cases h:top g<0
 ·exact .inl (Apt rs ss _ _ (g.map V) bs _ (FD c) (FD d) b (l h))
 ·rw[Tm h];exact .inr (Apu rs ss _ _ (g.map V) bs (FD c) (FD d) b (m h))
theorem VX{rs ss:D}{K c:Nat}(hr:∀ r∈rs,BC K r)(hs:∀ r∈ss,BC K r)(hn:F rs<=c)(o:F ss<=c)(hc:c<=1048576)(g:(K+1)*(2*3^c)<=500000) :
  Q5 70 [sL S rs,sL S ss] (y (Rb (prim (Al rs)) (prim (Al ss)))):=by
 have p:0<3^c:=E5 (by decide);have q:K+1<=500000:=by
  have:(K+1)*1<=(K+1)*(2*3^c):=Bu _ (by omega);omega
 have b:Kb K (prim (Al rs)):=(KL (DW hr)).prim;have d:Kb K (prim (Al ss)):=(KL (DW hs)).prim;have s:F (prim (Al rs))<=F rs:=by rw[CO];have:=Ct (Al rs);rwa [B1] at this
 have u:F (prim (Al ss))<=F ss:=by rw[CO];have:=Ct (Al ss);rwa [B1] at this
 unfold Rb;split
 next a=>have e:(K+1)*Lv (F (prim (Al rs))) (F (prim (Al ss)))<=500000:=B6 (Bu _ (RU a (by omega))) g;obtain⟨bs,hb⟩:=bO (F (prim (Al ss))) (prim (Al rs)) (prim (Al ss)) (K+1) (by omega) (A2 _) a (by omega) (CP _) (CP _) b d e;obtain⟨f,j⟩:=OG (F (prim (Al ss))) (prim (Al rs)) (prim (Al ss)) (K+1) (by omega) (A2 _) a (De _) (De _) b d;exact TZ hr hs (by omega) (by omega) (by omega) f (Dm (O3 _ _ _ (CP _) (CP _))) (by omega) (by omega) hb
 ·rename_i a;have e:(K+1)*Lv (F (prim (Al ss))) (F (prim (Al rs)))<=500000:=B6 (Bu _ (RU (by omega) (by omega))) g;obtain⟨bs,hb⟩:=bO (F (prim (Al rs))) (prim (Al ss)) (prim (Al rs)) (K+1) (by omega) (A2 _) (by omega) (by omega) (CP _) (CP _) d b e;obtain⟨f,j⟩:=OG (F (prim (Al rs))) (prim (Al ss)) (prim (Al rs)) (K+1) (by omega) (A2 _) (by omega) (De _) (De _) d b;have l:prim (Al ss) ≠ []:=by intro h;rw[h] at a;simp at a
  have m:t (prim (Al rs)) (prim (Al ss))=prim (Al rs):=by
   unfold t;cases hx:F (prim (Al rs)) with
   | zero=>rfl
   | succ n=>simp only[Fi];rw[Aw a]
  have i:=UF (rs:=(prim (Al rs)).map V) (ss:=(prim (Al ss)).map V) (Bx b) (Bx d) (by omega) (by omega) (by rw[Ac];omega) (by rw[Ac];omega) (by rw[Bs,De];exact l) (by
   rw[Bs,Bs,De,De,show F (prim (Al rs))+1-F (prim (Al ss))=0 by omega,Lj];omega)
  rw[Bs,Bs,CP,CP,m] at i;have k:=vP ((prim (Al rs)).map V) ((prim (Al ss)).map V) _ (by rw[AZ,Ac];omega) i;exact TZ hr hs (by omega) (by omega) (by omega) f (Dm (O3 _ _ _ (CP _) (CP _))) (by omega) (by omega) (Bk k hb)
section
variable {p d:G} {J Kd:Nat}
theorem A6l{t:Int}{l:Rn}{rs a:D}{q:Int}(hp:Kb J p)(f:u Kd t)(o:J+Kd<1000000)(r:F p<=1048576) :
  Z (.loop VP) (LU rs a (V t) (F p) (p.map V) l q 0) xZ2 (LU rs a (V t) (F p) ((AM t p).map V) l q (F p:Nat)):=by
 have b:F ((AM t p).map V)=F (p.map V):=by rw[Ac,Ac,BR]
 have g:F (p.map V)=F p:=Ac ..;have h:=Et (prog:=DP) (c:=VP) (ex := .exit 2) (fin:=LU rs a (V t) (F p) ((AM t p).map V) l q (F p:Nat))
  (fun i=>LU rs a (V t) (F p) (Ho ((AM t p).map V) (p.map V) i) l q (i:Nat)) (F p) (by nofun) ?_ ?_ 0 (A_ _)
 ·rw[Qy] at h;exact h
 ·intro i hi;have j:Q X (i+1)=((i+1:Nat):Int):=wrz
  have s:=Jo b i;have d:=P9 b (i:=i) (by omega);have m:H ((AM t p).map V) i z0=V (H (AM t p) i 0):=F7 (by rw[BR];exact hi);have e:=PA b (i:=i) (by omega);rw[m,Bt] at e;have n:=Cm (Bx hp) i;have gt:=BB f;have N:=FZ p i;have m1:=Xk n gt (by omega);generalize Ho ((AM t p).map V) (p.map V) i=M at *
  have k:=Apv rs a (V t) (F p) M l q (i:Nat) (by simp;omega) (by omega) (by omega) (by rw[Aa,d];exact m1);refine k.to rfl ?_;simp only[j,Aa,d];rw[N,AO,AT,e]
 ·rw[show Ho ((AM t p).map V) (p.map V) (F p)=(AM t p).map V by have h:=Qz b;rw[g] at h;exact h];exact Apw _ _ _ _ _ _ _ _ (by simp)
theorem A6m{b:Int}{k:Nat}{os:D}(hp:Kb J p)(hd:Kb Kd d)(hb:u J b)(z:J+Kd+1<1000000)(s:d ≠ [])(A:F d<=F p)(C:F p<=1048576) :
  Z (.loop Tk) (Jn (p.map V) (d.map V) (V (top d)) k os (V b) ((F p-F d:Nat)) 0 [] 0) xZ4
   (Jn (p.map V) (d.map V) (V (top d)) k os (V b) ((F p-F d:Nat)) (F p-1) (S ((D7 p d (top d) b (F p-1)).map V)) ((F p-1:Nat))):=by
 have E:=Av.2 s;have t:F (p.map V)=F p:=Ac ..;have G:F (d.map V)=F d:=Ac ..;have e:Q X (F (p.map V)-1)=((F p-1:Nat):Int):=by rw[t,wqz];omega
 have h:=Et (prog:=DP) (c:=Tk) (ex := .exit 4) (fin:=Jn (p.map V) (d.map V) (V (top d)) k os (V b) ((F p-F d:Nat)) (F p-1) (S ((D7 p d (top d) b (F p-1)).map V)) ((F p-1:Nat)))
  (fun i=>Jn (p.map V) (d.map V) (V (top d)) k os (V b) ((F p-F d:Nat)) i (S ((Ay i).map fun j=>V (Rk p d (top d) b j))) (i:Nat)) (F p-1) (by nofun) ?_ ?_ 0 (A_ _)
 ·exact h
 ·intro i hi;have f:Q X (i+1)=((i+1:Nat):Int):=wrz
  have g:=Cm (Bx hp) i;have l:=BB (FT hd);have m:=BB hb;have N:=FZ p i;have m1:=Xk l g (by omega);have n:=AO (top d);by_cases o:F p-F d<=i
  ·have a:Q X (i-(F p-F d:Nat))=((i-(F p-F d):Nat):Int):=wrz
   have q:=Cm (Bx hd) (i-(F p-F d));have v:=FZ d (i-(F p-F d));have w:=Xk m q (by omega);have x:u (Kd+J) (B (V (top d))*B (H (p.map V) i z0)):=l.fits.mul g.fits;have y:u (J+Kd) (B (V b)*B (H (d.map V) (i-(F p-F d)) z0)):=m.fits.mul q.fits;have r:=A6k (BB x) (BB y) (by omega) (by omega);rw[AO (B (V (top d))*_),AO (B (V b)*B (H (d.map V) (i-(F p-F d)) z0))] at r;have k:=Apx (p.map V) (d.map V) (V (top d)) k os (V b) ((F p-F d:Nat)) i (S ((Ay i).map fun j=>V (Rk p d (top d) b j))) (i:Nat) (by rw[e,AZ];omega) (by rw[AZ];omega) (by omega) (by rw[a];omega) (by omega)
    (by rw[Aa];exact m1) (by rw[a,Aa];exact w) (by rw[a,Aa,Aa];exact r)
   refine k.to rfl ?_;rw[a,Aa,Aa,f];rw[<- Hn (Rk p d (top d) b) i];unfold Rk;rw[Ar o,n,N,AO,v]
  ·have k:=Apy (p.map V) (d.map V) (V (top d)) k os (V b) ((F p-F d:Nat)) i (S ((Ay i).map fun j=>V (Rk p d (top d) b j))) (i:Nat) (by rw[e,AZ];omega) (by rw[AW];omega) (by omega) (by omega)
    (by rw[Aa];exact m1)
   refine k.to rfl ?_;rw[Aa,f];rw[<- Hn (Rk p d (top d) b) i];unfold Rk;rw[Aw o,n,N]
 ·show Dj _ _ (Jn _ _ _ _ _ _ _ _ (S ((Ay (F p-1)).map fun j=>V (Rk p d (top d) b j))) _) _ _;rw[wC];exact Apz _ _ _ _ _ _ _ _ _ _ (by rw[e,AW];omega)
end
theorem wF{d:G}{Kd:Nat}(hd:Kb Kd d)(i:d ≠ []):∀ (f:Nat) (r out:G) (J:Nat),F r<=f->Kb J r->Kb J out->J+(F r+1-F d)*(Kd+1)<1000000->F r+1<=F out+F d->F out<=1048576->F r<=1048576 ->
  (∃ j,Z (.loop oX) (UD (r.map V) (d.map V) (V (top d)) (F out) (out.map V)) xZ0 (UD j (d.map V) (V (top d)) (F out) ((NG d f r out).map V)))/\Kb (J+(F r+1-F d)*(Kd+1)) (NG d f r out)/\F (NG d f r out)=F out:=by
 have D:=Av.2 i;have t:F (d.map V)=F d:=Ac ..;intro f;induction f with
 | zero =>
  intro r out J u _ a _ _ _ _;exact⟨⟨_,Aq (vR (r.map V) (d.map V) (V (top d)) (F out) (out.map V) (by rw[AW,Ac,Ac];omega))⟩,a.mono (TC _ _),rfl⟩
 | succ f v =>
  intro r out J u b a E I n w;have o:F (r.map V)=F r:=Ac ..;simp only[NG];split
  ·rename_i l;have g:Q X (F (r.map V)-1)=((F r-1:Nat):Int):=by rw[o,wqz];omega
   have h:Q X (F (r.map V)-F (d.map V))=((F r-F d:Nat):Int):=by rw[o,t,wqz];omega
   have K:=P1 i l;have e:(F (Af (D7 r d (top d) (top r) (F r-1)))+1-F d)+1<=F r+1-F d:=by omega
   have y:=Bf (Kd+1) e;rw[DU,Gi] at y;have z:J+Kd+1<1000000:=by omega
   have p:Kb (J+Kd+1) (D7 r d (top d) (top r) (F r-1)):=Vz b hd (FT hd) (FT b) _;have q:=F1 r d (top d) (top r) (F r-1);have A:=Xj a (FT hd);have c:=FM (rs:=(D7 r d (top d) (top r) (F r-1)).map V) (fun x hx=>(Bx p x hx).mono (by omega)) (by rw[Ac];omega);(first|rw[Bs,Ac,q] at c|(rw[Bs] at c;unfold sL at c;rw[Ac,q] at c));have m:H (r.map V) (F r-1) z0=V (top r):=F7 (by omega);have B:((AM (top d) out).map V).set (F r-F d) (V (top r))=((AM (top d) out).set (F r-F d) (top r)).map V:=by rw[Ww]
   obtain⟨⟨j,s⟩,C,len⟩:=v (Af (D7 r d (top d) (top r) (F r-1))) ((AM (top d) out).set (F r-F d) (top r)) (J+Kd+1) (by omega) p.trim (Akt (A.mono (by omega)) ((FT b).mono (by omega)) _) (by omega) (by rw[BH,BR];omega) (by rw[BH,BR];exact n) (by omega);rw[BH,BR] at s len;refine⟨⟨j,Bk ?_ s⟩,C.mono (by omega),len⟩;have k:=A5m (r.map V) (d.map V) (V (top d)) (F out) (out.map V) ((AM (top d) out).map V) ((D7 r d (top d) (top r) (F r-1)).map V) _ (F r-1) (F out:Nat) ((F r-1:Nat)) (by rw[AZ];omega) (by rw[g];omega)
    (by rw[g,h,Aa,m];exact A6l a (FT hd) (by omega) n) (by rw[h];omega) (by rw[Ac,BR])
    (by rw[g,h,Aa,Aa,m];exact A6m b hd (FT b) z i l w) (FD c)
   rw[g,h,Aa,Aa,m,B] at k;exact k
  next l=>exact⟨⟨_,Aq (vR (r.map V) (d.map V) (V (top d)) (F out) (out.map V) (by rw[AW,Ac,Ac];omega))⟩,a.mono (TC _ _),rfl⟩
theorem Aft{p q:G}{J K:Nat}(hp:Kb J p)(e:Kb K q)(u:Cw p)(v:Cw q)(b:q ≠ [])(f:0<top q)(tp:0<top p)(g:F q<=F p)(H:F p<=1000000)(w:J+(F p+1-F q)*(K+1)<1000000) :
  T 123 [sL S (p.map V),sL S (q.map V)] (wA (prim (NG q (F p) p (AI (F p-F q+1) 0)))):=by
 have I:=Av.2 b;have x:F (p.map V)=F p:=Ac ..;have c:F (q.map V)=F q:=Ac ..;have h1:1*(K+1)<=(F p+1-F q)*(K+1):=Bf _ (by omega);have j:=FM (rs:=p.map V) (fun r h=>(Bx hp r h).mono (show J<=1048576 by omega)) (by omega);have k:=FM (rs:=q.map V) (fun r h=>(Bx e r h).mono (show K<=1048576 by omega)) (by omega);rw[Bs,u] at j;rw[Bs,v] at k;have hz:(AI (F p-F q+1) (0:Int)).map V=AI (F p-F q+1) z0:=by rw[AJo,A6j]
 obtain⟨⟨y,l⟩,d,len⟩:=wF e b (F p) p (AI (F p-F q+1) 0) J (A2 _) hp (fun i=>by rw[EB];exact Ib _) w (by simp;omega) (by simp;omega) (by omega);rw[GJ] at l len;obtain⟨L,M,z,A,_,B⟩:=RV (p:=p) b f g;have C:=iK z tp b f g len B A;generalize NG q (F p) p (AI (F p-F q+1) 0)=o at *
 have m:Q X (F (q.map V)-1)=((F q-1:Nat):Int):=by rw[c,wqz];omega
 have s:Q X (Q X (F (p.map V)-F (q.map V))+1)=((F p-F q+1:Nat):Int):=by
  rw[x,c,By (n:=(F p:Int)-(F q:Nat)) (by omega) (by omega),wqz];omega
 have a:=FM (rs:=o.map V) (fun r h=>(Bx d r h).mono (by omega)) (by rw[Ac];omega);(first|rw[Bs,Ac,len] at a|(rw[Bs] at a;unfold sL at a;rw[Ac,len] at a));have D:=Ct o;have t:=Kn (rs:=(Af o).map V) (Bx d.trim) (by omega) (by rw[Ac];omega);rw[Bs,Np (Ei o)] at t;have N:F (prim o)<=F o:=by rw[CO];exact D
 have E:=(Q6 (p:=prim o) d.prim (De o) (by omega) (by omega)).2 (by have:=TR C;omega);exact A5n (p.map V) (q.map V) (p.map V) (q.map V) y (o.map V) _ _ (V (top q)) (F p-F q+1) (FD j) (FD k) (by rw[m,c];omega) (by rw[s];omega)
  (by rw[m,s,Aa,Aa,Vu,<- hz,F7 (show F q-1<F q by omega)];exact l) (FD a) (FD t) E
theorem Aqt{p:G}{c:Int}(hc:0<c)(hp:prim p=p)(a:1<=F p):prim (NG [c] (F p) p (AI (F p-1+1) 0))=p:=by
 obtain⟨j,k,b,e,_,f⟩:=RV (p:=p) (d:=[c]) (by simp) (show 0<top [c] from hc) a;have g:Cw [c]:=Vy (.inr (by show c ≠ 0;omega));have h:=V3 b hc (V0 (o2:=p) (r2:=[]) (c2:=c) g (by simp) f (fun x=>by simp[Ah]) e (fun i _=>rfl));rw[hp] at h;exact h
theorem pS{rs:D}{K c:Nat}(hr:∀ r∈rs,BC K r)(hn:F rs<=c)(hc:c<=9)(x:(K+3)*(2*3^c)<=500000):T 73 [sL S rs] (wA (O (Al rs))):=by
 have M:0<3^c:=E5 (by decide);have N:K+3<=250000:=by
  have:(K+3)*2<=(K+3)*(2*3^c):=Bu _ (by omega);omega
 have b:=FD (Kn hr (by omega) (by omega));have l:Kb K (prim (Al rs)):=(KL (DW hr)).prim;have P:F (prim (Al rs))<=F rs:=by rw[CO];have:=Ct (Al rs);rwa [B1] at this
 obtain⟨m,n⟩:=Q6 l (De _) (by omega) (by omega);have f:Kb K (y (prim (Al rs))):=by
  unfold y;split
  ·intro i;rw[IW];exact (l i).neg
  ·exact l
 have Q:=MS (prim (Al rs));have z:Cw (y (prim (Al rs))):=Qi (De _);have u:(¬ top (prim (Al rs))<0)->y (prim (Al rs))=prim (Al rs):=Tm;have v:=jU (rs:=(y (prim (Al rs))).map V) (Bx f) (by omega) (by rw[Ac];omega);rw[Bs] at v;have g:=FD v;have A:Kb (K+2) (AE (y (prim (Al rs)))):=aG f (by omega);have ld:F (AE (y (prim (Al rs))))<=c:=by have:=WR (y (prim (Al rs)));omega
 have j:=VX (rs:=(y (prim (Al rs))).map V) (ss:=(AE (y (prim (Al rs)))).map V) (K:=K+2) (c:=c) (fun r h=>(Bx f r h).mono (by omega)) (Bx A) (by rw[Ac];omega) (by rw[Ac];exact ld) (by omega) x;rw[Bs,Bs] at j;change Q5 70 _ (Ch (y (prim (Al rs))) (AE (y (prim (Al rs))))) at j;have d:2<=F (y (prim (Al rs)))->T 123 [sL S ((y (prim (Al rs))).map V),sL S ((Ch (y (prim (Al rs))) (AE (y (prim (Al rs))))).map V)] (wA (O (Al rs))):=by
  intro h2;have B:Af (Al rs) ≠ []:=by
   intro C;have:prim (Al rs)=[]:=EM.2 (DY.1 C);rw[this] at h2;exact absurd h2 (by decide)
  obtain⟨o,E,G,H,_,_⟩:=RY B;have p:Af (y (prim (Al rs))) ≠ []:=Ca o E;obtain⟨I,q⟩:=tD (t:=AE (y (prim (Al rs)))) p (by omega) f;rw[o] at q;have s:=Hm (t:=AE (y (prim (Al rs)))) p;have w:=El (y (prim (Al rs))) (AE (y (prim (Al rs))));have k:=Lx (t:=AE (y (prim (Al rs)))) p;have h:=Aft f I z w s k H q (by omega) (by
   have J:F (y (prim (Al rs)))+1-F (Ch (y (prim (Al rs))) (AE (y (prim (Al rs)))))<=10:=by omega
   have R:=Bf (K+3+1) J;have U:3^2<=3^c:=B_ (by decide) (by omega);have W:(K+3)*18<=(K+3)*(2*3^c):=Bu _ (by omega);omega)
  have e:prim (NG (Ch (y (prim (Al rs))) (AE (y (prim (Al rs))))) (F (y (prim (Al rs)))) (y (prim (Al rs))) (AI (F (y (prim (Al rs)))-F (Ch (y (prim (Al rs))) (AE (y (prim (Al rs)))))+1) 0))=O (Al rs):=by
   unfold O;by_cases L:F (Ch (y (prim (Al rs))) (AE (y (prim (Al rs)))))<2
   ·rw[Ar (.inr L)];have X:=Av.2 s;obtain⟨c,hc⟩:=P3 (show F (Ch (y (prim (Al rs))) (AE (y (prim (Al rs)))))=1 by omega);rw[hc] at k |-;exact Aqt k (LO o G) (by omega)
   ·rw[Aw (by omega)];exact (A0x w s k q).symm
  rw[e] at h;exact h
 by_cases hs:F (y (prim (Al rs)))<2
 ·have e:O (Al rs)=y (prim (Al rs)):=by unfold O;rw[Ar (.inl hs)]
  rw[e];by_cases a:top (prim (Al rs))<0
  ·exact oY rs _ _ (by rw[AZ,Ac];omega) b (m a)
  ·rw[u a] at hs |-;exact pF rs _ (by rw[AZ,Ac];omega) b (n a)
 ·have d:=d (by omega);by_cases a:top (prim (Al rs))<0
  ·rcases j with h | h
   ·exact oZ rs _ _ _ _ _ (by rw[AW,Ac];omega) b (m a) g h d
   ·exact pC rs _ _ _ _ _ (by rw[AW,Ac];omega) b (m a) g h d
  ·rw[u a] at *
   rcases j with h | h
   ·exact pD rs _ _ _ _ (by rw[AW,Ac];omega) b (n a) g h d
   ·exact pG rs _ _ _ _ (by rw[AW,Ac];omega) b (n a) g h d
def EV:Nat->G->G->List (G)
 | 0,_,_=>[]
 | f+1,a,b=>if b=[] then [] else b::EV f b (z (t a b))
def Cq(p:G):List (G):=if O p=[] then [] else O p::EV (F (O p)) (O p) (prim (AE (O p)))
theorem MF{p:G}(h:prim p=p):prim (z p)=z p:=by
 by_cases a:p=[]
 ·subst a;rfl
 ·have hl:Cw p:=Dm h;have h1:=NF (xs:=p) (by rw[hl];exact a);rw[h] at h1;exact LO (Kl hl) (by rw[aD];exact h1)
theorem bP{K:Nat}{p:G}(h:Kb K p):Kb K (z p):=fun i=>by rw [IW];exact (h i).neg
def s(l:List (G)):List D:=l.map fun p=>p.map V
theorem wG(ls:List D)(rs:D):pp ls++([sL S rs]:AK)=pp (ls++[rs]):=by simp [pp]
def wH(p:G):Prop:=Kb 500000 p/\F p<=9/\Cw p
theorem pU:∀ (f:Nat) (x y:G) (M:Nat),0<M->F y<=F x->F x<=9->prim x=x->prim y=y->Kb (M-1) x->Kb (M-1) y->M*Lv (F x) (F y)<=500000 ->
  ∀ p∈EV f x y,wH p:=by
 intro f;induction f with
 | zero=>intro x y M _ _ _ _ _ _ _ _ p hp;cases hp
 | succ f e =>
  intro x y M b h2 m c d g a i p hp;simp only[EV] at hp;split at hp
  ·cases hp
  ·rename_i h;obtain⟨n,j,k⟩:=Nq b (Dm c) h g a h2;have l:0<M*(F x-F y+2):=HW b (by omega);have o:M<=M*(F x-F y+2):=Dn M (by omega);have hb:M*1<=M*Lv (F x) (F y):=Bu _ (by unfold Lv;exact HW (by omega) (E5 (by decide)));rcases BW.1 hp with rfl | hp
   ·exact⟨a.mono (by omega),by omega,Dm d⟩
   ·exact e y (z (t x y)) (M*(F x-F y+2)) l (by rw[EY];omega) (by omega) d (MF (Kz _ _ _ c)) (a.mono (by omega)) (bP k) (by rw[EY];exact Nr j i) p hp
theorem Yp:∀ (f:Nat) (x y:G),F (EV f x y)<=f
 | 0,_,_=>A2 _
 | f+1,x,y=>by
  simp only[EV];split
  ·simp
  ·have:=Yp f y (z (t x y));simp;omega
theorem wI:∀ (f:Nat) (x y:G) (M:Nat) (ls:List D),0<M->F y<=f->F y<=F x->F x<=9->prim x=x->prim y=y->Kb (M-1) x->Kb (M-1) y->M*Lv (F x) (F y)<=500000->F ls+f<=1000 ->
  ∃ c d,Z (.loop vI) (TV (x.map V) (F ls) (pp ls) (y.map V)) xZ0 (TV c (F (ls++s (EV f x y))) (pp (ls++s (EV f x y))) d):=by
 intro f;induction f with
 | zero =>
  intro x y M ls _ h1 _ _ _ _ _ _ _ _;have:y=[]:=AU (by omega);subst this;have e:ls++s (EV 0 x [])=ls:=by simp[s,EV]
  rw[e];exact⟨_,_,Aq (Akn _ _ _ _ (by simp))⟩
 | succ f p =>
  intro x y M ls g h1 h2 A a b j i l B;simp only[EV];split
  ·rename_i h;subst h;have e:ls++s []=ls:=by simp[s]
   rw[e];exact⟨_,_,Aq (Akn _ _ _ _ (by simp))⟩
  ·rename_i h;have C:=Av.2 h;obtain⟨E,q,m⟩:=Nq g (Dm a) h j i h2;have u:0<M*(F x-F y+2):=HW g (by omega);have H:M<=M*(F x-F y+2):=Dn M (by omega);have I:M*(F x-F y+2)<=500000:=by
    refine B6 (Bu _ ?_) l;unfold Lv;exact Dn _ (E5 (by decide))
   have n:=ME (rs:=x.map V) (ss:=y.map V) (Bx j) (Bx i) (by omega) (by omega) (by rw[Ac];omega) (by rw[Ac];omega) (by rw[Bs,b];exact h) (by
    rw[Bs,Bs,a,b,O1 g,show F x+1-F y=F x-F y+1 by omega,Du _ M];have:M*(F x-F y+2)=M*(F x-F y+1)+M:=by rw[<- TB]
    omega)
   rw[Bs,Bs,a,b] at n;have o:=NS (rs:=(t x y).map V) (fun r hr=>(Bx m r hr).mono (by omega)) (by rw[Ac];omega);rw[Bs] at o;have v:T 117 [sL S ((t x y).map V)] (Ae 2 (F ((z (t x y)).map V)) (S ((z (t x y)).map V))):=by
    have e:F ((z (t x y)).map V)=F ((t x y).map V):=by rw[Ac,Ac,EY]
    rw[e];exact o
   have k:=ADt (x.map V) (F ls) (pp ls) (y.map V) _ _ (by simp;omega) (by omega) (FD n) v;rw[wG] at k;obtain⟨c,d,hb⟩:=p y (z (t x y)) (M*(F x-F y+2)) (ls++[y.map V]) u (by rw[EY];omega) (by rw[EY];omega) (by omega) b (MF (Kz _ _ _ a)) (i.mono (by omega)) (bP m) (by rw[EY];exact Nr q l) (by rw[B0];simp;omega);have e:ls++[y.map V]++s (EV f y (z (t x y)))=ls++s (y::EV f y (z (t x y))):=by simp[s]
   rw[e] at hb;have w:F (ls++[y.map V])=F ls+1:=by simp
   rw[w] at hb;exact⟨c,d,Bk k hb⟩
theorem MX{rs:D}(hr:∀ r∈rs,BC 5 r)(hn:F rs<=9)(d:O (Al rs) ≠ []) :
  prim (O (Al rs))=O (Al rs)/\Kb 10 (O (Al rs))/\Kb 10 (AE (O (Al rs)))/\F (O (Al rs))<=9/\F (AE (O (Al rs)))<=F (O (Al rs))-1/\F (prim (AE (O (Al rs))))<=F (AE (O (Al rs))) /\
  11*Lv (F (O (Al rs))) (F (prim (AE (O (Al rs)))))<=500000/\Cw (O (Al rs)):=by
 have a:Af (Al rs) ≠ []:=by
  intro h;have hz:prim (Al rs)=[]:=by rw[EM,<- DY];exact h
  apply d;unfold O;rw[hz];rfl
 obtain⟨lf,e,_,_,_,_,_,_⟩:=C7 a;obtain⟨b,l⟩:=Amv a (by rw[B1];exact hn) (KL (DW hr));have f:=Ct (Al rs);rw[B1] at f;have g:=aG b (by omega);have i:F (AE (O (Al rs)))<=F (O (Al rs))-1:=by
  unfold AE;have:=Ct ((Ay (F (O (Al rs))-1)).map fun j=>H (O (Al rs)) (j+1) 0*((j+1:Nat):Int));rwa [Ac,CF] at this
 have k:F (prim (AE (O (Al rs))))<=F (AE (O (Al rs))):=by rw[CO];exact Ct _
 refine⟨LO lf e,b.mono (by omega),g.mono (by omega),by omega,i,k,?_,lf⟩;have:=RU (n:=F (O (Al rs))) (m:=F (prim (AE (O (Al rs))))) (c:=9) (by omega) (by omega);have o:2*3^9=39366:=by decide
 omega
theorem MY{rs:D}(hr:∀ r∈rs,BC 5 r)(hn:F rs<=9):∀ p∈Cq (Al rs),wH p:=by
 intro p hp;unfold Cq at hp;split at hp
 ·cases hp
 ·rename_i c;obtain⟨d,a,e,b,g,h,f,lf⟩:=MX hr hn c;rcases BW.1 hp with rfl | hp
  ·exact⟨a.mono (by omega),b,lf⟩
  ·exact pU _ _ _ 11 (by decide) (by omega) b d (CP _) a e.prim f p hp
theorem K4{rs:D}(hr:∀ r∈rs,BC 5 r)(hn:F rs<=9):F (Cq (Al rs))<=10:=by
 unfold Cq;split
 ·simp
 next a=>obtain⟨_,_,_,b,_⟩:=MX hr hn a;have:=Yp (F (O (Al rs))) (O (Al rs)) (prim (AE (O (Al rs))));simp;omega
theorem Yq{rs:D}(hr:∀ r∈rs,BC 5 r)(hn:F rs<=9):T 67 [sL S rs] (Ae 1 (F (s (Cq (Al rs)))) (pp (s (Cq (Al rs))))):=by
 have b:=Afr hr hn (by omega) (by decide);by_cases a:O (Al rs)=[]
 ·have e:Cq (Al rs)=[]:=by unfold Cq;rw[Ar a]
  rw[e];rw[a] at b;rcases b with h | h
  ·exact vJ rs [] (by decide) h
  ·exact vL rs [] (by decide) h
 ·obtain⟨i,c,d,j,m,n,k,lf⟩:=MX hr hn a;have e:Cq (Al rs)=O (Al rs)::EV (F (O (Al rs))) (O (Al rs)) (prim (AE (O (Al rs)))):=by unfold Cq;rw[Aw a]
  have hd:=TX (rs:=(O (Al rs)).map V) (Bx c) (by omega) (by rw[Ac];omega);rw[Bs] at hd;have hp:=FB (rs:=(AE (O (Al rs))).map V) (Bx d) (by omega) (by rw[Ac];omega);rw[Bs] at hp;obtain⟨f,g,hl⟩:=wI (F (O (Al rs))) (O (Al rs)) (prim (AE (O (Al rs)))) 11 [(O (Al rs)).map V] (by decide) (by omega) (by omega) j i (CP _) c d.prim k (by simp;omega);have l:[(O (Al rs)).map V]++s (EV (F (O (Al rs))) (O (Al rs)) (prim (AE (O (Al rs)))))=s (Cq (Al rs)):=by rw[e];simp[s]
  rw[l] at hl;have c1:((F ((O (Al rs)).map V):Int)==0)=false:=by
   rw[C3,Ac];have:=Av.2 a;omega
  rcases b with h | h
  ·exact vK rs _ _ _ f g _ c1 h (FD hd) (FD hp) hl
  ·exact vM rs _ _ _ f g _ c1 h (FD hd) (FD hp) hl
theorem Afu(ls:List D)(us bs:D){n:Nat}(hn:n=F ls+2)(hN:n<=1048576):BQ (pp (ls++[us])++([sL S bs]:AK)) (Y (Q X (n-2))*1) 1 true=some (sL S us):=by
 have e:Y (Q X (n-2))*1=F ls:=by rw[wqz];omega
 rw[e];simp only[BQ,if_true];rw[B2 (by simp[pp])];simp[pp]
theorem pV:∀ (f:Nat) (x y:G) (M:Nat) (ls:List D),0<M->F y<=f->F y<=F x->F x<=9->prim x=x->prim y=y->Kb (M-1) x->Kb (M-1) y->M*Lv (F x) (F y)<=500000->F ls+f<=1000 ->
  ∃ c,Z (.loop oS) (Sq (F ls+1) (pp (ls++[x.map V])) (y.map V)) xZ0 (Sq (F (ls++[x.map V]++s (EV f x y))) (pp (ls++[x.map V]++s (EV f x y))) c):=by
 intro f;induction f with
 | zero =>
  intro x y M ls _ h1 _ _ _ _ _ _ _ _;have:y=[]:=AU (by omega);subst this;have e:ls++[x.map V]++s (EV 0 x [])=ls++[x.map V]:=by simp[s,EV]
  rw[e,B0];exact⟨_,Aq (vN _ _ _ (by simp))⟩
 | succ f p =>
  intro x y M ls d h1 h2 A a b j g l B;simp only[EV];split
  ·rename_i h;subst h;have e:ls++[x.map V]++s []=ls++[x.map V]:=by simp[s]
   rw[e,B0];exact⟨_,Aq (vN _ _ _ (by simp))⟩
  ·rename_i h;have C:=Av.2 h;obtain⟨q,u,m⟩:=Nq d (Dm a) h j g h2;have v:0<M*(F x-F y+2):=HW d (by omega);have E:M<=M*(F x-F y+2):=Dn M (by omega);have H:M*(F x-F y+2)<=500000:=by
    refine B6 (Bu _ ?_) l;unfold Lv;exact Dn _ (E5 (by decide))
   have n:=UF (rs:=x.map V) (ss:=y.map V) (Bx j) (Bx g) (by omega) (by omega) (by rw[Ac];omega) (by rw[Ac];omega) (by rw[Bs,Dm b];exact h) (by
    rw[Bs,Bs,Dm a,Dm b,O1 d,show F x+1-F y=F x-F y+1 by omega,Du _ M];have:M*(F x-F y+2)=M*(F x-F y+1)+M:=by rw[<- TB]
    omega)
   rw[Bs,Bs,a,b] at n;have o:=jV (rs:=(t x y).map V) (fun r hr=>(Bx m r hr).mono (by omega)) (by rw[Ac];omega);rw[Bs,Kl q] at o;have i:F (ls++[x.map V])=F ls+1:=by simp
   have w:Q X (((F ls+1+1):Nat)-2)=(F ls:Int):=wrz
   have k:=A4r (F ls+1) (pp (ls++[x.map V])) (y.map V) (x.map V) ((t x y).map V) _ (by simp;omega) (by omega) (by rw[w];omega) (Afu ls (x.map V) (y.map V) (by omega) (by omega)) n (FD o);rw[wG] at k;obtain⟨c,hb⟩:=p y (z (t x y)) (M*(F x-F y+2)) (ls++[x.map V]) v (by rw[EY];omega) (by rw[EY];omega) (by omega) b (MF (Kz _ _ _ a)) (g.mono (by omega)) (bP m) (by rw[EY];exact Nr u l) (by rw[i];omega);have e:ls++[x.map V]++[y.map V]++s (EV f y (z (t x y)))=ls++[x.map V]++s (y::EV f y (z (t x y))):=by simp[s]
   (first|rw[e,i] at hb|(rw[e] at hb;unfold sL at hb;rw[i] at hb));exact⟨c,Bk k hb⟩
theorem Yr{rs:D}(hr:∀ r∈rs,BC 5 r)(hn:F rs<=9):T 108 [sL S rs] (Ae 1 (F (s (Cq (Al rs)))) (pp (s (Cq (Al rs))))):=by
 have b:=pS hr hn (by omega) (by decide);by_cases a:O (Al rs)=[]
 ·have e:Cq (Al rs)=[]:=by unfold Cq;rw[Ar a]
  rw[e];rw[a] at b;exact Aew rs [] (by decide) b
 ·obtain⟨f,c,d,g,k,l,h,lf⟩:=MX hr hn a;have e:Cq (Al rs)=O (Al rs)::EV (F (O (Al rs))) (O (Al rs)) (prim (AE (O (Al rs)))):=by unfold Cq;rw[Aw a]
  have hd:=jU (rs:=(O (Al rs)).map V) (Bx c) (by omega) (by rw[Ac];omega);rw[Bs] at hd;have hp:=Kn (rs:=(AE (O (Al rs))).map V) (Bx d) (by omega) (by rw[Ac];omega);rw[Bs] at hp;obtain⟨i,hl⟩:=pV (F (O (Al rs))) (O (Al rs)) (prim (AE (O (Al rs)))) 11 [] (by decide) (by omega) (by omega) g f (CP _) c d.prim h (by simp;omega);have j:[]++[(O (Al rs)).map V]++s (EV (F (O (Al rs))) (O (Al rs)) (prim (AE (O (Al rs)))))=s (Cq (Al rs)):=by rw[e];simp[s]
  rw[j] at hl;have c1:((F ((O (Al rs)).map V):Int)==0)=false:=by
   rw[C3,Ac];have:=Av.2 a;omega
  exact Aex rs _ _ _ i _ c1 b (FD hd) (FD hp) hl
def UG(x:Int × Int)(s:Int):Int × Int:=(if s ≠ 0/\x.2 ≠ 0/\s ≠ x.2 then x.1+1 else x.1,if s ≠ 0 then s else x.2)
def K5(l:List (G))(a:Int)(e i:Nat):Int:=B4 (hv (H l i []) a (2^e))
def CU(l:List (G))(a:Int)(e:Nat):Nat->Int × Int
 | 0=>(0,0)
 | i+1=>UG (CU l a e i) (K5 l a e i)
theorem Ny(l:List (G))(a:Int)(e:Nat):∀ i:Nat,0<=(CU l a e i).1/\(CU l a e i).1<=(i:Int)
 | 0=>by simp[CU]
 | i+1=>by
  have:=Ny l a e i;simp only[CU,UG];split <;> omega
theorem L8{l:List (G)}{i:Nat}(h:i<F l):H (s l) i []=(H l i []).map V:=by
 unfold s;rw[Ad,CC,Ad,Am h];rfl
theorem Ee(l:List (G)):F (s l)=F l:=Ac ..
section
variable {l:List (G)} {r:Rn} (hl:∀ p∈l,wH p) (hr:BC 300 r) (hN:F l<=100) (e:Nat) (he:e<=8192)
include hl hr he
theorem AEj{i:Nat}(hi:i<F l):T 65 [sL S (H (s l) i []),Ao [W r.1,P (F r.2) (A r.2),J X (e:Nat)]] (J X (K5 l (B r) e i)):=by
 rw[L8 hi];have a:H l i []∈l:=by rw[Ad,Am hi];exact AP hi
 obtain⟨h1,h2,b⟩:=hl _ a;have h:=VO (rs:=(H l i []).map V) (Bx h1) hr e (by
  rw[Ac];have c:(F (H l i [])+1)*(300+(e / 32+1)+1)<=10*560:=Ck (by omega) (by omega);omega) (by omega)
 rw[Bs] at h;exact h
theorem Aqu{i:Nat}(hi:i<F l):∃ w:Int,T 80 [sL S (H (s l) i []),Ao [W r.1,P (F r.2) (A r.2)],J X (e:Nat)] (M w)/\T 79 [M w] (J X (K5 l (B r) e i)):=by
 rw[L8 hi];have a:H l i []∈l:=by rw[Ad,Am hi];exact AP hi
 obtain⟨h1,h2,b⟩:=hl _ a;have c:500000+2+(F ((H l i []).map V)+1)*(300+(e / 32+1)+1)<=1048576:=by
  rw[Ac];have f:(F (H l i [])+1)*(300+(e / 32+1)+1)<=10*560:=Ck (by omega) (by omega);omega
 have h:=Yk (rs:=(H l i []).map V) (Bx h1) hr e c (by omega);rw[Bs,b] at h;have d:=bG (K:=500000) hr.fits e (ts:=H l i []) h1.mem;have g:F (H l i [])*(300+(e / 32+1)+1)<=9*560:=Ck (by omega) (by omega);exact⟨_,h,Tg (n:=hv (H l i []) (B r) (2^e)) (by have:=d.len;omega)⟩
theorem KS(hN:F l<=100):T 68 [sL pp (s l),Ao [W r.1,P (F r.2) (A r.2),J X (e:Nat)]] (J X (CU l (B r) e (F l)).1):=by
 have j:=Ee l;have h:=Et (prog:=DP) (c:=bH) (ex := .exit 0) (fin:=OD (s l) r (e:Nat) (CU l (B r) e (F l)).1 (CU l (B r) e (F l)).2 (F (s l)) (F l:Nat))
  (fun i=>OD (s l) r (e:Nat) (CU l (B r) e i).1 (CU l (B r) e i).2 (F (s l)) (i:Nat)) (F l) (by nofun) ?_ ?_ 0 (A_ _)
 ·exact ADz (s l) r (e:Nat) _ _ _ h
 ·intro i hi;have d:Q X (i+1)=((i+1:Nat):Int):=wrz
  have hs:=AEj hl hr e he hi;have hb:=Ny l (B r) e i;have g:Q X ((CU l (B r) e i).1+1)=(CU l (B r) e i).1+1:=By (by omega) (by omega);have c1:decide ((i:Int)<(F (s l):Int))=true:=by rw[AZ];omega
  simp only[CU,UG];by_cases a:K5 l (B r) e i=0
  ·rw[Aw (fun h=>h.1 a),Aw (fun h=>h a)];have k:=ADx (s l) r (e:Nat) (CU l (B r) e i).1 (CU l (B r) e i).2 (F (s l)) (i:Nat) (K5 l (B r) e i) c1 (by rw[bne_eq_false_iff_eq];exact a) (by omega) (by rw[Aa];exact hs);rwa [d] at k
  ·by_cases b:(CU l (B r) e i).2=0
   ·rw[Aw (fun h=>h.2.1 b),Ar a];have k:=ADw (s l) r (e:Nat) (CU l (B r) e i).1 (CU l (B r) e i).2 (F (s l)) (i:Nat) (K5 l (B r) e i) c1 (by rw[bne_iff_ne];exact a) (by rw[bne_eq_false_iff_eq];exact b) (by omega) (by rw[Aa];exact hs);rwa [d] at k
   ·by_cases f:K5 l (B r) e i=(CU l (B r) e i).2
    ·rw[Aw (fun h=>h.2.2 f),Ar a];have k:=ADv (s l) r (e:Nat) (CU l (B r) e i).1 (CU l (B r) e i).2 (F (s l)) (i:Nat) (K5 l (B r) e i) c1 (by rw[bne_iff_ne];exact a) (by rw[bne_iff_ne];exact b) (by rw[bne_eq_false_iff_eq];exact f) (by omega) (by rw[Aa];exact hs);rwa [d] at k
    ·rw[Ar ⟨a,b,f⟩,Ar a];have k:=ADu (s l) r (e:Nat) (CU l (B r) e i).1 (CU l (B r) e i).2 (F (s l)) (i:Nat) (K5 l (B r) e i) c1 (by rw[bne_iff_ne];exact a) (by rw[bne_iff_ne];exact b) (by rw[bne_iff_ne];exact f) (by omega) (by rw[Aa];exact hs);rwa [d,g] at k
 ·exact ADy (s l) r _ _ _ _ _ (by rw[AW];omega)
theorem PB(hN:F l<=100):T 110 [sL pp (s l),Ao [W r.1,P (F r.2) (A r.2),J X (e:Nat)]] (J X (CU l (B r) e (F l)).1):=by
 have m:=Ee l;have h:=Et (prog:=DP) (c:=UC) (ex := .exit 0) (fin:=KR (s l) r (e:Nat) (CU l (B r) e (F l)).1 (CU l (B r) e (F l)).2 (F l:Nat))
  (fun i=>KR (s l) r (e:Nat) (CU l (B r) e i).1 (CU l (B r) e i).2 (i:Nat)) (F l) (by nofun) ?_ ?_ 0 (A_ _)
 ·exact A4x (s l) r (e:Nat) _ _ _ h
 ·intro i hi;have d:Q X (i+1)=((i+1:Nat):Int):=wrz
  obtain⟨w,hs,f⟩:=Aqu hl hr e he hi;have hb:=Ny l (B r) e i;have j:Q X ((CU l (B r) e i).1+1)=(CU l (B r) e i).1+1:=By (by omega) (by omega);have c1:decide ((i:Int)<(F (s l):Int))=true:=by rw[AZ];omega
  simp only[CU,UG];by_cases a:K5 l (B r) e i=0
  ·rw[Aw (fun h=>h.1 a),Aw (fun h=>h a)];have k:=A4v (s l) r (e:Nat) (CU l (B r) e i).1 (CU l (B r) e i).2 (i:Nat) w (K5 l (B r) e i) c1 (by rw[bne_eq_false_iff_eq];exact a) (by omega) (by rw[Aa];exact hs) f;rwa [d] at k
  ·by_cases b:(CU l (B r) e i).2=0
   ·rw[Aw (fun h=>h.2.1 b),Ar a];have k:=A4u (s l) r (e:Nat) (CU l (B r) e i).1 (CU l (B r) e i).2 (i:Nat) w (K5 l (B r) e i) c1 (by rw[bne_iff_ne];exact a) (by rw[bne_eq_false_iff_eq];exact b) (by omega) (by rw[Aa];exact hs) f;rwa [d] at k
   ·by_cases g:K5 l (B r) e i=(CU l (B r) e i).2
    ·rw[Aw (fun h=>h.2.2 g),Ar a];have k:=A4t (s l) r (e:Nat) (CU l (B r) e i).1 (CU l (B r) e i).2 (i:Nat) w (K5 l (B r) e i) c1 (by rw[bne_iff_ne];exact a) (by rw[bne_iff_ne];exact b) (by rw[bne_eq_false_iff_eq];exact g) (by omega) (by rw[Aa];exact hs) f;rwa [d] at k
    ·rw[Ar ⟨a,b,g⟩,Ar a];have k:=A4s (s l) r (e:Nat) (CU l (B r) e i).1 (CU l (B r) e i).2 (i:Nat) w (K5 l (B r) e i) c1 (by rw[bne_iff_ne];exact a) (by rw[bne_iff_ne];exact b) (by rw[bne_iff_ne];exact g) (by omega) (by rw[Aa];exact hs) f;rwa [d,j] at k
 ·exact A4w (s l) r _ _ _ _ (by rw[AW];omega)
end
def TZB:Dd:=TZA
theorem Afv:CT DP TZB:=Aey
section
variable(b nb:Bool)(xs a:G)
theorem Aqv(s t:Int)(c1:E (s<t)=true)(d:T 79 [Ao [W b,sL A xs]] (J X s))(e:T 79 [Ao [W nb,sL A a]] (J X t)):T 83 [Ao [W b,sL A xs],Ao [W nb,sL A a]] (J X (-1)):=Bc (fn:=iF AC sC) j rfl 400 rfl [.r (J X s),.r (J X t),bT] (Gy d e c1)
theorem Aqw(s t:Int)(c1:E (s<t)=false)(f:E (s>t)=true)(d:T 79 [Ao [W b,sL A xs]] (J X s))(e:T 79 [Ao [W nb,sL A a]] (J X t)):T 83 [Ao [W b,sL A xs],Ao [W nb,sL A a]] (J X 1):=Bc (fn:=iF AC sC) j rfl 400 rfl [.r (J X s),.r (J X t),bF,bT] (FJ d e c1 f)
theorem Aqx(s t c:Int)(c1:E (s<t)=false)(f:E (s>t)=false)(g:E (s<0)=true)(d:T 79 [Ao [W b,sL A xs]] (J X s))(e:T 79 [Ao [W nb,sL A a]] (J X t))(h:T 99 [sL A xs] (Ae 1 (F (Af xs)) (A (Af xs))))(i:T 99 [sL A a] (Ae 1 (F (Af a)) (A (Af a))))(k:T 134 [sL A (Af xs),sL A (Af a)] (J X c)):T 83 [Ao [W b,sL A xs],Ao [W nb,sL A a]] (J X (Q X (0-c))):=Bc (fn:=iF AC sC) j rfl 400 rfl [.r (J X s),.r (J X t),bF,bF,.r (Ae 1 (F (Af xs)) (A (Af xs))),.r (Ae 1 (F (Af a)) (A (Af a))),.r (J X c),bT] (Ip d e c1 f h i k g)
theorem Aqy(s t c:Int)(c1:E (s<t)=false)(f:E (s>t)=false)(g:E (s<0)=false)(d:T 79 [Ao [W b,sL A xs]] (J X s))(e:T 79 [Ao [W nb,sL A a]] (J X t))(h:T 99 [sL A xs] (Ae 1 (F (Af xs)) (A (Af xs))))(i:T 99 [sL A a] (Ae 1 (F (Af a)) (A (Af a))))(k:T 134 [sL A (Af xs),sL A (Af a)] (J X c)):T 83 [Ao [W b,sL A xs],Ao [W nb,sL A a]] (J X c):=Bc (fn:=iF AC sC) j rfl 400 rfl [.r (J X s),.r (J X t),bF,bF,.r (Ae 1 (F (Af xs)) (A (Af xs))),.r (Ae 1 (F (Af a)) (A (Af a))),.r (J X c),bF] (Ip d e c1 f h i k g)
end
section
variable(b nb m1 a:Bool)(xs e us vs:G)
theorem Afw(d:Int)(c1:m1=true)(f:a=true)(g:T 143 [Ao [W b,sL A xs]] (A3 [W m1,sL A us]))(h:T 143 [Ao [W nb,sL A e]] (A3 [W a,sL A vs]))(i:T 151 [sL A vs,sL A us] (J X d)):T 103 [Ao [W b,sL A xs],Ao [W nb,sL A e]] (J X d):=Bc (fn:=iF AC Z7) j rfl 400 rfl [.r (A3 [W m1,sL A us]),.r (A3 [W a,sL A vs]),bT,bF,bT,bF,bT,.r (J X d)] (Ip g h c1 (KA f) f (KA c1) c1 i)
theorem Afx(c1:m1=true)(f:a=false)(g:T 143 [Ao [W b,sL A xs]] (A3 [W m1,sL A us]))(h:T 143 [Ao [W nb,sL A e]] (A3 [W a,sL A vs])):T 103 [Ao [W b,sL A xs],Ao [W nb,sL A e]] (J X (-1)):=Bc (fn:=iF AC Z7) j rfl 400 rfl [.r (A3 [W m1,sL A us]),.r (A3 [W a,sL A vs]),bT,bT] (FJ g h c1 (Vo f))
theorem Afy(c1:m1=false)(f:a=true)(g:T 143 [Ao [W b,sL A xs]] (A3 [W m1,sL A us]))(h:T 143 [Ao [W nb,sL A e]] (A3 [W a,sL A vs])):T 103 [Ao [W b,sL A xs],Ao [W nb,sL A e]] (J X 1):=Bc (fn:=iF AC Z7) j rfl 400 rfl [.r (A3 [W m1,sL A us]),.r (A3 [W a,sL A vs]),bF,bF,bT,bT] (Gm g h c1 F9 f (Vo c1))
theorem Afz(c:Int)(c1:m1=false)(f:a=false)(g:T 143 [Ao [W b,sL A xs]] (A3 [W m1,sL A us]))(h:T 143 [Ao [W nb,sL A e]] (A3 [W a,sL A vs]))(i:T 151 [sL A us,sL A vs] (J X c)):T 103 [Ao [W b,sL A xs],Ao [W nb,sL A e]] (J X c):=Bc (fn:=iF AC Z7) j rfl 400 rfl [.r (A3 [W m1,sL A us]),.r (A3 [W a,sL A vs]),bF,bF,bF,bF,bF,.r (J X c)] (Ip g h c1 F9 f F9 c1 i)
end
def Q7:ICode:=a ZB 91 500
section
variable(m:Bool)(k s:Int)(a:G)(b:Bool)(i:Int)
def IG:Az:=L 4 (AH [W false,P 0 []]::C (W m)::C (sL A a)::N k::C (J R s)::C (W b)::N i::L 92 [])
theorem Aqz(c1:E (i<k)=true)(d:E (i<F a)=true)(e:b=false)(c:0<=i/\i<F a):Z Q7 (IG m k s a b i) .norm (IG m k s a ((H a (Y i) 0) != 0) (Q X (i+1))):=Ab j [bT,bT,bF,.v (J U (H a (Y i) 0))] mZ (Ff c1 d e c (B7 c))
theorem Ara(c1:E (i<k)=false):Z Q7 (IG m k s a b i) xZ0 (IG m k s a b i):=Ab j [bF,bF] mZ (DH c1 F9)
end
def OH:ICode:=a ZB 89 2036
section
variable(m:Bool)(k s:Int)(a:G)(b:Bool)(n:Nat)(cs:AK)(i:Int)
def HA:Az:=L 4 (AH [W false,P 0 []]::C (W m)::C (sL A a)::N k::C (J R s)::C (W b)::L 1 (Ak 1 n cs::N i::L 90 []))
theorem Arb(c1:E (i<F a)=true)(f:E (Q X (i+1)<(F a:Int))=true)(c:0<=i/\i<F a)(e:0<=Q X (i+1)/\Q X (i+1)<(F a:Int))(g:¬ s<0)(h:n+1<=35184372088832):Z OH (HA m k s a b n cs i) .norm (HA m k s a b (n+1) (cs++([J U (Q U (d (Q R ((Aj (A5 .u64) (Q R (H a (Y i) 0)) ||| Aj (A5 .u64) (Q R (Q R (H a (Y (Q X (i+1))) 0)*2^(min (Y 32) (A5 .u64))))).toNat)) (2^(min (Y s) (A5 .u64)))))]:AK)) (Q X (i+1))):=Ab j [bT,.v (J U (H a (Y i) 0)),bT,.v (J U (H a (Y (Q X (i+1))) 0))] ZH (Kw c1 c (B7 c) f e (B7 e) K9 g (show F ([J U (Q U (d (Q R ((Aj (A5 .u64) (Q R (H a (Y i) 0)) ||| Aj (A5 .u64) (Q R (Q R (H a (Y (Q X (i+1))) 0)*2^(min (Y 32) (A5 .u64))))).toNat)) (2^(min (Y s) (A5 .u64)))))]:AK)=1*1 from rfl) h)
theorem Arc(c1:E (i<F a)=true)(f:E (Q X (i+1)<(F a:Int))=false)(c:0<=i/\i<F a)(e:¬ s<0)(g:n+1<=35184372088832):Z OH (HA m k s a b n cs i) .norm (HA m k s a b (n+1) (cs++([J U (Q U (d (Q R (H a (Y i) 0)) (2^(min (Y s) (A5 .u64)))))]:AK)) (Q X (i+1))):=Ab j [bT,.v (J U (H a (Y i) 0)),bF] ZH (GZ c1 c (B7 c) f e (show F ([J U (Q U (d (Q R (H a (Y i) 0)) (2^(min (Y s) (A5 .u64)))))]:AK)=1*1 from rfl) g)
theorem Ard(c1:E (i<F a)=false):Z OH (HA m k s a b n cs i) xZ2 (HA m k s a b n cs i):=Ab j [bF] ZH (BO c1)
end
section
variable(neg m c:Bool)(xs b os:G)(a n p u:Int)
theorem Aga(c1:E (Q X (AF a 32)<(F b:Int))=true)(e:((Q U ((Aj (A5 .u32) (H b (Y (Q X (AF a 32))) 0) &&& Aj (A5 .u32) (Q U (Q U (1*2^(min (Y (Q R (Bl a 32))) (A5 .u32)))-1))).toNat)) != 0)=false)(f:m=true)(q:c=false)(g:T 143 [Ao [W neg,sL A xs]] (A3 [W m,sL A b]))(h:Z (.loop Q7) (IG m (Q X (AF a 32)) (Q R (Bl a 32)) b false 0) xZ0 (IG m (Q X (AF a 32)) (Q R (Bl a 32)) b c n))(i:Z (.loop OH) (HA m (Q X (AF a 32)) (Q R (Bl a 32)) b c 0 ([]:AK) (Q X (AF a 32))) xZ2 (HA m (Q X (AF a 32)) (Q R (Bl a 32)) b c (F os) (A os) p))(d:0<=Q X (AF a 32)/\Q X (AF a 32)<(F b:Int))(k:¬ (Q R (Bl a 32))<0)(l:T 152 [W m,sL A os] (M u)):T 163 [Ao [W neg,sL A xs],J X a] (M u):=CQ ZB (L 4 (AH [W (E (u<0)),sL A (o (I u))]::L 98 [])) (As (As (As (AA (Ag (Ab j [.r (A3 [W m,sL A b])] mZ (Gy g H7 H7)) (Ag (A7 h) (AA (Ag (Ab j [] ZH a0) (Ag (A7 i) (Ab j [bT,.v (J U (H b (Y (Q X (AF a 32))) 0)),bF,bT,bF,.r (M u)] [4] (Ip c1 d (B7 d) k e f q l)))))))))))
theorem Agb(c1:E (Q X (AF a 32)<(F b:Int))=true)(e:((Q U ((Aj (A5 .u32) (H b (Y (Q X (AF a 32))) 0) &&& Aj (A5 .u32) (Q U (Q U (1*2^(min (Y (Q R (Bl a 32))) (A5 .u32)))-1))).toNat)) != 0)=false)(f:m=false)(g:T 143 [Ao [W neg,sL A xs]] (A3 [W m,sL A b]))(h:Z (.loop Q7) (IG m (Q X (AF a 32)) (Q R (Bl a 32)) b false 0) xZ0 (IG m (Q X (AF a 32)) (Q R (Bl a 32)) b c n))(i:Z (.loop OH) (HA m (Q X (AF a 32)) (Q R (Bl a 32)) b c 0 ([]:AK) (Q X (AF a 32))) xZ2 (HA m (Q X (AF a 32)) (Q R (Bl a 32)) b c (F os) (A os) p))(d:0<=Q X (AF a 32)/\Q X (AF a 32)<(F b:Int))(k:¬ (Q R (Bl a 32))<0)(l:T 152 [W m,sL A os] (M u)):T 163 [Ao [W neg,sL A xs],J X a] (M u):=CQ ZB (L 4 (AH [W (E (u<0)),sL A (o (I u))]::L 98 [])) (As (As (As (AA (Ag (Ab j [.r (A3 [W m,sL A b])] mZ (Gy g H7 H7)) (Ag (A7 h) (AA (Ag (Ab j [] ZH a0) (Ag (A7 i) (Ab j [bT,.v (J U (H b (Y (Q X (AF a 32))) 0)),bF,bF,bF,.r (M u)] [4] (Ip c1 d (B7 d) k e f F9 l)))))))))))
end
theorem AEk(r t:Rn)(e f a Y c:Int)(b:T 104 [AB r,J X (Q X ((if f>e then f else e)-e))] (M a))(d:T 104 [AB t,J X (Q X ((if f>e then f else e)-f))] (M Y))(g:T 103 [M a,M Y] (J X c)):T 55 [Ao [W r.1,P (F r.2) (A r.2),J X e],Ao [W t.1,P (F t.2) (A t.2),J X f]] (J X c):=Bc (fn:=iF AC AGn) j rfl 400 rfl [.r (M a),.r (M Y),.r (J X c)] (Gy b d g)
def bQ:ICode:=a mK 92 248
section
variable(n:Rn)(e z:Int)
def Pd:Az:=L 1 (N e::AH [W n.1,P (F n.2) (A n.2)]::L 1 (AH [W false,P 0 [],J X 0]::N z::L 33 []))
theorem A6n(c1:E (z<e)=true)(b:(Q U ((Aj (A5 .u32) (d (H n.2 (Y (Q X (AF z 32))) 0) (2^(min (Y (Q R (Bl z 32))) (A5 .u32)))) &&& Aj (A5 .u32) 1).toNat)==0)=true)(a:0<=Q X (AF z 32)/\Q X (AF z 32)<(F n.2:Int))(c:¬ (Q R (Bl z 32))<0):Z bQ (Pd n e z) .norm (Pd n e (Q X (z+1))):=Ab j [bT,.v (J U (H n.2 (Y (Q X (AF z 32))) 0)),bT] [1,2,4,5] (GZ c1 H7 a (B7 a) H7 c b)
theorem A6o(c1:E (z<e)=true)(b:(Q U ((Aj (A5 .u32) (d (H n.2 (Y (Q X (AF z 32))) 0) (2^(min (Y (Q R (Bl z 32))) (A5 .u32)))) &&& Aj (A5 .u32) 1).toNat)==0)=false)(a:0<=Q X (AF z 32)/\Q X (AF z 32)<(F n.2:Int))(c:¬ (Q R (Bl z 32))<0):Z bQ (Pd n e z) xZ0 (Pd n e z):=Ab j [bT,.v (J U (H n.2 (Y (Q X (AF z 32))) 0)),bF] [1,2,4,5] (GZ c1 H7 a (B7 a) H7 c b)
theorem A6p(c1:E (z<e)=false):Z bQ (Pd n e z) xZ0 (Pd n e z):=Ab j [bF,bF] [1,2,4,5] (DH c1 F9)
end
theorem Agc(r:Rn)(e n:Int)(c1:((F (o (I n)):Int)==0)=true)(a:T 113 [AB r] (M n)):T 130 [AB r,J X e] (Ao [W false,P 0 [],J X 0]):=CQ mK (L 4 (AH [W false,P 0 [],J X 0]::L 34 [])) (As (As (As (AG (Ab j [.r (M n),bT] [4] (DH a c1))))))
theorem Agd(r:Rn)(e n z u:Int)(c1:((F (o (I n)):Int)==0)=false)(a:T 113 [AB r] (M n))(b:Z (.loop bQ) (Pd (V n) e 0) xZ0 (Pd (V n) e z))(c:T 163 [AB (V n),J X z] (M u)):T 130 [AB r,J X e] (Ao [W (E (u<0)),sL A (o (I u)),J X (Q X (e-z))]):=CQ mK (L 4 (AH [W (E (u<0)),sL A (o (I u)),J X (Q X (e-z))]::L 34 [])) (As (As (As (Ag (Ab j [.r (M n),bF] [1,2,4,5] (DH a c1)) (Ag (A7 b) (Ab j [.r (M u)] [4] (BO c)))))))
theorem A6q(r t:Rn)(e f a Y b n m:Int)(c:T 104 [AB r,J X (Q X ((if f>e then f else e)-e))] (M a))(d:T 104 [AB t,J X (Q X ((if f>e then f else e)-f))] (M Y))(g:T 111 [M a,M Y] (M b))(h:T 130 [M b,J X (Q X ((if f>e then f else e)+1))] (Ao [W (E (n<0)),sL A (o (I n)),J X m])):T 133 [Ao [W r.1,P (F r.2) (A r.2),J X e],Ao [W t.1,P (F t.2) (A t.2),J X f]] (Ao [W (E (n<0)),sL A (o (I n)),J X m]):=Bc (fn:=iF AC Azk) j rfl 400 rfl [.r (M a),.r (M Y),.r (M b),.r (Ao [W (E (n<0)),sL A (o (I n)),J X m])] (FJ c d g h)
theorem AEl(r t:Rn)(e f a Y c:Int)(b:T 84 [AB r,J X f] (Dk a))(d:T 84 [AB t,J X e] (Dk Y))(g:T 83 [M a,M Y] (J X c)):T 33 [Ao [W r.1,P (F r.2) (A r.2),J X e],Ao [W t.1,P (F t.2) (A t.2),J X f]] (J X c):=Bc (fn:=iF AC AGl) j rfl 400 rfl [.r (Dk a),.r (Dk Y),.r (J X c)] (Gy b d g)
def Xl:ICode:=a Aal 94 56
section
variable(n:Rn)(e:Int)
def MG:Az:=L 2 (AH [W false,P 0 [],J X 0]::AH [W n.1,P (F n.2) (A n.2)]::N e::L 28 [])
theorem A6r(u:Int)(c1:E (e>0)=true)(a:((F n.2:Int)==0)=true)(b:T 128 [AB n,J X 1] (M u)):Z Xl (MG n e) .norm (MG (V u) (Q X (e-1))):=Ab j [bT,bT,bT,bT,bT,.r (M u)] TN (Gm c1 a c1 a I6 b)
theorem A6s(u:Int)(c1:E (e>0)=true)(a:((F n.2:Int)==0)=false)(c:(Q U ((Aj (A5 .u32) (H n.2 (Y 0) 0) &&& Aj (A5 .u32) 1).toNat)==0)=true)(b:0<=(0:Int)/\(0:Int)<(F n.2:Int))(d:T 128 [AB n,J X 1] (M u)):Z Xl (MG n e) .norm (MG (V u) (Q X (e-1))):=Ab j [bT,bF,.v (J U (H n.2 (Y 0) 0)),bT,bF,bT,.r (M u)] TN (Ip c1 a b (B7 b) c1 a c d)
theorem A6t(c1:E (e>0)=true)(a:((F n.2:Int)==0)=false)(c:(Q U ((Aj (A5 .u32) (H n.2 (Y 0) 0) &&& Aj (A5 .u32) 1).toNat)==0)=false)(b:0<=(0:Int)/\(0:Int)<(F n.2:Int)):Z Xl (MG n e) xZ0 (MG n e):=Ab j [bT,bF,.v (J U (H n.2 (Y 0) 0)),bT,bF,bF] TN (GZ c1 a b (B7 b) c1 a c)
theorem A6u(c1:E (e>0)=false):Z Xl (MG n e) xZ0 (MG n e):=Ab j [bF,bF] TN (DH c1 F9)
end
theorem A6v(r:Rn)(e n u z:Int)(a:T 97 [AB r] (M n))(b:Z (.loop Xl) (MG (V n) e) xZ0 (MG (V u) z)):T 162 [Ao [W r.1,P (F r.2) (A r.2),J X e]] (Ao [W ((V u).1),sL A ((V u).2),J X z]):=CQ Aal (L 2 (AH [W ((V u).1),sL A ((V u).2),J X z]::L 30 [])) (As (Ag (Ab j [.r (M n)] TN (BO a)) (Ag (A7 b) (Ab j [] [2] a0))))
theorem A6w(r t:Rn)(e f a Y b n m:Int)(c:T 84 [AB r,J X (Q X ((if f>e then f else e)-e))] (Dk a))(d:T 84 [AB t,J X (Q X ((if f>e then f else e)-f))] (Dk Y))(g:T 95 [M a,M Y] (M b))(h:T 162 [Ao [W (E (b<0)),sL A (o (I b)),J X (Q X ((if f>e then f else e)+1))]] (Ao [W (E (n<0)),sL A (o (I n)),J X m])):T 121 [Ao [W r.1,P (F r.2) (A r.2),J X e],Ao [W t.1,P (F t.2) (A t.2),J X f]] (Ao [W (E (n<0)),sL A (o (I n)),J X m]):=Bc (fn:=iF AC Azh) j rfl 400 rfl [.r (Dk a),.r (Dk Y),.r (M b),.r (Ao [W (E (n<0)),sL A (o (I n)),J X m])] (FJ c d g h)
theorem AEm{a b c Y:Int}(d:a=c\/a = -c)(hb:b=Y\/b = -Y)(hX:0<=c)(hY:0<=Y) :
  (B4 a<B4 b->DE a b = -1)/\(B4 a>B4 b->DE a b=1)/\(¬ B4 a<B4 b->¬ B4 a>B4 b->(B4 a<0->DE a b = -DE c Y)/\(¬ B4 a<0->DE a b=DE c Y)):=by
 unfold B4 DE;grind
theorem Mr(a b:Int) : -1<=DE a b/\DE a b<=1:=by unfold DE;grind
theorem A6x(neg:Bool)(xs:G):v neg xs=An xs\/v neg xs = -An xs:=by unfold v;cases neg <;> simp
theorem Are{na nb:Bool}{xs a:G}(hx:B9 xs)(hy:B9 a)(h1:F xs<=1048576)(h2:F a<=1048576):T 83 [Ao [W na,sL A xs],Ao [W nb,sL A a]] (J X (DE (v na xs) (v nb a))):=by
 obtain⟨f,g,h⟩:=AEm (A6x na xs) (A6x nb a) (BK hx) (BK hy);have c:=If (neg:=na) hx h1;have d:=If (neg:=nb) hy h2;by_cases c1:B4 (v na xs)<B4 (v nb a)
 ·rw[f c1];exact Aqv na nb xs a _ _ (by rw[AZ];exact c1) c d
 by_cases b:B4 (v na xs)>B4 (v nb a)
 ·rw[g b];exact Aqw na nb xs a _ _ (by rw[AW];exact c1) (by rw[AZ];exact b) c d
 obtain⟨i,j⟩:=h c1 b;have l:=Ct xs;have m:=Ct a;have hc:=Sg (Hk hx) (Hk hy) (by omega);rw[Fz,Fz] at hc;by_cases e:B4 (v na xs)<0
 ·have hb:=Mr (An xs) (An a);have k:=Aqx na nb xs a _ _ _ (by rw[AW];exact c1) (by rw[AW];exact b) (by rw[AZ];exact e) c d (Fp (by omega)) (Fp (by omega)) hc;rw[wqz,Int.zero_sub] at k;rw[i e];exact k
 ·rw[j e];exact Aqy na nb xs a _ _ _ (by rw[AW];exact c1) (by rw[AW];exact b) (by rw[AW];exact e) c d (Fp (by omega)) (Fp (by omega)) hc
theorem Arf{na nb:Bool}{xs a:G}(hx:B9 xs)(hy:B9 a)(h1:F xs<=1048576)(h2:F a<=1048576):T 103 [Ao [W na,sL A xs],Ao [W nb,sL A a]] (J X (DE (v na xs) (v nb a))):=by
 have c:=EE (neg:=na) hx h1;have d:=EE (neg:=nb) hy h2;have h:=Gc (neg:=na) hx;have i:=Gc (neg:=nb) hy;have f:=LQ (Da (I (v na xs))) (Da (I (v nb a))) (by omega);have g:=LQ (Da (I (v nb a))) (Da (I (v na xs))) (by omega);rw[Do,Do] at f g;by_cases c1:v na xs<0
 ·by_cases b:v nb a<0
  ·have e:DE (v na xs) (v nb a)=DE (I (v nb a)) (I (v na xs)):=by unfold DE;grind
   rw[e];exact Afw na nb _ _ xs a _ _ _ (BP c1) (BP b) c d g
  ·have e:DE (v na xs) (v nb a) = -1:=by unfold DE;grind
   rw[e];exact Afx na nb _ _ xs a _ _ (BP c1) (Bw b) c d
 ·by_cases b:v nb a<0
  ·have e:DE (v na xs) (v nb a)=1:=by unfold DE;grind
   rw[e];exact Afy na nb _ _ xs a _ _ (Bw c1) (BP b) c d
  ·have e:DE (v na xs) (v nb a)=DE (I (v na xs)) (I (v nb a)):=by unfold DE;grind
   rw[e];exact Afz na nb _ _ xs a _ _ _ (Bw c1) (Bw b) c d f
theorem wJ{a:G}(b:B9 a):∀ k,k<=F a->An (a.take k)=0->∀ i,i<k->H a i 0=0:=by
 intro k;induction k with
 | zero=>intro _ _ i hi;omega
 | succ k c =>
  intro f hv i hi;have d:=Fc a k (by omega);have hp:=Dx k;have e:=Bn b k;have h1:=(So (EZ b k) (A8 (A9 hp) e.1)).1 (by rw[<- d];exact hv);rcases CN i k with g | g
  ·exact c (by omega) h1.1 i g
  ·have:i=k:=by omega
   subst this;rcases F5.1 h1.2 with z | z
   ·omega
   ·exact z
theorem AJa{m:Bool}{ms:G}{s:Int}{k:Nat}(d:k<=F ms)(e:F ms<=1048576)(hz:∀ i,i<k->H ms i 0=0) :
  Z (.loop Q7) (IG m (k:Nat) s ms false 0) xZ0 (IG m (k:Nat) s ms false (k:Nat)):=by
 have h:=Et (prog:=DP) (c:=Q7) (ex := .exit 0) (fin:=IG m (k:Nat) s ms false (k:Nat)) (fun i=>IG m (k:Nat) s ms false (i:Nat)) k (by nofun) ?_ ?_ 0 (A_ _)
 ·exact h
 ·intro i hi;have b:Q X (i+1)=((i+1:Nat):Int):=wrz
  have a:=Aqz m (k:Nat) s ms false (i:Nat) (by simp;omega) (by simp;omega) rfl (by omega);rw[b,Aa,hz i hi] at a;exact a
 ·exact Ara m _ s ms false _ (by simp)
theorem AJb{m:Bool}{ms:G}{kk:Int}{s k:Nat}(c:B9 ms)(hs:s<32)(p:F ms<=1048576)(q:k<=F ms):∀ (r i:Nat),i+r=F ms-k ->
  Z (.loop OH) (HA m kk (s:Nat) ms false i (A ((Ay i).map (En (ms.drop k) s))) ((k+i:Nat))) xZ2 (HA m kk (s:Nat) ms false (F ms-k) (A ((Ay (F ms-k)).map (En (ms.drop k) s))) (F ms:Nat)):=by
 intro r;induction r with
 | zero =>
  intro i hi;have hi':i=F ms-k:=by omega
  subst hi';have e0:((k+(F ms-k):Nat):Int)=(F ms:Nat):=by omega
  rw[e0];exact Aq (Ard m kk _ ms false _ _ _ (by simp))
 | succ r e =>
  intro i hi;have b:Q X ((k+i:Nat)+1)=((k+(i+1):Nat):Int):=wrz
  have hx:=Bn c (k+i);have hy:=Bn c (k+i+1);have f:H (ms.drop k) i 0=H ms (k+i) 0:=by simp[Ad,Cb]
  have g:H (ms.drop k) (i+1) 0=H ms (k+i+1) 0:=by simp[Ad,Cb,E1]
  have d:min (Y s) (A5 .u64)=s:=by rw[Aa];show min s 64=s;omega
  have h:En (ms.drop k) s i=(H ms (k+i+1) 0*4294967296+H ms (k+i) 0) / 2^s % 4294967296:=by
   rw[vD hx hs];unfold En;rw[f,g]
  have j:Z OH (HA m kk (s:Nat) ms false i (A ((Ay i).map (En (ms.drop k) s))) ((k+i:Nat))) .norm (HA m kk (s:Nat) ms false (i+1) (A ((Ay (i+1)).map (En (ms.drop k) s))) ((k+(i+1):Nat))):=by
   have l:A ((Ay (i+1)).map (En (ms.drop k) s))=A ((Ay i).map (En (ms.drop k) s))++([J U (En (ms.drop k) s i)]:AK):=by
    rw[Jw,D_,CW,HC,JP]
   rw[l,h];by_cases h1:k+i+1<F ms
   ·have a:=Arb m kk (s:Nat) ms false i (A ((Ay i).map (En (ms.drop k) s))) ((k+i:Nat)) (by simp;omega) (by rw[b];simp;omega) (by omega) (by rw[b];omega) (by omega) (by omega);rw[b,Aa,Aa,d] at a;have o:Q R ((Aj (A5 .u64) (Q R (H ms (k+i) 0)) ||| Aj (A5 .u64) (Q R (Q R (H ms (k+(i+1)) 0)*2^(min (Y 32) (A5 .u64))))).toNat)=H ms (k+i+1) 0*4294967296+H ms (k+i) 0:=by
     rw[YC,D9 (n:=H ms (k+(i+1)) 0) (by rw[<- E1];omega),<- E1];exact Qr hy hx
    have t:0<=H ms (k+i+1) 0*4294967296+H ms (k+i) 0:=by omega
    rw[o,BX _ (by have:=CA s;omega),Fb] at a;exact a
   ·have hz:H ms (k+i+1) 0=0:=Cp (by omega);have a:=Arc m kk (s:Nat) ms false i (A ((Ay i).map (En (ms.drop k) s))) ((k+i:Nat)) (by simp;omega) (by rw[b];simp;omega) (by omega) (by omega) (by omega);rw[b,Aa,d,D9 (n:=H ms (k+i) 0) (by omega),BX _ (by have:=CA s;omega),Fb] at a;rw[hz,Cs,E7];exact a
  exact Bk j (e (i+1) (by omega))
theorem wK{a:Int}(c:a ≠ 0){z:Nat}(hd:(2:Int)^z∣a):z / 32<F (o (I a)):=by
 apply Lc;intro d;have h1:=EP (Da (I a)).1;rw[Do] at h1;have h2:=HT d;have e:=K2 z;have j:=CA (z % 32);have f:=Ax (show (1:Int)<=2^(z % 32) by omega) (A9 (Dx (z / 32)));rw[DQ,<- e] at f;obtain⟨q,b⟩:=hd;have k:q ≠ 0:=by intro h;rw[h,Be] at b;exact c b
 have g:(I a:Int)=2^z*(I q:Int):=by
  rw[b,C1,Eg,Ol (A9 (CA z))]
 have i:=Ax (show (1:Int)<=(I q:Int) by omega) (A9 (CA z));rw[DQ,<- g] at i;omega
theorem wL{c:Int}(G:c ≠ 0){n:Nat}(hd:(2:Int)^n∣c)(hn:(n:Int)<=9223372036854775807)(l:F (o (I c))<=1048576):T 163 [M c,J X (n:Nat)] (M (c / 2^n)):=by
 have a4:=wK G hd;have g:Q X (AF (n:Int) 32)=((n / 32:Nat):Int):=by
  rw[Cu (by omega),wqz];omega
 have h:Q R (Bl (n:Int) 32)=((n % 32:Nat):Int):=by
  rw[BY (by omega),Cz];omega
 have hs:n % 32<32:=IV _ (by decide);have d:B9 (o (I c)):=CB _;have p:=EE (neg:=decide (c<0)) d l;rw[GT] at p;have hp:=K2 n;have q:=Dx (n / 32);have K:=CA (n % 32);have L:=Do (I c);generalize N:o (I c)=ms at *
 have O:=vE (ms:=ms) hs (show n / 32<=F ms by omega);have S:B9 ((Ay (F ms-n / 32)).map (En (ms.drop (n / 32)) (n % 32))):=U7 fun i=>(VM (G5 d _) hs i).2.2.2;have r:=Ge (neg:=decide (c<0)) S (by simp;omega);have t:F ((Ay (F ms-n / 32)).map (En (ms.drop (n / 32)) (n % 32)))=F ms-n / 32:=by simp
 have hb:=AJb (m:=decide (c<0)) (ms:=ms) (kk:=((n / 32:Nat):Int)) (s:=n % 32) (k:=n / 32) d hs l (by omega) (F ms-n / 32) 0 (by omega);generalize hQ:(Ay (F ms-n / 32)).map (En (ms.drop (n / 32)) (n % 32))=e at *
 (first|rw[<- t] at hb|(unfold sL at hb;rw[<- t] at hb));have u:=Hu (H ms (n / 32) 0) (show (2:Int)^(n % 32) ≠ 0 by omega);have a5:=FH (H ms (n / 32) 0) K;have a6:=BK (EZ d (n / 32));have a7:=HK d (n / 32);have w:0<=4294967296^(n / 32)*(H ms (n / 32) 0 % 2^(n % 32))+An (ms.take (n / 32))/\4294967296^(n / 32)*(H ms (n / 32) 0 % 2^(n % 32))+An (ms.take (n / 32))<2^n:=by
  rw[hp];generalize (4294967296:Int)^(n / 32)=P at *
  generalize H ms (n / 32) 0 % 2^(n % 32)=z at *
  generalize (2:Int)^(n % 32)=f at *
  have a:=A8 (A9 q) u;have b:=Ax (show z+1<=f by omega) (A9 q);rw[DJ,DQ] at b;omega
 have V:(2:Int)^n∣(I c:Int):=Int.dvd_natAbs.2 hd;have x:(I c:Int)=2^n*An e+(4294967296^(n / 32)*(H ms (n / 32) 0 % 2^(n % 32))+An (ms.take (n / 32))):=by rw[<- L,O,hp];grind
 have W:4294967296^(n / 32)*(H ms (n / 32) 0 % 2^(n % 32))+An (ms.take (n / 32))=0:=by
  have h1:(I c:Int) % 2^n=0:=Int.emod_eq_zero_of_dvd V;rw[x,Nx,Y5,HR w.1 w.2] at h1;exact h1
 have y:H ms (n / 32) 0 % 2^(n % 32)=0/\An (ms.take (n / 32))=0:=by
  have a:=A8 (A9 q) u;have b:4294967296^(n / 32)*(H ms (n / 32) 0 % 2^(n % 32))=0:=by omega
  rcases F5.1 b with z | z
  ·omega
  ·exact⟨z,by omega⟩
 rw[W,Cx] at x;have ha:=AJa (m:=decide (c<0)) (ms:=ms) (s:=((n % 32:Nat):Int)) (k:=n / 32) (by omega) l (wJ d _ (by omega) y.2);have a1:Q U (Q U (1*2^(min (Y (Q R (Bl (n:Int) 32))) (A5 .u32)))-1)=2^(n % 32)-1:=by
  have:min (Y ((n % 32:Nat))) (A5 .u32)=n % 32:=by rw[Aa];show min (n % 32) 32=n % 32;omega
  have a8:(2:Int)^(n % 32)<=2147483648:=Iq (show n % 32<=31 by omega);rw[h,this,D0,Fb,Fb];omega
 have B:Q U ((Aj (A5 .u32) (H ms (Y (Q X (AF (n:Int) 32))) 0) &&& Aj (A5 .u32) (Q U (Q U (1*2^(min (Y (Q R (Bl (n:Int) 32))) (A5 .u32)))-1))).toNat)=0:=by
  rw[a1,g,Aa,Aee (Bn d _) (by omega)];exact y.1
 have c1:decide (Q X (AF (n:Int) 32)<(F ms:Int))=true:=by rw[g];simp;omega
 have C:Z (.loop OH) (HA (E (c<0)) (Q X (AF (n:Int) 32)) (Q R (Bl (n:Int) 32)) ms false 0 [] (Q X (AF (n:Int) 32))) xZ2 (HA (E (c<0)) (Q X (AF (n:Int) 32)) (Q R (Bl (n:Int) 32)) ms false (F e) (A e) (F ms:Nat)):=by
  rw[g,h];exact hb
 have D:Z (.loop Q7) (IG (E (c<0)) (Q X (AF (n:Int) 32)) (Q R (Bl (n:Int) 32)) ms false 0) xZ0 (IG (E (c<0)) (Q X (AF (n:Int) 32)) (Q R (Bl (n:Int) 32)) ms false ((n / 32:Nat))):=by
  rw[g,h];exact ha
 have a2:v (E (c<0)) e=c / 2^n:=by
  have a9:=CA n;by_cases j:c<0
  ·rw[BP j];have:c=2^n*(-An e):=by rw[F8];omega
   show -An e=_;conv=>rhs;rw[this]
   rw[CL _ (by omega)]
  ·rw[Bw j];have:c=2^n*An e:=by omega
   show An e=_;conv=>rhs;rw[this]
   rw[CL _ (by omega)]
 rw[a2] at r;have a3:o (I c)=ms:=N;unfold M;rw[a3];by_cases j:c<0
 ·exact Aga _ (E (c<0)) false ms ms e (n:Nat) _ _ _ c1 (by rw[B];rfl) (BP j) rfl p D C (by rw[g];omega) (by rw[h];omega) r
 ·exact Agb _ (E (c<0)) false ms ms e (n:Nat) _ _ _ c1 (by rw[B];rfl) (Bw j) p D C (by rw[g];omega) (by rw[h];omega) r
theorem bW(n:Int):F (V n).2=F (o (I n)):=rfl
theorem Sx(n:Int):B9 (V n).2:=CB _
theorem Aku{d:G}(k:B9 d){z:Nat}(hz:z / 32<F d):H d (z / 32) 0 / 2^(z % 32) % 2=An d / 2^z % 2:=by
 have h1:=Eu d (show z / 32<=F d by omega);have i:=VI (show z % 32<=32 by omega);rw[AT] at i;have l:(2:Int)^(32-z % 32)=2*2^(31-z % 32):=by rw[show 32-z % 32=(31-z % 32)+1 by omega,AD];omega
 have h2:An (d.drop (z / 32))=H d (z / 32) 0+2^(z % 32)*(2*2^(31-z % 32))*An (d.drop (z / 32+1)):=by
  rw[<- l,<- i,BL hz,Ad,Am hz];rfl
 have p:=BK (EZ k (z / 32));have q:=HK k (z / 32);have hp:=K2 z;have j:=Dx (z / 32);have m:=CA (z % 32);have n:=Hu (H d (z / 32) 0) (show (2:Int)^(z % 32) ≠ 0 by omega);have r:=FH (H d (z / 32) 0) m;have hx:=Ik (H d (z / 32) 0) (2^(z % 32));rw[hp,h1,h2];clear h1 h2 hp i l;generalize An (d.take (z / 32))=g at *
 generalize An (d.drop (z / 32+1))=c at *
 generalize H d (z / 32) 0=x at *
 generalize (4294967296:Int)^(z / 32)=P at *
 generalize (2:Int)^(31-z % 32)=h at *
 generalize (2:Int)^(z % 32)=f at *
 generalize x / f=a at *
 generalize x % f=b at *
 have e:g+P*(x+f*(2*h)*c)=(g+P*b)+P*f*(a+2*(h*c)):=by rw[<- hx];grind
 have s:=Br j m;have c1:=A8 (A9 j) n;have o:=Ax (show b+1<=f by omega) (A9 j);rw[DJ,DQ] at o;rw[e,X7 _ _ (by omega),IQ (by omega) (by omega),E7,Y5]
theorem bX{p:Int}(hp:0<=p/\p<4294967296):(Q U ((Aj (A5 .u32) p &&& Aj (A5 .u32) 1).toNat)==0)=decide (p % 2=0):=by
 have h:=Aee hp (s:=1) (by decide);rw[show ((2:Int)^1-1)=1 by decide,show ((2:Int)^1)=2 by decide] at h;rw[h,W2,BJ,AZ]
theorem Arg{x:Int}(hx:0<=x/\x<4294967296){s:Nat}(hs:s<32):(Q U ((Aj (A5 .u32) (d x (2^(min (Y s) (A5 .u32)))) &&& Aj (A5 .u32) 1).toNat)==0)=decide (x / 2^s % 2=0):=by
 have a:min (Y s) (A5 .u32)=s:=by rw[Aa];show min s 32=s;omega
 have hp:=CA s;rw[a,BX _ (by omega)];have h1:=Kr hx.1 (A9 hp);have h2:=Axp (2^s) hx.1;exact bX ⟨h1,by omega⟩
def EJ:Int->Nat->Nat
 | _,0=>0
 | a,e+1=>if a % 2=0 then EJ (a / 2) e+1 else 0
theorem Sy:∀ (e:Nat) (a:Int),EJ a e<=e
 | 0,_=>A2 _
 | e+1,a=>by
  simp only[EJ];split
  ·have:=Sy e (a / 2);omega
  ·omega
theorem Nz:∀ (e:Nat) (a:Int),(2:Int)^EJ a e∣a
 | 0,a=>⟨a,by simp[EJ]⟩
 | e+1,a=>by
  simp only[EJ];split
  ·obtain⟨q,b⟩:=Nz e (a / 2);refine⟨q,?_⟩;rw[AD,Bm,AT 2 q,<- Bm,<- b];omega
  ·exact⟨a,by simp⟩
theorem Age{e:Nat}{a:Int}(h:a % 2=0):a / 2^(EJ (a / 2) e+1)=a / 2 / 2^EJ (a / 2) e:=by
 obtain⟨q,b⟩:=Nz e (a / 2);have hp:=CA (EJ (a / 2) e);have c:a=2^(EJ (a / 2) e+1)*q:=by
  rw[AD,Bm,AT 2 q,<- Bm,<- b];omega
 generalize EJ (a / 2) e=k at *
 have h1:a / 2^(k+1)=q:=by
  conv=>lhs;rw[c]
  exact CL _ (by have:=CA (k+1);omega)
 have h2:a / 2 / 2^k=q:=by
  conv=>lhs;rw[b]
  exact CL _ (by omega)
 rw[h1,h2]
theorem bY:∀ e:Nat,EJ 0 e=e
 | 0=>rfl
 | e+1=>by simp only[EJ];rw[Ar (by decide),show (0:Int) / 2=0 by decide,bY e]
theorem Arh(a:Int)(h:a % 2=0):F (o (I (a / 2)))<=F (o (I a)):=by
 apply Qe;have:=EP (Da (I a)).1;rw[Do] at this;omega
theorem wM{a:Int}(c:a ≠ 0):(H (o (I a)) 0 0 % 2=0)↔a % 2=0:=by
 have b:0<F (o (I a)):=by
  have:=Em (I a);omega
 have h:=Aku (CB (I a)) (z:=0) (by simpa using b);rw[Do] at h;simp only[Nat.zero_div,Nat.zero_mod,DC,rG] at h;omega
theorem pW:∀ (e:Nat) (a:Int),F (o (I a))<1048576->e<=1000000 ->
  Z (.loop Xl) (MG (V a) (e:Nat)) xZ0 (MG (V (a / 2^EJ a e)) ((e-EJ a e:Nat))):=by
 intro e;induction e with
 | zero =>
  intro a _ _;have f:a / 2^EJ a 0=a:=by simp[EJ]
  rw[f];exact Aq (A6u (V a) ((0:Nat)) (by decide))
 | succ e g =>
  intro a i l;have d:Q X ((e+1:Nat)-1)=(e:Int):=wrz
  have hd:=bD (neg:=(V a).1) (xs:=(V a).2) (Sx a) 1 (by decide) (by rw[bW];exact i);rw[show v (V a).1 (V a).2=a from AO a,show (2:Int)^1=2 by decide] at hd;have c1:decide (((e+1:Nat):Int)>0)=true:=by rw[AZ];omega
  have m:F (V a).2=F (o (I a)):=rfl;by_cases h2:a % 2=0
  ·have c:EJ a (e+1)=EJ (a / 2) e+1:=by simp only[EJ];rw[Ar h2]
   rw[c,Age h2,show e+1-(EJ (a / 2) e+1)=e-EJ (a / 2) e by omega];have r:=g (a / 2) (by have:=Arh a h2;omega) (by omega);by_cases b:a=0
   ·have k:=A6r (V a) ((e+1:Nat)) (a / 2) c1 (by rw[b];rfl) hd;rw[d] at k;exact Bk k r
   ·have j:0<F (o (I a)):=by have:=Em (I a);omega
    have k:=A6s (V a) ((e+1:Nat)) (a / 2) c1 (by rw[C3];omega) (by rw[bX (Bn (Sx a) _),AZ];exact (wM b).2 h2) (by omega) hd;rw[d] at k;exact Bk k r
  ·have b:a ≠ 0:=by intro h;rw[h] at h2;exact h2 (by decide)
   have c:EJ a (e+1)=0:=by simp only[EJ];rw[Aw h2]
   have j:0<F (o (I a)):=by have:=Em (I a);omega
   rw[c,DC,rG,Lb];exact Aq (A6t (V a) ((e+1:Nat)) c1 (by rw[C3];omega) (by rw[bX (Bn (Sx a) _),AW];exact fun h=>h2 ((wM b).1 h)) (by omega))
def dyA(n e:Int):AV := Ao [W (E (n<0)),sL A (o (I n)),J X e]
theorem Ys{N:Int}{e:Nat}(a:F (o (I N))<1048576)(b:e<=1000000):T 162 [dyA N (e:Nat)] (dyA (N / 2^EJ N e) ((e-EJ N e:Nat))):=by
 have h1:=aV (neg:=(V N).1) (xs:=(V N).2) (Sx N) (by rw[bW];omega);rw[show v (V N).1 (V N).2=N from AO N] at h1;exact A6v (V N) (e:Nat) N (N / 2^EJ N e) _ h1 (pW e N a b)
theorem fU{a:Int}(j:a ≠ 0){e:Nat}(w:e<=1000000)(x:F (o (I a))<1048576):∀ (r z:Nat),z+r=e->(2:Int)^z∣a ->
  Z (.loop bQ) (Pd (V a) (e:Nat) (z:Nat)) xZ0 (Pd (V a) (e:Nat) ((z+EJ (a / 2^z) r:Nat))):=by
 intro r;induction r with
 | zero =>
  intro z hz _;exact Aq (A6p (V a) (e:Nat) (z:Nat) (by simp;omega))
 | succ r l =>
  intro z hz hd;have m:=wK j hd;have b:Q X (AF (z:Int) 32)=((z / 32:Nat):Int):=by
   rw[Cu (by omega),wqz];omega
  have c:Q R (Bl (z:Int) 32)=((z % 32:Nat):Int):=by
   rw[BY (by omega),Cz];omega
  have n:Q X (z+1)=((z+1:Nat):Int):=wrz
  have hs:z % 32<32:=IV _ (by decide);have c1:decide ((z:Int)<(e:Int))=true:=by rw[AZ];omega
  have hb:=Aku (CB (I a)) m;rw[Do] at hb;obtain⟨q,f⟩:=hd;have p:=CA z;have s:a / 2^z=q:=by
   conv=>lhs;rw[f]
   exact CL _ (by omega)
  have t:(I a:Int) / 2^z=(I q:Int):=by
   have:(I a:Int)=2^z*(I q:Int):=by rw[f,C1,Eg,Ol (A9 p)]
   rw[this];exact CL _ (by omega)
  rw[t] at hb;have u:=Arg (Bn (CB (I a)) (z / 32)) hs;have h:(Q U ((Aj (A5 .u32) (d (H (V a).2 (Y (Q X (AF (z:Int) 32))) 0) (2^(min (Y (Q R (Bl (z:Int) 32))) (A5 .u32)))) &&& Aj (A5 .u32) 1).toNat)==0)=decide (q % 2=0):=by
   rw[b,c,Aa];refine u.trans ?_;rw[hb,decide_eq_decide];omega
  have y:F (V a).2=F (o (I a)):=rfl;rw[s];by_cases h2:q % 2=0
  ·have g:EJ q (r+1)=EJ (q / 2) r+1:=by simp only[EJ];rw[Ar h2]
   have i:a=2^(z+1)*(q / 2):=by rw[AD,Bm,show 2*(q / 2)=q by omega];exact f
   have v:a / 2^(z+1)=q / 2:=by
    conv=>lhs;rw[i]
    exact CL _ (by have:=CA (z+1);omega)
   have hr:=l (z+1) (by omega) ⟨q / 2,i⟩;rw[v] at hr;have k:=A6n (V a) (e:Nat) (z:Nat) c1 (by rw[h,AZ];exact h2) (by rw[b];omega) (by rw[c];omega);rw[n] at k;rw[g,show z+(EJ (q / 2) r+1)=z+1+EJ (q / 2) r by omega];exact Bk k hr
  ·have g:EJ q (r+1)=0:=by simp only[EJ];rw[Aw h2]
   rw[g,Gb];exact Aq (A6o (V a) (e:Nat) (z:Nat) c1 (by rw[h,AW];exact h2) (by rw[b];omega) (by rw[c];omega))
theorem pX{N:Int}{e:Nat}(c:F (o (I N))<1048576)(d:e<=1000000):T 130 [M N,J X (e:Nat)] (dyA (N / 2^EJ N e) ((e-EJ N e:Nat))):=by
 have h1:=NR (neg:=(V N).1) (xs:=(V N).2) (Sx N) (by rw[bW];omega);rw[show v (V N).1 (V N).2=N from AO N] at h1;by_cases a:N=0
 ·subst a;rw[bY,Int.zero_ediv,T9];exact Agc (V 0) (e:Nat) 0 rfl h1
 ·have b:=fU a d c e 0 (by omega) (by simp);rw[DC,rG,Cv] at b;have g:=Sy e N;have hs:=wL a (Nz e N) (by omega) (by omega);have k:=Agd (V N) (e:Nat) N _ _ (by rw[C3];have:=Em (I N);omega) h1 b hs;have f:Q X (e-EJ N e)=((e-EJ N e:Nat):Int):=wrz
  rw[f] at k;exact k
theorem AEn(rs ts:D)(a:T 46 [sL S rs] (Ae 2 (F ts) (S ts))):T 21 [sL S rs] (J X (Q X (F ts-1))):=Bc (fn:=iF AC AGk) L6 rfl 400 rfl [.r (Ae 2 (F ts) (S ts))] (BO a)
def Akv:ICode:=a Ajc 91 500
section
variable(n x:Int)
def Yt:Az:=L 4 (N n::C (J U x)::L 23 [])
theorem AEo(c1:E (x>0)=true):Z Akv (Yt n x) .norm (Yt (Q X (n+1)) (d x (2^(min (Y 1) (A5 .u32))))):=Ab L6 [bT] [4,5] (DH c1 (show ¬ (1:Int)<0 from (by decide)))
theorem Akw(c1:E (x>0)=false):Z Akv (Yt n x) xZ0 (Yt n x):=Ab L6 [bF] [4,5] (BO c1)
end
theorem Ari(b:Bool)(xs a:G)(c1:((F a:Int)==0)=true)(c:T 99 [sL A xs] (Ae 1 (F a) (A a))):T 51 [Ao [W b,sL A xs]] (J X 0):=CQ Ajc (L 2 (N 0::L 26 [])) (As (As (As (AA (AG (Ab L6 [.r (Ae 1 (F a) (A a)),bT] [2] (DH c c1)))))))
theorem Arj(b:Bool)(xs a:G)(n x:Int)(c1:((F a:Int)==0)=false)(d:T 99 [sL A xs] (Ae 1 (F a) (A a)))(c:0<=Q X (F a-1)/\Q X (F a-1)<(F a:Int))(e:Z (.loop Akv) (Yt (Q X (32*Q X (F a-1))) (H a (Y (Q X (F a-1))) 0)) xZ0 (Yt n x)):T 51 [Ao [W b,sL A xs]] (J X n):=CQ Ajc (L 2 (N n::L 26 [])) (As (As (As (AA (Ag (Ab L6 [.r (Ae 1 (F a) (A a)),bF,.v (J U (H a (Y (Q X (F a-1))) 0))] [4,5] (FJ d c1 c (B7 c))) (Ag (A7 e) (Ab L6 [] [2] a0)))))))
theorem fV{rs:D}(c:∀ r∈rs,BC 1048576 r)(d:F rs<=1048576):T 21 [sL S rs] (J X ((F (Af (Al rs)):Nat)-1:Int)):=by
 have a:=FM c d;have e:=Ct (Al rs);rw[B1] at e;have b:pk (Af (Al rs))=S ((Af (Al rs)).map V):=rfl;(first|rw[b,<- Ac (f:=V)] at a|(rw[b] at a;unfold sL at a;rw[<- Ac (f:=V)] at a));have h:=AEn rs _ a;rw[By (by omega) (by rw[Ac];omega),Ac] at h;exact h
theorem Agf{x:Nat}(h:x ≠ 0):FY x=FY (x / 2)+1:=by
 unfold FY;rw[Aw h];by_cases h2:x / 2=0
 ·have:x=1:=by omega
  subst this;decide
 ·rw[Aw h2,Ja x 1 (by simpa using h2)]
theorem wN:∀ (f x:Nat) (n:Nat),x<=f->x<4294967296->n+FY x<=2251799813685248->Z (.loop Akv) (Yt (n:Nat) (x:Nat)) xZ0 (Yt ((n+FY x:Nat)) 0):=by
 intro f;induction f with
 | zero =>
  intro x n hx _ _;have:x=0:=by omega
  subst this;exact Aq (Akw _ _ (by simp))
 | succ f b =>
  intro x n hx hb hn;by_cases a:x=0
  ·subst a;exact Aq (Akw _ _ (by simp))
  ·have k:=AEo (n:Nat) (x:Nat) (by simp;omega);have c:d (x:Int) (2^(min (Y 1) (A5 .u32)))=((x / 2:Nat):Int):=Ade x 1 (by omega);rw[c,wqz,show (n:Int)+1=((n+1:Nat):Int) by omega] at k;have e:=Agf a;have h:=b (x / 2) (n+1) (by omega) (by omega) (by omega);rw[show n+1+FY (x / 2)=n+FY x by omega] at h;exact Bk k h
theorem bZ{neg:Bool}{xs:G}(e:B9 xs)(j:F xs<=35184372088832):T 51 [Ao [W neg,sL A xs]] (J X (FY (I (v neg xs)))):=by
 have c:=Fp (xs:=xs) j;rw[SU (neg:=neg) e] at c;have q:=Gc (neg:=neg) e;generalize v neg xs=a at *
 by_cases b:I a=0
 ·have h:=Ari neg xs _ (by rw[b];rfl) c;rw[show FY (I a)=0 by unfold FY;rw[Ar b]];exact h
 ·obtain⟨r,x,k,d,f,g⟩:=jJ b;have i:Q X (F (o (I a))-1)=((F (o (I a))-1:Nat):Int):=wrz
  have s:CZ x<32:=(TD d).2 f;have l:FY x=CZ x+1:=by unfold FY;rw[Aw d]
  have m:Q X (32*(F (o (I a))-1:Nat))=((32*(F (o (I a))-1):Nat):Int):=wrz
  have n:=wN x x (32*(F (o (I a))-1)) (A2 _) f (by omega);have h:=Arj neg xs (o (I a)) _ _ (by rw[C3];omega) c (by rw[i];omega) (by rw[i,Aa,k,m];exact n);have p:FY (I a)=32*(F (o (I a))-1)+FY x:=by
   rw[l];unfold FY;rw[Aw b,Ja (I a) (32*(F (o (I a))-1)) (by rw[g];exact d),g];omega
  rw[p];exact h
theorem Agg{n k:Nat}(h:n<32*k):u k ((2:Int)^n):=by
 unfold u;rw[Oh];show 2^n<4294967296^k;rw[show (4294967296:Nat)=2^32 by decide,<- AJl];exact UA (by decide) h
theorem Xm{a b:Nat}(ha:a<=8192)(hb:b<=8192):Q X ((if (b:Int)>(a:Int) then (b:Int) else (a:Int))-a)=((max a b-a:Nat):Int):=by
 split <;> rw[wqz] <;> omega
theorem Xn{a b:Nat}(ha:a<=8192)(hb:b<=8192):Q X ((if (b:Int)>(a:Int) then (b:Int) else (a:Int))-b)=((max a b-b:Nat):Int):=by
 split <;> rw[wqz] <;> omega
theorem wO{a b:Nat}(ha:a<=8192)(hb:b<=8192):Q X ((if (b:Int)>(a:Int) then (b:Int) else (a:Int))+1)=((max a b+1:Nat):Int):=by
 split <;> rw[wqz] <;> omega
theorem wP{a b c:Int}(hc:0<c):DE (a*c) (b*c)=DE a b:=by
 unfold DE;have h1:a*c<b*c↔a<b:=Agh hc;have h2:b*c<a*c↔b<a:=Agh hc;simp only[h1,h2]
theorem A6y(c Y:Int)(a b:Nat):DE (c*2^(max a b-a)) (Y*2^(max a b-b))=DE (c*2^b) (Y*2^a):=by
 have h:=wP (a:=c*2^(max a b-a)) (b:=Y*2^(max a b-b)) (CA (min a b));rw[<- h,Bm,Bm,<- Cc,<- Cc,show max a b-a+min a b=b by omega,show max a b-b+min a b=a by omega]
def A4(r:Rn)(e:Int):AV := Ao [W r.1,P (F r.2) (A r.2),J X e]
theorem T_{r:Rn}(hr:BC 600 r){n:Nat}(hn:n<=8192):T 104 [AB r,J X (n:Nat)] (M (B r*2^n))/\T 84 [AB r,J X (n:Nat)] (Dk (B r*2^n))/\u 860 (B r*2^n):=by
 have h2:=hr.2;exact⟨jO hr.1 n (by omega) (by omega),NQ hr.1 n (by omega),(hr.fits.mul (Agg (k:=257) (by omega))).mono (by omega)⟩
section
variable(x:Int)(a:Nat)(y:Int)(b:Nat)
def BS:Int:=DE (x*2^b) (y*2^a)
def KT:Int:=x*2^(max a b-a)+y*2^(max a b-b)
def Rf:Int:=KT x a y b / 2^EJ (KT x a y b) (max a b+1)
def KU:Nat:=max a b+1-EJ (KT x a y b) (max a b+1)
end
section
variable {r t:Rn} (hr:BC 600 r) (ht:BC 600 t) {a b:Nat} (ha:a<=8192) (hb:b<=8192)
include hr ht ha hb
theorem L9:T 55 [A4 r (a:Nat),A4 t (b:Nat)] (J X (BS (B r) a (B t) b)):=by
 obtain⟨e,_,f⟩:=T_ hr (n:=max a b-a) (by omega);obtain⟨g,_,h⟩:=T_ ht (n:=max a b-b) (by omega);have c:=BB f;have d:=BB h;have p:=Arf (na:=(V (B r*2^(max a b-a))).1) (nb:=(V (B t*2^(max a b-b))).1) c.1 d.1 (by have:=c.2;omega) (by have:=d.2;omega);rw[show ∀ n,v (V n).1 (V n).2=n from AO,show ∀ n,v (V n).1 (V n).2=n from AO,A6y] at p;exact AEk r t (a:Nat) (b:Nat) _ _ _ (by rw[Xm ha hb];exact e) (by rw[Xn ha hb];exact g) p
theorem G2:T 33 [A4 r (a:Nat),A4 t (b:Nat)] (J X (BS (B r) a (B t) b)):=by
 obtain⟨_,e,f⟩:=T_ hr (n:=b) hb;obtain⟨_,g,h⟩:=T_ ht (n:=a) ha;have c:=BB f;have d:=BB h;have q:=Are (na:=(V (B r*2^b)).1) (nb:=(V (B t*2^a)).1) c.1 d.1 (by have:=c.2;omega) (by have:=d.2;omega);rw[show ∀ n,v (V n).1 (V n).2=n from AO,show ∀ n,v (V n).1 (V n).2=n from AO] at q;exact AEl r t (a:Nat) (b:Nat) _ _ _ e g q
theorem jY:u 861 (KT (B r) a (B t) b):=by
 obtain⟨_,_,c⟩:=T_ hr (n:=max a b-a) (by omega);obtain⟨_,_,d⟩:=T_ ht (n:=max a b-b) (by omega);exact c.add d
theorem Q8:T 133 [A4 r (a:Nat),A4 t (b:Nat)] (dyA (Rf (B r) a (B t) b) (KU (B r) a (B t) b)):=by
 obtain⟨c,_,d⟩:=T_ hr (n:=max a b-a) (by omega);obtain⟨f,_,g⟩:=T_ ht (n:=max a b-b) (by omega);have hX:=d.len;have hY:=g.len;have p:=jH (a:=B r*2^(max a b-a)) (b:=B t*2^(max a b-b)) (by omega) (by omega);have i:=(jY hr ht ha hb).len;have h:=pX (N:=KT (B r) a (B t) b) (e:=max a b+1) (by omega) (by omega);exact A6q r t (a:Nat) (b:Nat) _ _ _ _ _ (by rw[Xm ha hb];exact c) (by rw[Xn ha hb];exact f) p (by rw[wO ha hb];exact h)
theorem UH:T 121 [A4 r (a:Nat),A4 t (b:Nat)] (dyA (Rf (B r) a (B t) b) (KU (B r) a (B t) b)):=by
 obtain⟨_,f,c⟩:=T_ hr (n:=max a b-a) (by omega);obtain⟨_,g,d⟩:=T_ ht (n:=max a b-b) (by omega);have q:=NO (na:=(V (B r*2^(max a b-a))).1) (nb:=(V (B t*2^(max a b-b))).1) (BB c).1 (BB d).1 (by have:=(BB c).2;omega) (by have:=(BB d).2;omega);rw[show ∀ n,v (V n).1 (V n).2=n from AO,show ∀ n,v (V n).1 (V n).2=n from AO] at q;have i:=(jY hr ht ha hb).len;have h:=Ys (N:=KT (B r) a (B t) b) (e:=max a b+1) (by omega) (by omega);exact A6w r t (a:Nat) (b:Nat) _ _ _ _ _ (by rw[Xm ha hb];exact f) (by rw[Xn ha hb];exact g) q (by rw[wO ha hb];exact h)
end
section
variable(fs:D)
def Bh(r:Rn)(e:Int)(t:Rn)(f:Int):AV := Ao [sL S fs,W r.1,P (F r.2) (A r.2),J X e,W t.1,P (F t.2) (A t.2),J X f]
def GW(r:Rn)(e:Int)(t:Rn)(f:Int):Reg := AH [sL S fs,W r.1,P (F r.2) (A r.2),J X e,W t.1,P (F t.2) (A t.2),J X f]
theorem A6z(r t:Rn)(e f c:Int)(h:T 55 [A4 r e,A4 t f] (J X c)):T 125 [Bh fs r e t f] (W (c==0)):=Bc (fn:=iF AC Azi) j rfl 400 rfl [.r (J X c)] (BO h)
theorem Ark(r t:Rn)(e f:Int)(q:Rn)(g d:Int)(b:Bool)(c1:b=false)(k:E (d<=0)=true)(h:T 125 [Bh fs r e t f] (W b))(l:T 55 [A4 q g,A4 r e] (J X d)):T 76 [Bh fs r e t f,A4 q g] (J X 1):=Bc (fn:=iF AC XI) j rfl 400 rfl [.r (W b),bF,.r (J X d),bT] (FJ h c1 l k)
theorem Arl(r t:Rn)(e f:Int)(q:Rn)(g d a:Int)(b:Bool)(c1:b=false)(k:E (d<=0)=false)(u:E (a>0)=true)(h:T 125 [Bh fs r e t f] (W b))(l:T 55 [A4 q g,A4 r e] (J X d))(o:T 55 [A4 q g,A4 t f] (J X a)):T 76 [Bh fs r e t f,A4 q g] (J X (-1)):=Bc (fn:=iF AC XI) j rfl 400 rfl [.r (W b),bF,.r (J X d),bF,.r (J X a),bT] (Gm h c1 l k o u)
theorem Arm(r t:Rn)(e f:Int)(q:Rn)(g d a i:Int)(b:Bool)(c1:b=false)(k:E (d<=0)=false)(u:E (a>0)=false)(v:(a==0)=true)(w:(i==0)=true)(h:T 125 [Bh fs r e t f] (W b))(l:T 55 [A4 q g,A4 r e] (J X d))(o:T 55 [A4 q g,A4 t f] (J X a))(x:T 65 [sL S fs,A4 t f] (J X i)):T 76 [Bh fs r e t f,A4 q g] (J X 0):=Bc (fn:=iF AC XI) j rfl 400 rfl [.r (W b),bF,.r (J X d),bF,.r (J X a),bF,.r (J X i),bT,bT] (M3 h c1 l k o u x v w)
theorem Arn(r t:Rn)(e f:Int)(q:Rn)(g d a i:Int)(b:Bool)(c1:b=false)(k:E (d<=0)=false)(u:E (a>0)=false)(v:(a==0)=true)(w:(i==0)=false)(h:T 125 [Bh fs r e t f] (W b))(l:T 55 [A4 q g,A4 r e] (J X d))(o:T 55 [A4 q g,A4 t f] (J X a))(x:T 65 [sL S fs,A4 t f] (J X i)):T 76 [Bh fs r e t f,A4 q g] (J X (-1)):=Bc (fn:=iF AC XI) j rfl 400 rfl [.r (W b),bF,.r (J X d),bF,.r (J X a),bF,.r (J X i),bT,bF] (M3 h c1 l k o u x v w)
theorem Aro(r t:Rn)(e f:Int)(q:Rn)(g d a i p:Int)(b:Bool)(c1:b=false)(k:E (d<=0)=false)(u:E (a>0)=false)(v:(a==0)=false)(w:(p==0)=true)(h:T 125 [Bh fs r e t f] (W b))(l:T 55 [A4 q g,A4 r e] (J X d))(o:T 55 [A4 q g,A4 t f] (J X a))(x:T 65 [sL S fs,A4 t f] (J X i))(y:T 65 [sL S fs,A4 q g] (J X p)):T 76 [Bh fs r e t f,A4 q g] (J X 0):=Bc (fn:=iF AC XI) j rfl 400 rfl [.r (W b),bF,.r (J X d),bF,.r (J X a),bF,.r (J X i),bF,.r (J X p),bT] (Kw h c1 l k o u x v y w)
theorem Arp(r t:Rn)(e f:Int)(q:Rn)(g d a i p:Int)(b:Bool)(c1:b=false)(k:E (d<=0)=false)(u:E (a>0)=false)(v:(a==0)=false)(w:(p==0)=false)(z:(p==i)=true)(h:T 125 [Bh fs r e t f] (W b))(l:T 55 [A4 q g,A4 r e] (J X d))(o:T 55 [A4 q g,A4 t f] (J X a))(x:T 65 [sL S fs,A4 t f] (J X i))(y:T 65 [sL S fs,A4 q g] (J X p)):T 76 [Bh fs r e t f,A4 q g] (J X (-1)):=Bc (fn:=iF AC XI) j rfl 400 rfl [.r (W b),bF,.r (J X d),bF,.r (J X a),bF,.r (J X i),bF,.r (J X p),bF,bT] (IU h c1 l k o u x v y w z)
theorem Arq(r t:Rn)(e f:Int)(q:Rn)(g d a i p:Int)(b:Bool)(c1:b=false)(k:E (d<=0)=false)(u:E (a>0)=false)(v:(a==0)=false)(w:(p==0)=false)(z:(p==i)=false)(h:T 125 [Bh fs r e t f] (W b))(l:T 55 [A4 q g,A4 r e] (J X d))(o:T 55 [A4 q g,A4 t f] (J X a))(x:T 65 [sL S fs,A4 t f] (J X i))(y:T 65 [sL S fs,A4 q g] (J X p)):T 76 [Bh fs r e t f,A4 q g] (J X 1):=Bc (fn:=iF AC XI) j rfl 400 rfl [.r (W b),bF,.r (J X d),bF,.r (J X a),bF,.r (J X i),bF,.r (J X p),bF,bF] (IU h c1 l k o u x v y w z)
theorem Arr(r t:Rn)(e f:Int)(b:Bool)(c1:b=true)(h:T 125 [Bh fs r e t f] (W b)):T 82 [Bh fs r e t f] (Bh fs r e t f):=Bc (fn:=iF AC Ajh) j rfl 400 rfl [.r (W b),bT] (DH h c1)
theorem Ars(r t:Rn)(e f n m s:Int)(b:Bool)(c1:b=false)(k:E (s<=0)=true)(h:T 125 [Bh fs r e t f] (W b))(l:T 133 [A4 r e,A4 t f] (A4 (V n) m))(o:T 76 [Bh fs r e t f,A4 (V n) m] (J X s)):T 82 [Bh fs r e t f] (Bh fs r e (V n) m):=Bc (fn:=iF AC Ajh) j rfl 400 rfl [.r (W b),bF,.r (A4 (V n) m),.r (J X s),bT] (Ff h c1 l o k)
theorem Art(r t:Rn)(e f n m s:Int)(b:Bool)(c1:b=false)(k:E (s<=0)=false)(h:T 125 [Bh fs r e t f] (W b))(l:T 133 [A4 r e,A4 t f] (A4 (V n) m))(o:T 76 [Bh fs r e t f,A4 (V n) m] (J X s)):T 82 [Bh fs r e t f] (Bh fs (V n) m t f):=Bc (fn:=iF AC Ajh) j rfl 400 rfl [.r (W b),bF,.r (A4 (V n) m),.r (J X s),bF] (Ff h c1 l o k)
end
theorem cB(r:Rn)(e n:Int)(a:T 113 [AB r] (M n)):T 106 [A4 r e] (A4 (V n) e):=Bc (fn:=iF AC Azg) j rfl 400 rfl [.r (M n)] (BO a)
theorem Akx(fs:D)(r t:Rn)(e f:Int)(ts:D)(n m u v:Int)(a:T 66 [sL S fs] (Ae 2 (F ts) (S ts)))(b:T 106 [A4 r e] (A4 (V n) m))(c:T 106 [A4 t f] (A4 (V u) v)):T 57 [Bh fs r e t f] (Bh ts (V n) m (V u) v):=Bc (fn:=iF AC AGo) j rfl 400 rfl [.r (Ae 2 (F ts) (S ts)),.r (A4 (V n) m),.r (A4 (V u) v)] (Gy a b c)
theorem AEp(rs:D)(ls:List D)(r t:Rn)(e f x y:Int)(a:T 108 [sL S rs] (Ae 1 (F ls) (pp ls)))(b:T 110 [sL pp ls,A4 r e] (J X x))(c:T 110 [sL pp ls,A4 t f] (J X y)):T 63 [sL S rs,A4 r e,A4 t f] (J X (Q X (x-y))):=Bc (fn:=iF AC AGp) j rfl 400 rfl [.r (Ae 1 (F ls) (pp ls)),.r (J X x),.r (J X y)] (Gy a b c)
section
variable(fs:D)(r t:Rn)(e f:Int)
theorem Aru(q:Rn)(g a d b:Int)(c1:(b==0)=false)(l:E (a<=0)=true)(h:T 33 [A4 q g,A4 r e] (J X a))(o:T 33 [A4 q g,A4 t f] (J X d))(p:T 33 [A4 r e,A4 t f] (J X b)):T 27 [Bh fs r e t f,A4 q g] (J X 1):=Bc (fn:=iF AC Z4) j rfl 400 rfl [.r (J X a),.r (J X d),.r (J X b),bF,bT] (Ff h o p c1 l)
theorem Arv(q:Rn)(g a d b:Int)(c1:(b==0)=false)(l:E (a<=0)=false)(u:E (d>0)=true)(h:T 33 [A4 q g,A4 r e] (J X a))(o:T 33 [A4 q g,A4 t f] (J X d))(p:T 33 [A4 r e,A4 t f] (J X b)):T 27 [Bh fs r e t f,A4 q g] (J X (-1)):=Bc (fn:=iF AC Z4) j rfl 400 rfl [.r (J X a),.r (J X d),.r (J X b),bF,bF,bT] (Gm h o p c1 l u)
theorem Arw(q:Rn)(g a d b v w k i:Int)(c1:(b==0)=false)(l:E (a<=0)=false)(u:E (d>0)=false)(x:(i==0)=true)(h:T 33 [A4 q g,A4 r e] (J X a))(o:T 33 [A4 q g,A4 t f] (J X d))(p:T 33 [A4 r e,A4 t f] (J X b))(y:T 80 [sL S fs,AB q,J X g] (M v))(z:T 79 [M v] (J X i))(A:T 80 [sL S fs,AB t,J X f] (M w))(B:T 79 [M w] (J X k)):T 27 [Bh fs r e t f,A4 q g] (J X 0):=Bc (fn:=iF AC Z4) j rfl 400 rfl [.r (J X a),.r (J X d),.r (J X b),bF,bF,bF,.r (M v),.r (J X i),.r (M w),.r (J X k),bT] (IU h o p c1 l u y z A B x)
theorem Arx(q:Rn)(g a d b v w k i:Int)(c1:(b==0)=false)(l:E (a<=0)=false)(u:E (d>0)=false)(x:(i==0)=false)(C:(k==0)=true)(h:T 33 [A4 q g,A4 r e] (J X a))(o:T 33 [A4 q g,A4 t f] (J X d))(p:T 33 [A4 r e,A4 t f] (J X b))(y:T 80 [sL S fs,AB q,J X g] (M v))(z:T 79 [M v] (J X i))(A:T 80 [sL S fs,AB t,J X f] (M w))(B:T 79 [M w] (J X k)):T 27 [Bh fs r e t f,A4 q g] (J X 1):=Bc (fn:=iF AC Z4) j rfl 400 rfl [.r (J X a),.r (J X d),.r (J X b),bF,bF,bF,.r (M v),.r (J X i),.r (M w),.r (J X k),bF,bT] (Vi h o p c1 l u y z A B x C)
theorem Ary(q:Rn)(g a d b v w k i:Int)(c1:(b==0)=false)(l:E (a<=0)=false)(u:E (d>0)=false)(x:(i==0)=false)(C:(k==0)=false)(F:(i==k)=true)(h:T 33 [A4 q g,A4 r e] (J X a))(o:T 33 [A4 q g,A4 t f] (J X d))(p:T 33 [A4 r e,A4 t f] (J X b))(y:T 80 [sL S fs,AB q,J X g] (M v))(z:T 79 [M v] (J X i))(A:T 80 [sL S fs,AB t,J X f] (M w))(B:T 79 [M w] (J X k)):T 27 [Bh fs r e t f,A4 q g] (J X (-1)):=Bc (fn:=iF AC Z4) j rfl 400 rfl [.r (J X a),.r (J X d),.r (J X b),bF,bF,bF,.r (M v),.r (J X i),.r (M w),.r (J X k),bF,bF,bT] (OX h o p c1 l u y z (Ff A B x C F))
theorem Arz(q:Rn)(g a d b v w k i:Int)(c1:(b==0)=false)(l:E (a<=0)=false)(u:E (d>0)=false)(x:(i==0)=false)(C:(k==0)=false)(F:(i==k)=false)(h:T 33 [A4 q g,A4 r e] (J X a))(o:T 33 [A4 q g,A4 t f] (J X d))(p:T 33 [A4 r e,A4 t f] (J X b))(y:T 80 [sL S fs,AB q,J X g] (M v))(z:T 79 [M v] (J X i))(A:T 80 [sL S fs,AB t,J X f] (M w))(B:T 79 [M w] (J X k)):T 27 [Bh fs r e t f,A4 q g] (J X 1):=Bc (fn:=iF AC Z4) j rfl 400 rfl [.r (J X a),.r (J X d),.r (J X b),bF,bF,bF,.r (M v),.r (J X i),.r (M w),.r (J X k),bF,bF,bF] (OX h o p c1 l u y z (Ff A B x C F))
theorem Asa(c:Int)(c1:(c==0)=true)(h:T 33 [A4 r e,A4 t f] (J X c)):T 72 [Bh fs r e t f] (Bh fs r e t f):=Bc (fn:=iF AC Ajf) j rfl 400 rfl [.r (J X c),bT] (DH h c1)
theorem Asb(n m s c:Int)(c1:(c==0)=false)(l:E (s<=0)=true)(h:T 33 [A4 r e,A4 t f] (J X c))(o:T 121 [A4 r e,A4 t f] (A4 (V n) m))(p:T 27 [Bh fs r e t f,A4 (V n) m] (J X s)):T 72 [Bh fs r e t f] (Bh fs r e (V n) m):=Bc (fn:=iF AC Ajf) j rfl 400 rfl [.r (J X c),bF,.r (A4 (V n) m),.r (J X s),bT] (Ff h c1 o p l)
theorem Asc(n m s c:Int)(c1:(c==0)=false)(l:E (s<=0)=false)(h:T 33 [A4 r e,A4 t f] (J X c))(o:T 121 [A4 r e,A4 t f] (A4 (V n) m))(p:T 27 [Bh fs r e t f,A4 (V n) m] (J X s)):T 72 [Bh fs r e t f] (Bh fs (V n) m t f):=Bc (fn:=iF AC Ajf) j rfl 400 rfl [.r (J X c),bF,.r (A4 (V n) m),.r (J X s),bF] (Ff h c1 o p l)
end
def TXA:Dd:=TZB
theorem Agi:CT DP TXA:=Afv
theorem Yu{l:List (G)}(a:F l<=100)(x:Int)(e:Nat)(y:Int)(f:Nat):Q X ((CU l x e (F l)).1-(CU l y f (F l)).1)=(CU l x e (F l)).1-(CU l y f (F l)).1:=by
 have b:=Ny l x e (F l);have c:=Ny l y f (F l);exact By (by omega) (by omega)
def AHc(p:G)(x:Int)(a:Nat)(y:Int)(b:Nat):Int:=(CU (Cq p) x a (F (Cq p))).1-(CU (Cq p) y b (F (Cq p))).1
def VY(p:G):Prop:=Kb 500000 p/\F p<=9
theorem jZ{p:G}(b:F p<=9){a:Nat}(c:a<=8192):500000+2+(F p+1)*(300+(a / 32+1)+1)<=1048576:=by
 have:(F p+1)*(300+(a / 32+1)+1)<=10*560:=Ck (by omega) (by omega);omega
def Dl(p:G)(x:Int)(a:Nat):Int:=B4 (hv p x (2^a))
theorem Q9{p:G}(hp:VY p){r:Rn}(hr:BC 300 r){a:Nat}(b:a<=8192):T 65 [sL S (p.map V),A4 r (a:Nat)] (J X (Dl p (B r) a)):=by
 have h:=VO (rs:=p.map V) (Bx hp.1) hr a (by rw[Ac];exact jZ hp.2 b) (by omega);rw[Bs] at h;exact h
theorem Sz{rs:D}(b:∀ r∈rs,BC 500000 r)(c:F rs<=9){r:Rn}(hr:BC 300 r){a:Nat}(d:a<=8192) :
  T 80 [sL S rs,Ao [W r.1,P (F r.2) (A r.2)],J X (a:Nat)] (M (hv (Af (Al rs)) (B r) (2^a))) /\
  T 79 [M (hv (Af (Al rs)) (B r) (2^a))] (J X (Dl (Af (Al rs)) (B r) a)):=by
 have hz:=jZ (p:=Al rs) (by rw[B1];exact c) d;rw[B1] at hz;have h:=Yk b hr a hz (by omega);have e:=bG (K:=500000) hr.fits a (ts:=Af (Al rs)) (NE (DW b));have f:=Ct (Al rs);rw[B1] at f;have g:F (Af (Al rs))*(300+(a / 32+1)+1)<=9*560:=Ck (by omega) (by omega);exact⟨h,Tg (by have:=e.len;omega)⟩
def TXB:Dd:=TXA
theorem Agj:CT DP TXB:=Agi
theorem Tn(c x q:Int):∀ p:G,hv p (c*x) (c*q)=c^(F p-1)*hv p x q
 | []=>by simp[hv]
 | [a]=>by simp[hv]
 | a::b::p=>by
  have h:=Tn c x q (b::p);have e:∀ y d,hv (a::b::p) y d=a*d^(F p+1)+y*hv (b::p) y d:=fun _ _=>rfl;have i:F (b::p)-1=F p:=rfl;have j:F (a::b::p)-1=F p+1:=rfl;rw[i] at h;rw[e,e,h,j,aH,AD c (F p)];generalize hv (b::p) x q=f;generalize c^F p=C;generalize q^(F p+1)=g;grind
theorem OI{c:Int}(hc:0<c)(v:Int):B4 (c*v)=B4 v:=by
 unfold B4;rcases G8 v 0 with h | h | h
 ·have:=It hc h;rw[Ar this,Ar h]
 ·subst h;rw[Be]
 ·have:=Br hc h;rw[Aw (by omega),Ar this,Aw (by omega),Ar h]
theorem Xo{p:G}{x y:Int}{a b:Nat}(h:x*2^b=y*2^a):Dl p x a=Dl p y b:=by
 unfold Dl;have c:(0:Int)<2^a:=FP (by decide);have d:(0:Int)<2^b:=FP (by decide);have e:(0:Int)<(2^a)^(F p-1):=FP c;have f:(0:Int)<(2^b)^(F p-1):=FP d;rw[<- OI f (hv p x (2^a)),<- Tn,<- OI e (hv p y (2^b)),<- Tn];rw[AT (2^b) x,h,AT (2^b) (2^a),AT (2^a) y]
def F_(p:G)(lo:Int)(a:Nat)(hi:Int)(b:Nat)(x:Int)(c:Nat):Int :=
 if BS x c lo a<=0 then 1 else if BS x c hi b>0 then -1 else if Dl p x c=0 then 0 else if Dl p x c=Dl p hi b then -1 else 1
section
variable {p:G} (hp:VY p) {r t q:Rn} (hr:BC 300 r) (ht:BC 300 t) (hq:BC 300 q) {a b c:Nat} (ha:a<=8192) (hb:b<=8192) (hc:c<=8192)
include hr ht ha hb
theorem LA:T 125 [Ao [sL S (p.map V),W r.1,P (F r.2) (A r.2),J X (a:Nat),W t.1,P (F t.2) (A t.2),J X (b:Nat)]] (W (BS (B r) a (B t) b==0)) :=
 A6z _ r t _ _ _ (L9 (hr.mono (by omega)) (ht.mono (by omega)) ha hb)
include hp hq hc
theorem Xp(l:BS (B r) a (B t) b ≠ 0):T 76 [Ao [sL S (p.map V),W r.1,P (F r.2) (A r.2),J X (a:Nat),W t.1,P (F t.2) (A t.2),J X (b:Nat)],A4 q (c:Nat)]
  (J X (F_ p (B r) a (B t) b (B q) c)):=by
 have h1:=LA (p:=p) hr ht ha hb;rw[C3.2 l] at h1;have h2:=L9 (hq.mono (show 300<=600 by omega)) (hr.mono (show 300<=600 by omega)) hc ha;have g:=L9 (hq.mono (show 300<=600 by omega)) (ht.mono (show 300<=600 by omega)) hc hb;have h:=Q9 hp ht hb;have j:=Q9 hp hq hc;unfold F_;by_cases c1:BS (B q) c (B r) a<=0
 ·rw[Ar c1];exact Ark _ r t _ _ q _ _ false rfl (BP c1) h1 h2
 rw[Aw c1];by_cases e:BS (B q) c (B t) b>0
 ·rw[Ar e];exact Arl _ r t _ _ q _ _ _ false rfl (Bw c1) (BP e) h1 h2 g
 rw[Aw e];by_cases f:BS (B q) c (B t) b=0
 ·have hs:Dl p (B q) c=Dl p (B t) b:=by
   apply Xo;unfold BS DE at f;split at f
   ·exact absurd f (by decide)
   ·split at f
    ·exact absurd f (by decide)
    ·omega
  rw[hs];by_cases d:Dl p (B t) b=0
  ·rw[Ar d];exact Arm _ r t _ _ q _ _ _ _ false rfl (Bw c1) (Bw e) (by rw[BJ];exact f) (by rw[BJ];exact d) h1 h2 g h
  ·rw[Aw d,Ar rfl];exact Arn _ r t _ _ q _ _ _ _ false rfl (Bw c1) (Bw e) (by rw[BJ];exact f) (by rw[C3];exact d) h1 h2 g h
 ·have k:(BS (B q) c (B t) b==0)=false:=C3.2 f;by_cases d:Dl p (B q) c=0
  ·rw[Ar d];exact Aro _ r t _ _ q _ _ _ _ _ false rfl (Bw c1) (Bw e) k (by rw[BJ];exact d) h1 h2 g h j
  rw[Aw d];by_cases i:Dl p (B q) c=Dl p (B t) b
  ·rw[Ar i];exact Arp _ r t _ _ q _ _ _ _ _ false rfl (Bw c1) (Bw e) k (by rw[C3];exact d) (by rw[BJ];exact i) h1 h2 g h j
  ·rw[Aw i];exact Arq _ r t _ _ q _ _ _ _ _ false rfl (Bw c1) (Bw e) k (by rw[C3];exact d) (by rw[C3];exact i) h1 h2 g h j
theorem To(o:Cw p)(s:BS (B r) a (B t) b ≠ 0):T 27 [Ao [sL S (p.map V),W r.1,P (F r.2) (A r.2),J X (a:Nat),W t.1,P (F t.2) (A t.2),J X (b:Nat)],A4 q (c:Nat)]
  (J X (F_ p (B r) a (B t) b (B q) c)):=by
 have h1:=G2 (hr.mono (show 300<=600 by omega)) (ht.mono (show 300<=600 by omega)) ha hb;have e:(BS (B r) a (B t) b==0)=false:=C3.2 s;have h2:=G2 (hq.mono (show 300<=600 by omega)) (hr.mono (show 300<=600 by omega)) hc ha;have f:=G2 (hq.mono (show 300<=600 by omega)) (ht.mono (show 300<=600 by omega)) hc hb;obtain⟨g,h⟩:=Sz (rs:=p.map V) (Bx hp.1) (by rw[Ac];exact hp.2) ht hb;obtain⟨i,j⟩:=Sz (rs:=p.map V) (Bx hp.1) (by rw[Ac];exact hp.2) hq hc;rw[Bs,o] at g h i j;unfold F_;by_cases c1:BS (B q) c (B r) a<=0
 ·rw[Ar c1];exact Aru _ r t _ _ q _ _ _ _ e (BP c1) h2 f h1
 rw[Aw c1];by_cases d:BS (B q) c (B t) b>0
 ·rw[Ar d];exact Arv _ r t _ _ q _ _ _ _ e (Bw c1) (BP d) h2 f h1
 rw[Aw d];by_cases k:Dl p (B q) c=0
 ·rw[Ar k];exact Arw _ r t _ _ q _ _ _ _ _ _ _ _ e (Bw c1) (Bw d) (by rw[BJ];exact k) h2 f h1 i j g h
 rw[Aw k];have m:(Dl p (B q) c==0)=false:=C3.2 k;by_cases n:Dl p (B t) b=0
 ·rw[Aw (by omega)];exact Arx _ r t _ _ q _ _ _ _ _ _ _ _ e (Bw c1) (Bw d) m (by rw[BJ];exact n) h2 f h1 i j g h
 by_cases l:Dl p (B q) c=Dl p (B t) b
 ·rw[Ar l];exact Ary _ r t _ _ q _ _ _ _ _ _ _ _ e (Bw c1) (Bw d) m (by rw[C3];exact n) (by rw[BJ];exact l) h2 f h1 i j g h
 ·rw[Aw l];exact Arz _ r t _ _ q _ _ _ _ _ _ _ _ e (Bw c1) (Bw d) m (by rw[C3];exact n) (by rw[C3];exact l) h2 f h1 i j g h
end
structure Iv where
 r:Rn
 a:Nat
 t:Rn
 b:Nat
def Iv.mn(x:Iv):Int:=Rf (B x.r) x.a (B x.t) x.b
def Iv.me(x:Iv):Nat:=KU (B x.r) x.a (B x.t) x.b
def Jb(p:G)(x:Iv):Iv :=
 if BS (B x.r) x.a (B x.t) x.b=0 then x
 else if F_ p (B x.r) x.a (B x.t) x.b x.mn x.me<=0 then ⟨x.r,x.a,V x.mn,x.me⟩ else ⟨V x.mn,x.me,x.t,x.b⟩
def Iv.av(p:G)(x:Iv):AV := Ao [sL S (p.map V),W x.r.1,P (F x.r.2) (A x.r.2),J X (x.a:Nat),W x.t.1,P (F x.t.2) (A x.t.2),J X (x.b:Nat)]
structure IvOk (C m:Nat) (x:Iv):Prop where
 gr:BC 300 x.r
 gt:BC 300 x.t
 a:x.a<=m
 b:x.b<=m
 vr:(B x.r).natAbs<=2^C*2^x.a
 vt:(B x.t).natAbs<=2^C*2^x.b
theorem OJ{x a y b}:KU x a y b<=max a b+1:=by unfold KU;omega
theorem Tp{x:Int}{a:Nat}{y:Int}{b C:Nat}(hx:I x<=2^C*2^a)(hy:I y<=2^C*2^b):I (Rf x a y b)<=2^C*2^KU x a y b:=by
 have hz:=Sy (max a b+1) (KT x a y b);have hd:=Nz (max a b+1) (KT x a y b);have h1:I (KT x a y b)<=2^C*2^(max a b+1):=by
  unfold KT;have f:I (x*2^(max a b-a))<=2^C*2^max a b:=by
   rw[C1,Oh];have:2^C*2^max a b=2^C*2^a*2^(max a b-a):=by rw[Gj,<- Dw 2 a];congr 2;omega
   rw[this];exact Ck hx (A2 _)
  have g:I (y*2^(max a b-b))<=2^C*2^max a b:=by
   rw[C1,Oh];have:2^C*2^max a b=2^C*2^b*2^(max a b-b):=by rw[Gj,<- Dw 2 b];congr 2;omega
   rw[this];exact Ck hy (A2 _)
  have h:2^C*2^(max a b+1)=2^C*2^max a b+2^C*2^max a b:=by rw[GV,<- Gj];omega
  omega
 unfold Rf KU;generalize KT x a y b=e at *
 generalize EJ e (max a b+1)=z at *
 obtain⟨c,rfl⟩:=hd;have i:(0:Int)<2^z:=FP (by decide);rw[CL _ (by omega)];rw[C1,Oh] at h1;have d:2^C*2^(max a b+1)=2^z*(2^C*2^(max a b+1-z)):=by
  rw[Nat.mul_left_comm,<- Dw 2 z];congr 2;omega
 rw[d] at h1;exact Nat.le_of_mul_le_mul_left h1 (E5 (by decide))
theorem C8{n:Int}{k:Nat}(h:I n<=2^k){K:Nat}(a:k<32*K):u K n:=by
 unfold u;have:(4294967296:Nat)^K=2^(32*K):=by rw[AJl]
 rw[this];exact Ey h (UA (by decide) a)
theorem Aky{p:G}{C m:Nat}{x:Iv}(h:IvOk C m x)(hC:C+m+1<8000):IvOk C (m+1) (Jb p x):=by
 obtain⟨gr,gt,ha,hb,vr,vt⟩:=h;have e:=Tp vr vt;have f:x.me<=max x.a x.b+1:=OJ;have c:I x.mn<=2^C*2^x.me:=e;have d:BC 300 (V x.mn):=BB (C8 (k:=C+x.me) (by rw[Dw];exact c) (by omega));unfold Jb;split
 ·exact⟨gr,gt,by omega,by omega,vr,vt⟩
 ·split
  ·exact⟨gr,d,by show x.a<=_;omega,by show x.me<=_;omega,vr,by show I (B (V x.mn))<=_;rw[AO];exact c⟩
  ·exact⟨d,gt,by show x.me<=_;omega,by show x.b<=_;omega,by show I (B (V x.mn))<=_;rw[AO];exact c,vt⟩
section
variable {p:G} (hp:VY p) {C m:Nat} {x:Iv} (h:IvOk C m x) (hC:C+m+1<8000)
include hp h hC
theorem Xq:T 82 [x.av p] ((Jb p x).av p):=by
 obtain⟨gr,gt,ha,hb,vr,vt⟩:=h;have h1:=LA (p:=p) gr gt (a:=x.a) (b:=x.b) (by omega) (by omega);unfold Jb;by_cases c1:BS (B x.r) x.a (B x.t) x.b=0
 ·rw[Ar c1];rw[BJ.2 c1] at h1;exact Arr _ x.r x.t _ _ true rfl h1
 ·rw[Aw c1];rw[C3.2 c1] at h1;have f:I x.mn<=2^C*2^x.me:=Tp vr vt;have i:x.me<=max x.a x.b+1:=OJ;have g:BC 300 (V x.mn):=BB (C8 (k:=C+x.me) (by rw[Dw];exact f) (by omega));have h2:=Q8 (gr.mono (show 300<=600 by omega)) (gt.mono (show 300<=600 by omega)) (a:=x.a) (b:=x.b) (by omega) (by omega);have e:=Xp hp gr gt g (a:=x.a) (b:=x.b) (c:=x.me) (by omega) (by omega) (by omega) c1;rw[AO] at e;by_cases d:F_ p (B x.r) x.a (B x.t) x.b x.mn x.me<=0
  ·rw[Ar d];exact Ars _ x.r x.t _ _ _ _ _ false rfl (BP d) h1 h2 e
  ·rw[Aw d];exact Art _ x.r x.t _ _ _ _ _ false rfl (Bw d) h1 h2 e
theorem QA(g:Cw p):T 72 [x.av p] ((Jb p x).av p):=by
 obtain⟨gr,gt,ha,hb,vr,vt⟩:=h;have h1:=G2 (gr.mono (show 300<=600 by omega)) (gt.mono (show 300<=600 by omega)) (a:=x.a) (b:=x.b) (by omega) (by omega);unfold Jb;by_cases c1:BS (B x.r) x.a (B x.t) x.b=0
 ·rw[Ar c1];exact Asa _ x.r x.t _ _ _ (by rw[BJ];exact c1) h1
 ·rw[Aw c1];have f:(BS (B x.r) x.a (B x.t) x.b==0)=false:=C3.2 c1;have i:I x.mn<=2^C*2^x.me:=Tp vr vt;have l:x.me<=max x.a x.b+1:=OJ;have j:BC 300 (V x.mn):=BB (C8 (k:=C+x.me) (by rw[Dw];exact i) (by omega));have h2:=UH (gr.mono (show 300<=600 by omega)) (gt.mono (show 300<=600 by omega)) (a:=x.a) (b:=x.b) (by omega) (by omega);have e:=To hp gr gt j (a:=x.a) (b:=x.b) (c:=x.me) (by omega) (by omega) (by omega) g c1;rw[AO] at e;by_cases d:F_ p (B x.r) x.a (B x.t) x.b x.mn x.me<=0
  ·rw[Ar d];exact Asb _ x.r x.t _ _ _ _ _ _ f (BP d) h1 h2 e
  ·rw[Aw d];exact Asc _ x.r x.t _ _ _ _ _ _ f (Bw d) h1 h2 e
end
def TXC:Dd:=TXB
theorem Fj:CT DP TXC:=Agj
section
variable(ls:List D)(r t:Rn)
theorem cC(e f x y m:Int)(c1:(Q X (x-y)==0)=true):T 105 [sL pp ls,A4 r e,A4 t f,J X x,J X y,J X m] (.frs (.tp true) 7 0 []):=Bc (fn:=iF AC mC) Fj rfl 400 rfl [bT] (BO c1)
theorem cD(e f x y m:Int)(c1:(Q X (x-y)==0)=false)(h:(Q X (x-y)==1)=true)(b:0<=(0:Int)/\(0:Int)<(F ls:Int)):T 105 [sL pp ls,A4 r e,A4 t f,J X x,J X y,J X m] (.frs (.tp true) 7 1 [sL S (H ls (Y 0) []),W r.1,P (F r.2) (A r.2),J X e,W t.1,P (F t.2) (A t.2),J X f]):=Bc (fn:=iF AC mC) Fj rfl 400 rfl [bF,bT,.v (sL S (H ls (Y 0) []))] (FJ c1 h b (B3 b))
theorem Agk(e f x y m n g v:Int)(i j:Bool)(c a:Nat)(k d:AK)(c1:(Q X (x-y)==0)=false)(h:(Q X (x-y)==1)=false)(l:E (g>m)=false)(o:i=true)(b:F d=a*7)(p:c+a<=1048576)(q:T 133 [A4 r e,A4 t f] (A4 (V n) g))(s:T 68 [sL pp ls,A4 (V n) g] (J X v))(u:T 105 [sL pp ls,A4 r e,A4 (V n) g,J X x,J X v,J X m] (.frs (.tp i) 7 c k))(w:T 105 [sL pp ls,A4 (V n) g,A4 t f,J X v,J X y,J X m] (.frs (.tp j) 7 a d)):T 105 [sL pp ls,A4 r e,A4 t f,J X x,J X y,J X m] (.frs (.tp j) 7 (c+a) (k++d)):=Bc (fn:=iF AC mC) Fj rfl 400 rfl [bF,bF,.r (A4 (V n) g),bF,.r (J X v),.r (.frs (.tp i) 7 c k),bF,.r (.frs (.tp j) 7 a d)] (Kw c1 h q l s u (KA o) w b p)
end
section
variable(rs:D)(ls:List D)(r t:Rn)
theorem Asd(e f m:Int)(c1:E ((F ls:Int)<2)=true)(a:T 67 [sL S rs] (Ae 1 (F ls) (pp ls))):T 56 [sL S rs,A4 r e,A4 t f,J X m] (.frs (.tp true) 7 0 []):=Bc (fn:=iF AC Ayw) Fj rfl 400 rfl [.r (Ae 1 (F ls) (pp ls)),bT] (DH a c1)
theorem Ase(e f x y m:Int)(b:Bool)(n:Nat)(cs:AK)(c1:E ((F ls:Int)<2)=false)(a:T 67 [sL S rs] (Ae 1 (F ls) (pp ls)))(c:T 68 [sL pp ls,A4 r e] (J X x))(d:T 68 [sL pp ls,A4 t f] (J X y))(g:T 105 [sL pp ls,A4 r e,A4 t f,J X x,J X y,J X m] (.frs (.tp b) 7 n cs)):T 56 [sL S rs,A4 r e,A4 t f,J X m] (A3 [P n cs,W b]):=Bc (fn:=iF AC Ayw) Fj rfl 400 rfl [.r (Ae 1 (F ls) (pp ls)),bF,.r (J X x),.r (J X y),.r (.frs (.tp b) 7 n cs)] (Ff a c1 c d g)
theorem A7a(e f x y:Int)(a:T 67 [sL S rs] (Ae 1 (F ls) (pp ls)))(c:T 68 [sL pp ls,A4 r e] (J X x))(d:T 68 [sL pp ls,A4 t f] (J X y)):T 136 [sL S rs,A4 r e,A4 t f] (J X (Q X (x-y))):=Bc (fn:=iF AC Azl) Fj rfl 400 rfl [.r (Ae 1 (F ls) (pp ls)),.r (J X x),.r (J X y)] (Gy a c d)
end
theorem pY(fs:D)(r t:Rn)(e f:Int)(b:D)(p q:Rn)(c d s:Int)(a:Bool)(c1:a=true)(g:T 125 [Bh fs r e t f] (W a))(h:T 76 [Bh b p c q d,A4 r e] (J X s)):T 124 [Bh fs r e t f,Bh b p c q d] (W (s==0)):=Bc (fn:=iF AC Z9) Fj rfl 400 rfl [.r (W a),bT,.r (J X s)] (Gy g c1 h)
def kD:ICode:=a gQ 93 124
section
variable(o:Int)(fs:D)(r:Rn)(e:Int)(t:Rn)(f:Int)(b:D)(p:Rn)(c:Int)(q:Rn)(d:Int)
def S0:Az:=L 2 (GW fs r e t f::GW b p c q d::N o::L 31 [])
theorem AEq(a:Int)(c1:E (a<=0)=true)(h:T 55 [A4 t f,A4 p c] (J X a)):Z kD (S0 o fs r e t f b p c q d) .ret (S0 (-1) fs r e t f b p c q d):=Ab Fj [.r (J X a),bT] TN (DH h c1)
theorem AEr(a g:Int)(c1:E (a<=0)=false)(i:E (g<=0)=true)(h:T 55 [A4 t f,A4 p c] (J X a))(j:T 55 [A4 q d,A4 r e] (J X g)):Z kD (S0 o fs r e t f b p c q d) .ret (S0 1 fs r e t f b p c q d):=Ab Fj [.r (J X a),bF,.r (J X g),bT] TN (FJ h c1 j i)
theorem AEs(a g:Int)(k l:D)(m n s u:Rn)(v w x h1:Int)(c1:E (a<=0)=false)(i:E (g<=0)=false)(h:T 55 [A4 t f,A4 p c] (J X a))(j:T 55 [A4 q d,A4 r e] (J X g))(y:T 82 [Bh fs r e t f] (Bh k m v n w))(z:T 82 [Bh b p c q d] (Bh l s x u h1)):Z kD (S0 o fs r e t f b p c q d) .norm (S0 o k m v n w l s x u h1):=Ab Fj [.r (J X a),bF,.r (J X g),bF,.r (Bh k m v n w),.r (Bh l s x u h1)] TN (Gm h c1 j i y z)
end
section
variable(fs:D)(r t:Rn)(e f:Int)(g:D)(p q:Rn)(c d:Int)
theorem kF(a:Int)(c1:E (a<0)=true)(h:T 55 [A4 t f,A4 p c] (J X a)):T 74 [Bh fs r e t f,Bh g p c q d] (J X (-1)):=CQ gQ (L 4 (N (-1)::L 31 [])) (As (As (As (AG (Ab Fj [.r (J X a),bT] [4] (DH h c1))))))
theorem Asf(a b:Int)(c1:E (a<0)=false)(j:E (b<0)=true)(h:T 55 [A4 t f,A4 p c] (J X a))(k:T 55 [A4 q d,A4 r e] (J X b)):T 74 [Bh fs r e t f,Bh g p c q d] (J X 1):=CQ gQ (L 4 (N 1::L 31 [])) (As (As (As (AG (Ab Fj [.r (J X a),bF,.r (J X b),bT] [4] (FJ h c1 k j))))))
theorem Asg(a b:Int)(i:Bool)(c1:E (a<0)=false)(j:E (b<0)=false)(l:i=true)(h:T 55 [A4 t f,A4 p c] (J X a))(k:T 55 [A4 q d,A4 r e] (J X b))(m:T 124 [Bh fs r e t f,Bh g p c q d] (W i)):T 74 [Bh fs r e t f,Bh g p c q d] (J X 0):=CQ gQ (L 4 (N 0::L 31 [])) (As (As (As (AG (Ab Fj [.r (J X a),bF,.r (J X b),bF,.r (W i),bT] [4] (Gm h c1 k j m l))))))
theorem Ash(a b z:Int)(i:Bool)(n o:D)(s u v w:Rn)(x y A h1:Int)(c1:E (a<0)=false)(j:E (b<0)=false)(l:i=false)(h:T 55 [A4 t f,A4 p c] (J X a))(k:T 55 [A4 q d,A4 r e] (J X b))(m:T 124 [Bh fs r e t f,Bh g p c q d] (W i))(B:Z (.loop kD) (S0 0 fs r e t f g p c q d) .ret (S0 z n s x u y o v A w h1)):T 74 [Bh fs r e t f,Bh g p c q d] (J X z):=CQ gQ (L 2 (GW n s x u y::GW o v A w h1::N z::L 31 [])) (As (As (As (Ag (Ab Fj [.r (J X a),bF,.r (J X b),bF,.r (W i),bF] TN (Gm h c1 k j m l)) (BT B)))))
end
def AHd:Dd:=TXC
theorem wQ:CT DP AHd:=Fj
def AHe:Dd:=AHd
theorem Ci:CT DP AHe:=wQ
section
variable(fs:D)(r t:Rn)(e f:Int)(a:D)
theorem Asi(c1:E ((F a:Int)<2)=true):T 69 [Bh fs r e t f,sL S a] (W false):=Bc (fn:=iF AC Aza) Ci rfl 400 rfl [bT] (BO c1)
theorem Asj(c n:Int)(c1:E ((F a:Int)<2)=false)(h:(c==0)=false)(b:T 33 [A4 r e,A4 t f] (J X c))(g:T 63 [sL S a,A4 r e,A4 t f] (J X n)):T 69 [Bh fs r e t f,sL S a] (W (n==1)):=Bc (fn:=iF AC Aza) Ci rfl 400 rfl [bF,.r (J X c),bF,.r (J X n)] (FJ c1 b h g)
theorem Asl(p q:Rn)(c d x:Int)(c1:E (x<=0)=true)(b:T 33 [A4 t f,A4 p c] (J X x)):T 71 [Bh fs r e t f,Bh a p c q d] (W true):=Bc (fn:=iF AC Azb) Ci rfl 400 rfl [.r (J X x),bT] (DH b c1)
theorem Asm(p q:Rn)(c d x y:Int)(c1:E (x<=0)=false)(b:T 33 [A4 t f,A4 p c] (J X x))(g:T 33 [A4 q d,A4 r e] (J X y)):T 71 [Bh fs r e t f,Bh a p c q d] (W (E (y<=0))):=Bc (fn:=iF AC Azb) Ci rfl 400 rfl [.r (J X x),bF,.r (J X y)] (Gy b c1 g)
end
def JA:ICode:=a sB 91 450
section
variable(o:Int)(fs:D)(r:Rn)(e:Int)(t:Rn)(f:Int)(b:D)(p:Rn)(c:Int)(q:Rn)(d i:Int)
def Gr:Az:=L 2 (GW fs r e t f::GW b p c q d::N o::N i::L 81 [])
theorem wR(c1:(i==8)=false):Z JA (Gr o fs r e t f b p c q d i) .norm (Gr o fs r e t f b p c q d i):=Ab Ci [bF,bF,bF,bF] JO (FJ c1 F9 F9 F9)
theorem Asn(hs:D)(a:Bool)(g h:Int)(c1:(i==8)=true)(j:a=true)(m:E (g>0)=true)(s:E (h<=0)=true)(k:T 70 [sL S fs,sL S b] (sL S hs))(l:T 69 [Bh fs r e t f,sL S hs] (W a))(n:T 27 [Bh fs r e t f,A4 p c] (J X g))(u:T 27 [Bh fs r e t f,A4 q d] (J X h)):Z JA (Gr o fs r e t f b p c q d i) .ret (Gr 0 fs r e t f b p c q d i):=Ab Ci [bT,.r (sL S hs),.r (W a),bT,.r (J X g),bT,.r (J X h),bT] JO (Ip c1 k l j n m u s)
theorem Aso(hs:D)(a:Bool)(g h:Int)(c1:(i==8)=true)(j:a=true)(m:E (g>0)=true)(s:E (h<=0)=false)(k:T 70 [sL S fs,sL S b] (sL S hs))(l:T 69 [Bh fs r e t f,sL S hs] (W a))(n:T 27 [Bh fs r e t f,A4 p c] (J X g))(u:T 27 [Bh fs r e t f,A4 q d] (J X h)):Z JA (Gr o fs r e t f b p c q d i) .norm (Gr o fs r e t f b p c q d i):=Ab Ci [bT,.r (sL S hs),.r (W a),bT,.r (J X g),bT,.r (J X h),bF] JO (Ip c1 k l j n m u s)
theorem Asp(hs:D)(a:Bool)(g:Int)(c1:(i==8)=true)(j:a=true)(m:E (g>0)=false)(k:T 70 [sL S fs,sL S b] (sL S hs))(l:T 69 [Bh fs r e t f,sL S hs] (W a))(n:T 27 [Bh fs r e t f,A4 p c] (J X g)):Z JA (Gr o fs r e t f b p c q d i) .norm (Gr o fs r e t f b p c q d i):=Ab Ci [bT,.r (sL S hs),.r (W a),bT,.r (J X g),bF,bF] JO (GZ c1 k l j n m F9)
theorem Asq(hs:D)(a:Bool)(c1:(i==8)=true)(j:a=false)(k:T 70 [sL S fs,sL S b] (sL S hs))(l:T 69 [Bh fs r e t f,sL S hs] (W a)):Z JA (Gr o fs r e t f b p c q d i) .norm (Gr o fs r e t f b p c q d i):=Ab Ci [bT,.r (sL S hs),.r (W a),bF,bF,bF] JO (Gm c1 k l j F9 F9)
theorem Asr(hs:D)(a:Bool)(g h:Int)(c1:(i==8)=true)(j:a=true)(m:E (g>0)=true)(s:E (h<=0)=true)(k:T 70 [sL S fs,sL S b] (Ae 2 (F hs) (S hs)))(l:T 69 [Bh fs r e t f,sL S hs] (W a))(n:T 27 [Bh fs r e t f,A4 p c] (J X g))(u:T 27 [Bh fs r e t f,A4 q d] (J X h)):Z JA (Gr o fs r e t f b p c q d i) .ret (Gr 0 fs r e t f b p c q d i):=Ab Ci [bT,.r (Ae 2 (F hs) (S hs)),.r (W a),bT,.r (J X g),bT,.r (J X h),bT] JO (Ip c1 k l j n m u s)
theorem Ass(hs:D)(a:Bool)(g h:Int)(c1:(i==8)=true)(j:a=true)(m:E (g>0)=true)(s:E (h<=0)=false)(k:T 70 [sL S fs,sL S b] (Ae 2 (F hs) (S hs)))(l:T 69 [Bh fs r e t f,sL S hs] (W a))(n:T 27 [Bh fs r e t f,A4 p c] (J X g))(u:T 27 [Bh fs r e t f,A4 q d] (J X h)):Z JA (Gr o fs r e t f b p c q d i) .norm (Gr o fs r e t f b p c q d i):=Ab Ci [bT,.r (Ae 2 (F hs) (S hs)),.r (W a),bT,.r (J X g),bT,.r (J X h),bF] JO (Ip c1 k l j n m u s)
theorem Ast(hs:D)(a:Bool)(g:Int)(c1:(i==8)=true)(j:a=true)(m:E (g>0)=false)(k:T 70 [sL S fs,sL S b] (Ae 2 (F hs) (S hs)))(l:T 69 [Bh fs r e t f,sL S hs] (W a))(n:T 27 [Bh fs r e t f,A4 p c] (J X g)):Z JA (Gr o fs r e t f b p c q d i) .norm (Gr o fs r e t f b p c q d i):=Ab Ci [bT,.r (Ae 2 (F hs) (S hs)),.r (W a),bT,.r (J X g),bF,bF] JO (GZ c1 k l j n m F9)
theorem Asu(hs:D)(a:Bool)(c1:(i==8)=true)(j:a=false)(k:T 70 [sL S fs,sL S b] (Ae 2 (F hs) (S hs)))(l:T 69 [Bh fs r e t f,sL S hs] (W a)):Z JA (Gr o fs r e t f b p c q d i) .norm (Gr o fs r e t f b p c q d i):=Ab Ci [bT,.r (Ae 2 (F hs) (S hs)),.r (W a),bF,bF,bF] JO (Gm c1 k l j F9 F9)
end
def Pe:ICode:=a sB 90 902
section
variable(o:Int)(fs:D)(r:Rn)(e:Int)(t:Rn)(f:Int)(a:D)(p:Rn)(c:Int)(q:Rn)(d i:Int)
def LB:Az:=L 2 (GW fs r e t f::GW a p c q d::N o::N i::L 81 [])
theorem A7b(b:Bool)(g:Int)(c1:E (i>=8)=true)(h:b=true)(k:E (g<0)=true)(j:T 71 [Bh fs r e t f,Bh a p c q d] (W b))(l:T 33 [A4 r e,A4 p c] (J X g)):Z Pe (LB o fs r e t f a p c q d i) .ret (LB (-1) fs r e t f a p c q d i):=Ab Ci [bT,.r (W b),bT,.r (J X g),bT] JO (Ff c1 j h l k)
theorem A7c(b:Bool)(g:Int)(c1:E (i>=8)=true)(h:b=true)(k:E (g<0)=false)(j:T 71 [Bh fs r e t f,Bh a p c q d] (W b))(l:T 33 [A4 r e,A4 p c] (J X g)):Z Pe (LB o fs r e t f a p c q d i) .ret (LB 1 fs r e t f a p c q d i):=Ab Ci [bT,.r (W b),bT,.r (J X g),bF] JO (Ff c1 j h l k)
theorem A7d(b:Bool)(c1:E (i>=8)=true)(h:b=false)(j:T 71 [Bh fs r e t f,Bh a p c q d] (W b)):Z Pe (LB o fs r e t f a p c q d i) .norm (LB o fs r e t f a p c q d i):=Ab Ci [bT,.r (W b),bF] JO (Gy c1 j h)
theorem A7e(c1:E (i>=8)=false):Z Pe (LB o fs r e t f a p c q d i) .norm (LB o fs r e t f a p c q d i):=Ab Ci [bF,bF] JO (DH c1 F9)
end
def J1:ICode:=a sB 95 28
section
variable(o:Int)(fs:D)(r:Rn)(e:Int)(t:Rn)(f:Int)(a:D)(p:Rn)(c:Int)(q:Rn)(d i:Int)
def PC:Az:=L 2 (GW fs r e t f::GW a p c q d::N o::N i::L 81 [])
theorem AEt(b:Int)(k:E (b<0)=true)(l:T 33 [A4 t f,A4 p c] (J X b)):Z J1 (PC o fs r e t f a p c q d i) .ret (PC (-1) fs r e t f a p c q d i):=AG (BT (AG (Ab Ci [.r (J X b),bT] JO (DH l k))))
theorem AEu(b g:Int)(k:E (b<0)=false)(m:E (g<0)=true)(l:T 33 [A4 t f,A4 p c] (J X b))(n:T 33 [A4 q d,A4 r e] (J X g)):Z J1 (PC o fs r e t f a p c q d i) .ret (PC 1 fs r e t f a p c q d i):=AG (BT (AG (Ab Ci [.r (J X b),bF,.r (J X g),bT] JO (FJ l k n m))))
theorem AEv(z b g h j:Int)(c1:(h==0)=false)(s:(j==0)=false)(k:E (b<0)=false)(m:E (g<0)=false)(l:T 33 [A4 t f,A4 p c] (J X b))(n:T 33 [A4 q d,A4 r e] (J X g))(u:T 33 [A4 r e,A4 t f] (J X h))(v:T 33 [A4 p c,A4 q d] (J X j))(w:Z JA (Gr o fs r e t f a p c q d i) .ret (Gr z fs r e t f a p c q d i)):Z J1 (PC o fs r e t f a p c q d i) .ret (PC z fs r e t f a p c q d i):=AG (BT (Ag (Ab Ci [.r (J X b),bF,.r (J X g),bF,.r (J X h),bF,.r (J X j),bF] JO (Ip l k n m u c1 v s)) (AG w)))
theorem A7f(z b g h j:Int)(c1:(h==0)=false)(s:(j==0)=false)(k:E (b<0)=false)(m:E (g<0)=false)(l:T 33 [A4 t f,A4 p c] (J X b))(n:T 33 [A4 q d,A4 r e] (J X g))(u:T 33 [A4 r e,A4 t f] (J X h))(v:T 33 [A4 p c,A4 q d] (J X j))(w:Z JA (Gr o fs r e t f a p c q d i) .norm (Gr o fs r e t f a p c q d i))(K:Z Pe (LB o fs r e t f a p c q d i) .ret (LB z fs r e t f a p c q d i)):Z J1 (PC o fs r e t f a p c q d i) .ret (PC z fs r e t f a p c q d i):=AG (BT (Ag (Ab Ci [.r (J X b),bF,.r (J X g),bF,.r (J X h),bF,.r (J X j),bF] JO (Ip l k n m u c1 v s)) (Ag w (AG K))))
theorem A7g(b g h j:Int)(x y:D)(A B C F:Rn)(G H I h1:Int)(c1:(h==0)=false)(s:(j==0)=false)(k:E (b<0)=false)(m:E (g<0)=false)(l:T 33 [A4 t f,A4 p c] (J X b))(n:T 33 [A4 q d,A4 r e] (J X g))(u:T 33 [A4 r e,A4 t f] (J X h))(v:T 33 [A4 p c,A4 q d] (J X j))(w:Z JA (Gr o fs r e t f a p c q d i) .norm (Gr o fs r e t f a p c q d i))(K:Z Pe (LB o fs r e t f a p c q d i) .norm (LB o fs r e t f a p c q d i))(M:T 72 [Bh fs r e t f] (Bh x A G B H))(O:T 72 [Bh a p c q d] (Bh y C I F h1)):Z J1 (PC o fs r e t f a p c q d i) .norm (PC o x A G B H y C I F h1 (Q X (i+1))):=Ag (Bo (Ag (Ab Ci [.r (J X b),bF,.r (J X g),bF,.r (J X h),bF,.r (J X j),bF] JO (Ip l k n m u c1 v s)) (Ag w (Ag K (Ab (t:=L 2 (GW x A G B H::GW y C I F h1::N o::N i::L 81 [])) Ci [.r (Bh x A G B H),.r (Bh y C I F h1)] JO (DH M O)))))) (Ab Ci [] JO a0)
end
theorem AEw(fs:D)(r t:Rn)(e f:Int)(a:D)(p q:Rn)(c d z i:Int)(b g:D)(h j k l:Rn)(m n o h1:Int)(s:Z (.loop J1) (PC 0 fs r e t f a p c q d 0) .ret (PC z b h m j n g k o l h1 i)):T 19 [Bh fs r e t f,Bh a p c q d] (J X z):=CQ sB (L 2 (GW b h m j n::GW g k o l h1::N z::N i::L 81 [])) (As (Ag (Ab Ci [] JO a0) (BT s)))
def LY:ICode:=a Z9 94 63
section
variable(o:Bool)(fs:D)(r:Rn)(e:Int)(t:Rn)(f:Int)(h:D)(p:Rn)(c:Int)(q:Rn)(d:Int)(u:Rn)(a:Int)(w:Rn)(b:Int)
def Gf:Az:=L 2 (GW fs r e t f::GW h p c q d::C (W o)::AH [W u.1,P (F u.2) (A u.2),J X a]::AH [W w.1,P (F w.2) (A w.2),J X b]::L 54 [])
theorem Asv(g:Int)(c1:E (g>=0)=true)(i:T 55 [A4 u a,A4 w b] (J X g)):Z LY (Gf o fs r e t f h p c q d u a w b) .ret (Gf false fs r e t f h p c q d u a w b):=Ab Ci [.r (J X g),bT] Pw (DH i c1)
theorem Asw(hs:D)(g x:Int)(c1:E (g>=0)=false)(j:E ((F hs:Int)>1)=true)(i:T 55 [A4 u a,A4 w b] (J X g))(k:T 135 [sL S fs,sL S h] (sL S hs))(l:T 136 [sL S hs,A4 u a,A4 w b] (J X x)):Z LY (Gf o fs r e t f h p c q d u a w b) .ret (Gf (E (x>0)) fs r e t f h p c q d u a w b):=Ab Ci [.r (J X g),bF,.r (sL S hs),bT,.r (J X x)] Pw (Ff i c1 k j l)
theorem Asx(hs:D)(g:Int)(c1:E (g>=0)=false)(j:E ((F hs:Int)>1)=false)(i:T 55 [A4 u a,A4 w b] (J X g))(k:T 135 [sL S fs,sL S h] (sL S hs)):Z LY (Gf o fs r e t f h p c q d u a w b) .ret (Gf false fs r e t f h p c q d u a w b):=Ab Ci [.r (J X g),bF,.r (sL S hs),bF] Pw (FJ i c1 k j)
theorem Agl(hs:D)(g x:Int)(c1:E (g>=0)=false)(j:E ((F hs:Int)>1)=true)(i:T 55 [A4 u a,A4 w b] (J X g))(k:T 135 [sL S fs,sL S h] (Ae 2 (F hs) (S hs)))(l:T 136 [sL S hs,A4 u a,A4 w b] (J X x)):Z LY (Gf o fs r e t f h p c q d u a w b) .ret (Gf (E (x>0)) fs r e t f h p c q d u a w b):=Ab Ci [.r (J X g),bF,.r (Ae 2 (F hs) (S hs)),bT,.r (J X x)] Pw (Ff i c1 k j l)
theorem Agm(hs:D)(g:Int)(c1:E (g>=0)=false)(j:E ((F hs:Int)>1)=false)(i:T 55 [A4 u a,A4 w b] (J X g))(k:T 135 [sL S fs,sL S h] (Ae 2 (F hs) (S hs))):Z LY (Gf o fs r e t f h p c q d u a w b) .ret (Gf false fs r e t f h p c q d u a w b):=Ab Ci [.r (J X g),bF,.r (Ae 2 (F hs) (S hs)),bF] Pw (FJ i c1 k j)
end
def VZ:ICode:=a Z9 96 15
section
variable(o:Bool)(fs:D)(r:Rn)(e:Int)(t:Rn)(f:Int)(g:D)(p:Rn)(c:Int)(q:Rn)(d:Int)(u:Rn)(a:Int)(w:Rn)(b:Int)
def LZ:Az:=L 2 (GW fs r e t f::GW g p c q d::C (W o)::AH [W u.1,P (F u.2) (A u.2),J X a]::AH [W w.1,P (F w.2) (A w.2),J X b]::L 54 [])
theorem Asy(z:Bool)(h i:Int)(c1:E (h>0)=true)(j:E (i<0)=true)(k:T 55 [A4 p c,A4 u a] (J X h))(l:T 55 [A4 q d,A4 w b] (J X i))(m:Z LY (Gf o fs r e t f g p c q d p c q d) .ret (Gf z fs r e t f g p c q d p c q d)):Z VZ (LZ o fs r e t f g p c q d u a w b) .ret (LZ z fs r e t f g p c q d p c q d):=As (Ag (Ab Ci [.r (J X h),bT,.r (J X i),bT] Pw (FJ k c1 l j)) m)
theorem Asz(z:Bool)(h i:Int)(c1:E (h>0)=true)(j:E (i<0)=false)(k:T 55 [A4 p c,A4 u a] (J X h))(l:T 55 [A4 q d,A4 w b] (J X i))(m:Z LY (Gf o fs r e t f g p c q d p c w b) .ret (Gf z fs r e t f g p c q d p c w b)):Z VZ (LZ o fs r e t f g p c q d u a w b) .ret (LZ z fs r e t f g p c q d p c w b):=As (Ag (Ab Ci [.r (J X h),bT,.r (J X i),bF] Pw (FJ k c1 l j)) m)
theorem Ata(z:Bool)(h i:Int)(c1:E (h>0)=false)(j:E (i<0)=true)(k:T 55 [A4 p c,A4 u a] (J X h))(l:T 55 [A4 q d,A4 w b] (J X i))(m:Z LY (Gf o fs r e t f g p c q d u a q d) .ret (Gf z fs r e t f g p c q d u a q d)):Z VZ (LZ o fs r e t f g p c q d u a w b) .ret (LZ z fs r e t f g p c q d u a q d):=As (Ag (Ab Ci [.r (J X h),bF,.r (J X i),bT] Pw (FJ k c1 l j)) m)
theorem Atb(z:Bool)(h i:Int)(c1:E (h>0)=false)(j:E (i<0)=false)(k:T 55 [A4 p c,A4 u a] (J X h))(l:T 55 [A4 q d,A4 w b] (J X i))(m:Z LY (Gf o fs r e t f g p c q d u a w b) .ret (Gf z fs r e t f g p c q d u a w b)):Z VZ (LZ o fs r e t f g p c q d u a w b) .ret (LZ z fs r e t f g p c q d u a w b):=As (Ag (Ab Ci [.r (J X h),bF,.r (J X i),bF] Pw (FJ k c1 l j)) m)
end
theorem Tq(fs:D)(r t:Rn)(e f:Int)(g:D)(p q:Rn)(c d:Int)(z h i:Bool)(u w:Rn)(a b:Int)(c1:h=false)(j:i=false)(k:T 125 [Bh fs r e t f] (W h))(l:T 125 [Bh g p c q d] (W i))(m:Z VZ (LZ false fs r e t f g p c q d r e t f) .ret (LZ z fs r e t f g p c q d u a w b)):T 124 [Bh fs r e t f,Bh g p c q d] (W z):=CQ Z9 (L 2 (GW fs r e t f::GW g p c q d::C (W z)::AH [W u.1,P (F u.2) (A u.2),J X a]::AH [W w.1,P (F w.2) (A w.2),J X b]::L 54 [])) (As (As (Ag (Ab Ci [.r (W h),bF,.r (W i),bF] Pw (FJ k c1 l j)) m)))
def AHf:Dd:=AHe
theorem h:CT DP AHf:=Ci
def stpN(p:G)(x:Iv):Nat->Iv
 | 0=>x
 | n+1=>Jb p (stpN p x n)
theorem JQ{p:G}{a m:Nat}{x:Iv}(h:IvOk a m x):∀ n,a+m+n<8000->IvOk a (m+n) (stpN p x n)
 | 0,_=>h
 | n+1,hc=>Aky (m:=m+n) (JQ h n (by omega)) (by omega)
theorem Yv:∀ (f:Nat) (a b:G),EV f a b=Jm f a b
 | 0,_,_=>rfl
 | f+1,a,b=>by simp only[EV,Jm];rw[Yv f]
theorem QB(p:G):Cq p=D2 p:=by unfold Cq D2;rw [Yv]
theorem AJc(l:List (G))(a:Int)(e i:Nat):K5 l a e i=CM (Hh (H l i []) a (2^e)):=by
 unfold K5 Hh;rw[nV];rfl
theorem Atc(l:List (G))(a:Int)(e:Nat):∀ i,i<=F l->(CU l a e i).1+wv (CU l a e i).2 (EH (l.drop i) a (2^e))=wv 0 (EH l a (2^e)):=by
 intro i;induction i with
 | zero=>intro _;simp[CU]
 | succ i d =>
  intro hi;rw[<- d (by omega)];rw[BL (show i<F l by omega)];have f:H l i []=l[i]:=by rw[Ad,Am (by omega)];rfl
  have hs:=AJc l a e i;rw[f] at hs;show (UG (CU l a e i) (K5 l a e i)).1+wv (UG (CU l a e i) (K5 l a e i)).2 _=(CU l a e i).1+wv (CU l a e i).2 (CM (Hh l[i] a (2^e))::_);rw[<- hs];generalize CU l a e i=x;generalize K5 l a e i=s;obtain⟨n,c⟩:=x;simp only[UG,wv];by_cases b:s=0
  ·rw[Aw (fun h=>h.1 b),Aw (fun h=>h b),Ar b];rfl
  ·rw[Aw b,Ar b];by_cases h1:c ≠ 0/\s ≠ c
   ·rw[Ar ⟨b,h1⟩,Ar h1];show n+1+wv s (EH (l.drop (i+1)) a (2^e))=n+(1+wv s (EH (l.drop (i+1)) a (2^e)));omega
   ·rw[Aw (fun h=>h1 h.2),Aw h1];show n+wv s (EH (l.drop (i+1)) a (2^e))=n+(0+wv s (EH (l.drop (i+1)) a (2^e)));omega
def Vd(p:G)(x:Int)(a:Nat):Int:=(CU (Cq p) x a (F (Cq p))).1
theorem I8(p:G)(x:Int)(a:Nat):Vd p x a=wv 0 (EH (D2 p) x (2^a)):=by
 have h:=Atc (Cq p) x a (F (Cq p)) (A2 _);rw[DD,QB] at h;unfold Vd;rw[QB];have:wv (CU (D2 p) x a (F (D2 p))).2 (EH [] x (2^a))=0:=rfl;omega
theorem Bz(n:Nat):(0:Int)<2^n:=FP (by decide)
theorem I2(p:G)(x:Int)(a c:Nat):Vd p (x*2^c) (a+c)=Vd p x a:=by
 rw[I8,I8,AT x,show (2:Int)^(a+c)=2^c*2^a by rw[Cc,AT],Km _ _ _ _ (Bz c)]
section
variable{p:G}{x y:Int}{a b:Nat}
theorem JB(h:x*2^b<=y*2^a):Vd p y b<=Vd p x a:=by
 rw[<- I2 p x a b,<- I2 p y b a,H0 b a,I8,I8];exact Mo p (Bz _) h
theorem wS(h:x*2^b=y*2^a):Vd p x a=Vd p y b :=
 Int.le_antisymm (JB (JG h.symm)) (JB (JG h))
end
theorem MZ(p:G)(x:Int)(a:Nat):Dl p x a=CM (Hh p x (2^a)):=by unfold Dl Hh;rw [nV];rfl
theorem Jc(p:G)(x:Int)(a c:Nat):Dl p (x*2^c) (a+c)=Dl p x a:=Xo (by rw [Cc];grind)
theorem Xr{p:G}(h:F (O p)<2)(x y:Int)(a b:Nat):Vd p x a=Vd p y b:=by
 have e:∀ x a,Vd p x a=0:=by
  intro x a;rw[I8];unfold D2;by_cases c:O p=[]
  ·rw[Ar c];rfl
  ·rw[Aw c];have hz:prim (AE (O p))=[]:=by
    rw[EM];intro i;rw[Ej,Cp (by omega),Cs]
   have d:F (O p)=1:=by have:=Av.2 c;omega
   have e:Jm (F (O p)) (O p) (prim (AE (O p)))=[]:=by rw[d,hz];rfl
   rw[e];show wv 0 [_]=0;simp only[wv];split
   ·rfl
   ·rw[Aw (fun h=>h.1 rfl)];rfl
 rw[e,e]
theorem half{p:G}{x m y:Int}{a c b:Nat}(h1:x*2^c<m*2^a)(h2:m*2^b<y*2^c)(t:Vd p x a-Vd p y b=1) :
  (Dl (O p) m c=0->Vd p m c=Vd p y b)/\(Dl (O p) m c ≠ 0->Dl (O p) y b=0->Vd p m c=Vd p y b+1) /\
  (Dl (O p) m c ≠ 0->Dl (O p) y b ≠ 0->(Dl (O p) m c=Dl (O p) y b↔Vd p m c=Vd p y b)):=by
 have d:2<=F (O p):=by
  apply A6;intro g;have:=Xr (p:=p) (by omega) x y a b;omega
 have hp:Af p ≠ []:=by
  intro h;have hz:prim p=[]:=by rw[EM,<- DY];exact h
  have u:O p=[]:=by unfold O;rw[hz];rfl
  rw[u] at d;simp at d
 have n:=I2 p x a (c+b);have o:=I2 p m c (a+b);have e:=I2 p y b (a+c);have f:=Jc (O p) m c (a+b);have i:=Jc (O p) y b (a+c);rw[show a+(c+b)=a+b+c by omega,I8] at n;rw[show c+(a+b)=a+b+c by omega,I8] at o;rw[show b+(a+c)=a+b+c by omega,I8] at e;rw[show c+(a+b)=a+b+c by omega,MZ] at f;rw[show b+(a+c)=a+b+c by omega,MZ] at i;have v:x*2^(c+b)<m*2^(a+b):=by
  have:=BG h1 (Bz b);rw[Cc,Cc,<- Bm,<- Bm];exact this
 have w:m*2^(a+b)<y*2^(a+c):=by
  have:=BG h2 (Bz a);rw[Cc,Cc,AT (2^a) (2^b),AT (2^a) (2^c),<- Bm,<- Bm];exact this
 obtain⟨q,r,j⟩:=tP p hp d (Bz (a+b+c)) v w (by rw[n,e];exact t);rw[o,e] at q r j;rw[f,i] at j;have k:Hh (O p) (m*2^(a+b)) (2^(a+b+c))=0↔Dl (O p) m c=0:=by rw[<- f,DB]
 have s:Hh (O p) (y*2^(a+c)) (2^(a+b+c))=0↔Dl (O p) y b=0:=by rw[<- i,DB]
 exact⟨fun h=>q (k.2 h),fun h l=>r (fun g=>h (k.1 g)) (s.2 l),fun h l=>j (fun g=>h (k.1 g)) (fun g=>l (s.1 g))⟩
section
variable{x y:Int}{a b:Nat}
theorem Ii(h:x*2^b<y*2^a):x*2^KU x a y b<Rf x a y b*2^a/\Rf x a y b*2^b<y*2^KU x a y b:=by
 have hz:=Sy (max a b+1) (KT x a y b);obtain⟨f,d⟩:=Nz (max a b+1) (KT x a y b);have p:KT x a y b=x*2^(max a b-a)+y*2^(max a b-b):=rfl;unfold Rf KU;generalize KT x a y b=g at *
 generalize EJ g (max a b+1)=z at *
 have q:=Bz z;have e:g / 2^z=f:=by rw[d];exact CL _ (by omega)
 rw[e];obtain⟨k,C⟩:∃ k,max a b+1=z+k:=⟨max a b+1-z,by omega⟩;rw[show max a b+1-z=k by omega];have r:(2:Int)^z*2^k=2*2^max a b:=by rw[<- Cc,<- C,AD,AT]
 have j:(2:Int)^max a b=2^(max a b-a)*2^a:=by rw[<- Cc];congr 1;omega
 have s:(2:Int)^max a b=2^(max a b-b)*2^b:=by rw[<- Cc];congr 1;omega
 have t:=Bz (max a b-a);have D:=Bz (max a b-b);have w:=Bz a;have E:=Bz b;have pk:=Bz k;generalize (2:Int)^max a b=M at *
 generalize (2:Int)^(max a b-a)=u at *
 generalize (2:Int)^(max a b-b)=v at *
 generalize (2:Int)^a=A at *
 generalize (2:Int)^b=c at *
 generalize (2:Int)^z=i at *
 generalize (2:Int)^k=K at *
 have H:x*u<y*v:=by
  have B:x*c*(u*v)<y*A*(u*v):=BG h (Br t D);have F:x*c*(u*v)=x*u*M:=by rw[s];grind
  have G:y*A*(u*v)=y*v*M:=by rw[j];grind
  rw[F,G] at B;exact CY B (by rw[j];exact A9 (Br t w))
 constructor
 ·have l:i*(x*K)<i*(f*A):=by
   have m:i*(x*K)=x*u*(2*A):=by
    have:i*(x*K)=x*(i*K):=by grind
    rw[this,r,j];grind
   have n:i*(f*A)=(x*u+y*v)*A:=by rw[<- p,d];grind
   have o:=BG (show x*u+x*u<x*u+y*v by omega) w;rw[m,n];have:x*u*(2*A)=(x*u+x*u)*A:=by grind
   rw[this];exact o
  exact G9 l (A9 q)
 ·have l:i*(f*c)<i*(y*K):=by
   have m:i*(y*K)=y*v*(2*c):=by
    have:i*(y*K)=y*(i*K):=by grind
    rw[this,r,s];grind
   have n:i*(f*c)=(x*u+y*v)*c:=by rw[<- p,d];grind
   have o:=BG (show x*u+y*v<y*v+y*v by omega) E;rw[m,n];have:y*v*(2*c)=(y*v+y*v)*c:=by grind
   rw[this];exact o
  exact G9 l (A9 q)
theorem Fe:BS x a y b = -1↔x*2^b<y*2^a:=by unfold BS DE; (repeat' split) <;> omega
theorem A7h:BS x a y b=0↔x*2^b=y*2^a:=by unfold BS DE; (repeat' split) <;> omega
theorem KV:BS x a y b=1↔y*2^a<x*2^b:=by unfold BS DE; (repeat' split) <;> omega
end
structure One (p:List Int) (x:Iv):Prop where
 lt:B x.r*2^x.b<B x.t*2^x.a
 v:Vd p (B x.r) x.a-Vd p (B x.t) x.b=1
theorem wT{p:G}{x:Iv}(h:One p x){m:Int}{c:Nat}(h1:B x.r*2^c<m*2^x.a)(h2:m*2^x.b<B x.t*2^c) :
  (F_ (O p) (B x.r) x.a (B x.t) x.b m c<=0↔Vd p m c=Vd p (B x.t) x.b)/\(¬ F_ (O p) (B x.r) x.a (B x.t) x.b m c<=0↔Vd p m c=Vd p (B x.t) x.b+1):=by
 obtain⟨i,j,k⟩:=half h1 h2 h.v;have m1:Vd p m c<=Vd p (B x.r) x.a:=JB (A9 h1);have o:Vd p (B x.t) x.b<=Vd p m c:=JB (A9 h2);have hv:=h.v;have l:¬ BS m c (B x.r) x.a<=0:=by
  rw[KV.2 h1];decide
 have n:¬ BS m c (B x.t) x.b>0:=by
  rw[Fe.2 h2];decide
 have f:F_ (O p) (B x.r) x.a (B x.t) x.b m c<=0↔Vd p m c=Vd p (B x.t) x.b:=by
  unfold F_;rw[Aw l,Aw n];by_cases c1:Dl (O p) m c=0
  ·rw[Ar c1];exact⟨fun _=>i c1,fun _=>DO _⟩
  ·rw[Aw c1];by_cases e:Dl (O p) (B x.t) x.b=0
   ·have:=j c1 e;rw[Aw (by rw[e];exact c1)];constructor <;> intro g <;> omega
   ·have:=k c1 e;by_cases d:Dl (O p) m c=Dl (O p) (B x.t) x.b
    ·rw[Ar d];exact⟨fun _=>this.1 d,fun _=>by decide⟩
    ·rw[Aw d];exact⟨fun g=>absurd g (by decide),fun g=>absurd (this.2 g) d⟩
 refine⟨f,?_⟩;rw[f];omega
theorem One.half{p:G}{x:Iv}(h:One p x):One p (Jb (O p) x):=by
 obtain⟨c,d⟩:=Ii h.lt;have f:BS (B x.r) x.a (B x.t) x.b ≠ 0:=by rw[Fe.2 h.lt];decide
 obtain⟨i,j⟩:=wT h c d;have hv:=h.v;unfold Jb;rw[Aw f];split
 ·rename_i g;have e:=i.1 g;refine⟨?_,?_⟩
  ·show B x.r*2^x.me<B (V x.mn)*2^x.a;rw[AO];exact c
  ·show Vd p (B x.r) x.a-Vd p (B (V x.mn)) x.me=1;rw[AO];have:Vd p x.mn x.me=Vd p (B x.t) x.b:=e;omega
 ·rename_i g;have e:=j.1 g;refine⟨?_,?_⟩
  ·show B (V x.mn)*2^x.b<B x.t*2^x.me;rw[AO];exact d
  ·show Vd p (B (V x.mn)) x.me-Vd p (B x.t) x.b=1;rw[AO];have:Vd p x.mn x.me=Vd p (B x.t) x.b+1:=e;omega
theorem One.halves{p:G}{x:Iv}(h:One p x):∀ n,One p (stpN (O p) x n)
 | 0=>h
 | n+1=>(One.halves h n).half
def sc(x:Int)(a k:Nat):Int:=x*2^k / 2^a
def Iv.lo(x:Iv)(k:Nat):Int:=sc (B x.r) x.a k
def Iv.hi(x:Iv)(k:Nat):Int:=sc (B x.t) x.b k
section
variable {p q:G} (hp:VY p) (hq:VY q) {C m:Nat} {x y:Iv} (hx:IvOk C m x) (hy:IvOk C m y)
include hp hq hx hy
omit hp hq in
theorem PD(hm:m<=8192):T 55 [A4 x.t (x.b:Nat),A4 y.r (y.a:Nat)] (.int .i64 (BS (B x.t) x.b (B y.r) y.a))/\T 55 [A4 y.t (y.b:Nat),A4 x.r (x.a:Nat)] (.int .i64 (BS (B y.t) y.b (B x.r) x.a)):=by
 obtain⟨gr,gt,ha,hb,_,_⟩:=hx
 obtain⟨gr',gt',ha',hb',_,_⟩:=hy
 exact⟨L9 (gt.mono (by omega)) (gr'.mono (by omega)) (by omega) (by omega),L9 (gt'.mono (by omega)) (gr.mono (by omega)) (by omega) (by omega)⟩
end
structure Apart (p q:List Int) (x y:Iv) (n:Nat) (z:Int):Prop where
 no:∀ i,i<n->¬ BS (B (stpN p x i).t) (stpN p x i).b (B (stpN q y i).r) (stpN q y i).a<=0/\¬ BS (B (stpN q y i).t) (stpN q y i).b (B (stpN p x i).r) (stpN p x i).a<=0
 yes:(z = -1/\BS (B (stpN p x n).t) (stpN p x n).b (B (stpN q y n).r) (stpN q y n).a<=0)\/(z=1/\¬ BS (B (stpN p x n).t) (stpN p x n).b (B (stpN q y n).r) (stpN q y n).a<=0/\BS (B (stpN q y n).t) (stpN q y n).b (B (stpN p x n).r) (stpN p x n).a<=0)
section
variable {p q:G} (hp:VY p) (hq:VY q) {C m:Nat} {x y:Iv} (hx:IvOk C m x) (hy:IvOk C m y)
include hp hq hx hy
theorem Atd{n:Nat}{z:Int}(k:C+m+n+1<8000)(h:Apart p q x y n z) :
  Z (.loop kD) (S0 0 (p.map V) x.r (x.a:Nat) x.t (x.b:Nat) (q.map V) y.r (y.a:Nat) y.t (y.b:Nat)) .ret
   (S0 z (p.map V) (stpN p x n).r ((stpN p x n).a:Nat) (stpN p x n).t ((stpN p x n).b:Nat) (q.map V) (stpN q y n).r ((stpN q y n).a:Nat) (stpN q y n).t ((stpN q y n).b:Nat)):=by
 refine Hl (prog:=DP) (c:=kD) (ex := .ret) (fun i=>S0 0 (p.map V) (stpN p x i).r ((stpN p x i).a:Nat) (stpN p x i).t ((stpN p x i).b:Nat) (q.map V) (stpN q y i).r ((stpN q y i).a:Nat) (stpN q y i).t ((stpN q y i).b:Nat)) n (by nofun) ?_ 0 (A_ _) ?_
 ·obtain⟨c1,c2⟩:=PD (JQ (p:=p) hx n (by omega)) (JQ (p:=q) hy n (by omega)) (by omega);rcases h.yes with ⟨rfl,d⟩ | ⟨rfl,d,e⟩
  ·exact AEq 0 _ _ _ _ _ _ _ _ _ _ _ (BP d) c1
  ·exact AEr 0 _ _ _ _ _ _ _ _ _ _ _ _ (Bw d) (BP e) c1 c2
 ·intro t _ f;obtain⟨c1,c2⟩:=PD (JQ (p:=p) hx t (by omega)) (JQ (p:=q) hy t (by omega)) (by omega);obtain⟨g,j⟩:=h.no t f;exact AEs 0 _ _ _ _ _ _ _ _ _ _ _ _ _ _ _ _ _ _ _ _ _ _ (Bw g) (Bw j) c1 c2 (Xq hp (JQ (p:=p) hx t (by omega)) (by omega)) (Xq hq (JQ (p:=q) hy t (by omega)) (by omega))
theorem cE{n:Nat}{z:Int}(c:C+m+n+1<8000)(h1:¬ BS (B x.t) x.b (B y.r) y.a<0)(h2:¬ BS (B y.t) y.b (B x.r) x.a<0)(he:T 124 [x.av p,y.av q] (W false))(h:Apart p q x y n z):T 74 [x.av p,y.av q] (J X z):=by
 obtain⟨c1,c2⟩:=PD hx hy (by omega);exact Ash _ x.r x.t _ _ _ y.r y.t _ _ _ _ _ false _ _ _ _ _ _ _ _ _ _ (Bw h1) (Bw h2) rfl c1 c2 he (Atd hp hq hx hy c h)
omit hp hq in
theorem A7i(hm:m<=8192)(h1:¬ BS (B x.t) x.b (B y.r) y.a<0)(h2:¬ BS (B y.t) y.b (B x.r) x.a<0)(he:T 124 [x.av p,y.av q] (.bool true)):T 74 [x.av p,y.av q] (.int .i64 0):=by
 obtain⟨c1,c2⟩:=PD hx hy hm
 exact Asg _ x.r x.t _ _ _ y.r y.t _ _ _ _ true (Bw h1) (Bw h2) rfl c1 c2 he
end
theorem cF{rs:D}(c:∀ r∈rs,BC 5 r)(hn:F rs<=9){r t:Rn}(hr:BC 300 r)(d:BC 300 t){a b:Nat}(ha:a<=8192)(hb:b<=8192) :
  T 136 [sL S rs,A4 r (a:Nat),A4 t (b:Nat)] (J X (AHc (Al rs) (B r) a (B t) b)):=by
 have e:=Yq c hn;have hnice:=MY c hn;have hlen:=K4 c hn;have f:=KS hnice hr a (by omega) (by omega);have g:=KS hnice d b (by omega) (by omega);have k:=A7a rs _ r t (a:Nat) (b:Nat) _ _ e f g;rw[Yu (by omega)] at k;exact k
def Iv.d(p:G)(x:Iv):Int:=Vd p (B x.r) x.a-Vd p (B x.t) x.b
def Iv.lf(x:Iv):Iv:=⟨x.r,x.a,V x.mn,x.me⟩
def Iv.rg(x:Iv):Iv:=⟨V x.mn,x.me,x.t,x.b⟩
def F3(p:G):Nat->Iv->List Iv
 | 0,x=>if x.d p=0 then [] else [x]
 | n+1,x=>if x.d p=0 then [] else if x.d p=1 then [x] else F3 p n x.lf++F3 p n x.rg
def Deep(p:G)(E:Nat):Nat->Iv->Prop
 | 0,x=>x.d p=0\/x.d p=1
 | n+1,x=>x.d p=0\/x.d p=1\/(x.me<=E/\Deep p E n x.lf/\Deep p E n x.rg)
def Iv.rt(p:G)(x:Iv):Rt:=⟨p.map V,x.r,(x.a:Nat),x.t,(x.b:Nat)⟩
theorem Agn{C m:Nat}{x:Iv}(h:IvOk C m x)(e:C+m+1<8000):IvOk C (m+1) x.lf/\IvOk C (m+1) x.rg/\BC 300 (V x.mn)/\x.me<=m+1:=by
 obtain⟨gr,gt,ha,hb,vr,vt⟩:=h;have f:x.me<=max x.a x.b+1:=OJ;have c:I x.mn<=2^C*2^x.me:=Tp vr vt;have d:BC 300 (V x.mn):=BB (C8 (k:=C+x.me) (by rw[Dw];exact c) (by omega));refine⟨⟨gr,d,by show x.a<=_;omega,by show x.me<=_;omega,vr,by show I (B (V x.mn))<=_;rw[AO];exact c⟩,⟨d,gt,by show x.me<=_;omega,by show x.b<=_;omega,by show I (B (V x.mn))<=_;rw[AO];exact c,vt⟩,d,by omega⟩
theorem Pf{p:G}(b:F (Cq p)<=10)(x:Int)(a:Nat):0<=Vd p x a/\Vd p x a<=10:=by
 have:=Ny (Cq p) x a (F (Cq p));unfold Vd;omega
section
variable {p:G} (hnice:∀ q∈Cq p,wH q) (hlen:F (Cq p)<=10) (h1:0<F (Cq p)) (hfr:H (Cq p) 0 []=O p) {E:Nat} (hE:E<=1073741824)
include hnice hlen h1 hfr hE
theorem Ago:∀ (n:Nat) (x:Iv) (C m:Nat),IvOk C m x->C+m+n+1<8000->Deep p E n x->F (F3 p n x)<=1000*1000 ->
  T 105 [sL pp (s (Cq p)),A4 x.r (x.a:Nat),A4 x.t (x.b:Nat),J X (Vd p (B x.r) x.a),J X (Vd p (B x.t) x.b),J X (E:Nat)]
   (.frs (.tp true) 7 (F (F3 p n x)) (C2 ((F3 p n x).map (Iv.rt (O p))))):=by
 intro n;induction n with
 | zero =>
  intro x C m hx j hd _;have l:=Pf hlen (B x.r) x.a;have o:=Pf hlen (B x.t) x.b;have c:Q X (Vd p (B x.r) x.a-Vd p (B x.t) x.b)=Iv.d p x:=By (by omega) (by omega);simp only[F3];rcases hd with hd | hd
  ·rw[Ar hd];exact cC _ x.r x.t _ _ _ _ _ (by rw[c,hd];rfl)
  ·rw[Aw (by omega)];have k:=cD (s (Cq p)) x.r x.t (x.a:Nat) (x.b:Nat) _ _ (E:Nat) (by rw[c,hd];rfl) (by rw[c,hd];rfl) (by rw[Ee];omega);rw[show Y 0=0 from rfl,L8 h1,hfr] at k;exact k
 | succ n f =>
  intro x C m hx j hd e;have l:=Pf hlen (B x.r) x.a;have o:=Pf hlen (B x.t) x.b;have c:Q X (Vd p (B x.r) x.a-Vd p (B x.t) x.b)=Iv.d p x:=By (by omega) (by omega);simp only[F3] at e |-;by_cases c0:x.d p=0
  ·rw[Ar c0];exact cC _ x.r x.t _ _ _ _ _ (by rw[c,c0];rfl)
  ·rw[Aw c0] at e |-;by_cases c1:x.d p=1
   ·rw[Ar c1];have k:=cD (s (Cq p)) x.r x.t (x.a:Nat) (x.b:Nat) _ _ (E:Nat) (by rw[c,c1];rfl) (by rw[c,c1];rfl) (by rw[Ee];omega);rw[show Y 0=0 from rfl,L8 h1,hfr] at k;exact k
   ·rw[Aw c1] at e |-;rcases hd with hd | hd | ⟨A,q,u⟩
    ·exact absurd hd c0
    ·exact absurd hd c1
    ·obtain⟨o1,v,w,D⟩:=Agn hx (by omega);obtain⟨gr,gt,ha,hb,vr,vt⟩:=hx;rw[B0] at e;have g:=f x.lf C (m+1) o1 (by omega) q (by omega);have h:=f x.rg C (m+1) v (by omega) u (by omega);have hm:=Q8 (gr.mono (show 300<=600 by omega)) (gt.mono (show 300<=600 by omega)) (a:=x.a) (b:=x.b) (by omega) (by omega);have hv:=KS hnice w x.me (by omega) (by omega);rw[AO] at hv;have i:Vd p (B (V x.mn)) x.me=Vd p x.mn x.me:=by rw[AO]
     have y:(x.lf).t=V x.mn:=rfl;have z:(x.rg).r=V x.mn:=rfl;rw[y,show x.lf.b=x.me from rfl,show x.lf.r=x.r from rfl,show x.lf.a=x.a from rfl,i] at g;rw[z,show x.rg.a=x.me from rfl,show x.rg.t=x.t from rfl,show x.rg.b=x.b from rfl,i] at h;have k:=Agk (s (Cq p)) x.r x.t (x.a:Nat) (x.b:Nat) _ _ (E:Nat) x.mn (x.me:Nat) _ true true _ _ _ _ (by rw[c,C3];exact c0) (by rw[c,C3];exact c1) (by rw[AW];omega) rfl (by rw[FA,Ac]) (by omega) hm hv g h;rw[B0,D_,K0];exact k
end
theorem cH{p:G}{c:Nat}:∀ (n:Nat) (x:Iv) (m:Nat),IvOk c m x->c+m+n+1<8000->∀ y∈F3 p n x,IvOk c (m+n) y:=by
 intro n;induction n with
 | zero =>
  intro x m hx _ y hy;simp only[F3] at hy;split at hy
  ·cases hy
  ·rcases BW.1 hy with rfl | hy
   ·exact hx
   ·cases hy
 | succ n d =>
  intro x m hx f y hy;have up:IvOk c (m+(n+1)) x:=⟨hx.gr,hx.gt,by have:=hx.a;omega,by have:=hx.b;omega,hx.vr,hx.vt⟩;simp only[F3] at hy;split at hy
  ·cases hy
  ·split at hy
   ·rcases BW.1 hy with rfl | hy
    ·exact up
    ·cases hy
   ·obtain⟨o1,e,_,_⟩:=Agn hx (by omega);rcases BD.1 hy with hy | hy
    ·have:=d x.lf (m+1) o1 (by omega) y hy;rwa [show m+1+n=m+(n+1) by omega] at this
    ·have:=d x.rg (m+1) e (by omega) y hy;rwa [show m+1+n=m+(n+1) by omega] at this
def KW(p:G)(n:Nat)(x:Iv):List Iv:=if F (Cq p)<2 then [] else F3 p n x
theorem V_{p:G}(h:0<F (Cq p)):H (Cq p) 0 []=O p:=by
 unfold Cq at h |-;split at h
 ·simp at h
 next g=>rw[Aw g];rfl
section
variable {rs:D} (hg:∀ r∈rs,BC 5 r) (hn:F rs<=9)
include hg hn
theorem Ate{n:Nat}{x:Iv}{C m:Nat}(hx:IvOk C m x)(f:C+m+n+1<8000){E:Nat}(g:E<=1073741824)(hd:Deep (Al rs) E n x)(h:F (F3 (Al rs) n x)<=1000*1000) :
  T 56 [sL S rs,A4 x.r (x.a:Nat),A4 x.t (x.b:Nat),J X (E:Nat)] (.frs (.tp true) 7 (F ((KW (Al rs) n x).map (Iv.rt (O (Al rs))))) (C2 ((KW (Al rs) n x).map (Iv.rt (O (Al rs)))))) \/
  T 56 [sL S rs,A4 x.r (x.a:Nat),A4 x.t (x.b:Nat),J X (E:Nat)] (A3 [sL C2 ((KW (Al rs) n x).map (Iv.rt (O (Al rs)))),W true]):=by
 have e:=Yq hg hn;have d:=MY hg hn;have i:=K4 hg hn;unfold KW;by_cases c:F (Cq (Al rs))<2
 ·rw[Ar c];exact .inl (Asd rs _ x.r x.t _ _ _ (by rw[AZ,Ee];omega) e)
 ·rw[Aw c];have j:=KS d hx.gr x.a (by have:=hx.a;omega) (by omega);have k:=KS d hx.gt x.b (by have:=hx.b;omega) (by omega);have l:=Ago d i (by omega) (V_ (by omega)) g n x C m hx f hd h;unfold sL;rw[Ac];exact .inr (Ase rs _ x.r x.t _ _ _ _ _ true _ _ (by rw[AW,Ee];omega) e j k l)
end
theorem A7j(x:Int)(a:Nat)(y:Int)(b:Nat):Rf x a y b*(2*(2^a*2^b))=(x*2^b+y*2^a)*2^KU x a y b:=by
 have hz:=Sy (max a b+1) (KT x a y b);obtain⟨f,d⟩:=Nz (max a b+1) (KT x a y b);have i:KT x a y b=x*2^(max a b-a)+y*2^(max a b-b):=rfl;unfold Rf KU;generalize KT x a y b=g at *
 generalize EJ g (max a b+1)=z at *
 have s:=Bz z;have e:g / 2^z=f:=by rw[d];exact CL _ (by omega)
 rw[e];obtain⟨k,j⟩:∃ k,max a b+1=z+k:=⟨max a b+1-z,by omega⟩;rw[show max a b+1-z=k by omega];have l:(2:Int)^z*2^k=2*2^max a b:=by rw[<- Cc,<- j,AD,AT]
 have m:(2:Int)^max a b=2^(max a b-a)*2^a:=by rw[<- Cc];congr 1;omega
 have n:(2:Int)^max a b=2^(max a b-b)*2^b:=by rw[<- Cc];congr 1;omega
 generalize (2:Int)^max a b=M at *
 generalize (2:Int)^(max a b-a)=u at *
 generalize (2:Int)^(max a b-b)=v at *
 generalize (2:Int)^a=A at *
 generalize (2:Int)^b=c at *
 generalize (2:Int)^z=h at *
 generalize (2:Int)^k=K at *
 apply GA (show h ≠ 0 by omega);have o:h*(f*(2*(A*c)))=(x*u+y*v)*(2*(A*c)):=by rw[<- i,d];grind
 have p:h*((x*c+y*A)*K)=(x*c+y*A)*(2*M):=by rw[<- l];grind
 have q:x*c*(2*M)=x*u*(2*(A*c)):=by rw[m];grind
 have r:y*A*(2*M)=y*v*(2*(A*c)):=by rw[n];grind
 rw[o,p,H2,H2,q,r]
def sd(p:G)(y:Iv)(m:Int)(c:Nat):Int:=F_ (O p) (B y.r) y.a (B y.t) y.b m c
theorem cI{p:G}(hp:Af p ≠ [])(d:2<=F (O p)){x y:Int}{a b:Nat}(h:x*2^b<y*2^a)(hz:Dl (O p) y b=0):Vd p y b+1<=Vd p x a:=by
 have e:=I2 p x a b;have c:=I2 p y b a;have g:=Jc (O p) y b a;rw[H0 b a] at c g;rw[<- e,<- c,I8,I8];refine Acg p hp d (Bz _) h ?_;rw[hz,MZ] at g;exact DB.1 g
theorem One.len{p:G}{y:Iv}(h:One p y):2<=F (O p):=by
 apply A6;intro g;have:=Xr (p:=p) (by omega) (B y.r) (B y.t) y.a y.b;have:=h.v;omega
theorem One.ne{p:G}{y:Iv}(h:One p y):Af p ≠ []:=by
 intro g;have hz:prim p=[]:=by rw[EM,<- DY];exact g
 have a:O p=[]:=by unfold O;rw[hz];rfl
 have:=h.len;rw[a] at this;simp at this
theorem Ts(p:G)(lo:Int)(a:Nat)(hi:Int)(b:Nat)(x:Int)(c:Nat) : -1<=F_ p lo a hi b x c/\F_ p lo a hi b x c<=1:=by unfold F_; (repeat' split) <;> omega
section
variable{p:G}{y:Iv}{m:Int}{c:Nat}
theorem QC(h:m*2^y.a<=B y.r*2^c):sd p y m c=1:=by
 unfold sd F_;rw[Ar];have hb:=Mr (m*2^y.a) (B y.r*2^c);have:BS m c (B y.r) y.a ≠ 1:=fun g=>by have:=KV.1 g;omega
 unfold BS at this |-;omega
theorem Xs(d:B y.r*2^y.b<B y.t*2^y.a)(h:B y.t*2^c<m*2^y.b):sd p y m c = -1:=by
 have h1:B y.r*2^c<m*2^y.a:=by
  have e:=Bz y.a;have f:=Bz y.b;have i:=Bz c;apply CY (a:=2^y.b) _ (A9 f);have j:=BG d i;have k:=BG h e;have l:B y.r*2^c*2^y.b=B y.r*2^y.b*2^c:=BE ..;have n:B y.t*2^y.a*2^c=B y.t*2^c*2^y.a:=BE ..;have o:m*2^y.b*2^y.a=m*2^y.a*2^y.b:=BE ..;omega
 unfold sd F_;rw[Aw (by rw[KV.2 h1];decide),Ar (by rw[KV.2 h];decide)]
end
theorem NU{p:G}{y:Iv}(h:One p y){m:Int}{c:Nat}(h1:B y.r*2^c<m*2^y.a)(h2:m*2^y.b<=B y.t*2^c) :
  (sd p y m c<=0↔Vd p m c=Vd p (B y.t) y.b)/\(sd p y m c=0↔Dl (O p) m c=0):=by
 have f:¬ BS m c (B y.r) y.a<=0:=by rw[KV.2 h1];decide
 have i:¬ BS m c (B y.t) y.b>0:=by
  intro g;have hb:=Mr (m*2^y.b) (B y.t*2^c);have:BS m c (B y.t) y.b=1:=by unfold BS at g |-;omega
  have:=KV.1 this;omega
 have e:sd p y m c=if Dl (O p) m c=0 then 0 else if Dl (O p) m c=Dl (O p) (B y.t) y.b then -1 else 1:=by
  unfold sd F_;rw[Aw f,Aw i]
 constructor
 ·by_cases j:m*2^y.b<B y.t*2^c
  ·exact (wT h h1 j).1
  ·have heq:m*2^y.b=B y.t*2^c:=by omega
   rw[e,Xo heq,wS heq];split
   ·simp
   ·simp
 ·rw[e];split
  next g=>simp[g]
  ·rename_i g;constructor
   ·intro d;split at d <;> omega
   ·intro d;exact absurd d g
theorem kG{p:G}{y:Iv}(h:One p y){m:Int}{c:Nat}(i:sd p y m c<=0){e:Int}{d:Nat}(f:m*2^d<e*2^c):sd p y e d = -1:=by
 have k:=Bz c;have l:=Bz d;have o:=Bz y.a;have q:=Bz y.b;by_cases j:e*2^y.b<=B y.t*2^d
 ·have n:B y.r*2^c<m*2^y.a:=by
   apply FI.1;intro g;rw[QC g] at i;exact absurd i (by decide)
  have s:B y.r*2^d<e*2^y.a:=by
   apply CY (a:=2^c) _ (A9 k);have u:=BG n l;have v:=BG f o;have w:B y.r*2^d*2^c=B y.r*2^c*2^d:=BE ..;have x:m*2^y.a*2^d=m*2^d*2^y.a:=BE ..;have A:e*2^c*2^y.a=e*2^y.a*2^c:=BE ..;omega
  have C:m*2^y.b<=B y.t*2^c:=by
   apply CR (a:=2^d) _ l;have u:=BG f q;have v:=Ap j (A9 k);have w:m*2^y.b*2^d=m*2^d*2^y.b:=BE ..;have x:e*2^c*2^y.b=e*2^y.b*2^c:=BE ..;have A:B y.t*2^c*2^d=B y.t*2^d*2^c:=BE ..;omega
  have I:=(NU h n C).1.1 i;have J:Vd p e d<=Vd p m c:=JB (A9 f);have K:Vd p (B y.t) y.b<=Vd p e d:=JB j;obtain⟨D,E⟩:=NU h s j;have F:=D.2 (by omega);have H:sd p y e d ≠ 0:=by
   intro z;have:=cI h.ne h.len f (E.1 z);omega
  have hb:=(Ts (O p) (B y.r) y.a (B y.t) y.b e d).1;unfold sd at F H |-;omega
 ·exact Xs h.lt (by omega)
theorem AEx{p:G}{y:Iv}(h:One p y)(m:Int)(c:Nat):sd p (Jb (O p) y) m c=sd p y m c:=by
 obtain⟨n,o⟩:=Ii h.lt;have n:B y.r*2^y.me<y.mn*2^y.a:=n;have o:y.mn*2^y.b<B y.t*2^y.me:=o;have K:BS (B y.r) y.a (B y.t) y.b ≠ 0:=by rw[Fe.2 h.lt];decide
 have e:=h.half;have H:=NU h n (A9 o);have bd:=Ts (O p) (B y.r) y.a (B y.t) y.b m c;unfold Jb at e |-;rw[Aw K] at e |-;by_cases g:F_ (O p) (B y.r) y.a (B y.t) y.b y.mn y.me<=0
 ·rw[Ar g] at e |-;have L:Vd p y.mn y.me=Vd p (B y.t) y.b:=H.1.1 g;have M:=Ts (O p) (B y.r) y.a (B (V y.mn)) y.me m c;by_cases c1:m*2^y.a<=B y.r*2^c
  ·have d:sd p ⟨y.r,y.a,V y.mn,y.me⟩ m c=1:=QC c1;rw[d,QC c1]
  ·by_cases C:m*2^y.me<=y.mn*2^c
   ·obtain⟨f,q⟩:=NU e (m:=m) (c:=c) (by show B y.r*2^c<m*2^y.a;omega) (by show m*2^y.me<=B (V y.mn)*2^c;rw[AO];exact C);have D:m*2^y.b<=B y.t*2^c:=by
     have k:=Bz y.me;have I:=Bz y.b;have l:=Bz c;apply CR (a:=2^y.me) _ k;have i:=Ap C (A9 I);have N:=BG o l;have E:m*2^y.b*2^y.me=m*2^y.me*2^y.b:=BE ..;have F:y.mn*2^c*2^y.b=y.mn*2^y.b*2^c:=BE ..;have P:B y.t*2^c*2^y.me=B y.t*2^y.me*2^c:=BE ..;omega
    obtain⟨s,v⟩:=NU h (m:=m) (c:=c) (by omega) D;have f:sd p ⟨y.r,y.a,V y.mn,y.me⟩ m c<=0↔Vd p m c=Vd p (B (V y.mn)) y.me:=f;rw[AO,L] at f;unfold sd at f q s v |-;have d:=f.trans s.symm;have j:=q.trans v.symm;simp only at d j |-;generalize F_ (O p) (B y.r) y.a (B (V y.mn)) y.me m c=u at *
    generalize F_ (O p) (B y.r) y.a (B y.t) y.b m c=w at *
    by_cases x:u<=0
    ·have:=d.1 x;by_cases A:u=0
     ·have:=j.1 A;omega
     ·have:w ≠ 0:=fun z=>A (j.2 z);omega
    ·have:¬ w<=0:=fun z=>x (d.2 z);omega
   ·have i:sd p ⟨y.r,y.a,V y.mn,y.me⟩ m c = -1:=Xs e.lt (by show B (V y.mn)*2^c<m*2^y.me;rw[AO];omega);rw[i];exact (kG h g (by omega)).symm
 ·rw[Aw g] at e |-;have M:=Ts (O p) (B (V y.mn)) y.me (B y.t) y.b m c;by_cases c1:m*2^y.me<=y.mn*2^c
  ·have i:sd p ⟨V y.mn,y.me,y.t,y.b⟩ m c=1:=QC (by show m*2^y.me<=B (V y.mn)*2^c;rw[AO];exact c1);rw[i];have:¬ sd p y m c<=0:=by
    intro z;by_cases C:m*2^y.me<y.mn*2^c
    ·have:=kG h z C;unfold sd at this;rw[this] at g;exact g (by decide)
    ·have heq:m*2^y.me=y.mn*2^c:=by omega
     have k:=Bz y.me;have J:=Bz y.a;have I:=Bz y.b;have l:=Bz c;have Q:B y.r*2^c<m*2^y.a:=by
      apply CY (a:=2^y.me) _ (A9 k);have i:=BG n l;have E:B y.r*2^c*2^y.me=B y.r*2^y.me*2^c:=BE ..;have F:m*2^y.a*2^y.me=y.mn*2^y.a*2^c:=by rw[BE,heq,BE]
      omega
     have R:m*2^y.b<=B y.t*2^c:=by
      apply CR (a:=2^y.me) _ k;have i:=BG o l;have E:B y.t*2^c*2^y.me=B y.t*2^y.me*2^c:=BE ..;have F:m*2^y.b*2^y.me=y.mn*2^y.b*2^c:=by rw[BE,heq,BE]
      omega
     have:=(NU h Q R).1.1 z;rw[wS heq] at this;exact g (H.1.2 this)
   unfold sd at this |-;omega
  ·by_cases D:m*2^y.b<=B y.t*2^c
   ·obtain⟨f,q⟩:=NU e (m:=m) (c:=c) (by show B (V y.mn)*2^c<m*2^y.me;rw[AO];omega) D;have S:B y.r*2^c<m*2^y.a:=by
     have k:=Bz y.me;have J:=Bz y.a;have l:=Bz c;apply CY (a:=2^y.me) _ (A9 k);have i:=BG (show y.mn*2^c<m*2^y.me by omega) J;have N:=BG n l;have E:B y.r*2^c*2^y.me=B y.r*2^y.me*2^c:=BE ..;have F:y.mn*2^c*2^y.a=y.mn*2^y.a*2^c:=BE ..;have P:m*2^y.me*2^y.a=m*2^y.a*2^y.me:=BE ..;omega
    obtain⟨s,v⟩:=NU h (m:=m) (c:=c) S D;unfold sd at f q s v |-;have d:=f.trans s.symm;have j:=q.trans v.symm;simp only at d j |-;generalize F_ (O p) (B (V y.mn)) y.me (B y.t) y.b m c=u at *
    generalize F_ (O p) (B y.r) y.a (B y.t) y.b m c=w at *
    by_cases x:u<=0
    ·have:=d.1 x;by_cases A:u=0
     ·have:=j.1 A;omega
     ·have:w ≠ 0:=fun z=>A (j.2 z);omega
    ·have:¬ w<=0:=fun z=>x (d.2 z);omega
   ·rw[Xs h.lt (by omega),Xs e.lt (show B y.t*2^c<m*2^y.b by omega)]
theorem S3{p:G}{y:Iv}(h:One p y)(m:Int)(c:Nat):∀ n,sd p (stpN (O p) y n) m c=sd p y m c
 | 0=>rfl
 | n+1=>by
  show sd p (Jb (O p) (stpN (O p) y n)) m c=_;rw[AEx (h.halves n),S3 h m c n]
theorem wU{n k:Nat}(h:n<=2^k):FY n<=k+1:=by
 unfold FY;split
 ·omega
 next a=>have:n.log2<k+1:=(TD a).2 (Ey h (UA (by decide) (by omega)));omega
theorem Agp(p:G)(y:Iv):y.d p=wq p (B y.r*2^y.b) (2^(y.a+y.b))-wq p (B y.t*2^y.a) (2^(y.a+y.b)):=by
 have e:=I2 p (B y.r) y.a y.b;have c:=I2 p (B y.t) y.b y.a;rw[H0 y.b y.a] at c;show Vd p _ _-Vd p _ _=_;rw[<- e,<- c,I8,I8];rfl
theorem kH(p:G){y:Iv}(h:B y.r*2^y.b<B y.t*2^y.a):0<=y.d p:=by
 have:=JB (p:=p) (A9 h);unfold Iv.d;omega
theorem One.d{p:G}{y:Iv}(h:One p y):y.d p=1:=h.v
theorem AJd(s:G){p:G}{y:Iv}(h:B y.r*2^y.b<B y.t*2^y.a):(Jb p y).d s<=y.d s:=by
 obtain⟨c,e⟩:=Ii h;have f:=JB (p:=s) (A9 c);have g:=JB (p:=s) (A9 e);have i:BS (B y.r) y.a (B y.t) y.b ≠ 0:=by rw[Fe.2 h];decide
 unfold Jb;rw[Aw i];unfold Iv.d;split
 ·show Vd s (B y.r) y.a-Vd s (B (V y.mn)) y.me<=_;rw[AO];have:Vd s (B y.t) y.b<=Vd s y.mn y.me:=g;omega
 ·show Vd s (B (V y.mn)) y.me-Vd s (B y.t) y.b<=_;rw[AO];have:Vd s y.mn y.me<=Vd s (B y.r) y.a:=f;omega
theorem AEy{p q:G}(hp:Af p ≠ [])(c:Af q ≠ []){y:Iv}(h:One p y):0<=y.d (Ch (O p) q)/\y.d (Ch (O p) q)<=1:=by
 have h1:=oB hp c (Bz (y.a+y.b)) (A9 (show B y.r*2^y.b<B y.t*2^y.a from h.lt));rw[<- Agp,<- Agp,h.d] at h1;exact⟨kH _ h.lt,h1⟩
theorem Agq(q:G):prim (Af q)=prim q:=Np (Ei q)
theorem wV{p q:G}(h:prim p=prim q):O p=O q:=by unfold O;rw [h]
theorem A7k{p q:G}(h:prim p=prim q)(x:Int)(a:Nat):Vd p x a=Vd q x a:=by
 unfold Vd Cq;rw[wV h]
theorem Agr{rs:D}(c:∀ r∈rs,BC 5 r)(hn:F rs<=9){r t:Rn}(hr:BC 300 r)(e:BC 300 t){a b:Nat}(i:a<=8192)(hb:b<=8192) :
  T 63 [sL S rs,A4 r (a:Nat),A4 t (b:Nat)] (J X (AHc (Al rs) (B r) a (B t) b)):=by
 have f:=Yr c hn;have d:=MY c hn;have j:=K4 c hn;have g:=PB d hr a (by omega) (by omega);have h:=PB d e b (by omega) (by omega);have k:=AEp rs _ r t (a:Nat) (b:Nat) _ _ f g h;rw[Yu (by omega)] at k;exact k
theorem Atf{p:G}(e:Kb 5 p)(f:F p<=9){y:Iv}{c m:Nat}(hx:IvOk c m y)(g:m<=8192):T 136 [sL S (p.map V),A4 y.r (y.a:Nat),A4 y.t (y.b:Nat)] (J X (y.d p)) /\
  T 63 [sL S (p.map V),A4 y.r (y.a:Nat),A4 y.t (y.b:Nat)] (J X (y.d p)):=by
 have h1:=cF (Bx e) (by rw[Ac];exact f) hx.gr hx.gt (a:=y.a) (b:=y.b) (by have:=hx.a;omega) (by have:=hx.b;omega);have h2:=Agr (Bx e) (by rw[Ac];exact f) hx.gr hx.gt (a:=y.a) (b:=y.b) (by have:=hx.a;omega) (by have:=hx.b;omega);rw[Bs] at h1 h2;exact⟨h1,h2⟩
theorem wW{f g:G}(h:Kb 5 g)(i:F g<=9){y:Iv}{e m:Nat}(hx:IvOk e m y)(j:m<=8192)(k:BS (B y.r) y.a (B y.t) y.b = -1):T 69 [Bh (f.map V) y.r (y.a:Nat) y.t (y.b:Nat),sL S (g.map V)] (W (!decide (F g<2)&&(y.d g==1))):=by
 by_cases c:F g<2
 ·rw[BP c];exact Asi _ y.r y.t _ _ _ (by rw[AZ,Ac];omega)
 ·rw[Bw c];have h1:=G2 (hx.gr.mono (show 300<=600 by omega)) (hx.gt.mono (show 300<=600 by omega)) (a:=y.a) (b:=y.b) (by have:=hx.a;omega) (by have:=hx.b;omega);rw[k] at h1;exact Asj _ y.r y.t _ _ _ (-1) _ (by rw[AW,Ac];omega) rfl h1 (Atf h i hx j).2
abbrev Dy:=Int × Nat
def dl(u v:Dy):Prop:=u.1*2^v.2<=v.1*2^u.2
def VD(p:G)(u:Dy):Int:=Vd p u.1 u.2
theorem CV{u v w:Dy}(h1:dl u v)(h2:dl v w):dl u w:=by
 unfold dl at *
 apply CR (a:=2^v.2) _ (Bz v.2);have b:=Ap h1 (A9 (Bz w.2));have c:=Ap h2 (A9 (Bz u.2));have d:u.1*2^w.2*2^v.2=u.1*2^v.2*2^w.2:=BE ..;have e:w.1*2^u.2*2^v.2=w.1*2^v.2*2^u.2:=BE ..;have f:v.1*2^u.2*2^w.2=v.1*2^w.2*2^u.2:=BE ..;omega
theorem DN(u v:Dy):dl u v\/dl v u:=by unfold dl;omega
theorem GM(u:Dy):dl u u:=DO _
theorem F4(p:G){u v:Dy}(h:dl u v):VD p v<=VD p u:=JB h
def Iv.lo'(y:Iv):Dy:=(B y.r,y.a)
def Iv.hi'(y:Iv):Dy:=(B y.t,y.b)
theorem One.dlt{p:G}{y:Iv}(h:One p y):dl y.lo' y.hi'/\¬ dl y.hi' y.lo':=⟨A9 h.lt,FI.2 h.lt⟩
theorem Tt{p:G}{y:Iv}(h:One p y)(m:Int)(c:Nat):sd p y m c<=0↔¬ dl (m,c) y.lo'/\VD p (m,c)<=VD p y.hi':=by
 unfold dl VD Iv.lo' Iv.hi';by_cases h1:m*2^y.a<=B y.r*2^c
 ·rw[QC h1];exact⟨fun g=>absurd g (by decide),fun g=>absurd h1 g.1⟩
 ·by_cases h2:m*2^y.b<=B y.t*2^c
  ·rw[(NU h (by omega) h2).1];have:=JB (p:=p) h2;simp only;constructor
   ·intro g;exact⟨h1,by omega⟩
   ·intro g;omega
  ·have:=JB (p:=p) (x:=B y.t) (a:=y.b) (y:=m) (b:=c) (by omega);rw[Xs h.lt (by omega)];exact⟨fun _=>⟨h1,this⟩,fun _=>by decide⟩
def cJ(g p:G):Prop:=∀ u v:Dy,dl u v->VD g u-VD g v<=VD p u-VD p v
theorem UI(p:G)(u:Dy)(c:Nat):VD p u=wq p (u.1*2^c) (2^(u.2+c)):=by
 have:=I2 p u.1 u.2 c;unfold VD;rw[<- this,I8];rfl
theorem Wa{p q:G}(hp:Af p ≠ [])(a:Af q ≠ []):cJ (Ch (O p) q) p:=by
 intro u v h;have k:=oB hp a (Bz (u.2+v.2)) (show u.1*2^v.2<=v.1*2^u.2 from h);rw[UI _ u v.2,UI _ u v.2,UI _ v u.2,UI _ v u.2,H0 v.2 u.2];exact k
theorem cK{g:G}(f:Cw g)(u:B5 g=1)(v:0<top g){s:G}(ls:Cw s)(cs:B5 s=1)(ts:0<top s)(h1:Dv g s)(h2:Dv s g)(hs:Af s ≠ [])(j:Af g ≠ []):g=s:=by
 obtain⟨c,k,hc,h⟩:=h1;have w:=(Dv.length ⟨c,k,hc,h⟩ hs).1;have y:=(h2.length j).1;rw[f,ls] at w y;have m:=aQ hc h hs;have e:Af (AM c s)=Af (Cg g k):=Ic fun x=>by rw[AN,h x,B8]
 have A:=JX hc s;have B:=Mm j m;rw[<- e,A,ls,f] at B;have g0:=Av.2 j;rw[f] at g0;obtain⟨d,hd⟩:=P3 (g:=Af k) (by omega);have l:∀ i,c*H s i 0=d*H g i 0:=by
  intro i;have n:=Eb (p:=AM c s) (q:=AM d g) (fun x=>by
   rw[AN,AN,h x,<- EU k,hd,AT];simp[Ah]) i
  rw[Bt,Bt] at n;exact n
 have b:d ≠ 0:=by
  intro z;have:=EN (show Cw (Af k) from GG k) m;rw[hd,z] at this;exact this rfl
 have o:=l (F g-1);have I:0<c*d:=by
  have r:0<H g (F g-1) 0:=v;have t:0<H s (F g-1) 0:=by rw[show F g=F s by omega];exact ts
  rcases Hd hc with gc | gc
  ·have:=IN gc t;rw[o] at this;rcases Hd b with a | a
   ·exact AGf gc a
   ·have:=Br a r;omega
  ·have:=Br gc t;rw[o] at this;rcases Hd b with a | a
   ·have:=IN a r;omega
   ·exact Br gc a
 have C:=SW (xs:=AM c s) (ys:=AM d g) (fun i=>by rw[Bt,Bt];exact l i);rw[Ky,Ky,cs,u,H9,H9] at C;have D:c=d:=by
  rcases Hd hc with gc | gc
  ·rcases Hd b with a | a
   ·omega
   ·have:=IN gc a;omega
  ·rcases Hd b with a | a
   ·have:=It gc a;omega
   ·omega
 have E:∀ i,H g i 0=H s i 0:=fun i=>by
  have:=l i;rw[D] at this;exact (GA b this).symm
 have:=HI E;rw[f,ls] at this;exact this
theorem cL{s t:G}(hs:Af s ≠ [])(a:Af t ≠ []):Ch s t=Ch t s:=by
 have b:=Gd s t;have c:=Gd t s;refine cK (El _ _) (Lw hs) (Lx hs) (El _ _) (Lw a) (Lx a) (c.dv b.2.1 b.1) (b.dv c.2.1 c.1) ?_ ?_
 ·rw[show Af (Ch t s)=_ from El _ _];exact Hm a
 ·rw[show Af (Ch s t)=_ from El _ _];exact Hm hs
theorem Akz{p g:G}{y:Iv}(h:One p y)(hd:cJ g p){l u:Dy}(h1:dl y.lo' l)(h2:dl u y.hi')(j:1<=VD g l-VD g u)(m:Int)(c:Nat):sd p y m c<=0↔¬ dl (m,c) l/\VD g (m,c)<=VD g u:=by
 rw[Tt h];have hv:VD p y.lo'-VD p y.hi'=1:=h.v;have f:dl l u:=by
  rcases DN l u with a | a
  ·exact a
  ·have:=F4 g a;omega
 have k:=F4 p h1;have n:=F4 p h2;have o:=hd l u f;generalize (m,c)=w;constructor
 ·intro ⟨b,i⟩;have e:¬ dl w l:=fun z=>by have:=F4 p z;omega
  refine⟨e,?_⟩;have d:dl l w:=(DN l w).resolve_right e;rcases DN u w with z | z
  ·exact F4 g z
  ·have:=hd w u z;have:=hd l w d;omega
 ·intro ⟨b,i⟩;refine⟨fun z=>b (CV z h1),?_⟩;have d:dl l w:=(DN l w).resolve_right b;rcases DN u w with z | z
  ·have:=F4 p z;omega
  ·have:=hd l w d;omega
def Ms(p:G)(y:Iv)(q:G)(x:Iv)(z:Int):Prop :=
 (z = -1/\∃ m c,sd p y m c<=0/\0<sd q x m c)\/(z=1/\∃ m c,sd q x m c<=0/\0<sd p y m c)\/(z=0/\∀ m c,sd p y m c<=0↔sd q x m c<=0)
theorem cM{p q:G}{y x:Iv}{z:Int}(h:Ms p y q x z):Ms q x p y (-z):=by
 rcases h with ⟨rfl,h⟩ | ⟨rfl,h⟩ | ⟨rfl,h⟩
 ·exact .inr (.inl ⟨rfl,h⟩)
 ·exact .inl ⟨rfl,h⟩
 ·exact .inr (.inr ⟨rfl,fun m c=>(h m c).symm⟩)
theorem cN{p:G}{y:Iv}(h:One p y){m m':Int}{c c':Nat}(h1:sd p y m c<=0)(h2:0<sd p y m' c'):¬ dl (m,c) (m',c'):=by
 intro g;rw[Tt h] at h1;have h2:¬ sd p y m' c'<=0:=by omega
 rw[Tt h] at h2;refine h2 ⟨fun z=>h1.1 (CV g z),?_⟩;have:=F4 p g;omega
theorem Ms.unique{p q:G}{y x:Iv}(hp:One p y)(j:One q x){z w:Int}(h1:Ms p y q x z)(h2:Ms p y q x w):z=w:=by
 have i:∀ m c a b,sd p y m c<=0->0<sd q x m c->sd q x a b<=0->0<sd p y a b->False:=by
  intro m c a b d e k l;rcases DN (m,c) (a,b) with g | g
  ·exact cN hp d l g
  ·exact cN j k e g
 rcases h1 with ⟨rfl,m,c,d,e⟩ | ⟨rfl,m,c,d,e⟩ | ⟨rfl,h1⟩ <;> rcases h2 with ⟨rfl,a,b,f,h⟩ | ⟨rfl,a,b,f,h⟩ | ⟨rfl,h2⟩
 ·rfl
 ·exact (i _ _ _ _ d e f h).elim
 ·have:=(h2 m c).1 d;omega
 ·exact (i _ _ _ _ f h d e).elim
 ·rfl
 ·have:=(h2 m c).2 d;omega
 ·have:=(h1 a b).1 f;omega
 ·have:=(h1 a b).2 f;omega
 ·rfl
theorem Zd{p:G}{y:Iv}(h:One p y):sd p y (B y.t) y.b<=0:=by
 rw[Tt h];exact⟨h.dlt.2,DO _⟩
theorem Wb{p q:G}{y x:Iv}(hp:One p y)(h:dl y.hi' x.lo'):Ms p y q x (-1) := .inl ⟨rfl,B y.t,y.b,Zd hp,by have:=QC (p:=q) h;show 0<sd q x y.hi'.1 y.hi'.2;rw [this];decide⟩
theorem QD{p q:G}{y x:Iv}(a:One q x)(h:dl x.hi' y.lo'):Ms p y q x 1 := .inr (.inl ⟨rfl,B x.t,x.b,Zd a,by have:=QC (p:=p) h;show 0<sd p y x.hi'.1 x.hi'.2;rw [this];decide⟩)
theorem AEz{p q g:G}{y x:Iv}(hp:One p y)(a:One q x)(b:cJ g p)(d:cJ g q){l u:Dy}(e:dl y.lo' l)(f:dl u y.hi')(i:dl x.lo' l)(j:dl u x.hi')(h:1<=VD g l-VD g u):Ms p y q x 0 :=
 .inr (.inr ⟨rfl,fun m c=>by rw[Akz hp b e f h,Akz a d i j h]⟩)
section
variable(u v:Dy)
def J2:Dy:=if u.1*2^v.2<v.1*2^u.2 then v else u
def IH:Dy:=if v.1*2^u.2<u.1*2^v.2 then v else u
theorem NV:dl u (J2 u v)/\dl v (J2 u v)/\(J2 u v=u\/J2 u v=v):=by
 unfold J2;split
 next g=>exact⟨A9 g,GM _,.inr rfl⟩
 next g=>exact⟨GM _,by unfold dl;omega,.inl rfl⟩
theorem NW:dl (IH u v) u/\dl (IH u v) v/\(IH u v=u\/IH u v=v):=by
 unfold IH;split
 next g=>exact⟨A9 g,GM _,.inr rfl⟩
 next g=>exact⟨GM _,by unfold dl;omega,.inl rfl⟩
end
def YF(g:G)(y x:Iv):Int:=VD g (J2 y.lo' x.lo')-VD g (IH y.hi' x.hi')
theorem S4{p q g:G}{y x:Iv}(hp:One p y)(a:One q x)(b:cJ g p)(c:cJ g q)(h:1<=YF g y x):Ms p y q x 0:=by
 obtain⟨d,e,_⟩:=NV y.lo' x.lo';obtain⟨f,i,_⟩:=NW y.hi' x.hi';exact AEz hp a b c d f e i h
theorem wX{p q g:G}{y x:Iv}(hp:One p y)(j:One q x)(c:cJ g p)(l:cJ g q)(h:y.d g=1)(h1:0<sd p y (B x.r) x.a)(h2:sd p y (B x.t) x.b<=0):Ms p y q x 0:=by
 refine S4 hp j c l ?_;have h1:¬ sd p y (B x.r) x.a<=0:=by omega
 rw[Tt hp] at h1 h2;have hv:VD p y.lo'-VD p y.hi'=1:=hp.v;have o:VD g y.lo'-VD g y.hi'=1:=h;obtain⟨f,_,m⟩:=NV y.lo' x.lo';obtain⟨i,_,n⟩:=NW y.hi' x.hi';unfold YF;have s:VD g y.lo'-VD g (J2 y.lo' x.lo')<=0:=by
  rcases m with e | e
  ·rw[e];omega
  ·rw[e] at f |-;have k:=c _ _ f;by_cases z:dl x.lo' y.lo'
   ·have:=F4 g z;omega
   ·have:¬ VD p x.lo'<=VD p y.hi':=fun w=>h1 ⟨z,w⟩;omega
 have u:VD g (IH y.hi' x.hi')-VD g y.hi'<=0:=by
  rcases n with e | e
  ·rw[e];omega
  ·rw[e] at i |-;have k:=c _ _ i;have:VD p x.hi'<=VD p y.hi':=h2.2;omega
 omega
theorem KX{p q:G}{y x:Iv}(hp:One p y)(a:One q x)(n m:Nat){z:Int}:Ms p (stpN (O p) y n) q (stpN (O q) x m) z↔Ms p y q x z:=by
 unfold Ms;simp only[S3 hp,S3 a]
theorem S5{p:G}(hp:Af p ≠ []):∃ (g:G) (c d:Int),c ≠ 0/\d ≠ 0/\Cw g/\g ≠ []/\Gz g p (AE p) /\
  (∀ x,c*Ah p x=d*(Ah g x*Ah (O p) x))/\F (O p)+F g=F (Af p)+1:=by
 obtain⟨a,b,e,f,_,m,h,n,hn,i⟩:=RY hp;obtain⟨_,_,_,_,_,c,d,hc,hd,j⟩:=XZ a b e f (O p) rfl;obtain⟨_,_,_,_,_,k,l,_⟩:=C7 hp;have o:=Ca a b;refine⟨Ch (y (prim p)) (AE (y (prim p))),c*n,m*d,Bv hc hn,Bv h hd,El _ _,Hm o,l,fun x => ?_,k⟩;have q:=i x;have r:=j x;calc c*n*Ah p x=c*(n*Ah p x):=by grind
  _=m*(c*Ah (y (prim p)) x):=by rw[q];grind
  _=_:=by rw[r];grind
theorem wY{p g:G}{c d:Int}(hd:d ≠ 0)(t:Cw g)(g0:g ≠ [])(E:Gz g p (AE p))(F:∀ x,c*Ah p x=d*(Ah g x*Ah (O p) x)):Dv (O g) (O p):=by
 have w:=Ca t g0;obtain⟨i,o,y,H,W,A,B,⟨_,_,b,u,v,hb,I⟩,h2,_⟩:=S5 w;obtain⟨_,⟨e,k,J,L⟩,_⟩:=E;generalize O p=f at *
 generalize O g=j at *
 have M:∀ x,c*Ah (AE p) x=d*(Ah (AE g) x*Ah f x+Ah g x*Ah (AE f) x):=by
  intro x;have h1:=Qj (p:=p) (q:=Cg g f) (c:=c) (d:=d) (fun x=>by rw[B8];exact F x) x;rw[h1,NH (r:=Cg g f) (p:=g) (q:=f) (fun x=>B8 g f x) x]
 have N:Af (Cg g i) ≠ []:=fun z=>by
  have h:=Mm w (Ca A B);rw[z,t,A] at h;have:=Av.2 g0;have:=Av.2 B;simp at h;omega
 refine⟨o*b*(e*d),AM y (EQ (Cg u (AM (e*d) f)) (Cg v (ND (AM c k) (AM (e*d) (AE f))))),Bv (Bv H hb) (Bv J hd),fun x => ?_⟩;have C:=Uu (p:=Cg g i) N (AM (o*b*(e*d)) f) (Cg j (AM y (EQ (Cg u (AM (e*d) f)) (Cg v (ND (AM c k) (AM (e*d) (AE f))))))) (fun x=>by
  simp only[B8,AN,CD,G1];have P:=M x;have Q:=L x;have R:=I x;have S:=h2 x;generalize Ah (AE p) x=P' at *
  generalize Ah (AE g) x=s at *
  generalize Ah (AE f) x=D at *
  generalize Ah f x=a at *
  generalize Ah g x=n at *
  generalize Ah i x=Gv at *
  generalize Ah j x=Hv at *
  generalize Ah u x=l at *
  generalize Ah v x=m at *
  generalize Ah k x=K at *
  have T:e*d*(s*a)=n*(c*K-e*d*D):=by
   have:e*(c*P')=c*(n*K):=by rw[<- Q];grind
   rw[P] at this;grind
  have U:b*Gv*(e*d*a)=n*(l*(e*d*a)+m*(c*K-e*d*D)):=by
   rw[R];have:m*s*(e*d*a)=m*(e*d*(s*a)):=by grind
   rw[H2,this,T];grind
  have V:n*Gv*(o*b*(e*d)*a)=o*n*(b*Gv*(e*d*a)):=by grind
  rw[V,U,S];grind) x
 rw[AN,B8] at C;exact C
theorem Ags{p g:G}(hp:Af p ≠ [])(b:Af g ≠ [])(h:Dv (O g) (O p)){x y q:Int}(i:0<q)(j:x<=y):wq g x q-wq g y q<=wq p x q-wq p y q:=by
 obtain⟨c,l,m,g0,_⟩:=C7 b;obtain⟨lf,_,_,n,_⟩:=C7 hp;have d:=Ca c g0;have a:=Ca lf n;have f:=Gd (O p) (O g);have e:Ch (O p) (O g)=O g:=cK (El _ _) (Lw a) (Lx a) c l m f.2.1 (f.dv h (Dv.refl _)) d (Ca (El _ _) (Hm a));have k:=oB hp d i j;rw[e] at k;have r:∀ z,wq (O g) z q=wq g z q:=fun z=>by unfold wq D2;rw[V7 b]
 rw[r,r] at k;exact k
theorem Ala{p:G}(h:F p<2)(x y q:Int):Hh p x q=Hh p y q:=by
 unfold Hh;rw[show F p-1=0 by omega];rfl
theorem wZ{p:G}(hp:Af p ≠ []){x y q:Int}(a:0<q)(m:x<=y)(b:wq p x q=wq p y q)(hx:Hh (O p) x q ≠ 0)(hy:Hh (O p) y q ≠ 0):CM (Hh (O p) y q)=CM (Hh (O p) x q):=by
 by_cases d:F (O p)<2
 ·rw[Ala d x y]
 ·obtain⟨c,hc,f⟩:=A1c p hp (by omega) (x:=x) (y:=y) a;have nz:∀ z,Hh (O p) z q ≠ 0->Hh (O p) (c*z) (c*q) ≠ 0:=fun z g e=>by
   have k:=Nt (O p) z q c hc;rw[e] at k;exact g (DB.1 k.symm)
  have hn:0<=c*(y-x):=A8 (A9 hc) (by omega);have e:c*x+((c*(y-x)).toNat:Int)=c*y:=by
   rw[V9 hn,Gs];omega
  have k:=Ux (nz x hx) (c*(y-x)).toNat (fun j hj=>f (c*x+j) (by omega) (by omega));rw[e] at k;have h:wv 0 (EH (D2 p) (c*x) (c*q))-wv 0 (EH (D2 p) (c*y) (c*q))=0:=by
   have i:=P5 p x q c hc;have l:=P5 p y q c hc;unfold wq at i l b;omega
  rcases k with ⟨_,k⟩ | ⟨k,_⟩
  ·rw[Nt _ _ _ _ hc,Nt _ _ _ _ hc] at k;rw[k];simp[h]
  ·exact absurd k (nz y hy)
theorem cO(a b:Int):CM (a*b)=CM a*CM b:=by
 rcases G8 a 0 with g | g | g <;> rcases G8 b 0 with h | h | h
 ·rw[GK.2 (AGf g h),Gu.2 g,Gu.2 h];rfl
 ·rw[h,Be];show _=CM a*0;rw[Be];rfl
 ·rw[Gu.2 (IN g h),Gu.2 g,GK.2 h];rfl
 ·rw[g,Cs];show _=0*CM b;rw[Cs];rfl
 ·rw[g,Cs];show _=0*CM b;rw[Cs];rfl
 ·rw[g,Cs];show _=0*CM b;rw[Cs];rfl
 ·rw[Gu.2 (It g h),GK.2 g,Gu.2 h];rfl
 ·rw[h,Be];show _=CM a*0;rw[Be];rfl
 ·rw[GK.2 (Br g h),GK.2 g,GK.2 h];rfl
theorem   A7l : ∀ (n : Nat) {p : List Int}, p.length <= n ->   Cw p -> p ≠ [] -> ∀ {x y q : Int}, 0 < q -> x <= y -> wq p x q = wq p y q -> Hh p x q ≠ 0 -> Hh p y q ≠ 0 ->  CM (Hh p y q) =  CM (Hh p x q)
  | 0, p, hn, _, h0, _, _, _, _, _, _, _, _ => absurd (                 Av.2 h0) (by omega)
  | n + 1, p, hn, lp, h0, x, y, q, hq, hxy, hw, hx, hy => by
    by_cases hl : p.length < 2
    · rw [   Ala hl x y]
    · have hp :=           Ca lp h0
      obtain ⟨g, c, d, hc, hd, lg, g0, hG, hcd, _⟩ :=         S5 hp
      have dv :=      wY hd lg g0 hG hcd
      obtain ⟨lf, _, _, f0, _⟩ :=       C7 hp
      have hg :=           Ca lg g0
      have pl :=          Qm lp (by omega)
      have gl := (hG.2.1.length (by intro z; have : (   Af (  AE p)).length = 0 := by rw [z]; rfl
                                    rw [show    Af (  AE p) =   AE p from        GG _] at this; omega)).1
      rw [lg, show    Af (  AE p) =   AE p from        GG _] at gl
      have hpr := fun z =>      R_ hc hd lp lg lf g0 f0 hcd z q
      have m1 :=       Ags hp hg dv hq hxy
      have m2 : wq g y q <= wq g x q :=         Mo g hq hxy
      have gx : ∀ z, Hh p z q ≠ 0 -> Hh g z q ≠ 0 /\ Hh (    O p) z q ≠ 0 := fun z hz => by
        have k := hpr z
        have : d * (Hh g z q * Hh (    O p) z q) ≠ 0 := by rw [<- k]; exact              Bv hc hz
        exact ⟨fun e => this (by rw [e,           Cs,           Be]), fun e => this (by rw [e,           Be,           Be])⟩
      have a1 :=   A7l n (by omega) lg g0 hq hxy (by omega) (gx x hx).1 (gx y hy).1
      have a2 :=         wZ hp hq hxy hw (gx x hx).2 (gx y hy).2
      have s : ∀ z,  CM c *  CM (Hh p z q) =  CM d * ( CM (Hh g z q) *  CM (Hh (    O p) z q)) := fun z => by rw [<-      cO, hpr z,      cO,      cO]
      have e :  CM c *  CM (Hh p y q) =  CM c *  CM (Hh p x q) := by rw [s, s, a1, a2]
      exact                        GA (fun z => hc (      DB.1 z)) e
theorem        cQ : ∀ (n : Nat) {p : List Int}, p.length <= n ->   Cw p -> p ≠ [] -> ∀ {x q : Int}, Hh p x q = 0 -> Hh (    O p) x q = 0
  | 0, p, hn, _, h0, _, _, _ => absurd (                 Av.2 h0) (by omega)
  | n + 1, p, hn, lp, h0, x, q, hz => by
    have hp :=           Ca lp h0
    by_cases hl : p.length < 2
    · exfalso
      have h1 :=       EN lp h0
      apply h1
      rw [show p.length - 1 = 0 by have :=                  Av.2 h0; omega]
      have e : Hh p x q = p.getD 0 0 := by unfold Hh; rw [show p.length - 1 = 0 by omega]; rfl
      omega
    · obtain ⟨g, c, d, hc, hd, lg, g0, hG, hcd, _⟩ :=         S5 hp
      obtain ⟨c', k, hc', hk⟩ :=      wY hd lg g0 hG hcd
      obtain ⟨lf, _, _, f0, _⟩ :=       C7 hp
      have hg :=           Ca lg g0
      have pl :=          Qm lp (by omega)
      have gl := (hG.2.1.length (by intro z; have : (   Af (  AE p)).length = 0 := by rw [z]; rfl
                                    rw [show    Af (  AE p) =   AE p from        GG _] at this; omega)).1
      rw [lg, show    Af (  AE p) =   AE p from        GG _] at gl
      have e :=      R_ hc hd lp lg lf g0 f0 hcd x q
      rw [hz,           Be] at e
      rcases              F5.1 ((             F5.1 e.symm).resolve_left hd) with z | z
      · have ih :=        cQ n (by omega) lg g0 z
        obtain ⟨lh, _, _, hh0, _⟩ :=       C7 hg
        have hk0 :=      aQ hc' hk (          Ca lf f0)
        have e2 :=      R_ (d := 1) hc' (by decide) lf lh (       GI k) hh0 hk0 (fun x => by rw [         D0,         EU]; exact hk x) x q
        rw [ih,           Cs,           Be] at e2
        exact (             F5.1 e2).resolve_left hc'
      · exact z
theorem Ua(p:G){u:Dy}{a:Nat}(h:u.2<=a):VD p u=wq p (u.1*2^(a-u.2)) (2^a):=by
 rw[UI p u (a-u.2),show u.2+(a-u.2)=a by omega]
theorem xA{u v:Dy}{a:Nat}(h:u.2<=a)(hv:v.2<=a):dl u v↔u.1*2^(a-u.2)<=v.1*2^(a-v.2):=by
 have e:(2:Int)^a=2^(a-u.2)*2^u.2:=by rw[<- Cc];congr 1;omega
 have f:(2:Int)^a=2^(a-v.2)*2^v.2:=by rw[<- Cc];congr 1;omega
 have h1:=Bz u.2;have h2:=Bz v.2;have b:=Bz a;have c:u.1*2^v.2*2^a=u.1*2^(a-u.2)*(2^u.2*2^v.2):=by rw[e];grind
 have d:v.1*2^u.2*2^a=v.1*2^(a-v.2)*(2^u.2*2^v.2):=by rw[f];grind
 unfold dl;constructor
 ·intro g;have:=Ap g (A9 b);rw[c,d] at this;exact CR this (Br h1 h2)
 ·intro g;have:=Ap g (A9 (Br h1 h2));rw[<- c,<- d] at this;exact CR this b
theorem G7{u v:Dy}:BS u.1 u.2 v.1 v.2<=0↔dl u v:=by unfold dl BS DE; (repeat' split) <;> omega
theorem Wc(s:G){p:G}{y:Iv}(h:One p y){m:Nat}:∀ k,(stpN (O p) y (m+k)).d s<=(stpN (O p) y m).d s
 | 0=>DO _
 | k+1=>FC (AJd s (h.halves (m+k)).lt) (Wc s h k)
theorem A7m{p:G}{y:Iv}(h:One p y):dl y.lo' (Jb (O p) y).lo'/\dl (Jb (O p) y).hi' y.hi':=by
 obtain⟨c,d⟩:=Ii h.lt;have e:BS (B y.r) y.a (B y.t) y.b ≠ 0:=by rw[Fe.2 h.lt];decide
 unfold Jb;rw[Aw e];split
 ·refine⟨GM _,?_⟩;show dl (B (V y.mn),y.me) _;rw[AO];exact A9 d
 ·refine⟨?_,GM _⟩;show dl _ (B (V y.mn),y.me);rw[AO];exact A9 c
theorem PE{p:G}{y:Iv}(h:One p y):∀ n,dl y.lo' (stpN (O p) y n).lo'/\dl (stpN (O p) y n).hi' y.hi'
 | 0=>⟨GM _,GM _⟩
 | n+1=>by
  obtain⟨a,b⟩:=PE h n;obtain⟨c,d⟩:=A7m (h.halves n);exact⟨CV a c,CV d b⟩
theorem Atg(g:G){y x f h:Iv}(a:dl y.lo' f.lo')(b:dl f.hi' y.hi')(c:dl x.lo' h.lo')(d:dl h.hi' x.hi'):YF g f h<=YF g y x:=by
 obtain⟨i,j,_⟩:=NV f.lo' h.lo';obtain⟨_,_,k⟩:=NV y.lo' x.lo';obtain⟨l,m,_⟩:=NW f.hi' h.hi';obtain⟨_,_,n⟩:=NW y.hi' x.hi';have o:dl (J2 y.lo' x.lo') (J2 f.lo' h.lo'):=by
  rcases k with e | e <;> rw[e]
  ·exact CV a i
  ·exact CV c j
 have p:dl (IH f.hi' h.hi') (IH y.hi' x.hi'):=by
  rcases n with e | e <;> rw[e]
  ·exact CV l b
  ·exact CV m d
 have:=F4 g o;have:=F4 g p;unfold YF;omega
def Wd(f g:G)(y x:Iv)(i:Nat):Bool:=decide (BS (B (stpN f y i).t) (stpN f y i).b (B (stpN g x i).r) (stpN g x i).a<=0) || decide (BS (B (stpN g x i).t) (stpN g x i).b (B (stpN f y i).r) (stpN f y i).a<=0)
theorem S6{f g:G}{y x:Iv}{i:Nat}(h:Wd f g y x i=false):¬ dl (stpN f y i).hi' (stpN g x i).lo'/\¬ dl (stpN g x i).hi' (stpN f y i).lo':=by
 unfold Wd at h;generalize stpN f y i=u at *
 generalize stpN g x i=w at *
 rw[QU,AW,AW] at h;exact⟨fun z=>h.1 (G7.2 z),fun z=>h.2 (G7.2 z)⟩
theorem NX{p:G}(hp:Af p ≠ []):Af (O p) ≠ []:=by
 have h:=C7 hp;exact Ca h.1 h.2.2.2.1
theorem UJ{p q:G}(hp:Af p ≠ [])(h:F (Ch (O p) q)<2)(u v:Dy):VD (Ch (O p) q) u=VD (Ch (O p) q) v:=by
 have a:Af (Ch (O p) q) ≠ []:=by rw[show Af (Ch (O p) q)=_ from El _ _];exact Hm (NX hp)
 obtain⟨b,_,_,_,c,_⟩:=C7 a;have d:=(c.length a).1;rw[b,show Af (Ch (O p) q)=_ from El _ _] at d;exact Xr (by omega) _ _ _ _
section
abbrev Ko(p q:G)(z:Int)(y x:Iv)(i:Nat):Az:=PC z (p.map V) y.r (y.a:Nat) y.t (y.b:Nat) (q.map V) x.r (x.a:Nat) x.t (x.b:Nat) (i:Nat)
abbrev bS(p q:G)(z:Int)(y x:Iv)(i:Nat):Az:=Gr z (p.map V) y.r (y.a:Nat) y.t (y.b:Nat) (q.map V) x.r (x.a:Nat) x.t (x.b:Nat) (i:Nat)
abbrev cS(p q:G)(z:Int)(y x:Iv)(i:Nat):Az:=LB z (p.map V) y.r (y.a:Nat) y.t (y.b:Nat) (q.map V) x.r (x.a:Nat) x.t (x.b:Nat) (i:Nat)
def apZ(y x:Iv):Int:=if BS (B y.r) y.a (B x.r) x.a<0 then -1 else 1
def pZ(y x:Iv):Bool:=decide (BS (B y.t) y.b (B x.r) x.a<=0) || decide (BS (B x.t) x.b (B y.r) y.a<=0)
end
structure W1 (k:Nat) (x:Iv):Prop where
 lt:B x.r*2^x.b<B x.t*2^x.a
 w:(B x.t*2^x.a-B x.r*2^x.b)*2^k<=2^x.a*2^x.b
 lo:0<=B x.r
 hi:B x.t<=2^x.b
 a:x.a<=k
 b:x.b<=k
theorem W1.halves{k x}(h:W1 k x):W1 (k+1) x.lf/\W1 (k+1) x.rg:=by
 have j:=Bz x.a;have l:=Bz x.b;have s:=Bz k;have f:=Bz x.me;have m:=h.w;have n:=h.lo;have o:=h.hi;have u:=h.a;have hb:=h.b;obtain⟨m1,i⟩:=Ii h.lt;have m1:B x.r*2^x.me<x.mn*2^x.a:=m1;have i:x.mn*2^x.b<B x.t*2^x.me:=i;have hv:x.mn*(2*(2^x.a*2^x.b))=(B x.r*2^x.b+B x.t*2^x.a)*2^x.me:=A7j (B x.r) x.a (B x.t) x.b;have v:x.me<=max x.a x.b+1:=OJ;have p:(2:Int)^(k+1)=2*2^k:=by rw[AD,AT]
 constructor
 ·refine⟨?_,?_,n,?_,by show x.a<=_;omega,by show x.me<=_;omega⟩
  ·show B x.r*2^x.me<B (V x.mn)*2^x.a;rw[AO];exact m1
  ·show (B (V x.mn)*2^x.a-B x.r*2^x.me)*2^(k+1)<=2^x.a*2^x.me;rw[AO,p];generalize (2:Int)^k=K at *
   generalize (2:Int)^x.a=A at *
   generalize (2:Int)^x.b=c at *
   generalize (2:Int)^x.me=e at *
   apply CR (a:=c) _ l;have d:(x.mn*A-B x.r*e)*(2*K)*c=(x.mn*(2*(A*c))-2*(B x.r*c*e))*K:=by grind
   have g:((B x.r*c+B x.t*A)*e-2*(B x.r*c*e))*K=(B x.t*A-B x.r*c)*K*e:=by grind
   rw[d,hv,g];have:=Ap m (A9 f);have q:A*c*e=A*e*c:=by grind
   omega
  ·show B (V x.mn)<=2^x.me;rw[AO];apply CR (a:=2^x.b) _ l;have d:=Ap o (A9 f);have g:(2:Int)^x.b*2^x.me=2^x.me*2^x.b:=AT _ _;omega
 ·refine⟨?_,?_,?_,o,by show x.me<=_;omega,by show x.b<=_;omega⟩
  ·show B (V x.mn)*2^x.b<B x.t*2^x.me;rw[AO];exact i
  ·show (B x.t*2^x.me-B (V x.mn)*2^x.b)*2^(k+1)<=2^x.me*2^x.b;rw[AO,p];generalize (2:Int)^k=K at *
   generalize (2:Int)^x.a=A at *
   generalize (2:Int)^x.b=c at *
   generalize (2:Int)^x.me=e at *
   apply CR (a:=A) _ j;have d:(B x.t*e-x.mn*c)*(2*K)*A=(2*(B x.t*A*e)-x.mn*(2*(A*c)))*K:=by grind
   have g:(2*(B x.t*A*e)-(B x.r*c+B x.t*A)*e)*K=(B x.t*A-B x.r*c)*K*e:=by grind
   rw[d,hv,g];have:=Ap m (A9 f);have q:A*c*e=e*c*A:=by grind
   omega
  ·show 0<=B (V x.mn);rw[AO];apply CR (a:=2^x.a) _ j;have d:=A8 n (A9 f);omega
theorem W1.once{k x}(h:W1 k x)(p:G):W1 (k+1) (Jb p x):=by
 obtain⟨h1,h2⟩:=h.halves;have c:BS (B x.r) x.a (B x.t) x.b ≠ 0:=by rw[Fe.2 h.lt];decide
 unfold Jb;rw[Aw c];split
 ·exact h1
 ·exact h2
theorem W1.stpN{k x}(h:W1 k x)(p:G):∀ n,W1 (k+n) (stpN p x n)
 | 0=>h
 | n+1=>(W1.stpN h p n).once p
theorem AFa{p}(hp:Enp p){k x}(h:W1 k x)(c:744<=k):x.d p=0\/x.d p=1:=by
 have f:=Bz x.a;have g:=Bz x.b;have i:=kH p h.lt;have h1:x.d p<=1:=by
  rw[Agp];have hq:(2:Int)^(x.a+x.b)=2^x.a*2^x.b:=Cc ..;refine hp.one (Bz _) (A9 h.lt) (A8 h.lo (A9 g)) ?_ c ?_
  ·rw[hq];have:=Ap h.hi (A9 f);have e:(2:Int)^x.b*2^x.a=2^x.a*2^x.b:=AT _ _;omega
  ·rw[hq];exact h.w
 omega
theorem Jq{p}(hp:Enp p):∀ (n k:Nat) (x:Iv),k+n=744->W1 k x->Deep p 1073741824 n x:=by
 intro n;induction n with
 | zero=>intro k x d h;exact AFa hp h (by omega)
 | succ n c =>
  intro k x d h;obtain⟨h1,h2⟩:=h.halves;have e:x.me<=max x.a x.b+1:=OJ;have f:=h.a;have hb:=h.b;exact .inr (.inr ⟨by omega,c (k+1) x.lf (by omega) h1,c (k+1) x.rg (by omega) h2⟩)
theorem xB{p:G}:∀ (n k:Nat) (x:Iv),W1 k x->∀ y∈F3 p n x,∃ j,j<=k+n/\W1 j y:=by
 intro n;induction n with
 | zero =>
  intro k x h y hy;simp only[F3] at hy;split at hy
  ·cases hy
  ·rcases BW.1 hy with rfl | hy
   ·exact⟨k,by omega,h⟩
   ·cases hy
 | succ n c =>
  intro k x h y hy;simp only[F3] at hy;obtain⟨h1,h2⟩:=h.halves;split at hy
  ·cases hy
  ·split at hy
   ·rcases BW.1 hy with rfl | hy
    ·exact⟨k,by omega,h⟩
    ·cases hy
   ·rcases BD.1 hy with hy | hy
    ·obtain⟨j,a,b⟩:=c (k+1) x.lf h1 y hy;exact⟨j,by omega,b⟩
    ·obtain⟨j,a,b⟩:=c (k+1) x.rg h2 y hy;exact⟨j,by omega,b⟩
theorem W1.scaled{k:Nat}{y:Iv}(h:W1 k y){E N:Nat}(C:y.a<=E)(hb:y.b<=E)(j:N<=k) :
  (B y.t*2^(E-y.b)-B y.r*2^(E-y.a))*2^N<=2^E/\0<=B y.r*2^(E-y.a)/\B y.t*2^(E-y.b)<=2^E:=by
 have l:(2:Int)^E=2^(E-y.a)*2^y.a:=by rw[<- Cc];congr 1;omega
 have d:(2:Int)^E=2^(E-y.b)*2^y.b:=by rw[<- Cc];congr 1;omega
 have m:=Bz y.a;have o:=Bz y.b;have i:=Bz E;have p:=Bz (E-y.a);have q:=Bz (E-y.b);have s:=h.w;have lo:=h.lo;have hi:=h.hi;have D:=h.lt;have F:=Bz N;have u:(2:Int)^N<=2^k:=by
  have:=B_ (n:=2) (by decide) j;have h:=AHn.2 this;rwa [Ea,Ea] at h
 have v:(B y.t*2^(E-y.b)-B y.r*2^(E-y.a))*(2^y.a*2^y.b)=(B y.t*2^y.a-B y.r*2^y.b)*2^E:=by
  have c1:B y.t*2^(E-y.b)*(2^y.a*2^y.b)=B y.t*2^y.a*2^E:=by rw[d];grind
  have x:B y.r*2^(E-y.a)*(2^y.a*2^y.b)=B y.r*2^y.b*2^E:=by rw[l];grind
  rw[yR,yR,c1,x]
 refine⟨?_,?_,?_⟩
 ·generalize (2:Int)^k=K at *
  generalize (2:Int)^N=M at *
  generalize B y.t*2^(E-y.b)-B y.r*2^(E-y.a)=g at *
  generalize G:B y.t*2^y.a-B y.r*2^y.b=f at *
  generalize (2:Int)^E=e at *
  generalize z:(2:Int)^y.a*2^y.b=P at *
  have A:0<P:=by rw[<- z];exact Br m o
  apply CR (a:=P) _ A;have c1:g*M*P=f*M*e:=by
   have:g*M*P=g*P*M:=BE ..;rw[this,v];exact BE ..
  have H:=Ap s (A9 i);have I:=Ap (Ax u (show 0<=f by omega)) (A9 i);have J:e*P=P*e:=AT _ _;rw[c1];omega
 ·exact A8 lo (A9 p)
 ·have:=Ap hi (A9 q);have c:(2:Int)^y.b*2^(E-y.b)=2^E:=by rw[d];exact AT _ _
  omega
theorem PF{p q:G}(hp:Enp p)(hq:Enp q){y x:Iv}(h1:One p y)(h2:One q x){i j:Nat}(Q:W1 i y)(R:W1 j x)(S:1921<=i)(T:1921<=j)(U:dl x.lo' y.hi')(V:dl y.lo' x.hi') :
  1<=YF (Ch (O p) (O q)) y x:=by
 obtain⟨E,hE⟩:∃ E,E=y.a+y.b+x.a+x.b:=⟨_,rfl⟩;have k:y.lo'.2<=E:=by show y.a<=E;omega
 have l:y.hi'.2<=E:=by show y.b<=E;omega
 have m:x.lo'.2<=E:=by show x.a<=E;omega
 have n:x.hi'.2<=E:=by show x.b<=E;omega
 obtain⟨s1,s2,s3⟩:=Q.scaled (E:=E) (N:=1921) k l S;obtain⟨s4,s5,s6⟩:=R.scaled (E:=E) (N:=1921) m n T;have W:=h1.dlt.1;have d2:=h2.dlt.1;have a8:VD p y.lo'-VD p y.hi'=1:=h1.v;have a9:VD q x.lo'-VD q x.hi'=1:=h2.v;obtain⟨o,C,D⟩:=NW y.lo' x.lo';obtain⟨s,F,H⟩:=NV y.hi' x.hi';obtain⟨a4,a5,X⟩:=NV y.lo' x.lo';obtain⟨b4,b5,Y⟩:=NW y.hi' x.hi';have c:(IH y.lo' x.lo').2<=E:=by rcases D with e | e <;> rw[e] <;> assumption
 have d:(J2 y.hi' x.hi').2<=E:=by rcases H with e | e <;> rw[e] <;> assumption
 have Z:dl (IH y.lo' x.lo') (J2 y.hi' x.hi'):=CV o (CV W s);have u:=Bz E;have I:=C7 hq.ne;have J:=Ca I.1 I.2.2.2.1;have K:=Wa hp.ne J;have L:cJ (Ch (O p) (O q)) q:=by
  have f:=C7 hp.ne;rw[cL (Ca f.1 f.2.2.2.1) J];exact Wa hq.ne (Ca f.1 f.2.2.2.1)
 have h:=Z;rw[xA c d] at h;rw[xA m l] at U;rw[xA k n] at V;have rg:0<=(IH y.lo' x.lo').1*2^(E-(IH y.lo' x.lo').2)/\(J2 y.hi' x.hi').1*2^(E-(J2 y.hi' x.hi').2)<=2^E/\((J2 y.hi' x.hi').1*2^(E-(J2 y.hi' x.hi').2)-(IH y.lo' x.lo').1*2^(E-(IH y.lo' x.lo').2))*2^1921<=2*2^E:=by
  have a7:=Bz 1921;have yl:y.lo'.1*2^(E-y.lo'.2)=B y.r*2^(E-y.a):=rfl;have yh:y.hi'.1*2^(E-y.hi'.2)=B y.t*2^(E-y.b):=rfl;have xl:x.lo'.1*2^(E-x.lo'.2)=B x.r*2^(E-x.a):=rfl;have xh:x.hi'.1*2^(E-x.hi'.2)=B x.t*2^(E-x.b):=rfl;have sum:∀ v:Int,v<=(B y.t*2^(E-y.b)-B y.r*2^(E-y.a))+(B x.t*2^(E-x.b)-B x.r*2^(E-x.a))->v*2^1921<=2*2^E:=by
   intro v hv;have:=Ap hv (A9 a7);rw[H2] at this;omega
  have dy:=h1.dlt.1;have dx:=h2.dlt.1;rw[xA k l] at dy;rw[xA m n] at dx;rcases D with e | e <;> rcases H with g | g <;> rw[e,g]
  ·exact⟨by omega,by omega,sum _ (by omega)⟩
  ·exact⟨by omega,by omega,sum _ (by omega)⟩
  ·exact⟨by omega,by omega,sum _ (by omega)⟩
  ·exact⟨by omega,by omega,sum _ (by omega)⟩
 obtain⟨w,z,P⟩:=rg;have A:((J2 y.hi' x.hi').1*2^(E-(J2 y.hi' x.hi').2)-(IH y.lo' x.lo').1*2^(E-(IH y.lo' x.lo').2))*2^1920<=2^E:=by
  have e:(2:Int)^1921=2*2^1920:=by rw[AT];exact AD 2 1920
  rw[e] at P;generalize (2:Int)^1920=M at *
  have e2:∀ v:Int,v*(2*M)=2*(v*M):=fun v=>by grind
  rw[e2] at P;omega
 have up:=hp.one u h w z (show 744<=1920 by decide) A;have uq:=hq.one u h w z (show 744<=1920 by decide) A;rw[<- Ua p c,<- Ua p d] at up;rw[<- Ua q c,<- Ua q d] at uq;have v1:=F4 p o;have v2:=F4 p s;have v3:=F4 q C;have v4:=F4 q F;have mt:=hp.meet_free hq u h w z (A2 1920) A (by rw[<- Ua p c,<- Ua p d];omega) (by rw[<- Ua _ c,<- Ua _ d];omega);rw[<- Ua _ c,<- Ua _ d] at mt;unfold YF;generalize Ch (O p) (O q)=g at *
 have i:VD g (IH y.lo' x.lo')-VD g (J2 y.lo' x.lo')<=0:=by
  rcases X with e | e
  ·rw[e];have:=K _ _ o;omega
  ·rw[e];have:=L _ _ C;omega
 have j:VD g (IH y.hi' x.hi')-VD g (J2 y.hi' x.hi')<=0:=by
  rcases Y with e | e
  ·rw[e];have:=K _ _ s;omega
  ·rw[e];have:=L _ _ F;omega
 omega
theorem QE{p}(hp:Enp p):Kb 5 (O p)/\F (O p)<=9:=by
 obtain⟨lf,c,_,_,hd,_⟩:=C7 hp.ne;obtain⟨a,b⟩:=hp.div lf c hd;exact⟨fun i=>C8 (a i) (by decide),by omega⟩
theorem Gg{p}(hp:Enp p):VY (O p):=⟨(QE hp).1.mono (by decide),(QE hp).2⟩
theorem Tu{p}(hp:Enp p):∀ r∈(O p).map V,BC 5 r:=Bx (QE hp).1
theorem Ze{p}(hp:Enp p):F ((O p).map V)<=9:=by rw [Ac];exact (QE hp).2
theorem Yw{p:G}(hp:Enp p)(q:G):Kb 5 (Ch (O p) q)/\F (Ch (O p) q)<=8:=by
 obtain⟨lf,_,_,c,d,_⟩:=C7 hp.ne;have e:=Ca lf c;obtain⟨a,b⟩:=hp.div (El _ _) (Lw e) ((Gd (O p) q).1.trans d);exact⟨fun i=>C8 (a i) (by decide),b⟩
theorem xC{p q:G}(hp:Enp p)(hq:Enp q):Q5 135 [sL S ((O p).map V),sL S ((O q).map V)] (Ch (O p) (O q))/\Q5 70 [sL S ((O p).map V),sL S ((O q).map V)] (Ch (O p) (O q)):=by
 have h:=VV (K:=5) (c:=9) (Tu hp) (Tu hq) (Ze hp) (Ze hq) (by decide) (by decide);have k:=VX (K:=5) (c:=9) (Tu hp) (Tu hq) (Ze hp) (Ze hq) (by decide) (by decide);rw[Bs,Bs] at h k;exact⟨h,k⟩
theorem Tv{p q:G}(hp:Enp p)(hq:Enp q):cJ (Ch (O p) (O q)) p/\cJ (Ch (O p) (O q)) q:=by
 refine⟨Wa hp.ne (NX hq.ne),?_⟩;rw[cL (NX hp.ne) (NX hq.ne)];exact Wa hq.ne (NX hp.ne)
section
variable {p q:G} (hp:Enp p) (hq:Enp q) {y x:Iv} (h1:One p y) (h2:One q x) {m:Nat} (hm:m<=5600) (o1:IvOk 0 m y) (o2:IvOk 0 m x)
include hp hq h1 h2 hm o1 o2
theorem xD:T 124 [y.av (O p),x.av (O q)] (W (E (0<YF (Ch (O p) (O q)) y x))):=by
 obtain⟨e,_⟩:=xC hp hq;obtain⟨H,L⟩:=Yw hp (O q);have I:=UJ (q:=O q) hp.ne;generalize Ch (O p) (O q)=g at *
 have h:F (g.map V)=F g:=Ac ..;have i:=LA (p:=O p) o1.gr o1.gt (a:=y.a) (b:=y.b) (by have:=o1.a;omega) (by have:=o1.b;omega);have j:=LA (p:=O q) o2.gr o2.gt (a:=x.a) (b:=x.b) (by have:=o2.a;omega) (by have:=o2.b;omega);rw[Fe.2 h1.lt,show ((-1:Int)==0)=false by decide] at i;rw[Fe.2 h2.lt,show ((-1:Int)==0)=false by decide] at j;have o:∀ {r t:Rn} {a b:Nat},BC 300 r->BC 300 t->a<=m->b<=m->T 55 [A4 r (a:Nat),A4 t (b:Nat)] (J X (BS (B r) a (B t) b)):=fun hr K s hb=>L9 (hr.mono (show 300<=600 by omega)) (K.mono (show 300<=600 by omega)) (by omega) (by omega);have l:∀ {u w:Rn} {a b:Nat} (_:BC 300 u) (_:BC 300 w) (_:a<=m) (_:b<=m),Z LY (Gf false ((O p).map V) y.r (y.a:Nat) y.t (y.b:Nat) ((O q).map V) x.r (x.a:Nat) x.t (x.b:Nat) u (a:Nat) w (b:Nat)) .ret
   (Gf (E (0<VD g (B u,a)-VD g (B w,b))) ((O p).map V) y.r (y.a:Nat) y.t (y.b:Nat) ((O q).map V) x.r (x.a:Nat) x.t (x.b:Nat) u (a:Nat) w (b:Nat)):=by
  intro u w a b A C s hb;have c:=o A C s hb;by_cases c0:BS (B u) a (B w) b>=0
  ·have v:VD g (B u,a)<=VD g (B w,b):=F4 g (by
    have M:=Mr (B u*2^b) (B w*2^a);have:¬ B u*2^b<B w*2^a:=fun z=>by rw[Fe.2 z] at c0;exact absurd c0 (by decide)
    show B w*2^a<=B u*2^b;omega)
   rw[Bw (show ¬ 0<VD g (B u,a)-VD g (B w,b) by omega)];exact Asv _ _ _ _ _ _ _ _ _ _ _ _ _ _ _ _ (BP c0) c
  ·by_cases c1:F g<2
   ·rw[I c1 (B u,a) (B w,b),TA];rcases e with e | e
    ·exact Agm _ _ _ _ _ _ _ _ _ _ _ _ _ _ _ _ _ (Bw c0) (by rw[AW,h];omega) c e
    ·exact Asx _ _ _ _ _ _ _ _ _ _ _ _ _ _ _ _ _ (Bw c0) (by rw[AW,h];omega) c e
   ·have k:=cF (Bx H) (by rw[h];omega) A C (a:=a) (b:=b) (by omega) (by omega);rw[Bs] at k;rcases e with e | e
    ·exact Agl _ _ _ _ _ _ _ _ _ _ _ _ _ _ _ _ _ _ (Bw c0) (by rw[AZ,h];omega) c e k
    ·exact Asw _ _ _ _ _ _ _ _ _ _ _ _ _ _ _ _ _ _ (Bw c0) (by rw[AZ,h];omega) c e k
 have c1:=o o2.gr o1.gr o2.a o1.a;have n:=o o2.gt o1.gt o2.b o1.b;have D:¬ B y.r*2^x.a<B x.r*2^y.a->decide (BS (B x.r) x.a (B y.r) y.a>0)=false:=fun f=>by
  rw[AW];intro z;have hb:=Mr (B x.r*2^y.a) (B y.r*2^x.a);exact f (KV.1 (by unfold BS at z |-;omega))
 have G:¬ B x.t*2^y.b<B y.t*2^x.b->decide (BS (B x.t) x.b (B y.t) y.b<0)=false:=fun d=>by
  rw[AW];intro z;have hb:=Mr (B x.t*2^y.b) (B y.t*2^x.b);exact d (Fe.1 (by unfold BS at z |-;omega))
 unfold YF;by_cases f:B y.r*2^x.a<B x.r*2^y.a
 ·rw[show J2 y.lo' x.lo'=x.lo' from Ar f];have m1:decide (BS (B x.r) x.a (B y.r) y.a>0)=true:=by rw[KV.2 f];rfl
  by_cases d:B x.t*2^y.b<B y.t*2^x.b
  ·rw[show IH y.hi' x.hi'=x.hi' from Ar d];exact Tq _ y.r y.t _ _ _ x.r x.t _ _ _ false false _ _ _ _ rfl rfl i j (Asy _ _ _ _ _ _ _ _ _ _ _ _ _ _ _ _ _ _ m1 (by rw[Fe.2 d];rfl) c1 n (l o2.gr o2.gt o2.a o2.b))
  ·rw[show IH y.hi' x.hi'=y.hi' from Aw d];exact Tq _ y.r y.t _ _ _ x.r x.t _ _ _ false false _ _ _ _ rfl rfl i j (Asz _ _ _ _ _ _ _ _ _ _ _ _ _ _ _ _ _ _ m1 (G d) c1 n (l o2.gr o1.gt o2.a o1.b))
 ·rw[show J2 y.lo' x.lo'=y.lo' from Aw f];by_cases d:B x.t*2^y.b<B y.t*2^x.b
  ·rw[show IH y.hi' x.hi'=x.hi' from Ar d];exact Tq _ y.r y.t _ _ _ x.r x.t _ _ _ false false _ _ _ _ rfl rfl i j (Ata _ _ _ _ _ _ _ _ _ _ _ _ _ _ _ _ _ _ (D f) (by rw[Fe.2 d];rfl) c1 n (l o1.gr o2.gt o1.a o2.b))
  ·rw[show IH y.hi' x.hi'=y.hi' from Aw d];exact Tq _ y.r y.t _ _ _ x.r x.t _ _ _ false false _ _ _ _ rfl rfl i j (Atb _ _ _ _ _ _ _ _ _ _ _ _ _ _ _ _ _ _ (D f) (G d) c1 n (l o1.gr o1.gt o1.a o1.b))
theorem kI{m o:Nat}(w:W1 m y)(A:W1 o x):∃ z,Ms p y q x z/\T 74 [y.av (O p),x.av (O q)] (J X z):=by
 obtain⟨c1,C⟩:=PD o1 o2 (by omega);obtain⟨D,E⟩:=Tv hp hq;have N:=Mr (B y.t*2^x.a) (B x.r*2^y.b);have P:=Mr (B x.t*2^y.a) (B y.r*2^x.b);by_cases d:BS (B y.t) y.b (B x.r) x.a<0
 ·exact⟨-1,Wb h1 (G7.1 (A9 d)),kF _ y.r y.t _ _ _ x.r x.t _ _ _ (BP d) c1⟩
 by_cases e:BS (B x.t) x.b (B y.r) y.a<0
 ·exact⟨1,QD h2 (G7.1 (A9 e)),Asf _ y.r y.t _ _ _ x.r x.t _ _ _ _ (Bw d) (BP e) c1 C⟩
 have f:=xD hp hq h1 h2 hm o1 o2;by_cases j:0<YF (Ch (O p) (O q)) y x
 ·rw[BP j] at f;exact⟨0,S4 h1 h2 D E j,A7i o1 o2 (by omega) d e f⟩
 rw[Bw j] at f;have l:∀ c,1921<=c->¬ (¬ dl (stpN (O p) y c).hi' (stpN (O q) x c).lo'/\¬ dl (stpN (O q) x c).hi' (stpN (O p) y c).lo'):=by
  intro c F g;have:=PF hp hq (h1.halves c) (h2.halves c) (w.stpN (O p) c) (A.stpN (O q) c) (by omega) (by omega) ((DN _ _).resolve_left g.1) ((DN _ _).resolve_left g.2);obtain⟨G,h⟩:=PE h1 c;obtain⟨H,I⟩:=PE h2 c;have:=Atg (Ch (O p) (O q)) G h H I;omega
 obtain⟨n,hn,K,k⟩:∃ n,n<=1921/\(∀ i,i<n->Wd (O p) (O q) y x i=false)/\Wd (O p) (O q) y x n=true:=by
  rcases HU (Wd (O p) (O q) y x) 1922 1922 0 rfl with g | ⟨n,_,Q,L,M⟩
  ·have:=g 1921 (by omega) (by omega);exfalso;generalize F:1921=c at this l;have:=S6 this;exact l c (A2 _) this
  ·exact⟨n,by omega,fun i hi=>M i (by omega) hi,L⟩
 have no:∀ i,i<n->¬ BS (B (stpN (O p) y i).t) (stpN (O p) y i).b (B (stpN (O q) x i).r) (stpN (O q) x i).a<=0/\¬ BS (B (stpN (O q) x i).t) (stpN (O q) x i).b (B (stpN (O p) y i).r) (stpN (O p) y i).a<=0:=fun i hi=>by
  obtain⟨u,v⟩:=S6 (K i hi);exact⟨fun z=>u (G7.1 z),fun z=>v (G7.1 z)⟩
 unfold Wd at k;rw[I4,AZ,AZ] at k;by_cases s:BS (B (stpN (O p) y n).t) (stpN (O p) y n).b (B (stpN (O q) x n).r) (stpN (O q) x n).a<=0
 ·exact⟨-1,(KX h1 h2 n n).1 (Wb (h1.halves n) (G7.1 s)),cE (Gg hp) (Gg hq) o1 o2 (n:=n) (by omega) d e f ⟨no,.inl ⟨rfl,s⟩⟩⟩
 ·have h:=k.resolve_left s;exact⟨1,(KX h1 h2 n n).1 (QD (h2.halves n) (G7.1 h)),cE (Gg hp) (Gg hq) o1 o2 (n:=n) (by omega) d e f ⟨no,.inr ⟨rfl,s,h⟩⟩⟩
end
theorem UK{l:List Rt}{a:Int}(h:0<=a/\a<F l):BQ (AL 1 (AL (Y a*7) (C2 l))) 0 3 false=some (A4 (H l (Y a) zR).r (H l (Y a) zR).e)/\BQ (AL 4 (AL (Y a*7) (C2 l))) 0 3 false=some (A4 (H l (Y a) zR).t (H l (Y a) zR).f):=by
 have b:=FK h;rw[Ns,BL b];have e:H l (Y a) zR=l[Y a]:=by rw[Ad,Am b];rfl
 rw[e];exact⟨rfl,rfl⟩
section
variable(a:Nat)(b:AK)(ls:List D)(r t:Rn)
theorem Agt(e f x y:Int)(c1:(x==y)=true):T 109 [Ae 7 a b,sL pp ls,A4 r e,A4 t f,J X x,J X y] (Ae 7 a b):=Bc (fn:=iF AC mE) h rfl 400 rfl [bT] (BO c1)
theorem Agu(e f x y:Int)(c1:(x==y)=false)(d:(Q X (x-y)==1)=true)(c:0<=(0:Int)/\(0:Int)<(F ls:Int))(i:a+1<=1048576):T 109 [Ae 7 a b,sL pp ls,A4 r e,A4 t f,J X x,J X y] (Ae 7 (a+1) (b++([sL S (H ls (Y 0) []),W r.1,P (F r.2) (A r.2),J X e,W t.1,P (F t.2) (A t.2),J X f]:AK))):=Bc (fn:=iF AC mE) h rfl 400 rfl [bF,bT,.v (sL S (H ls (Y 0) []))] (Gm c1 d c (B3 c) (show F ([sL S (H ls (Y 0) []),W r.1,P (F r.2) (A r.2),J X e,W t.1,P (F t.2) (A t.2),J X f]:AK)=1*7 from rfl) i)
theorem Agv(e f x y n g v:Int)(j k:Nat)(l m:AK)(c1:(x==y)=false)(d:(Q X (x-y)==1)=false)(c:T 121 [A4 r e,A4 t f] (A4 (V n) g))(i:T 110 [sL pp ls,A4 (V n) g] (J X v))(o:T 109 [Ae 7 a b,sL pp ls,A4 r e,A4 (V n) g,J X x,J X v] (Ae 7 j l))(p:T 109 [Ae 7 j l,sL pp ls,A4 (V n) g,A4 t f,J X v,J X y] (Ae 7 k m)):T 109 [Ae 7 a b,sL pp ls,A4 r e,A4 t f,J X x,J X y] (Ae 7 k m):=Bc (fn:=iF AC mE) h rfl 400 rfl [bF,bF,.r (A4 (V n) g),.r (J X v),.r (Ae 7 j l),.r (Ae 7 k m)] (Gm c1 d c i o p)
end
section
variable(rs:D)(ls:List D)(r t:Rn)
theorem Ath(e f:Int)(c1:E ((F ls:Int)<2)=true)(a:T 108 [sL S rs] (Ae 1 (F ls) (pp ls))):T 60 [sL S rs,A4 r e,A4 t f] (Ae 7 0 []):=Bc (fn:=iF AC Ajd) h rfl 400 rfl [.r (Ae 1 (F ls) (pp ls)),bT,bT] (Gy a c1 I6)
theorem Ati(e f c:Int)(c1:E ((F ls:Int)<2)=false)(b:E (c>=0)=true)(a:T 108 [sL S rs] (Ae 1 (F ls) (pp ls)))(d:T 33 [A4 r e,A4 t f] (J X c)):T 60 [sL S rs,A4 r e,A4 t f] (Ae 7 0 []):=Bc (fn:=iF AC Ajd) h rfl 400 rfl [.r (Ae 1 (F ls) (pp ls)),bF,.r (J X c),bT] (FJ a c1 d b)
theorem Atj(e f c x y:Int)(k:Nat)(cs:AK)(c1:E ((F ls:Int)<2)=false)(b:E (c>=0)=false)(a:T 108 [sL S rs] (Ae 1 (F ls) (pp ls)))(d:T 33 [A4 r e,A4 t f] (J X c))(g:T 110 [sL pp ls,A4 r e] (J X x))(i:T 110 [sL pp ls,A4 t f] (J X y))(j:T 109 [Ae 7 0 [],sL pp ls,A4 r e,A4 t f,J X x,J X y] (Ae 7 k cs)):T 60 [sL S rs,A4 r e,A4 t f] (Ae 7 k cs):=Bc (fn:=iF AC Ajd) h rfl 400 rfl [.r (Ae 1 (F ls) (pp ls)),bF,.r (J X c),bF,.r (J X x),.r (J X y),.r (Ae 7 k cs)] (GZ a c1 d b g i j)
end
theorem Atk{p:G}{x:Iv}(h:x.d p=0):∀ {n:Nat},F3 p n x=[]
 | 0=>Ar h
 | _+1=>Ar h
theorem kJ(p:G)(n:Nat)(x:Iv):F (KW p n x)<=F (F3 p n x):=by
 unfold KW;split
 ·exact A_ _
 ·exact A2 _
theorem cR{x:Iv}(h:B x.r*2^x.b<B x.t*2^x.a):B x.lf.r*2^x.lf.b<B x.lf.t*2^x.lf.a/\B x.rg.r*2^x.rg.b<B x.rg.t*2^x.rg.a:=by
 obtain⟨m1,c⟩:=Ii h;constructor
 ·show B x.r*2^x.me<B (V x.mn)*2^x.a;rw[AO];exact m1
 ·show B (V x.mn)*2^x.b<B x.t*2^x.me;rw[AO];exact c
theorem Jr{p:G}{E:Nat}:∀ (n:Nat) (x:Iv),B x.r*2^x.b<B x.t*2^x.a->Deep p E n x->∀ y∈F3 p n x,One p y:=by
 intro n;induction n with
 | zero =>
  intro x h hd y hy;simp only[F3] at hy;rcases hd with hd | hd
  ·rw[Ar hd] at hy;cases hy
  ·rw[Aw (by omega)] at hy;rcases BW.1 hy with rfl | hy
   ·exact⟨h,hd⟩
   ·cases hy
 | succ n c =>
  intro x h hd y hy;simp only[F3] at hy;by_cases c0:x.d p=0
  ·rw[Ar c0] at hy;cases hy
  ·rw[Aw c0] at hy;by_cases c1:x.d p=1
   ·rw[Ar c1] at hy;rcases BW.1 hy with rfl | hy
    ·exact⟨h,c1⟩
    ·cases hy
   ·rw[Aw c1] at hy;rcases hd with hd | hd | ⟨_,e,f⟩
    ·exact absurd hd c0
    ·exact absurd hd c1
    ·obtain⟨h1,h2⟩:=cR h;rcases BD.1 hy with hy | hy
     ·exact c x.lf h1 e y hy
     ·exact c x.rg h2 f y hy
theorem Atl{p:G}{E:Nat}:∀ (n:Nat) (x:Iv),Deep p E n x->(F (F3 p n x):Int)=x.d p:=by
 intro n;induction n with
 | zero =>
  intro x hd;simp only[F3];rcases hd with hd | hd
  ·rw[Ar hd,hd];rfl
  ·rw[Aw (by omega),hd];rfl
 | succ n c =>
  intro x hd;simp only[F3];by_cases c0:x.d p=0
  ·rw[Ar c0,c0];rfl
  ·rw[Aw c0];by_cases c1:x.d p=1
   ·rw[Ar c1,c1];rfl
   ·rw[Aw c1];rcases hd with hd | hd | ⟨_,e,f⟩
    ·exact absurd hd c0
    ·exact absurd hd c1
    ·have g:=c x.lf e;have h:=c x.rg f;rw[B0,MT,g,h];show (Vd p (B x.r) x.a-Vd p (B (V x.mn)) x.me)+(Vd p (B (V x.mn)) x.me-Vd p (B x.t) x.b)=Vd p (B x.r) x.a-Vd p (B x.t) x.b;omega
section
variable {p:G} (hnice:∀ q∈Cq p,wH q) (hlen:F (Cq p)<=10) (h1:0<F (Cq p)) (hfr:H (Cq p) 0 []=O p) {E:Nat}
include hnice hlen h1 hfr
theorem xE:∀ (n:Nat) (x:Iv) (c m:Nat),IvOk c m x->c+m+n+1<8000->Deep p E n x->∀ (e:Nat) (f:AK),e+F (F3 p n x)<=1000*1000 ->
  T 109 [Ae 7 e f,sL pp (s (Cq p)),A4 x.r (x.a:Nat),A4 x.t (x.b:Nat),J X (Vd p (B x.r) x.a),J X (Vd p (B x.t) x.b)]
   (Ae 7 (e+F (F3 p n x)) (f++C2 ((F3 p n x).map (Iv.rt (O p))))):=by
 have none:∀ (x:Iv) (e:Nat) (f:AK),x.d p=0->T 109 [Ae 7 e f,sL pp (s (Cq p)),A4 x.r (x.a:Nat),A4 x.t (x.b:Nat),J X (Vd p (B x.r) x.a),J X (Vd p (B x.t) x.b)] (Ae 7 (e+F ([]:List Iv)) (f++C2 (([]:List Iv).map (Iv.rt (O p))))):=by
  intro x e f h;rw[show f++C2 (([]:List Iv).map (Iv.rt (O p)))=f from Ld _];exact Agt _ _ _ x.r x.t _ _ _ _ (by unfold Iv.d at h;rw[BJ];omega)
 have one:∀ (x:Iv) (e:Nat) (f:AK),x.d p=1->e+1<=1000*1000->T 109 [Ae 7 e f,sL pp (s (Cq p)),A4 x.r (x.a:Nat),A4 x.t (x.b:Nat),J X (Vd p (B x.r) x.a),J X (Vd p (B x.t) x.b)] (Ae 7 (e+F [x]) (f++C2 ([x].map (Iv.rt (O p))))):=by
  intro x e f h G;have u:=Pf hlen (B x.r) x.a;have v:=Pf hlen (B x.t) x.b;have i:Q X (Vd p (B x.r) x.a-Vd p (B x.t) x.b)=Iv.d p x:=By (by omega) (by omega);have k:=Agu e f (s (Cq p)) x.r x.t (x.a:Nat) (x.b:Nat) (Vd p (B x.r) x.a) (Vd p (B x.t) x.b) (by unfold Iv.d at h;rw[C3];omega) (by rw[i,h];rfl) (by rw[Ee];omega) (by omega);rw[show Y 0=0 from rfl,L8 h1,hfr] at k;exact k
 intro n;induction n with
 | zero =>
  intro x c m hx w hd e f g;simp only[F3] at g |-;rcases hd with hd | hd
  ·rw[Ar hd];exact none x e f hd
  ·rw[Aw (by omega)] at g |-;exact one x e f hd g
 | succ n j =>
  intro x c m hx w hd e f g;simp only[F3] at g |-;by_cases c0:x.d p=0
  ·rw[Ar c0];exact none x e f c0
  ·rw[Aw c0] at g |-;by_cases c1:x.d p=1
   ·rw[Ar c1] at g |-;exact one x e f c1 g
   ·rw[Aw c1] at g |-;rcases hd with hd | hd | ⟨_,y,z⟩
    ·exact absurd hd c0
    ·exact absurd hd c1
    ·have u:=Pf hlen (B x.r) x.a;have v:=Pf hlen (B x.t) x.b;have i:Q X (Vd p (B x.r) x.a-Vd p (B x.t) x.b)=Iv.d p x:=By (by omega) (by omega);obtain⟨o1,A,C,H⟩:=Agn hx (by omega);obtain⟨gr,gt,I,hb,vr,vt⟩:=hx;rw[B0] at g;have l:=j x.lf c (m+1) o1 (by omega) y e f (by omega);have o:=j x.rg c (m+1) A (by omega) z (e+F (F3 p n x.lf)) (f++C2 ((F3 p n x.lf).map (Iv.rt (O p)))) (by omega);have D:=UH (gr.mono (show 300<=600 by omega)) (gt.mono (show 300<=600 by omega)) (a:=x.a) (b:=x.b) (by omega) (by omega);have hv:=PB hnice C x.me (by omega) (by omega);rw[AO] at hv;have q:Vd p (B (V x.mn)) x.me=Vd p x.mn x.me:=by rw[AO]
     rw[show x.lf.t=V x.mn from rfl,show x.lf.b=x.me from rfl,show x.lf.r=x.r from rfl,show x.lf.a=x.a from rfl,q] at l;rw[show x.rg.r=V x.mn from rfl,show x.rg.a=x.me from rfl,show x.rg.t=x.t from rfl,show x.rg.b=x.b from rfl,q] at o;have k:=Agv e f (s (Cq p)) x.r x.t (x.a:Nat) (x.b:Nat) (Vd p (B x.r) x.a) (Vd p (B x.t) x.b) x.mn (x.me:Nat) _ _ _ _ _ (by unfold Iv.d at c0;rw[C3];omega) (by rw[i,C3];exact c1) D hv l o;rw[B0,D_,K0,<- E1,<- Iu];exact k
end
section
variable {rs:D} (hg:∀ r∈rs,BC 5 r) (hn:F rs<=9)
include hg hn
theorem Agw{n:Nat}{x:Iv}{C m:Nat}(hx:IvOk C m x)(j:C+m+n+1<8000){E:Nat}(hd:Deep (Al rs) E n x)(u:F (F3 (Al rs) n x)<=1000*1000)(v:¬ BS (B x.r) x.a (B x.t) x.b>0) :
  T 60 [sL S rs,A4 x.r (x.a:Nat),A4 x.t (x.b:Nat)] (Ae 7 (F ((KW (Al rs) n x).map (Iv.rt (O (Al rs))))) (C2 ((KW (Al rs) n x).map (Iv.rt (O (Al rs)))))):=by
 have f:=Yr hg hn;have hnice:=MY hg hn;have hlen:=K4 hg hn;unfold KW;by_cases c:F (Cq (Al rs))<2
 ·rw[Ar c];exact Ath rs _ x.r x.t _ _ (by rw[AZ,Ee];omega) f
 ·rw[Aw c];have g:decide ((F (s (Cq (Al rs))):Int)<2)=false:=by rw[AW,Ee];omega
  have h:=G2 (hx.gr.mono (show 300<=600 by omega)) (hx.gt.mono (show 300<=600 by omega)) (a:=x.a) (b:=x.b) (by have:=hx.a;omega) (by have:=hx.b;omega);by_cases i:BS (B x.r) x.a (B x.t) x.b>=0
  ·have e0:x.d (Al rs)=0:=by
    have e:=A7h.1 (show BS (B x.r) x.a (B x.t) x.b=0 by omega);have w:=JB (p:=Al rs) (JG e);have y:=JB (p:=Al rs) (JG e.symm);unfold Iv.d;omega
   rw[Atk e0];exact Ati rs _ x.r x.t _ _ _ g (BP i) f h
  ·have l:=PB hnice hx.gr x.a (by have:=hx.a;omega) (by omega);have o:=PB hnice hx.gt x.b (by have:=hx.b;omega) (by omega);have q:=xE hnice hlen (by omega) (V_ (by omega)) n x C m hx j hd 0 [] (by omega);have k:=Atj rs _ x.r x.t _ _ _ _ _ _ _ g (Bw i) f h l o q;rw[Cv,Hg] at k;rw[Ac];exact k
end
abbrev Nu:=G × Iv
def EF(z:Nu)(u:Dy):Prop:=sd z.1 z.2 u.1 u.2<=0
theorem We{z:Nu}(h:One z.1 z.2)(u:Dy):EF z u↔¬ dl u z.2.lo'/\VD z.1 u<=VD z.1 z.2.hi':=Tt h u.1 u.2
theorem Hp{z:Nu}(h:One z.1 z.2){u v:Dy}(a:EF z u)(g:dl u v):EF z v:=by
 apply A6;intro n;exact cN h (m:=u.1) (c:=u.2) (m':=v.1) (c':=v.2) a (by unfold EF at n;omega) g
theorem AJe{p:G}{e:Nat}:∀ (n:Nat) (x:Iv),B x.r*2^x.b<B x.t*2^x.a->Deep p e n x->∀ u t:Dy,dl x.lo' u->dl u t->dl t x.hi'->VD p t<VD p u->∃ y∈F3 p n x,¬ EF (p,y) u/\EF (p,y) t:=by
 have one:∀ x:Iv,B x.r*2^x.b<B x.t*2^x.a->x.d p=1->∀ u t:Dy,dl x.lo' u->dl u t->dl t x.hi'->VD p t<VD p u->¬ EF (p,x) u/\EF (p,x) t:=by
  intro x h hd u t h1 _ f i;have j:One p x:=⟨h,hd⟩;have hv:VD p x.lo'-VD p x.hi'=1:=hd;have D:=F4 p h1;have E:=F4 p f;rw[We (z:=(p,x)) j,We (z:=(p,x)) j];refine⟨fun g => ?_,fun g => ?_,?_⟩
  ·have:=g.2;simp only at this;omega
  ·have:=F4 p g;simp only at this;omega
  ·simp only;omega
 intro n;induction n with
 | zero =>
  intro x h hd u t h1 h2 f i;have D:=F4 p h1;have E:=F4 p f;simp only[F3];have e0:VD p x.lo'-VD p x.hi'=x.d p:=rfl;rcases hd with hd | hd
  ·omega
  ·rw[Aw (by omega)];exact⟨x,Ba ..,one x h hd u t h1 h2 f i⟩
 | succ n F =>
  intro x h hd u t h1 h2 f i;have D:=F4 p h1;have E:=F4 p f;have e0:VD p x.lo'-VD p x.hi'=x.d p:=rfl;simp only[F3];by_cases c0:x.d p=0
  ·omega
  rw[Aw c0];by_cases c1:x.d p=1
  ·rw[Ar c1];exact⟨x,Ba ..,one x h c1 u t h1 h2 f i⟩
  rw[Aw c1];rcases hd with hd | hd | ⟨_,l,m⟩
  ·exact absurd hd c0
  ·exact absurd hd c1
  obtain⟨o,q⟩:=cR h;have I:x.lf.hi'=x.rg.lo':=rfl;have left:∀ t:Dy,dl u t->dl t x.lf.hi'->VD p t<VD p u->∃ y∈F3 p n x.lf++F3 p n x.rg,¬ EF (p,y) u/\EF (p,y) t:=by
   intro t s v w;obtain⟨y,a,b⟩:=F x.lf o l u t h1 s v w;exact⟨y,F6 _ a,b⟩
  have right:∀ u:Dy,dl x.rg.lo' u->dl u t->VD p t<VD p u->∃ y∈F3 p n x.lf++F3 p n x.rg,¬ EF (p,y) u/\EF (p,y) t:=by
   intro u s v w;obtain⟨y,a,b⟩:=F x.rg q m u t s v f w;exact⟨y,Ez _ a,b⟩
  rcases DN t x.rg.lo' with c | c
  ·exact left t h2 c i
  rcases DN x.rg.lo' u with k | k
  ·exact right u k h2 i
  by_cases H:VD p x.rg.lo'<VD p u
  ·obtain⟨y,a,A,C⟩:=left x.rg.lo' k (GM _) H;refine⟨y,a,A,?_⟩;have j:One p y:=by
    rcases BD.1 a with a | a
    ·exact Jr n x.lf o l y a
    ·exact Jr n x.rg q m y a
   exact Hp (z:=(p,y)) j C c
  ·obtain⟨y,a,A,C⟩:=right x.rg.lo' (GM _) c (by omega);refine⟨y,a,fun g=>A ?_,C⟩;have j:One p y:=by
    rcases BD.1 a with a | a
    ·exact Jr n x.lf o l y a
    ·exact Jr n x.rg q m y a
   exact Hp (z:=(p,y)) j g k
def Ir:Iv:=⟨z0,0,V 1,0⟩
theorem Hq:W1 0 Ir:=by
 refine⟨?_,?_,?_,?_,A2 _,A2 _⟩ <;> decide
theorem Wf:IvOk 0 0 Ir:=by
 refine⟨Py _,BB (C8 (k:=1) (by decide) (by decide)),A2 _,A2 _,?_,?_⟩ <;> decide
def DT(p:G):List Iv:=KW p 744 Ir
theorem Pg{p:G}(hp:Enp p){u t:Dy}(h1:dl (0,0) u)(h2:dl u t)(d:dl t (1,0))(b:VD p t<VD p u):∃ y∈DT p,¬ EF (p,y) u/\EF (p,y) t:=by
 unfold DT KW;by_cases c:F (Cq p)<2
 ·exfalso;have hz:∀ u:Dy,VD p u=0:=by
   intro u;show Vd p u.1 u.2=0;rw[I8];rw[QB] at c;match e:D2 p with
   | []=>rfl
   | [a] =>
    have f:=aP (CM (Hh a u.1 (2^u.2))) [];have g:=NL [CM (Hh a u.1 (2^u.2))] 0;simp only[IP] at f;show wv 0 [CM (Hh a u.1 (2^u.2))]=0;omega
   | _::_::_=>rw[e] at c;simp at c;omega
  rw[hz,hz] at b;omega
 ·rw[Aw c];exact AJe 744 Ir Hq.lt (Jq hp 744 0 Ir rfl Hq) u t h1 h2 d b
structure Nok (k:Nat) (z:Nu):Prop where
 en:Enp z.1
 one:One z.1 z.2
 w:W1 k z.2
 ok:IvOk 0 k z.2
 lt:sd z.1 z.2 1 0<0
theorem cT{p:G}(hp:Enp p):∀ y∈DT p,sd p y 1 0<0->∃ k,k<=744/\Nok k (p,y):=by
 intro y hy e;unfold DT KW at hy;split at hy
 ·cases hy
 ·have hd:=Jq hp 744 0 Ir rfl Hq;have h1:=Jr 744 Ir Hq.lt hd y hy;obtain⟨j,hj,d⟩:=xB 744 0 Ir Hq y hy;have c:=cH 744 Ir 0 Wf (by decide) y hy;exact⟨j,by omega,hp,h1,d,⟨c.gr,c.gt,d.a,d.b,c.vr,c.vt⟩,e⟩
def Nst(z:Nu):Nu:=(z.1,Jb (O z.1) z.2)
theorem Nok.st{k:Nat}{z:Nu}(h:Nok k z)(a:k+1<8000):Nok (k+1) (Nst z) :=
 ⟨h.en,h.one.half,h.w.once _,Aky h.ok (by omega),by
  have e:=S3 h.one 1 0 1;have:sd z.1 (Jb (O z.1) z.2) 1 0=sd z.1 z.2 1 0:=e;show sd z.1 (Jb (O z.1) z.2) 1 0<0;rw[this];exact h.lt⟩
def Jd(z w:Nu)(s:Int):Prop:=Ms z.1 z.2 w.1 w.2 s
theorem Agx{j k:Nat}{z w:Nu}(hz:Nok j z)(a:Nok k w)(hj:1921<=j)(d:1921<=k)(b:Jd z w (-1)):¬ dl w.2.lo' z.2.hi':=by
 intro g;have e:dl z.2.lo' w.2.hi':=by
  rcases DN w.2.hi' z.2.lo' with c | c
  ·have:=Ms.unique hz.one a.one b (QD a.one c);omega
  ·exact c
 have h:=PF hz.en a.en hz.one a.one hz.w a.w hj d g e;obtain⟨f,i⟩:=Tv hz.en a.en;have:=Ms.unique hz.one a.one b (S4 hz.one a.one f i h);omega
theorem A7n:Enp [-1,1]:=⟨by decide,by decide,by
 intro i;match i with
 | 0=>decide
 | 1=>decide
 | _+2=>simp⟩
def ivE(a:Nat):Iv:=⟨V (2^a-1),a,V 1,0⟩
theorem A7o:D2 [-1,1]=[[-1,1],[1]]:=by decide +kernel
theorem xF(a:Nat):One [-1,1] (ivE a):=by
 have c:=Bz a;have h1:B (V 1)=1:=AO 1;refine⟨?_,?_⟩
 ·show B (V (2^a-1))*2^0<B (V 1)*2^a;rw[AO,AO];omega
 ·show Vd [-1,1] (B (V (2^a-1))) a-Vd [-1,1] (B (V 1)) 0=1;rw[AO,AO,I8,I8,A7o];have e:∀ x q:Int,Hh [-1,1] x q=x-q:=fun x q=>by simp[Hh,hp,hs];rw[Int.pow_one];omega
  have b:∀ x q:Int,Hh [1] x q=1:=fun x q=>by simp[Hh,hp,hs]
  have s:∀ x q:Int,EH [[-1,1],[1]] x q=[CM (x-q),1]:=fun x q=>by simp[EH,e,b];rfl
  rw[s,s,Gu.2 (show (2:Int)^a-1-2^a<0 by omega),show CM ((1:Int)-2^0)=0 from rfl];decide
theorem AFb(a:Nat):W1 a (ivE a):=by
 have b:=Bz a;refine⟨(xF a).lt,?_,?_,?_,A2 _,A_ _⟩
 ·show (B (V 1)*2^a-B (V (2^a-1))*2^0)*2^a<=2^a*2^0;rw[AO,AO,show (1:Int)*2^a-(2^a-1)*2^0=1 by omega];omega
 ·show 0<=B (V (2^a-1));rw[AO];omega
 ·show B (V 1)<=2^0;rw[AO];decide
theorem A7p{f:G}(q:Af f ≠ [])(h:¬ F (Ch f [-1,1])<2):Ah f 1=0:=by
 obtain⟨⟨c,k,hc,r⟩,⟨d,m,hd,j⟩,_⟩:=Gd f [-1,1];have i:=El f [-1,1];have s:=Lw (t:=[-1,1]) q;generalize Ch f [-1,1]=g at *
 obtain⟨C,l⟩:=RX hd s j;have i:Af g=g:=i;have y:F g=2:=by
  have:=(Dv.length ⟨d,m,hd,j⟩ (show Af [-1,1] ≠ [] by decide)).1;rw[i,show F (Af [-1,1])=2 by decide] at this;omega
 match g,y with
 | [a,b],_ =>
  have n:∀ x,Ah [a,b] x=a+b*x:=fun x=>by simp[Ah];grind
  have z:∀ x,Ah [-1,1] x=x-1:=fun x=>by simp[Ah];omega
  have D:b ≠ 0:=by
   have:=EN (show Cw [a,b] from i) (by simp);exact this
  have o:=l 0;have h2:=l 2;rw[n,z] at o h2;have p:∀ u v w:Int,I w=1->w=u*v->I u=1:=fun u v w A e=>by
   have:=congrArg I e;rw[C1,A] at this;exact Nat.dvd_one.1 ⟨I v,this⟩
  have u0:=p _ _ _ (by decide) o;have E:=p _ _ _ (by decide) h2;have B:a+b*1=0:=by omega
  have h1:=r 1;rw[n,B,Cs] at h1;exact (F5.1 h1).resolve_left hc
theorem cU{k:Nat}{z:Nu}(hz:Nok k z)(d:1921<=k):¬ dl (1,0) z.2.hi':=by
 intro g;have b:(1:Int)*2^z.2.b<=B z.2.t*2^0:=g;have i:B z.2.t=2^z.2.b:=by have:=hz.w.hi;omega
 have j:=Bz z.2.b;have p:B z.2.r<2^z.2.a:=by
  have c:=hz.w.lt;rw[i,AT (2^z.2.b)] at c;exact CY c (A9 j)
 have hs:¬ Dl (O z.1) 1 0=0:=by
  intro e;have l:=NU hz.one (m:=1) (c:=0) (by omega) b;have:=l.2.2 e;have:=hz.lt;omega
 obtain⟨f,s⟩:∃ f,f=1921:=⟨_,rfl⟩;have u:=Bz f;have h:=PF hz.en A7n hz.one (xF f) hz.w (AFb f) d (by omega) (CV (v:=(1,0)) (by
  show B (V (2^f-1))*2^0<=1*2^f;rw[AO];omega) g) (by
  show B z.2.r*2^0<=B (V 1)*2^z.2.a;rw[AO];omega)
 have n:O [-1,1]=[-1,1]:=by decide +kernel
 rw[n] at h;have o:=NX hz.en.ne;have h2:=A7p o (fun c=>by
  have:=UJ (q:=[-1,1]) hz.en.ne c (J2 z.2.lo' (ivE f).lo') (IH z.2.hi' (ivE f).hi');unfold YF at h;omega)
 apply hs;unfold Dl;rw[show (2:Int)^0=1 from rfl,ACk,h2];rfl
abbrev l:=List (List D)
def qC:ICode:=a Aau 93 116
section
variable(n f i:Int)
def S7:Az:=N n::L 2 (N f::N i::L 9 [])
theorem A7q(c1:E (i<=n)=true):Z qC (S7 n f i) .norm (S7 n (Q X (f*i)) (Q X (i+1))):=Ab h [bT] [0,3,4] (BO c1)
theorem A7r(c1:E (i<=n)=false):Z qC (S7 n f i) xZ0 (S7 n f i):=Ab h [bF] [0,3,4] (BO c1)
end
theorem A7s(n f i:Int)(a:Z (.loop qC) (S7 n 1 2) xZ0 (S7 n f i)):T 186 [J X n] (J X f):=CQ Aau (L 2 (N f::L 11 [])) (As (AA (Ag (Ab h [] [0,3,4] a0) (Ag (A7 a) (Ab h [] [2] a0)))))
theorem A7t(n k a b c:Int)(d:¬ (Q X (b*c))=0)(e:T 186 [J X n] (J X a))(f:T 186 [J X k] (J X b))(g:T 186 [J X (Q X (n-k))] (J X c)):T 185 [J X n,J X k] (J X (Q X (AF a (Q X (b*c))))):=Bc (fn:=iF AC Azt) h rfl 400 rfl [.r (J X a),.r (J X b),.r (J X c)] (FJ e f g d)
theorem A7u(a:T 132 [J X 1] (M 1)):T 169 [] (A4 (V 1) 0):=Bc (fn:=iF AC Azq) h rfl 400 rfl [.r (M 1)] (BO a)
def UL:ICode:=a mU 94 52
section
variable(o:Int)(rs:D)(a i:Int)
def KY:Az:=L 2 (N o::L 3 (C (sL S rs)::N a::N i::L 9 []))
theorem A7v(s:Int)(c1:E (i<a)=true)(c:(s != 0)=true)(b:0<=i/\i<F rs)(d:T 101 [AB (H rs (Y i) z0)] (J X s)):Z UL (KY o rs a i) .ret (KY s rs a i):=Ab h [bT,.v (AB (H rs (Y i) z0)),.r (J X s),bT] sM (Ff c1 b (BZ b) d c)
theorem A7w(s:Int)(c1:E (i<a)=true)(c:(s != 0)=false)(b:0<=i/\i<F rs)(d:T 101 [AB (H rs (Y i) z0)] (J X s)):Z UL (KY o rs a i) .norm (KY o rs a (Q X (i+1))):=Ab h [bT,.v (AB (H rs (Y i) z0)),.r (J X s),bF] sM (Ff c1 b (BZ b) d c)
theorem A7x(c1:E (i<a)=false):Z UL (KY o rs a i) xZ0 (KY o rs a i):=Ab h [bF] sM (BO c1)
end
theorem A7y(rs:D)(i:Int)(a:Z (.loop UL) (KY 0 rs (F rs) 0) xZ0 (KY 0 rs (F rs) i)):T 167 [sL S rs] (J X 0):=CQ mU (L 2 (N 0::L 15 [])) (AA (Ag (Ab h [] sM a0) (Ag (A7 a) (Ab h [] [2] a0))))
theorem Atm(rs:D)(z i:Int)(a:Z (.loop UL) (KY 0 rs (F rs) 0) .ret (KY z rs (F rs) i)):T 167 [sL S rs] (J X z):=CQ mU (L 2 (N z::L 3 (C (sL S rs)::N (F rs:Int)::N i::L 9 []))) (AA (Ag (Ab h [] sM a0) (AG (BT a))))
def QF:ICode:=a ZC 84 62612
section
variable(rs:D)(d e:Bool)(n i:Int)(b:Rn)(k:Int)
def II:Az:=C (sL S rs)::L 1 (C (W d)::C (W e)::N n::N i::AH [W b.1,P (F b.2) (A b.2)]::N k::L 44 [])
theorem Atn(a u c x y z:Int)(c1:E (k<=i)=true)(f:0<=k/\k<F rs)(g:T 185 [J X i,J X k] (J X c))(j:T 186 [J X k] (J X a))(l:T 186 [J X (Q X (n-k))] (J X u))(m:T 132 [J X (Q X (c*Q X (a*u)))] (M x))(o:T 112 [AB (H rs (Y k) z0),M x] (M y))(p:T 111 [AB b,M y] (M z)):Z QF (II rs d e n i b k) .norm (II rs d e n i (V z) (Q X (k+1))):=Ab h [bT,.v (AB (H rs (Y k) z0)),.r (J X c),.r (J X a),.r (J X u),.r (M x),.r (M y),.r (M z)] gT (M3 c1 f (BZ f) g j l m o p)
theorem Ato(c1:E (k<=i)=false):Z QF (II rs d e n i b k) xZ2 (II rs d e n i b k):=Ab h [bF] gT (BO c1)
end
def UM:ICode:=a ZC 92 244
section
variable(rs:D)(b1 b2:Bool)(n i:Int)
def KZ:Az:=C (sL S rs)::L 1 (C (W b1)::C (W b2)::N n::N i::L 46 [])
theorem A7z(z:Rn)(k s:Int)(c1:E (i<=n)=true)(a:(s==1)=true)(b:Z (.loop QF) (II rs b1 b2 n i (false,[]) 0) xZ2 (II rs b1 b2 n i z k))(c:T 101 [AB z] (J X s)):Z UM (KZ rs b1 b2 n i) .norm (KZ rs false b2 n (Q X (i+1))):=Ag (Ab (t:=(vp rs::L 1 (C (W b1)::C (W b2)::N n::N i::L 46 []))) h [bT] JN (BO c1)) (Ag (Bo (AA (Ag (Ab h [] gT a0) (Ag (A7 b) (Ab (t:=(vp rs::L 1 (C (W false)::C (W b2)::N n::N i::L 46 []))) h [.r (J X s),bT] JN (DH c a)))))) (Ab h [] JN a0))
theorem A8a(z:Rn)(k s:Int)(c1:E (i<=n)=true)(a:(s==1)=false)(d:(s==(-1))=true)(b:Z (.loop QF) (II rs b1 b2 n i (false,[]) 0) xZ2 (II rs b1 b2 n i z k))(c:T 101 [AB z] (J X s)):Z UM (KZ rs b1 b2 n i) .norm (KZ rs b1 false n (Q X (i+1))):=Ag (Ab (t:=(vp rs::L 1 (C (W b1)::C (W b2)::N n::N i::L 46 []))) h [bT] JN (BO c1)) (Ag (Bo (AA (Ag (Ab h [] gT a0) (Ag (A7 b) (Ab (t:=(vp rs::L 1 (C (W b1)::C (W false)::N n::N i::L 46 []))) h [.r (J X s),bF,bT] JN (Gy c a d)))))) (Ab h [] JN a0))
theorem A8b(z:Rn)(k s:Int)(c1:E (i<=n)=true)(a:(s==1)=false)(d:(s==(-1))=false)(b:Z (.loop QF) (II rs b1 b2 n i (false,[]) 0) xZ2 (II rs b1 b2 n i z k))(c:T 101 [AB z] (J X s)):Z UM (KZ rs b1 b2 n i) .norm (KZ rs b1 b2 n (Q X (i+1))):=Ag (Ab (t:=(vp rs::L 1 (C (W b1)::C (W b2)::N n::N i::L 46 []))) h [bT] JN (BO c1)) (Ag (Bo (AA (Ag (Ab h [] gT a0) (Ag (A7 b) (Ab (t:=(vp rs::L 1 (C (W b1)::C (W b2)::N n::N i::L 46 []))) h [.r (J X s),bF,bF] JN (Gy c a d)))))) (Ab h [] JN a0))
theorem A8c(c1:E (i<=n)=false):Z UM (KZ rs b1 b2 n i) xZ0 (KZ rs b1 b2 n i):=AG (Ab h [bF] JN (BO c1))
end
section
variable(rs:D)(a b:Bool)(i:Int)
theorem Agy(c1:b=true)(c:Z (.loop UM) (KZ rs true true (Q X (F rs-1)) 0) xZ0 (KZ rs a b (Q X (F rs-1)) i)):T 166 [sL S rs] (A3 [W a,W (!a)]):=CQ ZC (L 2 (C (W a)::C (W (!a))::L 48 [])) (As (As (AA (Ag (Ab h [] JN a0) (Ag (A7 c) (Ab h [bT] RI (BO c1)))))))
theorem Agz(c1:b=false)(c:Z (.loop UM) (KZ rs true true (Q X (F rs-1)) 0) xZ0 (KZ rs a b (Q X (F rs-1)) i)):T 166 [sL S rs] (A3 [W a,W false]):=CQ ZC (L 2 (C (W a)::C (W false)::L 48 [])) (As (As (AA (Ag (Ab h [] JN a0) (Ag (A7 c) (Ab h [bF] RI (BO c1)))))))
end
theorem Tw:∀ (l:List Rt) (i:Nat),(C2 l).take (i*7)=C2 (l.take i)
 | [],i=>by simp[C2]
 | x::l,0=>rfl
 | x::l,i+1=>by
  rw[List.take_succ_cons,C2,C2,<- Tw l i,List.take_append,show F x.cs=7 from rfl,show (i+1)*7-7=i*7 by omega,Dt (show F x.cs<=(i+1)*7 by show 7<=_;omega)]
section
variable{l:List Rt}{n:Nat}
theorem Tx(hn:F l=n){X:Int}(h:0<=X/\X<n):BQ (C2 l) (Y X*7) 7 false=some (Ao (H l (Y X) zR).cs):=by
 subst hn;have k:=Ev h;have g:=FA l;have d:=FK h;unfold BQ at k |-;simp only[CI,if_false,DA,CX,Cv] at k |-;rw[Ar (by omega)] at k;rw[Ar (by omega)];exact k
theorem N0(hn:F l=n){a:Int}(h:0<=a/\a<n):BQ (C2 l) (Y a*7+1) 3 false=some (A4 (H l (Y a) zR).r (H l (Y a) zR).e)/\BQ (C2 l) (Y a*7+4) 3 false=some (A4 (H l (Y a) zR).t (H l (Y a) zR).f):=by
 subst hn;obtain⟨b,c⟩:=UK h;have g:=FA l;have d:=FK h;unfold BQ at b c |-;simp only[CI,if_false,CX,Mx,Cv] at b c |-;rw[Ar (by omega)] at b c;rw[Ar (by omega),Ar (by omega)];exact⟨b,c⟩
theorem Xt(hn:F l=n){a:Int}(h:0<=a/\a<n){x:Rt}:Di (C2 l) (Y a*7) x.cs=some (C2 (l.set (Y a) x)):=by
 subst hn;have g:=FA l;have d:=FK h;have hc:F x.cs=7:=rfl;unfold Di;rw[Ar (by omega),hc,Rq,Ar d,K0,Tw,C2,<- Ns,Iu,show (Y a+1)*7=Y a*7+7 by omega]
end
def Ty:ICode:=a RE 73 122480248
section
variable(ls:List D)(a i:Int)(k:Nat)(cs:AK)(l:List Rt)(M j:Int)(fs:D)(r:Rn)(e:Int)(t:Rn)(f p:Int)(b:Bool)
def JZ:Az:=L 3 (Ak 7 k cs::L 5 (GW fs r e t f::N p::C (W b)::L 2 (C (sL pp ls)::N a::N i::L 10 (C (P (F l) (C2 l))::N M::N j::L 103 []))))
theorem Atp(x:Rt)(s:Int)(c1:E (p>0)=true)(c:b=false)(d:E (s>=0)=true)(g:0<=Q X (p-1)/\Q X (p-1)<(k:Int))(m:BQ cs (Y (Q X (p-1))*7) 7 false=some (Bh x.fs x.r x.e x.t x.f))(n:T 74 [Bh fs r e t f,Bh x.fs x.r x.e x.t x.f] (J X s)):Z Ty (JZ ls a i k cs l M j fs r e t f p b) xZ4 (JZ ls a i k cs l M j fs r e t f p (s==0)):=Ab h [bT,bT,.v (Bh x.fs x.r x.e x.t x.f),.r (J X s),bT] ZG (Gm c1 (Vo c) g m n d)
theorem Atq(x:Rt)(s:Int)(c1:E (p>0)=true)(c:b=false)(d:E (s>=0)=false)(g:0<=Q X (p-1)/\Q X (p-1)<(k:Int))(m:BQ cs (Y (Q X (p-1))*7) 7 false=some (Bh x.fs x.r x.e x.t x.f))(n:T 74 [Bh fs r e t f,Bh x.fs x.r x.e x.t x.f] (J X s)):Z Ty (JZ ls a i k cs l M j fs r e t f p b) .norm (JZ ls a i k cs l M j fs r e t f (Q X (p-1)) (s==0)):=Ab h [bT,bT,.v (Bh x.fs x.r x.e x.t x.f),.r (J X s),bF] ZG (Gm c1 (Vo c) g m n d)
theorem Atr(c1:E (p>0)=false):Z Ty (JZ ls a i k cs l M j fs r e t f p b) xZ4 (JZ ls a i k cs l M j fs r e t f p b):=Ab h [bF,bF] ZG (DH c1 F9)
end
def OK:ICode:=a RE 84 59804
section
variable(ls:List D)(a i:Int)(k:Nat)(cs:AK)(l:List Rt)(M j:Int)
def HB:Az:=L 3 (Ak 7 k cs::L 10 (C (sL pp ls)::N a::N i::L 10 (C (P (F l) (C2 l))::N M::N j::L 103 [])))
theorem Ats(s:Int)(c1:E (j<M)=true)(d:E (s>=0)=true)(c:0<=j/\j<F l)(g:T 169 [] (A4 (V 1) 0))(m:T 76 [Bh ((H l (Y j) zR).fs) ((H l (Y j) zR).r) ((H l (Y j) zR).e) ((H l (Y j) zR).t) ((H l (Y j) zR).f),A4 (V 1) 0] (J X s)):Z OK (HB ls a i k cs l M j) .norm (HB ls a i k cs l M (Q X (j+1))):=As (Ag (Ab (t:=L 3 (Ak 7 k cs::L 10 (C (sL pp ls)::N a::N i::L 10 (C (P (F l) (C2 l))::N M::N j::L 103 [])))) h [bT] Q_ (BO c1)) (Ag (A7 (As (As (As (AG (Ab (t:=L 3 (Ak 7 k cs::L 10 (C (sL pp ls)::N a::N i::L 10 (C (P (F l) (C2 l))::N M::N j::L 103 [])))) (ex:=xZ3) h [.v (Bh ((H l (Y j) zR).fs) ((H l (Y j) zR).r) ((H l (Y j) zR).e) ((H l (Y j) zR).t) ((H l (Y j) zR).f)),.r (A4 (V 1) 0),.r (J X s),bT] Q_ (Ff c (Ev c) g m d))))))) (Ab h [] Q_ a0)))
theorem Att(s p:Int)(b:Bool)(c1:E (j<M)=true)(d:E (s>=0)=false)(n:b=true)(c:0<=j/\j<F l)(g:T 169 [] (A4 (V 1) 0))(m:T 76 [Bh ((H l (Y j) zR).fs) ((H l (Y j) zR).r) ((H l (Y j) zR).e) ((H l (Y j) zR).t) ((H l (Y j) zR).f),A4 (V 1) 0] (J X s))(o:Z (.loop Ty) (JZ ls a i k cs l M j ((H l (Y j) zR).fs) ((H l (Y j) zR).r) ((H l (Y j) zR).e) ((H l (Y j) zR).t) ((H l (Y j) zR).f) k false) xZ4 (JZ ls a i k cs l M j ((H l (Y j) zR).fs) ((H l (Y j) zR).r) ((H l (Y j) zR).e) ((H l (Y j) zR).t) ((H l (Y j) zR).f) p b)):Z OK (HB ls a i k cs l M j) .norm (HB ls a i k cs l M (Q X (j+1))):=As (Ag (Ab (t:=L 3 (Ak 7 k cs::L 10 (C (sL pp ls)::N a::N i::L 10 (C (P (F l) (C2 l))::N M::N j::L 103 [])))) h [bT] Q_ (BO c1)) (Ag (Bo (As (As (As (Ag (Ab h [.v (Bh ((H l (Y j) zR).fs) ((H l (Y j) zR).r) ((H l (Y j) zR).e) ((H l (Y j) zR).t) ((H l (Y j) zR).f)),.r (A4 (V 1) 0),.r (J X s),bF] ZG (Ff c (Ev c) g m d)) (Ag (A7 o) (Ab (t:=L 3 (Ak 7 k cs::L 10 (C (sL pp ls)::N a::N i::L 10 (C (P (F l) (C2 l))::N M::N j::L 103 [])))) h [bF] Q_ (BO (KA n))))))))) (Ab h [] Q_ a0)))
theorem Atu(s p:Int)(b:Bool)(c1:E (j<M)=true)(d:E (s>=0)=false)(n:b=false)(c:0<=j/\j<F l)(g:T 169 [] (A4 (V 1) 0))(m:T 76 [Bh ((H l (Y j) zR).fs) ((H l (Y j) zR).r) ((H l (Y j) zR).e) ((H l (Y j) zR).t) ((H l (Y j) zR).f),A4 (V 1) 0] (J X s))(o:Z (.loop Ty) (JZ ls a i k cs l M j ((H l (Y j) zR).fs) ((H l (Y j) zR).r) ((H l (Y j) zR).e) ((H l (Y j) zR).t) ((H l (Y j) zR).f) k false) xZ4 (JZ ls a i k cs l M j ((H l (Y j) zR).fs) ((H l (Y j) zR).r) ((H l (Y j) zR).e) ((H l (Y j) zR).t) ((H l (Y j) zR).f) p b))(q:0<=p)(u:0<=Y p/\Y p<=k)(w:Y p<=k/\k<=k)(x:k<=k/\1+(k-(Y p))<=1048576)(y:Y p<=k)(z:F (([sL S ((H l (Y j) zR).fs),W (((H l (Y j) zR).r).1),sL A (((H l (Y j) zR).r).2),J X ((H l (Y j) zR).e),W (((H l (Y j) zR).t).1),sL A (((H l (Y j) zR).t).2),J X ((H l (Y j) zR).f)]:AK)++BF ((k-(Y p))*7) (AL (Y p*7) cs))=(1+(k-(Y p)))*7/\Y p+(1+(k-(Y p)))<=1048576):Z OK (HB ls a i k cs l M j) .norm (HB ls a i (Y p+(1+(k-(Y p)))) (BF (Y p*7) cs++(([sL S ((H l (Y j) zR).fs),W (((H l (Y j) zR).r).1),sL A (((H l (Y j) zR).r).2),J X ((H l (Y j) zR).e),W (((H l (Y j) zR).t).1),sL A (((H l (Y j) zR).t).2),J X ((H l (Y j) zR).f)]:AK)++BF ((k-(Y p))*7) (AL (Y p*7) cs))) l M (Q X (j+1))):=As (Ag (Ab (t:=L 3 (Ak 7 k cs::L 10 (C (sL pp ls)::N a::N i::L 10 (C (P (F l) (C2 l))::N M::N j::L 103 [])))) h [bT] Q_ (BO c1)) (Ag (Bo (As (As (As (Ag (Ab h [.v (Bh ((H l (Y j) zR).fs) ((H l (Y j) zR).r) ((H l (Y j) zR).e) ((H l (Y j) zR).t) ((H l (Y j) zR).f)),.r (A4 (V 1) 0),.r (J X s),bF] ZG (Ff c (Ev c) g m d)) (Ag (A7 o) (Ab (t:=L 3 (Ak 7 (Y p+(1+(k-(Y p)))) (BF (Y p*7) cs++(([sL S ((H l (Y j) zR).fs),W (((H l (Y j) zR).r).1),sL A (((H l (Y j) zR).r).2),J X ((H l (Y j) zR).e),W (((H l (Y j) zR).t).1),sL A (((H l (Y j) zR).t).2),J X ((H l (Y j) zR).f)]:AK)++BF ((k-(Y p))*7) (AL (Y p*7) cs)))::L 10 (C (sL pp ls)::N a::N i::L 10 (C (P (F l) (C2 l))::N M::N j::L 103 [])))) h [bT] Q_ (Ip (Vo n) q u q w x y z)))))))) (Ab h [] Q_ a0)))
theorem Atv(c1:E (j<M)=false):Z OK (HB ls a i k cs l M j) xZ2 (HB ls a i k cs l M j):=As (AG (Ab h [bF] Q_ (BO c1)))
end
def Tz:ICode:=a RE 93 116
section
variable(ls:List D)(a i:Int)(k:Nat)(cs:AK)
def J':Az:=L 3 (Ak 7 k cs::L 10 (C (sL pp ls)::N a::N i::L 116 []))
theorem Atw(l:List Rt)(ok:Bool)(j:Int)(b:Nat)(c:AK)(c1:E (i<a)=true)(d:0<=i/\i<F ls)(e:T 169 [] (A4 (V 1) 0))(f:T 56 [sL S (H ls (Y i) []),Ao [W false,P 0 [],J X 0],A4 (V 1) 0,J X 1073741824] (A3 [P (F l) (C2 l),W ok]))(g:Z (.loop OK) (HB ls a i k cs l (F l) 0) xZ2 (HB ls a i b c l (F l) j)):Z Tz (J' ls a i k cs) .norm (J' ls a (Q X (i+1)) b c):=As (Ag (Ab (t:=L 3 (Ak 7 k cs::L 10 (C (sL pp ls)::N a::N i::L 116 []))) h [bT] gX (BO c1)) (Ag (Bo (As (As (Ag (Ab h [.v (sL S (H ls (Y i) [])),.r (A4 (V 1) 0),.r (A3 [P (F l) (C2 l),W ok])] Q_ (FJ d (B3 d) e f)) (A7 g))))) (Ab h [] gX a0)))
theorem Atx(c1:E (i<a)=false):Z Tz (J' ls a i k cs) xZ0 (J' ls a i k cs):=As (AG (Ab h [bF] gX (BO c1)))
theorem Aha(l:List Rt)(ok:Bool)(j:Int)(b:Nat)(c:AK)(c1:E (i<a)=true)(d:0<=i/\i<F ls)(e:T 169 [] (A4 (V 1) 0))(f:T 56 [sL S (H ls (Y i) []),Ao [W false,P 0 [],J X 0],A4 (V 1) 0,J X 1073741824] (.frs (.tp ok) 7 (F l) (C2 l)))(g:Z (.loop OK) (HB ls a i k cs l (F l) 0) xZ2 (HB ls a i b c l (F l) j)):Z Tz (J' ls a i k cs) .norm (J' ls a (Q X (i+1)) b c):=As (Ag (Ab (t:=L 3 (Ak 7 k cs::L 10 (C (sL pp ls)::N a::N i::L 116 []))) h [bT] gX (BO c1)) (Ag (Bo (As (As (Ag (Ab h [.v (sL S (H ls (Y i) [])),.r (A4 (V 1) 0),.r (.frs (.tp ok) 7 (F l) (C2 l))] Q_ (FJ d (B3 d) e f)) (A7 g))))) (Ab h [] gX a0)))
end
def QG:ICode:=a RE 84 62664
section
variable(n:Nat)(l:List Rt)(a i:Int)
def Js:Az:=L 3 (Ak 7 n (C2 l)::L 9 (N i::L 59 (N a::N i::L 58 [])))
theorem Aty(x y:Rt)(c:Int)(c1:E (Q X (i+1)<(n:Int))=true)(j:E (c>=0)=true)(b:0<=i/\i<n)(g:F l=n)(d:0<=Q X (i+1)/\Q X (i+1)<(n:Int))(k:F (l.set (Y i) x)=n)(m:T 55 [A4 ((H l (Y i) zR).t) ((H l (Y i) zR).f),A4 ((H l (Y (Q X (i+1))) zR).r) ((H l (Y (Q X (i+1))) zR).e)] (J X c))(o:T 82 [Bh ((H l (Y i) zR).fs) ((H l (Y i) zR).r) ((H l (Y i) zR).e) ((H l (Y i) zR).t) ((H l (Y i) zR).f)] (Bh x.fs x.r x.e x.t x.f))(p:T 82 [Bh ((H l (Y (Q X (i+1))) zR).fs) ((H l (Y (Q X (i+1))) zR).r) ((H l (Y (Q X (i+1))) zR).e) ((H l (Y (Q X (i+1))) zR).t) ((H l (Y (Q X (i+1))) zR).f)] (Bh y.fs y.r y.e y.t y.f)):Z QG (Js n l a i) .norm (Js n ((l.set (Y i) x).set (Y (Q X (i+1))) y) a i):=Ab h [bT,.v (A4 ((H l (Y i) zR).t) ((H l (Y i) zR).f)),.v (A4 ((H l (Y (Q X (i+1))) zR).r) ((H l (Y (Q X (i+1))) zR).e)),.r (J X c),bT,.v (Bh ((H l (Y i) zR).fs) ((H l (Y i) zR).r) ((H l (Y i) zR).e) ((H l (Y i) zR).t) ((H l (Y i) zR).f)),.r (Bh x.fs x.r x.e x.t x.f),.v (Bh ((H l (Y (Q X (i+1))) zR).fs) ((H l (Y (Q X (i+1))) zR).r) ((H l (Y (Q X (i+1))) zR).e) ((H l (Y (Q X (i+1))) zR).t) ((H l (Y (Q X (i+1))) zR).f)),.r (Bh y.fs y.r y.e y.t y.f),.l (C2 (l.set (Y i) x)),.l (C2 ((l.set (Y i) x).set (Y (Q X (i+1))) y))] gW (OX c1 b (N0 g b).2 d (N0 g d).1 m j b (M3 (Tx g b) o d (Tx g d) p b (show Di (C2 l) (Y i*7) [P (F x.fs) (S x.fs),W x.r.1,P (F x.r.2) (A x.r.2),J X x.e,W x.t.1,P (F x.t.2) (A x.t.2),J X x.f]=some (C2 (l.set (Y i) x)) from (Xt (x:=x) g b)) d (show Di (C2 (l.set (Y i) x)) (Y (Q X (i+1))*7) [P (F y.fs) (S y.fs),W y.r.1,P (F y.r.2) (A y.r.2),J X y.e,W y.t.1,P (F y.t.2) (A y.t.2),J X y.f]=some (C2 ((l.set (Y i) x).set (Y (Q X (i+1))) y)) from (Xt (x:=y) k d))))
theorem Atz(c:Int)(c1:E (Q X (i+1)<(n:Int))=true)(j:E (c>=0)=false)(b:0<=i/\i<n)(g:F l=n)(d:0<=Q X (i+1)/\Q X (i+1)<(n:Int))(k:T 55 [A4 ((H l (Y i) zR).t) ((H l (Y i) zR).f),A4 ((H l (Y (Q X (i+1))) zR).r) ((H l (Y (Q X (i+1))) zR).e)] (J X c)):Z QG (Js n l a i) xZ8 (Js n l a i):=Ab h [bT,.v (A4 ((H l (Y i) zR).t) ((H l (Y i) zR).f)),.v (A4 ((H l (Y (Q X (i+1))) zR).r) ((H l (Y (Q X (i+1))) zR).e)),.r (J X c),bF] gW (GZ c1 b (N0 g b).2 d (N0 g d).1 k j)
theorem Aua(c1:E (Q X (i+1)<(n:Int))=false):Z QG (Js n l a i) xZ8 (Js n l a i):=Ab h [bF,bF] gW (DH c1 F9)
end
def Wg:ICode:=a RE 84 62668
section
variable(n:Nat)(l:List Rt)(a i:Int)
def M_:Az:=L 3 (Ak 7 n (C2 l)::L 9 (N i::L 59 (N a::N i::L 58 [])))
theorem Aub(x:Rt)(c:Int)(c1:E (c>=0)=true)(b:0<=i/\i<n)(d:F l=n)(g:T 169 [] (A4 (V 1) 0))(j:T 55 [A4 ((H l (Y i) zR).t) ((H l (Y i) zR).f),A4 (V 1) 0] (J X c))(k:T 82 [Bh ((H l (Y i) zR).fs) ((H l (Y i) zR).r) ((H l (Y i) zR).e) ((H l (Y i) zR).t) ((H l (Y i) zR).f)] (Bh x.fs x.r x.e x.t x.f)):Z Wg (M_ n l a i) .norm (M_ n (l.set (Y i) x) a i):=Ab h [.v (A4 ((H l (Y i) zR).t) ((H l (Y i) zR).f)),.r (A4 (V 1) 0),.r (J X c),bT,.v (Bh ((H l (Y i) zR).fs) ((H l (Y i) zR).r) ((H l (Y i) zR).e) ((H l (Y i) zR).t) ((H l (Y i) zR).f)),.r (Bh x.fs x.r x.e x.t x.f),.l (C2 (l.set (Y i) x))] gW (Kw b (N0 d b).2 g j c1 b (Tx d b) k b (show Di (C2 l) (Y i*7) [P (F x.fs) (S x.fs),W x.r.1,P (F x.r.2) (A x.r.2),J X x.e,W x.t.1,P (F x.t.2) (A x.t.2),J X x.f]=some (C2 (l.set (Y i) x)) from (Xt (x:=x) d b)))
theorem Auc(c:Int)(c1:E (c>=0)=false)(b:0<=i/\i<n)(d:F l=n)(g:T 169 [] (A4 (V 1) 0))(j:T 55 [A4 ((H l (Y i) zR).t) ((H l (Y i) zR).f),A4 (V 1) 0] (J X c)):Z Wg (M_ n l a i) (.exit 10) (M_ n l a i):=Ab h [.v (A4 ((H l (Y i) zR).t) ((H l (Y i) zR).f)),.r (A4 (V 1) 0),.r (J X c),bF] gW (Ff b (N0 d b).2 g j c1)
end
def Wh:ICode:=a RE 92 244
section
variable(n:Nat)(l:List Rt)(a i:Int)
def L_:Az:=L 3 (Ak 7 n (C2 l)::L 69 (N a::N i::L 58 []))
theorem kK(b c:List Rt)(c1:E (i<a)=true)(d:Z (.loop QG) (Js n l a i) xZ8 (Js n b a i))(e:Z (.loop Wg) (M_ n b a i) (.exit 10) (M_ n c a i)):Z Wh (L_ n l a i) .norm (L_ n c a (Q X (i+1))):=As (Ag (Ab (t:=L 3 (Ak 7 n (C2 l)::L 69 (N a::N i::L 58 []))) h [bT] [3,73,74] (BO c1)) (Ag (Bo (Ag (Ab h [] gW a0) (Ag (A7 d) (A7 e)))) (Ab h [] [3,73,74] a0)))
theorem Aud(c1:E (i<a)=false):Z Wh (L_ n l a i) xZ6 (L_ n l a i):=As (AG (Ab h [bF] [3,73,74] (BO c1)))
end
theorem A8d(ls:List D)(l a:List Rt)(i b:Int)(c:Z (.loop Tz) (J' ls (F ls) 0 0 ([]:AK)) xZ0 (J' ls (F ls) i (F l) (C2 l)))(d:Z (.loop Wh) (L_ (F l) l (F l) 0) xZ6 (L_ (F l) a (F l) b)):T 168 [sL pp ls] (Ae 7 (F l) (C2 a)):=CQ RE (L 2 (Ak 7 (F l) (C2 a)::L 130 [])) (As (AA (Ag (Ab h [] gX a0) (Ag (A7 c) (Ag (Ag (Ab h [] [3,73,74] a0) (A7 d)) (Ab h [] [2] a0))))))
def Ij:ICode:=a RD 91 436
section
variable(o:Bool)(k:Nat)(cs:AK)(nw:Bool)(ls:List D)(a i:Int)
def E9:Az:=L 2 (AH [P 0 [],W false,P 0 [],J X 0,W false,P 0 [],J X 0]::C (W o)::Ak 1 k cs::C (W nw)::L 11 (C (sL pp ls)::N a::N i::L 67 []))
theorem Aue(ts:D)(b c:Bool)(c1:E (i<a)=true)(e:b=true)(d:0<=i/\i<F ls)(f:T 66 [sL S (H ls (Y i) [])] (Ae 2 (F ts) (S ts)))(g:T 166 [sL S ts] (A3 [W b,W c])):Z Ij (E9 o k cs nw ls a i) .ret (E9 false k cs nw ls a i):=Ab h [bT,.v (sL S (H ls (Y i) [])),.r (Ae 2 (F ts) (S ts)),.r (A3 [W b,W c]),bT] Vn (Gm c1 d (B3 d) f g e)
theorem Auf(ts:D)(b c:Bool)(c1:E (i<a)=true)(e:b=false)(j:c=true)(d:0<=i/\i<F ls)(f:T 66 [sL S (H ls (Y i) [])] (Ae 2 (F ts) (S ts)))(g:T 166 [sL S ts] (A3 [W b,W c])):Z Ij (E9 o k cs nw ls a i) .norm (E9 o k cs nw ls a (Q X (i+1))):=Ab h [bT,.v (sL S (H ls (Y i) [])),.r (Ae 2 (F ts) (S ts)),.r (A3 [W b,W c]),bF,bF] Vn (GZ c1 d (B3 d) f g e (KA j))
theorem Aug(ts:D)(b c:Bool)(s:Int)(c1:E (i<a)=true)(e:b=false)(j:c=false)(l:nw=true)(d:0<=i/\i<F ls)(f:k+1<=1048576)(g:T 66 [sL S (H ls (Y i) [])] (Ae 2 (F ts) (S ts)))(m:T 166 [sL S ts] (A3 [W b,W c]))(n:T 167 [sL S ts] (J X s)):Z Ij (E9 o k cs nw ls a i) .norm (E9 o (k+1) (cs++([sL S ts]:AK)) (E (s>0)) ls a (Q X (i+1))):=Ab h [bT,.v (sL S (H ls (Y i) [])),.r (Ae 2 (F ts) (S ts)),.r (A3 [W b,W c]),bF,bT,bT,.r (J X s)] Vn (IU c1 d (B3 d) g m e (Vo j) (show F ([sL S ts]:AK)=1*1 from rfl) f l n)
theorem Auh(ts:D)(b c:Bool)(c1:E (i<a)=true)(e:b=false)(j:c=false)(l:nw=false)(d:0<=i/\i<F ls)(f:k+1<=1048576)(g:T 66 [sL S (H ls (Y i) [])] (Ae 2 (F ts) (S ts)))(m:T 166 [sL S ts] (A3 [W b,W c])):Z Ij (E9 o k cs nw ls a i) .norm (E9 o (k+1) (cs++([sL S ts]:AK)) false ls a (Q X (i+1))):=Ab h [bT,.v (sL S (H ls (Y i) [])),.r (Ae 2 (F ts) (S ts)),.r (A3 [W b,W c]),bF,bT,bF] Vn (Kw c1 d (B3 d) g m e (Vo j) (show F ([sL S ts]:AK)=1*1 from rfl) f l)
theorem Aui(c1:E (i<a)=false):Z Ij (E9 o k cs nw ls a i) xZ0 (E9 o k cs nw ls a i):=Ab h [bF] Vn (BO c1)
end
def Na:ICode:=a RD 75 29314292
section
variable(a:D)(b:Rn)(c:Int)(i:Rn)(n:Int)(o:Bool)(ps:List D)(l:List Rt)(M j d:Int)(fs:D)(r:Rn)(e:Int)(t:Rn)(f:Int)(m:Rn)(g q:Int)
def GU:Az:=L 2 (GW a b c i n::C (W o)::C (sL pp ps)::L 5 (C (P (F l) (C2 l))::N d::GW fs r e t f::L 1 (AH [W m.1,P (F m.2) (A m.2),J X g]::L 35 (C (P (F l) (C2 l))::N M::N j::L 20 (C (sL pp ps)::N (F ps:Int)::N q::L 11 [])))))
theorem Auj(s:Int)(c1:E (q<F ps)=true)(p:E (s<=0)=true)(k:0<=q/\q<F ps)(u:T 65 [sL S (H ps (Y q) []),A4 m g] (J X s)):Z Na (GU a b c i n o ps l M j d fs r e t f m g q) xZ3 (GU a b c i n o ps l M j d fs r e t f m g q):=Ab h [bT,.v (sL S (H ps (Y q) [])),.r (J X s),bT] ZF (Ff c1 k (B3 k) u p)
theorem Auk(s:Int)(c1:E (q<F ps)=true)(p:E (s<=0)=false)(k:0<=q/\q<F ps)(u:T 65 [sL S (H ps (Y q) []),A4 m g] (J X s)):Z Na (GU a b c i n o ps l M j d fs r e t f m g q) .norm (GU a b c i n o ps l M j d fs r e t f m g (Q X (q+1))):=Ab h [bT,.v (sL S (H ps (Y q) [])),.r (J X s),bF] ZF (Ff c1 k (B3 k) u p)
theorem Aul(c1:E (q<F ps)=false):Z Na (GU a b c i n o ps l M j d fs r e t f m g q) xZ4 (GU a b c i n o ps l M j d fs r e t f m g q):=Ab h [bF] ZF (BO c1)
end
def Jt:ICode:=a RD 87 7156
section
variable(a:D)(b:Rn)(c:Int)(d:Rn)(n:Int)(o:Bool)(ps:List D)(l:List Rt)(M j:Int)
def Fr:Az:=L 2 (GW a b c d n::C (W o)::C (sL pp ps)::L 5 (C (P (F l) (C2 l))::L 39 (C (P (F l) (C2 l))::N M::N j::L 34 [])))
theorem Aum(m g q:Int)(c1:E (j<M)=true)(p:E (Q X (j+1)<(F l:Int))=true)(i:0<=j/\j<F l)(s:T 169 [] (A4 (V 1) 0))(k:0<=Q X (j+1)/\Q X (j+1)<(F l:Int))(u:T 133 [A4 ((H l (Y j) zR).t) ((H l (Y j) zR).f),A4 ((H l (Y (Q X (j+1))) zR).r) ((H l (Y (Q X (j+1))) zR).e)] (A4 (V m) g))(w:Z (.loop Na) (GU a b c d n o ps l M j j ((H l (Y j) zR).fs) ((H l (Y j) zR).r) ((H l (Y j) zR).e) ((H l (Y j) zR).t) ((H l (Y j) zR).f) (V m) g 0) xZ3 (GU a b c d n o ps l M j j ((H l (Y j) zR).fs) ((H l (Y j) zR).r) ((H l (Y j) zR).e) ((H l (Y j) zR).t) ((H l (Y j) zR).f) (V m) g q)):Z Jt (Fr a b c d n o ps l M j) .norm (Fr a b c d n o ps l M (Q X (j+1))):=As (Ag (Ab (t:=L 2 (GW a b c d n::C (W o)::C (sL pp ps)::L 5 (C (P (F l) (C2 l))::L 39 (C (P (F l) (C2 l))::N M::N j::L 34 [])))) h [bT] RH (BO c1)) (Ag (A7 (As (As (As (AA (Ag (Ab h [.v (Bh ((H l (Y j) zR).fs) ((H l (Y j) zR).r) ((H l (Y j) zR).e) ((H l (Y j) zR).t) ((H l (Y j) zR).f)),.r (A4 (V 1) 0),bT,.v (A4 ((H l (Y (Q X (j+1))) zR).r) ((H l (Y (Q X (j+1))) zR).e)),.r (A4 (V m) g)] ZF (GZ i (Ev i) s p k (UK k).1 u)) (AG (P0 w (by decide))))))))) (Ab h [] RH a0)))
theorem Aun(m g q:Int)(c1:E (j<M)=true)(p:E (Q X (j+1)<(F l:Int))=false)(i:0<=j/\j<F l)(s:T 169 [] (A4 (V 1) 0))(k:T 133 [A4 ((H l (Y j) zR).t) ((H l (Y j) zR).f),A4 (V 1) 0] (A4 (V m) g))(x:Z (.loop Na) (GU a b c d n o ps l M j j ((H l (Y j) zR).fs) ((H l (Y j) zR).r) ((H l (Y j) zR).e) ((H l (Y j) zR).t) ((H l (Y j) zR).f) (V m) g 0) xZ3 (GU a b c d n o ps l M j j ((H l (Y j) zR).fs) ((H l (Y j) zR).r) ((H l (Y j) zR).e) ((H l (Y j) zR).t) ((H l (Y j) zR).f) (V m) g q)):Z Jt (Fr a b c d n o ps l M j) .norm (Fr a b c d n o ps l M (Q X (j+1))):=As (Ag (Ab (t:=L 2 (GW a b c d n::C (W o)::C (sL pp ps)::L 5 (C (P (F l) (C2 l))::L 39 (C (P (F l) (C2 l))::N M::N j::L 34 [])))) h [bT] RH (BO c1)) (Ag (A7 (As (As (As (AA (Ag (Ab h [.v (Bh ((H l (Y j) zR).fs) ((H l (Y j) zR).r) ((H l (Y j) zR).e) ((H l (Y j) zR).t) ((H l (Y j) zR).f)),.r (A4 (V 1) 0),bF,.r (A4 (V m) g)] ZF (Ff i (Ev i) s p k)) (AG (P0 x (by decide))))))))) (Ab h [] RH a0)))
theorem Auo(c1:E (j<M)=false):Z Jt (Fr a b c d n o ps l M j) xZ2 (Fr a b c d n o ps l M j):=As (AG (Ab h [bF] RH (BO c1)))
theorem Ahb(m g q:Int)(c1:E (j<M)=true)(p:E (Q X (j+1)<(F l:Int))=true)(i:0<=j/\j<F l)(s:T 169 [] (A4 (V 1) 0))(k:0<=Q X (j+1)/\Q X (j+1)<(F l:Int))(u:T 133 [A4 ((H l (Y j) zR).t) ((H l (Y j) zR).f),A4 ((H l (Y (Q X (j+1))) zR).r) ((H l (Y (Q X (j+1))) zR).e)] (A4 (V m) g))(w:Z (.loop Na) (GU a b c d n o ps l M j j ((H l (Y j) zR).fs) ((H l (Y j) zR).r) ((H l (Y j) zR).e) ((H l (Y j) zR).t) ((H l (Y j) zR).f) (V m) g 0) xZ4 (GU a b c d n o ps l M j j ((H l (Y j) zR).fs) ((H l (Y j) zR).r) ((H l (Y j) zR).e) ((H l (Y j) zR).t) ((H l (Y j) zR).f) (V m) g q)):Z Jt (Fr a b c d n o ps l M j) .ret (Fr ((H l (Y j) zR).fs) ((H l (Y j) zR).r) ((H l (Y j) zR).e) ((H l (Y j) zR).t) ((H l (Y j) zR).f) true ps l M j):=As (Ag (Ab (t:=L 2 (GW a b c d n::C (W o)::C (sL pp ps)::L 5 (C (P (F l) (C2 l))::L 39 (C (P (F l) (C2 l))::N M::N j::L 34 [])))) h [bT] RH (BO c1)) (AG (BT (As (As (As (AA (Ag (Ab h [.v (Bh ((H l (Y j) zR).fs) ((H l (Y j) zR).r) ((H l (Y j) zR).e) ((H l (Y j) zR).t) ((H l (Y j) zR).f)),.r (A4 (V 1) 0),bT,.v (A4 ((H l (Y (Q X (j+1))) zR).r) ((H l (Y (Q X (j+1))) zR).e)),.r (A4 (V m) g)] ZF (GZ i (Ev i) s p k (UK k).1 u)) (Ag (A7 w) (Ab h [] RH a0))))))))))
theorem Ahc(m g q:Int)(c1:E (j<M)=true)(p:E (Q X (j+1)<(F l:Int))=false)(i:0<=j/\j<F l)(s:T 169 [] (A4 (V 1) 0))(k:T 133 [A4 ((H l (Y j) zR).t) ((H l (Y j) zR).f),A4 (V 1) 0] (A4 (V m) g))(x:Z (.loop Na) (GU a b c d n o ps l M j j ((H l (Y j) zR).fs) ((H l (Y j) zR).r) ((H l (Y j) zR).e) ((H l (Y j) zR).t) ((H l (Y j) zR).f) (V m) g 0) xZ4 (GU a b c d n o ps l M j j ((H l (Y j) zR).fs) ((H l (Y j) zR).r) ((H l (Y j) zR).e) ((H l (Y j) zR).t) ((H l (Y j) zR).f) (V m) g q)):Z Jt (Fr a b c d n o ps l M j) .ret (Fr ((H l (Y j) zR).fs) ((H l (Y j) zR).r) ((H l (Y j) zR).e) ((H l (Y j) zR).t) ((H l (Y j) zR).f) true ps l M j):=As (Ag (Ab (t:=L 2 (GW a b c d n::C (W o)::C (sL pp ps)::L 5 (C (P (F l) (C2 l))::L 39 (C (P (F l) (C2 l))::N M::N j::L 34 [])))) h [bT] RH (BO c1)) (AG (BT (As (As (As (AA (Ag (Ab h [.v (Bh ((H l (Y j) zR).fs) ((H l (Y j) zR).r) ((H l (Y j) zR).e) ((H l (Y j) zR).t) ((H l (Y j) zR).f)),.r (A4 (V 1) 0),bF,.r (A4 (V m) g)] ZF (Ff i (Ev i) s p k)) (Ag (A7 x) (Ab h [] RH a0))))))))))
end
theorem Aup(ls:List D)(i:Int)(k:Nat)(cs:AK)(nw:Bool)(a:Z (.loop Ij) (E9 false 0 ([]:AK) true ls (F ls) 0) .ret (E9 false k cs nw ls (F ls) i)):T 139 [sL pp ls] (A3 [Ao [P 0 [],W false,P 0 [],J X 0,W false,P 0 [],J X 0],W false]):=CQ RD (L 2 (AH [P 0 [],W false,P 0 [],J X 0,W false,P 0 [],J X 0]::C (W false)::Ak 1 k cs::C (W nw)::L 11 (C (sL pp ls)::N (F ls:Int)::N i::L 67 []))) (Ag (Ab (t:=(C (sL pp ls)::L 1 (AH [P 0 [],W false,P 0 [],J X 0,W false,P 0 [],J X 0]::C (W false)::L 83 []))) h [] IC a0) (Dj.scope (As (AA (Ag (Ab h [] Vn a0) (AG (BT a)))))))
section
variable(ls ps:List D)
theorem Auq(i:Int)(fs:D)(r t:Rn)(e f:Int)(a:Z (.loop Ij) (E9 false 0 ([]:AK) true ls (F ls) 0) xZ0 (E9 false (F ps) (pp ps) true ls (F ls) i))(b:T 81 [Ao [W false,P 0 [],J X 0]] (Bh fs r e t f)):T 139 [sL pp ls] (A3 [Bh fs r e t f,W true]):=CQ RD (L 2 (GW fs r e t f::C (W true)::L 83 [])) (Ag (Ab (t:=(C (sL pp ls)::L 1 (AH [P 0 [],W false,P 0 [],J X 0,W false,P 0 [],J X 0]::C (W false)::L 83 []))) h [] IC a0) (Dj.scope (As (AA (Ag (Ab h [] Vn a0) (Ag (A7 a) (As (As (AA (AG (Ab h [bT,.r (Bh fs r e t f)] RI (DH I6 b))))))))))))
theorem Aur(l:List Rt)(i j:Int)(a:Z (.loop Ij) (E9 false 0 ([]:AK) true ls (F ls) 0) xZ0 (E9 false (F ps) (pp ps) false ls (F ls) i))(b:T 168 [sL pp ps] (Ae 7 (F l) (C2 l)))(c:Z (.loop Jt) (Fr ([]) (false,[]) 0 (false,[]) 0 false ps l (F l) 0) xZ2 (Fr ([]) (false,[]) 0 (false,[]) 0 false ps l (F l) j)):T 139 [sL pp ls] (A3 [Ao [P 0 [],W false,P 0 [],J X 0,W false,P 0 [],J X 0],W false]):=CQ RD (L 2 (AH [P 0 [],W false,P 0 [],J X 0,W false,P 0 [],J X 0]::C (W false)::L 83 [])) (Ag (Ab (t:=(C (sL pp ls)::L 1 (AH [P 0 [],W false,P 0 [],J X 0,W false,P 0 [],J X 0]::C (W false)::L 83 []))) h [] IC a0) (Dj.scope (As (AA (Ag (Ab h [] Vn a0) (Ag (A7 a) (As (As (AA (Ag (Ab h [bF,.r (Ae 7 (F l) (C2 l))] RH (DH F9 b)) (Ag (A7 c) (Ab h [] RI a0))))))))))))
theorem Aus(l:List Rt)(i j:Int)(fs:D)(r t:Rn)(e f:Int)(a:Z (.loop Ij) (E9 false 0 ([]:AK) true ls (F ls) 0) xZ0 (E9 false (F ps) (pp ps) false ls (F ls) i))(b:T 168 [sL pp ps] (Ae 7 (F l) (C2 l)))(c:Z (.loop Jt) (Fr ([]) (false,[]) 0 (false,[]) 0 false ps l (F l) 0) .ret (Fr fs r e t f true ps l (F l) j)):T 139 [sL pp ls] (A3 [Bh fs r e t f,W true]):=CQ RD (L 2 (GW fs r e t f::C (W true)::C (sL pp ps)::L 5 (C (P (F l) (C2 l))::L 39 (C (P (F l) (C2 l))::N (F l:Int)::N j::L 34 [])))) (Ag (Ab (t:=(C (sL pp ls)::L 1 (AH [P 0 [],W false,P 0 [],J X 0,W false,P 0 [],J X 0]::C (W false)::L 83 []))) h [] IC a0) (Dj.scope (As (AA (Ag (Ab h [] Vn a0) (Ag (A7 a) (As (As (AA (Ag (Ab h [bF,.r (Ae 7 (F l) (C2 l))] RH (DH F9 b)) (AG (BT c))))))))))))
end
def Rg:ICode:=a Aze 92 244
section
variable(fs:D)(r:Rn)(e:Int)(t:Rn)(f:Int)(b:Bool)(ll:l)(a i:Int)
def K6:Az:=L 2 (AH [P 0 [],W false,P 0 [],J X 0,W false,P 0 [],J X 0]::C (W false)::GW fs r e t f::C (W b)::L 4 (C (P (F ll) (ER ll))::N a::N i::L 32 []))
theorem AFc(g:D)(p q:Rn)(c d s:Int)(ok:Bool)(c1:E (i<a)=true)(k:ok=true)(m:b=true)(o:E (s>=0)=true)(j:0<=i/\i<F ll)(n:T 139 [sL pp (H ll (Y i) [])] (A3 [Bh g p c q d,W ok]))(u:T 74 [Bh g p c q d,Bh fs r e t f] (J X s)):Z Rg (K6 fs r e t f b ll a i) .norm (K6 fs r e t f b ll a (Q X (i+1))):=Ab h [bT,.v (sL pp (H ll (Y i) [])),.r (A3 [Bh g p c q d,W ok]),bF,bT,.r (J X s),bF,bT,bT] XM (Kw c1 j (Cn j) n (KA k) m u (KA k) m o)
theorem AFd(g:D)(p q:Rn)(c d s z:Int)(ok x:Bool)(c1:E (i<a)=true)(k:ok=true)(m:b=true)(o:E (s>=0)=false)(w:x=true)(A:(z==0)=true)(j:0<=i/\i<F ll)(n:T 139 [sL pp (H ll (Y i) [])] (A3 [Bh g p c q d,W ok]))(u:T 74 [Bh g p c q d,Bh fs r e t f] (J X s))(y:T 125 [Bh g p c q d] (W x))(B:T 101 [AB p] (J X z)):Z Rg (K6 fs r e t f b ll a i) xZ0 (K6 g p c q d true ll a i):=Ab h [bT,.v (sL pp (H ll (Y i) [])),.r (A3 [Bh g p c q d,W ok]),bF,bT,.r (J X s),bF,bT,bF,.r (W x),bT,.r (J X z),bT] XM (OX c1 j (Cn j) n (KA k) m u (KA k) (Gm m o y w B A))
theorem AFe(g:D)(p q:Rn)(c d s:Int)(ok x:Bool)(c1:E (i<a)=true)(k:ok=true)(m:b=true)(o:E (s>=0)=false)(w:x=false)(j:0<=i/\i<F ll)(n:T 139 [sL pp (H ll (Y i) [])] (A3 [Bh g p c q d,W ok]))(u:T 74 [Bh g p c q d,Bh fs r e t f] (J X s))(y:T 125 [Bh g p c q d] (W x)):Z Rg (K6 fs r e t f b ll a i) .norm (K6 g p c q d true ll a (Q X (i+1))):=Ab h [bT,.v (sL pp (H ll (Y i) [])),.r (A3 [Bh g p c q d,W ok]),bF,bT,.r (J X s),bF,bT,bF,.r (W x),bF,bF] XM (OX c1 j (Cn j) n (KA k) m u (KA k) (Ff m o y w F9))
theorem AFf(g:D)(p q:Rn)(c d z:Int)(ok x:Bool)(c1:E (i<a)=true)(k:ok=true)(m:b=false)(o:x=true)(w:(z==0)=true)(j:0<=i/\i<F ll)(n:T 139 [sL pp (H ll (Y i) [])] (A3 [Bh g p c q d,W ok]))(u:T 125 [Bh g p c q d] (W x))(y:T 101 [AB p] (J X z)):Z Rg (K6 fs r e t f b ll a i) xZ0 (K6 g p c q d true ll a i):=Ab h [bT,.v (sL pp (H ll (Y i) [])),.r (A3 [Bh g p c q d,W ok]),bF,bF,bF,bF,bF,.r (W x),bT,.r (J X z),bT] XM (OX c1 j (Cn j) n (KA k) m (KA k) m (Ff F9 u o y w))
theorem AFg(g:D)(p q:Rn)(c d:Int)(ok x:Bool)(c1:E (i<a)=true)(k:ok=true)(m:b=false)(o:x=false)(j:0<=i/\i<F ll)(n:T 139 [sL pp (H ll (Y i) [])] (A3 [Bh g p c q d,W ok]))(u:T 125 [Bh g p c q d] (W x)):Z Rg (K6 fs r e t f b ll a i) .norm (K6 g p c q d true ll a (Q X (i+1))):=Ab h [bT,.v (sL pp (H ll (Y i) [])),.r (A3 [Bh g p c q d,W ok]),bF,bF,bF,bF,bF,.r (W x),bF,bF] XM (Vi c1 j (Cn j) n (KA k) m (KA k) m F9 u o F9)
theorem Alb(g:D)(p q:Rn)(c d:Int)(ok:Bool)(c1:E (i<a)=true)(k:ok=false)(j:0<=i/\i<F ll)(n:T 139 [sL pp (H ll (Y i) [])] (A3 [Bh g p c q d,W ok])):Z Rg (K6 fs r e t f b ll a i) .norm (K6 fs r e t f b ll a (Q X (i+1))):=Ab h [bT,.v (sL pp (H ll (Y i) [])),.r (A3 [Bh g p c q d,W ok]),bT,bT] XM (Gm c1 j (Cn j) n (Vo k) I6)
theorem Alc(c1:E (i<a)=false):Z Rg (K6 fs r e t f b ll a i) xZ0 (K6 fs r e t f b ll a i):=Ab h [bF] XM (BO c1)
end
theorem qD(ll:l)(fs:D)(r t:Rn)(e f i:Int)(b:Bool)(a:Z (.loop Rg) (K6 ([]) (false,[]) 0 (false,[]) 0 false ll (F ll) 0) xZ0 (K6 fs r e t f b ll (F ll) i)):T 89 [P (F ll) (ER ll)] (A3 [Bh fs r e t f,W b]):=CQ Aze (L 2 (GW fs r e t f::C (W b)::L 41 [])) (As (As (AA (Ag (Ab h [] XM a0) (Ag (A7 a) (Ab h [] RI a0))))))
def cV:ICode:=a sD 74 61240124
section
variable(o:Bool)(ll:l)(a i:Int)(ls:List D)(M j:Int)(rs:D)(d k:Int)
def QH:Az:=L 2 (C (W o)::L 3 (C (sL S rs)::N d::N k::L 3 (C (P (F ll) (ER ll))::N a::N i::L 6 (C (sL pp ls)::N M::N j::L 20 []))))
theorem A8e(z:Int)(c1:E (z>200)=false)(b:E (k<=d)=true)(c:0<=k/\k<F rs)(e:T 102 [AB (H rs (Y k) z0)] (J X z)):Z cV (QH o ll a i ls M j rs d k) .norm (QH o ll a i ls M j rs d (Q X (k+1))):=Ab h [bT,.v (AB (H rs (Y k) z0)),.r (J X z),bF] A0a (Ff b c (BZ c) e c1)
theorem A8f(b:E (k<=d)=false):Z cV (QH o ll a i ls M j rs d k) xZ4 (QH o ll a i ls M j rs d k):=Ab h [bF] A0a (BO b)
end
def cW:ICode:=a sD 84 59804
section
variable(o:Bool)(ll:l)(a i:Int)(ls:List D)(M j:Int)
def QI:Az:=L 2 (C (W o)::L 9 (C (P (F ll) (ER ll))::N a::N i::L 6 (C (sL pp ls)::N M::N j::L 20 [])))
theorem A8g(d k:Int)(c1:E (d>8)=false)(b:E (j<M)=true)(c:0<=j/\j<F ls)(e:T 53 [sL S (H ls (Y j) [])] (J X d))(f:Z (.loop cV) (QH o ll a i ls M j (H ls (Y j) []) d 0) xZ4 (QH o ll a i ls M j (H ls (Y j) []) d k)):Z cW (QI o ll a i ls M j) .norm (QI o ll a i ls M (Q X (j+1))):=As (Ag (Ab (t:=L 2 (C (W o)::L 9 (C (P (F ll) (ER ll))::N a::N i::L 6 (C (sL pp ls)::N M::N j::L 20 [])))) h [bT] Ajq (BO b)) (Ag (Bo (As (As (As (Ag (Ab h [.v (sL S (H ls (Y j) [])),.r (J X d),bF] A0a (FJ c (B3 c) e c1)) (A7 f)))))) (Ab h [] Ajq a0)))
theorem A8h(b:E (j<M)=false):Z cW (QI o ll a i ls M j) xZ2 (QI o ll a i ls M j):=As (AG (Ab h [bF] Ajq (BO b)))
end
def qE:ICode:=a sD 93 116
section
variable(o:Bool)(ll:l)(a i:Int)
def UN:Az:=L 2 (C (W o)::L 9 (C (P (F ll) (ER ll))::N a::N i::L 29 []))
theorem A8i(j:Int)(c1:E ((F (H ll (Y i) []):Int)>16)=false)(b:E (i<a)=true)(c:0<=i/\i<F ll)(d:Z (.loop cW) (QI o ll a i (H ll (Y i) []) (F (H ll (Y i) [])) 0) xZ2 (QI o ll a i (H ll (Y i) []) (F (H ll (Y i) [])) j)):Z qE (UN o ll a i) .norm (UN o ll a (Q X (i+1))):=As (Ag (Ab (t:=L 2 (C (W o)::L 9 (C (P (F ll) (ER ll))::N a::N i::L 29 []))) h [bT] Ajr (BO b)) (Ag (Bo (As (As (Ag (Ab h [.v (sL pp (H ll (Y i) [])),bF] Ajq (Gy c (Cn c) c1)) (A7 d))))) (Ab h [] Ajr a0)))
theorem A8j(b:E (i<a)=false):Z qE (UN o ll a i) xZ0 (UN o ll a i):=As (AG (Ab h [bF] Ajr (BO b)))
end
theorem AFh(ll:l)(i:Int)(c1:E ((F ll:Int)>64)=false)(a:Z (.loop qE) (UN false ll (F ll) 0) xZ0 (UN false ll (F ll) i)):T 88 [P (F ll) (ER ll)] (W false):=CQ sD (L 2 (C (W false)::L 41 [])) (As (AA (Ag (Ab h [bF] Ajr (BO c1)) (Ag (A7 a) (Ab h [] [2] a0)))))
theorem kL(ll:l)(fs a:D)(r t p q:Rn)(e f c d:Int)(b:Bool)(c1:b=true)(g:T 88 [P (F ll) (ER ll)] (W false))(i:T 89 [P (F ll) (ER ll)] (A3 [Bh fs r e t f,W b]))(j:T 57 [Bh fs r e t f] (Bh a p c q d)):T 38 [P (F ll) (ER ll)] (A3 [Bh a p c q d,W true,J X 0]):=Bc (fn:=iF AC Ayu) h rfl 400 rfl [.r (W false),bF,.r (A3 [Bh fs r e t f,W b]),bF,.r (Bh a p c q d)] (Ff g F9 i (KA c1) j)
theorem Aut(ll:l)(fs:D)(r t:Rn)(e f:Int)(b:Bool)(c1:b=false)(a:T 88 [P (F ll) (ER ll)] (W false))(c:T 89 [P (F ll) (ER ll)] (A3 [Bh fs r e t f,W b])):T 38 [P (F ll) (ER ll)] (A3 [Ao [P 0 [],W false,P 0 [],J X 0,W false,P 0 [],J X 0],W false,J X 0]):=Bc (fn:=iF AC Ayu) h rfl 400 rfl [.r (W false),bF,.r (A3 [Bh fs r e t f,W b]),bT] (FJ a F9 c (Vo c1))
theorem qF(ll:l)(fs:D)(r t:Rn)(e f z:Int)(b:Bool)(a:T 38 [P (F ll) (ER ll)] (A3 [Bh fs r e t f,W b,J X z])):T 42 [P (F ll) (ER ll)] (A3 [W b,J X z]):=Bc (fn:=iF AC AGm) h rfl 400 rfl [.r (A3 [Bh fs r e t f,W b,J X z])] (BO a)
def S8:ICode:=a Z5 79 1910348
section
variable(o:Bool)(ll:l)(i j k:Int)
def JC:Az:=C (P (F ll) (ER ll))::L 1 (C (W o)::N i::N j::N k::L 72 [])
theorem A8k(z:Int)(c1:E (k<(F (H (H ll (Y i) []) (Y j) []):Int))=true)(d:E (z>110)=true)(a:0<=i/\i<F ll)(b:0<=j/\j<(F (H ll (Y i) []):Int))(c:0<=k/\k<(F (H (H ll (Y i) []) (Y j) []):Int))(e:T 51 [AB (H (H (H ll (Y i) []) (Y j) []) (Y k) z0)] (J X z)):Z S8 (JC o ll i j k) .ret (JC false ll i j k):=Ab h [.v (sL pp (H ll (Y i) [])),.v (sL S (H (H ll (Y i) []) (Y j) [])),bT,.v (sL pp (H ll (Y i) [])),.v (sL S (H (H ll (Y i) []) (Y j) [])),.v (AB (H (H (H ll (Y i) []) (Y j) []) (Y k) z0)),.r (J X z),bT,bT] JN (OX a (Cn a) b (B3 b) c1 a (Cn a) b (Gm (B3 b) c (BZ c) e d I6))
theorem A8l(z:Int)(c1:E (k<(F (H (H ll (Y i) []) (Y j) []):Int))=true)(d:E (z>110)=false)(f:E ((F (H (H (H ll (Y i) []) (Y j) []) (Y k) z0).2:Int)>5)=true)(a:0<=i/\i<F ll)(b:0<=j/\j<(F (H ll (Y i) []):Int))(c:0<=k/\k<(F (H (H ll (Y i) []) (Y j) []):Int))(e:T 51 [AB (H (H (H ll (Y i) []) (Y j) []) (Y k) z0)] (J X z)):Z S8 (JC o ll i j k) .ret (JC false ll i j k):=Ab h [.v (sL pp (H ll (Y i) [])),.v (sL S (H (H ll (Y i) []) (Y j) [])),bT,.v (sL pp (H ll (Y i) [])),.v (sL S (H (H ll (Y i) []) (Y j) [])),.v (AB (H (H (H ll (Y i) []) (Y j) []) (Y k) z0)),.r (J X z),bF,.v (sL pp (H ll (Y i) [])),.v (sL S (H (H ll (Y i) []) (Y j) [])),.v (sL A ((H (H (H ll (Y i) []) (Y j) []) (Y k) z0).2)),bT] JN (OX a (Cn a) b (B3 b) c1 a (Cn a) b (Vi (B3 b) c (BZ c) e d a (Cn a) b (B3 b) c (iI c) f))
theorem A8m(z:Int)(c1:E (k<(F (H (H ll (Y i) []) (Y j) []):Int))=true)(d:E (z>110)=false)(f:E ((F (H (H (H ll (Y i) []) (Y j) []) (Y k) z0).2:Int)>5)=false)(a:0<=i/\i<F ll)(b:0<=j/\j<(F (H ll (Y i) []):Int))(c:0<=k/\k<(F (H (H ll (Y i) []) (Y j) []):Int))(e:T 51 [AB (H (H (H ll (Y i) []) (Y j) []) (Y k) z0)] (J X z)):Z S8 (JC o ll i j k) .norm (JC o ll i j (Q X (k+1))):=Ab h [.v (sL pp (H ll (Y i) [])),.v (sL S (H (H ll (Y i) []) (Y j) [])),bT,.v (sL pp (H ll (Y i) [])),.v (sL S (H (H ll (Y i) []) (Y j) [])),.v (AB (H (H (H ll (Y i) []) (Y j) []) (Y k) z0)),.r (J X z),bF,.v (sL pp (H ll (Y i) [])),.v (sL S (H (H ll (Y i) []) (Y j) [])),.v (sL A ((H (H (H ll (Y i) []) (Y j) []) (Y k) z0).2)),bF] JN (OX a (Cn a) b (B3 b) c1 a (Cn a) b (Vi (B3 b) c (BZ c) e d a (Cn a) b (B3 b) c (iI c) f))
theorem A8n(c1:E (k<(F (H (H ll (Y i) []) (Y j) []):Int))=false)(a:0<=i/\i<F ll)(b:0<=j/\j<(F (H ll (Y i) []):Int)):Z S8 (JC o ll i j k) xZ4 (JC o ll i j k):=Ab h [.v (sL pp (H ll (Y i) [])),.v (sL S (H (H ll (Y i) []) (Y j) [])),bF] JN (Ff a (Cn a) b (B3 b) c1)
end
def S9:ICode:=a Z5 86 14924
section
variable(o:Bool)(ll:l)(i j:Int)
def JD:Az:=C (P (F ll) (ER ll))::L 1 (C (W o)::N i::N j::L 73 [])
theorem A8o(c1:E (j<(F (H ll (Y i) []):Int))=true)(c:E ((F (H (H ll (Y i) []) (Y j) []):Int)>8)=true)(a:0<=i/\i<F ll)(b:0<=j/\j<(F (H ll (Y i) []):Int)):Z S9 (JD o ll i j) .ret (JD false ll i j):=Ag (Ab (t:=(C (P (F ll) (ER ll))::L 1 (C (W o)::N i::N j::L 73 []))) h [.v (sL pp (H ll (Y i) [])),bT] Fy (Gy a (Cn a) c1)) (AG (BT (As (AG (Ab h [.v (sL pp (H ll (Y i) [])),.v (sL S (H (H ll (Y i) []) (Y j) [])),bT] Fy (Ff a (Cn a) b (B3 b) c))))))
theorem A8p(k:Int)(c1:E (j<(F (H ll (Y i) []):Int))=true)(c:E ((F (H (H ll (Y i) []) (Y j) []):Int)>8)=false)(a:0<=i/\i<F ll)(b:0<=j/\j<(F (H ll (Y i) []):Int))(d:Z (.loop S8) (JC o ll i j 0) xZ4 (JC o ll i j k)):Z S9 (JD o ll i j) .norm (JD o ll i (Q X (j+1))):=Ag (Ab (t:=(C (P (F ll) (ER ll))::L 1 (C (W o)::N i::N j::L 73 []))) h [.v (sL pp (H ll (Y i) [])),bT] Fy (Gy a (Cn a) c1)) (Ag (Bo (As (Ag (Ab h [.v (sL pp (H ll (Y i) [])),.v (sL S (H (H ll (Y i) []) (Y j) [])),bF] JN (Ff a (Cn a) b (B3 b) c)) (A7 d)))) (Ab h [] Fy a0))
theorem A8q(c1:E (j<(F (H ll (Y i) []):Int))=false)(a:0<=i/\i<F ll):Z S9 (JD o ll i j) xZ2 (JD o ll i j):=AG (Ab h [.v (sL pp (H ll (Y i) [])),bF] Fy (Gy a (Cn a) c1))
theorem Auu(k:Int)(c1:E (j<(F (H ll (Y i) []):Int))=true)(c:E ((F (H (H ll (Y i) []) (Y j) []):Int)>8)=false)(a:0<=i/\i<F ll)(b:0<=j/\j<(F (H ll (Y i) []):Int))(d:Z (.loop S8) (JC o ll i j 0) .ret (JC false ll i j k)):Z S9 (JD o ll i j) .ret (JD false ll i j):=Ag (Ab (t:=(C (P (F ll) (ER ll))::L 1 (C (W o)::N i::N j::L 73 []))) h [.v (sL pp (H ll (Y i) [])),bT] Fy (Gy a (Cn a) c1)) (AG (BT (As (Ag (Ab h [.v (sL pp (H ll (Y i) [])),.v (sL S (H (H ll (Y i) []) (Y j) [])),bF] JN (Ff a (Cn a) b (B3 b) c)) (BT (XT (t':=(C (P (F ll) (ER ll))::L 1 (C (W false)::N i::N j::L 73 []))) [0,2,3,4] d (by kernel_rfl)))))))
end
def SA:ICode:=a Z5 93 116
section
variable(o:Bool)(ll:l)(i:Int)
def JE:Az:=C (P (F ll) (ER ll))::L 1 (C (W o)::N i::L 74 [])
theorem A8r(c1:E (i<F ll)=true)(b:E ((F (H ll (Y i) []):Int)>5)=true)(a:0<=i/\i<F ll):Z SA (JE o ll i) .ret (JE false ll i):=Ag (Ab (t:=(C (P (F ll) (ER ll))::L 1 (C (W o)::N i::L 74 []))) h [bT] IC (BO c1)) (AG (BT (As (AG (Ab h [.v (sL pp (H ll (Y i) [])),bT] IC (Gy a (Cn a) b))))))
theorem A8s(j:Int)(c1:E (i<F ll)=true)(b:E ((F (H ll (Y i) []):Int)>5)=false)(a:0<=i/\i<F ll)(c:Z (.loop S9) (JD o ll i 0) xZ2 (JD o ll i j)):Z SA (JE o ll i) .norm (JE o ll (Q X (i+1))):=Ag (Ab (t:=(C (P (F ll) (ER ll))::L 1 (C (W o)::N i::L 74 []))) h [bT] IC (BO c1)) (Ag (Bo (As (Ag (Ab h [.v (sL pp (H ll (Y i) [])),bF] Fy (Gy a (Cn a) b)) (A7 c)))) (Ab h [] IC a0))
theorem A8t(c1:E (i<F ll)=false):Z SA (JE o ll i) xZ0 (JE o ll i):=AG (Ab h [bF] IC (BO c1))
theorem Auv(j:Int)(c1:E (i<F ll)=true)(b:E ((F (H ll (Y i) []):Int)>5)=false)(a:0<=i/\i<F ll)(c:Z (.loop S9) (JD o ll i 0) .ret (JD false ll i j)):Z SA (JE o ll i) .ret (JE false ll i):=Ag (Ab (t:=(C (P (F ll) (ER ll))::L 1 (C (W o)::N i::L 74 []))) h [bT] IC (BO c1)) (AG (BT (As (Ag (Ab h [.v (sL pp (H ll (Y i) [])),bF] Fy (Gy a (Cn a) b)) (BT (XT (t':=(C (P (F ll) (ER ll))::L 1 (C (W false)::N i::L 74 []))) [0,2,3] c (by kernel_rfl)))))))
end
theorem Auw(ll:l)(c1:E ((F ll:Int)>5)=true):T 37 [P (F ll) (ER ll)] (W false):=CQ Z5 (L 2 (C (W false)::L 75 [])) (As (AA (AG (Ab h [bT] [2] (BO c1)))))
theorem Aux(ll:l)(i:Int)(c1:E ((F ll:Int)>5)=false)(a:Z (.loop SA) (JE false ll 0) xZ0 (JE false ll i)):T 37 [P (F ll) (ER ll)] (W true):=CQ Z5 (L 2 (C (W true)::L 75 [])) (As (AA (Ag (Ab h [bF] IC (BO c1)) (Ag (A7 a) (Ab h [] [2] a0)))))
theorem Ahd(ll:l)(i:Int)(c1:E ((F ll:Int)>5)=false)(a:Z (.loop SA) (JE false ll 0) .ret (JE false ll i)):T 37 [P (F ll) (ER ll)] (W false):=CQ Z5 (C (P (F ll) (ER ll))::L 1 (C (W false)::N i::L 74 [])) (As (AA (Ag (Ab h [bF] IC (BO c1)) (AG (BT a)))))
def TXEA:Dd:=AHf
theorem A1:CT DP TXEA:=h
end
end Go.Proofs.YtajompaehjkgkaaGreat
