/- Texts of the proof of EntryOrder: part 7 of 14. -/
import Derived.Test.YtajompaehjkgkaaGreatEor6
namespace Go.Proofs.YtajompaehjkgkaaGreat
open Go.Ai
set_option maxRecDepth 100000
open BitVec renaming ofInt->T,or_comm->Xd,toNat_and->PV
open Bool renaming and_false->JN,and_true->MJ,eq_iff_iff->UY,false_eq_true->B_
open Decidable renaming decide->A
open Go.Ai.AV renaming agg->o,bool->B,fresh->P,int->F,sl->H,tup->Ar
open Go.Ai.Reg renaming box->Ay,own->X,val->C
open Go.IntKind renaming bits->An,i64->O,u32->Ae,u64->U,wrap->I
open Go.Proofs.Tryz renaming prog->Mv
open Int renaming add_comm->Ma,add_mul->Gw,add_mul_ediv_left->VZ,add_mul_ediv_right->ACn,add_mul_emod_self_left->WY,add_zero->BJ,ediv_emod_unique->N4,ediv_eq_zero_of_lt->HJ,ediv_lt_of_lt_mul->Mo,ediv_nonneg->Lc,emod_eq_of_lt->GK,emod_lt_of_pos->EU,emod_nonneg->Gm,eq_ofNat_of_zero_le->O8,eq_of_mul_eq_mul_left->FM,fdiv->d,fdiv_eq_ediv_of_nonneg->q,gcd->Dr,le_of_lt->Aw,le_refl->Dg,lt_of_lt_of_le->sD,lt_of_mul_lt_mul_left->FK,lt_of_mul_lt_mul_right->Dd,mul_add->CT,mul_assoc->AK,mul_comm->AE,mul_ediv_add_emod->Hk,mul_ediv_cancel_left->Cc,mul_emod_mul_of_pos->ACj,mul_eq_zero->EH,mul_le_mul->EO,mul_le_mul_of_nonneg_left->Al,mul_le_mul_of_nonneg_right->Ac,mul_lt_mul_of_pos_left->It,mul_lt_mul_of_pos_right->Bc,mul_neg->EY,mul_nonneg->AA,mul_one->Dh,mul_pos->Bp,mul_sub->Fy,mul_zero->AG,natAbs->E,natAbs_natCast->BW,natAbs_pow->Qa,natCast_emod->Ayt,natCast_mul->DI,neg_tdiv->Ant,neg_tmod->jO,not_lt->KF,one_mul->Dt,pow_add->BB,pow_mul->rX,pow_succ->A7,pow_zero->Dj,sub_self->Sg,sub_zero->F8,tdiv->Ax,tdiv_eq_ediv_of_nonneg->BK,tdiv_neg->Anu,tmod->AB,tmod_eq_emod_of_nonneg->B1,tmod_neg->Anv,toNat->D,toNat_natCast->R,zero_add->Ed,zero_mul->BU
open List renaming all->Aay,drop->g,drop_eq_getElem_cons->B2,drop_length->Ev,drop_zero->Da,eq_nil_of_length_eq_zero->A5,getD_eq_getElem?_getD->Z,getElem?_drop->Bu,getElem?_eq_getElem->Ad,length->Bl,length_cons->B0,length_drop->CV,length_eq_one_iff->A8e,length_map->Q,length_nil->HI,length_pos_iff->Ak,length_range->BE,length_set->Ba,map_append->Ez,map_congr_left->GM,map_cons->Cx,map_nil->FW,map_take->PZ,mem_append->Bn,mem_cons_of_mem->AT,mem_cons_self->AO,mem_map->Cn,mem_singleton->C3,range->Aq,range_succ->Io,replicate->l,replicate_succ->GL,set_append_right->ACg,set_set->SL,take->Bx,take_length->DP,take_of_length_le->CS,take_zero->R5
open Nat renaming add_assoc->DW,add_mul->DE,add_zero->EJ,and_two_pow_sub_one_eq_mod->Xe,gcd->J7,gcd_comm->Lf,gcd_rec->A3k,gcd_zero_right->HG,le_of_dvd->Ut,le_of_lt->uY,le_of_not_lt->PI,le_refl->Ao,lt_of_le_of_lt->DF,lt_of_lt_of_le->CG,lt_or_ge->Ct,mod_lt->GO,mul_assoc->Fm,mul_comm->CY,mul_le_mul->BG,mul_le_mul_left->z,mul_le_mul_right->AJ,mul_succ->Sh,mul_zero->jN,one_mul->FL,pow_le_pow_right->BM,pow_lt_pow_right->Tv,pow_mul->AEg,pow_pos->DH,sub_self->Wh,sub_zero->NQ,testBit_and->A3t,testBit_lt_two_pow->nB,zero_add->Cb,zero_le->AN
open Or renaming inl->Adi,inr->S8
noncomputable section
def Kc(g:Nat->Int)(i r:Nat):LI:=(Aq i).map g++l r 0
theorem ZY(g:Nat->Int)(i r:Nat):(Kc g i r).length=i+r:=by simp [Kc]
theorem vM(g:Nat->Int)(i r:Nat):(Kc g i (r+1)).set i (g i)=Kc g (i+1) r:=by
 simp only[Kc,Io,Ez,Cx,FW];rw[ACg _ _ (by simp)];simp[GL]
def D6(us:LI)(s:Nat)(i:Nat):Int:=us.getD (i+1) 0 % 2^s*2^(32-s)+us.getD i 0 / 2^s
theorem Ur{us:LI}(hu:A_ us){s:Nat}(hs:s<32)(i:Nat):(0<=us.getD i 0 / 2^s/\us.getD i 0 / 2^s<2^(32-s))/\0<=us.getD (i+1) 0 % 2^s/\us.getD (i+1) 0 % 2^s*2^(32-s)<4294967296/\(0<=D6 us s i/\D6 us s i<4294967296):=by
 have h0:=AL hu i;have h1:=AL hu (i+1);have hp:=BX s;have hp2:=BX (32-s);have e:=Uo (show s<=32 by omega);have a1:=Gm (us.getD (i+1) 0) (show (2:Int)^s ≠ 0 by omega);have a2:=EU (us.getD (i+1) 0) hp;have b0:0<=us.getD i 0 / 2^s:=Lc h0.1 (by omega);have b1:us.getD i 0 / 2^s<2^(32-s):=Mo hp (by rw[<- e];exact h0.2);unfold D6;generalize us.getD (i+1) 0 % 2^s=x at *
 generalize us.getD i 0 / 2^s=y at *
 have c1:=Ac (show x+1<=2^s by omega) (show (0:Int)<=2^(32-s) by omega);rw[Gw,Dt,AE (2^s),<- e] at c1;have c2:=AA a1 (show (0:Int)<=2^(32-s) by omega);omega
theorem nA{us:LI}(s:Nat)(hs:s<32):∀ n,n<=us.length->2^s*Ab ((Aq n).map (D6 us s))=Ab (us.take n)-us.getD 0 0 % 2^s+4294967296^n*(us.getD n 0 % 2^s):=by
 intro n;induction n with
 | zero =>
  intro _;simp only[List.range_zero,FW,R5,Ab,Dj,AG,Dt];generalize us.getD 0 0 % 2^s=w;omega
 | succ n ih =>
  intro hn;have e:=Uo (show s<=32 by omega);rw[Io,Ez,Cx,FW,GZ,Q,BE,CT,ih (by omega),Et us n (by omega),A7];have e2:Ab [D6 us s n]=D6 us s n:=by simp[Ab]
  rw[e2];unfold D6;have e3:=Hk (us.getD n 0) (2^s);generalize us.getD (n+1) 0 % 2^s=x at *
  generalize us.getD n 0 / 2^s=y at *
  generalize us.getD n 0 % 2^s=z at *
  generalize us.getD 0 0 % 2^s=w at *
  generalize us.getD n 0=u at *
  generalize Ab (us.take n)=V at *
  generalize (4294967296:Int)^n=P at *
  rw[e];generalize (2:Int)^(32-s)=T at *
  generalize (2:Int)^s=S at *
  rw[<- e3];grind
theorem vN{us:LI}{k n kq:Nat}{qs:LI}{s:Nat}(hu:A_ us)(hl:us.length=k)(hn:n<k)(hk:k<=1048577)(hs:s<32) :
  Ap (.loop OV) (J5 k us (n:Nat) kq qs n (l n 0) (s:Nat) 0) (.exit 8) (J5 k us (n:Nat) kq qs n ((Aq n).map (D6 us s)) (s:Nat) (n:Nat)):=by
 have h:=CE.up (prog:=DK) (c:=OV) (ex := .exit 8) (fin:=J5 k us (n:Nat) kq qs n ((Aq n).map (D6 us s)) (s:Nat) (n:Nat))
  (fun i=>J5 k us (n:Nat) kq qs n (Kc (D6 us s) i (n-i)) (s:Nat) (i:Nat)) n (by nofun) ?_ ?_ 0 (AN _)
 ·simpa [Kc] using h
 ·intro i hi;obtain⟨r,hr⟩:∃ r,n-i=r+1:=⟨n-i-1,by omega⟩;have e2:n-(i+1)=r:=by omega
  have ei:I O ((i:Int)+1)=((i+1:Nat):Int):=by rw[Bg (by omega) (by omega)];omega
  have hlen:(Kc (D6 us s) i (r+1)).length=n:=by rw[ZY];omega
  obtain⟨b1,b2,b3,b4⟩:=Ur hu hs i;have es:I U (s:Int)=(s:Nat):=CP (by omega);have em:min (D (s:Int)) (An .u32)=s:=by rw[R];show min s 32=s;omega
  have hp:=BX s;rw[hr,e2,<- vM];have hget:∀ v:Int,((Kc (D6 us s) i (r+1)).set i v).getD i 0=v:=fun v=>by simp[Z,show i<(Kc (D6 us s) i (r+1)).length by omega]
  have efd:d (us.getD i 0) (2^s)=us.getD i 0 / 2^s:=q _ (by omega);by_cases h0:s=0
  ·subst h0;have k2:=Aft k us (n:Nat) kq qs n (Kc (D6 us 0) i (r+1)) ((0:Nat):Int) (i:Nat) (by simp;omega) (by simp) (by omega) hl (by rw[es];omega) (by omega) hlen;rw[ei,R,es,em,efd] at k2;have e5:D6 us 0 i=us.getD i 0 / 2^0:=by simp[D6,Int.emod_one]
   rw[e5];exact k2
  ·have e32:I U (I O (32-(s:Int)))=((32-s:Nat):Int):=by rw[Bg (by omega) (by omega),CP (by omega)];omega
   have em2:min (D ((32-s:Nat):Int)) (An .u32)=32-s:=by rw[R];show min (32-s) 32=32-s;omega
   have k1:=Afs k us (n:Nat) kq qs n (Kc (D6 us s) i (r+1)) (s:Int) (i:Nat) (by simp;omega) (by simp;omega) (by omega) hl (by rw[es];omega) (by omega) hlen (by simpa using hlen) (by rw[ei];omega) (by rw[e32];omega);rw[ei,R,R,es,em,e32,em2,efd,hget,SL,Es (us.getD (i+1) 0*2^(32-s))] at k1;have e6:us.getD (i+1) 0*2^(32-s) % 4294967296=us.getD (i+1) 0 % 2^s*2^(32-s):=by
    rw[Uo (show s<=32 by omega),AE (us.getD (i+1) 0),ACj _ _ (BX (32-s)),AE]
   rw[e6,Awm b2 b3 (by omega) b1] at k1;exact k1
 ·have k3:=Afu k us (n:Nat) kq qs n ((Aq n).map (D6 us s)) (s:Nat) (n:Nat) (by simp);simpa [Kc] using k3
theorem Tt{g:Nat->Int}{n:Nat}(h:∀ i,0<=g i/\g i<4294967296):A_ ((Aq n).map g):=fun x hx=>by
 obtain⟨i,_,rfl⟩:=Cn.1 hx;exact h i
theorem ZZ{xs ys:LI}(hx:Ga xs)(hy:Ga ys)(hy0:ys ≠ [])(h1:xs.length<1048576)(h2:ys.length<1048576):∃ qs rs,A_ qs/\A_ rs/\(qs:LI).length<=1048576/\(rs:LI).length<=1048576/\Ab qs=Ab xs / Ab ys/\Ab rs=Ab xs % Ab ys /\
  RQ 180 [sL lm xs,sL lm ys] (Ar [sL lm qs,sL lm rs]):=by
 have hyl:=Ak.2 hy0;have hcmp:=K2 hx hy (by omega);have hx0:=Bi hx.1;have hyp:=JX hy hy0;by_cases hlt:Ab xs<Ab ys
 ·refine⟨[],xs,fun x h=>(nomatch h),hx.1,by simp,by omega,?_,?_,?_⟩
  ·rw[HJ hx0 hlt];rfl
  ·rw[GK hx0 hlt]
  ·exact vC xs ys _ (by unfold CX;rw[if_pos hlt];rfl) (Xo xs) (by omega) hcmp
 have hcm:decide (CX (Ab xs) (Ab ys)<0)=false:=by unfold CX;rw[if_neg hlt];split <;> rfl
 by_cases hone:ys.length=1
 ·obtain⟨y,rfl⟩:=A8e.1 hone;have e1:Ab [y]=y:=by simp[Ab]
  rw[e1] at hyp;have hyb:=hy.1 y (by simp);obtain⟨qs,r,q1,q2,q3,q4,q5⟩:=ZX hx.1 (d:=y) ⟨hyp,hyb.2⟩ (by omega);have e2:Ab [r]=r:=by simp[Ab]
  have hd:=(N4 hyp (a:=Ab xs) (r:=r) (q:=Ab qs)).2 ⟨by omega,q3.1,q3.2⟩;refine⟨qs,[r],q2,fun x h=>by rw[C3.1 h];omega,by omega,by simp,by rw[e1];exact hd.1.symm,by rw[e1,e2];exact hd.2.symm,?_⟩;exact vD xs [y] qs _ r hcm (by rfl) hcmp (by simp) q5
 ·obtain⟨m,hm⟩:∃ m,ys.length=m+2:=⟨ys.length-2,by omega⟩;have hxl:ys.length<=xs.length:=by
   rcases Ct xs.length ys.length with g | g
   ·exact absurd (J' hx hy g) hlt
   ·exact g
  have hyt:0<ys.getD (m+1) 0/\ys.getD (m+1) 0<4294967296:=by
   have a:=AL hy.1 (m+1);rcases hy.2 with g | g
   ·exact absurd g hy0
   ·rw[show ys.length-1=m+1 by omega] at g;omega
  obtain⟨s,hs,s1,s2,hlz⟩:=Acb hyt;obtain⟨us,u1,u2,u3,hus⟩:=Uq hx.1 hs h1;obtain⟨ws,w1,w2,w3,hws⟩:=Uq hy.1 hs h2;have hp:=BX s;have ysplit:=DC ys (j:=m+1) (by omega);have yd:=CM ys (m+1);rw[Ek (xs:=ys) (i:=m+1+1) (by omega),AG,BJ] at yd;rw[yd] at ysplit;have ylo:=GF hy.1 (m+1);have ylo0:=Bi (Em hy.1 (m+1));have hP:=CH (m+1);have hV1:2147483648*4294967296^(m+1)<=Ab ws:=by
   rw[w3,ysplit];have a:=Ac s1 (show (0:Int)<=4294967296^(m+1) by omega);have b:=AA (show (0:Int)<=2^s by omega) ylo0;have e:2^s*(Ab (Bx (m+1) ys)+4294967296^(m+1)*ys.getD (m+1) 0)=2^s*Ab (Bx (m+1) ys)+ys.getD (m+1) 0*2^s*4294967296^(m+1):=by grind
   omega
  have hV2:Ab ws<4294967296^(m+2):=by
   have e9:(4294967296:Int)^(m+2)=4294967296^(m+1)*4294967296:=A7 _ _;rw[w3,ysplit];have e0:=Uo (show s<=32 by omega);have a1:ys.getD (m+1) 0+1<=2^(32-s):=by
    rw[e0] at s2;have:=Dd s2 (by omega);omega
   have a2:=Ac a1 (show (0:Int)<=2^s*4294967296^(m+1) by have:=Bp hp hP;omega);have a3:=It ylo hp;have e1:(ys.getD (m+1) 0+1)*(2^s*4294967296^(m+1))=2^s*(4294967296^(m+1)*ys.getD (m+1) 0)+2^s*4294967296^(m+1):=by grind
   have e2:(2:Int)^(32-s)*(2^s*4294967296^(m+1))=4294967296^(m+1)*4294967296:=by rw[<- AK,<- e0,AE]
   rw[CT];omega
  have hdz:=KS w2 (n:=m+2) (V:=4294967296^(m+2)) (Dg _) hV2;have hvs:Ab (ws.take (m+2))=Ab ws:=by
   have:=DC ws (j:=m+2) (by omega);rw[hdz,AG,BJ] at this;exact this.symm
  have hvl:(ws.take (m+2)).length=m+2:=by simp;omega
  have hvu:=Em w2 (m+2);generalize hvv:ws.take (m+2)=vs at *
  have hvtop:2147483648<=vs.getD (m+1) 0:=by
   have a:=DC vs (j:=m+1) (by omega);have b:=CM vs (m+1);rw[Ek (xs:=vs) (i:=m+1+1) (by omega),AG,BJ] at b;rw[b] at a;have c:=GF hvu (m+1);apply KF.1;intro h;have:=Al (show vs.getD (m+1) 0+1<=2147483648 by omega) (show (0:Int)<=4294967296^(m+1) by omega);rw[CT,Dh,AE _ 2147483648] at this;omega
  have hini:Ab (us.drop (xs.length-ys.length+1))<Ab vs:=by
   have a:=DC us (j:=xs.length-ys.length+1) (by omega);have b:=Bi (Em u2 (xs.length-ys.length+1));have c:=Eb hx.1;have d:=It c hp;have e:(4294967296:Int)^xs.length=4294967296^(xs.length-ys.length+1)*4294967296^(m+1):=by rw[<- BB];congr 1;omega
   have hp2:(2:Int)^s<=2147483648:=by
    have:=Ho (show s<=31 by omega);rwa [show (2:Int)^31=2147483648 by decide] at this
   have hQ:=CH (xs.length-ys.length+1);rw[hvs];apply sD (b:=2^s*4294967296^(m+1))
   ·apply FK (a:=4294967296^(xs.length-ys.length+1)) _ (by omega);have e2:(4294967296:Int)^(xs.length-ys.length+1)*(2^s*4294967296^(m+1))=2^s*4294967296^xs.length:=by rw[e];grind
    omega
   ·have:=Ac hp2 (show (0:Int)<=4294967296^(m+1) by omega);omega
  obtain⟨us',qs,l1,l2,l3,l4,l5,l6,l7⟩:=Afx (k:=xs.length+1) (kq:=xs.length-ys.length+1) (s:=(s:Nat)) hvu hvl hvtop (by omega) (by omega) (xs.length-ys.length+1) us (l (xs.length-ys.length+1) 0) (Ao _) u1 u2 (by simp) (Fr _) (fun t _=>DQ _ _) hini;have l8:=vN (us:=us') (k:=xs.length+1) (n:=m+2) (kq:=xs.length-ys.length+1) (qs:=qs) l3 l2 (by omega) (by omega) hs;rw[Fe,F8,u3,hvs,w3] at l7;rw[hvs] at l6;have hR:Ab us'=2^s*(Ab xs-Ab ys*Ab qs):=by
   rw[Fy];have:2^s*Ab ys*Ab qs=2^s*(Ab ys*Ab qs):=by grind
   omega
  have us0:=Bi l3;have hR0:0<=Ab xs-Ab ys*Ab qs:=by
   apply KF.1;intro h;have:=Al (show Ab xs-Ab ys*Ab qs <= -1 by omega) (show (0:Int)<=2^s by omega);omega
  have hR1:Ab xs-Ab ys*Ab qs<Ab ys:=by
   rw[hR,w3] at l6;exact FK l6 (by omega)
  have hrs:Ab ((Aq (m+2)).map (D6 us' s))=Ab xs-Ab ys*Ab qs:=by
   have a:=nA (us:=us') s hs (m+2) (by omega);have b:us'.getD 0 0 % 2^s=0:=by
    have c:=CM us' 0;rw[Da,Cb,hR] at c;have e0:=Uo (show s<=32 by omega);have:us'.getD 0 0=2^s*(Ab xs-Ab ys*Ab qs-2^(32-s)*Ab (us'.drop 1)):=by rw[Fy,<- AK,AE (2^s) (2^(32-s)),<- e0];omega
    rw[this];exact Int.mul_emod_right _ _
   have dz:=KS l3 (n:=m+2) (V:=Ab ws) (by omega) l6;have c2:us'.getD (m+2) 0=0:=by
    have c:=CM us' (m+2);rw[dz] at c;have d1:=Bi (FF l3 (m+2+1));have d2:=AL l3 (m+2);omega
   have d:=DC us' (j:=m+2) (by omega);rw[dz,AG,BJ] at d;rw[b,c2,<- d,hR,Int.zero_emod,AG,F8,BJ] at a;exact FM (by omega) a
  have hd:=(N4 hyp (a:=Ab xs) (r:=Ab xs-Ab ys*Ab qs) (q:=Ab qs)).2 ⟨by omega,hR0,hR1⟩;have e1:I O ((ys.length:Int)-1)=((m+1:Nat):Int):=by rw[Bg (by omega) (by omega)];omega
  have e2:I O ((ys.length:Int)-2)=(m:Int):=by rw[Bg (by omega) (by omega)];omega
  have e3:I O ((xs.length:Int)-(ys.length:Int))=((xs.length-ys.length:Nat):Int):=by rw[Bg (by omega) (by omega)];omega
  have e4:I O (((xs.length-ys.length:Nat):Int)+1)=((xs.length-ys.length+1:Nat):Int):=by rw[Bg (by omega) (by omega)];omega
  have hlv:vs.length=ys.length:=by omega
  have hvv2:ws.take ys.length=vs:=by rw[hm];exact hvv
  have v1:=AL hvu (m+1);have v2:=AL hvu m;refine⟨qs,(Aq (m+2)).map (D6 us' s),l5,Tt (fun i=>(Ur l3 hs i).2.2.2),by omega,by simp;omega,hd.1.symm,by rw[hrs];exact hd.2.symm,?_⟩;have hl11:Ap (.loop OW) (I2 us.length us vs (vs.length:Nat) (vs.getD (m+1) 0) (vs.getD m 0) (xs.length-ys.length+1) (l (xs.length-ys.length+1) 0) (s:Nat) ((xs.length-ys.length:Nat):Int)) (.exit 0) (I2 us.length us' vs (vs.length:Nat) (vs.getD (m+1) 0) (vs.getD m 0) (xs.length-ys.length+1) qs (s:Nat) (-1)):=by
   rw[u1];refine l1.to ?_ rfl;congr 1;omega
  have h:=vE xs ys us ws us' vs qs ((Aq (m+2)).map (D6 us' s)) _ (s:Nat) (vs.length:Nat) (vs.getD (m+1) 0) (vs.getD m 0) (-1) us.length (xs.length-ys.length+1) (m+2) hcm (by rw[hm,beq_eq_false_iff_ne];omega) hcmp (by rw[e1];omega) (by rw[e1,R];exact hlz) (by omega) (by rw[R];exact⟨by omega,by omega,Ao _,fun _=>rfl⟩) hus hws (by rw[e3,e4];omega) (by rw[e1,R];omega) (by rw[e2,R];omega)
   (by
    rw[e1,e2,e3,e4,R,R,R,R,FE,cE,Da,NQ,hvv2,CP (n:=vs.getD (m+1) 0) (by omega),CP (n:=vs.getD m 0) (by omega)];unfold I2 at hl11 |-;unfold sL at hl11 |-;rw[hlv] at hl11 |-;exact hl11)
   (by omega) (by
    rw[hvl,R,FE,u1];exact l8)
  unfold sL;rw[show qs.length=xs.length-ys.length+1 from l4,show ((Aq (m+2)).map (D6 us' s)).length=m+2 by simp];exact h
def TQD:C8:=TQC
theorem vO:Co DK TQD:=vL
def GX:ICode:=c Aqu 91 500
def DL(neg:Bool)(xs:LI)(sh:Int)(ms:LI)(lost:Bool)(i:Int):Aj:=(W 1 (C (F O sh)::(Ay [B neg,sL lm xs]::(W 1 (Ay [B false,H 0 []]::(C (sL lm ms)::(X 1 0 []::(C (B lost)::(C (F O i)::(W 95 []))))))))))
theorem Afy(neg:Bool)(xs:LI)(sh:Int)(ms:LI)(lost:Bool)(i:Int)(c1:A (i<(ms.length:Int))=true)(c2:A (i<(I O (Ax sh 32)))=true)(c3:(lost)=true):Ap GX (DL neg xs sh ms lost i) .norm (DL neg xs sh ms true (I O (i+1))):=(J f [bT,bT,bT] OX (JS c1 G1 c2 c3))
theorem Afz(neg:Bool)(xs:LI)(sh:Int)(ms:LI)(lost:Bool)(i:Int)(c1:A (i<(ms.length:Int))=true)(c2:A (i<(I O (Ax sh 32)))=true)(c3:(lost)=false)(n1:0<=i/\i<(ms.length:Int)):Ap GX (DL neg xs sh ms lost i) .norm (DL neg xs sh ms ((ms.getD (D i) 0) != 0) (I O (i+1))):=(J f [bT,bT,bF,.v (F Ae (ms.getD (D i) 0))] OX (JT c1 G1 c2 c3 n1 (p n1)))
theorem Aga(neg:Bool)(xs:LI)(sh:Int)(ms:LI)(lost:Bool)(i:Int)(c1:A (i<(ms.length:Int))=true)(c2:A (i<(I O (Ax sh 32)))=false):Ap GX (DL neg xs sh ms lost i) (.exit 0) (DL neg xs sh ms lost i):=(J f [bT,bF] OX (JV c1 G1 c2))
theorem Agb(neg:Bool)(xs:LI)(sh:Int)(ms:LI)(lost:Bool)(i:Int)(c1:A (i<(ms.length:Int))=false):Ap GX (DL neg xs sh ms lost i) (.exit 0) (DL neg xs sh ms lost i):=(J f [bF,bF] OX (J0 c1 Fc))
def G4:ICode:=c Aqu 89 2036
def D7(neg:Bool)(xs:LI)(sh:Int)(ms:LI)(n:Nat)(cs:List AV)(lost:Bool)(s:Int)(i:Int):Aj:=(W 1 (C (F O sh)::(Ay [B neg,sL lm xs]::(W 1 (Ay [B false,H 0 []]::(C (sL lm ms)::(X 1 n cs::(C (B lost)::(W 1 (C (F U s)::(C (F O i)::(W 93 []))))))))))))
theorem Agc(neg:Bool)(xs:LI)(sh:Int)(ms:LI)(n:Nat)(cs:List AV)(lost:Bool)(s:Int)(i:Int)(c1:A (i<(ms.length:Int))=true)(c2:A ((I O (i+1))<(ms.length:Int))=true)(n1:0<=i/\i<(ms.length:Int))(n2:0<=(I O (i+1))/\(I O (i+1))<(ms.length:Int))(n3:¬ s<0)(n4:n+1<=35184372088832):Ap G4 (D7 neg xs sh ms n cs lost s i) .norm (D7 neg xs sh ms (n+1) (cs++([F Ae (I Ae (d (I U ((T (An .u64) (I U (ms.getD (D i) 0)) ||| T (An .u64) (I U ((I U (ms.getD (D (I O (i+1))) 0))*2^(min (D 32) (An .u64))))).toNat)) (2^(min (D s) (An .u64)))))]:List AV)) lost s (I O (i+1))):=(J f [bT,.v (F Ae (ms.getD (D i) 0)),bT,.v (F Ae (ms.getD (D (I O (i+1))) 0))] PL (OS c1 n1 (p n1) c2 n2 (p n2) Jn n3 (show Bl ([F Ae (I Ae (d (I U ((T (An .u64) (I U (ms.getD (D i) 0)) ||| T (An .u64) (I U ((I U (ms.getD (D (I O (i+1))) 0))*2^(min (D 32) (An .u64))))).toNat)) (2^(min (D s) (An .u64)))))]:List AV)=1*1 from rfl) n4))
theorem Agd(neg:Bool)(xs:LI)(sh:Int)(ms:LI)(n:Nat)(cs:List AV)(lost:Bool)(s:Int)(i:Int)(c1:A (i<(ms.length:Int))=true)(c2:A ((I O (i+1))<(ms.length:Int))=false)(n1:0<=i/\i<(ms.length:Int))(n2:¬ s<0)(n3:n+1<=35184372088832):Ap G4 (D7 neg xs sh ms n cs lost s i) .norm (D7 neg xs sh ms (n+1) (cs++([F Ae (I Ae (d (I U (ms.getD (D i) 0)) (2^(min (D s) (An .u64)))))]:List AV)) lost s (I O (i+1))):=(J f [bT,.v (F Ae (ms.getD (D i) 0)),bF] PL (Lm c1 n1 (p n1) c2 n2 (show Bl ([F Ae (I Ae (d (I U (ms.getD (D i) 0)) (2^(min (D s) (An .u64)))))]:List AV)=1*1 from rfl) n3))
theorem cQ(neg:Bool)(xs:LI)(sh:Int)(ms:LI)(n:Nat)(cs:List AV)(lost:Bool)(s:Int)(i:Int)(c1:A (i<(ms.length:Int))=false):Ap G4 (D7 neg xs sh ms n cs lost s i) (.exit 2) (D7 neg xs sh ms n cs lost s i):=(J f [bF] PL (Jx c1))
theorem vP(neg lost:Bool)(xs:LI)(sh i1:Int)(n:Nat)(cs:List AV)(i2 v w:Int)(c1:(A ((I O (Ax sh 32))<(((Y xs).length:Nat):Int)))=true)(c2:(lost)=true)(c3:(neg)=true)(n1:RQ 99 [sL lm xs] (P 1 ((Y xs).length) (lm (Y xs))))(hl2:Ap (.loop GX) (DL neg xs sh (Y xs) false 0) (.exit 0) (DL neg xs sh (Y xs) lost i1))(hl3:Ap (.loop G4) (D7 neg xs sh (Y xs) 0 ([]:List AV) lost (I U (AB sh 32)) (I O (Ax sh 32))) (.exit 2) (D7 neg xs sh (Y xs) n cs lost (I U (AB sh 32)) i2))(n4:RQ 98 [B neg,H n cs] (CR v))(n5:RQ 49 [F O 1] (Ag 1))(n6:RQ 129 [Ag v,Ag 1] (Ag w)):RQ 128 [o [B neg,sL lm xs],F O sh] (Ag w):=OO Aqu (W 4 (Ay [B (A (w<0)),H ((M (E w)).length) (lm (M (E w)))]::(W 99 []))) (CE.asc (CE.asc (CE.asc (Av (CE.seq (J f [.r (P 1 ((Y xs).length) (lm (Y xs)))] OX (Jx n1)) (CE.seq (CE.block hl2) (Av (CE.seq (J f [] PL (J0 G1 G1)) (CE.seq (CE.block hl3) (J f [bT,bT,.r (CR v),bT,bT,.r (Ag 1),.r (Ag w)] [4] (ND G1 c1 c2 n4 c3 QH n5 n6)))))))))))
theorem vQ(neg lost:Bool)(xs:LI)(sh i1:Int)(n:Nat)(cs:List AV)(i2 v:Int)(c1:(A ((I O (Ax sh 32))<(((Y xs).length:Nat):Int)))=true)(c2:(lost)=true)(c3:(neg)=false)(n1:RQ 99 [sL lm xs] (P 1 ((Y xs).length) (lm (Y xs))))(hl2:Ap (.loop GX) (DL neg xs sh (Y xs) false 0) (.exit 0) (DL neg xs sh (Y xs) lost i1))(hl3:Ap (.loop G4) (D7 neg xs sh (Y xs) 0 ([]:List AV) lost (I U (AB sh 32)) (I O (Ax sh 32))) (.exit 2) (D7 neg xs sh (Y xs) n cs lost (I U (AB sh 32)) i2))(n4:RQ 98 [B neg,H n cs] (CR v)):RQ 128 [o [B neg,sL lm xs],F O sh] (Ag v):=OO Aqu (W 4 (Ay [B (A (v<0)),H ((M (E v)).length) (lm (M (E v)))]::(W 99 []))) (CE.asc (CE.asc (CE.asc (Av (CE.seq (J f [.r (P 1 ((Y xs).length) (lm (Y xs)))] OX (Jx n1)) (CE.seq (CE.block hl2) (Av (CE.seq (J f [] PL (J0 G1 G1)) (CE.seq (CE.block hl3) (J f [bT,bT,.r (CR v),bF,bF] [4] (JT G1 c1 c2 n4 c3 Fc)))))))))))
theorem vR(neg lost:Bool)(xs:LI)(sh i1:Int)(n:Nat)(cs:List AV)(i2 v w:Int)(c1:(A ((I O (Ax sh 32))<(((Y xs).length:Nat):Int)))=true)(c2:(lost)=false)(c3:(neg)=true)(c4:((I Ae ((T (An .u32) ((Y xs).getD (D (I O (Ax sh 32))) 0) &&& T (An .u32) (I Ae ((I Ae (1*2^(min (D (I U (AB sh 32))) (An .u32))))-1))).toNat)) != 0)=true)(n1:RQ 99 [sL lm xs] (P 1 ((Y xs).length) (lm (Y xs))))(hl2:Ap (.loop GX) (DL neg xs sh (Y xs) false 0) (.exit 0) (DL neg xs sh (Y xs) lost i1))(hl3:Ap (.loop G4) (D7 neg xs sh (Y xs) 0 ([]:List AV) lost (I U (AB sh 32)) (I O (Ax sh 32))) (.exit 2) (D7 neg xs sh (Y xs) n cs lost (I U (AB sh 32)) i2))(n4:0<=(I O (Ax sh 32))/\(I O (Ax sh 32))<(((Y xs).length:Nat):Int))(n5:¬ (I U (AB sh 32))<0)(n6:RQ 98 [B neg,H n cs] (CR v))(n7:RQ 49 [F O 1] (Ag 1))(n8:RQ 129 [Ag v,Ag 1] (Ag w)):RQ 128 [o [B neg,sL lm xs],F O sh] (Ag w):=OO Aqu (W 4 (Ay [B (A (w<0)),H ((M (E w)).length) (lm (M (E w)))]::(W 99 []))) (CE.asc (CE.asc (CE.asc (Av (CE.seq (J f [.r (P 1 ((Y xs).length) (lm (Y xs)))] OX (Jx n1)) (CE.seq (CE.block hl2) (Av (CE.seq (J f [] PL (J0 G1 G1)) (CE.seq (CE.block hl3) (J f [bT,bF,.v (F Ae ((Y xs).getD (D (I O (Ax sh 32))) 0)),.r (CR v),bT,bT,.r (Ag 1),.r (Ag w)] [4] (Te G1 c1 c2 G1 n4 (p n4) n5 n6 c3 c4 n7 n8)))))))))))
theorem vS(neg lost:Bool)(xs:LI)(sh i1:Int)(n:Nat)(cs:List AV)(i2 v:Int)(c1:(A ((I O (Ax sh 32))<(((Y xs).length:Nat):Int)))=true)(c2:(lost)=false)(c3:(neg)=true)(c4:((I Ae ((T (An .u32) ((Y xs).getD (D (I O (Ax sh 32))) 0) &&& T (An .u32) (I Ae ((I Ae (1*2^(min (D (I U (AB sh 32))) (An .u32))))-1))).toNat)) != 0)=false)(n1:RQ 99 [sL lm xs] (P 1 ((Y xs).length) (lm (Y xs))))(hl2:Ap (.loop GX) (DL neg xs sh (Y xs) false 0) (.exit 0) (DL neg xs sh (Y xs) lost i1))(hl3:Ap (.loop G4) (D7 neg xs sh (Y xs) 0 ([]:List AV) lost (I U (AB sh 32)) (I O (Ax sh 32))) (.exit 2) (D7 neg xs sh (Y xs) n cs lost (I U (AB sh 32)) i2))(n4:0<=(I O (Ax sh 32))/\(I O (Ax sh 32))<(((Y xs).length:Nat):Int))(n5:¬ (I U (AB sh 32))<0)(n6:RQ 98 [B neg,H n cs] (CR v)):RQ 128 [o [B neg,sL lm xs],F O sh] (Ag v):=OO Aqu (W 4 (Ay [B (A (v<0)),H ((M (E v)).length) (lm (M (E v)))]::(W 99 []))) (CE.asc (CE.asc (CE.asc (Av (CE.seq (J f [.r (P 1 ((Y xs).length) (lm (Y xs)))] OX (Jx n1)) (CE.seq (CE.block hl2) (Av (CE.seq (J f [] PL (J0 G1 G1)) (CE.seq (CE.block hl3) (J f [bT,bF,.v (F Ae ((Y xs).getD (D (I O (Ax sh 32))) 0)),.r (CR v),bT,bF] [4] (OS G1 c1 c2 G1 n4 (p n4) n5 n6 c3 c4)))))))))))
theorem vT(neg lost:Bool)(xs:LI)(sh i1:Int)(n:Nat)(cs:List AV)(i2 v:Int)(c1:(A ((I O (Ax sh 32))<(((Y xs).length:Nat):Int)))=true)(c2:(lost)=false)(c3:(neg)=false)(n1:RQ 99 [sL lm xs] (P 1 ((Y xs).length) (lm (Y xs))))(hl2:Ap (.loop GX) (DL neg xs sh (Y xs) false 0) (.exit 0) (DL neg xs sh (Y xs) lost i1))(hl3:Ap (.loop G4) (D7 neg xs sh (Y xs) 0 ([]:List AV) lost (I U (AB sh 32)) (I O (Ax sh 32))) (.exit 2) (D7 neg xs sh (Y xs) n cs lost (I U (AB sh 32)) i2))(n4:0<=(I O (Ax sh 32))/\(I O (Ax sh 32))<(((Y xs).length:Nat):Int))(n5:¬ (I U (AB sh 32))<0)(n6:RQ 98 [B neg,H n cs] (CR v)):RQ 128 [o [B neg,sL lm xs],F O sh] (Ag v):=OO Aqu (W 4 (Ay [B (A (v<0)),H ((M (E v)).length) (lm (M (E v)))]::(W 99 []))) (CE.asc (CE.asc (CE.asc (Av (CE.seq (J f [.r (P 1 ((Y xs).length) (lm (Y xs)))] OX (Jx n1)) (CE.seq (CE.block hl2) (Av (CE.seq (J f [] PL (J0 G1 G1)) (CE.seq (CE.block hl3) (J f [bT,bF,.v (F Ae ((Y xs).getD (D (I O (Ax sh 32))) 0)),.r (CR v),bF,bF] [4] (OS G1 c1 c2 G1 n4 (p n4) n5 n6 c3 Fc)))))))))))
theorem vU(neg lost:Bool)(xs:LI)(sh i1:Int)(n:Nat)(cs:List AV)(i2 v w:Int)(c1:(A ((I O (Ax sh 32))<(((Y xs).length:Nat):Int)))=false)(c2:(neg)=true)(c3:(lost)=true)(n1:RQ 99 [sL lm xs] (P 1 ((Y xs).length) (lm (Y xs))))(hl2:Ap (.loop GX) (DL neg xs sh (Y xs) false 0) (.exit 0) (DL neg xs sh (Y xs) lost i1))(hl3:Ap (.loop G4) (D7 neg xs sh (Y xs) 0 ([]:List AV) lost (I U (AB sh 32)) (I O (Ax sh 32))) (.exit 2) (D7 neg xs sh (Y xs) n cs lost (I U (AB sh 32)) i2))(n4:RQ 98 [B neg,H n cs] (CR v))(n5:RQ 49 [F O 1] (Ag 1))(n6:RQ 129 [Ag v,Ag 1] (Ag w)):RQ 128 [o [B neg,sL lm xs],F O sh] (Ag w):=OO Aqu (W 4 (Ay [B (A (w<0)),H ((M (E w)).length) (lm (M (E w)))]::(W 99 []))) (CE.asc (CE.asc (CE.asc (Av (CE.seq (J f [.r (P 1 ((Y xs).length) (lm (Y xs)))] OX (Jx n1)) (CE.seq (CE.block hl2) (Av (CE.seq (J f [] PL (J0 G1 G1)) (CE.seq (CE.block hl3) (J f [bF,.r (CR v),bT,bT,.r (Ag 1),.r (Ag w)] [4] (Lm G1 c1 n4 c2 c3 n5 n6)))))))))))
theorem vV(neg lost:Bool)(xs:LI)(sh i1:Int)(n:Nat)(cs:List AV)(i2 v:Int)(c1:(A ((I O (Ax sh 32))<(((Y xs).length:Nat):Int)))=false)(c2:(neg)=true)(c3:(lost)=false)(n1:RQ 99 [sL lm xs] (P 1 ((Y xs).length) (lm (Y xs))))(hl2:Ap (.loop GX) (DL neg xs sh (Y xs) false 0) (.exit 0) (DL neg xs sh (Y xs) lost i1))(hl3:Ap (.loop G4) (D7 neg xs sh (Y xs) 0 ([]:List AV) lost (I U (AB sh 32)) (I O (Ax sh 32))) (.exit 2) (D7 neg xs sh (Y xs) n cs lost (I U (AB sh 32)) i2))(n4:RQ 98 [B neg,H n cs] (CR v)):RQ 128 [o [B neg,sL lm xs],F O sh] (Ag v):=OO Aqu (W 4 (Ay [B (A (v<0)),H ((M (E v)).length) (lm (M (E v)))]::(W 99 []))) (CE.asc (CE.asc (CE.asc (Av (CE.seq (J f [.r (P 1 ((Y xs).length) (lm (Y xs)))] OX (Jx n1)) (CE.seq (CE.block hl2) (Av (CE.seq (J f [] PL (J0 G1 G1)) (CE.seq (CE.block hl3) (J f [bF,.r (CR v),bT,bF] [4] (JL G1 c1 n4 c2 c3)))))))))))
theorem vW(neg lost:Bool)(xs:LI)(sh i1:Int)(n:Nat)(cs:List AV)(i2 v:Int)(c1:(A ((I O (Ax sh 32))<(((Y xs).length:Nat):Int)))=false)(c2:(neg)=false)(n1:RQ 99 [sL lm xs] (P 1 ((Y xs).length) (lm (Y xs))))(hl2:Ap (.loop GX) (DL neg xs sh (Y xs) false 0) (.exit 0) (DL neg xs sh (Y xs) lost i1))(hl3:Ap (.loop G4) (D7 neg xs sh (Y xs) 0 ([]:List AV) lost (I U (AB sh 32)) (I O (Ax sh 32))) (.exit 2) (D7 neg xs sh (Y xs) n cs lost (I U (AB sh 32)) i2))(n4:RQ 98 [B neg,H n cs] (CR v)):RQ 128 [o [B neg,sL lm xs],F O sh] (Ag v):=OO Aqu (W 4 (Ay [B (A (v<0)),H ((M (E v)).length) (lm (M (E v)))]::(W 99 []))) (CE.asc (CE.asc (CE.asc (Av (CE.seq (J f [.r (P 1 ((Y xs).length) (lm (Y xs)))] OX (Jx n1)) (CE.seq (CE.block hl2) (Av (CE.seq (J f [] PL (J0 G1 G1)) (CE.seq (CE.block hl3) (J f [bF,.r (CR v),bF,bF] [4] (JL G1 c1 n4 c2 Fc)))))))))))
def Ub:ICode:=c Asv 88 3764
def Pi(xs:LI)(ys:LI)(k:Nat)(qs:LI)(r:Int)(i:Int):Aj:=(C (sL lm xs)::(C (sL lm ys)::(W 2 (X 1 0 []::(X 1 0 []::(X 1 k (lm qs)::(C (F U r)::(C (F O i)::(W 298 [])))))))))
theorem Age(xs:LI)(ys:LI)(k:Nat)(qs:LI)(r:Int)(i:Int)(c1:A (i>=0)=true)(n1:0<=i/\i<(xs.length:Int))(n2:0<=(0:Int)/\(0:Int)<(ys.length:Int))(n3:¬ (I U (ys.getD (D 0) 0))=0)(n4:0<=i/\i<(k:Int))(n5:qs.length=k):Ap Ub (Pi xs ys k qs r i) .norm (Pi xs ys k (qs.set (D i) (I Ae (I U (Ax (I U ((T (An .u64) (I U (r*2^(min (D 32) (An .u64)))) ||| T (An .u64) (I U (xs.getD (D i) 0))).toNat)) (I U (ys.getD (D 0) 0)))))) (AB (I U ((T (An .u64) (I U (r*2^(min (D 32) (An .u64)))) ||| T (An .u64) (I U (xs.getD (D i) 0))).toNat)) (I U (ys.getD (D 0) 0))) (I O (i-1))):=(J f [bT,.v (F Ae (xs.getD (D i) 0)),.v (F Ae (ys.getD (D 0) 0)),.l (lm (qs.set (D i) (I Ae (I U (Ax (I U ((T (An .u64) (I U (r*2^(min (D 32) (An .u64)))) ||| T (An .u64) (I U (xs.getD (D i) 0))).toNat)) (I U (ys.getD (D 0) 0))))))),.v (F Ae (ys.getD (D 0) 0))] Tx (Te c1 Jn n1 (p n1) n2 (p n2) n3 n4 (show C5 (lm qs) (D i*1) [F Ae (I Ae (I U (Ax (I U ((T (An .u64) (I U (r*2^(min (D 32) (An .u64)))) ||| T (An .u64) (I U (xs.getD (D i) 0))).toNat)) (I U (ys.getD (D 0) 0)))))]=some (lm (qs.set (D i) (I Ae (I U (Ax (I U ((T (An .u64) (I U (r*2^(min (D 32) (An .u64)))) ||| T (An .u64) (I U (xs.getD (D i) 0))).toNat)) (I U (ys.getD (D 0) 0))))))) from (Dm n5 n4)) n2 (p n2) n3))
theorem Agf(xs:LI)(ys:LI)(k:Nat)(qs:LI)(r:Int)(i:Int)(c1:A (i>=0)=false):Ap Ub (Pi xs ys k qs r i) (.exit 0) (Pi xs ys k qs r i):=(J f [bF] Tx (Jx c1))
def Ua:ICode:=c Asv 92 248
def Nk(xs:LI)(ys:LI)(s:Int):Aj:=(C (sL lm xs)::(C (sL lm ys)::(W 2 (X 1 0 []::(X 1 0 []::(W 3 (C (F O s)::(W 297 []))))))))
theorem Agg(xs:LI)(ys:LI)(s:Int)(c1:((I Ae ((T (An .u32) (I Ae ((ys.getD (D (I O ((ys.length:Int)-1))) 0)*2^(min (D (I U s)) (An .u32)))) &&& T (An .u32) 2147483648).toNat))==0)=true)(n1:0<=(I O ((ys.length:Int)-1))/\(I O ((ys.length:Int)-1))<(ys.length:Int))(n2:¬ (I U s)<0):Ap Ua (Nk xs ys s) .norm (Nk xs ys (I O (s+1))):=(J f [.v (F Ae (ys.getD (D (I O ((ys.length:Int)-1))) 0)),bT] [0,1,4,5,9] (JS n1 (p n1) n2 c1))
theorem Agh(xs:LI)(ys:LI)(s:Int)(c1:((I Ae ((T (An .u32) (I Ae ((ys.getD (D (I O ((ys.length:Int)-1))) 0)*2^(min (D (I U s)) (An .u32)))) &&& T (An .u32) 2147483648).toNat))==0)=false)(n1:0<=(I O ((ys.length:Int)-1))/\(I O ((ys.length:Int)-1))<(ys.length:Int))(n2:¬ (I U s)<0):Ap Ua (Nk xs ys s) (.exit 2) (Nk xs ys s):=(J f [.v (F Ae (ys.getD (D (I O ((ys.length:Int)-1))) 0)),bF] [0,1,4,5,9] (JS n1 (p n1) n2 c1))
def IJ:ICode:=c Asv 77 8385688
def ER(k:Nat)(us:LI)(vs:LI)(n:Int)(kq:Nat)(qs:LI)(s:Int)(j:Int)(g:Int)(r:Int):Aj:=(W 4 (X 1 0 []::(X 1 0 []::(W 3 (C (F O s)::(C (sL lm vs)::(X 1 k (lm us)::(C (F O n)::(X 1 kq (lm qs)::(C (F O j)::(W 1 (C (F U g)::(C (F U r)::(W 289 []))))))))))))))
theorem Agi(k:Nat)(us:LI)(vs:LI)(n:Int)(kq:Nat)(qs:LI)(s:Int)(j:Int)(g:Int)(r:Int)(c1:A (g>=4294967296)=true)(c2:(A ((I U (r+(I U (vs.getD (D (I O (n-1))) 0))))>=4294967296))=true)(n1:0<=(I O (n-1))/\(I O (n-1))<(vs.length:Int)):Ap IJ (ER k us vs n kq qs s j g r) (.exit 6) (ER k us vs n kq qs s j (I U (g-1)) (I U (r+(I U (vs.getD (D (I O (n-1))) 0))))):=(J f [bT,bT,.v (F Ae (vs.getD (D (I O (n-1))) 0)),bT] Q9 (JL c1 QH n1 (p n1) c2))
theorem Agj(k:Nat)(us:LI)(vs:LI)(n:Int)(kq:Nat)(qs:LI)(s:Int)(j:Int)(g:Int)(r:Int)(c1:A (g>=4294967296)=true)(c2:(A ((I U (r+(I U (vs.getD (D (I O (n-1))) 0))))>=4294967296))=false)(n1:0<=(I O (n-1))/\(I O (n-1))<(vs.length:Int)):Ap IJ (ER k us vs n kq qs s j g r) .norm (ER k us vs n kq qs s j (I U (g-1)) (I U (r+(I U (vs.getD (D (I O (n-1))) 0))))):=(J f [bT,bT,.v (F Ae (vs.getD (D (I O (n-1))) 0)),bF] Q9 (JL c1 QH n1 (p n1) c2))
theorem Agk(k:Nat)(us:LI)(vs:LI)(n:Int)(kq:Nat)(qs:LI)(s:Int)(j:Int)(g:Int)(r:Int)(c1:A (g>=4294967296)=false)(c2:A (r<4294967296)=true)(c3:(A ((I U (g*(I U (vs.getD (D (I O (n-2))) 0))))>(I U ((T (An .u64) (I U (r*2^(min (D 32) (An .u64)))) ||| T (An .u64) (I U (us.getD (D (I O ((I O (j+n))-2))) 0))).toNat))))=true)(c4:(A ((I U (r+(I U (vs.getD (D (I O (n-1))) 0))))>=4294967296))=true)(n1:0<=(I O (n-2))/\(I O (n-2))<(vs.length:Int))(n2:0<=(I O ((I O (j+n))-2))/\(I O ((I O (j+n))-2))<(k:Int))(n3:us.length=k)(n4:0<=(I O (n-1))/\(I O (n-1))<(vs.length:Int)):Ap IJ (ER k us vs n kq qs s j g r) (.exit 6) (ER k us vs n kq qs s j (I U (g-1)) (I U (r+(I U (vs.getD (D (I O (n-1))) 0))))):=(J f [bF,bT,.v (F Ae (vs.getD (D (I O (n-2))) 0)),.v (F Ae (us.getD (D (I O ((I O (j+n))-2))) 0)),bF,bT,bT,.v (F Ae (vs.getD (D (I O (n-1))) 0)),bT] Q9 (Q8 c1 c2 n1 (p n1) Jn n2 (Cy n3 n2) c1 (JL c2 c3 n4 (p n4) c4)))
theorem Agl(k:Nat)(us:LI)(vs:LI)(n:Int)(kq:Nat)(qs:LI)(s:Int)(j:Int)(g:Int)(r:Int)(c1:A (g>=4294967296)=false)(c2:A (r<4294967296)=true)(c3:(A ((I U (g*(I U (vs.getD (D (I O (n-2))) 0))))>(I U ((T (An .u64) (I U (r*2^(min (D 32) (An .u64)))) ||| T (An .u64) (I U (us.getD (D (I O ((I O (j+n))-2))) 0))).toNat))))=true)(c4:(A ((I U (r+(I U (vs.getD (D (I O (n-1))) 0))))>=4294967296))=false)(n1:0<=(I O (n-2))/\(I O (n-2))<(vs.length:Int))(n2:0<=(I O ((I O (j+n))-2))/\(I O ((I O (j+n))-2))<(k:Int))(n3:us.length=k)(n4:0<=(I O (n-1))/\(I O (n-1))<(vs.length:Int)):Ap IJ (ER k us vs n kq qs s j g r) .norm (ER k us vs n kq qs s j (I U (g-1)) (I U (r+(I U (vs.getD (D (I O (n-1))) 0))))):=(J f [bF,bT,.v (F Ae (vs.getD (D (I O (n-2))) 0)),.v (F Ae (us.getD (D (I O ((I O (j+n))-2))) 0)),bF,bT,bT,.v (F Ae (vs.getD (D (I O (n-1))) 0)),bF] Q9 (Q8 c1 c2 n1 (p n1) Jn n2 (Cy n3 n2) c1 (JL c2 c3 n4 (p n4) c4)))
theorem cR(k:Nat)(us:LI)(vs:LI)(n:Int)(kq:Nat)(qs:LI)(s:Int)(j:Int)(g:Int)(r:Int)(c1:A (g>=4294967296)=false)(c2:A (r<4294967296)=true)(c3:(A ((I U (g*(I U (vs.getD (D (I O (n-2))) 0))))>(I U ((T (An .u64) (I U (r*2^(min (D 32) (An .u64)))) ||| T (An .u64) (I U (us.getD (D (I O ((I O (j+n))-2))) 0))).toNat))))=false)(n1:0<=(I O (n-2))/\(I O (n-2))<(vs.length:Int))(n2:0<=(I O ((I O (j+n))-2))/\(I O ((I O (j+n))-2))<(k:Int))(n3:us.length=k):Ap IJ (ER k us vs n kq qs s j g r) (.exit 6) (ER k us vs n kq qs s j g r):=(J f [bF,bT,.v (F Ae (vs.getD (D (I O (n-2))) 0)),.v (F Ae (us.getD (D (I O ((I O (j+n))-2))) 0)),bF,bT,bF] Q9 (OS c1 c2 n1 (p n1) Jn n2 (Cy n3 n2) c1 c2 c3))
def RG:ICode:=c Asv 74 67085556
def K4(k:Nat)(us:LI)(vs:LI)(n:Int)(kq:Nat)(qs:LI)(s:Int)(j:Int)(g:Int)(b:Int)(c:Int)(i:Int):Aj:=(W 4 (X 1 0 []::(X 1 0 []::(W 3 (C (F O s)::(C (sL lm vs)::(X 1 k (lm us)::(C (F O n)::(X 1 kq (lm qs)::(C (F O j)::(W 1 (C (F U g)::(W 1 (C (F U b)::(C (F U c)::(C (F O i)::(W 286 [])))))))))))))))))
theorem Agm(k:Nat)(us:LI)(vs:LI)(n:Int)(kq:Nat)(qs:LI)(s:Int)(j:Int)(g:Int)(b:Int)(c:Int)(i:Int)(c1:A (i<n)=true)(n1:0<=i/\i<(vs.length:Int))(n2:0<=(I O (i+j))/\(I O (i+j))<(k:Int))(n3:us.length=k):Ap RG (K4 k us vs n kq qs s j g b c i) .norm (K4 k (us.set (D (I O (i+j))) (I Ae (I U ((I U ((I U (us.getD (D (I O (i+j))) 0))-(I U ((T (An .u64) (I U (c+(I U (g*(I U (vs.getD (D i) 0)))))) &&& T (An .u64) 4294967295).toNat))))-b)))) vs n kq qs s j g (d (I U ((I U ((I U (us.getD (D (I O (i+j))) 0))-(I U ((T (An .u64) (I U (c+(I U (g*(I U (vs.getD (D i) 0)))))) &&& T (An .u64) 4294967295).toNat))))-b)) (2^(min (D 63) (An .u64)))) (d (I U (c+(I U (g*(I U (vs.getD (D i) 0)))))) (2^(min (D 32) (An .u64)))) (I O (i+1))):=(J f [bT,.v (F Ae (vs.getD (D i) 0)),.v (F Ae (us.getD (D (I O (i+j))) 0)),.l (lm (us.set (D (I O (i+j))) (I Ae (I U ((I U ((I U (us.getD (D (I O (i+j))) 0))-(I U ((T (An .u64) (I U (c+(I U (g*(I U (vs.getD (D i) 0)))))) &&& T (An .u64) 4294967295).toNat))))-b)))))] XR (Qx c1 n1 (p n1) n2 (Cy n3 n2) n2 (show C5 (lm us) (D (I O (i+j))*1) [F Ae (I Ae (I U ((I U ((I U (us.getD (D (I O (i+j))) 0))-(I U ((T (An .u64) (I U (c+(I U (g*(I U (vs.getD (D i) 0)))))) &&& T (An .u64) 4294967295).toNat))))-b)))]=some (lm (us.set (D (I O (i+j))) (I Ae (I U ((I U ((I U (us.getD (D (I O (i+j))) 0))-(I U ((T (An .u64) (I U (c+(I U (g*(I U (vs.getD (D i) 0)))))) &&& T (An .u64) 4294967295).toNat))))-b))))) from (Dm n3 n2)) ZQ Jn))
theorem Agn(k:Nat)(us:LI)(vs:LI)(n:Int)(kq:Nat)(qs:LI)(s:Int)(j:Int)(g:Int)(b:Int)(c:Int)(i:Int)(c1:A (i<n)=false):Ap RG (K4 k us vs n kq qs s j g b c i) (.exit 8) (K4 k us vs n kq qs s j g b c i):=(J f [bF] XR (Jx c1))
def Uc:ICode:=c Asv 66 17173905076
def Nl(k:Nat)(us:LI)(vs:LI)(n:Int)(kq:Nat)(qs:LI)(s:Int)(j:Int)(g:Int)(c:Int)(i:Int):Aj:=(W 4 (X 1 0 []::(X 1 0 []::(W 3 (C (F O s)::(C (sL lm vs)::(X 1 k (lm us)::(C (F O n)::(X 1 kq (lm qs)::(C (F O j)::(W 1 (C (F U g)::(W 6 (C (F U c)::(C (F O i)::(W 282 []))))))))))))))))
theorem Ago(k:Nat)(us:LI)(vs:LI)(n:Int)(kq:Nat)(qs:LI)(s:Int)(j:Int)(g:Int)(c:Int)(i:Int)(c1:A (i<n)=true)(n1:0<=(I O (i+j))/\(I O (i+j))<(k:Int))(n2:us.length=k)(n3:0<=i/\i<(vs.length:Int)):Ap Uc (Nl k us vs n kq qs s j g c i) .norm (Nl k (us.set (D (I O (i+j))) (I Ae (I U (c+(I U ((I U (us.getD (D (I O (i+j))) 0))+(I U (vs.getD (D i) 0)))))))) vs n kq qs s j g (d (I U (c+(I U ((I U (us.getD (D (I O (i+j))) 0))+(I U (vs.getD (D i) 0)))))) (2^(min (D 32) (An .u64)))) (I O (i+1))):=(J f [bT,.v (F Ae (us.getD (D (I O (i+j))) 0)),.v (F Ae (vs.getD (D i) 0)),.l (lm (us.set (D (I O (i+j))) (I Ae (I U (c+(I U ((I U (us.getD (D (I O (i+j))) 0))+(I U (vs.getD (D i) 0)))))))))] bI (ND c1 n1 (Cy n2 n1) n3 (p n3) n1 (show C5 (lm us) (D (I O (i+j))*1) [F Ae (I Ae (I U (c+(I U ((I U (us.getD (D (I O (i+j))) 0))+(I U (vs.getD (D i) 0)))))))]=some (lm (us.set (D (I O (i+j))) (I Ae (I U (c+(I U ((I U (us.getD (D (I O (i+j))) 0))+(I U (vs.getD (D i) 0))))))))) from (Dm n2 n1)) Jn))
theorem Agp(k:Nat)(us:LI)(vs:LI)(n:Int)(kq:Nat)(qs:LI)(s:Int)(j:Int)(g:Int)(c:Int)(i:Int)(c1:A (i<n)=false):Ap Uc (Nl k us vs n kq qs s j g c i) (.exit 10) (Nl k us vs n kq qs s j g c i):=(J f [bF] bI (Jx c1))
def QB:ICode:=c Asv 85 32756
def Ke(k:Nat)(us:LI)(vs:LI)(n:Int)(kq:Nat)(qs:LI)(s:Int)(j:Int):Aj:=(W 4 (X 1 0 []::(X 1 0 []::(W 3 (C (F O s)::(C (sL lm vs)::(X 1 k (lm us)::(C (F O n)::(X 1 kq (lm qs)::(C (F O j)::(W 292 [])))))))))))
theorem Axk(k:Nat)(us:LI)(vs:LI)(n:Int)(kq:Nat)(qs:LI)(s:Int)(j:Int)(us1 us2:LI)(g r b c cc:Int)(c1:A (j>=0)=true)(c2:((d (I U ((I U ((I U (us1.getD (D (I O (j+n))) 0))-c))-b)) (2^(min (D 63) (An .u64)))) != 0)=true)(n1:0<=(I O (j+n))/\(I O (j+n))<(k:Int))(n2:us.length=k)(n3:0<=(I O ((I O (j+n))-1))/\(I O ((I O (j+n))-1))<(k:Int))(n4:0<=(I O (n-1))/\(I O (n-1))<(vs.length:Int))(n5:¬ (I U (vs.getD (D (I O (n-1))) 0))=0)(hl6:Ap (.loop IJ) (ER k us vs n kq qs s j (I U (Ax (I U ((T (An .u64) (I U ((I U (us.getD (D (I O (j+n))) 0))*2^(min (D 32) (An .u64)))) ||| T (An .u64) (I U (us.getD (D (I O ((I O (j+n))-1))) 0))).toNat)) (I U (vs.getD (D (I O (n-1))) 0)))) (AB (I U ((T (An .u64) (I U ((I U (us.getD (D (I O (j+n))) 0))*2^(min (D 32) (An .u64)))) ||| T (An .u64) (I U (us.getD (D (I O ((I O (j+n))-1))) 0))).toNat)) (I U (vs.getD (D (I O (n-1))) 0)))) (.exit 6) (ER k us vs n kq qs s j g r))(hl7:Ap (.loop RG) (K4 k us vs n kq qs s j g 0 0 0) (.exit 8) (K4 k us1 vs n kq qs s j g b c n))(n8:us1.length=k)(hl9:Ap (.loop Uc) (Nl k (us1.set (D (I O (j+n))) (I Ae (I U ((I U ((I U (us1.getD (D (I O (j+n))) 0))-c))-b)))) vs n kq qs s j (I U (g-1)) 0 0) (.exit 10) (Nl k us2 vs n kq qs s j (I U (g-1)) cc n))(n10:us2.length=k)(n11:0<=j/\j<(kq:Int))(n12:qs.length=kq):Ap QB (Ke k us vs n kq qs s j) .norm (Ke k (us2.set (D (I O (j+n))) (I Ae ((us2.getD (D (I O (j+n))) 0)+(I Ae cc)))) vs n kq (qs.set (D j) (I Ae (I U (g-1)))) s (I O (j-1))):=(CE.seq (J (t:=(W 4 (X 1 0 []::(X 1 0 []::(W 3 (u s::(vl vs::(X 1 k (lm us)::(u n::(X 1 kq (lm qs)::(u j::(W 292 [])))))))))))) f [bT] PN (Jx c1)) (CE.seq (v (CE.asc (CE.seq (J f [.v (F Ae (us.getD (D (I O (j+n))) 0)),.v (F Ae (us.getD (D (I O ((I O (j+n))-1))) 0)),.v (F Ae (vs.getD (D (I O (n-1))) 0)),.v (F Ae (vs.getD (D (I O (n-1))) 0))] Q9 (NF n1 (Cy n2 n1) Jn n3 (Cy n2 n3) n4 (p n4) n5 n4 (p n4) n5)) (CE.seq (CE.block hl6) (Av (CE.seq (J f [] XR a0) (CE.seq (CE.block hl7) (CE.asc (Av (CE.seq (J (t:=(W 4 (X 1 0 []::(X 1 0 []::(W 3 (u s::(vl vs::(X 1 k (lm (us1.set (D (I O (j+n))) (I Ae (I U ((I U ((I U (us1.getD (D (I O (j+n))) 0))-c))-b)))))::(u n::(X 1 kq (lm qs)::(u j::(W 1 (C (F U g)::(W 236 (C (B ((d (I U ((I U ((I U (us1.getD (D (I O (j+n))) 0))-c))-b)) (2^(min (D 63) (An .u64)))) != 0))::(W 53 [])))))))))))))))) f [.v (F Ae (us1.getD (D (I O (j+n))) 0)),.l (lm (us1.set (D (I O (j+n))) (I Ae (I U ((I U ((I U (us1.getD (D (I O (j+n))) 0))-c))-b)))))] kY (JL n1 (Cy n8 n1) n1 (show C5 (lm us1) (D (I O (j+n))*1) [F Ae (I Ae (I U ((I U ((I U (us1.getD (D (I O (j+n))) 0))-c))-b)))]=some (lm (us1.set (D (I O (j+n))) (I Ae (I U ((I U ((I U (us1.getD (D (I O (j+n))) 0))-c))-b))))) from (Dm n8 n1)) ZQ)) (CE.seq (K0 (by rfl) c2 (CE.asc (Av (CE.seq (J f [] bI a0) (CE.seq (CE.block hl9) (J (t:=(W 4 (X 1 0 []::(X 1 0 []::(W 3 (u s::(vl vs::(X 1 k (lm (us2.set (D (I O (j+n))) (I Ae ((us2.getD (D (I O (j+n))) 0)+(I Ae cc)))))::(u n::(X 1 kq (lm qs)::(u j::(W 1 (C (F U (I U (g-1)))::(W 290 [])))))))))))))) f [.v (F Ae (us2.getD (D (I O (j+n))) 0)),.l (lm (us2.set (D (I O (j+n))) (I Ae ((us2.getD (D (I O (j+n))) 0)+(I Ae cc)))))] [4,5,9,10,11,12,13,14,16] (JS n1 (Cy n10 n1) n1 (show C5 (lm us2) (D (I O (j+n))*1) [F Ae (I Ae ((us2.getD (D (I O (j+n))) 0)+(I Ae cc)))]=some (lm (us2.set (D (I O (j+n))) (I Ae ((us2.getD (D (I O (j+n))) 0)+(I Ae cc))))) from (Dm n10 n1))))))))) (J (t:=(W 4 (X 1 0 []::(X 1 0 []::(W 3 (u s::(vl vs::(X 1 k (lm (us2.set (D (I O (j+n))) (I Ae ((us2.getD (D (I O (j+n))) 0)+(I Ae cc)))))::(u n::(X 1 kq (lm (qs.set (D j) (I Ae (I U (g-1)))))::(u j::(W 292 [])))))))))))) f [.l (lm (qs.set (D j) (I Ae (I U (g-1)))))] PN (J0 n11 (show C5 (lm qs) (D j*1) [F Ae (I Ae (I U (g-1)))]=some (lm (qs.set (D j) (I Ae (I U (g-1))))) from (Dm n12 n11))))))))))))))) (J f [] PN a0)))
theorem Axl(k:Nat)(us:LI)(vs:LI)(n:Int)(kq:Nat)(qs:LI)(s:Int)(j:Int)(us1:LI)(g r b c:Int)(c1:A (j>=0)=true)(c2:((d (I U ((I U ((I U (us1.getD (D (I O (j+n))) 0))-c))-b)) (2^(min (D 63) (An .u64)))) != 0)=false)(n1:0<=(I O (j+n))/\(I O (j+n))<(k:Int))(n2:us.length=k)(n3:0<=(I O ((I O (j+n))-1))/\(I O ((I O (j+n))-1))<(k:Int))(n4:0<=(I O (n-1))/\(I O (n-1))<(vs.length:Int))(n5:¬ (I U (vs.getD (D (I O (n-1))) 0))=0)(hl6:Ap (.loop IJ) (ER k us vs n kq qs s j (I U (Ax (I U ((T (An .u64) (I U ((I U (us.getD (D (I O (j+n))) 0))*2^(min (D 32) (An .u64)))) ||| T (An .u64) (I U (us.getD (D (I O ((I O (j+n))-1))) 0))).toNat)) (I U (vs.getD (D (I O (n-1))) 0)))) (AB (I U ((T (An .u64) (I U ((I U (us.getD (D (I O (j+n))) 0))*2^(min (D 32) (An .u64)))) ||| T (An .u64) (I U (us.getD (D (I O ((I O (j+n))-1))) 0))).toNat)) (I U (vs.getD (D (I O (n-1))) 0)))) (.exit 6) (ER k us vs n kq qs s j g r))(hl7:Ap (.loop RG) (K4 k us vs n kq qs s j g 0 0 0) (.exit 8) (K4 k us1 vs n kq qs s j g b c n))(n8:us1.length=k)(n9:0<=j/\j<(kq:Int))(n10:qs.length=kq):Ap QB (Ke k us vs n kq qs s j) .norm (Ke k (us1.set (D (I O (j+n))) (I Ae (I U ((I U ((I U (us1.getD (D (I O (j+n))) 0))-c))-b)))) vs n kq (qs.set (D j) (I Ae g)) s (I O (j-1))):=(CE.seq (J (t:=(W 4 (X 1 0 []::(X 1 0 []::(W 3 (u s::(vl vs::(X 1 k (lm us)::(u n::(X 1 kq (lm qs)::(u j::(W 292 [])))))))))))) f [bT] PN (Jx c1)) (CE.seq (v (CE.asc (CE.seq (J f [.v (F Ae (us.getD (D (I O (j+n))) 0)),.v (F Ae (us.getD (D (I O ((I O (j+n))-1))) 0)),.v (F Ae (vs.getD (D (I O (n-1))) 0)),.v (F Ae (vs.getD (D (I O (n-1))) 0))] Q9 (NF n1 (Cy n2 n1) Jn n3 (Cy n2 n3) n4 (p n4) n5 n4 (p n4) n5)) (CE.seq (CE.block hl6) (Av (CE.seq (J f [] XR a0) (CE.seq (CE.block hl7) (CE.asc (Av (CE.seq (J (t:=(W 4 (X 1 0 []::(X 1 0 []::(W 3 (u s::(vl vs::(X 1 k (lm (us1.set (D (I O (j+n))) (I Ae (I U ((I U ((I U (us1.getD (D (I O (j+n))) 0))-c))-b)))))::(u n::(X 1 kq (lm qs)::(u j::(W 1 (C (F U g)::(W 236 (C (B ((d (I U ((I U ((I U (us1.getD (D (I O (j+n))) 0))-c))-b)) (2^(min (D 63) (An .u64)))) != 0))::(W 53 [])))))))))))))))) f [.v (F Ae (us1.getD (D (I O (j+n))) 0)),.l (lm (us1.set (D (I O (j+n))) (I Ae (I U ((I U ((I U (us1.getD (D (I O (j+n))) 0))-c))-b)))))] kY (JL n1 (Cy n8 n1) n1 (show C5 (lm us1) (D (I O (j+n))*1) [F Ae (I Ae (I U ((I U ((I U (us1.getD (D (I O (j+n))) 0))-c))-b)))]=some (lm (us1.set (D (I O (j+n))) (I Ae (I U ((I U ((I U (us1.getD (D (I O (j+n))) 0))-c))-b))))) from (Dm n8 n1)) ZQ)) (CE.seq (K1 (by rfl) c2 (J (t:=(W 4 (X 1 0 []::(X 1 0 []::(W 3 (u s::(vl vs::(X 1 k (lm (us1.set (D (I O (j+n))) (I Ae (I U ((I U ((I U (us1.getD (D (I O (j+n))) 0))-c))-b)))))::(u n::(X 1 kq (lm qs)::(u j::(W 1 (C (F U g)::(W 290 [])))))))))))))) f [] [4,5,9,10,11,12,13,14,16] a0)) (J (t:=(W 4 (X 1 0 []::(X 1 0 []::(W 3 (u s::(vl vs::(X 1 k (lm (us1.set (D (I O (j+n))) (I Ae (I U ((I U ((I U (us1.getD (D (I O (j+n))) 0))-c))-b)))))::(u n::(X 1 kq (lm (qs.set (D j) (I Ae g)))::(u j::(W 292 [])))))))))))) f [.l (lm (qs.set (D j) (I Ae g)))] PN (J0 n9 (show C5 (lm qs) (D j*1) [F Ae (I Ae g)]=some (lm (qs.set (D j) (I Ae g))) from (Dm n10 n9))))))))))))))) (J f [] PN a0)))
theorem Axm(k:Nat)(us:LI)(vs:LI)(n:Int)(kq:Nat)(qs:LI)(s:Int)(j:Int)(c1:A (j>=0)=false):Ap QB (Ke k us vs n kq qs s j) (.exit 4) (Ke k us vs n kq qs s j):=(A4 (J f [bF] PN (Jx c1)))
theorem vX(xs ys:LI)(cm:Int)(c1:A (cm<0)=true)(n1:RQ 134 [sL lm xs,sL lm ys] (F O cm)):RQ 165 [sL lm xs,sL lm ys] (Ar [H 0 [],sL lm xs]):=OO Asv (W 1 (C (sL lm ys)::(W 2 (X 1 0 []::(C (sL lm xs)::(W 301 [])))))) (CE.asc (Av (A4 (J f [.r (F O cm),bT] [1,4,5] (J0 n1 c1)))))
theorem vY(xs ys qs:LI)(cm r i:Int)(k:Nat)(c1:A (cm<0)=false)(c2:((ys.length:Int)==1)=true)(n1:RQ 134 [sL lm xs,sL lm ys] (F O cm))(n2:0<=(xs.length:Int)/\(xs.length:Int)<=1048576)(hl3:Ap (.loop Ub) ((C (sL lm xs)::(C (sL lm ys)::(W 2 (X 1 0 []::(X 1 0 []::(X 1 (D (xs.length:Int)) (CD [F Ae 0] (D (xs.length:Int)))::(C (F U 0)::(C (F O (I O ((xs.length:Int)-1)))::(W 298 [])))))))))) (.exit 0) (Pi xs ys k qs r i))(n4:RQ 99 [H k (lm qs)] (P 1 ((Y qs).length) (lm (Y qs))))(n5:RQ 99 [H 1 [F Ae (I Ae r)]] (P 1 ((Y [I Ae r]).length) (lm (Y [I Ae r])))):RQ 165 [sL lm xs,sL lm ys] (Ar [H ((Y qs).length) (lm (Y qs)),H ((Y [I Ae r]).length) (lm (Y [I Ae r]))]):=OO Asv (W 1 (C (sL lm ys)::(W 2 (X 1 ((Y qs).length) (lm (Y qs))::(X 1 ((Y [I Ae r]).length) (lm (Y [I Ae r]))::(W 301 [])))))) (CE.asc (Av (CE.seq (J (t:=(vl xs::(vl ys::(W 2 (X 1 0 []::(X 1 0 []::(W 26 (C (B ((ys.length:Int)==1))::(W 274 []))))))))) f [.r (F O cm),bF] [0,1,4,5,32] (J0 n1 c1)) (A4 (K0 (by rfl) c2 (CE.asc (Av (CE.seq (J f [] Tx (Jx n2)) (CE.seq (CE.block hl3) (J f [.r (P 1 ((Y qs).length) (lm (Y qs))),.r (P 1 ((Y [I Ae r]).length) (lm (Y [I Ae r])))] [1,4,5] (J0 n4 n5)))))))))))
theorem vZ(xs ys qs us vs:LI)(cm s n j U V w:Int)(k kq:Nat)(c1:A (cm<0)=false)(c2:((ys.length:Int)==1)=false)(n1:RQ 134 [sL lm xs,sL lm ys] (F O cm))(hl2:Ap (.loop Ua) (Nk xs ys 0) (.exit 2) (Nk xs ys s))(n3:RQ 84 [o [B false,sL lm ys],F O s] (CR V))(n4:((M (E U)).length)+2<=35184372088832)(n5:RQ 84 [o [B false,sL lm xs],F O s] (CR U))(n6:0<=(if (I O ((ys.length:Int)+1))>(I O ((xs.length:Int)+1)) then (I O ((ys.length:Int)+1)) else (I O ((xs.length:Int)+1)))/\(if (I O ((ys.length:Int)+1))>(I O ((xs.length:Int)+1)) then (I O ((ys.length:Int)+1)) else (I O ((xs.length:Int)+1)))<=(((((M (E U)).length)+2):Nat):Int))(n7:0<=(I O ((((D (if (I O ((ys.length:Int)+1))>(I O ((xs.length:Int)+1)) then (I O ((ys.length:Int)+1)) else (I O ((xs.length:Int)+1)))):Nat):Int)-(((M (E V)).length:Nat):Int)))/\(I O ((((D (if (I O ((ys.length:Int)+1))>(I O ((xs.length:Int)+1)) then (I O ((ys.length:Int)+1)) else (I O ((xs.length:Int)+1)))):Nat):Int)-(((M (E V)).length:Nat):Int)))<=1048576)(hl8:Ap (.loop QB) ((W 4 (X 1 0 []::(X 1 0 []::(W 3 (C (F O s)::(C (H ((M (E V)).length) (lm (M (E V))))::(X 1 (D (if (I O ((ys.length:Int)+1))>(I O ((xs.length:Int)+1)) then (I O ((ys.length:Int)+1)) else (I O ((xs.length:Int)+1)))) (Bx (D (if (I O ((ys.length:Int)+1))>(I O ((xs.length:Int)+1)) then (I O ((ys.length:Int)+1)) else (I O ((xs.length:Int)+1)))*1) ((lm (M (E U)))++([F Ae 0,F Ae 0]:List AV)))::(C (F O (((M (E V)).length:Nat):Int))::(X 1 (D (I O ((((D (if (I O ((ys.length:Int)+1))>(I O ((xs.length:Int)+1)) then (I O ((ys.length:Int)+1)) else (I O ((xs.length:Int)+1)))):Nat):Int)-(((M (E V)).length:Nat):Int)))) (CD [F Ae 0] (D (I O ((((D (if (I O ((ys.length:Int)+1))>(I O ((xs.length:Int)+1)) then (I O ((ys.length:Int)+1)) else (I O ((xs.length:Int)+1)))):Nat):Int)-(((M (E V)).length:Nat):Int)))))::(C (F O (I O ((I O ((((D (if (I O ((ys.length:Int)+1))>(I O ((xs.length:Int)+1)) then (I O ((ys.length:Int)+1)) else (I O ((xs.length:Int)+1)))):Nat):Int)-(((M (E V)).length:Nat):Int)))-1)))::(W 292 [])))))))))))) (.exit 4) (Ke k us vs n kq qs s j))(n9:RQ 99 [H kq (lm qs)] (P 1 ((Y qs).length) (lm (Y qs))))(n10:RQ 128 [o [B false,H k (lm us)],F O s] (Ag w)):RQ 165 [sL lm xs,sL lm ys] (Ar [H ((Y qs).length) (lm (Y qs)),H ((M (E w)).length) (lm (M (E w)))]):=OO Asv (W 4 (X 1 ((Y qs).length) (lm (Y qs))::(C (H ((M (E w)).length) (lm (M (E w))))::(W 301 [])))) (CE.asc (Av (CE.seq (J (t:=(vl xs::(vl ys::(W 2 (X 1 0 []::(X 1 0 []::(W 26 (C (B ((ys.length:Int)==1))::(W 274 []))))))))) f [.r (F O cm),bF] [0,1,4,5,32] (J0 n1 c1)) (CE.seq (K1 (by rfl) c2 (J (t:=(vl xs::(vl ys::(W 2 (X 1 0 []::(X 1 0 []::(W 26 (C (B ((ys.length:Int)==1))::(W 274 []))))))))) f [] [0,1,4,5,32] a0)) (CE.seq (J f [] [0,1,4,5,9] a0) (CE.seq (CE.block hl2) (CE.asc (CE.asc (CE.asc (CE.asc (Av (CE.seq (J f [.r (CR V),.r (CR U)] PN (JT n3 n5 (show Bl ([F Ae 0,F Ae 0]:List AV)=2*1 from rfl) n4 n6 n7)) (CE.seq (CE.block hl8) (J f [.r (P 1 ((Y qs).length) (lm (Y qs))),.r (Ag w)] [4,5] (J0 n9 n10)))))))))))))))
def TDA:C8:=TBE
theorem wA:Co DK TDA:=f
theorem ADj{p:Int}{s:Nat}(hp:0<=p/\p<18446744073709551616)(hs:s<=63):I U ((T (An .u64) p &&& T (An .u64) (2^s-1)).toNat)=p % 2^s:=by
 obtain⟨m,rfl⟩:=O8 hp.1;have hb:(An .u64)=64:=rfl;have e1:(T 64 (m:Int)).toNat=m:=Fq 64 m (by omega);have h2:2^s<=2^63:=BM (by decide) hs;have h3:0<2^s:=DH (by decide);have ec:((2:Int)^s-1)=((2^s-1:Nat):Int):=by
  have:((2^s:Nat):Int)=(2:Int)^s:=by simp
  omega
 have e2:(T 64 ((2^s-1:Nat):Int)).toNat=2^s-1:=Fq 64 (2^s-1) (by omega);rw[hb,PV,e1,ec,e2,Xe,BF];have h4:m % 2^s<2^s:=GO _ h3;have e3:((m % 2^s:Nat):Int)=(m:Int) % 2^s:=by simp
 rw[<- e3];omega
theorem wB{p:Int}{s:Nat}(hp:0<=p/\p<4294967296)(hs:s<=31):I Ae ((T (An .u32) p &&& T (An .u32) (2^s-1)).toNat)=p % 2^s:=by
 obtain⟨m,rfl⟩:=O8 hp.1;have hb:(An .u32)=32:=rfl;have e1:(T 32 (m:Int)).toNat=m:=Fq 32 m (by omega);have h2:2^s<=2^31:=BM (by decide) hs;have h3:0<2^s:=DH (by decide);have ec:((2:Int)^s-1)=((2^s-1:Nat):Int):=by
  have:((2^s:Nat):Int)=(2:Int)^s:=by simp
  omega
 have e2:(T 32 ((2^s-1:Nat):Int)).toNat=2^s-1:=Fq 32 (2^s-1) (by omega);rw[hb,PV,e1,ec,e2,Xe,Es];have h4:m % 2^s<2^s:=GO _ h3;have e3:((m % 2^s:Nat):Int)=(m:Int) % 2^s:=by simp
 rw[<- e3];omega
theorem ADk{p:Int}(hp:0<=p/\p<4294967296):(I Ae ((T (An .u32) p &&& T (An .u32) 2147483648).toNat)==0)=decide (p<2147483648):=by
 obtain⟨m,rfl⟩:=O8 hp.1;have hb:(An .u32)=32:=rfl;have e1:(T 32 (m:Int)).toNat=m:=Fq 32 m (by omega);have e2:(T 32 2147483648).toNat=2147483648:=Fq 32 2147483648 (by decide);rw[hb,PV,e1,e2,Es];have hlt:m &&& 2147483648<=2147483648:=Nat.and_le_right;have key:(m &&& 2147483648=0)↔m<2147483648:=by
  constructor
  ·intro h;have hm:m<2^32:=by omega
   have hb31:(m &&& 2^31).testBit 31=false:=by
    have:(m &&& 2^31)=0:=h;rw[this];rfl
   rw[A3t] at hb31;have:(2^31:Nat).testBit 31=true:=by decide
   rw[this,MJ] at hb31;refine Nat.lt_pow_two_of_testBit m (n:=31) fun i hi => ?_;rcases Nat.eq_or_lt_of_le hi with h1 | h1
   ·rw[<- h1];exact hb31
   ·exact nB (CG hm (BM (by decide) (by omega)))
  ·intro h;apply Nat.eq_of_testBit_eq;intro i;rw[A3t,Nat.zero_testBit];by_cases hi:i=31
   ·subst hi;rw[nB (x:=m) (i:=31) (by omega)];rfl
   ·have:(2147483648:Nat).testBit i=false:=by
     rw[show (2147483648:Nat)=2^31 by decide,Nat.testBit_two_pow];simp;omega
    rw[this,JN]
 rw[UY,beq_iff_eq,decide_eq_true_eq];constructor
 ·intro h;have:m &&& 2147483648=0:=by omega
  have:=key.1 this;omega
 ·intro h;have:=key.2 (by omega);omega
theorem QU{a b:Int}(ha:(M a.natAbs).length<1048576)(hb:(M b.natAbs).length<1048576):RQ 129 [Ag a,Ag b] (Ag (a-b)):=by
 have h:=Wz (na:=decide (a<0)) (nb:=decide (b<0)) (BV a.natAbs) (BV b.natAbs) ha hb;rw[FB,FB] at h;exact h
theorem QV{xs:LI}(h:A_ xs){v:Int}(hv:0<=v):(Ab xs+v=0)↔(Ab xs=0/\v=0):=by
 have:=Bi h;omega
theorem wC{neg:Bool}{xs ms:LI}{n:Nat}(hu:A_ ms)(hn:(n:Int)<=9223372036854775807)(hN:ms.length<=1048576):∀ (r i:Nat),i+r=min ms.length (n / 32) ->
  Ap (.loop GX) (DL neg xs (n:Nat) ms (A (Ab (ms.take i) ≠ 0)) (i:Nat)) (.exit 0) (DL neg xs (n:Nat) ms (A (Ab (ms.take (n / 32)) ≠ 0)) ((min ms.length (n / 32):Nat):Int)):=by
 have e1:I O (Ax (n:Int) 32)=((n / 32:Nat):Int):=by
  rw[BK (by omega),Bg (by omega) (by omega)];omega
 intro r;induction r with
 | zero =>
  intro i hi;have hi':i=min ms.length (n / 32):=by omega
  have et:ms.take i=ms.take (n / 32):=by
   rcases Nat.le_total ms.length (n / 32) with h | h
   ·rw[CS (by omega),CS h]
   ·rw[hi',Nat.min_eq_right h]
  rw[et,<- hi'];by_cases hl:i<ms.length
  ·exact Ah (Aga neg xs _ ms _ _ (by simp;omega) (by rw[e1];simp;omega))
  ·exact Ah (Agb neg xs _ ms _ _ (by simp;omega))
 | succ r ih =>
  intro i hi;have ei:I O ((i:Int)+1)=((i+1:Nat):Int):=by rw[Bg (by omega) (by omega)];omega
  have hm:=AL hu i;have hp:=CH i;have hts:=Et ms i (by omega);have hz:(Ab (ms.take (i+1))=0)↔(Ab (ms.take i)=0/\ms.getD i 0=0):=by
   have hx:=QV (Em hu i) (AA (Aw hp) hm.1);rw[<- hts] at hx;rw[hx,EH];constructor
   ·rintro⟨a,b⟩;exact⟨a,by omega⟩
   ·rintro⟨a,b⟩;exact⟨a,.inr b⟩
  have step:Ap GX (DL neg xs (n:Nat) ms (A (Ab (ms.take i) ≠ 0)) (i:Nat)) .norm (DL neg xs (n:Nat) ms (A (Ab (ms.take (i+1)) ≠ 0)) ((i+1:Nat):Int)):=by
   by_cases h0:Ab (ms.take i)=0
   ·have k:=Afz neg xs (n:Nat) ms (A (Ab (ms.take i) ≠ 0)) (i:Nat) (by simp;omega) (by rw[e1];simp;omega) (by simp[h0]) (by omega);rw[ei,R] at k;have e2:(ms.getD i 0 != 0)=decide (Ab (ms.take (i+1)) ≠ 0):=by
     rw[UY,bne_iff_ne,decide_eq_true_eq,ne_eq,ne_eq,hz];simp[h0]
    rw[e2] at k;exact k
   ·have k:=Afy neg xs (n:Nat) ms (A (Ab (ms.take i) ≠ 0)) (i:Nat) (by simp;omega) (by rw[e1];simp;omega) (by simp[h0]);rw[ei] at k;have e2:true=decide (Ab (ms.take (i+1)) ≠ 0):=by
     symm;rw[decide_eq_true_eq,ne_eq,hz];exact fun h=>h0 h.1
    rw[<- e2];exact k
  exact CE.loop step (ih (i+1) (by omega))
theorem nC{x y:Int}(hx:0<=x/\x<4294967296){s:Nat}(hs:s<32):(y*4294967296+x) / 2^s % 4294967296=y % 2^s*2^(32-s)+x / 2^s:=by
 have e:=Uo (show s<=32 by omega);have hp:=BX s;have hp2:=BX (32-s);have h1:(y*4294967296+x) / 2^s=y*2^(32-s)+x / 2^s:=by
  rw[e,<- AK,Ma,ACn _ _ (by omega),Ma]
 have b1:x / 2^s<2^(32-s):=Mo hp (by rw[<- e];exact hx.2);have b0:0<=x / 2^s:=Lc hx.1 (by omega);have m0:=Gm y (show (2:Int)^s ≠ 0 by omega);have m1:=EU y hp;have hy2:=Hk y (2^s);rw[h1];have e3:y*2^(32-s)+x / 2^s=(y % 2^s*2^(32-s)+x / 2^s)+4294967296*(y / 2^s):=by
  rw[e];generalize y % 2^s=a at *
  generalize y / 2^s=b at *
  generalize (2:Int)^(32-s)=T at *
  generalize (2:Int)^s=S at *
  generalize x / S=z at *
  rw[<- hy2];grind
 rw[e3,WY];apply GK
 ·have:=AA m0 (show (0:Int)<=2^(32-s) by omega);omega
 ·have c1:=Ac (show y % 2^s+1<=2^s by omega) (show (0:Int)<=2^(32-s) by omega);rw[Gw,Dt,AE (2^s),<- e] at c1;omega
theorem wD{neg lost:Bool}{xs ms:LI}{sh:Int}{s k:Nat}(hu:A_ ms)(hs:s<32)(hN:ms.length<=1048576)(hk:k<=ms.length):∀ (r i:Nat),i+r=ms.length-k ->
  Ap (.loop G4) (D7 neg xs sh ms i (lm ((Aq i).map (D6 (ms.drop k) s))) lost (s:Nat) ((k+i:Nat):Int)) (.exit 2) (D7 neg xs sh ms (ms.length-k) (lm ((Aq (ms.length-k)).map (D6 (ms.drop k) s))) lost (s:Nat) (ms.length:Nat)):=by
 intro r;induction r with
 | zero =>
  intro i hi;have hi':i=ms.length-k:=by omega
  subst hi';have e0:((k+(ms.length-k):Nat):Int)=(ms.length:Nat):=by omega
  rw[e0];exact Ah (cQ neg xs sh ms _ _ lost _ _ (by simp))
 | succ r ih =>
  intro i hi;have ei:I O (((k+i:Nat):Int)+1)=((k+(i+1):Nat):Int):=by rw[Bg (by omega) (by omega)];omega
  have hx:=AL hu (k+i);have hy:=AL hu (k+i+1);have gx:(ms.drop k).getD i 0=ms.getD (k+i) 0:=by simp[Z,Bu]
  have gy:(ms.drop k).getD (i+1) 0=ms.getD (k+i+1) 0:=by simp[Z,Bu,DW]
  have em:min (D (s:Int)) (An .u64)=s:=by rw[R];show min s 64=s;omega
  have hR:D6 (ms.drop k) s i=(ms.getD (k+i+1) 0*4294967296+ms.getD (k+i) 0) / 2^s % 4294967296:=by
   rw[nC hx hs];unfold D6;rw[gx,gy]
  have hstep:Ap G4 (D7 neg xs sh ms i (lm ((Aq i).map (D6 (ms.drop k) s))) lost (s:Nat) ((k+i:Nat):Int)) .norm (D7 neg xs sh ms (i+1) (lm ((Aq (i+1)).map (D6 (ms.drop k) s))) lost (s:Nat) ((k+(i+1):Nat):Int)):=by
   have el:lm ((Aq (i+1)).map (D6 (ms.drop k) s))=lm ((Aq i).map (D6 (ms.drop k) s))++([F Ae (D6 (ms.drop k) s i)]:List AV):=by
    rw[Io,Ez,Cx,FW,IF]
   rw[el,hR];by_cases h1:k+i+1<ms.length
   ·have kk:=Agc neg xs sh ms i (lm ((Aq i).map (D6 (ms.drop k) s))) lost (s:Nat) ((k+i:Nat):Int) (by simp;omega) (by rw[ei];simp;omega) (by omega) (by rw[ei];omega) (by omega) (by omega);rw[ei,R,R,em] at kk;have w1:I U ((T (An .u64) (I U (ms.getD (k+i) 0)) ||| T (An .u64) (I U ((I U (ms.getD (k+(i+1)) 0))*2^(min (D 32) (An .u64))))).toNat)=ms.getD (k+i+1) 0*4294967296+ms.getD (k+i) 0:=by
     rw[Xd,CP (n:=ms.getD (k+(i+1)) 0) (by rw[<- DW];omega),<- DW];exact Ph hy hx
    have hpos:0<=ms.getD (k+i+1) 0*4294967296+ms.getD (k+i) 0:=by omega
    rw[w1,q _ (by have:=BX s;omega),Es] at kk;exact kk
   ·have hz:ms.getD (k+i+1) 0=0:=B3 (by omega);have kk:=Agd neg xs sh ms i (lm ((Aq i).map (D6 (ms.drop k) s))) lost (s:Nat) ((k+i:Nat):Int) (by simp;omega) (by rw[ei];simp;omega) (by omega) (by omega) (by omega);rw[ei,R,em,CP (n:=ms.getD (k+i) 0) (by omega),q _ (by have:=BX s;omega),Es] at kk;rw[hz,BU,Ed];exact kk
  exact CE.loop hstep (ih (i+1) (by omega))
theorem nD{ms:LI}{s k:Nat}(hs:s<32)(hk:k<=ms.length) :
  Ab ms=4294967296^k*(2^s*Ab ((Aq (ms.length-k)).map (D6 (ms.drop k) s))+ms.getD k 0 % 2^s)+Ab (ms.take k):=by
 have h1:=DC ms hk;have h2:=nA (us:=ms.drop k) s hs (ms.length-k) (by simp);have g0:(ms.drop k).getD 0 0=ms.getD k 0:=by simp[Z,Bu]
 have g1:(ms.drop k).getD (ms.length-k) 0=0:=B3 (by simp);rw[CS (by simp),g0,g1,Int.zero_emod,AG,BJ] at h2;rw[h2,h1];generalize Ab (ms.drop k)=X;generalize Ab (ms.take k)=Y;generalize ms.getD k 0 % 2^s=z;have:X-z+z=X:=by omega
 rw[this];omega
theorem YK{neg:Bool}{xs:LI}(hu:A_ xs)(n:Nat)(hn:(n:Int)<=9223372036854775807)(hN:xs.length<1048576):RQ 128 [o [B neg,sL lm xs],F O (n:Nat)] (Ag (rv neg xs / 2^n)):=by
 have t1:=BA xs;have tu:=RN hu;have e1:I O (Ax (n:Int) 32)=((n / 32:Nat):Int):=by
  rw[BK (by omega),Bg (by omega) (by omega)];omega
 have e2:I U (AB (n:Int) 32)=((n % 32:Nat):Int):=by
  rw[B1 (by omega),BF];omega
 have hs:n % 32<32:=GO _ (by decide);have hmag:=E7 (xs:=xs) (by omega);have ha:=wC (neg:=neg) (xs:=xs) (n:=n) tu hn (by omega) (min (Y xs).length (n / 32)) 0 (by omega);rw[R5] at ha;have e0:decide (Ab ([]:LI) ≠ 0)=false:=rfl;rw[e0] at ha;have hof:=gP (n:=1) (by omega);have hp:=Jb n;have hP:=CH (n / 32);have hS:=BX (n % 32);rw[<- YA neg xs];generalize hms:Y xs=ms at *
 have fin:∀ (q l:Int),0<=l->l<2^n->Ab ms=2^n*q+l->rv neg ms / 2^n=if neg=true/\l ≠ 0 then -q-1 else if neg then -q else q:=by
  intro q l hl0 hl1 hv;have hpn:=BX n;unfold rv;rw[hv];cases neg with
  | false=>simp only[B_,if_false,false_and];rw[Ma,VZ _ _ (by omega),HJ hl0 hl1];omega
  | true =>
   simp only[if_true,true_and];by_cases h0:l=0
   ·rw[if_neg (by simp[h0]),h0,BJ,<- EY,Cc _ (by omega)]
   ·rw[if_pos (by simpa using h0)];have : -(2^n*q+l)=(2^n-l)+2^n*(-q-1):=by rw[Fy,EY];omega
    rw[this,VZ _ _ (by omega),HJ (by omega) (by omega)];omega
 by_cases hk:n / 32<ms.length
 ·-- some M are left
  have hb:=wD (neg:=neg) (lost:=decide (Ab (ms.take (n / 32)) ≠ 0)) (xs:=xs) (ms:=ms) (sh:=(n:Int)) (s:=n % 32) (k:=n / 32) tu hs (by omega) (by omega) (ms.length-n / 32) 0 (by omega);have c1:decide ((I O (Ax (n:Int) 32))<(ms.length:Int))=true:=by rw[e1];simp;omega
  have hall:=nD (ms:=ms) hs (show n / 32<=ms.length by omega);have ux:A_ ((Aq (ms.length-n / 32)).map (D6 (ms.drop (n / 32)) (n % 32))):=Tt fun i=>(Ur (FF tu _) hs i).2.2.2;have hmk:=GE (neg:=neg) ux (by simp;omega);have hlen:((Aq (ms.length-n / 32)).map (D6 (ms.drop (n / 32)) (n % 32))).length=ms.length-n / 32:=by simp
  unfold sL at hmk;rw[hlen] at hmk;have hq:=Fg (neg:=neg) ux;generalize hQ:(Aq (ms.length-n / 32)).map (D6 (ms.drop (n / 32)) (n % 32))=Q at *
  have hm0:=Gm (ms.getD (n / 32) 0) (show (2:Int)^(n % 32) ≠ 0 by omega);have hm1:=EU (ms.getD (n / 32) 0) hS;have ht0:=Bi (Em tu (n / 32));have ht1:=GF tu (n / 32);have hb2:Ap (.loop G4) (D7 neg xs (n:Nat) ms 0 [] (A (Ab (ms.take (n / 32)) ≠ 0)) (I U (AB (n:Int) 32)) (I O (Ax (n:Int) 32))) (.exit 2) (D7 neg xs (n:Nat) ms (ms.length-n / 32) (lm Q) (A (Ab (ms.take (n / 32)) ≠ 0)) (I U (AB (n:Int) 32)) (ms.length:Nat)):=by
   rw[e1,e2];exact hb
  have emask:I Ae ((I Ae (1*2^(min (D (I U (AB (n:Int) 32))) (An .u32))))-1)=2^(n % 32)-1:=by
   have:min (D ((n % 32:Nat):Int)) (An .u32)=n % 32:=by rw[R];show min (n % 32) 32=n % 32;omega
   have h31:(2:Int)^(n % 32)<=2147483648:=Ho (show n % 32<=31 by omega);rw[e2,this,Dt,Es,Es];omega
  have ec4:I Ae ((T (An .u32) (ms.getD (D (I O (Ax (n:Int) 32))) 0) &&& T (An .u32) (I Ae ((I Ae (1*2^(min (D (I U (AB (n:Int) 32))) (An .u32))))-1))).toNat)=ms.getD (n / 32) 0 % 2^(n % 32):=by
   rw[emask,e1,R];exact wB (AL tu _) (by omega)
  have hl:0<=4294967296^(n / 32)*(ms.getD (n / 32) 0 % 2^(n % 32))+Ab (ms.take (n / 32))/\4294967296^(n / 32)*(ms.getD (n / 32) 0 % 2^(n % 32))+Ab (ms.take (n / 32))<2^n:=by
   rw[hp];generalize (4294967296:Int)^(n / 32)=P at *
   generalize ms.getD (n / 32) 0 % 2^(n % 32)=z at *
   generalize (2:Int)^(n % 32)=S at *
   have a:=AA (Aw hP) hm0;have b:=Al (show z+1<=S by omega) (Aw hP);rw[CT,Dh] at b;omega
  have hf:=fin (Ab Q) _ hl.1 hl.2 (by rw[hall,hp];grind);have hlost:(4294967296^(n / 32)*(ms.getD (n / 32) 0 % 2^(n % 32))+Ab (ms.take (n / 32)) ≠ 0)↔(Ab (ms.take (n / 32)) ≠ 0\/ms.getD (n / 32) 0 % 2^(n % 32) ≠ 0):=by
   have a:=AA (Aw hP) hm0;by_cases hz:ms.getD (n / 32) 0 % 2^(n % 32)=0
   ·rw[hz,AG,Ed];simp
   ·have:0<4294967296^(n / 32)*(ms.getD (n / 32) 0 % 2^(n % 32)):=Bp hP (by omega);constructor
    ·intro _;exact .inr hz
    ·intro _;omega
  by_cases hneg:neg=true
  ·subst hneg;have hrv:rv true Q = -Ab Q:=rfl;by_cases h0:Ab (ms.take (n / 32)) ≠ 0
   ·rw[hf,if_pos ⟨rfl,hlost.2 (.inl h0)⟩];have hmin:=QU (a := -Ab Q) (b:=1) (by rw[<- hrv];omega) (by decide);refine vP true (A (Ab (ms.take (n / 32)) ≠ 0)) xs (n:Nat) _ (ms.length-n / 32) (lm Q) _ (-Ab Q) _ (by rw[hms];exact c1) (by simpa using h0) rfl (by rw[hms];exact hmag) (by rw[hms];exact ha) (by rw[hms];exact hb2) hmk hof hmin
   ·by_cases h1:ms.getD (n / 32) 0 % 2^(n % 32)=0
    ·rw[hf,if_neg (fun h=>by rcases hlost.1 h.2 with g | g;exact h0 g;exact g h1),if_pos rfl];exact vS true (A (Ab (ms.take (n / 32)) ≠ 0)) xs (n:Nat) _ (ms.length-n / 32) (lm Q) _ (-Ab Q) (by rw[hms];exact c1) (by simpa using h0) rfl (by rw[hms,ec4,h1];rfl) (by rw[hms];exact hmag) (by rw[hms];exact ha) (by rw[hms];exact hb2) (by rw[hms,e1];omega) (by rw[e2];omega) hmk
    ·rw[hf,if_pos ⟨rfl,hlost.2 (.inr h1)⟩];have hmin:=QU (a := -Ab Q) (b:=1) (by rw[<- hrv];omega) (by decide);exact vR true (A (Ab (ms.take (n / 32)) ≠ 0)) xs (n:Nat) _ (ms.length-n / 32) (lm Q) _ (-Ab Q) _ (by rw[hms];exact c1) (by simpa using h0) rfl (by rw[hms,ec4];simpa using h1) (by rw[hms];exact hmag) (by rw[hms];exact ha) (by rw[hms];exact hb2) (by rw[hms,e1];omega) (by rw[e2];omega) hmk hof hmin
  ·have hneg':neg=false:=by cases neg <;> simp_all
   subst hneg';rw[hf,if_neg (by simp),if_neg (by simp)];by_cases h0:Ab (ms.take (n / 32)) ≠ 0
   ·exact vQ false (A (Ab (ms.take (n / 32)) ≠ 0)) xs (n:Nat) _ (ms.length-n / 32) (lm Q) _ (Ab Q) (by rw[hms];exact c1) (by simpa using h0) rfl (by rw[hms];exact hmag) (by rw[hms];exact ha) (by rw[hms];exact hb2) hmk
   ·exact vT false (A (Ab (ms.take (n / 32)) ≠ 0)) xs (n:Nat) _ (ms.length-n / 32) (lm Q) _ (Ab Q) (by rw[hms];exact c1) (by simpa using h0) rfl (by rw[hms];exact hmag) (by rw[hms];exact ha) (by rw[hms];exact hb2) (by rw[hms,e1];omega) (by rw[e2];omega) hmk
 ·-- nothing is left
  have c1:decide ((I O (Ax (n:Int) 32))<(ms.length:Int))=false:=by rw[e1];simp;omega
  have htake:ms.take (n / 32)=ms:=CS (by omega);have hb:Ap (.loop G4) (D7 neg xs (n:Nat) ms 0 [] (A (Ab (ms.take (n / 32)) ≠ 0)) (I U (AB (n:Int) 32)) (I O (Ax (n:Int) 32))) (.exit 2) (D7 neg xs (n:Nat) ms 0 [] (A (Ab (ms.take (n / 32)) ≠ 0)) (I U (AB (n:Int) 32)) (I O (Ax (n:Int) 32))) :=
   Ah (cQ neg xs _ ms _ _ _ _ _ c1)
  have hmk:=GE (neg:=neg) (xs:=[]) (fun x h=>(nomatch h)) (by simp);have hv0:rv neg ([]:LI)=0:=by unfold rv;cases neg <;> rfl
  rw[hv0] at hmk;have hlt:Ab ms<2^n:=by
   have a:=Eb tu;have b:=GP (show ms.length<=n / 32 by omega);rw[hp];have:=Al (show (1:Int)<=2^(n % 32) by omega) (show (0:Int)<=4294967296^(n / 32) by omega);rw[Dh] at this;omega
  have hf:=fin 0 (Ab ms) (Bi tu) hlt (by rw[AG,Ed]);by_cases hneg:neg=true
  ·subst hneg;by_cases h0:Ab ms ≠ 0
   ·rw[hf,if_pos ⟨rfl,h0⟩];have hmin:=QU (a:=0) (b:=1) (by decide) (by decide);exact vU true (A (Ab (ms.take (n / 32)) ≠ 0)) xs (n:Nat) _ 0 [] _ 0 _ (by rw[hms];exact c1) rfl (by rw[htake];simpa using h0) (by rw[hms];exact hmag) (by rw[hms];exact ha) (by rw[hms];exact hb) hmk hof hmin
   ·rw[hf,if_neg (fun h=>h0 h.2),if_pos rfl];exact vV true (A (Ab (ms.take (n / 32)) ≠ 0)) xs (n:Nat) _ 0 [] _ 0 (by rw[hms];exact c1) rfl (by rw[htake];simpa using h0) (by rw[hms];exact hmag) (by rw[hms];exact ha) (by rw[hms];exact hb) hmk
  ·have hneg':neg=false:=by cases neg <;> simp_all
   subst hneg';rw[hf,if_neg (by simp),if_neg (by simp)];exact vW false (A (Ab (ms.take (n / 32)) ≠ 0)) xs (n:Nat) _ 0 [] _ 0 (by rw[hms];exact c1) rfl (by rw[hms];exact hmag) (by rw[hms];exact ha) (by rw[hms];exact hb) hmk
def TDB:C8:=TDA
theorem wE:Co DK TDB:=wA
theorem wF{xs:LI}{d:Int}(hx:A_ xs)(hd:0<d/\d<4294967296)(hN:xs.length<=1048576):∀ (i:Nat) (qs:LI) (r:Int),i<=xs.length->qs.length=xs.length->A_ qs->0<=r/\r<d->(∀ t,t<i->qs.getD t 0=0) ->
  ∃ qs' r',Ap (.loop Ub) (Pi xs [d] xs.length qs r ((i:Int)-1)) (.exit 0) (Pi xs [d] xs.length qs' r' (-1))/\qs'.length=xs.length/\A_ qs'/\(0<=r'/\r'<d)/\d*Ab qs'+r'=d*Ab qs+4294967296^i*r+Ab (xs.take i):=by
 intro i;induction i with
 | zero =>
  intro qs r _ hl hu hr _;refine⟨qs,r,Ah (Agf xs [d] xs.length qs r _ (by simp)),hl,hu,hr,by simp[Ab]⟩
 | succ i ih =>
  intro qs r hi hl hu hr hz;have ei:(((i+1:Nat):Int)-1)=(i:Nat):=by omega
  have ej:I O ((i:Int)-1)=(i:Int)-1:=Bg (by omega) (by omega);have hxi:=AL hx i;have ed:([d]:LI).getD (D 0) 0=d:=rfl;have hk:=Age xs [d] xs.length qs r (i:Nat) (by simp) (by omega) (by simp) (by rw[ed,CP (by omega)];omega) (by omega) hl;rw[ej,R,ed,Ph (by omega) hxi,CP (n:=d) (by omega)] at hk;have hv0:0<=r*4294967296+xs.getD i 0:=by omega
  rw[BK hv0,B1 hv0] at hk;generalize hv:r*4294967296+xs.getD i 0=v at *
  have hm:=Hk v d;have hm0:=Gm v (show d ≠ 0 by omega);have hm1:=EU v hd.1;have hq0:0<=v / d:=Lc hv0 (by omega);have hq1:v / d<4294967296:=by
   apply Mo hd.1;have:=Ac (show r<=d-1 by omega) (show (0:Int)<=4294967296 by omega);have:(d-1)*4294967296=4294967296*d-4294967296:=by omega
   omega
  rw[CP (n:=v / d) (by omega),Un ⟨hq0,hq1⟩] at hk;obtain⟨qs',r',g1,g2,g3,g4,g5⟩:=ih (qs.set i (v / d)) (v % d) (by omega) (by simpa using hl) (CF hu ⟨hq0,hq1⟩) ⟨hm0,hm1⟩ (fun t ht=>by rw[CA (by omega)];exact hz t (by omega));rw[ei];refine⟨qs',r',CE.loop hk g1,g2,g3,g4,?_⟩;rw[g5,Ej _ _ _ (by omega),hz i (by omega),Et xs i (by omega),A7];generalize (4294967296:Int)^i=P at *
  have e2:xs.getD i 0=d*(v / d)+v % d-r*4294967296:=by omega
  rw[e2];grind
theorem wG{xs ys:LI}{y:Int}{s:Nat}(hy0:ys ≠ [])(hyl:ys.length<=1048576)(hy:ys.getD (ys.length-1) 0=y)(hb:0<y)(hs:s<32)(h1:2147483648<=y*2^s)(h2:y*2^s<4294967296):∀ (r i:Nat),i+r=s ->
  Ap (.loop Ua) (Nk xs ys (i:Nat)) (.exit 2) (Nk xs ys (s:Nat)):=by
 have hpos:=Ak.2 hy0;have en:I O ((ys.length:Int)-1)=((ys.length-1:Nat):Int):=by rw[Bg (by omega) (by omega)];omega
 have cond:∀ i:Nat,i<=s->(I Ae ((T (An .u32) (I Ae ((ys.getD (D (I O ((ys.length:Int)-1))) 0)*2^(min (D (I U (i:Int))) (An .u32)))) &&& T (An .u32) 2147483648).toNat)==0)=decide (y*2^i<2147483648):=by
  intro i hi;have em:min (D (i:Int)) (An .u32)=i:=by rw[R];show min i 32=i;omega
  have hp:=Ho hi;have hp0:=BX i;have hle:=Al hp (show 0<=y by omega);have hge:=AA (show 0<=y by omega) (show (0:Int)<=2^i by omega);rw[CP (n:=(i:Int)) (by omega),em,en,R,hy,Un (n:=y*2^i) (by omega)];exact ADk (by omega)
 intro r;induction r with
 | zero =>
  intro i hi;have:i=s:=by omega
  subst this;exact Ah (Agh xs ys _ (by rw[cond i (Ao _)];simp;omega) (by rw[en];omega) (by rw[CP (by omega)];omega))
 | succ r ih =>
  intro i hi;have ei:I O ((i:Int)+1)=((i+1:Nat):Int):=by rw[Bg (by omega) (by omega)];omega
  have hlt:y*2^i<2147483648:=by
   have hp:=Ho (show i+1<=s by omega);rw[A7] at hp;have hle:=Al hp (show 0<=y by omega);rw[<- AK] at hle;omega
  have k:=Agg xs ys (i:Nat) (by rw[cond i (by omega)];simpa using hlt) (by rw[en];omega) (by rw[CP (by omega)];omega);rw[ei] at k;exact CE.loop k (ih (i+1) (by omega))
section
variable {k:Nat} {us vs:LI} {kq:Nat} {qs:LI} {s:Int} {j m:Nat}
theorem wH(hvl:vs.length=m+2)(hl:us.length=k)(hk:k<=1048577)(hj:j+m+2<k)(h:Dig m (Ab vs) (Ab (us.drop j)) (vs.getD (m+1) 0) (vs.getD m 0) (us.getD (j+m+2) 0) (us.getD (j+m+1) 0) (us.getD (j+m) 0)):∀ (f:Nat) (g r:Int),g.toNat<=f ->
  DigI (Ab vs) (Ab (us.drop j)) (vs.getD (m+1) 0) (us.getD (j+m+2) 0*4294967296+us.getD (j+m+1) 0) g r->r<4294967296 ->
  ∃ g' r',Ap (.loop IJ) (ER k us vs ((m+2:Nat):Int) kq qs s (j:Nat) g r) (.exit 6) (ER k us vs ((m+2:Nat):Int) kq qs s (j:Nat) g' r') /\
   (0<=g'/\g'<4294967296)/\Ab (us.drop j)<(g'+1)*Ab vs/\g'*Ab vs<Ab (us.drop j)+Ab vs:=by
 have ht:=h.htop;have hnx:=h.hnxt;have hz:=h.hz;have e1:I O (I O ((j:Int)+((m+2:Nat):Int))-2)=((j+m:Nat):Int):=by
  rw[Bg (n:=(j:Int)+((m+2:Nat):Int)) (by omega) (by omega),Bg (by omega) (by omega)];omega
 have e2:I O (((m+2:Nat):Int)-2)=(m:Int):=by rw[Bg (by omega) (by omega)];omega
 have e3:I O (((m+2:Nat):Int)-1)=((m+1:Nat):Int):=by rw[Bg (by omega) (by omega)];omega
 have et:I U (vs.getD (D (I O (((m+2:Nat):Int)-1))) 0)=vs.getD (m+1) 0:=by rw[e3,R,CP (by omega)]
 have en:I U (vs.getD (D (I O (((m+2:Nat):Int)-2))) 0)=vs.getD m 0:=by rw[e2,R,CP (by omega)]
 have n2:0<=I O (((m+2:Nat):Int)-2)/\I O (((m+2:Nat):Int)-2)<(vs.length:Int):=by rw[e2];omega
 have n1:0<=I O (((m+2:Nat):Int)-1)/\I O (((m+2:Nat):Int)-1)<(vs.length:Int):=by rw[e3];omega
 have nu:0<=I O (I O ((j:Int)+((m+2:Nat):Int))-2)/\I O (I O ((j:Int)+((m+2:Nat):Int))-2)<(k:Int):=by rw[e1];omega
 have ecmp:∀ g r:Int,0<=r->r<4294967296->0<=g*vs.getD m 0/\g*vs.getD m 0<18446744073709551616->(A (I U (g*(I U (vs.getD (D (I O (((m+2:Nat):Int)-2))) 0)))>I U ((T (An .u64) (I U (r*2^(min (D 32) (An .u64)))) ||| T (An .u64) (I U (us.getD (D (I O (I O ((j:Int)+((m+2:Nat):Int))-2))) 0))).toNat)):Bool)=decide (r*4294967296+us.getD (j+m) 0<g*vs.getD m 0):=by
  intro g r hr0 hr hgn;rw[en,e1,R,Ph ⟨hr0,hr⟩ hz,CP hgn]
 intro f;induction f with
 | zero =>
  intro g r hf i hr;have hg:g=0:=by have:=i.g0;omega
  subst hg;have c2:¬ (r*4294967296+us.getD (j+m) 0<0*vs.getD m 0):=by have:=i.r0;omega
  have k5:=cR k us vs ((m+2:Nat):Int) kq qs s (j:Nat) 0 r (by simp) (by simpa using hr) (by
   rw[ecmp 0 r i.r0 hr (by omega),decide_eq_false_iff_not];exact c2) n2 nu hl
  exact⟨0,r,Ah k5,by omega,i.up,h.out i (by omega) (S8 (by omega))⟩
 | succ f ih =>
  intro g r hf i hr;have hg1:=i.gle;have hg0:=i.g0;have hr0:=i.r0;have hgn:0<=g*vs.getD m 0/\g*vs.getD m 0<18446744073709551616:=by
   have a:=AA hg0 hnx.1;have b:=EO hg1 (show vs.getD m 0<=4294967295 by omega) hnx.1 (by omega);omega
  have er:I U (r+(I U (vs.getD (D (I O (((m+2:Nat):Int)-1))) 0)))=r+vs.getD (m+1) 0:=by rw[et];exact CP (by omega)
  by_cases hc:4294967296<=g\/r*4294967296+us.getD (j+m) 0<g*vs.getD m 0
  ·have i2:=h.step i hc;have hg2:=i2.g0;have eg:I U (g-1)=g-1:=CP (by omega);by_cases hbig:4294967296<=r+vs.getD (m+1) 0
   ·have hgs:=h.small_g i2 hbig;have hrun:Ap IJ (ER k us vs ((m+2:Nat):Int) kq qs s (j:Nat) g r) (.exit 6) (ER k us vs ((m+2:Nat):Int) kq qs s (j:Nat) (I U (g-1)) (I U (r+(I U (vs.getD (D (I O (((m+2:Nat):Int)-1))) 0))))):=by
     by_cases hg:4294967296<=g
     ·exact Agi k us vs _ kq qs s _ g r (by simpa using hg) (by rw[er];simpa using hbig) n1
     ·exact Agk k us vs _ kq qs s _ g r (by simp;omega) (by simpa using hr) (by rw[ecmp g r hr0 hr hgn,decide_eq_true_eq];omega) (by rw[er];simpa using hbig) n2 nu hl n1
    rw[eg,er] at hrun;exact⟨g-1,_,Ah hrun,⟨hg2,hgs⟩,i2.up,h.out i2 hgs (Adi hbig)⟩
   ·have hrun:Ap IJ (ER k us vs ((m+2:Nat):Int) kq qs s (j:Nat) g r) .norm (ER k us vs ((m+2:Nat):Int) kq qs s (j:Nat) (I U (g-1)) (I U (r+(I U (vs.getD (D (I O (((m+2:Nat):Int)-1))) 0))))):=by
     by_cases hg:4294967296<=g
     ·exact Agj k us vs _ kq qs s _ g r (by simpa using hg) (by rw[er,decide_eq_false_iff_not];omega) n1
     ·exact Agl k us vs _ kq qs s _ g r (by simp;omega) (by simpa using hr) (by rw[ecmp g r hr0 hr hgn,decide_eq_true_eq];omega) (by rw[er,decide_eq_false_iff_not];omega) n2 nu hl n1
    rw[eg,er] at hrun;obtain⟨g',r',a1,a2⟩:=ih (g-1) (r+vs.getD (m+1) 0) (by omega) i2 (by omega);exact⟨g',r',CE.loop hrun a1,a2⟩
  ·have k5:=cR k us vs ((m+2:Nat):Int) kq qs s (j:Nat) g r (by simp;omega) (by simpa using hr) (by rw[ecmp g r hr0 hr hgn,decide_eq_false_iff_not];omega) n2 nu hl;exact⟨g,r,Ah k5,by omega,i.up,h.out i (by omega) (S8 (by omega))⟩
end
section
variable {k:Nat} {vs:LI} {kq:Nat} {qs:LI} {s:Int} {j:Nat} {g:Int}
theorem wI(hv:A_ vs)(hk:k<=1048577)(hg:0<=g/\g<4294967296)(hj:j+vs.length<=k):∀ (r i:Nat) (us:LI) (b c:Int),r+i=vs.length->us.length=k->A_ us->0<=b/\b<=1->0<=c/\c<4294967296 ->
  Ap (.loop RG) (K4 k us vs (vs.length:Nat) kq qs s (j:Nat) g b c (i:Nat)) (.exit 8) (K4 k (Gu g vs j r i us b c).1 vs (vs.length:Nat) kq qs s (j:Nat) g (Gu g vs j r i us b c).2.1 (Gu g vs j r i us b c).2.2 (vs.length:Nat)):=by
 intro r;induction r with
 | zero =>
  intro i us b c hi _ _ _ _;have:i=vs.length:=by omega
  subst this;exact Ah (Agn k us vs _ kq qs s _ g b c _ (by simp))
 | succ r ih =>
  intro i us b c hi hl hu hb hc;have ei:I O ((i:Int)+1)=((i+1:Nat):Int):=by rw[Bg (by omega) (by omega)];omega
  have eij:I O ((i:Int)+(j:Int))=((i+j:Nat):Int):=by rw[Bg (by omega) (by omega)];omega
  have hvi:=AL hv i;have hui:=AL hu (i+j);have hw:=YE hg hvi hc;have hgv:=AA hg.1 hvi.1;have h1:=Agm k us vs (vs.length:Nat) kq qs s (j:Nat) g b c (i:Nat) (by simp;omega) (by omega) (by rw[eij];omega) hl;have ecc:c+g*vs.getD i 0=g*vs.getD i 0+c:=Ma _ _;rw[eij,ei,R,R,CP (n:=vs.getD i 0) (by omega),CP (n:=us.getD (i+j) 0) (by omega),CP (n:=g*vs.getD i 0) (by omega),ecc,CP hw,cN,Awl] at h1;have emk:I U ((T (An .u64) (g*vs.getD i 0+c) &&& T (An .u64) 4294967295).toNat)=(g*vs.getD i 0+c) % 4294967296:=ADj (s:=32) hw (by decide);rw[emk] at h1;generalize hp:g*vs.getD i 0+c=p at *
  rw[BF,BF] at h1;have hstep:Gu g vs j (r+1) i us b c=Gu g vs j r (i+1) (us.set (i+j) ((us.getD (i+j) 0-p % 4294967296-b) % 4294967296)) (if us.getD (i+j) 0-p % 4294967296-b<0 then 1 else 0) (p / 4294967296):=by rw[Gu,hp]
  generalize hd:us.getD (i+j) 0-p % 4294967296-b=d at *
  have e1:I Ae (((us.getD (i+j) 0-p % 4294967296) % 18446744073709551616-b) % 18446744073709551616)=d % 4294967296:=by rw[Es];omega
  have e2:((us.getD (i+j) 0-p % 4294967296) % 18446744073709551616-b) % 18446744073709551616 / 9223372036854775808=(if d<0 then 1 else 0):=by split <;> omega
  rw[e1,e2] at h1;rw[hstep];exact CE.loop h1 (ih (i+1) _ _ _ (by omega) (by simpa using hl) (CF hu (by omega)) (by split <;> omega) (by omega))
theorem wJ(hv:A_ vs)(hk:k<=1048577)(hj:j+vs.length<=k):∀ (r i:Nat) (us:LI) (c:Int),r+i=vs.length->us.length=k->A_ us->0<=c/\c<=1 ->
  Ap (.loop Uc) (Nl k us vs (vs.length:Nat) kq qs s (j:Nat) g c (i:Nat)) (.exit 10) (Nl k (Jd vs j r i us c).1 vs (vs.length:Nat) kq qs s (j:Nat) g (Jd vs j r i us c).2 (vs.length:Nat)):=by
 intro r;induction r with
 | zero =>
  intro i us c hi _ _ _;have:i=vs.length:=by omega
  subst this;exact Ah (Agp k us vs _ kq qs s _ g c _ (by simp))
 | succ r ih =>
  intro i us c hi hl hu hc;have ei:I O ((i:Int)+1)=((i+1:Nat):Int):=by rw[Bg (by omega) (by omega)];omega
  have eij:I O ((i:Int)+(j:Int))=((i+j:Nat):Int):=by rw[Bg (by omega) (by omega)];omega
  have hvi:=AL hv i;have hui:=AL hu (i+j);have h1:=Ago k us vs (vs.length:Nat) kq qs s (j:Nat) g c (i:Nat) (by simp;omega) (by rw[eij];omega) hl (by omega);have ecc:c+(us.getD (i+j) 0+vs.getD i 0)=us.getD (i+j) 0+vs.getD i 0+c:=Ma _ _;rw[eij,ei,R,R,CP (n:=vs.getD i 0) (by omega),CP (n:=us.getD (i+j) 0) (by omega),CP (n:=us.getD (i+j) 0+vs.getD i 0) (by omega),ecc,CP (n:=us.getD (i+j) 0+vs.getD i 0+c) (by omega),cN,Es] at h1;exact CE.loop h1 (ih (i+1) _ _ (by omega) (by simpa using hl) (CF hu (by omega)) (by omega))
end
def TDC:C8:=TDB
theorem wK:Co DK TDC:=wE
section
variable {vs:LI} {m:Nat} {k kq:Nat} {s:Int}
theorem Agq(hv:A_ vs)(hm:vs.length=m+2)(ht:2147483648<=vs.getD (m+1) 0)(hk:k=kq+vs.length)(hkb:k<=1048577):∀ (i:Nat) (us qs:LI),i<=kq->us.length=k->A_ us->qs.length=kq->A_ qs->(∀ t,t<i->qs.getD t 0=0)->Ab (us.drop i)<Ab vs ->
  ∃ us' qs',Ap (.loop QB) (Ke k us vs (vs.length:Nat) kq qs s ((i:Int)-1)) (.exit 4) (Ke k us' vs (vs.length:Nat) kq qs' s (-1)) /\
   us'.length=k/\A_ us'/\qs'.length=kq/\A_ qs'/\Ab us'<Ab vs/\Ab us=Ab vs*(Ab qs'-Ab qs)+Ab us':=by
 intro i;induction i with
 | zero =>
  intro us qs _ h1 h2 h3 h4 _ h6;exact⟨us,qs,Ah (Axm k us vs _ kq qs s _ (by simp)),h1,h2,h3,h4,h6,by rw[Sg,AG,Ed]⟩
 | succ i ih =>
  intro us qs hi h1 h2 h3 h4 h5 h6;have ei:(((i+1:Nat):Int)-1)=(i:Nat):=by omega
  have ej:I O ((i:Int)-1)=(i:Int)-1:=Bg (by omega) (by omega);have en:I O ((i:Int)+(vs.length:Int))=((i+vs.length:Nat):Int):=by rw[Bg (by omega) (by omega)];omega
  have en1:I O (((i+vs.length:Nat):Int)-1)=((i+m+1:Nat):Int):=by rw[Bg (by omega) (by omega)];omega
  have ev1:I O ((vs.length:Int)-1)=((m+1:Nat):Int):=by rw[Bg (by omega) (by omega)];omega
  have hD:=Aca (us:=us) (vs:=vs) (j:=i) (m:=m) h2 hv hm (by omega) ht h6;have hI:=hD.init;have hr1:=EU (us.getD (i+m+2) 0*4294967296+us.getD (i+m+1) 0) (show 0<vs.getD (m+1) 0 by omega);have ht2:=hD.htop;have et:I U (vs.getD (D (I O ((vs.length:Int)-1))) 0)=vs.getD (m+1) 0:=by rw[ev1,R,CP (by omega)]
  obtain⟨g,r,q1,q2,q3,q4⟩:=wH (k:=k) (kq:=kq) (qs:=qs) (s:=s) hm h1 hkb (by omega) hD _ _ _ (Ao _) hI (by omega);rw[<- hm] at q1;have hn0:0<=us.getD (i+m+2) 0*4294967296+us.getD (i+m+1) 0:=by have:=hD.hx;have:=hD.hy;omega
  have hq0:=hI.g0;have hq1:=hI.gle;have hl5:Ap (.loop IJ) (ER k us vs (vs.length:Nat) kq qs s (i:Nat) (I U (Ax (I U ((T (An .u64) (I U ((I U (us.getD (D (I O ((i:Int)+(vs.length:Int)))) 0))*2^(min (D 32) (An .u64)))) ||| T (An .u64) (I U (us.getD (D (I O ((I O ((i:Int)+(vs.length:Int)))-1))) 0))).toNat)) (I U (vs.getD (D (I O ((vs.length:Int)-1))) 0)))) (AB (I U ((T (An .u64) (I U ((I U (us.getD (D (I O ((i:Int)+(vs.length:Int)))) 0))*2^(min (D 32) (An .u64)))) ||| T (An .u64) (I U (us.getD (D (I O ((I O ((i:Int)+(vs.length:Int)))-1))) 0))).toNat)) (I U (vs.getD (D (I O ((vs.length:Int)-1))) 0)))) (.exit 6) (ER k us vs (vs.length:Nat) kq qs s (i:Nat) g r):=by
   rw[et,en,en1,R,R,show i+vs.length=i+m+2 by omega,CP (n:=us.getD (i+m+2) 0) (by have:=hD.hx;omega),Ph hD.hx hD.hy,BK hn0,B1 hn0,CP ⟨hq0,by omega⟩];exact q1
  have hms:=wI (k:=k) (kq:=kq) (qs:=qs) (s:=s) (j:=i) (g:=g) hv hkb q2 (by omega) vs.length 0 us 0 0 (by omega) h1 h2 (by omega) (by omega);have hmo:=YF (j:=i) q2 hv vs.length 0 us 0 0 (by omega) (by omega) h2 (by omega) (by omega);have hst:=W3 h2 hv (j:=i) (by omega) h6 q2 q3 q4;generalize hM:Gu g vs i vs.length 0 us 0 0=M at *
  obtain⟨m1,m2,m3,m4,_,_⟩:=hmo;obtain⟨d1,d2⟩:=Awz (AL m2 (i+vs.length)) m4 m3;dsimp only at hst;obtain⟨S1,S2⟩:=hst;have fin:∀ (ws:LI) (q:Int),StepOk us vs ws i q->(0<=q/\q<4294967296)->Ap QB (Ke k us vs (vs.length:Nat) kq qs s (i:Nat)) .norm (Ke k ws vs (vs.length:Nat) kq (qs.set i q) s ((i:Int)-1)) ->
    ∃ us' qs',Ap (.loop QB) (Ke k us vs (vs.length:Nat) kq qs s (i:Nat)) (.exit 4) (Ke k us' vs (vs.length:Nat) kq qs' s (-1)) /\
   us'.length=k/\A_ us'/\qs'.length=kq/\A_ qs'/\Ab us'<Ab vs/\Ab us=Ab vs*(Ab qs'-Ab qs)+Ab us':=by
   intro ws q hs hq hrun;obtain⟨us',qs',a1,a2,a3,a4,a5,a6,a7⟩:=ih ws (qs.set i q) (by omega) (by rw[hs.len];exact h1) hs.u32 (by simpa using h3) (CF h4 hq) (fun t ht=>by rw[CA (by omega)];exact h5 t (by omega)) hs.low;refine⟨us',qs',CE.loop hrun a1,a2,a3,a4,a5,a6,?_⟩;have e:=hs.val;rw[Ej _ _ _ (by omega),h5 i (by omega),F8] at a7;generalize (4294967296:Int)^i=P at *
   grind
  have hn5:¬ I U (vs.getD (D (I O ((vs.length:Int)-1))) 0)=0:=by rw[et];omega
  rw[ei];by_cases hd:M.1.getD (i+vs.length) 0-M.2.2-M.2.1<0
  ·obtain⟨S2,hg1⟩:=S2 hd;have hu2:A_ (M.1.set (i+vs.length) ((M.1.getD (i+vs.length) 0-M.2.2-M.2.1) % 4294967296)):=CF m2 (by omega);have hab:=wJ (k:=k) (kq:=kq) (qs:=qs) (s:=s) (j:=i) (g:=g-1) hv hkb (by omega) vs.length 0 (M.1.set (i+vs.length) ((M.1.getD (i+vs.length) 0-M.2.2-M.2.1) % 4294967296)) 0 (by omega) (by rw[Ba,m1];exact h1) hu2 (by omega);have hao:=YG (j:=i) hv vs.length 0 (M.1.set (i+vs.length) ((M.1.getD (i+vs.length) 0-M.2.2-M.2.1) % 4294967296)) 0 (by omega) (by rw[Ba,m1];omega) hu2 (by omega);obtain⟨b1,b2,b3,_,_⟩:=hao;generalize hB:Jd vs i vs.length 0 (M.1.set (i+vs.length) ((M.1.getD (i+vs.length) 0-M.2.2-M.2.1) % 4294967296)) 0=Bb at *
   have eg:I U (g-1)=g-1:=CP (by omega);have k1:=Axk k us vs (vs.length:Nat) kq qs s (i:Nat) M.1 Bb.1 g r M.2.1 M.2.2 Bb.2 (by simp) (by rw[en,R,d1,if_pos hd];rfl) (by rw[en];omega) h1 (by rw[en,en1];omega) (by rw[ev1];omega) hn5 hl5 hms (by rw[m1];exact h1) (by rw[en,R,d2,eg];exact hab) (by rw[b1,Ba,m1];exact h1) (by omega) h3;rw[en,R,eg,R,Un (n:=g-1) (by omega),ej,Un (n:=Bb.2) (by omega),Es] at k1;exact fin _ _ S2 (by omega) k1
  ·have k2:=Axl k us vs (vs.length:Nat) kq qs s (i:Nat) M.1 g r M.2.1 M.2.2 (by simp) (by rw[en,R,d1,if_neg hd];rfl) (by rw[en];omega) h1 (by rw[en,en1];omega) (by rw[ev1];omega) hn5 hl5 hms (by rw[m1];exact h1) (by omega) h3;rw[en,R,R,d2,Un (n:=g) q2,ej] at k2;exact fin _ _ (S1 (by omega)) q2 k2
end
abbrev lz(n:Int):LI:=M n.toNat
theorem Agr{xs:LI}(h:Ga xs):xs=lz (Ab xs):=by
 refine Vr h (Cv _) ?_;rw[C9];have:=Bi h.1;omega
theorem A5g{n:Int}(h:0<=n):M n.natAbs=lz n:=by unfold lz;congr 1;omega
theorem rvF(xs:LI):rv false xs=Ab xs:=rfl
theorem nE{xs ys:LI}(hx:Ga xs)(hy:Ga ys)(hy0:ys ≠ [])(h1:xs.length<1000000)(h2:ys.length<1000000) :
  RQ 165 [sL lm xs,sL lm ys] (Ar [H (lz (Ab xs / Ab ys)).length (lm (lz (Ab xs / Ab ys))),H (lz (Ab xs % Ab ys)).length (lm (lz (Ab xs % Ab ys)))]):=by
 have hyl:=Ak.2 hy0;have hcmp:=QL hx hy (by omega);have hx0:=Bi hx.1;have hyp:=JX hy hy0;by_cases hlt:Ab xs<Ab ys
 ·rw[HJ hx0 hlt,GK hx0 hlt,<- Agr hx];exact vX xs ys _ (by unfold CX;rw[if_pos hlt];rfl) hcmp
 have hcm:decide (CX (Ab xs) (Ab ys)<0)=false:=by unfold CX;rw[if_neg hlt];split <;> rfl
 by_cases hone:ys.length=1
 ·obtain⟨y,rfl⟩:=A8e.1 hone;have e1:Ab [y]=y:=by simp[Ab]
  rw[e1] at hyp |-;have hyb:=hy.1 y (by simp);obtain⟨qs,r,q1,q2,q3,q4,q5⟩:=wF hx.1 (d:=y) ⟨hyp,hyb.2⟩ (by omega) xs.length (l xs.length 0) 0 (Ao _) (by simp) (Fr _) (by omega) (fun t _=>DQ _ _);rw[Fe,DP,AG,AG,BJ,Ed] at q5;have hd:=(N4 hyp (a:=Ab xs) (r:=r) (q:=Ab qs)).2 ⟨by omega,q4.1,q4.2⟩;have ur:A_ [r]:=fun x h=>by rw[C3.1 h];omega
  have er:Ab [r]=r:=by simp[Ab]
  have h:=vY xs [y] qs _ r (-1) xs.length hcm rfl hcmp (by omega) (by
   rw[R,FE,Bg (by omega) (by omega)];exact q1) (by rw[<- q2];exact E7 (by omega)) (by rw[Un (n:=r) (by omega)];exact E7 (xs:=[r]) (by simp))
  rw[Un (n:=r) (by omega),JZ q3,JZ ur,er,<- hd.1,<- hd.2] at h;exact h
 ·obtain⟨m,hm⟩:∃ m,ys.length=m+2:=⟨ys.length-2,by omega⟩;have hxl:ys.length<=xs.length:=by
   rcases Ct xs.length ys.length with g | g
   ·exact absurd (J' hx hy g) hlt
   ·exact g
  have hyt:0<ys.getD (m+1) 0/\ys.getD (m+1) 0<4294967296:=by
   have a:=AL hy.1 (m+1);rcases hy.2 with g | g
   ·exact absurd g hy0
   ·rw[show ys.length-1=m+1 by omega] at g;omega
  obtain⟨s,hs,s1,s2,_⟩:=Acb hyt;have hp:=BX s;have hU:=Um (neg:=false) hx.1 s (by omega);have hV:=Um (neg:=false) hy.1 s (by omega);rw[rvF] at hU hV;have hU0:0<=Ab xs*2^s:=AA hx0 (by omega);have hV0:0<Ab ys*2^s:=Bp hyp hp;have eu:Ab (M (Ab xs*2^s).natAbs)=Ab xs*2^s:=by rw[C9];omega
  have ev:Ab (M (Ab ys*2^s).natAbs)=Ab ys*2^s:=by rw[C9];omega
  have cu:=Cv (Ab xs*2^s).natAbs;have cv:=Cv (Ab ys*2^s).natAbs;have hp2:(2:Int)^s<=2147483648:=by
   have:=Ho (show s<=31 by omega);rwa [show (2:Int)^31=2147483648 by decide] at this
  have ysplit:=DC ys (j:=m+1) (by omega);have yd:=CM ys (m+1);rw[Ek (xs:=ys) (i:=m+1+1) (by omega),AG,BJ] at yd;rw[yd] at ysplit;have ylo:=GF hy.1 (m+1);have ylo0:=Bi (Em hy.1 (m+1));have hP:=CH (m+1);have hV1:2147483648*4294967296^(m+1)<=Ab ys*2^s:=by
   rw[ysplit];have a:=Ac s1 (show (0:Int)<=4294967296^(m+1) by omega);have b:=AA (show (0:Int)<=2^s by omega) ylo0;have e:(Ab (Bx (m+1) ys)+4294967296^(m+1)*ys.getD (m+1) 0)*2^s=2^s*Ab (Bx (m+1) ys)+ys.getD (m+1) 0*2^s*4294967296^(m+1):=by grind
   omega
  have e9:(4294967296:Int)^(m+2)=4294967296^(m+1)*4294967296:=A7 _ _;have hV2:Ab ys*2^s<4294967296^(m+2):=by
   rw[ysplit];have e0:=Uo (show s<=32 by omega);have a1:ys.getD (m+1) 0+1<=2^(32-s):=by
    rw[e0] at s2;have:=Dd s2 (by omega);omega
   have a2:=Ac a1 (show (0:Int)<=2^s*4294967296^(m+1) by have:=Bp hp hP;omega);have a3:=It ylo hp;have e1:(ys.getD (m+1) 0+1)*(2^s*4294967296^(m+1))=2^s*(4294967296^(m+1)*ys.getD (m+1) 0)+2^s*4294967296^(m+1):=by grind
   have e2:(2:Int)^(32-s)*(2^s*4294967296^(m+1))=4294967296^(m+1)*4294967296:=by rw[<- AK,<- e0,AE]
   rw[AE,CT];omega
  have hvl1:(M (Ab ys*2^s).natAbs).length<=m+2:=Mx cv (by rw[ev];exact hV2);have hvl2:m+2<=(M (Ab ys*2^s).natAbs).length:=by
   apply PI;intro hh;have a:=Eb cv.1;rw[ev] at a;have b:=GP (show (M (Ab ys*2^s).natAbs).length<=m+1 by omega);omega
  have hUlt:Ab xs*2^s<4294967296^(xs.length+1):=by
   have a:=Eb hx.1;have b:=Bc a hp;have c:=Al hp2 (show (0:Int)<=4294967296^xs.length by have:=CH xs.length;omega);have d:(4294967296:Int)^(xs.length+1)=4294967296^xs.length*4294967296:=A7 _ _;have e:=CH xs.length;omega
  have hul1:(M (Ab xs*2^s).natAbs).length<=xs.length+1:=Mx cu (by rw[eu];exact hUlt);have hxne:xs ≠ []:=by intro e;rw[e,HI] at hxl;omega
  have hul2:xs.length<=(M (Ab xs*2^s).natAbs).length:=by
   apply PI;intro hh;have a:=Eb cu.1;rw[eu] at a;have b:=GP (show (M (Ab xs*2^s).natAbs).length<=xs.length-1 by omega);have c:=RL hx hxne;have d:=Al (show (1:Int)<=2^s by omega) hx0;omega
  have hul3:0<xs.length:=Ak.2 hxne;generalize hvs:M (Ab ys*2^s).natAbs=vs at *
  generalize hus:M (Ab xs*2^s).natAbs=us0 at *
  have hvl:vs.length=m+2:=by omega
  have u00:A_ (us0++[0,0]):=fun x hh=>by
   rcases Bn.1 hh with g | g
   ·exact cu.1 x g
   ·simp at g;omega
  have v00:Ab (us0++[0,0])=Ab xs*2^s:=by rw[GZ];simp[Ab,eu]
  have u2:A_ ((us0++[0,0]).take (xs.length+1)):=Em u00 _;have u1:((us0++[0,0]).take (xs.length+1)).length=xs.length+1:=by simp;omega
  have u3:Ab ((us0++[0,0]).take (xs.length+1))=Ab xs*2^s:=by
   have a:=DC (us0++[0,0]) (j:=xs.length+1) (by simp;omega);rw[KS u00 (n:=xs.length+1) (V:=4294967296^(xs.length+1)) (Dg _) (by rw[v00];exact hUlt),AG,BJ,v00] at a;exact a.symm
  have elm:Bx ((xs.length+1)*1) (lm us0++([F Ae 0,F Ae 0]:List AV))=lm ((us0++[0,0]).take (xs.length+1)):=by
   simp[lm,PZ]
  generalize hU':(us0++[0,0]).take (xs.length+1)=us at *
  have hvtop:2147483648<=vs.getD (m+1) 0:=by
   have a:=DC vs (j:=m+1) (by omega);have b:=CM vs (m+1);rw[Ek (xs:=vs) (i:=m+1+1) (by omega),AG,BJ] at b;rw[b] at a;have c:=GF cv.1 (m+1);apply KF.1;intro h;have:=Al (show vs.getD (m+1) 0+1<=2147483648 by omega) (show (0:Int)<=4294967296^(m+1) by omega);rw[CT,Dh,AE _ 2147483648] at this;omega
  have hini:Ab (us.drop (xs.length-ys.length+1))<Ab vs:=by
   have a:=DC us (j:=xs.length-ys.length+1) (by omega);have b:=Bi (Em u2 (xs.length-ys.length+1));have c:=Eb hx.1;have d:=Bc c hp;have e:(4294967296:Int)^xs.length=4294967296^(xs.length-ys.length+1)*4294967296^(m+1):=by rw[<- BB];congr 1;omega
   have hQ:=CH (xs.length-ys.length+1);rw[ev];apply sD (b:=2^s*4294967296^(m+1))
   ·apply FK (a:=4294967296^(xs.length-ys.length+1)) _ (by omega);have e2:(4294967296:Int)^(xs.length-ys.length+1)*(2^s*4294967296^(m+1))=4294967296^xs.length*2^s:=by rw[e];grind
    omega
   ·have:=Ac hp2 (show (0:Int)<=4294967296^(m+1) by omega);omega
  obtain⟨us',qs,l1,l2,l3,l4,l5,l6,l7⟩:=Agq (k:=xs.length+1) (kq:=xs.length-ys.length+1) (s:=(s:Nat)) cv.1 hvl hvtop (by omega) (by omega) (xs.length-ys.length+1) us (l (xs.length-ys.length+1) 0) (Ao _) u1 u2 (by simp) (Fr _) (fun t _=>DQ _ _) hini;rw[Fe,F8,u3,ev] at l7;rw[ev] at l6;have hR:Ab us'=2^s*(Ab xs-Ab ys*Ab qs):=by
   rw[Fy];have:2^s*(Ab ys*Ab qs)=Ab ys*2^s*Ab qs:=by grind
   rw[this,AE (2^s) (Ab xs)];omega
  have us0':=Bi l3;have hR0:0<=Ab xs-Ab ys*Ab qs:=by
   apply KF.1;intro h;have:=Al (show Ab xs-Ab ys*Ab qs <= -1 by omega) (show (0:Int)<=2^s by omega);omega
  have hR1:Ab xs-Ab ys*Ab qs<Ab ys:=by
   rw[hR,AE (Ab ys) (2^s)] at l6;exact FK l6 (by omega)
  have hd:=(N4 hyp (a:=Ab xs) (r:=Ab xs-Ab ys*Ab qs) (q:=Ab qs)).2 ⟨by omega,hR0,hR1⟩;have hdn:=YK (neg:=false) l3 s (by omega) (by omega);rw[rvF,hR,Cc _ (show (2:Int)^s ≠ 0 by omega)] at hdn;have emx:(if (I O ((ys.length:Int)+1))>(I O ((xs.length:Int)+1)) then (I O ((ys.length:Int)+1)) else (I O ((xs.length:Int)+1)))=((xs.length+1:Nat):Int):=by
   rw[Bg (n:=(ys.length:Int)+1) (by omega) (by omega),Bg (n:=(xs.length:Int)+1) (by omega) (by omega),if_neg (by omega)];omega
  have esub:I O (((xs.length+1:Nat):Int)-(vs.length:Int))=((xs.length-ys.length+1:Nat):Int):=by rw[Bg (by omega) (by omega)];omega
  have esb1:I O (((xs.length-ys.length+1:Nat):Int)-1)=((xs.length-ys.length+1:Nat):Int)-1:=Bg (by omega) (by omega);have hz:=wG (xs:=xs) (ys:=ys) (y:=ys.getD (m+1) 0) (s:=s) hy0 (by omega) (by rw[show ys.length-1=m+1 by omega]) hyt.1 hs s1 s2 s 0 (by omega);have key:=vZ xs ys qs us' vs (CX (Ab xs) (Ab ys)) (s:Nat) (vs.length:Nat) (-1) (Ab xs*2^s) (Ab ys*2^s) (Ab xs-Ab ys*Ab qs) (xs.length+1) (xs.length-ys.length+1) hcm (by simp;omega) hcmp hz hV (by rw[hus];omega) hU
   (by rw[hus,emx];omega) (by rw[emx,hvs,R,esub];omega) (by
    rw[hus,hvs,emx,R,esub,R,esb1,elm,FE];exact l1) (by rw[<- l4];exact E7 (by omega)) (by rw[<- l2];exact hdn)
  rw[JZ l5,A5g hR0] at key;rw[hd.1,hd.2];exact key
def TDD:C8:=TDC
theorem a:Co DK TDD:=wK
def Vf:ICode:=c A9c 94 56
def NJ(rs:List Rn)(n:Int):Aj:=(C (sL pc rs)::(W 2 (C (F O n)::(W 31 []))))
theorem Axn(rs:List Rn)(n:Int)(c1:A (n>0)=true)(c2:((BQ (L (rs.getD (D (I O (n-1))) z0)))==0)=true)(n1:0<=(I O (n-1))/\(I O (n-1))<(rs.length:Int))(n2:RQ 79 [Az (rs.getD (D (I O (n-1))) z0)] (F O (BQ (L (rs.getD (D (I O (n-1))) z0))))):Ap Vf (NJ rs n) .norm (NJ rs (I O (n-1))):=(J f [bT,.v (Az (rs.getD (D (I O (n-1))) z0)),.r (F O (BQ (L (rs.getD (D (I O (n-1))) z0)))),bT] [0,3] (JL c1 n1 (BP n1) n2 c2))
theorem Axo(rs:List Rn)(n:Int)(c1:A (n>0)=true)(c2:((BQ (L (rs.getD (D (I O (n-1))) z0)))==0)=false)(n1:0<=(I O (n-1))/\(I O (n-1))<(rs.length:Int))(n2:RQ 79 [Az (rs.getD (D (I O (n-1))) z0)] (F O (BQ (L (rs.getD (D (I O (n-1))) z0))))):Ap Vf (NJ rs n) (.exit 0) (NJ rs n):=(J f [bT,.v (Az (rs.getD (D (I O (n-1))) z0)),.r (F O (BQ (L (rs.getD (D (I O (n-1))) z0)))),bF] [0,3] (JL c1 n1 (BP n1) n2 c2))
theorem Axp(rs:List Rn)(n:Int)(c1:A (n>0)=false):Ap Vf (NJ rs n) (.exit 0) (NJ rs n):=(J f [bF,bF] [0,3] (J0 c1 Fc))
def XP:ICode:=c A9c 91 500
def Pj(rs:List Rn)(n:Int)(k:Nat)(cs:List AV)(i:Int):Aj:=(C (sL pc rs)::(W 2 (C (F O n)::(X 2 k cs::(C (F O i)::(W 29 []))))))
theorem Axq(rs:List Rn)(n:Int)(k:Nat)(cs:List AV)(i:Int)(c1:A (i<n)=true)(n1:0<=i/\i<(rs.length:Int))(n2:k+1<=1048576)(n3:RQ 97 [Az (rs.getD (D i) z0)] (Ag (L (rs.getD (D i) z0)))):Ap XP (Pj rs n k cs i) .norm (Pj rs n (k+1) (cs++([B (A ((L (rs.getD (D i) z0))<0)),H ((M (E (L (rs.getD (D i) z0)))).length) (lm (M (E (L (rs.getD (D i) z0)))))]:List AV)) (I O (i+1))):=(J f [bT,.v (Az (rs.getD (D i) z0)),.r (Ag (L (rs.getD (D i) z0)))] [0,3,4,5] (JT c1 n1 (BP n1) n3 (show Bl ([B (A ((L (rs.getD (D i) z0))<0)),H ((M (E (L (rs.getD (D i) z0)))).length) (lm (M (E (L (rs.getD (D i) z0)))))]:List AV)=1*2 from rfl) n2))
theorem Axr(rs:List Rn)(n:Int)(k:Nat)(cs:List AV)(i:Int)(c1:A (i<n)=false):Ap XP (Pj rs n k cs i) (.exit 2) (Pj rs n k cs i):=(J f [bF] [0,3,4,5] (Jx c1))
theorem A5h(rs:List Rn)(n i:Int)(k:Nat)(cs:List AV)(hl1:Ap (.loop Vf) (NJ rs (rs.length:Int)) (.exit 0) (NJ rs n))(hl2:Ap (.loop XP) (Pj rs n 0 ([]:List AV) 0) (.exit 2) (Pj rs n k cs i)):RQ 46 [sL pc rs] (P 2 k cs):=OO A9c (W 2 (X 2 k cs::(W 32 []))) (CE.asc (CE.seq (J f [] [0,3] a0) (CE.seq (CE.block hl1) (Av (CE.seq (J f [] [0,3,4,5] a0) (CE.seq (CE.block hl2) (J f [] [2] a0)))))))
def lJ:ICode:=c AAs 92 244
def W4(ts:List Rn)(r:Rn)(e:Int)(w:Rn)(i:Int):Aj:=(W 2 (C (F O e)::(W 1 (Ay [B r.1,H r.2.length (lm r.2)]::(W 1 (Ay [B false,H 0 []]::(C (sL pc ts)::(Ay [B w.1,H w.2.length (lm w.2)]::(C (F O i)::(W 27 []))))))))))
theorem A5i(ts:List Rn)(r:Rn)(e:Int)(w:Rn)(i:Int)(u:Int)(c1:A (i>=0)=true)(n1:0<=i/\i<(ts.length:Int))(n2:RQ 96 [Az w,Az r] (Ag ((L w)*(L r))))(n3:RQ 84 [Az (ts.getD (D i) z0),F O (I O (e*(I O ((I O ((ts.length:Int)-1))-i))))] (CR u))(n4:RQ 95 [Ag ((L w)*(L r)),Ag u] (Ag (((L w)*(L r))+u))):Ap lJ (W4 ts r e w i) .norm (W4 ts r e (cn (((L w)*(L r))+u)) (I O (i-1))):=(J f [bT,.r (Ag ((L w)*(L r))),.v (Az (ts.getD (D i) z0)),.r (CR u),.r (Ag (((L w)*(L r))+u))] [2,4,6,7,8,9] (JT c1 n2 n1 (BP n1) n3 n4))
theorem A5j(ts:List Rn)(r:Rn)(e:Int)(w:Rn)(i:Int)(c1:A (i>=0)=false):Ap lJ (W4 ts r e w i) (.exit 0) (W4 ts r e w i):=(J f [bF] [2,4,6,7,8,9] (Jx c1))
theorem A5k(rs ts:List Rn)(r w:Rn)(e i:Int)(n1:RQ 46 [sL pc rs] (P 2 ts.length (pc ts)))(hl2:Ap (.loop lJ) (W4 ts r e (false,[]) (I O ((ts.length:Int)-1))) (.exit 0) (W4 ts r e w i)):RQ 80 [sL pc rs,Az r,F O e] (Az w):=OO AAs (W 6 (Ay [B w.1,H w.2.length (lm w.2)]::(W 30 []))) (CE.asc (CE.asc (Av (CE.seq (J f [.r (P 2 ts.length (pc ts))] [2,4,6,7,8,9] (Jx n1)) (CE.seq (CE.block hl2) (J f [] [6] a0))))))
theorem nF(rs:List Rn)(r:Rn):pc rs++([B r.1,H r.2.length (lm r.2)]:List AV)=pc (rs++[r]):=by rw [Pb];rfl
theorem PP(g:Nat->Rn)(i:Nat):(Aq (i+1)).map g=(Aq i).map g++[g i]:=by rw [Io,Ez];rfl
theorem Ags{rs:List Rn}(hg:∀ r∈rs,AU 1048576 r)(hN:rs.length<=1048576):∀ m,m<=rs.length->Ap (.loop Vf) (NJ rs (m:Nat)) (.exit 0) (NJ rs (b (N rs) m:Nat)):=by
 intro m;induction m with
 | zero=>intro _;exact Ah (Axp rs ((0:Nat):Int) (by simp))
 | succ m ih =>
  intro hm;have e1:I O (((m+1:Nat):Int)-1)=(m:Int):=by rw[Bg (by omega) (by omega)];omega
  obtain⟨g1,g2⟩:=Bo hg m;have hs:=Hd (neg:=(rs.getD m z0).1) g1 g2;simp only[b];rw[CU];by_cases h0:L (rs.getD m z0)=0
  ·rw[if_pos h0];have k:=Axn rs ((m+1:Nat):Int) (by simp) (by rw[e1,R,h0];rfl) (by rw[e1];omega) (by simp only[e1,R];exact hs);rw[e1] at k;exact CE.loop k (ih (by omega))
  ·rw[if_neg h0];exact Ah (Axo rs ((m+1:Nat):Int) (by simp) (by rw[e1,R,beq_eq_false_iff_ne];unfold BQ; (repeat' split) <;> omega) (by rw[e1];omega) (by simp only[e1,R];exact hs))
theorem Agt{rs:List Rn}(hg:∀ r∈rs,AU 1048576 r)(hN:rs.length<=1048576)(n:Nat)(hn:n<=rs.length) :
  Ap (.loop XP) (Pj rs (n:Nat) 0 [] 0) (.exit 2) (Pj rs (n:Nat) n (pc ((Aq n).map fun j=>cn (L (rs.getD j z0)))) (n:Nat)):=by
 refine CE.up (fun i=>Pj rs (n:Nat) i (pc ((Aq i).map fun j=>cn (L (rs.getD j z0)))) (i:Nat)) n (by nofun) ?_ ?_ 0 (AN _)
 ·intro i hi;have ei:I O ((i:Int)+1)=((i+1:Nat):Int):=by rw[Bg (by omega) (by omega)];omega
  obtain⟨g1,g2⟩:=Bo hg i;have k:=Axq rs (n:Nat) i (pc ((Aq i).map fun j=>cn (L (rs.getD j z0)))) (i:Nat) (by simp;omega) (by omega) (by omega) (by simp only[R];exact Y9 g1 g2);refine k.to rfl ?_;simp only[R,ei];rw[PP,<- nF];rfl
 ·exact Axr rs (n:Nat) n _ (n:Nat) (by simp)
theorem EX{rs:List Rn}(hg:∀ r∈rs,AU 1048576 r)(hN:rs.length<=1048576):RQ 46 [sL pc rs] (P 2 (Y (N rs)).length (pk (Y (N rs)))):=by
 have hle:=KO (N rs) rs.length;have hlen:(Y (N rs)).length=b (N rs) rs.length:=by rw[LK,AW]
 have h:=A5h rs _ _ _ _ (Ags hg hN rs.length (Ao _)) (Agt hg hN _ hle);have e3:(Aq (b (N rs) rs.length)).map (fun j=>cn (L (rs.getD j z0)))=(Y (N rs)).map cn:=by
  rw[<- Vt,hlen];apply GM;intro i _;rw[Dl,CU]
 (first|rw[e3,<- hlen] at h|(rw[e3] at h;unfold sL at h;rw[<- hlen] at h));exact h
theorem Tu(e:Nat):Bv (e / 32+1) ((2:Int)^e):=by
 unfold Bv;have h1:((2:Int)^e).natAbs=2^e:=by rw[Qa];rfl
 have h2:(4294967296:Nat)^(e / 32+1)=2^(32*(e / 32+1)):=by rw[AEg]
 rw[h1,h2];exact Tv (by decide) (by omega)
theorem YL{K X:Nat}{x:Int}(hx:Bv X x)(e:Nat):∀ {ts:LI},(∀ t∈ts,Bv K t)->Bv (K+1+ts.length*(X+(e / 32+1)+1)) (hv ts x (2^e))
 | [],_=>HP _
 | t::ts,h=>by
  have ih:=YL (K:=K) hx e (ts:=ts) fun y hy=>h y (AT _ hy);have h1:Bv (K+(e*ts.length / 32+1)) (t*((2:Int)^e)^ts.length):=by
   rw[<- rX];exact (h t AO).mul (Tu _)
  have h2:=hx.mul ih;have hb:e*ts.length / 32<=ts.length*(e / 32+1):=by
   have:e*ts.length<=32*(ts.length*(e / 32+1)):=by
    have h3:e<=32*(e / 32+1):=by omega
    calc e*ts.length<=(32*(e / 32+1))*ts.length:=AJ _ h3
     _=32*(ts.length*(e / 32+1)):=by rw[Fm,CY (e / 32+1)]
   omega
  have hb2:ts.length*(e / 32+1)<=ts.length*(X+(e / 32+1)+1):=z _ (by omega);have h3:=(h1.mono (k:=K+1+ts.length*(X+(e / 32+1)+1)+X+(e / 32+1)) (by omega)).add (h2.mono (by omega));simp only[hv,B0,DE,FL];exact h3.mono (by omega)
theorem Axs{K X:Nat}{ts:List Rn}{r:Rn}(ht:∀ t∈ts,AU K t)(hr:AU X r)(e:Nat)(hS:K+2+(ts.length+1)*(X+(e / 32+1)+1)<=1048576)(he:e<=1073741824) :
  ∀ n (w:Rn),n<=ts.length->L w=hv ((N ts).drop n) (L r) (2^e)->AU (K+1+(ts.length-n)*(X+(e / 32+1)+1)) w -> 
  ∃ w',L w'=hv (N ts) (L r) (2^e)/\(w'=w/\n=0\/w'=cn (hv (N ts) (L r) (2^e)))/\Ap (.loop lJ) (W4 ts r (e:Nat) w ((n:Int)-1)) (.exit 0) (W4 ts r (e:Nat) w' (-1)):=by
 intro n;induction n with
 | zero =>
  intro w _ hw _;refine⟨w,by simpa using hw,.inl ⟨rfl,rfl⟩,?_⟩;exact Ah (A5j ts r (e:Nat) w (((0:Nat):Int)-1) (by simp))
 | succ n ih =>
  intro w hn hw gw;obtain⟨t1,t2⟩:=Bo ht n;have e0:((n+1:Nat):Int)-1=(n:Int):=by omega
  have hK1:(ts.length-(n+1))*(X+(e / 32+1)+1)+(X+(e / 32+1)+1)=(ts.length-n)*(X+(e / 32+1)+1):=by
   rw[show ts.length-n=ts.length-(n+1)+1 by omega,DE,FL]
  have hK2:(ts.length-n)*(X+(e / 32+1)+1)<=(ts.length+1)*(X+(e / 32+1)+1):=AJ _ (by omega);have hsh:e*(ts.length-1-n) / 32<=(ts.length-(n+1))*(X+(e / 32+1)+1):=by
   have h3:e<=32*(e / 32+1):=by omega
   have h4:e*(ts.length-1-n)<=32*((ts.length-(n+1))*(e / 32+1)):=by
    calc e*(ts.length-1-n)<=(32*(e / 32+1))*(ts.length-1-n):=AJ _ h3
     _=32*((ts.length-(n+1))*(e / 32+1)):=by rw[Fm,CY (e / 32+1),show ts.length-1-n=ts.length-(n+1) by omega]
   have h5:(ts.length-(n+1))*(e / 32+1)<=(ts.length-(n+1))*(X+(e / 32+1)+1):=z _ (by omega);omega
  have w1:I O ((e:Int)*I O (I O ((ts.length:Int)-1)-(n:Int)))=((e*(ts.length-1-n):Nat):Int):=by
   have hle:ts.length<=1048576:=by
    have:ts.length*1<=(ts.length+1)*(X+(e / 32+1)+1):=BG (by omega) (by omega);omega
   rw[Bg (n:=(ts.length:Int)-1) (by omega) (by omega),Bg (n:=(ts.length:Int)-1-(n:Int)) (by omega) (by omega)];have e3:(ts.length:Int)-1-(n:Int)=((ts.length-1-n:Nat):Int):=by omega
   rw[e3,<- DI];have:e*(ts.length-1-n)<=1073741824*1048576:=BG he (by omega);exact Bg (by omega) (by omega)
  have w2:I O ((n:Int)-1)=(n:Int)-1:=by
   have hle:ts.length<=1048576:=by
    have:ts.length*1<=(ts.length+1)*(X+(e / 32+1)+1):=BG (by omega) (by omega);omega
   exact Bg (by omega) (by omega)
  have hst:hv ((N ts).drop n) (L r) (2^e)=L w*L r+L (ts.getD n z0)*2^(e*(ts.length-1-n)):=by
   have h1:(N ts).drop n=(N ts).getD n 0::(N ts).drop (n+1):=by
    rw[B2 (by rw[AW];omega)];congr 1;rw[Z,Ad (by rw[AW];omega)];rfl
   rw[h1,hv,CU,CV,AW,<- hw,<- rX,show ts.length-(n+1)=ts.length-1-n by omega];generalize L (ts.getD n z0)*2^(e*(ts.length-1-n))=A;grind
  have fw:=gw.fits;have fp:=(fw.mul hr.fits);have ft:Bv (K+(e*(ts.length-1-n) / 32+1)) (L (ts.getD n z0)*2^(e*(ts.length-1-n))):=(Bo ht n).fits.mul (Tu _);have hgood:AU (K+1+(ts.length-n)*(X+(e / 32+1)+1)) (cn (L w*L r+L (ts.getD n z0)*2^(e*(ts.length-1-n)))):=by
   refine (B4 ((fp.mono (k:=K+1+(ts.length-(n+1))*(X+(e / 32+1)+1)+X+(e / 32+1)) (by omega)).add (ft.mono (by omega)))).mono (by omega)
  obtain⟨w',q1,q2,q3⟩:=ih (cn (L w*L r+L (ts.getD n z0)*2^(e*(ts.length-1-n)))) (by omega) (by rw[A6,hst]) hgood;refine⟨w',q1,.inr ?_,?_⟩
  ·rcases q2 with ⟨g1,g2⟩ | g
   ·rw[g1];rw[g1,A6] at q1;rw[q1]
   ·exact g
  ·rw[e0];have l1:=fp.len;have l2:=ft.len;obtain⟨gw1,gw2⟩:=gw;have k:=A5i ts r (e:Nat) w (n:Nat) (L (ts.getD n z0)*2^(e*(ts.length-1-n))) (by simp) (by omega)
    (Ni gw1 hr.1 (by have:=hr.2;omega))
    (by rw[w1,R];exact Um t1 _ (by omega))
    (by
     have:=Pf (na:=decide (L w*L r<0)) (nb:=decide (L (ts.getD n z0)*2^(e*(ts.length-1-n))<0)) (BV (L w*L r).natAbs) (BV (L (ts.getD n z0)*2^(e*(ts.length-1-n))).natAbs) (by omega) (by omega);rw[FB,FB] at this;exact this)
   rw[w2] at k;exact CE.loop k q3
theorem W5{K X:Nat}{rs:List Rn}{r:Rn}(ht:∀ t∈rs,AU K t)(hr:AU X r)(e:Nat)(hS:K+2+(rs.length+1)*(X+(e / 32+1)+1)<=1048576)(he:e<=1073741824) :
  RQ 80 [sL pc rs,o [B r.1,H r.2.length (lm r.2)],F O (e:Nat)] (Ag (hv (Y (N rs)) (L r) (2^e))):=by
 have hle:rs.length<=1048576:=by
  have:rs.length*1<=(rs.length+1)*(X+(e / 32+1)+1):=BG (by omega) (by omega);omega
 have hK:K<=1048576:=by omega
 have htr:=EX (fun r h=>(ht r h).mono hK) hle;have hl:=BA (N rs);rw[AW] at hl;have gts:∀ t∈(Y (N rs)).map cn,AU K t:=Vs (M1 (Dk ht));have hS2:K+2+(((Y (N rs)).map cn).length+1)*(X+(e / 32+1)+1)<=1048576:=by
  have:(((Y (N rs)).map cn).length+1)*(X+(e / 32+1)+1)<=(rs.length+1)*(X+(e / 32+1)+1):=AJ _ (by simp;omega);omega
 obtain⟨w',q1,q2,q3⟩:=Axs gts hr e hS2 he ((Y (N rs)).map cn).length z0 (Ao _) (by
  rw[s,Q,Ev];rfl) (QM _)
 rw[s] at q1 q2;have e1:I O (((((Y (N rs)).map cn).length:Nat):Int)-1)=((((Y (N rs)).map cn).length:Nat):Int)-1:=Bg (by omega) (by rw[Q];omega);have hcn:w'=cn (hv (Y (N rs)) (L r) (2^e)):=by
  rcases q2 with ⟨g1,g2⟩ | g
  ·(first|rw[Q] at g2|(unfold sL at g2;rw[Q] at g2));rw[g1,A5 g2];rfl
  ·exact g
 (first|rw[<- Q (f:=cn)] at htr|(unfold sL at htr;rw[<- Q (f:=cn)] at htr));have h:=A5k rs ((Y (N rs)).map cn) r w' (e:Nat) (-1) htr (by rw[e1];exact q3);rw[hcn] at h;exact h
def TX:ICode:=c Apu 80 1037108
def Nm(na:Bool)(nb:Bool)(la:Nat)(xa:List AV)(lb:Nat)(xb:List AV)(n:Nat)(cs:List AV)(i:Int)(x:Int)(c:Int)(k:Int):Aj:=(W 4 (Ay [B false,H 0 []]::(C (B na)::(W 1 (C (B nb)::(C (H lb xb)::(X 1 n cs::(C (F O i)::(C (F Ae x)::(C (F U c)::(W 28 (C (H la xa)::(C (F O (la:Int))::(C (F O i)::(W 4 (C (H lb xb)::(C (F O (lb:Int))::(C (F O k)::(W 43 [])))))))))))))))))))
theorem Agu(na:Bool)(nb:Bool)(la:Nat)(xa:List AV)(lb:Nat)(xb:List AV)(n:Nat)(cs:List AV)(i:Int)(x:Int)(c:Int)(k:Int)(ds:List AV)(y z:Int)(c1:A (k<(lb:Int))=true)(n1:0<=k/\k<(lb:Int))(n2:Bj (g (D k*1) xb) 0 1 true=some (F Ae y))(n3:0<=(I O (i+k))/\(I O (i+k))<(n:Int))(n4:Bj cs (D (I O (i+k))*1) 1 true=some (F Ae z))(n5:0<=(I O (i+k))/\(I O (i+k))<(n:Int))(n6:C5 cs (D (I O (i+k))*1) [F Ae (I Ae (I U ((I U ((I U ((I U x)*(I U y)))+(I U z)))+c)))]=some ds):Ap TX (Nm na nb la xa lb xb n cs i x c k) .norm (Nm na nb la xa lb xb n ds i x (d (I U ((I U ((I U ((I U x)*(I U y)))+(I U z)))+c)) (2^(min (D 32) (An .u64)))) (I O (k+1))):=G e 300 [bT,.v (F Ae y),.v (F Ae z),.l ds] Ys (ND c1 n1 n2 n3 n4 Jn n5 n6) (by kernel_rfl)
theorem Agv(na:Bool)(nb:Bool)(la:Nat)(xa:List AV)(lb:Nat)(xb:List AV)(n:Nat)(cs:List AV)(i:Int)(x:Int)(c:Int)(k:Int)(c1:A (k<(lb:Int))=false):Ap TX (Nm na nb la xa lb xb n cs i x c k) (.exit 2) (Nm na nb la xa lb xb n cs i x c k):=G e 300 [bF] Ys (Jx c1) (by kernel_rfl)
def Yb:ICode:=c Apu 90 1012
def QW(na:Bool)(nb:Bool)(la:Nat)(xa:List AV)(lb:Nat)(xb:List AV)(n:Nat)(cs:List AV)(i:Int):Aj:=(W 4 (Ay [B false,H 0 []]::(C (B na)::(W 1 (C (B nb)::(C (H lb xb)::(X 1 n cs::(W 31 (C (H la xa)::(C (F O (la:Int))::(C (F O i)::(W 50 []))))))))))))
theorem wL(na nb:Bool)(la:Nat)(xa:List AV)(lb:Nat)(xb:List AV)(n:Nat)(cs:List AV)(i:Int)(h:(A (i<(la:Int)))=false):Ap Yb (QW na nb la xa lb xb n cs i) (.exit 0) (QW na nb la xa lb xb n cs i):=G e 300 [bF] bH (Jx (show (A (i<(la:Int)))=false from h)) (by kernel_rfl)
theorem nH(na nb:Bool)(la:Nat)(xa:List AV)(lb:Nat)(xb:List AV)(n:Nat)(cs ds es:List AV)(i x c k:Int)(h:(A (i<(la:Int)))=true)(hi:0<=i/\i<(la:Int))(hx:Bj (g (D i*1) xa) 0 1 true=some (F Ae x))(hl:Ap (.loop TX) (Nm na nb la xa lb xb n cs i x 0 0) (.exit 2) (Nm na nb la xa lb xb n ds i x c k))(hix:0<=I O (i+(lb:Int))/\I O (i+(lb:Int))<(n:Int))(hst:C5 ds (D (I O (i+(lb:Int)))*1) [F Ae (I Ae c)]=some es):Ap Yb (QW na nb la xa lb xb n cs i) .norm (QW na nb la xa lb xb n es (I O (i+1))):=(CE.seq (G (t:=(W 4 (Ay [B false,H 0 []]::(C (B na)::(W 1 (C (B nb)::(C (H lb xb)::(X 1 n cs::(W 31 (C (H la xa)::(u (la:Int)::(u i::(C (B (A (i<(la:Int))))::(W 49 [])))))))))))))) e 300 [] [4,5,7,8,9,41,42,43,44] a0) (CE.seq (G (t:=(W 4 (Ay [B false,H 0 []]::(C (B na)::(W 1 (C (B nb)::(C (H lb xb)::(X 1 n cs::(W 31 (C (H la xa)::(u (la:Int)::(u i::(C (B (A (i<(la:Int))))::(W 49 [])))))))))))))) e 300 [bT] [4,5,7,8,9,41,42,43,44] (Jx (show (A (i<(la:Int)))=true from h))) (CE.seq (v (CE.seq (G (t:=(W 4 (Ay [B false,H 0 []]::(C (B na)::(W 1 (C (B nb)::(C (H lb xb)::(X 1 n cs::(u i::(C (F Ae x)::(W 29 (C (H la xa)::(u (la:Int)::(u i::(C (B (A (i<(la:Int))))::(u i::(.mem (g (D i*1) xa)::(C (F Ae x)::(W 46 []))))))))))))))))))) e 300 [.v (F Ae x)] [4,5,7,8,9,10,11,41,42,43,44,45,46,47] (J0 (show 0<=i/\i<(la:Int) from hi) (show Bj (g (D i*1) xa) 0 1 true=some (F Ae x) from hx))) (CE.seq (G (t:=(W 4 (Ay [B false,H 0 []]::(C (B na)::(W 1 (C (B nb)::(C (H lb xb)::(X 1 n cs::(u i::(C (F Ae x)::(C (F U 0)::(W 28 (C (H la xa)::(u (la:Int)::(u i::(C (B (A (i<(la:Int))))::(u i::(.mem (g (D i*1) xa)::(C (F Ae x)::(W 46 [])))))))))))))))))))) e 300 [] [4,5,7,8,9,10,11,12,41,42,43,44,45,46,47] a0) (CE.seq (CE.seq (G (t:=(W 4 (Ay [B false,H 0 []]::(C (B na)::(W 1 (C (B nb)::(C (H lb xb)::(X 1 n cs::(u i::(C (F Ae x)::(C (F U 0)::(W 28 (C (H la xa)::(u (la:Int)::(u i::(W 4 (C (H lb xb)::(u (lb:Int)::(u 0::(W 43 [])))))))))))))))))))) e 300 [] Ys a0) (CE.block hl)) (G (t:=(W 4 (Ay [B false,H 0 []]::(C (B na)::(W 1 (C (B nb)::(C (H lb xb)::(X 1 n es::(u i::(C (F Ae x)::(C (F U c)::(W 28 (C (H la xa)::(u (la:Int)::(u i::(W 4 (C (H lb xb)::(u (lb:Int)::(u k::(W 29 (.dup 9::(u i::(C (H lb xb)::(u (lb:Int)::(u (I O (i+(lb:Int)))::(C (F U c)::(C (F Ae (I Ae c))::(.ptr 9 (D (I O (i+(lb:Int)))*1)::(W 6 []))))))))))))))))))))))))))))) e 300 [.l es] [4,5,7,8,9,10,11,12,41,42,43,48,49,50,80,81,82,83,84,85,86,87] (J0 (show 0<=(I O (i+(lb:Int)))/\(I O (i+(lb:Int)))<(n:Int) from hix) (show C5 ds (D (I O (i+(lb:Int)))*1) [F Ae (I Ae c)]=some es from hst))))))) (G (t:=(W 4 (Ay [B false,H 0 []]::(C (B na)::(W 1 (C (B nb)::(C (H lb xb)::(X 1 n es::(W 31 (C (H la xa)::(u (la:Int)::(u (I O (i+1))::(W 50 []))))))))))))) e 300 [] bH a0))))
theorem wM(na nb:Bool)(xs ys:LI)(hx:A_ xs)(hy:A_ ys)(n i:Nat)(hn:n<=1048576)(hib:i+ys.length<=n):∀ (r k:Nat) (out:LI) (c:Int),r+k=ys.length->out.length=n->A_ out->0<=c/\c<4294967296 ->
  Ap (.loop TX) (Nm na nb xs.length (lm xs) ys.length (lm ys) n (lm out) (i:Int) (xs.getD i 0) c (k:Int)) (.exit 2)
   (Nm na nb xs.length (lm xs) ys.length (lm ys) n (lm (Iz (xs.getD i 0) ys i r k out c).1) (i:Int) (xs.getD i 0) (Iz (xs.getD i 0) ys i r k out c).2 (ys.length:Int)):=by
 intro r;induction r with
 | zero =>
  intro k out c hk _ _ _;have hk':k=ys.length:=by omega
  subst hk';exact Ah (Agv na nb xs.length (lm xs) ys.length (lm ys) n (lm out) (i:Int) (xs.getD i 0) c (ys.length:Int) (by simp))
 | succ r ih =>
  intro k out c hk hl hu hc;have hai:=AL hx i;have hbk:=AL hy k;have hok:=AL hu (i+k);obtain⟨w1,w2,w3,w4⟩:=Y4 hai hbk hc hok;have ei:I O ((i:Int)+(k:Int))=((i+k:Nat):Int):=by rw[Bg (by omega) (by omega)];omega
  have ek:I O ((k:Int)+1)=((k+1:Nat):Int):=by rw[Bg (by omega) (by omega)];omega
  have hz:=Y1 (xs:=out) (i:=i+k) (by omega);have hyk:=E6 (xs:=ys) (i:=k) (by omega);have hst:=J2 (xs:=out) (i:=i+k) (v:=(c+(out.getD (i+k) 0+xs.getD i 0*ys.getD k 0)) % 4294967296) (by omega);have eW:I U (I U (I U (I U (xs.getD i 0)*I U (ys.getD k 0))+I U (out.getD (i+k) 0))+c)=c+(out.getD (i+k) 0+xs.getD i 0*ys.getD k 0):=by
   have q1:I U (xs.getD i 0)=xs.getD i 0:=by rw[BF];omega
   have q2:I U (ys.getD k 0)=ys.getD k 0:=by rw[BF];omega
   have q3:I U (out.getD (i+k) 0)=out.getD (i+k) 0:=by rw[BF];omega
   rw[q1,q2,q3,BF,BF,BF];omega
  have eS:d (c+(out.getD (i+k) 0+xs.getD i 0*ys.getD k 0)) (2^(min (D 32) (An .u64)))=(c+(out.getD (i+k) 0+xs.getD i 0*ys.getD k 0)) / 4294967296:=by
   show d _ 4294967296=_;rw[q _ (by omega)]
  have h1:=Agu na nb xs.length (lm xs) ys.length (lm ys) n (lm out) (i:Int) (xs.getD i 0) c (k:Int) (lm (out.set (i+k) ((c+(out.getD (i+k) 0+xs.getD i 0*ys.getD k 0)) % 4294967296))) (ys.getD k 0) (out.getD (i+k) 0)
   (by simp;omega) (by omega) (by rw[R];exact hyk) (by rw[ei];omega) (by rw[ei,R];exact hz) (by rw[ei];omega) (by rw[ei,R,eW,Es];exact hst)
  rw[eW,eS,ek] at h1;exact CE.loop h1 (ih (k+1) _ _ (by omega) (by simpa using hl) (CF hu (by omega)) (by omega))
theorem Agw(na nb:Bool)(xs ys:LI)(hx:A_ xs)(hy:A_ ys)(hN:xs.length+ys.length<=1048576):∀ (r i:Nat) (out:LI),r+i=xs.length->out.length=xs.length+ys.length->A_ out->(∀ j,i+ys.length<=j->out.getD j 0=0) ->
  ∃ out',out'.length=xs.length+ys.length/\A_ out'/\Ab out'=Ab out+4294967296^i*(Ab (xs.drop i)*Ab ys) /\
   Ap (.loop Yb) (QW na nb xs.length (lm xs) ys.length (lm ys) (xs.length+ys.length) (lm out) (i:Int)) (.exit 0) (QW na nb xs.length (lm xs) ys.length (lm ys) (xs.length+ys.length) (lm out') (xs.length:Int)):=by
 intro r;induction r with
 | zero =>
  intro i out hi hl hu _;have hi':i=xs.length:=by omega
  subst hi';refine⟨out,hl,hu,by simp[Ab],?_⟩;exact Ah (wL na nb xs.length (lm xs) ys.length (lm ys) (xs.length+ys.length) (lm out) (xs.length:Int) (by simp))
 | succ r ih =>
  intro i out hi hl hu hz;have hai:=AL hx i;have hlt:i<xs.length:=by omega
  have hin:=wM na nb xs ys hx hy (xs.length+ys.length) i hN (by omega) ys.length 0 out 0 (by omega) hl hu (by omega);obtain⟨g1,g2,g3,g4,g5⟩:=cC (i:=i) hai hy ys.length 0 out 0 (by omega) (by omega) hu (by omega);generalize Iz (xs.getD i 0) ys i ys.length 0 out 0=q at *
  obtain⟨ds,c⟩:=q;dsimp only at g1 g2 g3 g4 g5 hin;have ei:I O ((i:Int)+(ys.length:Int))=((i+ys.length:Nat):Int):=by rw[Bg (by omega) (by omega)];omega
  have ei1:I O ((i:Int)+1)=((i+1:Nat):Int):=by rw[Bg (by omega) (by omega)];omega
  have ec:I Ae c=c:=by rw[Es];omega
  have hst:=J2 (xs:=ds) (i:=i+ys.length) (v:=c) (by omega);have hxi:=E6 (xs:=xs) (i:=i) hlt;have h1:=nH na nb xs.length (lm xs) ys.length (lm ys) (xs.length+ys.length) (lm out) (lm ds) (lm (ds.set (i+ys.length) c)) (i:Int) (xs.getD i 0) c (ys.length:Int) (by simp;omega) (by omega) (by rw[R];exact hxi) hin (by rw[ei];omega) (by rw[ei,R,ec];exact hst);rw[ei1] at h1;obtain⟨out',k1,k2,k3,k4⟩:=ih (i+1) (ds.set (i+ys.length) c) (by omega) (by simp;omega) (CF g2 g3) (fun j hj=>by rw[Pa (by omega),g5 j (by omega),hz j (by omega)]);refine⟨out',k1,k2,?_,CE.loop h1 k4⟩;have hv:Ab (ds.set (i+ys.length) c)=Ab out+4294967296^i*(xs.getD i 0*Ab ys):=by
   rw[Ej ds _ _ (by omega),g5 _ (Ao _),hz _ (Ao _)];simp only[EJ,Da,Ed,F8] at g4 |-;exact g4
  have hd:Ab (xs.drop i)=xs.getD i 0+4294967296*Ab (xs.drop (i+1)):=CM xs i;rw[k3,hv,hd,A7];generalize (4294967296:Int)^i=p at *
  generalize Ab (xs.drop (i+1))=V at *
  grind
theorem wN(na:Bool)(xs:LI)(nb:Bool)(ys:LI)(a b:Int)(h1:RQ 143 [o [B na,sL lm xs]] (Ar [B (A (a<0)),H (M (E a)).length (lm (M (E a)))]))(h2:RQ 143 [o [B nb,sL lm ys]] (Ar [B (A (b<0)),H (M (E b)).length (lm (M (E b)))]))(z:((((M (E a)).length:Nat):Int)==0)=true):RQ 112 [o [B na,sL lm xs],o [B nb,sL lm ys]] (o [B false,H 0 []]):=Jz (ps:=[RQ 143 [o [B na,sL lm xs]] (Ar [B (A (a<0)),H ((M (E a)).length) (lm (M (E a)))]),RQ 143 [o [B nb,sL lm ys]] (Ar [B (A (b<0)),H ((M (E b)).length) (lm (M (E b)))]),((((M (E a)).length:Nat):Int)==0)=true,true=true]) e rfl 300 rfl [.r (Ar [B (A (a<0)),H ((M (E a)).length) (lm (M (E a)))]),.r (Ar [B (A (b<0)),H ((M (E b)).length) (lm (M (E b)))]),bT,bT] (by kernel_rfl) ⟨h1,h2,z,rfl,trivial⟩
theorem wO(na:Bool)(xs:LI)(nb:Bool)(ys:LI)(a b:Int)(h1:RQ 143 [o [B na,sL lm xs]] (Ar [B (A (a<0)),H (M (E a)).length (lm (M (E a)))]))(h2:RQ 143 [o [B nb,sL lm ys]] (Ar [B (A (b<0)),H (M (E b)).length (lm (M (E b)))]))(y:((((M (E a)).length:Nat):Int)==0)=false)(z:((((M (E b)).length:Nat):Int)==0)=true):RQ 112 [o [B na,sL lm xs],o [B nb,sL lm ys]] (o [B false,H 0 []]):=Jz (ps:=[RQ 143 [o [B na,sL lm xs]] (Ar [B (A (a<0)),H ((M (E a)).length) (lm (M (E a)))]),RQ 143 [o [B nb,sL lm ys]] (Ar [B (A (b<0)),H ((M (E b)).length) (lm (M (E b)))]),((((M (E a)).length:Nat):Int)==0)=false,((((M (E b)).length:Nat):Int)==0)=true]) e rfl 300 rfl [.r (Ar [B (A (a<0)),H ((M (E a)).length) (lm (M (E a)))]),.r (Ar [B (A (b<0)),H ((M (E b)).length) (lm (M (E b)))]),bF,bT] (by kernel_rfl) ⟨h1,h2,y,z,trivial⟩
theorem wP(na:Bool)(xs:LI)(nb:Bool)(ys:LI)(a b:Int)(h1:RQ 143 [o [B na,sL lm xs]] (Ar [B (A (a<0)),H (M (E a)).length (lm (M (E a)))]))(h2:RQ 143 [o [B nb,sL lm ys]] (Ar [B (A (b<0)),H (M (E b)).length (lm (M (E b)))]))(out:LI)(r:Int)(y:((((M (E a)).length:Nat):Int)==0)=false)(z:((((M (E b)).length:Nat):Int)==0)=false)(hmk:0<=I O ((((M (E a)).length:Nat):Int)+(((M (E b)).length:Nat):Int))/\I O ((((M (E a)).length:Nat):Int)+(((M (E b)).length:Nat):Int))<=1048576)(hl:Ap (.loop Yb) (QW (A (a<0)) (A (b<0)) (M (E a)).length (lm (M (E a))) (M (E b)).length (lm (M (E b))) (D (I O ((((M (E a)).length:Nat):Int)+(((M (E b)).length:Nat):Int)))) (CD [F Ae 0] (D (I O ((((M (E a)).length:Nat):Int)+(((M (E b)).length:Nat):Int))))) 0) (.exit 0) (QW (A (a<0)) (A (b<0)) (M (E a)).length (lm (M (E a))) (M (E b)).length (lm (M (E b))) (D (I O ((((M (E a)).length:Nat):Int)+(((M (E b)).length:Nat):Int)))) (lm out) (((M (E a)).length:Nat):Int)))(h3:RQ 152 [B (!((A (a<0))==(A (b<0)))),H (D (I O ((((M (E a)).length:Nat):Int)+(((M (E b)).length:Nat):Int)))) (lm out)] (o [B (A (r<0)),H ((M (E r)).length) (lm (M (E r)))])):RQ 112 [o [B na,sL lm xs],o [B nb,sL lm ys]] (o [B (A (r<0)),H ((M (E r)).length) (lm (M (E r)))]):=OO Apu (W 4 (Ay [B (A (r<0)),H ((M (E r)).length) (lm (M (E r)))]::(C (B (A (a<0)))::(W 1 (C (B (A (b<0)))::(C (H ((M (E b)).length) (lm (M (E b))))::(C (H (D (I O ((((M (E a)).length:Nat):Int)+(((M (E b)).length:Nat):Int)))) (lm out))::(W 31 (C (H ((M (E a)).length) (lm (M (E a))))::(C (F O (((M (E a)).length:Nat):Int))::(C (F O (((M (E a)).length:Nat):Int))::(W 45 (C (B (A (a<0)))::(C (B (A (b<0)))::(C (B (!((A (a<0))==(A (b<0)))))::(C (H (D (I O ((((M (E a)).length:Nat):Int)+(((M (E b)).length:Nat):Int)))) (lm out))::(C (o [B (A (r<0)),H ((M (E r)).length) (lm (M (E r)))])::[]))))))))))))))))) (CE.seq (G (t:=(C (o [B na,sL lm xs])::(C (o [B nb,sL lm ys])::(Ay [B na,sL lm xs]::(Ay [B nb,sL lm ys]::(Ay [B false,H 0 []]::(W 89 []))))))) e 300 [] [0,1,2,3,4] a0) (CE.seq (G (t:=(C (o [B na,sL lm xs])::(C (o [B nb,sL lm ys])::(Ay [B na,sL lm xs]::(Ay [B nb,sL lm ys]::(Ay [B false,H 0 []]::(C (B (A (a<0)))::(C (H ((M (E a)).length) (lm (M (E a))))::(W 9 (C (Ar [B (A (a<0)),H ((M (E a)).length) (lm (M (E a)))])::(C (o [B na,sL lm xs])::(C (Ar [B (A (a<0)),H ((M (E a)).length) (lm (M (E a)))])::(C (B (A (a<0)))::(C (H ((M (E a)).length) (lm (M (E a))))::(W 73 []))))))))))))))) e 300 [.r (Ar [B (A (a<0)),H ((M (E a)).length) (lm (M (E a)))])] [0,1,2,3,4,5,6,16,17,18,19,20] (Jx (show RQ 143 [o [B na,sL lm xs]] (Ar [B (A (a<0)),H ((M (E a)).length) (lm (M (E a)))]) from h1))) (CE.seq (G (t:=(C (o [B na,sL lm xs])::(C (o [B nb,sL lm ys])::(Ay [B na,sL lm xs]::(Ay [B nb,sL lm ys]::(Ay [B false,H 0 []]::(C (B (A (a<0)))::(C (H ((M (E a)).length) (lm (M (E a))))::(C (B (A (b<0)))::(C (H ((M (E b)).length) (lm (M (E b))))::(W 7 (C (Ar [B (A (a<0)),H ((M (E a)).length) (lm (M (E a)))])::(C (o [B na,sL lm xs])::(C (Ar [B (A (a<0)),H ((M (E a)).length) (lm (M (E a)))])::(C (B (A (a<0)))::(C (H ((M (E a)).length) (lm (M (E a))))::(C (Ar [B (A (b<0)),H ((M (E b)).length) (lm (M (E b)))])::(C (o [B nb,sL lm ys])::(C (Ar [B (A (b<0)),H ((M (E b)).length) (lm (M (E b)))])::(C (B (A (b<0)))::(C (H ((M (E b)).length) (lm (M (E b))))::(W 68 [])))))))))))))))))))))) e 300 [.r (Ar [B (A (b<0)),H ((M (E b)).length) (lm (M (E b)))])] [0,1,2,3,4,5,6,7,8,16,17,18,19,20,21,22,23,24,25] (Jx (show RQ 143 [o [B nb,sL lm ys]] (Ar [B (A (b<0)),H ((M (E b)).length) (lm (M (E b)))]) from h2))) (CE.seq (G (t:=(C (o [B na,sL lm xs])::(C (o [B nb,sL lm ys])::(Ay [B na,sL lm xs]::(Ay [B nb,sL lm ys]::(Ay [B false,H 0 []]::(C (B (A (a<0)))::(C (H ((M (E a)).length) (lm (M (E a))))::(C (B (A (b<0)))::(C (H ((M (E b)).length) (lm (M (E b))))::(W 7 (C (Ar [B (A (a<0)),H ((M (E a)).length) (lm (M (E a)))])::(C (o [B na,sL lm xs])::(C (Ar [B (A (a<0)),H ((M (E a)).length) (lm (M (E a)))])::(C (B (A (a<0)))::(C (H ((M (E a)).length) (lm (M (E a))))::(C (Ar [B (A (b<0)),H ((M (E b)).length) (lm (M (E b)))])::(C (o [B nb,sL lm ys])::(C (Ar [B (A (b<0)),H ((M (E b)).length) (lm (M (E b)))])::(C (B (A (b<0)))::(C (H ((M (E b)).length) (lm (M (E b))))::(C (H ((M (E a)).length) (lm (M (E a))))::(u (((M (E a)).length:Nat):Int)::(C (B ((((M (E a)).length:Nat):Int)==0))::(C (B ((((M (E a)).length:Nat):Int)==0))::(C (H ((M (E b)).length) (lm (M (E b))))::(u (((M (E b)).length:Nat):Int)::(C (B ((((M (E b)).length:Nat):Int)==0))::(C (B ((((M (E b)).length:Nat):Int)==0))::(W 60 [])))))))))))))))))))))))))))))) e 300 [bF,bF] [0,1,2,3,4,5,6,7,8,16,17,18,19,20,21,22,23,24,25,26,27,28,29,30,31,32,33] (J0 (show ((((M (E a)).length:Nat):Int)==0)=false from y) (show ((((M (E b)).length:Nat):Int)==0)=false from z))) (CE.seq (G (t:=(C (o [B na,sL lm xs])::(C (o [B nb,sL lm ys])::(Ay [B na,sL lm xs]::(Ay [B nb,sL lm ys]::(Ay [B false,H 0 []]::(C (B (A (a<0)))::(C (H ((M (E a)).length) (lm (M (E a))))::(C (B (A (b<0)))::(C (H ((M (E b)).length) (lm (M (E b))))::(X 1 (D (I O ((((M (E a)).length:Nat):Int)+(((M (E b)).length:Nat):Int)))) (CD [F Ae 0] (D (I O ((((M (E a)).length:Nat):Int)+(((M (E b)).length:Nat):Int)))))::(W 6 (C (Ar [B (A (a<0)),H ((M (E a)).length) (lm (M (E a)))])::(C (o [B na,sL lm xs])::(C (Ar [B (A (a<0)),H ((M (E a)).length) (lm (M (E a)))])::(C (B (A (a<0)))::(C (H ((M (E a)).length) (lm (M (E a))))::(C (Ar [B (A (b<0)),H ((M (E b)).length) (lm (M (E b)))])::(C (o [B nb,sL lm ys])::(C (Ar [B (A (b<0)),H ((M (E b)).length) (lm (M (E b)))])::(C (B (A (b<0)))::(C (H ((M (E b)).length) (lm (M (E b))))::(C (H ((M (E a)).length) (lm (M (E a))))::(u (((M (E a)).length:Nat):Int)::(C (B ((((M (E a)).length:Nat):Int)==0))::(C (B ((((M (E a)).length:Nat):Int)==0))::(C (H ((M (E b)).length) (lm (M (E b))))::(u (((M (E b)).length:Nat):Int)::(C (B ((((M (E b)).length:Nat):Int)==0))::(C (B ((((M (E b)).length:Nat):Int)==0))::(W 1 (C (H ((M (E a)).length) (lm (M (E a))))::(u (((M (E a)).length:Nat):Int)::(C (H ((M (E b)).length) (lm (M (E b))))::(u (((M (E b)).length:Nat):Int)::(u (I O ((((M (E a)).length:Nat):Int)+(((M (E b)).length:Nat):Int)))::(W 54 []))))))))))))))))))))))))))))))))))))) e 300 [] ((0)::(1)::(2)::(3)::(4)::(5)::(6)::(7)::(8)::(9)::(16)::(17)::(18)::(19)::(20)::(21)::(22)::(23)::(24)::(25)::(26)::(27)::(28)::(29)::(30)::(31)::(32)::(33)::(35)::(36)::(37)::(38)::(39)::[]) (Jx (show 0<=(I O ((((M (E a)).length:Nat):Int)+(((M (E b)).length:Nat):Int)))/\(I O ((((M (E a)).length:Nat):Int)+(((M (E b)).length:Nat):Int)))<=1048576 from hmk))) (CE.seq (CE.seq (G (t:=(W 4 (Ay [B false,H 0 []]::(C (B (A (a<0)))::(W 1 (C (B (A (b<0)))::(C (H ((M (E b)).length) (lm (M (E b))))::(X 1 (D (I O ((((M (E a)).length:Nat):Int)+(((M (E b)).length:Nat):Int)))) (CD [F Ae 0] (D (I O ((((M (E a)).length:Nat):Int)+(((M (E b)).length:Nat):Int)))))::(W 31 (C (H ((M (E a)).length) (lm (M (E a))))::(u (((M (E a)).length:Nat):Int)::(u 0::(W 50 []))))))))))))) e 300 [] bH a0) (CE.block hl)) (G (t:=(W 4 (bN r::(C (B (A (a<0)))::(W 1 (C (B (A (b<0)))::(C (H ((M (E b)).length) (lm (M (E b))))::(C (H (D (I O ((((M (E a)).length:Nat):Int)+(((M (E b)).length:Nat):Int)))) (lm out))::(W 31 (C (H ((M (E a)).length) (lm (M (E a))))::(u (((M (E a)).length:Nat):Int)::(u (((M (E a)).length:Nat):Int)::(W 45 (C (B (A (a<0)))::(C (B (A (b<0)))::(C (B (!((A (a<0))==(A (b<0)))))::(C (H (D (I O ((((M (E a)).length:Nat):Int)+(((M (E b)).length:Nat):Int)))) (lm out))::(C (o [B (A (r<0)),H ((M (E r)).length) (lm (M (E r)))])::[])))))))))))))))))) (ex := .ret) e 300 [.r (o [B (A (r<0)),H ((M (E r)).length) (lm (M (E r)))])] [4,5,7,8,9,41,42,43,89,90,91,92,93] (Jx (show RQ 152 [B (!((A (a<0))==(A (b<0)))),H (D (I O ((((M (E a)).length:Nat):Int)+(((M (E b)).length:Nat):Int)))) (lm out)] (o [B (A (r<0)),H ((M (E r)).length) (lm (M (E r)))]) from h3)))))))))
theorem cT(a b:Int)(zs:LI)(h:Ab zs=(a.natAbs:Int)*(b.natAbs:Int)):rv (!(decide (a<0)==decide (b<0))) zs=a*b:=by
 unfold rv;rw[h];by_cases g1:a<0 <;> by_cases g2:b<0
 ·have e1:(a.natAbs:Int) = -a:=by omega
  have e2:(b.natAbs:Int) = -b:=by omega
  rw[e1,e2];simp[g1,g2] <;> grind
 ·have e1:(a.natAbs:Int) = -a:=by omega
  have e2:(b.natAbs:Int)=b:=by omega
  rw[e1,e2];simp[g1,g2] <;> grind
 ·have e1:(a.natAbs:Int)=a:=by omega
  have e2:(b.natAbs:Int) = -b:=by omega
  rw[e1,e2];simp[g1,g2] <;> grind
 ·have e1:(a.natAbs:Int)=a:=by omega
  have e2:(b.natAbs:Int)=b:=by omega
  rw[e1,e2];simp[g1,g2]
theorem Vx{na nb:Bool}{xs ys:LI}(hx:A_ xs)(hy:A_ ys)(hN:xs.length+ys.length<=1048576):RQ 112 [o [B na,sL lm xs],o [B nb,sL lm ys]] (Ag (rv na xs*rv nb ys)):=by
 have l1:=Fg (neg:=na) hx;have l2:=Fg (neg:=nb) hy;have k1:=DT (neg:=na) hx (by omega);have k2:=DT (neg:=nb) hy (by omega);generalize rv na xs=a at *
 generalize rv nb ys=b at *
 have z1:=D4 a.natAbs;have z2:=D4 b.natAbs;by_cases ha:a=0
 ·have h:=wN na xs nb ys a b k1 k2 (by rw[beq_iff_eq];omega);rw[ha,BU];exact h
 by_cases hb:b=0
 ·have h:=wO na xs nb ys a b k1 k2 (by rw[beq_eq_false_iff_ne];omega) (by rw[beq_iff_eq];omega);rw[hb,AG];exact h
 have e1:I O ((((M (E a)).length:Nat):Int)+(((M (E b)).length:Nat):Int))=(((M (E a)).length+(M (E b)).length:Nat):Int):=by rw[Bg (by omega) (by omega)];omega
 have e2:(D (I O ((((M (E a)).length:Nat):Int)+(((M (E b)).length:Nat):Int))))=(M (E a)).length+(M (E b)).length:=by rw[e1,R]
 obtain⟨out,o1,o2,o3,o4⟩:=Agw (A (a<0)) (A (b<0)) (M (E a)) (M (E b)) (BV _) (BV _) (by omega) (M (E a)).length 0 (l ((M (E a)).length+(M (E b)).length) 0) (by omega) (by simp) (Fr _) (fun j _=>DQ _ j);have hv:Ab out=(a.natAbs:Int)*(b.natAbs:Int):=by rw[o3,Fe];simp[C9]
 have h3:=Fh (neg := !(decide (a<0)==decide (b<0))) o2 (by omega);(first|rw[cT a b out hv,o1] at h3|(rw[cT a b out hv] at h3;unfold sL at h3;rw[o1] at h3));exact wP na xs nb ys a b k1 k2 out _ (by rw[beq_eq_false_iff_ne];omega) (by rw[beq_eq_false_iff_ne];omega) (by rw[e1];omega) (by rw[e2,FE];exact o4) (by rw[e2];exact h3)
def TWC:C8:=TWB
theorem x:Co DK TWC:=e
def X_:ICode:=c Apk 90 1012
def Tw(na:Bool)(xs:LI)(w:Int)(s:Int)(k:Nat)(os:LI)(n:Int)(i:Int)(z:Rn):Aj:=(W 4 (Ay [B z.1,H z.2.length (lm z.2)]::(C (B na)::(W 1 (C (F O w)::(C (F U s)::(X 1 k (lm os)::(W 23 (C (sL lm xs)::(C (F O n)::(C (F O i)::(W 31 []))))))))))))
theorem Axt(na:Bool)(xs:LI)(w:Int)(s:Int)(k:Nat)(os:LI)(n:Int)(i:Int)(z:Rn)(c1:A (i<n)=true)(n1:0<=i/\i<(xs.length:Int))(n2:¬ s<0)(n3:0<=(I O (i+w))/\(I O (i+w))<(k:Int))(n4:os.length=k)(n5:0<=(I O ((I O (i+w))+1))/\(I O ((I O (i+w))+1))<(k:Int))(n6:(os.set (D (I O (i+w))) (I Ae ((T (An .u32) (os.getD (D (I O (i+w))) 0) ||| T (An .u32) (I Ae (I U ((I U (xs.getD (D i) 0))*2^(min (D s) (An .u64)))))).toNat))).length=k):Ap X_ (Tw na xs w s k os n i z) .norm (Tw na xs w s k ((os.set (D (I O (i+w))) (I Ae ((T (An .u32) (os.getD (D (I O (i+w))) 0) ||| T (An .u32) (I Ae (I U ((I U (xs.getD (D i) 0))*2^(min (D s) (An .u64)))))).toNat))).set (D (I O ((I O (i+w))+1))) (I Ae (d (I U ((I U (xs.getD (D i) 0))*2^(min (D s) (An .u64)))) (2^(min (D 32) (An .u64)))))) n (I O (i+1)) z):=(J x [bT,.v (F Ae (xs.getD (D i) 0)),.v (F Ae (os.getD (D (I O (i+w))) 0)),.l (lm (os.set (D (I O (i+w))) (I Ae ((T (An .u32) (os.getD (D (I O (i+w))) 0) ||| T (An .u32) (I Ae (I U ((I U (xs.getD (D i) 0))*2^(min (D s) (An .u64)))))).toNat)))),.l (lm ((os.set (D (I O (i+w))) (I Ae ((T (An .u32) (os.getD (D (I O (i+w))) 0) ||| T (An .u32) (I Ae (I U ((I U (xs.getD (D i) 0))*2^(min (D s) (An .u64)))))).toNat))).set (D (I O ((I O (i+w))+1))) (I Ae (d (I U ((I U (xs.getD (D i) 0))*2^(min (D s) (An .u64)))) (2^(min (D 32) (An .u64)))))))] bG (NF c1 n1 (p n1) n2 n3 (Cy n4 n3) n3 (show C5 (lm os) (D (I O (i+w))*1) [F Ae (I Ae ((T (An .u32) (os.getD (D (I O (i+w))) 0) ||| T (An .u32) (I Ae (I U ((I U (xs.getD (D i) 0))*2^(min (D s) (An .u64)))))).toNat))]=some (lm (os.set (D (I O (i+w))) (I Ae ((T (An .u32) (os.getD (D (I O (i+w))) 0) ||| T (An .u32) (I Ae (I U ((I U (xs.getD (D i) 0))*2^(min (D s) (An .u64)))))).toNat)))) from (Dm n4 n3)) Jn n5 (show C5 (lm (os.set (D (I O (i+w))) (I Ae ((T (An .u32) (os.getD (D (I O (i+w))) 0) ||| T (An .u32) (I Ae (I U ((I U (xs.getD (D i) 0))*2^(min (D s) (An .u64)))))).toNat)))) (D (I O ((I O (i+w))+1))*1) [F Ae (I Ae (d (I U ((I U (xs.getD (D i) 0))*2^(min (D s) (An .u64)))) (2^(min (D 32) (An .u64)))))]=some (lm ((os.set (D (I O (i+w))) (I Ae ((T (An .u32) (os.getD (D (I O (i+w))) 0) ||| T (An .u32) (I Ae (I U ((I U (xs.getD (D i) 0))*2^(min (D s) (An .u64)))))).toNat))).set (D (I O ((I O (i+w))+1))) (I Ae (d (I U ((I U (xs.getD (D i) 0))*2^(min (D s) (An .u64)))) (2^(min (D 32) (An .u64))))))) from (Dm n6 n5))))
theorem Axu(na:Bool)(xs:LI)(w:Int)(s:Int)(k:Nat)(os:LI)(n:Int)(i:Int)(z:Rn)(c1:A (i<n)=false):Ap X_ (Tw na xs w s k os n i z) (.exit 0) (Tw na xs w s k os n i z):=(J x [bF] bG (Jx c1))
theorem wQ(b na:Bool)(xs as1:LI)(m:Int)(c1:((as1.length:Int)==0)=true)(n1:RQ 143 [o [B b,sL lm xs]] (Ar [B na,sL lm as1])):RQ 104 [o [B b,sL lm xs],F O m] (o [B false,H 0 []]):=OO Apk (W 4 (Ay [B false,H 0 []]::(W 62 []))) (CE.asc (CE.asc (CE.asc (CE.asc (Av (A4 (J x [.r (Ar [B na,sL lm as1]),bT] [4] (J0 n1 c1))))))))
theorem wR(b na:Bool)(xs as1 os:LI)(m w s n i v:Int)(k:Nat)(z:Rn)(c1:((as1.length:Int)==0)=false)(n1:RQ 143 [o [B b,sL lm xs]] (Ar [B na,sL lm as1]))(n2:0<=(I O ((I O ((as1.length:Int)+(I O (Ax m 32))))+1))/\(I O ((I O ((as1.length:Int)+(I O (Ax m 32))))+1))<=1048576)(hl3:Ap (.loop X_) ((W 4 (Ay [B false,H 0 []]::(C (B na)::(W 1 (C (F O (I O (Ax m 32)))::(C (F U (I U (AB m 32)))::(X 1 (D (I O ((I O ((as1.length:Int)+(I O (Ax m 32))))+1))) (CD [F Ae 0] (D (I O ((I O ((as1.length:Int)+(I O (Ax m 32))))+1))))::(W 23 (C (sL lm as1)::(C (F O (as1.length:Int))::(C (F O 0)::(W 31 []))))))))))))) (.exit 0) (Tw na as1 w s k os n i z))(n4:RQ 152 [B na,H k (lm os)] (Ag v)):RQ 104 [o [B b,sL lm xs],F O m] (Ag v):=OO Apk (W 4 (Ay [B (A (v<0)),H ((M (E v)).length) (lm (M (E v)))]::(W 62 []))) (CE.asc (CE.asc (CE.asc (CE.asc (Av (CE.seq (J x [.r (Ar [B na,sL lm as1]),bF] bG (JL n1 c1 G1 G1 n2)) (CE.seq (CE.block hl3) (J x [.r (Ag v)] [4] (Jx n4)))))))))
def lE:ICode:=c A9z 93 116
def W6(ts:List Rn)(r:Rn)(e:Int)(w:Rn)(i:Int)(s:Int):Aj:=(C (sL pc ts)::(W 2 (Ay [B r.1,H r.2.length (lm r.2),F O e]::(W 1 (Ay [B w.1,H w.2.length (lm w.2)]::(C (F O i)::(C (F O s)::(W 24 []))))))))
theorem A5l(ts:List Rn)(r:Rn)(e:Int)(w:Rn)(i:Int)(s:Int)(t:Int)(c1:A (i>=0)=true)(n1:0<=i/\i<(ts.length:Int))(n2:RQ 112 [Az w,Az r] (Ag ((L w)*(L r))))(n3:RQ 104 [Az (ts.getD (D i) z0),F O s] (Ag t))(n4:RQ 111 [Ag ((L w)*(L r)),Ag t] (Ag (((L w)*(L r))+t))):Ap lE (W6 ts r e w i s) .norm (W6 ts r e (cn (((L w)*(L r))+t)) (I O (i-1)) (I O (s+e))):=(J x [bT,.r (Ag ((L w)*(L r))),.v (Az (ts.getD (D i) z0)),.r (Ag t),.r (Ag (((L w)*(L r))+t))] St (JT c1 n2 n1 (BP n1) n3 n4))
theorem A5m(ts:List Rn)(r:Rn)(e:Int)(w:Rn)(i:Int)(s:Int)(c1:A (i>=0)=false):Ap lE (W6 ts r e w i s) (.exit 0) (W6 ts r e w i s):=(J x [bF] St (Jx c1))
theorem A5n(ts:List Rn)(r w:Rn)(e i s sg:Int)(hl1:Ap (.loop lE) (W6 ts r e (false,[]) (I O ((ts.length:Int)-1)) 0) (.exit 0) (W6 ts r e w i s))(n2:RQ 101 [Az w] (F O sg)):RQ 65 [sL pc ts,o [B r.1,H r.2.length (lm r.2),F O e]] (F O sg):=OO A9z (W 4 (C (F O sg)::(W 27 []))) (CE.asc (Av (CE.seq (J x [] St a0) (CE.seq (CE.block hl1) (J x [.r (F O sg)] [4] (Jx n2))))))
def TSA:C8:=TWC
theorem wS:Co DK TSA:=x
theorem Agx{na:Bool}{xs:LI}{z:Rn}{w s:Nat}(hx:A_ xs)(hs:s<32)(hN:w+xs.length<1048576):∀ (r i:Nat) (os:LI),i+r=xs.length->os.length=w+xs.length+1->A_ os->Ab os=4294967296^w*(2^s*Ab (xs.take i))->os.getD (i+w) 0<2^s->(∀ t,i+w<t->os.getD t 0=0) ->
  ∃ os',Ap (.loop X_) (Tw na xs (w:Nat) (s:Nat) (w+xs.length+1) os (xs.length:Nat) (i:Nat) z) (.exit 0) (Tw na xs (w:Nat) (s:Nat) (w+xs.length+1) os' (xs.length:Nat) (xs.length:Nat) z)/\os'.length=w+xs.length+1/\A_ os'/\Ab os'=4294967296^w*(2^s*Ab xs):=by
 intro r;induction r with
 | zero =>
  intro i os hi hl hu hv _ _;have:i=xs.length:=by omega
  subst this;exact⟨os,Ah (Axu na xs _ _ _ os _ _ z (by simp)),hl,hu,by rw[hv,DP]⟩
 | succ r ih =>
  intro i os hi hl hu hv hc hz;have ei:I O ((i:Int)+1)=((i+1:Nat):Int):=by rw[Bg (by omega) (by omega)];omega
  have ew:I O ((i:Int)+(w:Int))=((i+w:Nat):Int):=by rw[Bg (by omega) (by omega)];omega
  have ew1:I O (((i+w:Nat):Int)+1)=((i+w+1:Nat):Int):=by rw[Bg (by omega) (by omega)];omega
  have hxi:=AL hx i;have hoi:=AL hu (i+w);obtain⟨p0,p1,p2,q,q0,q1⟩:=YI hxi hs;have es:(2:Int)^(min (D (s:Int)) (An .u64))=2^s:=by
   rw[R];congr 1;show min s 64=s;omega
  have hk:=Axt na xs (w:Nat) (s:Nat) (w+xs.length+1) os (xs.length:Nat) (i:Nat) z (by simp;omega) (by omega) (by omega) (by rw[ew];omega) hl (by rw[ew,ew1];omega) (by simpa using hl);rw[ei,ew,ew1,es,R,R,R,CP (n:=xs.getD i 0) (by omega),CP ⟨p0,p1⟩,cN,Es (xs.getD i 0*2^s),q1] at hk;have hqs:q*2^s<4294967296:=by rw[<- q1];omega
  rw[Awm q0 hqs (by omega) ⟨hoi.1,hc⟩] at hk;have hhi:0<=xs.getD i 0*2^s / 4294967296:=by omega
  have hp2:(2:Int)^s<=4294967296:=by have:=Ho (show s<=32 by omega);rwa [show (2:Int)^32=4294967296 by decide] at this
  rw[Un ⟨hhi,by omega⟩] at hk;have hsum:0<=q*2^s+os.getD (i+w) 0/\q*2^s+os.getD (i+w) 0<4294967296:=by
   have hq2:0<=q*2^s:=by rw[<- q1];omega
   refine⟨by omega,?_⟩;have e:=Uo (show s<=32 by omega);rw[e] at hqs |-;have hp:=BX s;have:=Dd hqs (by omega);have:=Ac (show q+1<=2^(32-s) by omega) (show (0:Int)<=2^s by omega);rw[Gw,Dt] at this;omega
  obtain⟨os',g1,g2,g3,g4⟩:=ih (i+1) ((os.set (i+w) (q*2^s+os.getD (i+w) 0)).set (i+w+1) (xs.getD i 0*2^s / 4294967296)) (by omega) (by simpa using hl) (CF (CF hu hsum) ⟨hhi,by omega⟩) (by
    rw[Ej _ _ _ (by simp;omega),Ej _ _ _ (by omega),CA (by omega),hz (i+w+1) (by omega),hv,Et xs i (by omega),A7,BB];have e3:xs.getD i 0*2^s=4294967296*(xs.getD i 0*2^s / 4294967296)+q*2^s:=by omega
    generalize (4294967296:Int)^i=P at *
    generalize (4294967296:Int)^w=V at *
    generalize xs.getD i 0*2^s / 4294967296=H at *
    generalize os.getD (i+w) 0=o at *
    generalize q*2^s=Q at *
    have e4:(2:Int)^s*(Ab (xs.take i)+P*xs.getD i 0)=2^s*Ab (xs.take i)+P*(xs.getD i 0*2^s):=by grind
    rw[e4,e3];grind) (by
    rw[show i+1+w=i+w+1 by omega,show ((os.set (i+w) (q*2^s+os.getD (i+w) 0)).set (i+w+1) (xs.getD i 0*2^s / 4294967296)).getD (i+w+1) 0=xs.getD i 0*2^s / 4294967296 by simp[Z,show i+w+1<os.length by omega]];exact p2) (fun t ht=>by rw[CA (by omega),CA (by omega)];exact hz t (by omega))
  exact⟨os',CE.loop hk g1,g2,g3,g4⟩
theorem cU{neg:Bool}{xs:LI}(hu:A_ xs)(n:Nat)(hn:n<=9223372036854775807)(hN:n / 32+xs.length+1<=1048576):RQ 104 [o [B neg,sL lm xs],F O (n:Nat)] (Ag (rv neg xs*2^n)):=by
 have l1:=Fg (neg:=neg) hu;have r1:=DT (neg:=neg) hu (by omega);generalize rv neg xs=a at *
 by_cases h0:(M a.natAbs).length=0
 ·have h:=wQ neg _ xs (M a.natAbs) (n:Nat) (by rw[h0];rfl) r1;have ha:a=0:=by have:=(D4 a.natAbs).1 h0;omega
  rw[ha,BU];exact h
 ·have e1:I O (Ax (n:Int) 32)=((n / 32:Nat):Int):=by
   rw[BK (by omega),Bg (by omega) (by omega)];omega
  have e2:I U (AB (n:Int) 32)=((n % 32:Nat):Int):=by
   rw[B1 (by omega),CP (by omega)];omega
  have e3:I O ((((M a.natAbs).length:Nat):Int)+((n / 32:Nat):Int))=((n / 32+(M a.natAbs).length:Nat):Int):=by rw[Bg (by omega) (by omega)];omega
  have e4:I O (((n / 32+(M a.natAbs).length:Nat):Int)+1)=((n / 32+(M a.natAbs).length+1:Nat):Int):=by rw[Bg (by omega) (by omega)];omega
  have hs:n % 32<32:=GO _ (by decide);obtain⟨os,g1,g2,g3,g4⟩:=Agx (na:=decide (a<0)) (xs:=M a.natAbs) (z:=z0) (w:=n / 32) (BV a.natAbs) hs (by omega) (M a.natAbs).length 0 (l (n / 32+(M a.natAbs).length+1) 0) (by omega) (by simp) (Fr _) (by rw[Fe];simp[Ab]) (by rw[DQ];exact BX _) (fun t _=>DQ _ _);have hm:=Fh (neg:=decide (a<0)) g3 (by omega);have hv:rv (A (a<0)) os=a*2^n:=by
   rw[cI (xs:=M a.natAbs) (t:=2^n) (by rw[g4,Jb n];grind),FB]
  rw[hv] at hm;unfold sL at hm;rw[g2] at hm;exact wR neg _ xs (M a.natAbs) os (n:Nat) _ _ _ _ _ _ _ (by rw[beq_eq_false_iff_ne];omega) r1 (by rw[e1,e3,e4];omega) (by rw[e1,e2,e3,e4,R,FE];exact g1) hm
theorem Axv{K X:Nat}{ts:List Rn}{r:Rn}(ht:∀ t∈ts,AU K t)(hr:AU X r)(e:Nat)(hS:K+2+(ts.length+1)*(X+(e / 32+1)+1)<=1048576)(he:e<=1073741824) :
  ∀ n (w:Rn),n<=ts.length->L w=hv ((N ts).drop n) (L r) (2^e)->AU (K+1+(ts.length-n)*(X+(e / 32+1)+1)) w -> 
  ∃ w' s',L w'=hv (N ts) (L r) (2^e)/\AU (K+1+ts.length*(X+(e / 32+1)+1)) w'/\Ap (.loop lE) (W6 ts r (e:Nat) w ((n:Int)-1) ((e*(ts.length-n):Nat):Int)) (.exit 0) (W6 ts r (e:Nat) w' (-1) s'):=by
 have hle:ts.length<=1048576:=by
  have:ts.length*1<=(ts.length+1)*(X+(e / 32+1)+1):=BG (by omega) (by omega);omega
 intro n;induction n with
 | zero =>
  intro w _ hw gw;exact⟨w,_,by simpa using hw,gw,Ah (A5m ts r (e:Nat) w (((0:Nat):Int)-1) _ (by simp))⟩
 | succ n ih =>
  intro w hn hw gw;obtain⟨t1,t2⟩:=Bo ht n;have e0:((n+1:Nat):Int)-1=(n:Int):=by omega
  have hK1:(ts.length-(n+1))*(X+(e / 32+1)+1)+(X+(e / 32+1)+1)=(ts.length-n)*(X+(e / 32+1)+1):=by
   rw[show ts.length-n=ts.length-(n+1)+1 by omega,DE,FL]
  have hK2:(ts.length-n)*(X+(e / 32+1)+1)<=(ts.length+1)*(X+(e / 32+1)+1):=AJ _ (by omega);have hsh:e*(ts.length-(n+1)) / 32<=(ts.length-(n+1))*(X+(e / 32+1)+1):=by
   have h3:e<=32*(e / 32+1):=by omega
   have h4:e*(ts.length-(n+1))<=32*((ts.length-(n+1))*(e / 32+1)):=by
    calc e*(ts.length-(n+1))<=(32*(e / 32+1))*(ts.length-(n+1)):=AJ _ h3
     _=32*((ts.length-(n+1))*(e / 32+1)):=by rw[Fm,CY (e / 32+1)]
   have h5:(ts.length-(n+1))*(e / 32+1)<=(ts.length-(n+1))*(X+(e / 32+1)+1):=z _ (by omega);omega
  have hb1:e*(ts.length-(n+1))<=1073741824*1048576:=BG he (by omega);have hb2:e*(ts.length-n)<=1073741824*1048576:=BG he (by omega);have w1:I O (((e*(ts.length-(n+1)):Nat):Int)+(e:Int))=((e*(ts.length-n):Nat):Int):=by
   have:e*(ts.length-n)=e*(ts.length-(n+1))+e:=by rw[show ts.length-n=ts.length-(n+1)+1 by omega,Sh]
   rw[Bg (by omega) (by omega)];omega
  have w2:I O ((n:Int)-1)=(n:Int)-1:=Bg (by omega) (by omega);have hst:hv ((N ts).drop n) (L r) (2^e)=L w*L r+L (ts.getD n z0)*2^(e*(ts.length-(n+1))):=by
   have h1:(N ts).drop n=(N ts).getD n 0::(N ts).drop (n+1):=by
    rw[B2 (by rw[AW];omega)];congr 1;rw[Z,Ad (by rw[AW];omega)];rfl
   rw[h1,hv,CU,CV,AW,<- hw,<- rX];generalize L (ts.getD n z0)*2^(e*(ts.length-(n+1)))=A;grind
  have fw:=gw.fits;have fp:=(fw.mul hr.fits);have ft:Bv (K+(e*(ts.length-(n+1)) / 32+1)) (L (ts.getD n z0)*2^(e*(ts.length-(n+1)))):=(Bo ht n).fits.mul (Tu _);have hgood:AU (K+1+(ts.length-n)*(X+(e / 32+1)+1)) (cn (L w*L r+L (ts.getD n z0)*2^(e*(ts.length-(n+1))))):=by
   refine (B4 ((fp.mono (k:=K+1+(ts.length-(n+1))*(X+(e / 32+1)+1)+X+(e / 32+1)) (by omega)).add (ft.mono (by omega)))).mono (by omega)
  obtain⟨w',s',q1,q2,q3⟩:=ih (cn (L w*L r+L (ts.getD n z0)*2^(e*(ts.length-(n+1))))) (by omega) (by rw[A6,hst]) hgood;refine⟨w',s',q1,q2,?_⟩;rw[e0];have l1:=fp.len;have l2:=ft.len;obtain⟨gw1,gw2⟩:=gw;have k:=A5l ts r (e:Nat) w (n:Nat) ((e*(ts.length-(n+1)):Nat):Int) (L (ts.getD n z0)*2^(e*(ts.length-(n+1)))) (by simp) (by omega)
   (Vx gw1 hr.1 (by have:=hr.2;omega))
   (by rw[R];exact cU t1 _ (by omega) (by omega))
   (by
    have:=cL (na:=decide (L w*L r<0)) (nb:=decide (L (ts.getD n z0)*2^(e*(ts.length-(n+1)))<0)) (BV (L w*L r).natAbs) (BV (L (ts.getD n z0)*2^(e*(ts.length-(n+1)))).natAbs) (by omega) (by omega);rw[FB,FB] at this;exact this)
  rw[w1,w2] at k;exact CE.loop k q3
theorem Us{K X:Nat}{rs:List Rn}{r:Rn}(ht:∀ t∈rs,AU K t)(hr:AU X r)(e:Nat)(hS:K+2+(rs.length+1)*(X+(e / 32+1)+1)<=1048576)(he:e<=1073741824) :
  RQ 65 [sL pc rs,o [B r.1,H r.2.length (lm r.2),F O (e:Nat)]] (F O (BQ (hv (N rs) (L r) (2^e)))):=by
 have hle:rs.length<=1048576:=by
  have:rs.length*1<=(rs.length+1)*(X+(e / 32+1)+1):=BG (by omega) (by omega);omega
 obtain⟨w',s',q1,q2,q3⟩:=Axv ht hr e hS he rs.length z0 (Ao _) (by rw[<- AW,Ev];rfl) (QM _);rw[Wh,jN] at q3;have hK2:rs.length*(X+(e / 32+1)+1)<=(rs.length+1)*(X+(e / 32+1)+1):=AJ _ (by omega);have hs:=Ka (neg:=w'.1) q2.1 (by have:=q2.2;omega);rw[show rv w'.1 w'.2=L w' from rfl,q1] at hs;have e1:I O ((rs.length:Int)-1)=(rs.length:Int)-1:=Bg (by omega) (by omega);exact A5n rs r w' (e:Nat) (-1) s' _ (by rw[e1];exact q3) hs
def TSB:C8:=TSA
theorem M5:Co DK TSB:=wS
def Yp:ICode:=c AAd 91 504
def S9(as1:List Rn)(k:Nat)(cs:List AV)(bs:List Rn):Aj:=(W 3 (C (sL pc as1)::(X 1 k cs::(C (sL pc bs)::(W 23 [])))))
theorem A5o(as1:List Rn)(k:Nat)(cs:List AV)(bs:List Rn)(us vs:List Rn)(c1:A ((bs.length:Int)>0)=true)(n1:k+1<=1048576)(n2:RQ 118 [sL pc as1,sL pc bs] (P 2 us.length (pc us)))(n3:RQ 117 [sL pc us] (P 2 vs.length (pc vs))):Ap Yp (S9 as1 k cs bs) .norm (S9 bs (k+1) (cs++([sL pc bs]:List AV)) vs):=(J a [bT,.r (P 2 us.length (pc us)),.r (P 2 vs.length (pc vs))] [3,4,5] (JL c1 (show Bl ([sL pc bs]:List AV)=1*1 from rfl) n1 n2 n3))
theorem Acd(as1:List Rn)(k:Nat)(cs:List AV)(bs:List Rn)(c1:A ((bs.length:Int)>0)=false):Ap Yp (S9 as1 k cs bs) (.exit 0) (S9 as1 k cs bs):=(J a [bF] [3,4,5] (Jx c1))
theorem nI(rs fs:List Rn)(c1:((fs.length:Int)==0)=true)(n1:RQ 114 [sL pc rs] (P 2 fs.length (pc fs))):RQ 67 [sL pc rs] (P 1 0 []):=OO AAd (W 2 (X 1 0 []::(W 26 []))) (CE.asc (CE.asc (CE.asc (CE.asc (A4 (J a [.r (P 2 fs.length (pc fs)),bT] [2] (J0 n1 c1)))))))
theorem nJ(rs fs ds ps as1 bs:List Rn)(ls:List (List Rn))(c1:((fs.length:Int)==0)=false)(n1:RQ 114 [sL pc rs] (P 2 fs.length (pc fs)))(n2:RQ 116 [sL pc fs] (P 2 ds.length (pc ds)))(n3:RQ 115 [sL pc ds] (P 2 ps.length (pc ps)))(hl4:Ap (.loop Yp) (S9 fs 1 ([sL pc fs]:List AV) ps) (.exit 0) (S9 as1 ls.length (pp ls) bs)):RQ 67 [sL pc rs] (P 1 ls.length (pp ls)):=OO AAd (W 2 (X 1 ls.length (pp ls)::(W 26 []))) (CE.asc (CE.asc (CE.asc (CE.asc (CE.seq (J a [.r (P 2 fs.length (pc fs)),bF,.r (P 2 ds.length (pc ds)),.r (P 2 ps.length (pc ps))] [3,4,5] (JS n1 c1 n2 n3)) (CE.seq (CE.block hl4) (J a [] [2] a0)))))))
theorem nN(rs fs:List Rn)(c1:((fs.length:Int)==0)=true)(n1:RQ 114 [sL pc rs] (sL pc fs)):RQ 67 [sL pc rs] (P 1 0 []):=OO AAd (W 2 (X 1 0 []::(W 26 []))) (CE.asc (CE.asc (CE.asc (CE.asc (A4 (J a [.r (sL pc fs),bT] [2] (J0 n1 c1)))))))
theorem nO(rs fs ds ps as1 bs:List Rn)(ls:List (List Rn))(c1:((fs.length:Int)==0)=false)(n1:RQ 114 [sL pc rs] (sL pc fs))(n2:RQ 116 [sL pc fs] (P 2 ds.length (pc ds)))(n3:RQ 115 [sL pc ds] (P 2 ps.length (pc ps)))(hl4:Ap (.loop Yp) (S9 fs 1 ([sL pc fs]:List AV) ps) (.exit 0) (S9 as1 ls.length (pp ls) bs)):RQ 67 [sL pc rs] (P 1 ls.length (pp ls)):=OO AAd (W 2 (X 1 ls.length (pp ls)::(W 26 []))) (CE.asc (CE.asc (CE.asc (CE.asc (CE.seq (J a [.r (sL pc fs),bF,.r (P 2 ds.length (pc ds)),.r (P 2 ps.length (pc ps))] [3,4,5] (JS n1 c1 n2 n3)) (CE.seq (CE.block hl4) (J a [] [2] a0)))))))
def Wk:ICode:=c AAe 93 116
def Nn(ls:List (List Rn))(r:Rn)(e:Int)(n:Int)(last:Int)(m:Int)(i:Int):Aj:=(W 3 (Ay [B r.1,H r.2.length (lm r.2),F O e]::(W 1 (C (F O n)::(C (F O last)::(W 3 (C (sL pp ls)::(C (F O m)::(C (F O i)::(W 24 []))))))))))
theorem A5p(ls:List (List Rn))(r:Rn)(e:Int)(n:Int)(last:Int)(m:Int)(i:Int)(s:Int)(c1:A (i<m)=true)(c2:(s != 0)=true)(c3:(last != 0)=true)(c4:(s != last)=true)(n1:0<=i/\i<(ls.length:Int))(n2:RQ 65 [H ((ls.getD (D i) []).length) (pc (ls.getD (D i) [])),o [B r.1,H r.2.length (lm r.2),F O e]] (F O s)):Ap Wk (Nn ls r e n last m i) .norm (Nn ls r e (I O (n+1)) s m (I O (i+1))):=(J a [bT,.v (H ((ls.getD (D i) []).length) (pc (ls.getD (D i) []))),.r (F O s),bT,bT,bT,bT] Wm (ND c1 n1 (Cq n1) n2 c2 c3 c4 c2))
theorem A5q(ls:List (List Rn))(r:Rn)(e:Int)(n:Int)(last:Int)(m:Int)(i:Int)(s:Int)(c1:A (i<m)=true)(c2:(s != 0)=true)(c3:(last != 0)=true)(c4:(s != last)=false)(n1:0<=i/\i<(ls.length:Int))(n2:RQ 65 [H ((ls.getD (D i) []).length) (pc (ls.getD (D i) [])),o [B r.1,H r.2.length (lm r.2),F O e]] (F O s)):Ap Wk (Nn ls r e n last m i) .norm (Nn ls r e n s m (I O (i+1))):=(J a [bT,.v (H ((ls.getD (D i) []).length) (pc (ls.getD (D i) []))),.r (F O s),bT,bT,bF,bT] Wm (ND c1 n1 (Cq n1) n2 c2 c3 c4 c2))
theorem A5r(ls:List (List Rn))(r:Rn)(e:Int)(n:Int)(last:Int)(m:Int)(i:Int)(s:Int)(c1:A (i<m)=true)(c2:(s != 0)=true)(c3:(last != 0)=false)(n1:0<=i/\i<(ls.length:Int))(n2:RQ 65 [H ((ls.getD (D i) []).length) (pc (ls.getD (D i) [])),o [B r.1,H r.2.length (lm r.2),F O e]] (F O s)):Ap Wk (Nn ls r e n last m i) .norm (Nn ls r e n s m (I O (i+1))):=(J a [bT,.v (H ((ls.getD (D i) []).length) (pc (ls.getD (D i) []))),.r (F O s),bT,bF,bF,bT] Wm (ND c1 n1 (Cq n1) n2 c2 c3 Fc c2))
theorem A5s(ls:List (List Rn))(r:Rn)(e:Int)(n:Int)(last:Int)(m:Int)(i:Int)(s:Int)(c1:A (i<m)=true)(c2:(s != 0)=false)(n1:0<=i/\i<(ls.length:Int))(n2:RQ 65 [H ((ls.getD (D i) []).length) (pc (ls.getD (D i) [])),o [B r.1,H r.2.length (lm r.2),F O e]] (F O s)):Ap Wk (Nn ls r e n last m i) .norm (Nn ls r e n last m (I O (i+1))):=(J a [bT,.v (H ((ls.getD (D i) []).length) (pc (ls.getD (D i) []))),.r (F O s),bF,bF,bF,bF] Wm (ND c1 n1 (Cq n1) n2 c2 Fc Fc c2))
theorem A5t(ls:List (List Rn))(r:Rn)(e:Int)(n:Int)(last:Int)(m:Int)(i:Int)(c1:A (i<m)=false):Ap Wk (Nn ls r e n last m i) (.exit 0) (Nn ls r e n last m i):=(J a [bF] Wm (Jx c1))
theorem A5u(ls:List (List Rn))(r:Rn)(e n last i:Int)(hl1:Ap (.loop Wk) (Nn ls r e 0 0 (ls.length:Int) 0) (.exit 0) (Nn ls r e n last (ls.length:Int) i)):RQ 68 [sL pp ls,o [B r.1,H r.2.length (lm r.2),F O e]] (F O n):=OO AAe (W 4 (C (F O n)::(W 32 []))) (CE.asc (Av (CE.seq (J a [] Wm a0) (CE.seq (CE.block hl1) (J a [] [4] a0)))))
def Ya:ICode:=c App 91 504
def QX(k:Nat)(cs:List AV)(bs:List Rn):Aj:=(W 4 (X 1 k cs::(C (sL pc bs)::(W 27 []))))
theorem Axw(k:Nat)(cs:List AV)(bs:List Rn)(ws us vs:List Rn)(c1:A ((bs.length:Int)>0)=true)(n1:k+1<=1048576)(n2:0<=(I O ((((k+1):Nat):Int)-2))/\(I O ((((k+1):Nat):Int)-2))<(((k+1):Nat):Int))(n3:Bj (cs++([sL pc bs]:List AV)) (D (I O ((((k+1):Nat):Int)-2))*1) 1 true=some (sL pc ws))(n4:RQ 119 [sL pc ws,sL pc bs] (sL pc us))(n5:RQ 153 [sL pc us] (P 2 vs.length (pc vs))):Ap Ya (QX k cs bs) .norm (QX (k+1) (cs++([sL pc bs]:List AV)) vs):=(J a [bT,.v (sL pc ws),.r (sL pc us),.r (P 2 vs.length (pc vs))] [4,5] (Lm c1 (show Bl ([sL pc bs]:List AV)=1*1 from rfl) n1 n2 n3 n4 n5))
theorem nP(k:Nat)(cs:List AV)(bs:List Rn)(c1:A ((bs.length:Int)>0)=false):Ap Ya (QX k cs bs) (.exit 0) (QX k cs bs):=(J a [bF] [4,5] (Jx c1))
theorem wT(rs fs:List Rn)(c1:((fs.length:Int)==0)=true)(n1:RQ 73 [sL pc rs] (sL pc fs)):RQ 108 [sL pc rs] (P 1 0 []):=OO App (W 2 (X 1 0 []::(W 30 []))) (CE.asc (CE.asc (CE.asc (CE.asc (A4 (J a [.r (sL pc fs),bT] [2] (J0 n1 c1)))))))
theorem wU(rs fs ds ps bs:List Rn)(ls:List (List Rn))(c1:((fs.length:Int)==0)=false)(n1:RQ 73 [sL pc rs] (sL pc fs))(n2:RQ 122 [sL pc fs] (P 2 ds.length (pc ds)))(n3:RQ 86 [sL pc ds] (P 2 ps.length (pc ps)))(hl4:Ap (.loop Ya) (QX 1 ([sL pc fs]:List AV) ps) (.exit 0) (QX ls.length (pp ls) bs)):RQ 108 [sL pc rs] (P 1 ls.length (pp ls)):=OO App (W 2 (X 1 ls.length (pp ls)::(W 30 []))) (CE.asc (CE.asc (CE.asc (CE.asc (CE.seq (J a [.r (sL pc fs),bF,.r (P 2 ds.length (pc ds)),.r (P 2 ps.length (pc ps))] [4,5] (JS n1 c1 n2 n3)) (CE.seq (CE.block hl4) (J a [] [2] a0)))))))
def Q5:ICode:=c Apq 93 116
def J6(ls:List (List Rn))(r:Rn)(e:Int)(n:Int)(last:Int)(i:Int):Aj:=(C (sL pp ls)::(W 2 (Ay [B r.1,H r.2.length (lm r.2),F O e]::(W 1 (C (F O n)::(C (F O last)::(C (F O i)::(W 34 []))))))))
theorem Axx(ls:List (List Rn))(r:Rn)(e:Int)(n:Int)(last:Int)(i:Int)(w s:Int)(c1:A (i<(ls.length:Int))=true)(c2:(s != 0)=true)(c3:(last != 0)=true)(c4:(s != last)=true)(n1:0<=i/\i<(ls.length:Int))(n2:RQ 80 [H ((ls.getD (D i) []).length) (pc (ls.getD (D i) [])),Az r,F O e] (Ag w))(n3:RQ 79 [Ag w] (F O s)):Ap Q5 (J6 ls r e n last i) .norm (J6 ls r e (I O (n+1)) s (I O (i+1))):=(J a [bT,.v (H ((ls.getD (D i) []).length) (pc (ls.getD (D i) []))),.r (Ag w),.r (F O s),bT,bT,bT,bT] St (Qx c1 n1 (Cq n1) n2 n3 c2 c3 c4 c2))
theorem Axy(ls:List (List Rn))(r:Rn)(e:Int)(n:Int)(last:Int)(i:Int)(w s:Int)(c1:A (i<(ls.length:Int))=true)(c2:(s != 0)=true)(c3:(last != 0)=true)(c4:(s != last)=false)(n1:0<=i/\i<(ls.length:Int))(n2:RQ 80 [H ((ls.getD (D i) []).length) (pc (ls.getD (D i) [])),Az r,F O e] (Ag w))(n3:RQ 79 [Ag w] (F O s)):Ap Q5 (J6 ls r e n last i) .norm (J6 ls r e n s (I O (i+1))):=(J a [bT,.v (H ((ls.getD (D i) []).length) (pc (ls.getD (D i) []))),.r (Ag w),.r (F O s),bT,bT,bF,bT] St (Qx c1 n1 (Cq n1) n2 n3 c2 c3 c4 c2))
theorem Axz(ls:List (List Rn))(r:Rn)(e:Int)(n:Int)(last:Int)(i:Int)(w s:Int)(c1:A (i<(ls.length:Int))=true)(c2:(s != 0)=true)(c3:(last != 0)=false)(n1:0<=i/\i<(ls.length:Int))(n2:RQ 80 [H ((ls.getD (D i) []).length) (pc (ls.getD (D i) [])),Az r,F O e] (Ag w))(n3:RQ 79 [Ag w] (F O s)):Ap Q5 (J6 ls r e n last i) .norm (J6 ls r e n s (I O (i+1))):=(J a [bT,.v (H ((ls.getD (D i) []).length) (pc (ls.getD (D i) []))),.r (Ag w),.r (F O s),bT,bF,bF,bT] St (Qx c1 n1 (Cq n1) n2 n3 c2 c3 Fc c2))
theorem Aya(ls:List (List Rn))(r:Rn)(e:Int)(n:Int)(last:Int)(i:Int)(w s:Int)(c1:A (i<(ls.length:Int))=true)(c2:(s != 0)=false)(n1:0<=i/\i<(ls.length:Int))(n2:RQ 80 [H ((ls.getD (D i) []).length) (pc (ls.getD (D i) [])),Az r,F O e] (Ag w))(n3:RQ 79 [Ag w] (F O s)):Ap Q5 (J6 ls r e n last i) .norm (J6 ls r e n last (I O (i+1))):=(J a [bT,.v (H ((ls.getD (D i) []).length) (pc (ls.getD (D i) []))),.r (Ag w),.r (F O s),bF,bF,bF,bF] St (Qx c1 n1 (Cq n1) n2 n3 c2 Fc Fc c2))
theorem Ayb(ls:List (List Rn))(r:Rn)(e:Int)(n:Int)(last:Int)(i:Int)(c1:A (i<(ls.length:Int))=false):Ap Q5 (J6 ls r e n last i) (.exit 0) (J6 ls r e n last i):=(J a [bF] St (Jx c1))
theorem Ayc(ls:List (List Rn))(r:Rn)(e n last i:Int)(hl1:Ap (.loop Q5) (J6 ls r e 0 0 0) (.exit 0) (J6 ls r e n last i)):RQ 110 [sL pp ls,o [B r.1,H r.2.length (lm r.2),F O e]] (F O n):=OO Apq (W 4 (C (F O n)::(W 37 []))) (CE.asc (Av (CE.seq (J a [] St a0) (CE.seq (CE.block hl1) (J a [] [4] a0)))))
def TZA:C8:=TDD
theorem wV:Co DK TZA:=a
theorem Ayd(na nb:Bool)(xs ys qs rs:LI)(v w:Int)(n1:RQ 99 [sL lm xs] (P 1 ((Y xs).length) (lm (Y xs))))(n2:RQ 99 [sL lm ys] (P 1 ((Y ys).length) (lm (Y ys))))(n3:RQ 165 [H ((Y xs).length) (lm (Y xs)),H ((Y ys).length) (lm (Y ys))] (Ar [sL lm qs,sL lm rs]))(n4:RQ 98 [B (!(na==nb)),sL lm qs] (CR v))(n5:RQ 98 [B na,sL lm rs] (CR w)):RQ 138 [o [B na,sL lm xs],o [B nb,sL lm ys]] (Ar [Ag v,Ag w]):=i (fn:=iF Mv Arj) a rfl 400 rfl [.r (P 1 ((Y xs).length) (lm (Y xs))),.r (P 1 ((Y ys).length) (lm (Y ys))),.r (Ar [sL lm qs,sL lm rs]),.r (CR v),.r (CR w)] (JL n1 n2 n3 n4 n5)
def T_:ICode:=c Ast 94 56
def No(x:Rn)(y:Rn):Aj:=(W 4 (Ay [B false,H 0 []]::(Ay [B x.1,H x.2.length (lm x.2)]::(Ay [B y.1,H y.2.length (lm y.2)]::(W 20 [])))))
theorem Agy(x:Rn)(y:Rn)(q r:Int)(c1:((BQ (L y)) != 0)=true)(n1:RQ 79 [Az y] (F O (BQ (L y))))(n2:RQ 138 [Az x,Az y] (Ar [Ag q,Ag r])):Ap T_ (No x y) .norm (No y (cn r)):=(J a [.r (F O (BQ (L y))),bT,.r (Ar [Ag q,Ag r])] NC (JV n1 c1 n2))
theorem cV(x:Rn)(y:Rn)(c1:((BQ (L y)) != 0)=false)(n1:RQ 79 [Az y] (F O (BQ (L y)))):Ap T_ (No x y) (.exit 0) (No x y):=(J a [.r (F O (BQ (L y))),bF] NC (J0 n1 c1))
theorem Aye(na nb:Bool)(xs ys:LI)(va vb:Int)(x y:Rn)(n1:RQ 98 [B false,sL lm xs] (CR va))(n2:RQ 98 [B false,sL lm ys] (CR vb))(hl3:Ap (.loop T_) (No (cn va) (cn vb)) (.exit 0) (No x y)):RQ 164 [o [B na,sL lm xs],o [B nb,sL lm ys]] (Az x):=OO Ast (W 4 (Ay [B x.1,H x.2.length (lm x.2)]::(W 22 []))) (CE.asc (CE.seq (J a [.r (CR va),.r (CR vb)] NC (J0 n1 n2)) (CE.seq (CE.block hl3) (J a [] [4] a0))))
def Yi:ICode:=c Arh 93 116
def QY(rs:List Rn)(w:Rn)(i:Int):Aj:=(C (sL pc rs)::(W 1 (Ay [B false,H 0 []]::(Ay [B w.1,H w.2.length (lm w.2)]::(C (F O i)::(W 14 []))))))
theorem Ayf(rs:List Rn)(w:Rn)(i:Int)(g:Int)(c1:A (i<(rs.length:Int))=true)(n1:0<=i/\i<(rs.length:Int))(n2:RQ 164 [Az w,Az (rs.getD (D i) z0)] (Ag g)):Ap Yi (QY rs w i) .norm (QY rs (cn g) (I O (i+1))):=(J a [bT,.v (Az (rs.getD (D i) z0)),.r (Ag g)] KK (JS c1 n1 (BP n1) n2))
theorem Ayg(rs:List Rn)(w:Rn)(i:Int)(c1:A (i<(rs.length:Int))=false):Ap Yi (QY rs w i) (.exit 0) (QY rs w i):=(J a [bF] KK (Jx c1))
theorem Ayh(rs:List Rn)(w:Rn)(i:Int)(hl1:Ap (.loop Yi) (QY rs (false,[]) 0) (.exit 0) (QY rs w i)):RQ 137 [sL pc rs] (Az w):=OO Arh (W 2 (Ay [B w.1,H w.2.length (lm w.2)]::(W 16 []))) (CE.asc (Av (CE.seq (J a [] KK a0) (CE.seq (CE.block hl1) (J a [] [2] a0)))))
def lN:ICode:=c AAz 91 500
def W7(rs:List Rn)(c:Rn)(k:Nat)(cs:List AV)(i:Int):Aj:=(C (sL pc rs)::(W 1 (X 2 0 []::(Ay [B c.1,H c.2.length (lm c.2)]::(X 2 k cs::(C (F O i)::(W 28 [])))))))
theorem A5v(rs:List Rn)(c:Rn)(k:Nat)(cs:List AV)(i:Int)(q r:Int)(c1:A (i<(rs.length:Int))=true)(n1:0<=i/\i<(rs.length:Int))(n2:k+1<=1048576)(n3:RQ 138 [Az (rs.getD (D i) z0),Az c] (Ar [Ag q,Ag r])):Ap lN (W7 rs c k cs i) .norm (W7 rs c (k+1) (cs++([B (A (q<0)),H ((M (E q)).length) (lm (M (E q)))]:List AV)) (I O (i+1))):=(J a [bT,.v (Az (rs.getD (D i) z0)),.r (Ar [Ag q,Ag r])] Ll (JT c1 n1 (BP n1) n3 (show Bl ([B (A (q<0)),H ((M (E q)).length) (lm (M (E q)))]:List AV)=1*2 from rfl) n2))
theorem A5w(rs:List Rn)(c:Rn)(k:Nat)(cs:List AV)(i:Int)(c1:A (i<(rs.length:Int))=false):Ap lN (W7 rs c k cs i) (.exit 0) (W7 rs c k cs i):=(J a [bF] Ll (Jx c1))
theorem Agz(rs:List Rn)(c:Int)(c1:((BQ c)==0)=true)(n1:RQ 137 [sL pc rs] (Ag c))(n2:RQ 79 [Ag c] (F O (BQ c))):RQ 86 [sL pc rs] (P 2 0 []):=OO AAz (W 2 (X 2 0 []::(W 31 []))) (CE.asc (CE.asc (CE.asc (Av (A4 (J a [.r (Ag c),.r (F O (BQ c)),bT] [2] (JV n1 n2 c1)))))))
theorem Aha(rs os ts:List Rn)(c i:Int)(k:Nat)(c1:((BQ c)==0)=false)(n1:RQ 137 [sL pc rs] (Ag c))(n2:RQ 79 [Ag c] (F O (BQ c)))(hl3:Ap (.loop lN) (W7 rs (cn c) 0 ([]:List AV) 0) (.exit 0) (W7 rs (cn c) k (pc os) i))(n4:RQ 46 [H k (pc os)] (P 2 ts.length (pc ts))):RQ 86 [sL pc rs] (P 2 ts.length (pc ts)):=OO AAz (W 2 (X 2 ts.length (pc ts)::(W 31 []))) (CE.asc (CE.asc (CE.asc (Av (CE.seq (J a [.r (Ag c),.r (F O (BQ c)),bF] Ll (JV n1 n2 c1)) (CE.seq (CE.block hl3) (J a [.r (P 2 ts.length (pc ts))] [2] (Jx n4))))))))
def Ye:ICode:=c Aqk 93 116
def QZ(rs:List Rn)(k:Nat)(cs:List AV)(i:Int):Aj:=(C (sL pc rs)::(W 1 (X 2 0 []::(X 2 k cs::(C (F O i)::(W 18 []))))))
theorem Ayi(rs:List Rn)(k:Nat)(cs:List AV)(i:Int)(c1:A (i<(rs.length:Int))=true)(n1:0<=i/\i<(rs.length:Int))(n2:k+1<=1048576)(n3:RQ 49 [F O i] (Ag i))(n4:RQ 96 [Ag i,Az (rs.getD (D i) z0)] (Ag (i*(L (rs.getD (D i) z0))))):Ap Ye (QZ rs k cs i) .norm (QZ rs (k+1) (cs++([B (A ((i*(L (rs.getD (D i) z0)))<0)),H ((M (E (i*(L (rs.getD (D i) z0))))).length) (lm (M (E (i*(L (rs.getD (D i) z0))))))]:List AV)) (I O (i+1))):=(J a [bT,.r (Ag i),.v (Az (rs.getD (D i) z0)),.r (Ag (i*(L (rs.getD (D i) z0))))] KK (Lm c1 n3 n1 (BP n1) n4 (show Bl ([B (A ((i*(L (rs.getD (D i) z0)))<0)),H ((M (E (i*(L (rs.getD (D i) z0))))).length) (lm (M (E (i*(L (rs.getD (D i) z0))))))]:List AV)=1*2 from rfl) n2))
theorem Ayj(rs:List Rn)(k:Nat)(cs:List AV)(i:Int)(c1:A (i<(rs.length:Int))=false):Ap Ye (QZ rs k cs i) (.exit 0) (QZ rs k cs i):=(J a [bF] KK (Jx c1))
theorem Ayk(rs os ts:List Rn)(i:Int)(k:Nat)(hl1:Ap (.loop Ye) (QZ rs 0 ([]:List AV) 1) (.exit 0) (QZ rs k (pc os) i))(n2:RQ 46 [H k (pc os)] (P 2 ts.length (pc ts))):RQ 122 [sL pc rs] (P 2 ts.length (pc ts)):=OO Aqk (W 2 (X 2 ts.length (pc ts)::(W 20 []))) (CE.asc (Av (CE.seq (J a [] KK a0) (CE.seq (CE.block hl1) (J a [.r (P 2 ts.length (pc ts))] [2] (Jx n2))))))
def Yl:ICode:=c Arz 93 116
def Q'(rs:List Rn)(k:Nat)(cs:List AV)(i:Int):Aj:=(C (sL pc rs)::(W 1 (X 2 0 []::(X 2 k cs::(C (F O i)::(W 16 []))))))
theorem Ayl(rs:List Rn)(k:Nat)(cs:List AV)(i:Int)(c1:A (i<(rs.length:Int))=true)(n1:0<=i/\i<(rs.length:Int))(n2:k+1<=1048576)(n3:RQ 161 [Az (rs.getD (D i) z0)] (Ag (-(L (rs.getD (D i) z0))))):Ap Yl (Q' rs k cs i) .norm (Q' rs (k+1) (cs++([B (A ((-(L (rs.getD (D i) z0)))<0)),H ((M (E (-(L (rs.getD (D i) z0))))).length) (lm (M (E (-(L (rs.getD (D i) z0))))))]:List AV)) (I O (i+1))):=(J a [bT,.v (Az (rs.getD (D i) z0)),.r (Ag (-(L (rs.getD (D i) z0))))] KK (JT c1 n1 (BP n1) n3 (show Bl ([B (A ((-(L (rs.getD (D i) z0)))<0)),H ((M (E (-(L (rs.getD (D i) z0))))).length) (lm (M (E (-(L (rs.getD (D i) z0))))))]:List AV)=1*2 from rfl) n2))
theorem Aym(rs:List Rn)(k:Nat)(cs:List AV)(i:Int)(c1:A (i<(rs.length:Int))=false):Ap Yl (Q' rs k cs i) (.exit 0) (Q' rs k cs i):=(J a [bF] KK (Jx c1))
theorem Ayn(rs os ts:List Rn)(i:Int)(k:Nat)(hl1:Ap (.loop Yl) (Q' rs 0 ([]:List AV) 0) (.exit 0) (Q' rs k (pc os) i))(n2:RQ 46 [H k (pc os)] (P 2 ts.length (pc ts))):RQ 153 [sL pc rs] (P 2 ts.length (pc ts)):=OO Arz (W 2 (X 2 ts.length (pc ts)::(W 18 []))) (CE.asc (Av (CE.seq (J a [] KK a0) (CE.seq (CE.block hl1) (J a [.r (P 2 ts.length (pc ts))] [2] (Jx n2))))))
theorem wW(rs ns:List Rn)(c1:A ((rs.length:Int)>0)=true)(c2:(A ((BQ (L (rs.getD (D (I O ((rs.length:Int)-1))) z0)))<0))=true)(n1:0<=(I O ((rs.length:Int)-1))/\(I O ((rs.length:Int)-1))<(rs.length:Int))(n2:RQ 79 [Az (rs.getD (D (I O ((rs.length:Int)-1))) z0)] (F O (BQ (L (rs.getD (D (I O ((rs.length:Int)-1))) z0)))))(n3:RQ 153 [sL pc rs] (P 2 ns.length (pc ns))):RQ 120 [sL pc rs] (P 2 ns.length (pc ns)):=i (fn:=iF Mv Aqh) a rfl 400 rfl [bT,.v (Az (rs.getD (D (I O ((rs.length:Int)-1))) z0)),.r (F O (BQ (L (rs.getD (D (I O ((rs.length:Int)-1))) z0)))),bT,.r (P 2 ns.length (pc ns))] (JT c1 n1 (BP n1) n2 c2 n3)
theorem wX(rs:List Rn)(c1:A ((rs.length:Int)>0)=true)(c2:(A ((BQ (L (rs.getD (D (I O ((rs.length:Int)-1))) z0)))<0))=false)(n1:0<=(I O ((rs.length:Int)-1))/\(I O ((rs.length:Int)-1))<(rs.length:Int))(n2:RQ 79 [Az (rs.getD (D (I O ((rs.length:Int)-1))) z0)] (F O (BQ (L (rs.getD (D (I O ((rs.length:Int)-1))) z0))))):RQ 120 [sL pc rs] (sL pc rs):=i (fn:=iF Mv Aqh) a rfl 400 rfl [bT,.v (Az (rs.getD (D (I O ((rs.length:Int)-1))) z0)),.r (F O (BQ (L (rs.getD (D (I O ((rs.length:Int)-1))) z0)))),bF] (JL c1 n1 (BP n1) n2 c2)
theorem wY(rs:List Rn)(c1:A ((rs.length:Int)>0)=false):RQ 120 [sL pc rs] (sL pc rs):=i (fn:=iF Mv Aqh) a rfl 400 rfl [bF,bF] (J0 c1 Fc)
def MY:ICode:=c Aqf 83 123636
def Hf(rs:List Rn)(ds:List Rn)(t:Rn)(u:Rn)(q:Int)(k:Nat)(cs:List AV)(i:Int):Aj:=(W 4 (X 2 0 []::(C (sL pc rs)::(C (sL pc ds)::(Ay [B t.1,H t.2.length (lm t.2)]::(Ay [B u.1,H u.2.length (lm u.2)]::(C (F O q)::(X 2 k cs::(C (F O i)::(W 68 []))))))))))
theorem Ahb(rs:List Rn)(ds:List Rn)(t:Rn)(u:Rn)(q:Int)(k:Nat)(cs:List AV)(i:Int)(c1:(A (i<(I O ((rs.length:Int)-1))))=true)(c2:A (i>=q)=true)(n1:0<=i/\i<(rs.length:Int))(n2:0<=(I O (i-q))/\(I O (i-q))<(ds.length:Int))(n3:k+1<=1048576)(n4:RQ 96 [o [B false,H t.2.length (lm t.2)],Az (rs.getD (D i) z0)] (Ag ((L (false,t.2))*(L (rs.getD (D i) z0)))))(n5:RQ 96 [Az u,Az (ds.getD (D (I O (i-q))) z0)] (Ag ((L u)*(L (ds.getD (D (I O (i-q))) z0)))))(n6:RQ 129 [Ag ((L (false,t.2))*(L (rs.getD (D i) z0))),Ag ((L u)*(L (ds.getD (D (I O (i-q))) z0)))] (Ag (((L (false,t.2))*(L (rs.getD (D i) z0)))-((L u)*(L (ds.getD (D (I O (i-q))) z0)))))):Ap MY (Hf rs ds t u q k cs i) .norm (Hf rs ds t u q (k+1) (cs++([B (A ((((L (false,t.2))*(L (rs.getD (D i) z0)))-((L u)*(L (ds.getD (D (I O (i-q))) z0))))<0)),H ((M (E (((L (false,t.2))*(L (rs.getD (D i) z0)))-((L u)*(L (ds.getD (D (I O (i-q))) z0)))))).length) (lm (M (E (((L (false,t.2))*(L (rs.getD (D i) z0)))-((L u)*(L (ds.getD (D (I O (i-q))) z0)))))))]:List AV)) (I O (i+1))):=(J a [bT,.v (Az (rs.getD (D i) z0)),.r (Ag ((L (false,t.2))*(L (rs.getD (D i) z0)))),bT,.v (Az (ds.getD (D (I O (i-q))) z0)),.r (Ag ((L u)*(L (ds.getD (D (I O (i-q))) z0)))),.r (Ag (((L (false,t.2))*(L (rs.getD (D i) z0)))-((L u)*(L (ds.getD (D (I O (i-q))) z0)))))] Tc (NF c1 n1 (BP n1) n4 c2 n2 (BP n2) n5 n6 (show Bl ([B (A ((((L (false,t.2))*(L (rs.getD (D i) z0)))-((L u)*(L (ds.getD (D (I O (i-q))) z0))))<0)),H ((M (E (((L (false,t.2))*(L (rs.getD (D i) z0)))-((L u)*(L (ds.getD (D (I O (i-q))) z0)))))).length) (lm (M (E (((L (false,t.2))*(L (rs.getD (D i) z0)))-((L u)*(L (ds.getD (D (I O (i-q))) z0)))))))]:List AV)=1*2 from rfl) n3))
theorem Ahc(rs:List Rn)(ds:List Rn)(t:Rn)(u:Rn)(q:Int)(k:Nat)(cs:List AV)(i:Int)(c1:(A (i<(I O ((rs.length:Int)-1))))=true)(c2:A (i>=q)=false)(n1:0<=i/\i<(rs.length:Int))(n2:k+1<=1048576)(n3:RQ 96 [o [B false,H t.2.length (lm t.2)],Az (rs.getD (D i) z0)] (Ag ((L (false,t.2))*(L (rs.getD (D i) z0))))):Ap MY (Hf rs ds t u q k cs i) .norm (Hf rs ds t u q (k+1) (cs++([B (A (((L (false,t.2))*(L (rs.getD (D i) z0)))<0)),H ((M (E ((L (false,t.2))*(L (rs.getD (D i) z0))))).length) (lm (M (E ((L (false,t.2))*(L (rs.getD (D i) z0))))))]:List AV)) (I O (i+1))):=(J a [bT,.v (Az (rs.getD (D i) z0)),.r (Ag ((L (false,t.2))*(L (rs.getD (D i) z0)))),bF] Tc (Lm c1 n1 (BP n1) n3 c2 (show Bl ([B (A (((L (false,t.2))*(L (rs.getD (D i) z0)))<0)),H ((M (E ((L (false,t.2))*(L (rs.getD (D i) z0))))).length) (lm (M (E ((L (false,t.2))*(L (rs.getD (D i) z0))))))]:List AV)=1*2 from rfl) n2))
theorem Ahd(rs:List Rn)(ds:List Rn)(t:Rn)(u:Rn)(q:Int)(k:Nat)(cs:List AV)(i:Int)(c1:(A (i<(I O ((rs.length:Int)-1))))=false):Ap MY (Hf rs ds t u q k cs i) (.exit 2) (Hf rs ds t u q k cs i):=(J a [bF] Tc (Jx c1))
def SY:ICode:=c Aqf 93 120
def Lr(rs:List Rn)(ds:List Rn)(t:Rn):Aj:=(W 4 (X 2 0 []::(C (sL pc rs)::(C (sL pc ds)::(Ay [B t.1,H t.2.length (lm t.2)]::(W 72 []))))))
theorem Ayo(rs:List Rn)(ds:List Rn)(t:Rn)(os ts xs:List Rn)(k:Nat)(i:Int)(c1:A ((rs.length:Int)>=(ds.length:Int))=true)(c2:A ((BQ (L t))<0)=true)(n1:0<=(I O ((rs.length:Int)-1))/\(I O ((rs.length:Int)-1))<(rs.length:Int))(n2:RQ 79 [Az t] (F O (BQ (L t))))(n3:RQ 161 [Az (rs.getD (D (I O ((rs.length:Int)-1))) z0)] (Ag (-(L (rs.getD (D (I O ((rs.length:Int)-1))) z0)))))(hl4:Ap (.loop MY) (Hf rs ds t (cn (-(L (rs.getD (D (I O ((rs.length:Int)-1))) z0)))) (I O ((rs.length:Int)-(ds.length:Int))) 0 ([]:List AV) 0) (.exit 2) (Hf rs ds t (cn (-(L (rs.getD (D (I O ((rs.length:Int)-1))) z0)))) (I O ((rs.length:Int)-(ds.length:Int))) k (pc os) i))(n5:RQ 46 [H k (pc os)] (P 2 ts.length (pc ts)))(n6:RQ 86 [sL pc ts] (P 2 xs.length (pc xs))):Ap SY (Lr rs ds t) .norm (Lr xs ds t):=(CE.seq (J (t:=(W 4 (X 2 0 []::(vp rs::(vp ds::(bR t::(W 72 []))))))) a [bT] Wn (Jx c1)) (v (CE.asc (CE.asc (CE.asc (Av (CE.seq (J a [.v (Az (rs.getD (D (I O ((rs.length:Int)-1))) z0)),.r (F O (BQ (L t))),bT,.r (Ag (-(L (rs.getD (D (I O ((rs.length:Int)-1))) z0))))] Tc (JL n1 (BP n1) n2 c2 n3)) (CE.seq (CE.block hl4) (J a [.r (P 2 ts.length (pc ts)),.r (P 2 xs.length (pc xs))] Wn (J0 n5 n6))))))))))
theorem Ayp(rs:List Rn)(ds:List Rn)(t:Rn)(os ts xs:List Rn)(k:Nat)(i:Int)(c1:A ((rs.length:Int)>=(ds.length:Int))=true)(c2:A ((BQ (L t))<0)=false)(n1:0<=(I O ((rs.length:Int)-1))/\(I O ((rs.length:Int)-1))<(rs.length:Int))(n2:RQ 79 [Az t] (F O (BQ (L t))))(hl3:Ap (.loop MY) (Hf rs ds t (rs.getD (D (I O ((rs.length:Int)-1))) z0) (I O ((rs.length:Int)-(ds.length:Int))) 0 ([]:List AV) 0) (.exit 2) (Hf rs ds t (rs.getD (D (I O ((rs.length:Int)-1))) z0) (I O ((rs.length:Int)-(ds.length:Int))) k (pc os) i))(n4:RQ 46 [H k (pc os)] (P 2 ts.length (pc ts)))(n5:RQ 86 [sL pc ts] (P 2 xs.length (pc xs))):Ap SY (Lr rs ds t) .norm (Lr xs ds t):=(CE.seq (J (t:=(W 4 (X 2 0 []::(vp rs::(vp ds::(bR t::(W 72 []))))))) a [bT] Wn (Jx c1)) (v (CE.asc (CE.asc (CE.asc (Av (CE.seq (J a [.v (Az (rs.getD (D (I O ((rs.length:Int)-1))) z0)),.r (F O (BQ (L t))),bF] Tc (JS n1 (BP n1) n2 c2)) (CE.seq (CE.block hl3) (J a [.r (P 2 ts.length (pc ts)),.r (P 2 xs.length (pc xs))] Wn (J0 n4 n5))))))))))
theorem nQ(rs:List Rn)(ds:List Rn)(t:Rn)(c1:A ((rs.length:Int)>=(ds.length:Int))=false):Ap SY (Lr rs ds t) (.exit 0) (Lr rs ds t):=(A4 (J a [bF] Wn (Jx c1)))
theorem Ayq(rs ss ps ds us:List Rn)(t:Rn)(n1:RQ 86 [sL pc rs] (P 2 ps.length (pc ps)))(n2:RQ 46 [sL pc ss] (P 2 ds.length (pc ds)))(n3:0<=(I O ((ds.length:Int)-1))/\(I O ((ds.length:Int)-1))<(ds.length:Int))(hl4:Ap (.loop SY) (Lr ps ds (ds.getD (D (I O ((ds.length:Int)-1))) z0)) (.exit 0) (Lr us ds t)):RQ 119 [sL pc rs,sL pc ss] (sL pc us):=OO Aqf (W 4 (C (sL pc us)::(W 75 []))) (CE.asc (CE.asc (CE.seq (J a [.r (P 2 ps.length (pc ps)),.r (P 2 ds.length (pc ds)),.v (Az (ds.getD (D (I O ((ds.length:Int)-1))) z0))] Wn (JS n1 n2 n3 (BP n3))) (CE.seq (CE.block hl4) (J a [] [4] a0)))))
def SU:ICode:=c AAh 94 56
def Ls(as1:List Rn)(bs:List Rn):Aj:=(W 4 (X 2 0 []::(C (sL pc as1)::(C (sL pc bs)::(W 15 [])))))
theorem nR(as1:List Rn)(bs:List Rn)(us:List Rn)(c1:A ((bs.length:Int)>0)=true)(n1:RQ 119 [sL pc as1,sL pc bs] (sL pc us)):Ap SU (Ls as1 bs) .norm (Ls bs us):=(J a [bT,.r (sL pc us)] NC (J0 c1 n1))
theorem nS(as1:List Rn)(bs:List Rn)(c1:A ((bs.length:Int)>0)=false):Ap SU (Ls as1 bs) (.exit 0) (Ls as1 bs):=(J a [bF] NC (Jx c1))
theorem Ahe(rs ss ps qs as1 bs ts:List Rn)(n1:RQ 86 [sL pc rs] (P 2 ps.length (pc ps)))(n2:RQ 86 [sL pc ss] (P 2 qs.length (pc qs)))(hl3:Ap (.loop SU) (Ls ps qs) (.exit 0) (Ls as1 bs))(n4:RQ 120 [sL pc as1] (P 2 ts.length (pc ts))):RQ 70 [sL pc rs,sL pc ss] (P 2 ts.length (pc ts)):=OO AAh (W 4 (X 2 ts.length (pc ts)::(W 17 []))) (CE.asc (CE.seq (J a [.r (P 2 ps.length (pc ps)),.r (P 2 qs.length (pc qs))] NC (J0 n1 n2)) (CE.seq (CE.block hl3) (J a [.r (P 2 ts.length (pc ts))] [4] (Jx n4)))))
theorem Ahf(rs ss ps qs as1 bs:List Rn)(n1:RQ 86 [sL pc rs] (P 2 ps.length (pc ps)))(n2:RQ 86 [sL pc ss] (P 2 qs.length (pc qs)))(hl3:Ap (.loop SU) (Ls ps qs) (.exit 0) (Ls as1 bs))(n4:RQ 120 [sL pc as1] (sL pc as1)):RQ 70 [sL pc rs,sL pc ss] (sL pc as1):=OO AAh (W 4 (C (sL pc as1)::(W 17 []))) (CE.asc (CE.seq (J a [.r (P 2 ps.length (pc ps)),.r (P 2 qs.length (pc qs))] NC (J0 n1 n2)) (CE.seq (CE.block hl3) (J a [.r (sL pc as1)] [4] (Jx n4)))))
def RB:ICode:=c Aqm 84 63668
def K5(rs:List Rn)(ds:List Rn)(t:Rn)(k:Nat)(os:List Rn)(u:Rn)(q:Int)(i:Int):Aj:=(W 4 (X 2 0 []::(C (sL pc rs)::(C (sL pc ds)::(Ay [B t.1,H t.2.length (lm t.2)]::(X 2 k (pc os)::(Ay [B u.1,H u.2.length (lm u.2)]::(C (F O q)::(C (F O i)::(W 91 []))))))))))
theorem Ahg(rs:List Rn)(ds:List Rn)(t:Rn)(k:Nat)(os:List Rn)(u:Rn)(q:Int)(i:Int)(c1:A (i<(k:Int))=true)(n1:0<=i/\i<(k:Int))(n2:os.length=k)(n3:RQ 96 [Az (os.getD (D i) z0),Az t] (Ag ((L (os.getD (D i) z0))*(L t)))):Ap RB (K5 rs ds t k os u q i) .norm (K5 rs ds t k (os.set (D i) (cn ((L (os.getD (D i) z0))*(L t)))) u q (I O (i+1))):=(J a [bT,.v (Az (os.getD (D i) z0)),.r (Ag ((L (os.getD (D i) z0))*(L t))),.l (pc (os.set (D i) (cn ((L (os.getD (D i) z0))*(L t)))))] Tc (JT c1 n1 (Hn n2 n1) n3 n1 (HR (r:=cn ((L (os.getD (D i) z0))*(L t))) n2 n1)))
theorem Ahh(rs:List Rn)(ds:List Rn)(t:Rn)(k:Nat)(os:List Rn)(u:Rn)(q:Int)(i:Int)(c1:A (i<(k:Int))=false):Ap RB (K5 rs ds t k os u q i) (.exit 2) (K5 rs ds t k os u q i):=(J a [bF] Tc (Jx c1))
def ON:ICode:=c Aqm 81 509428
def Ih(rs:List Rn)(ds:List Rn)(t:Rn)(k:Nat)(os:List Rn)(u:Rn)(q:Int)(m:Nat)(cs:List AV)(i:Int):Aj:=(W 4 (X 2 0 []::(C (sL pc rs)::(C (sL pc ds)::(Ay [B t.1,H t.2.length (lm t.2)]::(X 2 k (pc os)::(Ay [B u.1,H u.2.length (lm u.2)]::(C (F O q)::(W 1 (X 2 m cs::(C (F O i)::(W 89 []))))))))))))
theorem Ahi(rs:List Rn)(ds:List Rn)(t:Rn)(k:Nat)(os:List Rn)(u:Rn)(q:Int)(m:Nat)(cs:List AV)(i:Int)(c1:(A (i<(I O ((rs.length:Int)-1))))=true)(c2:A (i>=q)=true)(n1:0<=i/\i<(rs.length:Int))(n2:0<=(I O (i-q))/\(I O (i-q))<(ds.length:Int))(n3:m+1<=1048576)(n4:RQ 96 [Az t,Az (rs.getD (D i) z0)] (Ag ((L t)*(L (rs.getD (D i) z0)))))(n5:RQ 96 [Az u,Az (ds.getD (D (I O (i-q))) z0)] (Ag ((L u)*(L (ds.getD (D (I O (i-q))) z0)))))(n6:RQ 129 [Ag ((L t)*(L (rs.getD (D i) z0))),Ag ((L u)*(L (ds.getD (D (I O (i-q))) z0)))] (Ag (((L t)*(L (rs.getD (D i) z0)))-((L u)*(L (ds.getD (D (I O (i-q))) z0)))))):Ap ON (Ih rs ds t k os u q m cs i) .norm (Ih rs ds t k os u q (m+1) (cs++([B (A ((((L t)*(L (rs.getD (D i) z0)))-((L u)*(L (ds.getD (D (I O (i-q))) z0))))<0)),H ((M (E (((L t)*(L (rs.getD (D i) z0)))-((L u)*(L (ds.getD (D (I O (i-q))) z0)))))).length) (lm (M (E (((L t)*(L (rs.getD (D i) z0)))-((L u)*(L (ds.getD (D (I O (i-q))) z0)))))))]:List AV)) (I O (i+1))):=(J a [bT,.v (Az (rs.getD (D i) z0)),.r (Ag ((L t)*(L (rs.getD (D i) z0)))),bT,.v (Az (ds.getD (D (I O (i-q))) z0)),.r (Ag ((L u)*(L (ds.getD (D (I O (i-q))) z0)))),.r (Ag (((L t)*(L (rs.getD (D i) z0)))-((L u)*(L (ds.getD (D (I O (i-q))) z0)))))] fZ (NF c1 n1 (BP n1) n4 c2 n2 (BP n2) n5 n6 (show Bl ([B (A ((((L t)*(L (rs.getD (D i) z0)))-((L u)*(L (ds.getD (D (I O (i-q))) z0))))<0)),H ((M (E (((L t)*(L (rs.getD (D i) z0)))-((L u)*(L (ds.getD (D (I O (i-q))) z0)))))).length) (lm (M (E (((L t)*(L (rs.getD (D i) z0)))-((L u)*(L (ds.getD (D (I O (i-q))) z0)))))))]:List AV)=1*2 from rfl) n3))
theorem Ahj(rs:List Rn)(ds:List Rn)(t:Rn)(k:Nat)(os:List Rn)(u:Rn)(q:Int)(m:Nat)(cs:List AV)(i:Int)(c1:(A (i<(I O ((rs.length:Int)-1))))=true)(c2:A (i>=q)=false)(n1:0<=i/\i<(rs.length:Int))(n2:m+1<=1048576)(n3:RQ 96 [Az t,Az (rs.getD (D i) z0)] (Ag ((L t)*(L (rs.getD (D i) z0))))):Ap ON (Ih rs ds t k os u q m cs i) .norm (Ih rs ds t k os u q (m+1) (cs++([B (A (((L t)*(L (rs.getD (D i) z0)))<0)),H ((M (E ((L t)*(L (rs.getD (D i) z0))))).length) (lm (M (E ((L t)*(L (rs.getD (D i) z0))))))]:List AV)) (I O (i+1))):=(J a [bT,.v (Az (rs.getD (D i) z0)),.r (Ag ((L t)*(L (rs.getD (D i) z0)))),bF] fZ (Lm c1 n1 (BP n1) n3 c2 (show Bl ([B (A (((L t)*(L (rs.getD (D i) z0)))<0)),H ((M (E ((L t)*(L (rs.getD (D i) z0))))).length) (lm (M (E ((L t)*(L (rs.getD (D i) z0))))))]:List AV)=1*2 from rfl) n2))
theorem Ahk(rs:List Rn)(ds:List Rn)(t:Rn)(k:Nat)(os:List Rn)(u:Rn)(q:Int)(m:Nat)(cs:List AV)(i:Int)(c1:(A (i<(I O ((rs.length:Int)-1))))=false):Ap ON (Ih rs ds t k os u q m cs i) (.exit 4) (Ih rs ds t k os u q m cs i):=(J a [bF] fZ (Jx c1))
def Yf:ICode:=c Aqm 92 248
def Ty(rs:List Rn)(ds:List Rn)(t:Rn)(k:Nat)(os:List Rn):Aj:=(W 4 (X 2 0 []::(C (sL pc rs)::(C (sL pc ds)::(Ay [B t.1,H t.2.length (lm t.2)]::(X 2 k (pc os)::(W 94 [])))))))
theorem Ayr(rs:List Rn)(ds:List Rn)(t:Rn)(k:Nat)(os:List Rn)(os1 ns ts:List Rn)(m:Nat)(i1 i2:Int)(c1:A ((rs.length:Int)>=(ds.length:Int))=true)(n1:0<=(I O ((rs.length:Int)-1))/\(I O ((rs.length:Int)-1))<(rs.length:Int))(hl2:Ap (.loop RB) (K5 rs ds t k os (rs.getD (D (I O ((rs.length:Int)-1))) z0) (I O ((rs.length:Int)-(ds.length:Int))) 0) (.exit 2) (K5 rs ds t k os1 (rs.getD (D (I O ((rs.length:Int)-1))) z0) (I O ((rs.length:Int)-(ds.length:Int))) i1))(n3:0<=(I O ((rs.length:Int)-(ds.length:Int)))/\(I O ((rs.length:Int)-(ds.length:Int)))<(k:Int))(n4:os1.length=k)(hl5:Ap (.loop ON) (Ih rs ds t k (os1.set (D (I O ((rs.length:Int)-(ds.length:Int)))) (rs.getD (D (I O ((rs.length:Int)-1))) z0)) (rs.getD (D (I O ((rs.length:Int)-1))) z0) (I O ((rs.length:Int)-(ds.length:Int))) 0 ([]:List AV) 0) (.exit 4) (Ih rs ds t k (os1.set (D (I O ((rs.length:Int)-(ds.length:Int)))) (rs.getD (D (I O ((rs.length:Int)-1))) z0)) (rs.getD (D (I O ((rs.length:Int)-1))) z0) (I O ((rs.length:Int)-(ds.length:Int))) m (pc ns) i2))(n6:RQ 46 [H m (pc ns)] (P 2 ts.length (pc ts))):Ap Yf (Ty rs ds t k os) .norm (Ty ts ds t k (os1.set (D (I O ((rs.length:Int)-(ds.length:Int)))) (rs.getD (D (I O ((rs.length:Int)-1))) z0))):=(CE.seq (J (t:=(W 4 (X 2 0 []::(vp rs::(vp ds::(bR t::(X 2 k (pc os)::(W 94 [])))))))) a [bT] gB (Jx c1)) (v (CE.asc (Av (CE.seq (J a [.v (Az (rs.getD (D (I O ((rs.length:Int)-1))) z0))] Tc (J0 n1 (BP n1))) (CE.seq (CE.block hl2) (CE.asc (Av (CE.seq (J a [.l (pc (os1.set (D (I O ((rs.length:Int)-(ds.length:Int)))) (rs.getD (D (I O ((rs.length:Int)-1))) z0)))] fZ (J0 n3 (HR (r:=rs.getD (D (I O ((rs.length:Int)-1))) z0) n4 n3))) (CE.seq (CE.block hl5) (J a [.r (P 2 ts.length (pc ts))] gB (Jx n6))))))))))))
theorem nT(rs:List Rn)(ds:List Rn)(t:Rn)(k:Nat)(os:List Rn)(c1:A ((rs.length:Int)>=(ds.length:Int))=false):Ap Yf (Ty rs ds t k os) (.exit 0) (Ty rs ds t k os):=(A4 (J a [bF] gB (Jx c1)))
theorem Ays(rs ss ps ds xs os us ts:List Rn)(t:Rn)(k:Nat)(n1:RQ 46 [sL pc rs] (P 2 ps.length (pc ps)))(n2:RQ 46 [sL pc ss] (P 2 ds.length (pc ds)))(n3:0<=(I O ((ds.length:Int)-1))/\(I O ((ds.length:Int)-1))<(ds.length:Int))(n4:0<=(I O ((I O ((ps.length:Int)-(ds.length:Int)))+1))/\(I O ((I O ((ps.length:Int)-(ds.length:Int)))+1))<=1048576)(hl5:Ap (.loop Yf) ((W 4 (X 2 0 []::(C (sL pc ps)::(C (sL pc ds)::(Ay [B ((ds.getD (D (I O ((ds.length:Int)-1))) z0).1),H ((ds.getD (D (I O ((ds.length:Int)-1))) z0).2.length) (lm (ds.getD (D (I O ((ds.length:Int)-1))) z0).2)]::(X 2 (D (I O ((I O ((ps.length:Int)-(ds.length:Int)))+1))) (CD [B false,H 0 []] (D (I O ((I O ((ps.length:Int)-(ds.length:Int)))+1))))::(W 94 [])))))))) (.exit 0) (Ty xs ds t k os))(n6:RQ 46 [H k (pc os)] (P 2 ts.length (pc ts)))(n7:RQ 86 [sL pc ts] (P 2 us.length (pc us)))(n8:RQ 120 [sL pc us] (sL pc us)):RQ 123 [sL pc rs,sL pc ss] (sL pc us):=OO Aqm (W 4 (C (sL pc us)::(W 98 []))) (CE.asc (CE.asc (CE.asc (CE.seq (J a [.r (P 2 ps.length (pc ps)),.r (P 2 ds.length (pc ds)),.v (Az (ds.getD (D (I O ((ds.length:Int)-1))) z0))] gB (JL n1 n2 n3 (BP n3) n4)) (CE.seq (CE.block hl5) (J a [.r (P 2 ts.length (pc ts)),.r (P 2 us.length (pc us)),.r (sL pc us)] [4] (JV n6 n7 n8)))))))
theorem gW(rs ps xs:List Rn)(c1:A ((xs.length:Int)<=1)=true)(n1:RQ 86 [sL pc rs] (P 2 ps.length (pc ps)))(n2:RQ 120 [sL pc ps] (P 2 xs.length (pc xs))):RQ 73 [sL pc rs] (sL pc xs):=i (fn:=iF Mv AAl) a rfl 400 rfl [.r (P 2 ps.length (pc ps)),.r (P 2 xs.length (pc xs)),bT] (JV n1 n2 c1)
theorem gX(rs ps xs ds gs us:List Rn)(c1:A ((xs.length:Int)<=1)=false)(n1:RQ 86 [sL pc rs] (P 2 ps.length (pc ps)))(n2:RQ 120 [sL pc ps] (P 2 xs.length (pc xs)))(n3:RQ 122 [sL pc xs] (P 2 ds.length (pc ds)))(n4:RQ 70 [sL pc xs,sL pc ds] (P 2 gs.length (pc gs)))(n5:RQ 123 [sL pc xs,sL pc gs] (sL pc us)):RQ 73 [sL pc rs] (sL pc us):=i (fn:=iF Mv AAl) a rfl 400 rfl [.r (P 2 ps.length (pc ps)),.r (P 2 xs.length (pc xs)),bF,.r (P 2 ds.length (pc ds)),.r (P 2 gs.length (pc gs)),.r (sL pc us)] (JT n1 n2 c1 n3 n4 n5)
theorem gY(rs ps xs ds gs us:List Rn)(c1:A ((xs.length:Int)<=1)=false)(n1:RQ 86 [sL pc rs] (P 2 ps.length (pc ps)))(n2:RQ 120 [sL pc ps] (P 2 xs.length (pc xs)))(n3:RQ 122 [sL pc xs] (P 2 ds.length (pc ds)))(n4:RQ 70 [sL pc xs,sL pc ds] (sL pc gs))(n5:RQ 123 [sL pc xs,sL pc gs] (sL pc us)):RQ 73 [sL pc rs] (sL pc us):=i (fn:=iF Mv AAl) a rfl 400 rfl [.r (P 2 ps.length (pc ps)),.r (P 2 xs.length (pc xs)),bF,.r (P 2 ds.length (pc ds)),.r (sL pc gs),.r (sL pc us)] (JT n1 n2 c1 n3 n4 n5)
theorem gZ(rs ps ds gs us:List Rn)(c1:A ((ps.length:Int)<=1)=false)(n1:RQ 86 [sL pc rs] (P 2 ps.length (pc ps)))(n2:RQ 120 [sL pc ps] (sL pc ps))(n3:RQ 122 [sL pc ps] (P 2 ds.length (pc ds)))(n4:RQ 70 [sL pc ps,sL pc ds] (P 2 gs.length (pc gs)))(n5:RQ 123 [sL pc ps,sL pc gs] (sL pc us)):RQ 73 [sL pc rs] (sL pc us):=i (fn:=iF Mv AAl) a rfl 400 rfl [.r (P 2 ps.length (pc ps)),.r (sL pc ps),bF,.r (P 2 ds.length (pc ds)),.r (P 2 gs.length (pc gs)),.r (sL pc us)] (JT n1 n2 c1 n3 n4 n5)
theorem hH(rs ps:List Rn)(c1:A ((ps.length:Int)<=1)=true)(n1:RQ 86 [sL pc rs] (P 2 ps.length (pc ps)))(n2:RQ 120 [sL pc ps] (sL pc ps)):RQ 73 [sL pc rs] (sL pc ps):=i (fn:=iF Mv AAl) a rfl 400 rfl [.r (P 2 ps.length (pc ps)),.r (sL pc ps),bT] (JV n1 n2 c1)
theorem iA(rs ps ds gs us:List Rn)(c1:A ((ps.length:Int)<=1)=false)(n1:RQ 86 [sL pc rs] (P 2 ps.length (pc ps)))(n2:RQ 120 [sL pc ps] (sL pc ps))(n3:RQ 122 [sL pc ps] (P 2 ds.length (pc ds)))(n4:RQ 70 [sL pc ps,sL pc ds] (sL pc gs))(n5:RQ 123 [sL pc ps,sL pc gs] (sL pc us)):RQ 73 [sL pc rs] (sL pc us):=i (fn:=iF Mv AAl) a rfl 400 rfl [.r (P 2 ps.length (pc ps)),.r (sL pc ps),bF,.r (P 2 ds.length (pc ds)),.r (sL pc gs),.r (sL pc us)] (JT n1 n2 c1 n3 n4 n5)
theorem wZ(a b q r:Int)(hq:q=(a.natAbs:Int) / (b.natAbs:Int))(hr:r=(a.natAbs:Int) % (b.natAbs:Int)) :
  (if (!(decide (a<0)==decide (b<0)))=true then -q else q)=Ax a b/\(if decide (a<0)=true then -r else r)=AB a b:=by
 subst hq hr;have hA:(0:Int)<=(a.natAbs:Int):=by omega
 by_cases ha:a<0 <;> by_cases hb:b<0
 ·have ea:a = -(a.natAbs:Int):=by omega
  have eb:b = -(b.natAbs:Int):=by omega
  have h1:Ax a b=(a.natAbs:Int) / (b.natAbs:Int):=by
   rw[<- BK hA];conv=>lhs;rw[ea,eb,Ant,Anu,Int.neg_neg]
  have h2:AB a b = -((a.natAbs:Int) % (b.natAbs:Int)):=by
   rw[<- B1 hA];conv=>lhs;rw[ea,eb,jO,Anv]
  rw[h1,h2,decide_eq_true ha,decide_eq_true hb];simp
 ·have ea:a = -(a.natAbs:Int):=by omega
  have eb:b=(b.natAbs:Int):=by omega
  have h1:Ax a b = -((a.natAbs:Int) / (b.natAbs:Int)):=by
   rw[<- BK hA];conv=>lhs;rw[ea,eb,Ant]
  have h2:AB a b = -((a.natAbs:Int) % (b.natAbs:Int)):=by
   rw[<- B1 hA];conv=>lhs;rw[ea,eb,jO]
  rw[h1,h2,decide_eq_true ha,decide_eq_false hb];simp
 ·have ea:a=(a.natAbs:Int):=by omega
  have eb:b = -(b.natAbs:Int):=by omega
  have h1:Ax a b = -((a.natAbs:Int) / (b.natAbs:Int)):=by
   rw[<- BK hA];conv=>lhs;rw[ea,eb,Anu]
  have h2:AB a b=(a.natAbs:Int) % (b.natAbs:Int):=by
   rw[<- B1 hA];conv=>lhs;rw[ea,eb,Anv]
  rw[h1,h2,decide_eq_false ha,decide_eq_true hb];simp
 ·have ea:a=(a.natAbs:Int):=by omega
  have eb:b=(b.natAbs:Int):=by omega
  have h1:Ax a b=(a.natAbs:Int) / (b.natAbs:Int):=by
   rw[<- BK hA];conv=>lhs;rw[ea,eb]
  have h2:AB a b=(a.natAbs:Int) % (b.natAbs:Int):=by
   rw[<- B1 hA];conv=>lhs;rw[ea,eb]
  rw[h1,h2,decide_eq_false ha,decide_eq_false hb];simp
theorem RO{na nb:Bool}{xs ys:LI}(hx:A_ xs)(hy:A_ ys)(h0:rv nb ys ≠ 0)(h1:xs.length<1048576)(h2:ys.length<1048576) :
  RQ 158 [o [B na,sL lm xs],o [B nb,sL lm ys]] (Ar [Ag (Ax (rv na xs) (rv nb ys)),Ag (AB (rv na xs) (rv nb ys))]):=by
 have l1:=Fg (neg:=na) hx;have l2:=Fg (neg:=nb) hy;have r1:=DT (neg:=na) hx (by omega);have r2:=DT (neg:=nb) hy (by omega);generalize rv na xs=a at *
 generalize rv nb ys=b at *
 have hb0:M b.natAbs ≠ []:=by rw[Ne,JY];omega
 obtain⟨qs,rs,q1,q2,q3,q4,q5,q6,q7⟩:=ZZ (Cv a.natAbs) (Cv b.natAbs) hb0 (by omega) (by omega);rw[C9,C9] at q5 q6;obtain⟨e1,e2⟩:=wZ a b _ _ q5 q6;have m1:=Fh (neg := !(decide (a<0)==decide (b<0))) q1 q3;have m2:=Fh (neg:=decide (a<0)) q2 q4;have f1:rv (!(decide (a<0)==decide (b<0))) qs=Ax a b:=e1;have f2:rv (A (a<0)) rs=AB a b:=e2;rw[f1] at m1;rw[f2] at m2;exact Axa na nb _ _ xs ys _ _ qs rs _ _ r1 r2 q7 m1 m2
theorem W8{n:Nat}{b:Bool}(h:(M n).length<=2):RQ 183 [o [B b,H (M n).length (lm (M n))]] (F U (n:Nat)):=by
 have hu:=BV n;have hv:=C9 n;generalize hxs:M n=xs at *
 have hl:=CE.up (prog:=DK) (c:=Yr) (ex := .exit 0) (fin:=QS xs (n:Nat) (xs.length:Nat) (xs.length:Nat))
  (fun i=>QS xs (Ab (xs.take i)) (xs.length:Nat) (i:Nat)) xs.length (by nofun) ?_ ?_ 0 (AN _)
 ·exact Axd b xs (n:Nat) (xs.length:Nat) (xs.length:Nat) (by simpa [Ab] using hl)
 ·intro i hi;have ei:I O ((i:Int)+1)=((i+1:Nat):Int):=by rw[Bg (by omega) (by omega)];omega
  have e32:I U (I O (32*(i:Int)))=((32*i:Nat):Int):=by rw[Bg (by omega) (by omega),CP (by omega)];omega
  have em:min (D ((32*i:Nat):Int)) (An .u64)=32*i:=by rw[R];show min (32*i) 64=32*i;omega
  have hxi:=AL hu i;have k:=Axb xs (Ab (xs.take i)) (xs.length:Nat) (i:Nat) (by simp;omega) (by omega) (by rw[e32];omega);rw[ei,e32,em,R,CP (n:=xs.getD i 0) (by omega)] at k;have hp:xs.getD i 0*2^(32*i)<18446744073709551616:=by
   have:=Ho (show 32*i<=32 by omega);rw[show (2:Int)^32=4294967296 by decide] at this;have:=EO (show xs.getD i 0<=4294967295 by omega) this (by have:=BX (32*i);omega) (by omega);omega
  have h0:=AA hxi.1 (show (0:Int)<=2^(32*i) by have:=BX (32*i);omega);have hlt:=GF hu i;rw[Pg] at hlt;rw[CP ⟨h0,hp⟩,Xd,Avn hxi.1 hp (by omega) ⟨Bi (Em hu i),hlt⟩] at k;refine k.to rfl ?_;rw[Et xs i hi,Pg];congr 1;rw[AE];omega
 ·rw[DP,hv];exact Axc xs (n:Nat) (xs.length:Nat) (xs.length:Nat) (by simp)
theorem iB:∀ (f a b:Nat),b<=f->Ap (.loop Yq) (QT (a:Nat) (b:Nat)) (.exit 0) (QT (J7 a b:Nat) 0):=by
 intro f;induction f with
 | zero =>
  intro a b hb;have:b=0:=by omega
  subst this;rw[HG];exact Ah (mY _ _ (by simp))
 | succ f ih =>
  intro a b hb;by_cases h0:b=0
  ·subst h0;rw[HG];exact Ah (mY _ _ (by simp))
  ·have k:=Axf (a:Nat) (b:Nat) (by simp;omega) (by omega);rw[B1 (by omega),<- Ayt] at k;have hm:=GO a (show 0<b by omega);have:=ih b (a % b) (by omega);rw[Lf b,<- A3k,Lf b a] at this;exact CE.loop k this
theorem Ace{n:Nat}(h:(M n).length<=2):(n:Int)<18446744073709551616:=by
 have h1:=Eb (BV n);rw[C9] at h1;have h2:=GP h;rw[show (4294967296:Int)^2=18446744073709551616 by decide] at h2;omega
theorem nU{n:Nat}(h:(n:Int)<18446744073709551616):RQ 181 [F U (n:Nat)] (Ag (n:Nat)):=by
 obtain⟨h1,h2⟩:=Oc (u:=(n:Nat)) (by omega);have m:=Fh (neg:=false) h1 (by simp);have e:rv false [I Ae (n:Int),I Ae (d (n:Int) (2^(min (D 32) (An .u64))))]=(n:Nat):=h2;rw[e] at m;exact Axe (n:Nat) _ m
theorem A5x(n:Nat):cn (n:Nat)=(false,M n):=by
 unfold cn;rw[BW,decide_eq_false (by omega)]
theorem Lt(n:Nat):(cn (n:Nat)).2.length=(M n).length:=by rw [A5x]
theorem Ahl{K:Nat}(hK:K<1048576):∀ (f a b:Nat),b<=f->Bv K (a:Nat)->Bv K (b:Nat) ->
  (∃ y z,Ap (.loop NE) (H4 (cn (a:Nat)) (cn (b:Nat)) (false,[])) (.exit 0) (H4 (cn (J7 a b:Nat)) y z)) \/
  (∃ x y,Ap (.loop NE) (H4 (cn (a:Nat)) (cn (b:Nat)) (false,[])) .ret (H4 x y (cn (J7 a b:Nat)))):=by
 intro f;induction f with
 | zero =>
  intro a b hb _ _;have:b=0:=by omega
  subst this;rw[HG];exact Adi ⟨_,_,Ah (mZ _ _ _ (by rw[Lt];rfl))⟩
 | succ f ih =>
  intro a b hb ka kb;by_cases h0:b=0
  ·subst h0;rw[HG];exact Adi ⟨_,_,Ah (mZ _ _ _ (by rw[Lt];rfl))⟩
  ·have hbl:0<(M b).length:=Ak.2 (by rw[Ne,JY];exact h0);have la:=ka.len;have lb:=kb.len;rw[BW] at la lb;by_cases h2:(M a).length<=2/\(M b).length<=2
   ·right;have ta:=Ace h2.1;have tb:=Ace h2.2;have hg:((J7 a b:Nat):Int)<18446744073709551616:=by
     have:=Ut (by omega) (Nat.gcd_dvd_right a b);omega
    have u1:=W8 (b:=(cn (a:Nat)).1) h2.1;have u2:=W8 (b:=(cn (b:Nat)).1) h2.2;have u3:=Axg (a:Nat) (b:Nat) _ _ (iB b a b (Ao _));have u4:=nU hg;have k:=Axh (cn (a:Nat)) (cn (b:Nat)) (false,[]) (a:Nat) (b:Nat) (J7 a b:Nat) (J7 a b:Nat) (by rw[Lt];simp;omega) (by rw[Lt];simp;omega) (by rw[Lt];simp;omega) u1 u2 u3 u4;exact⟨_,_,Ah k⟩
   ·have hq:=RO (na:=(cn (a:Nat)).1) (nb:=(cn (b:Nat)).1) (xs:=(cn (a:Nat)).2) (ys:=(cn (b:Nat)).2) (BV _) (BV _) (by have:=A6 (b:Nat);unfold L at this;rw[this];omega) (by rw[Lt];omega) (by rw[Lt];omega);rw[show rv (cn (a:Nat)).1 (cn (a:Nat)).2=(a:Nat) from A6 _,show rv (cn (b:Nat)).1 (cn (b:Nat)).2=(b:Nat) from A6 _,B1 (by omega),<- Ayt] at hq;have hm:=GO a (show 0<b by omega);have step:Ap NE (H4 (cn (a:Nat)) (cn (b:Nat)) (false,[])) .norm (H4 (cn (b:Nat)) (cn ((a % b:Nat):Int)) (false,[])):=by
     by_cases h3:(M a).length<=2
     ·exact Axi (cn (a:Nat)) (cn (b:Nat)) (false,[]) _ _ (by rw[Lt];simp;omega) (by rw[Lt];simp;omega) (by rw[Lt];simp;omega) hq
     ·exact Axj (cn (a:Nat)) (cn (b:Nat)) (false,[]) _ _ (by rw[Lt];simp;omega) (by rw[Lt];simp;omega) hq
    have kr:Bv K ((a % b:Nat):Int):=by
     unfold Bv at *
     rw[BW] at *
     exact DF (uY hm) kb
    have e:J7 b (a % b)=J7 a b:=by rw[Lf b,<- A3k,Lf b a]
    rcases ih b (a % b) (by omega) kb kr with ⟨y,z,h⟩ | ⟨x,y,h⟩
    ·rw[e] at h;exact Adi ⟨y,z,CE.loop step h⟩
    ·rw[e] at h;exact S8 ⟨x,y,CE.loop step h⟩
theorem cW{na nb:Bool}{xs ys:LI}(hx:A_ xs)(hy:A_ ys)(h1:xs.length<1048576)(h2:ys.length<1048576) :
  RQ 159 [o [B na,sL lm xs],o [B nb,sL lm ys]] (Ag (Dr (rv na xs) (rv nb ys):Nat)):=by
 have a1:=Vw (neg:=na) hx (by omega);have a2:=Vw (neg:=nb) hy (by omega);have f1:=Y2 (neg:=na) hx;have f2:=Y2 (neg:=nb) hy;have g1:Bv (max xs.length ys.length) (((rv na xs).natAbs:Nat):Int):=by
  unfold Bv at *;rw[BW];exact CG f1 (BM (by decide) (by omega))
 have g2:Bv (max xs.length ys.length) (((rv nb ys).natAbs:Nat):Int):=by
  unfold Bv at *;rw[BW];exact CG f2 (BM (by decide) (by omega))
 rcases Ahl (K:=max xs.length ys.length) (by omega) _ _ _ (Ao _) g1 g2 with ⟨y,z,h⟩ | ⟨x,y,h⟩
 ·exact vJ na nb xs ys _ _ _ _ _ a1 a2 h
 ·exact vK na nb xs ys _ _ _ _ _ a1 a2 h
def TQE:C8:=TQD
theorem Db:Co DK TQE:=vO
def bE:ICode:=c A9l 94 56
def SA(N:Nat)(cs:List AV)(i:Int):Aj:=(C (H N cs)::(W 1 (C (F O 0)::(C (F O i)::(W 16 [])))))
theorem A5y(N:Nat)(cs:List AV)(i:Int)(r:Rn)(v:Int)(c1:A (i>=0)=true)(c2:(v==0)=true)(n1:0<=i/\i<(N:Int))(n2:Bj (g (D i*2) cs) 0 2 false=some (o [B r.1,H r.2.length (lm r.2)]))(n3:RQ 101 [o [B r.1,H r.2.length (lm r.2)]] (F O v)):Ap bE (SA N cs i) .norm (SA N cs (I O (i-1))):=G x 300 [bT,.v (o [B r.1,H r.2.length (lm r.2)]),.r (F O v),bT] Mu (JL c1 n1 n2 n3 c2) (by kernel_rfl)
theorem A5z(N:Nat)(cs:List AV)(i:Int)(r:Rn)(v:Int)(c1:A (i>=0)=true)(c2:(v==0)=false)(n1:0<=i/\i<(N:Int))(n2:Bj (g (D i*2) cs) 0 2 false=some (o [B r.1,H r.2.length (lm r.2)]))(n3:RQ 101 [o [B r.1,H r.2.length (lm r.2)]] (F O v)):Ap bE (SA N cs i) (.exit 0) (SA N cs i):=G x 300 [bT,.v (o [B r.1,H r.2.length (lm r.2)]),.r (F O v),bF] Mu (JL c1 n1 n2 n3 c2) (by kernel_rfl)
theorem A6a(N:Nat)(cs:List AV)(i:Int)(c1:A (i>=0)=false):Ap bE (SA N cs i) (.exit 0) (SA N cs i):=G x 300 [bF,bF] Mu (J0 c1 Fc) (by kernel_rfl)
theorem cX{n:Int}:BQ n=0↔n=0:=by unfold BQ;split <;> (try split) <;> omega
theorem Ayu(rs:List Rn)(hg:∀ r∈rs,AU 1048576 r)(hN:rs.length<=1048576):∀ m,m<=rs.length->Ap (.loop bE) (SA rs.length (pc rs) ((m:Int)-1)) (.exit 0) (SA rs.length (pc rs) (((b (N rs) m:Nat):Int)-1)):=by
 intro m;induction m with
 | zero =>
  intro _;exact Ah (A6a rs.length (pc rs) (((0:Nat):Int)-1) (by simp))
 | succ m ih =>
  intro hm;have e0:((m+1:Nat):Int)-1=(m:Int):=by omega
  have e1:I O ((m:Int)-1)=(m:Int)-1:=Bg (by omega) (by omega);have hx:=QN (rs:=rs) (i:=m) (by omega);have gm:=Bo hg m;have hs:=Ka (neg:=(rs.getD m z0).1) gm.1 gm.2;rw[e0];simp only[b];rw[CU];by_cases h0:L (rs.getD m z0)=0
  ·rw[if_pos h0];have h1:=A5y rs.length (pc rs) (m:Int) (rs.getD m z0) (BQ (L (rs.getD m z0))) (by simp) (by rw[beq_iff_eq];exact cX.2 h0) (by omega) (by rw[R];exact hx) hs;rw[e1] at h1;exact CE.loop h1 (ih (by omega))
  ·rw[if_neg h0,e0];exact Ah (A5z rs.length (pc rs) (m:Int) (rs.getD m z0) (BQ (L (rs.getD m z0))) (by simp) (by rw[beq_eq_false_iff_ne];exact fun h=>h0 (cX.1 h)) (by omega) (by rw[R];exact hx) hs)
theorem Q_{rs:List Rn}(hg:∀ r∈rs,AU 1048576 r)(hN:rs.length<=1048576):RQ 53 [sL pc rs] (F O (((b (N rs) rs.length:Nat):Int)-1)):=by
 have e1:I O ((rs.length:Int)-1)=(rs.length:Int)-1:=Bg (by omega) (by omega);have hl:Ap (.loop bE) (SA rs.length (pc rs) (I O ((rs.length:Int)-1))) (.exit 0) (SA rs.length (pc rs) (((b (N rs) rs.length:Nat):Int)-1)):=by
  rw[e1];exact Ayu rs hg hN rs.length (Ao _)
 exact OO A9l (C (sL pc rs)::(W 1 (C (F O (((b (N rs) rs.length:Nat):Int)-1))::(C (F O (((b (N rs) rs.length:Nat):Int)-1))::(W 15 (C (F O (((b (N rs) rs.length:Nat):Int)-1))::[])))))) (CE.seq (Er (t:=(C (sL pc rs)::(W 1 (C (F O 0)::(W 17 []))))) (ex := .norm) (ps:=[]) x 300 [] [0,2] (by kernel_rfl) trivial)
  (CE.seq (Er (t:=(C (sL pc rs)::(W 1 (C (F O 0)::(C (F O (I O ((rs.length:Int)-1)))::(W 16 [])))))) (ex := .norm) (ps:=[]) x 300 [] Mu (by kernel_rfl) trivial)
  (CE.seq (CE.block hl)
  (Er (t:=(C (sL pc rs)::(W 1 (C (F O (((b (N rs) rs.length:Nat):Int)-1))::(C (F O (((b (N rs) rs.length:Nat):Int)-1))::(W 15 (C (F O (((b (N rs) rs.length:Nat):Int)-1))::[]))))))) (ex := .ret) (ps:=[]) x 300 [] [0,2,3,19] (by kernel_rfl) trivial))))
def lF:ICode:=c AAb 91 500
def W9(N:Nat)(cs:List AV)(n:Nat)(os:List AV)(m:Int)(i:Int):Aj:=(C (H N cs)::(W 1 (X 2 0 []::(W 1 (X 2 n os::(W 9 (C (F O m)::(C (F O i)::(W 12 [])))))))))
theorem A6b(N:Nat)(cs:List AV)(n:Nat)(os:List AV)(m:Int)(i:Int)(ds:List AV)(r:Rn)(v:Int)(c1:A (i<m)=true)(n1:0<=i/\i<(N:Int))(n2:Bj (g (D i*2) cs) 0 2 false=some (o [B r.1,H r.2.length (lm r.2)]))(n3:RQ 113 [o [B r.1,H r.2.length (lm r.2)]] (o [B (A (v<0)),H ((M (E v)).length) (lm (M (E v)))]))(n4:0<=i/\i<(n:Int))(n5:C5 os (D i*2) [B (A (v<0)),H ((M (E v)).length) (lm (M (E v)))]=some ds):Ap lF (W9 N cs n os m i) .norm (W9 N cs n ds m (I O (i+1))):=G x 300 [bT,.v (o [B r.1,H r.2.length (lm r.2)]),.r (o [B (A (v<0)),H ((M (E v)).length) (lm (M (E v)))]),.l ds] [0,2,4,14,15] (JT c1 n1 n2 n3 n4 n5) (by kernel_rfl)
theorem A6c(N:Nat)(cs:List AV)(n:Nat)(os:List AV)(m:Int)(i:Int)(c1:A (i<m)=false):Ap lF (W9 N cs n os m i) (.exit 0) (W9 N cs n os m i):=G x 300 [bF] [0,2,4,14,15] (Jx c1) (by kernel_rfl)
theorem Ayv(rs:List Rn)(hg:∀ r∈rs,AU 1048576 r)(hN:rs.length<=1048576)(n:Nat)(hn:n<=rs.length):∀ (r i:Nat),i+r=n ->
  Ap (.loop lF) (W9 rs.length (pc rs) n (pc (Hc (fun j=>cn (L (rs.getD j z0))) i r)) (n:Int) (i:Int)) (.exit 0) (W9 rs.length (pc rs) n (pc (Hc (fun j=>cn (L (rs.getD j z0))) n 0)) (n:Int) (n:Int)):=by
 intro r;induction r with
 | zero =>
  intro i hi;have hi':i=n:=by omega
  subst hi';exact Ah (A6c rs.length (pc rs) i _ (i:Int) (i:Int) (by simp))
 | succ r ih =>
  intro i hi;have ei:I O ((i:Int)+1)=((i+1:Nat):Int):=by rw[Bg (by omega) (by omega)];omega
  have hx:=QN (rs:=rs) (i:=i) (by omega);have gm:=Bo hg i;have hs:=M4 (neg:=(rs.getD i z0).1) gm.1 gm.2;have hst:=gS (rs:=Hc (fun j=>cn (L (rs.getD j z0))) i (r+1)) (i:=i) (r:=cn (L (rs.getD i z0))) (by rw[QP];omega);rw[Ww (fun j=>cn (L (rs.getD j z0))) i r] at hst;have h1:=A6b rs.length (pc rs) n _ (n:Int) (i:Int) _ (rs.getD i z0) (L (rs.getD i z0)) (by simp;omega) (by omega) (by rw[R];exact hx) hs (by omega) (by rw[R];exact hst);rw[ei] at h1;exact CE.loop h1 (ih (i+1) (by omega))
theorem Ahm(rs:List Rn)(hd:RQ 53 [sL pc rs] (F O (((b (N rs) rs.length:Nat):Int)-1)))(hz:((I O ((((b (N rs) rs.length:Nat):Int)-1)+1))==0)=true):RQ 66 [sL pc rs] (P 2 0 []):=Jz (ps:=[RQ 53 [sL pc rs] (F O (((b (N rs) rs.length:Nat):Int)-1)),((I O ((((b (N rs) rs.length:Nat):Int)-1)+1))==0)=true]) x rfl 300 rfl [.r (F O (((b (N rs) rs.length:Nat):Int)-1)),bT] (by kernel_rfl) ⟨hd,hz,trivial⟩
theorem Ahn(rs ss:List Rn)(hd:RQ 53 [sL pc rs] (F O (((b (N rs) rs.length:Nat):Int)-1)))(hz:((I O ((((b (N rs) rs.length:Nat):Int)-1)+1))==0)=false)(hmk:0<=I O ((((b (N rs) rs.length:Nat):Int)-1)+1)/\I O ((((b (N rs) rs.length:Nat):Int)-1)+1)<=1048576)(hl:Ap (.loop lF) (W9 rs.length (pc rs) (D (I O ((((b (N rs) rs.length:Nat):Int)-1)+1))) (CD [B false,H 0 []] (D (I O ((((b (N rs) rs.length:Nat):Int)-1)+1)))) (((D (I O ((((b (N rs) rs.length:Nat):Int)-1)+1))):Nat):Int) 0) (.exit 0) (W9 rs.length (pc rs) (D (I O ((((b (N rs) rs.length:Nat):Int)-1)+1))) (pc ss) (((D (I O ((((b (N rs) rs.length:Nat):Int)-1)+1))):Nat):Int) (((D (I O ((((b (N rs) rs.length:Nat):Int)-1)+1))):Nat):Int))):RQ 66 [sL pc rs] (P 2 (D (I O ((((b (N rs) rs.length:Nat):Int)-1)+1))) (pc ss)):=OO AAb (C (sL pc rs)::(W 1 (X 2 (D (I O ((((b (N rs) rs.length:Nat):Int)-1)+1))) (pc ss)::(W 11 (C (F O (((D (I O ((((b (N rs) rs.length:Nat):Int)-1)+1))):Nat):Int))::(C (F O (((D (I O ((((b (N rs) rs.length:Nat):Int)-1)+1))):Nat):Int))::(W 12 []))))))) (CE.seq (G (t:=(vp rs::(W 1 (X 2 0 []::(W 25 []))))) x 300 [] [0,2] a0) (CE.seq (G (t:=(vp rs::(W 1 (X 2 0 []::(u (I O ((((b (N rs) rs.length:Nat):Int)-1)+1))::(W 2 (vp rs::(u (((b (N rs) rs.length:Nat):Int)-1)::(u (I O ((((b (N rs) rs.length:Nat):Int)-1)+1))::(W 19 [])))))))))) x 300 [.r (F O (((b (N rs) rs.length:Nat):Int)-1))] [0,2,3,6,7,8] (Jx (show RQ 53 [sL pc rs] (F O (((b (N rs) rs.length:Nat):Int)-1)) from hd))) (CE.seq (G (t:=(vp rs::(W 1 (X 2 0 []::(u (I O ((((b (N rs) rs.length:Nat):Int)-1)+1))::(W 2 (vp rs::(u (((b (N rs) rs.length:Nat):Int)-1)::(u (I O ((((b (N rs) rs.length:Nat):Int)-1)+1))::(u (I O ((((b (N rs) rs.length:Nat):Int)-1)+1))::(C (B ((I O ((((b (N rs) rs.length:Nat):Int)-1)+1))==0))::(W 17 [])))))))))))) x 300 [bF] [0,2,3,6,7,8,9,10] (Jx (show ((I O ((((b (N rs) rs.length:Nat):Int)-1)+1))==0)=false from hz))) (CE.seq (G (t:=(vp rs::(W 1 (X 2 0 []::(u (I O ((((b (N rs) rs.length:Nat):Int)-1)+1))::(X 2 (D (I O ((((b (N rs) rs.length:Nat):Int)-1)+1))) (CD [B false,H 0 []] (D (I O ((((b (N rs) rs.length:Nat):Int)-1)+1))))::(W 1 (vp rs::(u (((b (N rs) rs.length:Nat):Int)-1)::(u (I O ((((b (N rs) rs.length:Nat):Int)-1)+1))::(u (I O ((((b (N rs) rs.length:Nat):Int)-1)+1))::(C (B ((I O ((((b (N rs) rs.length:Nat):Int)-1)+1))==0))::(u (I O ((((b (N rs) rs.length:Nat):Int)-1)+1))::(W 16 [])))))))))))))) x 300 [] [0,2,3,4,6,7,8,9,10,11] (Jx (show 0<=(I O ((((b (N rs) rs.length:Nat):Int)-1)+1))/\(I O ((((b (N rs) rs.length:Nat):Int)-1)+1))<=1048576 from hmk))) (CE.seq (CE.seq (G (t:=(vp rs::(W 1 (X 2 0 []::(W 1 (X 2 (D (I O ((((b (N rs) rs.length:Nat):Int)-1)+1))) (CD [B false,H 0 []] (D (I O ((((b (N rs) rs.length:Nat):Int)-1)+1))))::(W 9 (u (((D (I O ((((b (N rs) rs.length:Nat):Int)-1)+1))):Nat):Int)::(u 0::(W 12 [])))))))))) x 300 [] [0,2,4,14,15] a0) (CE.block hl)) (G (t:=(vp rs::(W 1 (X 2 (D (I O ((((b (N rs) rs.length:Nat):Int)-1)+1))) (pc ss)::(W 11 (u (((D (I O ((((b (N rs) rs.length:Nat):Int)-1)+1))):Nat):Int)::(u (((D (I O ((((b (N rs) rs.length:Nat):Int)-1)+1))):Nat):Int)::(W 12 [])))))))) (ex := .ret) x 300 [] [0,2,14,15] a0))))))
theorem Kf{rs:List Rn}(hg:∀ r∈rs,AU 1048576 r)(hN:rs.length<=1048576):RQ 66 [sL pc rs] (P 2 (Y (N rs)).length (pk (Y (N rs)))):=by
 have hle:=KO (N rs) rs.length;have hlen:(Y (N rs)).length=b (N rs) rs.length:=by rw[LK,AW]
 have hd:=Q_ hg hN;have e1:I O ((((b (N rs) rs.length:Nat):Int)-1)+1)=((b (N rs) rs.length:Nat):Int):=by rw[Bg (by omega) (by omega)];omega
 have e2:(D (I O ((((b (N rs) rs.length:Nat):Int)-1)+1)))=b (N rs) rs.length:=by rw[e1,R]
 by_cases h0:b (N rs) rs.length=0
 ·have h:=Ahm rs hd (by rw[e1,h0];rfl);have:Y (N rs)=[]:=A5 (by omega);rw[this];exact h
 ·have hl:=Ayv rs hg hN (b (N rs) rs.length) hle (b (N rs) rs.length) 0 (by omega);rw[Uk,<- QO] at hl;have h:=Ahn rs _ hd (by rw[e1,beq_eq_false_iff_ne];omega) (by rw[e1];omega) (by rw[e2];exact hl);rw[e2,Ul] at h;have e3:(Aq (b (N rs) rs.length)).map (fun j=>cn (L (rs.getD j z0)))=(Y (N rs)).map cn:=by
   rw[<- Vt,hlen];apply GM;intro i _;rw[Dl,CU]
  rw[e3] at h;rw[hlen];exact h
def Yd:ICode:=c Aqb 93 116
def Ra(N:Nat)(cs:List AV)(n:Nat)(os:List AV)(m:Int)(i:Int):Aj:=(C (H N cs)::(W 1 (X 2 0 []::(X 2 n os::(W 5 (C (F O m)::(C (F O i)::(W 12 []))))))))
theorem Ayw(N:Nat)(cs:List AV)(n:Nat)(os:List AV)(m:Int)(i:Int)(ds:List AV)(r:Rn)(v:Int)(c1:A (i<m)=true)(n1:0<=i/\i<(N:Int))(n2:Bj (g (D i*2) cs) 0 2 false=some (o [B r.1,H r.2.length (lm r.2)]))(n3:RQ 131 [o [B r.1,H r.2.length (lm r.2)]] (o [B (A (v<0)),H ((M (E v)).length) (lm (M (E v)))]))(n4:0<=i/\i<(n:Int))(n5:C5 os (D i*2) [B (A (v<0)),H ((M (E v)).length) (lm (M (E v)))]=some ds):Ap Yd (Ra N cs n os m i) .norm (Ra N cs n ds m (I O (i+1))):=G x 300 [bT,.v (o [B r.1,H r.2.length (lm r.2)]),.r (o [B (A (v<0)),H ((M (E v)).length) (lm (M (E v)))]),.l ds] [0,2,3,9,10] (JT c1 n1 n2 n3 n4 n5) (by kernel_rfl)
theorem Ayx(N:Nat)(cs:List AV)(n:Nat)(os:List AV)(m:Int)(i:Int)(c1:A (i<m)=false):Ap Yd (Ra N cs n os m i) (.exit 0) (Ra N cs n os m i):=G x 300 [bF] [0,2,3,9,10] (Jx c1) (by kernel_rfl)
theorem Aho(rs:List Rn)(hg:∀ r∈rs,AU 1048576 r)(hN:rs.length<=1048576)(n:Nat)(hn:n<=rs.length):∀ (r i:Nat),i+r=n ->
  Ap (.loop Yd) (Ra rs.length (pc rs) n (pc (Hc (fun j=>cn (-(L (rs.getD j z0)))) i r)) (n:Int) (i:Int)) (.exit 0) (Ra rs.length (pc rs) n (pc (Hc (fun j=>cn (-(L (rs.getD j z0)))) n 0)) (n:Int) (n:Int)):=by
 intro r;induction r with
 | zero =>
  intro i hi;have hi':i=n:=by omega
  subst hi';exact Ah (Ayx rs.length (pc rs) i _ (i:Int) (i:Int) (by simp))
 | succ r ih =>
  intro i hi;have ei:I O ((i:Int)+1)=((i+1:Nat):Int):=by rw[Bg (by omega) (by omega)];omega
  have hx:=QN (rs:=rs) (i:=i) (by omega);have gm:=Bo hg i;have hs:=cK (neg:=(rs.getD i z0).1) gm.1 gm.2;have hst:=gS (rs:=Hc (fun j=>cn (-(L (rs.getD j z0)))) i (r+1)) (i:=i) (r:=cn (-(L (rs.getD i z0)))) (by rw[QP];omega);rw[Ww (fun j=>cn (-(L (rs.getD j z0)))) i r] at hst;have h1:=Ayw rs.length (pc rs) n _ (n:Int) (i:Int) _ (rs.getD i z0) (-(L (rs.getD i z0))) (by simp;omega) (by omega) (by rw[R];exact hx) hs (by omega) (by rw[R];exact hst);rw[ei] at h1;exact CE.loop h1 (ih (i+1) (by omega))
theorem Ayy(rs ss:List Rn)(hmk:0<=(rs.length:Int)/\(rs.length:Int)<=1048576)(hl:Ap (.loop Yd) (Ra rs.length (pc rs) (D (rs.length:Int)) (CD [B false,H 0 []] (D (rs.length:Int))) (rs.length:Int) 0) (.exit 0) (Ra rs.length (pc rs) (D (rs.length:Int)) (pc ss) (rs.length:Int) (rs.length:Int))):RQ 117 [sL pc rs] (P 2 (D (rs.length:Int)) (pc ss)):=OO Aqb (C (sL pc rs)::(W 1 (X 2 (D (rs.length:Int)) (pc ss)::(W 6 (C (F O (rs.length:Int))::(C (F O (rs.length:Int))::(W 12 []))))))) (CE.seq (G (t:=(vp rs::(W 1 (X 2 0 []::(W 20 []))))) x 300 [] [0,2] a0) (CE.seq (G (t:=(vp rs::(W 1 (X 2 0 []::(X 2 (D (rs.length:Int)) (CD [B false,H 0 []] (D (rs.length:Int)))::(W 1 (vp rs::(u (rs.length:Int)::(W 16 []))))))))) x 300 [] [0,2,3,5,6] (Jx (show 0<=(rs.length:Int)/\(rs.length:Int)<=1048576 from hmk))) (CE.seq (CE.seq (G (t:=(vp rs::(W 1 (X 2 0 []::(X 2 (D (rs.length:Int)) (CD [B false,H 0 []] (D (rs.length:Int)))::(W 5 (u (rs.length:Int)::(u 0::(W 12 []))))))))) x 300 [] [0,2,3,9,10] a0) (CE.block hl)) (G (t:=(vp rs::(W 1 (X 2 (D (rs.length:Int)) (pc ss)::(W 6 (u (rs.length:Int)::(u (rs.length:Int)::(W 12 [])))))))) (ex := .ret) x 300 [] [0,2,9,10] a0))))
theorem M6{rs:List Rn}(hg:∀ r∈rs,AU 1048576 r)(hN:rs.length<=1048576):RQ 117 [sL pc rs] (P 2 rs.length (pk (Cp (N rs)))):=by
 have hl:=Aho rs hg hN rs.length (Ao _) rs.length 0 (by omega);rw[Uk,<- QO] at hl;have h:=Ayy rs _ (by omega) (by rw[R];exact hl);rw[R,Ul] at h;have e3:(Aq rs.length).map (fun j=>cn (-(L (rs.getD j z0))))=(Cp (N rs)).map cn:=by
  have hq:(Cp (N rs)).length=rs.length:=by simp[Cp,N]
  rw[<- Vt,hq];apply GM;intro i _;rw[HQ,CU]
 rw[e3] at h;exact h
def Vl:ICode:=c Asf 93 116
def NK(rs:List Rn)(w:Rn)(i:Int)(z:Rn):Aj:=(C (sL pc rs)::(W 1 (Ay [B z.1,H z.2.length (lm z.2)]::(Ay [B w.1,H w.2.length (lm w.2)]::(C (F O i)::(W 19 []))))))
theorem Ayz(rs:List Rn)(w:Rn)(i:Int)(z:Rn)(b g:Int)(c1:A (i>=0)=true)(c2:(b != 1)=true)(n1:0<=i/\i<(rs.length:Int))(n2:RQ 102 [Az w] (F O b))(n3:RQ 159 [Az w,Az (rs.getD (D i) z0)] (Ag g)):Ap Vl (NK rs w i z) .norm (NK rs (cn g) (I O (i-1)) z):=(J Db [bT,.r (F O b),bT,.v (Az (rs.getD (D i) z0)),.r (Ag g)] KK (JT c1 n2 c2 n1 (BP n1) n3))
theorem Aza(rs:List Rn)(w:Rn)(i:Int)(z:Rn)(b:Int)(c1:A (i>=0)=true)(c2:(b != 1)=false)(n1:RQ 102 [Az w] (F O b)):Ap Vl (NK rs w i z) (.exit 0) (NK rs w i z):=(J Db [bT,.r (F O b),bF] KK (JV c1 n1 c2))
theorem Azb(rs:List Rn)(w:Rn)(i:Int)(z:Rn)(c1:A (i>=0)=false):Ap Vl (NK rs w i z) (.exit 0) (NK rs w i z):=(J Db [bF,bF] KK (J0 c1 Fc))
theorem Azc(rs:List Rn)(w z:Rn)(i:Int)(hl1:Ap (.loop Vl) (NK rs (false,[]) (I O ((rs.length:Int)-1)) (false,[])) (.exit 0) (NK rs w i z)):RQ 157 [sL pc rs] (Az w):=OO Asf (W 2 (Ay [B w.1,H w.2.length (lm w.2)]::(W 21 []))) (CE.asc (Av (CE.seq (J Db [] KK a0) (CE.seq (CE.block hl1) (J Db [] [2] a0)))))
def Vi:ICode:=c Apy 90 980
def NL(k:Nat)(os:List Rn)(w:Rn)(n:Int)(i:Int):Aj:=(W 3 (X 2 k (pc os)::(Ay [B w.1,H w.2.length (lm w.2)]::(W 9 (C (F O n)::(C (F O i)::(W 16 [])))))))
theorem Azd(k:Nat)(os:List Rn)(w:Rn)(n:Int)(i:Int)(q r:Int)(c1:A (i<n)=true)(n1:0<=i/\i<(k:Int))(n2:os.length=k)(n3:RQ 158 [Az (os.getD (D i) z0),Az w] (Ar [Ag q,Ag r])):Ap Vi (NL k os w n i) .norm (NL k (os.set (D i) (cn q)) w n (I O (i+1))):=(J Db [bT,.v (Az (os.getD (D i) z0)),.r (Ar [Ag q,Ag r]),.l (pc (os.set (D i) (cn q)))] [3,4,14,15] (JT c1 n1 (Hn n2 n1) n3 n1 (HR (r:=cn q) n2 n1)))
theorem Aze(k:Nat)(os:List Rn)(w:Rn)(n:Int)(i:Int)(c1:A (i<n)=false):Ap Vi (NL k os w n i) (.exit 0) (NL k os w n i):=(J Db [bF] [3,4,14,15] (Jx c1))
theorem xA(rs ts os:List Rn)(w:Rn)(g b n i:Int)(k:Nat)(c1:A (b>1)=true)(n1:RQ 66 [sL pc rs] (P 2 ts.length (pc ts)))(n2:Aay (pc ts) (fun c => !X3 c)=true)(n3:Hr (Ag g)=true)(n4:RQ 157 [sL pc ts] (Ag g))(n5:RQ 102 [Ag g] (F O b))(hl6:Ap (.loop Vi) (NL ts.length ts (cn g) (ts.length:Int) 0) (.exit 0) (NL k os w n i)):RQ 115 [sL pc rs] (P 2 k (pc os)):=OO Apy (W 2 (X 2 k (pc os)::(W 29 []))) (CE.asc (CE.asc (Av (CE.seq (J (t:=(vp rs::(W 1 (X 2 0 []::(X 2 ts.length (pc ts)::(bN g::(W 7 (C (B (A (b>1)))::(W 19 []))))))))) Db [.r (P 2 ts.length (pc ts)),.r (Ag g),.r (F O b)] [0,2,3,4,12] (JL n1 n2 n3 n4 n5)) (CE.seq (K0 (by rfl) c1 (CE.seq (J Db [] [3,4,14,15] a0) (CE.block hl6))) (J Db [] [2] a0))))))
theorem xB(rs ts:List Rn)(g b:Int)(c1:A (b>1)=false)(n1:RQ 66 [sL pc rs] (P 2 ts.length (pc ts)))(n2:Aay (pc ts) (fun c => !X3 c)=true)(n3:Hr (Ag g)=true)(n4:RQ 157 [sL pc ts] (Ag g))(n5:RQ 102 [Ag g] (F O b)):RQ 115 [sL pc rs] (P 2 ts.length (pc ts)):=OO Apy (W 2 (X 2 ts.length (pc ts)::(W 29 []))) (CE.asc (CE.asc (Av (CE.seq (J (t:=(vp rs::(W 1 (X 2 0 []::(X 2 ts.length (pc ts)::(bN g::(W 7 (C (B (A (b>1)))::(W 19 []))))))))) Db [.r (P 2 ts.length (pc ts)),.r (Ag g),.r (F O b)] [0,2,3,4,12] (JL n1 n2 n3 n4 n5)) (CE.seq (K1 (by rfl) c1 (J (t:=(W 2 (X 2 0 []::(X 2 ts.length (pc ts)::(W 28 []))))) Db [] [2,3] a0)) (J Db [] [2] a0))))))
theorem xC(rs ts:List Rn)(s:Int)(c1:A ((rs.length:Int)>0)=true)(c2:A (s<0)=true)(n1:0<=(I O ((rs.length:Int)-1))/\(I O ((rs.length:Int)-1))<(rs.length:Int))(n2:RQ 101 [Az (rs.getD (D (I O ((rs.length:Int)-1))) z0)] (F O s))(n3:RQ 117 [sL pc rs] (P 2 ts.length (pc ts))):RQ 155 [sL pc rs] (P 2 ts.length (pc ts)):=i (fn:=iF Mv Asc) Db rfl 400 rfl [bT,.v (Az (rs.getD (D (I O ((rs.length:Int)-1))) z0)),.r (F O s),bT,.r (P 2 ts.length (pc ts))] (JT c1 n1 (BP n1) n2 c2 n3)
theorem xD(rs:List Rn)(s:Int)(c1:A ((rs.length:Int)>0)=true)(c2:A (s<0)=false)(n1:0<=(I O ((rs.length:Int)-1))/\(I O ((rs.length:Int)-1))<(rs.length:Int))(n2:RQ 101 [Az (rs.getD (D (I O ((rs.length:Int)-1))) z0)] (F O s)):RQ 155 [sL pc rs] (sL pc rs):=i (fn:=iF Mv Asc) Db rfl 400 rfl [bT,.v (Az (rs.getD (D (I O ((rs.length:Int)-1))) z0)),.r (F O s),bF] (JL c1 n1 (BP n1) n2 c2)
theorem xE(rs:List Rn)(c1:A ((rs.length:Int)>0)=false):RQ 155 [sL pc rs] (sL pc rs):=i (fn:=iF Mv Asc) Db rfl 400 rfl [bF,bF] (J0 c1 Fc)
def Yc:ICode:=c Apz 93 116
def Rb(rs:List Rn)(k:Nat)(cs:List AV)(i:Int):Aj:=(C (sL pc rs)::(W 2 (X 2 k cs::(C (F O i)::(W 18 [])))))
theorem Azf(rs:List Rn)(k:Nat)(cs:List AV)(i:Int)(d v:Int)(c1:A (i<=d)=true)(n1:0<=i/\i<(rs.length:Int))(n2:k+1<=1048576)(n3:RQ 53 [sL pc rs] (F O d))(n4:RQ 132 [F O i] (Ag i))(n5:RQ 112 [Az (rs.getD (D i) z0),Ag i] (Ag v)):Ap Yc (Rb rs k cs i) .norm (Rb rs (k+1) (cs++([B (A (v<0)),H ((M (E v)).length) (lm (M (E v)))]:List AV)) (I O (i+1))):=(J Db [.r (F O d),bT,.v (Az (rs.getD (D i) z0)),.r (Ag i),.r (Ag v)] [0,3,4] (ND n3 c1 n1 (BP n1) n4 n5 (show Bl ([B (A (v<0)),H ((M (E v)).length) (lm (M (E v)))]:List AV)=1*2 from rfl) n2))
theorem Azg(rs:List Rn)(k:Nat)(cs:List AV)(i:Int)(d:Int)(c1:A (i<=d)=false)(n1:RQ 53 [sL pc rs] (F O d)):Ap Yc (Rb rs k cs i) (.exit 0) (Rb rs k cs i):=(J Db [.r (F O d),bF] [0,3,4] (J0 n1 c1))
theorem Azh(rs os ts:List Rn)(k:Nat)(i:Int)(hl1:Ap (.loop Yc) (Rb rs 0 ([]:List AV) 1) (.exit 0) (Rb rs k (pc os) i))(n2:RQ 66 [H k (pc os)] (P 2 ts.length (pc ts))):RQ 116 [sL pc rs] (P 2 ts.length (pc ts)):=OO Apz (W 2 (X 2 ts.length (pc ts)::(W 20 []))) (CE.asc (Av (CE.seq (J Db [] [0,3,4] a0) (CE.seq (CE.block hl1) (J Db [.r (P 2 ts.length (pc ts))] [2] (Jx n2))))))
def TRA:C8:=TQE
theorem xF:Co DK TRA:=Db
end
end Go.Proofs.YtajompaehjkgkaaGreat
namespace Go.Ai
open Classical renaming byContradiction->A1
open Function renaming comp->A8c
open Int renaming add_zero->BJ,eq_of_mul_eq_mul_left->FM,mul_assoc->AK,mul_comm->AE,mul_ediv_cancel'->JM,mul_ediv_cancel_left->Cc,mul_ne_zero->AS,mul_neg_of_pos_of_neg->Hp,mul_nonneg->AA,mul_pos->Bp,mul_sub->Fy,mul_zero->AG,natAbs_mul->BS,natAbs_natCast->BW,natAbs_of_nonneg->MN,natCast_mul->DI,neg_mul->NM,not_le->FD,ofNat_dvd_left->Hl,pos_of_mul_pos_right->FZ,pow_succ->A7,sub_zero->F8,zero_mul->BU
open List renaming eq_nil_of_length_eq_zero->A5,getD_eq_getElem?_getD->Z,getElem?_eq_getElem->Ad,getElem?_eq_none->AI,getElem?_map->Cs,getElem?_replicate_of_lt->Anr,length->Bl,length_cons->B0,length_map->Q,length_pos_iff->Ak,length_replicate->Ew,length_set->Ba,map_congr_left->GM,map_cons->Cx,map_map->A3y,map_take->PZ,mem_iff_getElem->ACl,range->Aq,replicate->l,replicate_succ->GL
open Nat renaming add_comm->Gt,add_mul->DE,eq_zero_or_pos->Fo,gcd->J7,le_add_right->Si,le_mul_of_pos_left->aR,le_refl->Ao,le_trans->Bm,mul_assoc->Fm,mul_comm->CY,mul_le_mul_left->z,mul_le_mul_right->AJ,mul_one->FR,mul_succ->Sh,one_mul->FL,pow_add->De,pow_le_pow_right->BM,pow_succ->Gx,sub_add_cancel->Nr
open Or renaming inr->S8
def w:LI->Nat
 | []=>0
 | x::xs=>J7 x.natAbs (w xs)
theorem Mb(d:Nat):∀ xs:LI,d∣w xs↔∀ i,(d:Int)∣xs.getD i 0
 | []=>by simp[w]
 | x::xs=>by
  have ih:=Mb d xs;simp only[w,Nat.dvd_gcd_iff,ih];constructor
  ·rintro⟨h1,h2⟩ i;cases i with
   | zero=>simpa using Hl.2 h1
   | succ i=>simpa using h2 i
  ·intro h;refine⟨Hl.1 (by simpa using h 0),fun i=>by simpa using h (i+1)⟩
theorem Ii(xs:LI)(i:Nat):(w xs:Int)∣xs.getD i 0:=(Mb _ xs).1 (Nat.dvd_refl _) i
theorem RP{xs ys:LI}(h:∀ i,xs.getD i 0=ys.getD i 0):w xs=w ys :=
 Nat.dvd_antisymm ((Mb _ _).2 fun i=>h i ▸ Ii xs i) ((Mb _ _).2 fun i=>h i ▸ Ii ys i)
theorem YM(xs:LI):w (Y xs)=w xs:=RP (Dl xs)
theorem Kh{xs:LI}:w xs=0↔∀ i,xs.getD i 0=0:=by
 constructor
 ·intro h i;have:=Ii xs i;rw[h] at this;exact Int.zero_dvd.1 this
 ·intro h;have:w xs=w []:=RP fun i=>by rw[h i];simp
  rw[this];rfl
theorem Jf(k:Int):∀ xs:LI,w (As k xs)=k.natAbs*w xs
 | []=>rfl
 | x::xs=>by
  have ih:=Jf k xs;simp only[As,Cx,w] at *
  rw[ih,BS,Nat.gcd_mul_left]
theorem Dn{xs:LI}:Y xs=[]↔∀ i,xs.getD i 0=0:=by
 constructor
 ·intro h i;rw[<- Dl,h];simp
 ·intro h;have:Y xs=Y []:=Gb fun i=>by rw[h i];simp
  rw[this];rfl
theorem Ki{xs:LI}(h:Y xs ≠ []):0<w xs:=by
 rcases Fo (w xs) with g | g
 ·exact absurd (Dn.2 (Kh.1 g)) h
 ·exact g
theorem Jg{k:Int}(hk:k ≠ 0)(xs:LI):Y (As k xs)=As k (Y xs):=by
 have e:∀ n,b (As k xs) n=b xs n:=by
  intro n;induction n with
  | zero=>rfl
  | succ n ih =>
   simp only[b,ih,m];by_cases h:xs.getD n 0=0
   ·rw[h,AG]
   ·rw[if_neg h,if_neg (AS hk h)]
 simp only[Y];rw[e,show (As k xs).length=xs.length by simp[As]];simp[As,PZ]
def prim(xs:LI):LI:=(Y xs).map fun x=>x / (w xs:Int)
theorem Kj(xs:LI)(i:Nat):(prim xs).getD i 0=xs.getD i 0 / (w xs:Int):=by
 rw[<- Dl xs i];simp only[prim,Z,Cs];cases (Y xs)[i]? <;> simp
theorem Cg(xs:LI):(prim xs).length=(Y xs).length:=by simp [prim]
theorem RR(xs:LI)(i:Nat):(w xs:Int)*(prim xs).getD i 0=xs.getD i 0:=by
 rw[Kj];exact JM (Ii xs i)
theorem Oh{xs ys:LI}(h:∀ i,xs.getD i 0=ys.getD i 0):prim xs=prim ys:=by
 simp only[prim];rw[Gb h,RP h]
theorem DY{xs:LI}:prim xs=[]↔∀ i,xs.getD i 0=0:=by
 rw[<- Dn];simp[prim]
theorem Np{k:Int}(hk:0<k)(xs:LI):prim (As k xs)=prim xs:=by
 simp only[prim];rw[Jg (by omega),Jf];simp only[As,A3y];apply GM;intro x _;simp only[A8c];rw[DI,MN (by omega),Int.mul_ediv_mul_of_pos _ _ hk]
theorem iC{k:Int}(hk:0<k){xs ys:LI}(h:∀ i,ys.getD i 0=k*xs.getD i 0):prim ys=prim xs:=by
 rw[<- Np hk xs];exact Oh fun i=>by rw[h,m]
theorem xG{xs:LI}(h:b xs xs.length=xs.length):Y xs=xs:=by simp [Y,h]
def BH(xs:LI):Prop:=Y xs=xs
theorem Hg(xs:LI):BH (Y xs):=Fs xs
theorem En{xs:LI}(h:BH xs)(hn:xs ≠ []):xs.getD (xs.length-1) 0 ≠ 0:=by
 have e:=congrArg Bl h;rw[LK] at e;rcases bX xs xs.length with g | g
 ·rw[g] at e;exact absurd (A5 e.symm) hn
 ·rw[e] at g;exact g
theorem Uu{xs:LI}(h:xs=[]\/xs.getD (xs.length-1) 0 ≠ 0):BH xs:=by
 rcases h with rfl | h
 ·rfl
 ·cases hl:xs.length with
  | zero=>rw[A5 hl];rfl
  | succ n =>
   apply xG;rw[hl];simp only[b];rw[if_neg (by rw[hl] at h;simpa using h)]
theorem nV{k:Int}(hk:k ≠ 0){xs:LI}(h:BH xs):BH (As k xs):=by
 unfold BH;rw[Jg hk,h]
theorem Nq(xs:LI):As (w xs) (prim xs)=Y xs:=by
 apply L_
 ·simp[As,Cg]
 ·intro i;rw[m,RR,Dl]
theorem C2(xs:LI):BH (prim xs):=by
 by_cases h:Y xs=[]
 ·rw[DY.2 (Dn.1 h)];rfl
 ·have hc:=Ki h;have h1:=Hg xs;rw[<- Nq] at h1;unfold BH at h1 |-;rw[Jg (by omega)] at h1;have hinj:∀ a b:LI,As (w xs) a=As (w xs) b->a=b:=by
   intro a b hab;have hl:=congrArg Bl hab;simp only[As,Q] at hl;apply L_ hl;intro i;have:=congrArg (fun l:LI=>l.getD i 0) hab;simp only[m] at this;exact FM (by omega) this
  exact hinj _ _ h1
theorem M7{xs:LI}(h:Y xs ≠ []):w (prim xs)=1:=by
 have hc:=Ki h;have h1:=Jf (w xs) (prim xs);rw[Nq,YM,BW] at h1;have h2:w xs*1=w xs*w (prim xs):=by rw[FR];exact h1
 exact (Nat.eq_of_mul_eq_mul_left hc h2).symm
theorem Vy{xs:LI}(h:w xs=1):prim xs=Y xs:=by
 simp only[prim,h];rw[show (fun x:Int=>x / ((1:Nat):Int))=id by funext x;simp];simp
theorem Ch(xs:LI):prim (prim xs)=prim xs:=by
 by_cases h:Y xs=[]
 ·rw[DY.2 (Dn.1 h)];rfl
 ·rw[Vy (M7 h)];exact C2 xs
theorem Vz{K:Nat}{x:Int}(h:Bv K x)(c:Nat):Bv K (x / (c:Int))\/¬ (c:Int)∣x:=by
 by_cases hd:(c:Int)∣x
 ·left;obtain⟨y,rfl⟩:=hd;rcases Fo c with h0 | h0
  ·subst h0;simpa using h
  ·rw[Cc _ (by omega)];unfold Bv at *
   rw[BS,BW] at h;have:=aR y.natAbs h0;omega
 ·exact S8 hd
theorem xH{K:Nat}{xs:LI}(h:∀ i,Bv K (xs.getD i 0))(i:Nat):Bv K ((prim xs).getD i 0):=by
 rw[Kj];rcases Vz (h i) (w xs) with g | g
 ·exact g
 ·exact absurd (Ii xs i) g
def Kb(K:Nat)(r:LI):Prop:=∀ i,Bv K (r.getD i 0)
theorem Kb.mono{J K:Nat}{r:LI}(h:Kb J r)(hk:J<=K):Kb K r:=fun i=>(h i).mono hk
theorem Kb.mem{K:Nat}{r:LI}(h:Kb K r):∀ x∈r,Bv K x:=fun x hx=>by
 obtain⟨i,hi,rfl⟩:=ACl.1 hx;have:=h i;rwa [Z,Ad hi] at this
theorem J8{K:Nat}{r:LI}(h:∀ x∈r,Bv K x):Kb K r:=Y7 h
theorem Kb.prim{K:Nat}{r:LI}(h:Kb K r):Kb K (prim r):=xH h
theorem Kb.trim{K:Nat}{r:LI}(h:Kb K r):Kb K (Y r):=fun i=>by rw [Dl];exact h i
def top(r:LI):Int:=r.getD (r.length-1) 0
def CQ(r d:LI)(a b:Int)(n:Nat):LI:=(Aq n).map fun i=>if r.length-d.length<=i then a*r.getD i 0-b*d.getD (i-(r.length-d.length)) 0 else a*r.getD i 0
theorem ED(r d:LI)(a b:Int)(n:Nat):(CQ r d a b n).length=n:=by simp [CQ]
theorem HT(f:Nat->Int)(n i:Nat):((Aq n).map f).getD i 0=if i<n then f i else 0:=by
 rw[Z,Cs];by_cases h:i<n
 ·rw[List.getElem?_range h,if_pos h];rfl
 ·rw[AI (by simpa using h),if_neg h];rfl
theorem Hi(r d:LI)(a b:Int)(n i:Nat):(CQ r d a b n).getD i 0=if i<n then (if r.length-d.length<=i then a*r.getD i 0-b*d.getD (i-(r.length-d.length)) 0 else a*r.getD i 0) else 0:=HT _ _ _
theorem Uv{J K:Nat}{r d:LI}{a b:Int}(hr:Kb J r)(hd:Kb K d)(ha:Bv K a)(hb:Bv J b)(n:Nat):Kb (J+K+1) (CQ r d a b n):=by
 intro i;rw[Hi];have h1:=(Bv.mul ha (hr i));have h2:=(Bv.mul hb (hd (i-(r.length-d.length))));rw[Gt] at h1;split
 ·split
  ·exact h1.add h2.neg
  ·exact h1.mono (by omega)
 ·exact HP _
theorem YN{r d:LI}{a b:Int}(hd:d ≠ [])(hl:d.length<=r.length)(h:a*top r=b*top d)(i:Nat):(CQ r d a b r.length).getD i 0=(CQ r d a b (r.length-1)).getD i 0:=by
 have:=Ak.2 hd;rw[Hi,Hi];by_cases h1:i<r.length-1
 ·rw[if_pos h1,if_pos (by omega)]
 ·rw[if_neg h1];split
  ·have:i=r.length-1:=by omega
   subst this;rw[if_pos (by omega),show r.length-1-(r.length-d.length)=d.length-1 by omega];unfold top at h;omega
  ·rfl
theorem nW(r d:LI)(k a b:Int)(n i:Nat):(CQ r d (k*a) (k*b) n).getD i 0=k*(CQ r d a b n).getD i 0:=by
 rw[Hi,Hi];split
 ·split
  ·rw[Fy,AK,AK]
  ·rw[AK]
 ·simp
theorem nX(r d:LI)(c a b:Int)(n:Nat):CQ r (As c d) a b n=CQ r d a (b*c) n:=by
 apply L_ (by rw[ED,ED]);intro i;rw[Hi,Hi,m,show (As c d).length=d.length by simp[As]];rw[AK]
def sg(n:Int):Int:=if n<0 then -1 else 1
theorem A6d(n:Int):sg n*n=(n.natAbs:Int):=by unfold sg;split <;> omega
def DZ(r d:LI):LI:=prim (CQ r d ((top d).natAbs:Int) (sg (top d)*top r) r.length)
def E1:Nat->LI->LI->LI
 | 0,r,_=>r
 | f+1,r,d=>if d.length<=r.length then E1 f (DZ r d) d else r
theorem Z'(r d:LI):((top d).natAbs:Int)*top r=sg (top d)*top r*top d:=by
 rw[<- A6d];grind
theorem YO{r d:LI}(hd:d ≠ [])(hl:d.length<=r.length):DZ r d=prim (CQ r d ((top d).natAbs:Int) (sg (top d)*top r) (r.length-1)) :=
 Oh (YN hd hl (Z' r d))
theorem K6{r d:LI}(hd:d ≠ [])(hl:d.length<=r.length):(DZ r d).length<r.length:=by
 have:=Ak.2 hd;rw[YO hd hl,Cg];have:=BA (CQ r d ((top d).natAbs:Int) (sg (top d)*top r) (r.length-1));rw[ED] at this;omega
theorem xI(c:Int)(d:LI):top (As c d)=c*top d:=by
 unfold top;rw[m,show (As c d).length=d.length by simp[As]]
theorem nY{c:Int}(hc:0<c)(n:Int):sg (c*n)=sg n:=by
 unfold sg;have:c*n<0↔n<0:=by
  constructor
  ·intro h;apply FD.1;intro hn;have:=AA (show 0<=c by omega) hn;omega
  ·intro h;exact Hp hc h
 simp only[this]
theorem WA{r d:LI}{c g a b:Int}(hc:0<c)(hg:0<g)(ha:g*a=((top d).natAbs:Int))(hb:g*b=sg (top d)*top r):DZ r (As c d)=prim (CQ r d a b r.length):=by
 unfold DZ;rw[nX,xI,nY hc,BS];apply iC (k:=c*g) (Bp hc hg);intro i;rw[<- nW];congr 2
 ·rw[AK,ha,DI,MN (by omega)]
 ·rw[AK c g b,hb];grind
theorem iD{c:Int}(hc:0<c)(r d:LI):DZ r (As c d)=DZ r d:=by
 rw[WA (g:=1) (a:=((top d).natAbs:Int)) (b:=sg (top d)*top r) hc (by decide) (by omega) (by omega)];rfl
theorem iE{c:Int}(hc:0<c)(d:LI):∀ (f:Nat) (r:LI),E1 f r (As c d)=E1 f r d:=by
 intro f;induction f with
 | zero=>intro r;rfl
 | succ f ih =>
  intro r;simp only[E1];rw[show (As c d).length=d.length by simp[As],iD hc,ih]
theorem WB(r d:LI):BH (DZ r d):=C2 _
theorem Fa{K:Nat}{d:LI}(h:Kb K d):Bv K (top d):=h _
theorem RS{K:Nat}{n:Int}(h:Bv K n):Bv K (n.natAbs:Int):=by unfold Bv at *;rwa [BW]
theorem Azi{K:Nat}{m n:Int}(h:Bv K n):Bv K (sg m*n):=by
 unfold Bv sg at *;split <;> simpa using h
theorem V0{J K:Nat}{r d:LI}(hr:Kb J r)(hd:Kb K d):Kb (J+K+1) (DZ r d) :=
 (Uv hr hd (RS (Fa hd)) (Azi (Fa hr)) _).prim
theorem V3{d:LI}(hd:d ≠ []){K:Nat}(hK:Kb K d):∀ (f:Nat) (r:LI) (J:Nat),r.length<=f->BH r->Kb J r ->
  BH (E1 f r d)/\(E1 f r d).length<d.length/\Kb (J+(r.length+1-d.length)*(K+1)) (E1 f r d):=by
 have hd1:=Ak.2 hd;intro f;induction f with
 | zero =>
  intro r J h1 h2 h3;exact⟨h2,by simp only[E1];omega,h3.mono (Si _ _)⟩
 | succ f ih =>
  intro r J h1 h2 h3;simp only[E1];split
  ·rename_i hl;have hp:=K6 hd hl;obtain⟨a1,a2,a3⟩:=ih (DZ r d) (J+K+1) (by omega) (WB r d) (V0 h3 hK);refine⟨a1,a2,a3.mono ?_⟩;have e:((DZ r d).length+1-d.length)+1<=r.length+1-d.length:=by omega
   have:=AJ (K+1) e;rw[DE,FL] at this;omega
  ·exact⟨h2,by omega,h3.mono (Si _ _)⟩
def BC(x y:LI):LI:=E1 x.length x y
def IW:Nat->LI->LI->LI
 | 0,x,_=>x
 | f+1,x,y=>if y=[] then x else IW f y (BC x y)
def j(x:LI):LI:=if top x<0 then Cp x else x
theorem Jh(d:LI):∀ (f:Nat) (r:LI),prim r=r->prim (E1 f r d)=E1 f r d:=by
 intro f;induction f with
 | zero=>intro r h;exact h
 | succ f ih =>
  intro r h;simp only[E1];split
  ·exact ih _ (Ch _)
  ·exact h
theorem C6{r:LI}(h:prim r=r):BH r:=h ▸ C2 r
theorem xJ{m l:Nat}(h:l<m):(m-l+2)*3^l<=3^m:=by
 obtain⟨k,rfl⟩:∃ k,m=l+1+k:=⟨m-l-1,by omega⟩;rw[show l+1+k-l+2=k+3 by omega,show l+1+k=(k+1)+l by omega,De];apply AJ;clear h;induction k with
 | zero=>decide
 | succ k ih=>rw[Gx];omega
def Kk(n m:Nat):Nat:=(n-m+2)*3^m
theorem Mc{x y:LI}{M:Nat}(hM:0<M)(hx:BH x)(hy:y ≠ [])(kx:Kb (M-1) x)(ky:Kb (M-1) y)(hl:y.length<=x.length) :
  BH (BC x y)/\(BC x y).length<y.length/\Kb (M*(x.length-y.length+2)-1) (BC x y):=by
 obtain⟨a,b,c⟩:=V3 hy ky x.length x (M-1) (Ao _) hx kx;refine⟨a,b,c.mono ?_⟩;rw[Nr hM,show x.length+1-y.length=x.length-y.length+1 by omega,CY _ M];have:M*(x.length-y.length+2)=M*(x.length-y.length+1)+M:=by rw[<- Sh]
 omega
theorem Md{n m l M T:Nat}(hl:l<m)(h:M*Kk n m<=T):M*(n-m+2)*Kk m l<=T:=by
 refine Bm ?_ h;unfold Kk;rw[Fm];apply z;apply z;exact xJ hl
theorem Rc{n m c:Nat}(h:m<=n)(hn:n<=c):Kk n m<=2*3^c:=by
 have h1:Kk n m<=2*3^n:=by
  unfold Kk;obtain⟨k,rfl⟩:∃ k,n=m+k:=⟨n-m,by omega⟩;rw[show m+k-m+2=k+2 by omega,De,CY (3^m),<- Fm];apply AJ;clear h hn;induction k with
  | zero=>decide
  | succ k ih=>rw[Gx];omega
 exact Bm h1 (z _ (BM (by decide) hn))
def At(p:LI):LI:=Y ((Aq (p.length-1)).map fun j=>p.getD (j+1) 0*((j+1:Nat):Int))
theorem Dx(p:LI)(i:Nat):(At p).getD i 0=p.getD (i+1) 0*((i+1:Nat):Int):=by
 unfold At;rw[Dl,HT];split
 ·rfl
 ·rw[B3 (xs:=p) (by omega),BU]
theorem YP{a b:Int}{us bs cs:LI}(h:∀ i,cs.getD i 0=a*us.getD i 0+b*bs.getD i 0)(x:Int):Aa cs x=a*Aa us x+b*Aa bs x:=by
 have e:Aa cs x=Aa (Ec (As a us) (As b bs)) x:=G_ (fun i=>by rw[h,DS,m,m]) x;rw[e,BY,A0,A0]
def Dz(k:Nat)(q:LI):LI:=l k 0++q
theorem Cw(k:Nat)(q:LI)(i:Nat):(Dz k q).getD i 0=if k<=i then q.getD (i-k) 0 else 0:=by
 simp only[Dz,Z,List.getElem?_append,Ew];split
 ·rename_i h;rw[if_neg (by omega),Anr h];rfl
 ·rename_i h;rw[if_pos (by omega)]
theorem D9(k:Nat)(q:LI)(x:Int):Aa (Dz k q) x=x^k*Aa q x:=by
 induction k with
 | zero=>simp[Dz]
 | succ k ih =>
  have:Dz (k+1) q=0::Dz k q:=by simp[Dz,GL]
  rw[this];simp only[Aa];rw[ih,A7];grind
theorem Tz{r d:LI}(hl:d.length<=r.length)(a b x:Int):Aa (CQ r d a b r.length) x=a*Aa r x-b*(x^(r.length-d.length)*Aa d x):=by
 rw[<- D9];have:=YP (a:=a) (b := -b) (us:=r) (bs:=Dz (r.length-d.length) d) (cs:=CQ r d a b r.length) (fun i=>by
  rw[Hi,Cw];by_cases h:i<r.length
  ·rw[if_pos h];split
   ·rw[NM];omega
   ·simp
  ·rw[if_neg h,B3 (show r.length<=i by omega)];have:d.getD (i-(r.length-d.length)) 0=0:=B3 (by omega);split
   ·rw[this];simp
   ·simp) x
 rw[this,NM];omega
theorem Fu(a:Int)(p q:LI)(i:Nat):(Bs (a::p) q).getD i 0=a*q.getD i 0+(Dz 1 (Bs p q)).getD i 0:=by
 simp only[Bs];rw[DS,m];rfl
theorem RT:∀ (p q:LI),p ≠ []->q ≠ []->(Bs p q).getD (p.length+q.length-2) 0=top p*top q/\∀ i,p.length+q.length-1<=i->(Bs p q).getD i 0=0
 | [],q,h,_=>absurd rfl h
 | [a],q,_,hq=>by
  have hq1:=Ak.2 hq;refine⟨?_,fun i hi => ?_⟩
  ·rw[Fu,Cw,show [a].length+q.length-2=q.length-1 by simp;omega];simp[Bs,top]
  ·rw[Fu,Cw,B3 (show q.length<=i by simp at hi;omega)];simp[Bs]
 | a::b::p,q,_,hq=>by
  have hq1:=Ak.2 hq;obtain⟨h1,h2⟩:=RT (b::p) q (by simp) hq;refine⟨?_,fun i hi => ?_⟩
  ·rw[Fu,Cw,if_pos (by simp;omega)];simp only[B0] at *
   rw[B3 (show q.length<=p.length+1+1+q.length-2 by omega),show p.length+1+1+q.length-2-1=p.length+1+q.length-2 by omega,h1];simp[top]
  ·rw[Fu,Cw];simp only[B0] at *
   rw[B3 (show q.length<=i by omega)];split
   ·rw[h2 _ (by omega)];simp
   ·simp
theorem Ee{p:LI}(h:Y p=[])(x:Int):Aa p x=0:=by rw [<- DR,h];rfl
theorem Uw{p q o1 r1 o2 r2:LI}{c1 c2:Int}(hq:BH q)(hq0:q ≠ [])(h1:∀ x,c1*Aa p x=Aa q x*Aa o1 x+Aa r1 x)(h2:∀ x,c2*Aa p x=Aa q x*Aa o2 x+Aa r2 x)
  (z1:∀ i,q.length-1<=i->r1.getD i 0=0) (z2:∀ i,q.length-1<=i->r2.getD i 0=0) (i:Nat):c2*o1.getD i 0=c1*o2.getD i 0:=by
 have hql:=Ak.2 hq0;have hD:Y (My (As c2 o1) (As c1 o2))=[]:=by
  apply A1;intro hD;have hev:∀ x,Aa (Bs q (Y (My (As c2 o1) (As c1 o2)))) x=Aa (My (As c1 r2) (As c2 r1)) x:=by
   intro x;rw[AX,DR,FC,FC,A0,A0,A0,A0];have a:=h1 x;have b:=h2 x;grind
  generalize hDD:Y (My (As c2 o1) (As c1 o2))=D at *
  have hDl:BH D:=hDD ▸ Hg _;have hD1:=Ak.2 hD;have h3:=(RT q D hq0 hD).1;rw[Dq hev,To,m,m,z1 _ (by omega),z2 _ (by omega)] at h3;have t1:=En hq hq0;have t2:=En hDl hD;rw[AG,AG,F8] at h3;exact AS t1 t2 h3.symm
 have:=Dn.1 hD i;rw[To,m,m] at this;omega
theorem Ux{o1 o2:LI}{c1 c2:Int}(hc1:0<c1)(hc2:0<c2)(h:∀ i,c2*o1.getD i 0=c1*o2.getD i 0):prim o1=prim o2:=by
 rw[<- Np hc2 o1,<- Np hc1 o2];exact Oh fun i=>by rw[m,m];exact h i
def HU(r q:LI)(l:Int)(k:Nat):LI:=(Aq r.length).map fun i=>if k<=i then r.getD i 0-l*q.getD (i-k) 0 else r.getD i 0
theorem Ns(r q:LI)(l:Int)(k i:Nat)(hk:k+q.length<=r.length):(HU r q l k).getD i 0=r.getD i 0-l*(Dz k q).getD i 0:=by
 rw[HU,HT,Cw];split
 ·split <;> simp
 ·rw[B3 (show r.length<=i by omega),B3 (xs:=q) (show q.length<=i-k by omega)];simp
theorem Hw(r q:LI)(l:Int)(k:Nat):(HU r q l k).length=r.length:=by simp [HU]
def HV(q:LI):Nat->LI->LI->LI
 | 0,_,out=>out
 | k+1,r,out=>HV q k (HU (As (top q) r) q (r.getD (k+q.length-1) 0) k) ((As (top q) out).set k (r.getD (k+q.length-1) 0))
theorem y(a:Int)(q:LI):(As a q).length=q.length:=by simp [As]
theorem Azj{p q:LI}(hq0:q ≠ [])(ht:0<top q):∀ (k:Nat) (r out:LI) (c:Int),0<c->k<=out.length->out.length+q.length=r.length+1->(∀ i,k+q.length-1<=i->r.getD i 0=0)->(∀ i,i<k->out.getD i 0=0) ->
  (∀ x,c*Aa p x=Aa q x*Aa out x+Aa r x) ->
  ∃ c' r',0<c'/\(∀ i,q.length-1<=i->r'.getD i 0=0)/\(HV q k r out).length=out.length/\∀ x,c'*Aa p x=Aa q x*Aa (HV q k r out) x+Aa r' x:=by
 have hql:=Ak.2 hq0;intro k;induction k with
 | zero =>
  intro r out c hc _ _ hz _ he;exact⟨c,r,hc,fun i hi=>hz i (by omega),rfl,he⟩
 | succ k ih =>
  intro r out c hc hk hl hz hz2 he;simp only[HV];generalize hlead:r.getD (k+q.length-1) 0=l at *
  have hkr:k+q.length<=(As (top q) r).length:=by rw[y];omega
  obtain⟨c',r',a1,a2,a3,a4⟩:=ih (HU (As (top q) r) q l k) ((As (top q) out).set k l) (top q*c) (Bp ht hc) (by rw[Ba,y];omega) (by rw[Ba,y,Hw,y];exact hl)
   (fun i hi=>by
    rw[Ns _ _ _ _ _ hkr,m,Cw];by_cases h1:i=k+q.length-1
    ·subst h1;rw[hlead,if_pos (by omega),show k+q.length-1-k=q.length-1 by omega];unfold top;grind
    ·rw[hz i (by omega),B3 (xs:=q) (show q.length<=i-k by omega)];simp)
   (fun i hi=>by rw[CA (by omega),m,hz2 i (by omega),AG])
   (fun x=>by
    rw[Tn _ _ _ _ (by rw[y];omega),m,hz2 k (by omega),A0];have e:=YP (a:=1) (b := -l) (us:=As (top q) r) (bs:=Dz k q) (cs:=HU (As (top q) r) q l k) (fun i=>by rw[Ns _ _ _ _ _ hkr,NM];omega) x;rw[e,A0,D9];have:=he x;grind)
  exact⟨c',r',a1,a2,by rw[a3,Ba,y],a4⟩
theorem WC{p q:LI}(hq0:q ≠ [])(ht:0<top q)(hl:q.length<=p.length):∃ c' r',0<c'/\(∀ i,q.length-1<=i->r'.getD i 0=0)/\(HV q (p.length-q.length+1) p (l (p.length-q.length+1) 0)).length=p.length-q.length+1 /\
  ∀ x,c'*Aa p x=Aa q x*Aa (HV q (p.length-q.length+1) p (l (p.length-q.length+1) 0)) x+Aa r' x:=by
 have hql:=Ak.2 hq0;have h:=Azj (p:=p) hq0 ht (p.length-q.length+1) p (l (p.length-q.length+1) 0) 1 (by decide) (by simp) (by simp;omega) (fun i hi=>B3 (by omega)) (fun i _=>DQ _ _) (fun x=>by rw[Pd];omega);rw[Ew] at h;exact h
def M8(d:LI):Nat->LI->LI->LI
 | 0,_,out=>out
 | f+1,r,out=>if d.length<=r.length then M8 d f (Y (CQ r d (top d) (top r) (r.length-1))) ((As (top d) out).set (r.length-d.length) (top r)) else out
theorem Oi{r d:LI}(hd0:d ≠ [])(hl:d.length<=r.length):(Y (CQ r d (top d) (top r) (r.length-1))).length<r.length:=by
 have:=Ak.2 hd0;have:=BA (CQ r d (top d) (top r) (r.length-1));rw[ED] at this;omega
theorem Azk{p d:LI}(hd0:d ≠ [])(ht:0<top d):∀ (f:Nat) (r out:LI) (c:Int),r.length<=f->0<c->r.length+1<=out.length+d.length->(∀ i,i+d.length<=r.length->out.getD i 0=0) ->
  (∀ x,c*Aa p x=Aa d x*Aa out x+Aa r x) ->
  ∃ c' r',0<c'/\(∀ i,d.length-1<=i->r'.getD i 0=0)/\(M8 d f r out).length=out.length/\∀ x,c'*Aa p x=Aa d x*Aa (M8 d f r out) x+Aa r' x:=by
 have hdl:=Ak.2 hd0;intro f;induction f with
 | zero =>
  intro r out c hf hc _ _ he;exact⟨c,r,hc,fun i hi=>B3 (by omega),rfl,he⟩
 | succ f ih =>
  intro r out c hf hc hl hz he;simp only[M8];split
  ·rename_i hg;have hlen:=Oi hd0 hg;obtain⟨c',r',a1,a2,a3,a4⟩:=ih (Y (CQ r d (top d) (top r) (r.length-1))) ((As (top d) out).set (r.length-d.length) (top r)) (top d*c) (by omega) (Bp ht hc) (by rw[Ba,y];omega)
    (fun i hi=>by rw[CA (by omega),m,hz i (by omega),AG])
    (fun x=>by
     rw[Tn _ _ _ _ (by rw[y];omega),m,hz _ (by omega),A0,DR];have e1:Aa (CQ r d (top d) (top r) (r.length-1)) x=Aa (CQ r d (top d) (top r) r.length) x:=G_ (fun i=>(YN hd0 hg (AE _ _) i).symm) x;rw[e1,Tz hg];have:=he x;grind)
   exact⟨c',r',a1,a2,by rw[a3,Ba,y],a4⟩
  ·rename_i hg;exact⟨c,r,hc,fun i hi=>B3 (by omega),rfl,he⟩
theorem Re{p d:LI}(hd0:d ≠ [])(ht:0<top d)(hl:d.length<=p.length):∃ c' r',0<c'/\(∀ i,d.length-1<=i->r'.getD i 0=0)/\(M8 d p.length p (l (p.length-d.length+1) 0)).length=p.length-d.length+1 /\
  ∀ x,c'*Aa p x=Aa d x*Aa (M8 d p.length p (l (p.length-d.length+1) 0)) x+Aa r' x:=by
 have h:=Azk (p:=p) hd0 ht p.length p (l (p.length-d.length+1) 0) 1 (Ao _) (by decide) (by simp;omega) (fun i _=>DQ _ _) (fun x=>by rw[Pd];omega);rw[Ew] at h;exact h
theorem Azl{p q:LI}(hq:BH q)(hq0:q ≠ [])(ht:0<top q)(hl:q.length<=p.length):prim (HV q (p.length-q.length+1) p (l (p.length-q.length+1) 0))=prim (M8 q p.length p (l (p.length-q.length+1) 0)):=by
 obtain⟨c1,r1,a1,a2,_,a4⟩:=WC hq0 ht hl;obtain⟨c2,r2,b1,b2,_,b4⟩:=Re hq0 ht hl;exact Ux a1 b1 (Uw hq hq0 a4 b4 a2 b2)
theorem cY{p q o r:LI}{c:Int}(hc:0<c)(hp:0<top p)(hq0:q ≠ [])(ht:0<top q)(hl:q.length<=p.length)(ho:o.length=p.length-q.length+1)(h:∀ x,c*Aa p x=Aa q x*Aa o x+Aa r x)(z:∀ i,q.length-1<=i->r.getD i 0=0):0<top o:=by
 have hql:=Ak.2 hq0;have ho0:o ≠ []:=by intro h0;rw[h0] at ho;simp at ho
 have h3:=(RT q o hq0 ho0).1;have hev:∀ x,Aa (As c p) x=Aa (Ec (Bs q o) r) x:=fun x=>by rw[A0,BY,AX];exact h x
 have h4:=Dq hev (p.length-1);rw[m,DS,z _ (by omega),show p.length-1=q.length+o.length-2 by omega,h3,BJ] at h4;have h5:0<top q*top o:=by
  rw[<- h4,show q.length+o.length-2=p.length-1 by omega];exact Bp hc hp
 exact FZ h5 ht |> fun h=>h
theorem SB{o:LI}(h:0<top o):0<top (prim o):=by
 have hl:BH o:=Uu (S8 (by unfold top at h;omega));unfold top;rw[Cg,hl,Kj];have hc:0<w o:=Ki (by rw[hl];intro h0;rw[h0] at h;simp[top] at h);have hd:=RR o (o.length-1);rw[Kj] at hd;unfold top at h;rw[<- hd] at h;exact FZ h (by omega)
end Go.Ai
namespace Go.Proofs.YtajompaehjkgkaaGreat
open Go.Ai
set_option maxRecDepth 100000
open Classical renaming byContradiction->A1
open Decidable renaming decide->A
open Go.Ai.AV renaming agg->o,bool->B,fresh->P,int->F,sl->H,tup->Ar
open Go.Ai.Reg renaming box->Ay,own->X,val->C
open Go.IntKind renaming i64->O,wrap->I
open Go.Proofs.Tryz renaming prog->Mv
open Int renaming ediv_nonneg->Lc,emod_nonneg->Gm,gcd->Dr,mul_comm->AE,mul_ediv_add_emod->Hk,mul_ediv_cancel_left->Cc,mul_nonneg->AA,natAbs_natCast->BW,neg_tdiv->Ant,neg_tmod->jO,ofNat_dvd_left->Hl,tdiv->Ax,tdiv_eq_ediv_of_nonneg->BK,tdiv_neg->Anu,tmod->AB,tmod_eq_emod_of_nonneg->B1,tmod_neg->Anv,toNat->D,toNat_natCast->R,zero_mul->BU
open List renaming append_nil->Mp,cons_append->I_,drop_eq_getElem_cons->B2,drop_length->Ev,drop_zero->Da,eq_nil_of_length_eq_zero->A5,ext_getElem?->GI,getD_eq_getElem?_getD->Z,getElem?_append_left->AZ,getElem?_append_right->Bk,getElem?_drop->Bu,getElem?_eq_getElem->Ad,getElem?_map->Cs,getElem?_set_ne->F9,getElem?_set_self->ZG,getElem?_take_of_lt->B8,length_append->AY,length_drop->CV,length_map->Q,length_range->BE,length_take->AD,map_append->Ez,mem_map->Cn,mem_of_mem_drop->Eh,mem_of_mem_take->BT,mem_range->JK,range->Aq,range_succ->Io,take_of_length_le->CS,take_succ_eq_append_getElem->EV
open Nat renaming eq_zero_or_pos->Fo,gcd->J7,gcd_comm->Lf,gcd_rec->A3k,gcd_zero_right->HG,le_of_dvd->Ut,le_refl->Ao,log2->Cu,log2_eq_iff->TK,lt_trichotomy->TM,mod_lt->GO,zero_le->AN
noncomputable section
theorem cZ{n:Nat}:F3 n=1↔n=1:=by
 unfold F3;split
 ·omega
 ·rename_i h;constructor
  ·intro h1;have h2:Cu n=0:=by omega
   have:=(TK h).1 h2;omega
  ·rintro rfl;decide
theorem nZ{n:Nat}:1<F3 n↔1<n:=by
 have h1:=cZ (n:=n);have h0:F3 n=0↔n=0:=by unfold F3;split <;> omega
 omega
theorem IL(n:Int):(cn n).2.length=(M n.natAbs).length:=rfl
theorem xK{rs:List Rn}{n:Nat}(h:n<rs.length):(N rs).drop n=L (rs.getD n z0)::(N rs).drop (n+1):=by
 rw[B2 (by rw[AW];exact h)];congr 1;rw[<- CU,Z,Ad (by rw[AW];exact h)];rfl
theorem Uy{K:Nat}{p:LI}(h:∀ x∈p,Bv K x):Bv K ((w p:Nat):Int):=by
 by_cases h0:Y p=[]
 ·rw[Kh.2 (Dn.1 h0)];exact HP K
 ·have hc:=Ki h0;have:∃ i,p.getD i 0 ≠ 0:=A1 fun hn=>h0 (Dn.2 fun i=>A1 fun hi=>hn ⟨i,hi⟩);obtain⟨i,hi⟩:=this;have hd:=Ii p i;have hf:=Y7 h i;unfold Bv at *
  rw[BW];have:=Ut (by omega) (Hl.1 hd);omega
theorem xL{p:LI}(n:Nat):w p∣w (p.drop n):=by
 rw[Mb];intro i;have:=Ii p (n+i);rw[Z] at this |-;rwa [Bu]
theorem Ahp{K:Nat}{rs:List Rn}{z:Rn}(hg:∀ r∈rs,AU K r)(hK:K<1048576)(hN:rs.length<=1048576):∀ n,n<=rs.length ->
  ∃ i',Ap (.loop Vl) (NK rs (cn (w ((N rs).drop n):Nat)) ((n:Int)-1) z) (.exit 0) (NK rs (cn (w (N rs):Nat)) i' z):=by
 intro n;induction n with
 | zero =>
  intro _;rw[Da];exact⟨_,Ah (Azb rs _ _ z (by simp))⟩
 | succ n ih =>
  intro hn;have e0:((n+1:Nat):Int)-1=(n:Int):=by omega
  have e1:I O ((n:Int)-1)=(n:Int)-1:=Bg (by omega) (by omega);have hf:Bv K ((w ((N rs).drop (n+1)):Nat):Int):=Uy fun x hx=>Dk hg x (Eh hx);have hl:=hf.len;have hb:=Tp (neg:=(cn (w ((N rs).drop (n+1)):Nat)).1) (xs:=(cn (w ((N rs).drop (n+1)):Nat)).2) (BV _) (by rw[IL];omega);rw[show rv (cn (w ((N rs).drop (n+1)):Nat)).1 (cn (w ((N rs).drop (n+1)):Nat)).2=(w ((N rs).drop (n+1)):Nat) from A6 _,BW] at hb;rw[e0];by_cases h1:w ((N rs).drop (n+1))=1
  ·have hc:w (N rs)=1:=by
    have:=xL (p:=N rs) (n+1);rw[h1] at this;exact Nat.dvd_one.1 this
   rw[h1] at hb |-;rw[hc];exact⟨_,Ah (Aza rs _ (n:Nat) z _ (by simp) (by decide) hb)⟩
  ·obtain⟨g1,g2⟩:=Bo hg n;have hgc:=cW (na:=(cn (w ((N rs).drop (n+1)):Nat)).1) (nb:=(rs.getD n z0).1) (xs:=(cn (w ((N rs).drop (n+1)):Nat)).2) (ys:=(rs.getD n z0).2) (BV _) g1 (by rw[IL];omega) (by omega);rw[show rv (cn (w ((N rs).drop (n+1)):Nat)).1 (cn (w ((N rs).drop (n+1)):Nat)).2=(w ((N rs).drop (n+1)):Nat) from A6 _,show rv (rs.getD n z0).1 (rs.getD n z0).2=L (rs.getD n z0) from rfl] at hgc;have hstep:(Dr ((w ((N rs).drop (n+1)):Nat):Int) (L (rs.getD n z0)))=w ((N rs).drop n):=by
    rw[xK (n:=n) (by omega),w,Dr,BW,Lf]
   rw[hstep] at hgc;have k1:=Ayz rs (cn (w ((N rs).drop (n+1)):Nat)) (n:Nat) z _ _ (by simp) (by
    rw[bne_iff_ne];have:=cZ (n:=w ((N rs).drop (n+1)));omega) (by omega) hb (by rw[R];exact hgc)
   rw[e1] at k1;obtain⟨i',h⟩:=ih (by omega);exact⟨i',CE.loop k1 h⟩
theorem Z_{K:Nat}{rs:List Rn}(hg:∀ r∈rs,AU K r)(hK:K<1048576)(hN:rs.length<=1048576):RQ 157 [sL pc rs] (Ag (w (N rs):Nat)):=by
 obtain⟨i',h⟩:=Ahp (z:=z0) hg hK hN rs.length (Ao _);rw[show (N rs).drop rs.length=[] by rw[<- AW,Ev],show cn ((w []:Nat):Int)=z0 from rfl] at h;exact Azc rs (cn (w (N rs):Nat)) z0 i' (by rw[Bg (by omega) (by omega)];exact h)
theorem Nt{x g:Int}(hg:0<g)(h:g∣x):Ax x g=x / g:=by
 obtain⟨y,rfl⟩:=h;rw[Int.mul_tdiv_cancel_left _ (by omega),Cc _ (by omega)]
theorem EL{K:Nat}{rs:List Rn}(hg:∀ r∈rs,AU K r)(hK:K<1048576)(hN:rs.length<=1048576):RQ 115 [sL pc rs] (P 2 (prim (N rs)).length (pk (prim (N rs)))):=by
 have ht:=Kf (fun r h=>(hg r h).mono (show K<=1048576 by omega)) hN;have hfT:∀ x∈Y (N rs),Bv K x:=M1 (Dk hg);have gts:=Vs hfT;have hvs:=s (Y (N rs));have hll:=BA (N rs);rw[AW] at hll;have hpk:pk (Y (N rs))=pc ((Y (N rs)).map cn):=rfl;(first|rw[hpk,<- Q (f:=cn)] at ht|(rw[hpk] at ht;unfold sL at ht;rw[<- Q (f:=cn)] at ht));have hlm:((Y (N rs)).map cn).length=(Y (N rs)).length:=Q ..;have hc:=Z_ gts hK (by omega);rw[hvs,YM] at hc;have hfc:Bv K ((w (N rs):Nat):Int):=Uy (Dk hg);have hlc:=hfc.len;have hb:=Tp (neg:=(cn (w (N rs):Nat)).1) (xs:=(cn (w (N rs):Nat)).2) (BV _) (by rw[IL];omega);rw[show rv (cn (w (N rs):Nat)).1 (cn (w (N rs):Nat)).2=(w (N rs):Nat) from A6 _,BW] at hb;by_cases h1:1<w (N rs)
 ·have hgd:∀ t,L (((Y (N rs)).map cn).getD t z0)=(Y (N rs)).getD t 0:=fun t=>by rw[<- CU,hvs]
  have key:∀ ts:List Rn,ts.length=(Y (N rs)).length->(∀ r∈ts,AU K r)->(∀ t,L (ts.getD t z0)=(Y (N rs)).getD t 0) ->
    Ap (.loop Vi) (NL ts.length ts (cn (w (N rs):Nat)) (ts.length:Nat) 0) (.exit 0) (NL ts.length ((prim (N rs)).map cn) (cn (w (N rs):Nat)) (ts.length:Nat) (ts.length:Nat)):=by
   intro ts hl gt hv;have hlp:((prim (N rs)).map cn).length=ts.length:=by rw[Q,Cg,hl]
   have h:=CE.up (prog:=DK) (c:=Vi) (ex := .exit 0) (fin:=NL ts.length ((prim (N rs)).map cn) (cn (w (N rs):Nat)) (ts.length:Nat) (ts.length:Nat))
    (fun i=>NL ts.length (((prim (N rs)).map cn).take i++ts.drop i) (cn (w (N rs):Nat)) (ts.length:Nat) (i:Nat)) ts.length (by nofun) ?_ ?_ 0 (AN _)
   ·exact h
   ·intro i hi;have ei:I O ((i:Int)+1)=((i+1:Nat):Int):=by rw[Bg (by omega) (by omega)];omega
    have hlen:(((prim (N rs)).map cn).take i++ts.drop i).length=ts.length:=by rw[AY,AD,CV];omega
    have hget:(((prim (N rs)).map cn).take i++ts.drop i).getD i z0=ts.getD i z0:=by
     rw[Z,Z,Bk (by rw[AD];omega),AD,Bu];congr 2;omega
    obtain⟨g1,g2⟩:=Bo gt i;have hq:=RO (na:=(ts.getD i z0).1) (nb:=(cn (w (N rs):Nat)).1) (xs:=(ts.getD i z0).2) (ys:=(cn (w (N rs):Nat)).2) g1 (BV _) (by rw[show rv (cn (w (N rs):Nat)).1 (cn (w (N rs):Nat)).2=(w (N rs):Nat) from A6 _];omega) (by omega) (by rw[IL];omega);rw[show rv (cn (w (N rs):Nat)).1 (cn (w (N rs):Nat)).2=(w (N rs):Nat) from A6 _,show rv (ts.getD i z0).1 (ts.getD i z0).2=L (ts.getD i z0) from rfl,hv,Dl] at hq;have k:=Azd ts.length (((prim (N rs)).map cn).take i++ts.drop i) (cn (w (N rs):Nat)) (ts.length:Nat) (i:Nat) _ _ (by simp;omega) (by omega) hlen (by rw[R,hget];exact hq);refine k.to rfl ?_;rw[ei,R,Nt (by omega) (Ii (N rs) i),<- Kj];congr 1;apply GI;intro t;have hpi:((prim (N rs)).map cn)[i]? = some (cn ((prim (N rs)).getD i 0)):=by
     rw[Cs,Z,Ad (by (first|rw[Q] at hlp|(unfold sL at hlp;rw[Q] at hlp));omega)];rfl
    rcases TM t i with g | g | g
    ·rw[F9 (by omega),AZ (by rw[AD];omega),AZ (by rw[AD];omega),B8 g,B8 (by omega)]
    ·subst g;rw[ZG (by omega),AZ (by rw[AD];omega),B8 (by omega),hpi]
    ·rw[F9 (by omega),Bk (by rw[AD];omega),Bk (by rw[AD];omega),AD,AD,Bu,Bu];congr 1;omega
   ·rw[CS (by omega),Ev,Mp];exact Aze ts.length _ _ (ts.length:Nat) (ts.length:Nat) (by simp)
  have hl:=key _ hlm gts hgd;have h:=xA rs ((Y (N rs)).map cn) _ _ _ _ _ _ _ (by rw[decide_eq_true_eq];have:=(nZ (n:=w (N rs))).2 h1;omega) ht (Aby _) (S5 _) hc hb hl;(first|rw[hlm,<- Cg] at h|(unfold sL at h;rw[hlm,<- Cg] at h));exact h
 ·have h:=xB rs ((Y (N rs)).map cn) _ _ (by rw[decide_eq_false_iff_not];have:=(nZ (n:=w (N rs))).1;omega) ht (Aby _) (S5 _) hc hb;have hp:prim (N rs)=Y (N rs):=by
   rcases Fo (w (N rs)) with g | g
   ·rw[DY.2 (Kh.1 g),Dn.2 (Kh.1 g)]
   ·exact Vy (by omega)
  rw[hp];(first|rw[hlm] at h|(unfold sL at h;rw[hlm] at h));exact h
theorem xM(rs:List Rn):L (rs.getD (rs.length-1) z0)=top (N rs):=by unfold top;rw [CU,AW]
theorem YQ{rs:List Rn}(hg:∀ r∈rs,AU 1048576 r)(hN:rs.length<=1048576) : 
  (top (N rs)<0->RQ 155 [sL pc rs] (P 2 rs.length (pk (Cp (N rs)))))/\(¬ top (N rs)<0->RQ 155 [sL pc rs] (sL pc rs)):=by
 by_cases h0:0<rs.length
 ·have e1:I O ((rs.length:Int)-1)=((rs.length-1:Nat):Int):=by rw[Bg (by omega) (by omega)];omega
  obtain⟨g1,g2⟩:=Bo hg (rs.length-1);have hs:=Ka (neg:=(rs.getD (rs.length-1) z0).1) g1 g2;rw[show rv (rs.getD (rs.length-1) z0).1 (rs.getD (rs.length-1) z0).2=L (rs.getD (rs.length-1) z0) from rfl,xM] at hs;refine⟨fun h => ?_,fun h => ?_⟩
  ·have hn:=M6 hg hN;have hpk:pk (Cp (N rs))=pc ((Cp (N rs)).map cn):=rfl;have hll:((Cp (N rs)).map cn).length=rs.length:=by rw[Q,El,AW]
   rw[hpk] at hn |-;(first|rw[<- hll] at hn |-|(unfold sL at hn;rw[<- hll] at hn |-));have hn':RQ 117 [sL pc rs] (P 2 ((Cp (N rs)).map cn).length (pc ((Cp (N rs)).map cn))):=by
    have:=M6 hg hN;rw[hll];exact this
   rw[hll];have k:=xC rs ((Cp (N rs)).map cn) (BQ (top (N rs))) (by simp;omega) (by unfold BQ;rw[if_pos h];rfl) (by rw[e1];omega) (by rw[e1,R];exact hs) hn';(first|rw[hll] at k|(unfold sL at k;rw[hll] at k));exact k
  ·exact xD rs (BQ (top (N rs))) (by simp;omega) (by unfold BQ;rw[if_neg h];split <;> rfl) (by rw[e1];omega) (by rw[e1,R];exact hs)
 ·have hz:rs=[]:=A5 (by omega);subst hz;refine⟨fun h=>absurd h (by decide),fun _=>xE [] (by decide)⟩
theorem SC{K:Nat}{rs:List Rn}(hg:∀ r∈rs,AU K r)(hK:K+2<=1048576)(hN:rs.length<=1048576):RQ 116 [sL pc rs] (P 2 (At (N rs)).length (pk (At (N rs)))):=by
 have hd:=Q_ (fun r h=>(hg r h).mono (show K<=1048576 by omega)) hN;have hle:=KO (N rs) rs.length;have hl:=CE.up (prog:=DK) (c:=Yc) (ex := .exit 0) (fin:=Rb rs (b (N rs) rs.length-1) (pc ((Aq (b (N rs) rs.length-1)).map fun j=>cn (L (rs.getD (j+1) z0)*((j+1:Nat):Int)))) ((b (N rs) rs.length-1+1:Nat):Int))
  (fun i=>Rb rs i (pc ((Aq i).map fun j=>cn (L (rs.getD (j+1) z0)*((j+1:Nat):Int)))) ((i+1:Nat):Int)) (b (N rs) rs.length-1) (by nofun) ?_ ?_ 0 (AN _)
 ·have hfit:∀ r∈(Aq (b (N rs) rs.length-1)).map (fun j=>cn (L (rs.getD (j+1) z0)*((j+1:Nat):Int))),AU 1048576 r:=by
   intro r hr;obtain⟨j,hj,rfl⟩:=Cn.1 hr;rw[JK] at hj;have h2:Bv 2 ((j+1:Nat):Int):=Ob (by omega);exact (B4 ((Bo hg (j+1)).fits.mul h2)).mono (by omega)
  have ht:=Kf hfit (by rw[Q,BE];omega);have hlen:((Aq (b (N rs) rs.length-1)).map (fun j=>cn (L (rs.getD (j+1) z0)*((j+1:Nat):Int)))).length=b (N rs) rs.length-1:=by rw[Q,BE]
  have e:Y (N ((Aq (b (N rs) rs.length-1)).map (fun j=>cn (L (rs.getD (j+1) z0)*((j+1:Nat):Int)))))=At (N rs):=by
   unfold At;apply Gb;intro i;rw[KP,HT,A6,CU,AW];by_cases h1:i<b (N rs) rs.length-1
   ·rw[if_pos h1,if_pos (by omega)]
   ·rw[if_neg h1];split
    ·have:L (rs.getD (i+1) z0)=0:=by rw[<- CU];exact Tj (N rs) rs.length (i+1) (by omega) (by omega)
     rw[this,BU]
    ·rfl
  (first|rw[e,hlen] at ht|(rw[e] at ht;unfold sL at ht;rw[hlen] at ht));have hpk:pk (At (N rs))=pc ((At (N rs)).map cn):=rfl;(first|rw[hpk,<- Q (f:=cn)] at ht |-|(rw[hpk] at ht |-;unfold sL at ht;rw[<- Q (f:=cn)] at ht |-));exact Azh rs _ _ _ _ hl ht
 ·intro i hi;have ei:I O (((i+1:Nat):Int)+1)=((i+1+1:Nat):Int):=by rw[Bg (by omega) (by omega)];omega
  obtain⟨g1,g2⟩:=Bo hg (i+1);have ho:=YC (n:=((i+1:Nat):Int)) (by omega);have hfi:Bv 2 ((i+1:Nat):Int):=Ob (by omega);have hm:=Vx (na:=(rs.getD (i+1) z0).1) (nb:=decide (((i+1:Nat):Int)<0)) (xs:=(rs.getD (i+1) z0).2) (ys:=M ((i+1:Nat):Int).natAbs) g1 (BV _) (by have:=hfi.len;omega);rw[FB] at hm;have k:=Azf rs i (pc ((Aq i).map fun j=>cn (L (rs.getD (j+1) z0)*((j+1:Nat):Int)))) ((i+1:Nat):Int) (((b (N rs) rs.length:Nat):Int)-1) (L (rs.getD (i+1) z0)*((i+1:Nat):Int)) (by simp;omega) (by omega) (by omega) hd ho (by rw[R];exact hm);refine k.to rfl ?_;rw[ei];congr 1;rw[Io,Ez,Pb];rfl
 ·exact Azg rs _ _ _ _ (by rw[decide_eq_false_iff_not];omega) hd
def TRB:C8:=TRA
theorem h:Co DK TRB:=xF
theorem Acf{n:Int}{xs:LI}(hu:A_ xs)(h0:0<=n)(h:n<=Ab xs):(lz n).length<=xs.length :=
 O_ (by have:=Eb hu;omega)
theorem Acg{n:Int}(h:0<=n):Ab (lz n)=n:=by unfold lz;rw [C9];omega
theorem dA{na nb:Bool}{xs ys:LI}(hx:A_ xs)(hy:A_ ys)(h0:rv nb ys ≠ 0)(h1:xs.length<1000000)(h2:ys.length<1000000) :
  RQ 138 [o [B na,sL lm xs],o [B nb,sL lm ys]] (Ar [Ag (Ax (rv na xs) (rv nb ys)),Ag (AB (rv na xs) (rv nb ys))]):=by
 have cx:=Gg hx;have cy:=Gg hy;have t1:=BA xs;have t2:=BA ys;have hX:=Bi hx;have hY:0<Ab ys:=by
  have:=Bi hy;rcases Int.lt_or_le 0 (Ab ys) with h | h
  ·exact h
  ·have hz:Ab ys=0:=by omega
   exact absurd (by unfold rv;rw[hz];cases nb <;> rfl) h0
 have hy0:Y ys ≠ []:=by
  intro e;have:=EC ys;rw[e] at this;simp only[Ab] at this;omega
 have hd:=nE cx cy hy0 (by omega) (by omega);rw[EC,EC] at hd;have hq0:0<=Ab xs / Ab ys:=Lc hX (by omega);have hq1:Ab xs / Ab ys<=Ab xs:=Int.ediv_le_self _ hX;have hr0:=Gm (Ab xs) (show Ab ys ≠ 0 by omega);have hr1:Ab xs % Ab ys<=Ab xs:=by
  have:=Hk (Ab xs) (Ab ys);have:=AA (show 0<=Ab ys by omega) hq0;omega
 have l1:=Acf hx hq0 hq1;have l2:=Acf hx hr0 hr1;have m1:=GE (neg := !(na==nb)) (xs:=lz (Ab xs / Ab ys)) (BV _) (by omega);have m2:=GE (neg:=na) (xs:=lz (Ab xs % Ab ys)) (BV _) (by omega);have e1:rv (!(na==nb)) (lz (Ab xs / Ab ys))=Ax (rv na xs) (rv nb ys):=by
  unfold rv;rw[Acg hq0,<- BK hX];cases na <;> cases nb <;> simp[Ant,Anu]
 have e2:rv na (lz (Ab xs % Ab ys))=AB (rv na xs) (rv nb ys):=by
  unfold rv;rw[Acg hr0,<- B1 hX];cases na <;> cases nb <;> simp[jO,Anv]
 rw[e1] at m1;rw[e2] at m2;exact Ayd na nb xs ys _ _ _ _ (E7 (by omega)) (E7 (by omega)) hd m1 m2
theorem iG(n:Int):A_ (cn n).2:=BV _
theorem Pk(n:Int):rv (cn n).1 (cn n).2=n:=A6 n
theorem Ahq:∀ (n X Y:Nat),Y<=n->(M X).length<1000000->(M Y).length<1000000->Ap (.loop T_) (No (cn (X:Nat)) (cn (Y:Nat))) (.exit 0) (No (cn (J7 X Y:Nat)) (cn 0)):=by
 intro n;induction n with
 | zero =>
  intro X Y hY _ _;have:Y=0:=by omega
  subst this;rw[HG];exact Ah (cV (cn (X:Nat)) (cn 0) (by decide) (Hd (neg:=(cn 0).1) (xs:=(cn 0).2) (iG _) (by decide)))
 | succ n ih =>
  intro X Y hY h1 h2;by_cases h0:Y=0
  ·subst h0;rw[HG];exact Ah (cV (cn (X:Nat)) (cn 0) (by decide) (Hd (neg:=(cn 0).1) (xs:=(cn 0).2) (iG _) (by decide)))
  ·have hs:=Hd (neg:=(cn (Y:Nat)).1) (xs:=(cn (Y:Nat)).2) (BV _) (by rw[IL,BW];omega);have hd:=dA (na:=(cn (X:Nat)).1) (nb:=(cn (Y:Nat)).1) (xs:=(cn (X:Nat)).2) (ys:=(cn (Y:Nat)).2) (BV _) (BV _) (by rw[Pk];omega) (by rw[IL,BW];omega) (by rw[IL,BW];omega);rw[Pk,Pk] at hd;rw[Pk] at hs;have em:AB (X:Int) (Y:Int)=((X % Y:Nat):Int):=by rw[B1 (by omega)];omega
   rw[em] at hd;have k:=Agy (cn (X:Nat)) (cn (Y:Nat)) _ _ (by rw[A6,bne_iff_ne];unfold BQ; (repeat' split) <;> omega) (by rw[A6];exact hs) hd
   have hlt:X % Y<Y:=GO _ (by omega);have hle:(M (X % Y)).length<=(M Y).length:=by
    apply O_;have:=Eb (Cv Y).1;rw[C9] at this;omega
   have r:=ih Y (X % Y) (by omega) h2 (by omega);rw[Lf X Y,A3k Y X,Lf (X % Y) Y];exact CE.loop k r
theorem iH{na nb:Bool}{xs ys:LI}(hx:A_ xs)(hy:A_ ys)(h1:xs.length<1000000)(h2:ys.length<1000000) :
  RQ 164 [o [B na,sL lm xs],o [B nb,sL lm ys]] (Ag (Dr (rv na xs) (rv nb ys):Nat)):=by
 have m1:=GE (neg:=false) hx (by omega);have m2:=GE (neg:=false) hy (by omega);have l1:=Fg (neg:=na) hx;have l2:=Fg (neg:=nb) hy;have e1:rv false xs=(((rv na xs).natAbs:Nat):Int):=by
  have:=Bi hx;unfold rv;cases na <;> simp <;> omega
 have e2:rv false ys=(((rv nb ys).natAbs:Nat):Int):=by
  have:=Bi hy;unfold rv;cases nb <;> simp <;> omega
 rw[e1] at m1;rw[e2] at m2;exact Aye na nb xs ys _ _ _ _ m1 m2 (Ahq _ (rv na xs).natAbs (rv nb ys).natAbs (Ao _) (by omega) (by omega))
theorem iI(a b:LI):w (a++b)=J7 (w a) (w b):=by
 induction a with
 | nil=>simp[w]
 | cons x a ih=>simp only[I_,w,ih,Nat.gcd_assoc]
theorem Xf{rs:List Rn}{i:Nat}(h:i<rs.length):(N rs).take (i+1)=(N rs).take i++[L (rs.getD i z0)]:=by
 rw[EV (by rw[AW];exact h)];congr 2;rw[<- CU,Z,Ad (by rw[AW];exact h)];rfl
theorem oA{K:Nat}{rs:List Rn}(hg:∀ r∈rs,AU K r)(hK:K<1000000)(hN:rs.length<=1048576):RQ 137 [sL pc rs] (Ag (w (N rs):Nat)):=by
 have h:=CE.up (prog:=DK) (c:=Yi) (ex := .exit 0) (fin:=QY rs (cn (w (N rs):Nat)) (rs.length:Nat))
  (fun i=>QY rs (cn (w ((N rs).take i):Nat)) (i:Nat)) rs.length (by nofun) ?_ ?_ 0 (AN _)
 ·exact Ayh rs (cn (w (N rs):Nat)) _ h
 ·intro i hi;have ei:I O ((i:Int)+1)=((i+1:Nat):Int):=by rw[Bg (by omega) (by omega)];omega
  obtain⟨g1,g2⟩:=Bo hg i;have hf:Bv K ((w ((N rs).take i):Nat):Int):=Uy fun x hx=>Dk hg x (BT hx);have hl:=hf.len;have hc:=iH (na:=(cn (w ((N rs).take i):Nat)).1) (nb:=(rs.getD i z0).1) (xs:=(cn (w ((N rs).take i):Nat)).2) (ys:=(rs.getD i z0).2) (BV _) g1 (by rw[IL];omega) (by omega);rw[Pk] at hc;have k:=Ayf rs (cn (w ((N rs).take i):Nat)) (i:Nat) _ (by simp;omega) (by omega) (by rw[R];exact hc);refine k.to rfl ?_;rw[ei,Xf hi,iI];congr 2;show ((J7 (((w ((N rs).take i):Nat):Int)).natAbs (L (rs.getD i z0)).natAbs:Nat):Int)=_;rw[BW];simp[w]
 ·rw[CS (by rw[AW];omega)];exact Ayg rs _ _ (by simp)
theorem Gh(g:Nat->Int)(i:Nat):pc ((Aq i).map fun j=>cn (g j))++([B (A (g i<0)),H (M (g i).natAbs).length (lm (M (g i).natAbs))]:List AV)=pc ((Aq (i+1)).map fun j=>cn (g j)):=by
 rw[PP (fun j=>cn (g j)),<- nF];rfl
theorem xN{K:Nat}{x:Int}(h:Bv K x)(c:Int):Bv K (Ax x c):=by
 unfold Bv at *
 have:(Ax x c).natAbs=x.natAbs / c.natAbs:=Int.natAbs_tdiv x c;have:=Nat.div_le_self x.natAbs c.natAbs;omega
theorem IX{K:Nat}{rs:List Rn}(hg:∀ r∈rs,AU K r)(hK:K<1000000)(hN:rs.length<=1048576):RQ 86 [sL pc rs] (P 2 (prim (N rs)).length (pk (prim (N rs)))):=by
 have hi:=oA hg hK hN;have hfc:Bv K ((w (N rs):Nat):Int):=Uy (Dk hg);have hlc:=hfc.len;have hs:=Hd (neg:=(cn (w (N rs):Nat)).1) (xs:=(cn (w (N rs):Nat)).2) (BV _) (by rw[IL];omega);rw[Pk] at hs;by_cases h0:w (N rs)=0
 ·rw[DY.2 (Kh.1 h0)];exact Agz rs _ (by rw[h0];rfl) hi hs
 ·have h:=CE.up (prog:=DK) (c:=lN) (ex := .exit 0) (fin:=W7 rs (cn (w (N rs):Nat)) rs.length (pc ((Aq rs.length).map fun j=>cn (Ax (L (rs.getD j z0)) (w (N rs):Nat)))) (rs.length:Nat))
   (fun i=>W7 rs (cn (w (N rs):Nat)) i (pc ((Aq i).map fun j=>cn (Ax (L (rs.getD j z0)) (w (N rs):Nat)))) (i:Nat)) rs.length (by nofun) ?_ ?_ 0 (AN _)
  ·have hgo:∀ r∈(Aq rs.length).map (fun j=>cn (Ax (L (rs.getD j z0)) (w (N rs):Nat))),AU 1048576 r:=Pc fun j _=>(B4 (xN (Bo hg j).fits _)).mono (by omega);have ht:=EX hgo (by rw[Q,BE];exact hN);have e:Y (N ((Aq rs.length).map (fun j=>cn (Ax (L (rs.getD j z0)) (w (N rs):Nat)))))=prim (N rs):=by
    rw[<- C2 (N rs)];apply Gb;intro i;rw[KP,A6,Kj,<- CU];by_cases h1:i<rs.length
    ·rw[if_pos h1,Nt (by omega) (Ii _ _)]
    ·rw[if_neg h1,B3 (by rw[AW];omega),Int.zero_ediv]
   (first|rw[e,Q,BE] at ht|(rw[e] at ht;unfold sL at ht;rw[Q,BE] at ht));have hpk:pk (prim (N rs))=pc ((prim (N rs)).map cn):=rfl;(first|rw[hpk,<- Q (f:=cn)] at ht |-|(rw[hpk] at ht |-;unfold sL at ht;rw[<- Q (f:=cn)] at ht |-));exact Aha rs _ _ _ _ _ (by rw[beq_eq_false_iff_ne];unfold BQ; (repeat' split) <;> omega) hi hs h ht
  ·intro i hi2;have ei:I O ((i:Int)+1)=((i+1:Nat):Int):=by rw[Bg (by omega) (by omega)];omega
   obtain⟨g1,g2⟩:=Bo hg i;have hd:=dA (na:=(rs.getD i z0).1) (nb:=(cn (w (N rs):Nat)).1) (xs:=(rs.getD i z0).2) (ys:=(cn (w (N rs):Nat)).2) g1 (BV _) (by rw[Pk];omega) (by omega) (by rw[IL];omega);rw[Pk] at hd;have k:=A5v rs (cn (w (N rs):Nat)) i (pc ((Aq i).map fun j=>cn (Ax (L (rs.getD j z0)) (w (N rs):Nat)))) (i:Nat) _ _ (by simp;omega) (by omega) (by omega) (by rw[R];exact hd);refine k.to rfl ?_;rw[ei,<- Gh (fun j=>Ax (L (rs.getD j z0)) (w (N rs):Nat)) i];rfl
  ·exact A5w rs _ _ _ _ (by simp)
theorem dB{K:Nat}{rs:List Rn}(hg:∀ r∈rs,AU K r)(hK:K+2<=1000000)(hN:rs.length<=1048576):RQ 122 [sL pc rs] (P 2 (At (N rs)).length (pk (At (N rs)))):=by
 have h:=CE.up (prog:=DK) (c:=Ye) (ex := .exit 0) (fin:=QZ rs (rs.length-1) (pc ((Aq (rs.length-1)).map fun j=>cn (((j+1:Nat):Int)*L (rs.getD (j+1) z0)))) ((rs.length-1+1:Nat):Int))
  (fun i=>QZ rs i (pc ((Aq i).map fun j=>cn (((j+1:Nat):Int)*L (rs.getD (j+1) z0)))) ((i+1:Nat):Int)) (rs.length-1) (by nofun) ?_ ?_ 0 (AN _)
 ·have hgo:∀ r∈(Aq (rs.length-1)).map (fun j=>cn (((j+1:Nat):Int)*L (rs.getD (j+1) z0))),AU 1048576 r:=Pc fun j hj=>by
   have h2:Bv 2 ((j+1:Nat):Int):=Ob (by omega);exact (B4 (h2.mul (Bo hg (j+1)).fits)).mono (by omega)
  have ht:=EX hgo (by rw[Q,BE];omega);have e:Y (N ((Aq (rs.length-1)).map (fun j=>cn (((j+1:Nat):Int)*L (rs.getD (j+1) z0)))))=At (N rs):=by
   unfold At;apply Gb;intro i;rw[KP,HT,A6,CU,AW,AE]
  (first|rw[e,Q,BE] at ht|(rw[e] at ht;unfold sL at ht;rw[Q,BE] at ht));have hpk:pk (At (N rs))=pc ((At (N rs)).map cn):=rfl;(first|rw[hpk,<- Q (f:=cn)] at ht |-|(rw[hpk] at ht |-;unfold sL at ht;rw[<- Q (f:=cn)] at ht |-));exact Ayk rs _ _ _ _ h ht
 ·intro i hi;have ei:I O (((i+1:Nat):Int)+1)=((i+1+1:Nat):Int):=by rw[Bg (by omega) (by omega)];omega
  obtain⟨g1,g2⟩:=Bo hg (i+1);have ho:=gP (n:=((i+1:Nat):Int)) (by omega);have hfi:Bv 2 ((i+1:Nat):Int):=Ob (by omega);have hm:=Ni (na:=(cn ((i+1:Nat):Int)).1) (nb:=(rs.getD (i+1) z0).1) (xs:=(cn ((i+1:Nat):Int)).2) (ys:=(rs.getD (i+1) z0).2) (iG _) g1 (by rw[IL];have:=hfi.len;omega);rw[Pk] at hm;have k:=Ayi rs i (pc ((Aq i).map fun j=>cn (((j+1:Nat):Int)*L (rs.getD (j+1) z0)))) ((i+1:Nat):Int) (by simp;omega) (by omega) (by omega) ho (by rw[R];exact hm);refine k.to rfl ?_;rw[ei,<- Gh (fun j=>((j+1:Nat):Int)*L (rs.getD (j+1) z0)) i,R]
 ·exact Ayj rs _ _ _ (by rw[decide_eq_false_iff_not];omega)
theorem dC{rs:List Rn}(hg:∀ r∈rs,AU 1048576 r)(hN:rs.length<=1048576):RQ 153 [sL pc rs] (P 2 (Y (Cp (N rs))).length (pk (Y (Cp (N rs))))):=by
 have h:=CE.up (prog:=DK) (c:=Yl) (ex := .exit 0) (fin:=Q' rs rs.length (pc ((Aq rs.length).map fun j=>cn (-L (rs.getD j z0)))) (rs.length:Nat))
  (fun i=>Q' rs i (pc ((Aq i).map fun j=>cn (-L (rs.getD j z0)))) (i:Nat)) rs.length (by nofun) ?_ ?_ 0 (AN _)
 ·have hgo:∀ r∈(Aq rs.length).map (fun j=>cn (-L (rs.getD j z0))),AU 1048576 r:=Pc fun j _=>B4 (Bo hg j).fits.neg;have ht:=EX hgo (by rw[Q,BE];exact hN);have e:Y (N ((Aq rs.length).map (fun j=>cn (-L (rs.getD j z0)))))=Y (Cp (N rs)):=by
   apply Gb;intro i;rw[KP,A6,HQ,<- CU];split
   ·rfl
   ·rw[B3 (by rw[AW];omega)];rfl
  (first|rw[e,Q,BE] at ht|(rw[e] at ht;unfold sL at ht;rw[Q,BE] at ht));have hpk:pk (Y (Cp (N rs)))=pc ((Y (Cp (N rs))).map cn):=rfl;(first|rw[hpk,<- Q (f:=cn)] at ht |-|(rw[hpk] at ht |-;unfold sL at ht;rw[<- Q (f:=cn)] at ht |-));exact Ayn rs _ _ _ _ h ht
 ·intro i hi;have ei:I O ((i:Int)+1)=((i+1:Nat):Int):=by rw[Bg (by omega) (by omega)];omega
  obtain⟨g1,g2⟩:=Bo hg i;have k:=Ayl rs i (pc ((Aq i).map fun j=>cn (-L (rs.getD j z0)))) (i:Nat) (by simp;omega) (by omega) (by omega) (by rw[R];exact Vv g1 g2);refine k.to rfl ?_;rw[ei,<- Gh (fun j => -L (rs.getD j z0)) i,R]
 ·exact Aym rs _ _ _ (by simp)
def MX:ICode:=c Aqd 81 494580
def HB(qs:List Rn)(k:Nat)(rs:List Rn)(t:Rn)(a:Rn)(b:Rn)(at1:Int)(n:Int)(i:Int):Aj:=(W 1 (C (sL pc qs)::(W 3 (X 2 k (pc rs)::(Ay [B t.1,H t.2.length (lm t.2)]::(W 2 (Ay [B a.1,H a.2.length (lm a.2)]::(W 1 (Ay [B b.1,H b.2.length (lm b.2)]::(W 1 (C (F O at1)::(W 49 (C (F O n)::(C (F O i)::(W 34 [])))))))))))))))
theorem Ahr(qs:List Rn)(k:Nat)(rs:List Rn)(t:Rn)(a:Rn)(b:Rn)(at1:Int)(n:Int)(i:Int)(c1:A (i<n)=true)(c2:A (i>=at1)=true)(n1:0<=i/\i<(k:Int))(n2:rs.length=k)(n3:(rs.set (D i) (cn ((L (rs.getD (D i) z0))*(L a)))).length=k)(n4:0<=(I O (i-at1))/\(I O (i-at1))<(qs.length:Int))(n5:RQ 112 [Az (rs.getD (D i) z0),Az a] (Ag ((L (rs.getD (D i) z0))*(L a))))(n6:RQ 112 [Az b,Az (qs.getD (D (I O (i-at1))) z0)] (Ag ((L b)*(L (qs.getD (D (I O (i-at1))) z0)))))(n7:RQ 127 [Az ((rs.set (D i) (cn ((L (rs.getD (D i) z0))*(L a)))).getD (D i) z0),Ag ((L b)*(L (qs.getD (D (I O (i-at1))) z0)))] (Ag ((L ((rs.set (D i) (cn ((L (rs.getD (D i) z0))*(L a)))).getD (D i) z0))-((L b)*(L (qs.getD (D (I O (i-at1))) z0)))))):Ap MX (HB qs k rs t a b at1 n i) .norm (HB qs k ((rs.set (D i) (cn ((L (rs.getD (D i) z0))*(L a)))).set (D i) (cn ((L ((rs.set (D i) (cn ((L (rs.getD (D i) z0))*(L a)))).getD (D i) z0))-((L b)*(L (qs.getD (D (I O (i-at1))) z0)))))) t a b at1 n (I O (i+1))):=(J h [bT,.v (Az (rs.getD (D i) z0)),.r (Ag ((L (rs.getD (D i) z0))*(L a))),.l (pc (rs.set (D i) (cn ((L (rs.getD (D i) z0))*(L a))))),bT,.v (Az ((rs.set (D i) (cn ((L (rs.getD (D i) z0))*(L a)))).getD (D i) z0)),.v (Az (qs.getD (D (I O (i-at1))) z0)),.r (Ag ((L b)*(L (qs.getD (D (I O (i-at1))) z0)))),.r (Ag ((L ((rs.set (D i) (cn ((L (rs.getD (D i) z0))*(L a)))).getD (D i) z0))-((L b)*(L (qs.getD (D (I O (i-at1))) z0))))),.l (pc ((rs.set (D i) (cn ((L (rs.getD (D i) z0))*(L a)))).set (D i) (cn ((L ((rs.set (D i) (cn ((L (rs.getD (D i) z0))*(L a)))).getD (D i) z0))-((L b)*(L (qs.getD (D (I O (i-at1))) z0)))))))] Yh (Q8 c1 n1 (Hn n2 n1) n5 n1 (HR (r:=cn ((L (rs.getD (D i) z0))*(L a))) n2 n1) c2 n1 (Lm (Hn n3 n1) n4 (BP n4) n6 n7 n1 (HR (r:=cn ((L ((rs.set (D i) (cn ((L (rs.getD (D i) z0))*(L a)))).getD (D i) z0))-((L b)*(L (qs.getD (D (I O (i-at1))) z0))))) n3 n1))))
theorem Ahs(qs:List Rn)(k:Nat)(rs:List Rn)(t:Rn)(a:Rn)(b:Rn)(at1:Int)(n:Int)(i:Int)(c1:A (i<n)=true)(c2:A (i>=at1)=false)(n1:0<=i/\i<(k:Int))(n2:rs.length=k)(n3:RQ 112 [Az (rs.getD (D i) z0),Az a] (Ag ((L (rs.getD (D i) z0))*(L a)))):Ap MX (HB qs k rs t a b at1 n i) .norm (HB qs k (rs.set (D i) (cn ((L (rs.getD (D i) z0))*(L a)))) t a b at1 n (I O (i+1))):=(J h [bT,.v (Az (rs.getD (D i) z0)),.r (Ag ((L (rs.getD (D i) z0))*(L a))),.l (pc (rs.set (D i) (cn ((L (rs.getD (D i) z0))*(L a))))),bF] Yh (Lm c1 n1 (Hn n2 n1) n3 n1 (HR (r:=cn ((L (rs.getD (D i) z0))*(L a))) n2 n1) c2))
theorem Aht(qs:List Rn)(k:Nat)(rs:List Rn)(t:Rn)(a:Rn)(b:Rn)(at1:Int)(n:Int)(i:Int)(c1:A (i<n)=false):Ap MX (HB qs k rs t a b at1 n i) (.exit 2) (HB qs k rs t a b at1 n i):=(J h [bF] Yh (Jx c1))
def SX:ICode:=c Aqd 93 120
def Lu(qs:List Rn)(k:Nat)(rs:List Rn)(t:Rn):Aj:=(W 1 (C (sL pc qs)::(W 3 (X 2 k (pc rs)::(Ay [B t.1,H t.2.length (lm t.2)]::(W 92 []))))))
theorem Azm(qs:List Rn)(k:Nat)(rs:List Rn)(t:Rn)(os us:List Rn)(a b:Rn)(g ab x y ny r1 r2 s at1 n i:Int)(c1:A ((k:Int)>=(qs.length:Int))=true)(c2:A (s<0)=true)(n1:0<=(I O ((k:Int)-1))/\(I O ((k:Int)-1))<(k:Int))(n2:rs.length=k)(n3:RQ 159 [Az t,Az (rs.getD (D (I O ((k:Int)-1))) z0)] (Ag g))(n4:RQ 160 [Az t] (Ag ab))(n5:RQ 158 [Ag ab,Ag g] (Ar [Ag x,Ag r1]))(n6:RQ 158 [Az (rs.getD (D (I O ((k:Int)-1))) z0),Ag g] (Ar [Ag y,Ag r2]))(n7:RQ 101 [Az t] (F O s))(n8:RQ 131 [Ag y] (Ag ny))(hl9:Ap (.loop MX) (HB qs k rs t (cn x) (cn ny) (I O ((k:Int)-(qs.length:Int))) (k:Int) 0) (.exit 2) (HB qs k os t a b at1 n i))(n10:RQ 115 [H k (pc os)] (P 2 us.length (pc us))):Ap SX (Lu qs k rs t) .norm (Lu qs us.length us t):=(CE.seq (J (t:=(W 1 (vp qs::(W 3 (X 2 k (pc rs)::(bR t::(W 18 (.dup 5::(W 73 []))))))))) h [bT] [1,5,6,25] (Jx c1)) (v (CE.asc (CE.asc (CE.asc (CE.asc (CE.asc (Av (CE.seq (J h [.v (Az (rs.getD (D (I O ((k:Int)-1))) z0)),.r (Ag g),.r (Ag ab),.r (Ar [Ag x,Ag r1]),.r (Ar [Ag y,Ag r2]),.r (F O s),bT,.r (Ag ny)] Yh (Qx n1 (Hn n2 n1) n3 n4 n5 n6 n7 c2 n8)) (CE.seq (CE.block hl9) (J h [.r (P 2 us.length (pc us))] [1,5,6] (Jx n10))))))))))))
theorem Azn(qs:List Rn)(k:Nat)(rs:List Rn)(t:Rn)(os us:List Rn)(a b:Rn)(g ab x y r1 r2 s at1 n i:Int)(c1:A ((k:Int)>=(qs.length:Int))=true)(c2:A (s<0)=false)(n1:0<=(I O ((k:Int)-1))/\(I O ((k:Int)-1))<(k:Int))(n2:rs.length=k)(n3:RQ 159 [Az t,Az (rs.getD (D (I O ((k:Int)-1))) z0)] (Ag g))(n4:RQ 160 [Az t] (Ag ab))(n5:RQ 158 [Ag ab,Ag g] (Ar [Ag x,Ag r1]))(n6:RQ 158 [Az (rs.getD (D (I O ((k:Int)-1))) z0),Ag g] (Ar [Ag y,Ag r2]))(n7:RQ 101 [Az t] (F O s))(hl8:Ap (.loop MX) (HB qs k rs t (cn x) (cn y) (I O ((k:Int)-(qs.length:Int))) (k:Int) 0) (.exit 2) (HB qs k os t a b at1 n i))(n9:RQ 115 [H k (pc os)] (P 2 us.length (pc us))):Ap SX (Lu qs k rs t) .norm (Lu qs us.length us t):=(CE.seq (J (t:=(W 1 (vp qs::(W 3 (X 2 k (pc rs)::(bR t::(W 18 (.dup 5::(W 73 []))))))))) h [bT] [1,5,6,25] (Jx c1)) (v (CE.asc (CE.asc (CE.asc (CE.asc (CE.asc (Av (CE.seq (J h [.v (Az (rs.getD (D (I O ((k:Int)-1))) z0)),.r (Ag g),.r (Ag ab),.r (Ar [Ag x,Ag r1]),.r (Ar [Ag y,Ag r2]),.r (F O s),bF] Yh (ND n1 (Hn n2 n1) n3 n4 n5 n6 n7 c2)) (CE.seq (CE.block hl8) (J h [.r (P 2 us.length (pc us))] [1,5,6] (Jx n9))))))))))))
theorem oB(qs:List Rn)(k:Nat)(rs:List Rn)(t:Rn)(c1:A ((k:Int)>=(qs.length:Int))=false):Ap SX (Lu qs k rs t) (.exit 0) (Lu qs k rs t):=(A4 (J h [bF] [1,5,6] (Jx c1)))
theorem Azo(rs ss ps qs us:List Rn)(t:Rn)(k:Nat)(n1:RQ 115 [sL pc rs] (P 2 ps.length (pc ps)))(n2:RQ 115 [sL pc ss] (P 2 qs.length (pc qs)))(n3:0<=(I O ((qs.length:Int)-1))/\(I O ((qs.length:Int)-1))<(qs.length:Int))(hl4:Ap (.loop SX) (Lu qs ps.length ps (qs.getD (D (I O ((qs.length:Int)-1))) z0)) (.exit 0) (Lu qs k us t)):RQ 118 [sL pc rs,sL pc ss] (P 2 k (pc us)):=OO Aqd (W 4 (X 2 k (pc us)::(W 94 []))) (CE.asc (CE.asc (CE.seq (J h [.r (P 2 ps.length (pc ps)),.r (P 2 qs.length (pc qs)),.v (Az (qs.getD (D (I O ((qs.length:Int)-1))) z0))] [1,5,6] (JS n1 n2 n3 (BP n3))) (CE.seq (CE.block hl4) (J h [] [4] a0)))))
def S':ICode:=c Are 94 56
def Lv(as1:List Rn)(bs:List Rn):Aj:=(W 5 (C (sL pc as1)::(C (sL pc bs)::(W 13 []))))
theorem oC(as1:List Rn)(bs:List Rn)(us:List Rn)(c1:A ((bs.length:Int)>0)=true)(n1:RQ 118 [sL pc as1,sL pc bs] (P 2 us.length (pc us))):Ap S' (Lv as1 bs) .norm (Lv bs us):=(J h [bT,.r (P 2 us.length (pc us))] [5,6] (J0 c1 n1))
theorem oD(as1:List Rn)(bs:List Rn)(c1:A ((bs.length:Int)>0)=false):Ap S' (Lv as1 bs) (.exit 0) (Lv as1 bs):=(J h [bF] [5,6] (Jx c1))
theorem xO(rs ss ps qs as1 bs ts:List Rn)(n1:RQ 115 [sL pc rs] (P 2 ps.length (pc ps)))(n2:RQ 115 [sL pc ss] (P 2 qs.length (pc qs)))(hl3:Ap (.loop S') (Lv ps qs) (.exit 0) (Lv as1 bs))(n4:RQ 155 [sL pc as1] (P 2 ts.length (pc ts))):RQ 135 [sL pc rs,sL pc ss] (P 2 ts.length (pc ts)):=OO Are (W 4 (X 2 ts.length (pc ts)::(W 15 []))) (CE.asc (CE.seq (J h [.r (P 2 ps.length (pc ps)),.r (P 2 qs.length (pc qs))] [5,6] (J0 n1 n2)) (CE.seq (CE.block hl3) (J h [.r (P 2 ts.length (pc ts))] [4] (Jx n4)))))
theorem xP(rs ss ps qs as1 bs:List Rn)(n1:RQ 115 [sL pc rs] (P 2 ps.length (pc ps)))(n2:RQ 115 [sL pc ss] (P 2 qs.length (pc qs)))(hl3:Ap (.loop S') (Lv ps qs) (.exit 0) (Lv as1 bs))(n4:RQ 155 [sL pc as1] (sL pc as1)):RQ 135 [sL pc rs,sL pc ss] (sL pc as1):=OO Are (W 4 (C (sL pc as1)::(W 15 []))) (CE.asc (CE.seq (J h [.r (P 2 ps.length (pc ps)),.r (P 2 qs.length (pc qs))] [5,6] (J0 n1 n2)) (CE.seq (CE.block hl3) (J h [.r (sL pc as1)] [4] (Jx n4)))))
def RD:ICode:=c Asd 83 128148
def K7(qs:List Rn)(k:Nat)(rs:List Rn)(t:Rn)(kq:Nat)(os:List Rn)(j:Int)(l:Rn)(n:Int)(i:Int):Aj:=(W 1 (C (sL pc qs)::(W 3 (X 2 k (pc rs)::(Ay [B t.1,H t.2.length (lm t.2)]::(X 2 kq (pc os)::(C (F O j)::(Ay [B l.1,H l.2.length (lm l.2)]::(W 34 (C (F O n)::(C (F O i)::(W 57 []))))))))))))
theorem Ahu(qs:List Rn)(k:Nat)(rs:List Rn)(t:Rn)(kq:Nat)(os:List Rn)(j:Int)(l:Rn)(n:Int)(i:Int)(c1:A (i<n)=true)(n1:0<=i/\i<(k:Int))(n2:rs.length=k)(n3:RQ 112 [Az (rs.getD (D i) z0),Az t] (Ag ((L (rs.getD (D i) z0))*(L t)))):Ap RD (K7 qs k rs t kq os j l n i) .norm (K7 qs k (rs.set (D i) (cn ((L (rs.getD (D i) z0))*(L t)))) t kq os j l n (I O (i+1))):=(J h [bT,.v (Az (rs.getD (D i) z0)),.r (Ag ((L (rs.getD (D i) z0))*(L t))),.l (pc (rs.set (D i) (cn ((L (rs.getD (D i) z0))*(L t)))))] kQ (JT c1 n1 (Hn n2 n1) n3 n1 (HR (r:=cn ((L (rs.getD (D i) z0))*(L t))) n2 n1)))
theorem Ahv(qs:List Rn)(k:Nat)(rs:List Rn)(t:Rn)(kq:Nat)(os:List Rn)(j:Int)(l:Rn)(n:Int)(i:Int)(c1:A (i<n)=false):Ap RD (K7 qs k rs t kq os j l n i) (.exit 2) (K7 qs k rs t kq os j l n i):=(J h [bF] kQ (Jx c1))
def RE:ICode:=c Asd 82 256308
def K8(qs:List Rn)(k:Nat)(rs:List Rn)(t:Rn)(kq:Nat)(os:List Rn)(j:Int)(l:Rn)(n:Int)(i:Int):Aj:=(W 1 (C (sL pc qs)::(W 3 (X 2 k (pc rs)::(Ay [B t.1,H t.2.length (lm t.2)]::(X 2 kq (pc os)::(C (F O j)::(Ay [B l.1,H l.2.length (lm l.2)]::(W 49 (C (F O n)::(C (F O i)::(W 42 []))))))))))))
theorem Ahw(qs:List Rn)(k:Nat)(rs:List Rn)(t:Rn)(kq:Nat)(os:List Rn)(j:Int)(l:Rn)(n:Int)(i:Int)(c1:A (i<n)=true)(n1:0<=i/\i<(kq:Int))(n2:os.length=kq)(n3:RQ 112 [Az (os.getD (D i) z0),Az t] (Ag ((L (os.getD (D i) z0))*(L t)))):Ap RE (K8 qs k rs t kq os j l n i) .norm (K8 qs k rs t kq (os.set (D i) (cn ((L (os.getD (D i) z0))*(L t)))) j l n (I O (i+1))):=(J h [bT,.v (Az (os.getD (D i) z0)),.r (Ag ((L (os.getD (D i) z0))*(L t))),.l (pc (os.set (D i) (cn ((L (os.getD (D i) z0))*(L t)))))] kR (JT c1 n1 (Hn n2 n1) n3 n1 (HR (r:=cn ((L (os.getD (D i) z0))*(L t))) n2 n1)))
theorem Ahx(qs:List Rn)(k:Nat)(rs:List Rn)(t:Rn)(kq:Nat)(os:List Rn)(j:Int)(l:Rn)(n:Int)(i:Int)(c1:A (i<n)=false):Ap RE (K8 qs k rs t kq os j l n i) (.exit 4) (K8 qs k rs t kq os j l n i):=(J h [bF] kR (Jx c1))
def RF:ICode:=c Asd 81 512636
def K9(qs:List Rn)(k:Nat)(rs:List Rn)(t:Rn)(kq:Nat)(os:List Rn)(j:Int)(l:Rn)(n:Int)(i:Int):Aj:=(W 1 (C (sL pc qs)::(W 3 (X 2 k (pc rs)::(Ay [B t.1,H t.2.length (lm t.2)]::(X 2 kq (pc os)::(C (F O j)::(Ay [B l.1,H l.2.length (lm l.2)]::(W 68 (C (F O n)::(C (F O i)::(W 23 []))))))))))))
theorem Ahy(qs:List Rn)(k:Nat)(rs:List Rn)(t:Rn)(kq:Nat)(os:List Rn)(j:Int)(l:Rn)(n:Int)(i:Int)(c1:A (i<n)=true)(n1:0<=(I O (j+i))/\(I O (j+i))<(k:Int))(n2:rs.length=k)(n3:0<=i/\i<(qs.length:Int))(n4:RQ 112 [Az l,Az (qs.getD (D i) z0)] (Ag ((L l)*(L (qs.getD (D i) z0)))))(n5:RQ 127 [Az (rs.getD (D (I O (j+i))) z0),Ag ((L l)*(L (qs.getD (D i) z0)))] (Ag ((L (rs.getD (D (I O (j+i))) z0))-((L l)*(L (qs.getD (D i) z0)))))):Ap RF (K9 qs k rs t kq os j l n i) .norm (K9 qs k (rs.set (D (I O (j+i))) (cn ((L (rs.getD (D (I O (j+i))) z0))-((L l)*(L (qs.getD (D i) z0)))))) t kq os j l n (I O (i+1))):=(J h [bT,.v (Az (rs.getD (D (I O (j+i))) z0)),.v (Az (qs.getD (D i) z0)),.r (Ag ((L l)*(L (qs.getD (D i) z0)))),.r (Ag ((L (rs.getD (D (I O (j+i))) z0))-((L l)*(L (qs.getD (D i) z0))))),.l (pc (rs.set (D (I O (j+i))) (cn ((L (rs.getD (D (I O (j+i))) z0))-((L l)*(L (qs.getD (D i) z0)))))))] kU (Qx c1 n1 (Hn n2 n1) n3 (BP n3) n4 n5 n1 (HR (r:=cn ((L (rs.getD (D (I O (j+i))) z0))-((L l)*(L (qs.getD (D i) z0))))) n2 n1)))
theorem Ahz(qs:List Rn)(k:Nat)(rs:List Rn)(t:Rn)(kq:Nat)(os:List Rn)(j:Int)(l:Rn)(n:Int)(i:Int)(c1:A (i<n)=false):Ap RF (K9 qs k rs t kq os j l n i) (.exit 6) (K9 qs k rs t kq os j l n i):=(J h [bF] kU (Jx c1))
def Yn:ICode:=c Asd 91 500
def T0(qs:List Rn)(k:Nat)(rs:List Rn)(t:Rn)(kq:Nat)(os:List Rn)(j:Int):Aj:=(W 1 (C (sL pc qs)::(W 3 (X 2 k (pc rs)::(Ay [B t.1,H t.2.length (lm t.2)]::(X 2 kq (pc os)::(C (F O j)::(W 94 []))))))))
theorem Azp(qs:List Rn)(k:Nat)(rs:List Rn)(t:Rn)(kq:Nat)(os:List Rn)(j:Int)(rs1 rs2 os1:List Rn)(m1 i1 m2 i2 m3 i3:Int)(c1:A (j>=0)=true)(n1:0<=(I O ((I O (j+(qs.length:Int)))-1))/\(I O ((I O (j+(qs.length:Int)))-1))<(k:Int))(n2:rs.length=k)(hl3:Ap (.loop RD) (K7 qs k rs t kq os j (rs.getD (D (I O ((I O (j+(qs.length:Int)))-1))) z0) (k:Int) 0) (.exit 2) (K7 qs k rs1 t kq os j (rs.getD (D (I O ((I O (j+(qs.length:Int)))-1))) z0) m1 i1))(hl4:Ap (.loop RE) (K8 qs k rs1 t kq os j (rs.getD (D (I O ((I O (j+(qs.length:Int)))-1))) z0) (kq:Int) 0) (.exit 4) (K8 qs k rs1 t kq os1 j (rs.getD (D (I O ((I O (j+(qs.length:Int)))-1))) z0) m2 i2))(n5:0<=j/\j<(kq:Int))(n6:os1.length=kq)(hl7:Ap (.loop RF) (K9 qs k rs1 t kq (os1.set (D j) (rs.getD (D (I O ((I O (j+(qs.length:Int)))-1))) z0)) j (rs.getD (D (I O ((I O (j+(qs.length:Int)))-1))) z0) (qs.length:Int) 0) (.exit 6) (K9 qs k rs2 t kq (os1.set (D j) (rs.getD (D (I O ((I O (j+(qs.length:Int)))-1))) z0)) j (rs.getD (D (I O ((I O (j+(qs.length:Int)))-1))) z0) m3 i3)):Ap Yn (T0 qs k rs t kq os j) .norm (T0 qs k rs2 t kq (os1.set (D j) (rs.getD (D (I O ((I O (j+(qs.length:Int)))-1))) z0)) (I O (j-1))):=(CE.seq (J (t:=(W 1 (vp qs::(W 3 (X 2 k (pc rs)::(bR t::(X 2 kq (pc os)::(u j::(W 94 []))))))))) h [bT] fV (Jx c1)) (CE.seq (v (Av (CE.seq (J h [.v (Az (rs.getD (D (I O ((I O (j+(qs.length:Int)))-1))) z0))] kQ (J0 n1 (Hn n2 n1))) (CE.seq (CE.block hl3) (CE.seq (CE.seq (J h [] kR a0) (CE.block hl4)) (CE.asc (CE.seq (J h [.l (pc (os1.set (D j) (rs.getD (D (I O ((I O (j+(qs.length:Int)))-1))) z0)))] kU (J0 n5 (HR (r:=rs.getD (D (I O ((I O (j+(qs.length:Int)))-1))) z0) n6 n5))) (CE.block hl7)))))))) (J h [] fV a0)))
theorem Azq(qs:List Rn)(k:Nat)(rs:List Rn)(t:Rn)(kq:Nat)(os:List Rn)(j:Int)(c1:A (j>=0)=false):Ap Yn (T0 qs k rs t kq os j) (.exit 0) (T0 qs k rs t kq os j):=(A4 (J h [bF] fV (Jx c1)))
theorem Azr(rs qs ps us xs os:List Rn)(t:Rn)(k kq:Nat)(j:Int)(n1:RQ 66 [sL pc rs] (P 2 ps.length (pc ps)))(n2:0<=(I O ((qs.length:Int)-1))/\(I O ((qs.length:Int)-1))<(qs.length:Int))(n3:0<=(I O ((I O ((ps.length:Int)-(qs.length:Int)))+1))/\(I O ((I O ((ps.length:Int)-(qs.length:Int)))+1))<=1048576)(hl4:Ap (.loop Yn) ((W 1 (C (sL pc qs)::(W 3 (X 2 ps.length (pc ps)::(Ay [B ((qs.getD (D (I O ((qs.length:Int)-1))) z0).1),H ((qs.getD (D (I O ((qs.length:Int)-1))) z0).2.length) (lm (qs.getD (D (I O ((qs.length:Int)-1))) z0).2)]::(X 2 (D (I O ((I O ((ps.length:Int)-(qs.length:Int)))+1))) (CD [B false,H 0 []] (D (I O ((I O ((ps.length:Int)-(qs.length:Int)))+1))))::(C (F O (I O ((((D (I O ((I O ((ps.length:Int)-(qs.length:Int)))+1))):Nat):Int)-1)))::(W 94 []))))))))) (.exit 0) (T0 qs k xs t kq os j))(n5:RQ 115 [H kq (pc os)] (P 2 us.length (pc us))):RQ 156 [sL pc rs,sL pc qs] (P 2 us.length (pc us)):=OO Asd (W 4 (X 2 us.length (pc us)::(W 98 []))) (CE.asc (CE.asc (CE.asc (Av (CE.seq (J h [.r (P 2 ps.length (pc ps)),.v (Az (qs.getD (D (I O ((qs.length:Int)-1))) z0))] fV (JS n1 n2 (BP n2) n3)) (CE.seq (CE.block hl4) (J h [.r (P 2 us.length (pc us))] [4] (Jx n5))))))))
theorem aA(rs ps xs:List Rn)(c1:A ((xs.length:Int)<2)=true)(n1:RQ 115 [sL pc rs] (P 2 ps.length (pc ps)))(n2:RQ 155 [sL pc ps] (P 2 xs.length (pc xs))):RQ 114 [sL pc rs] (sL pc xs):=i (fn:=iF Mv Apx) h rfl 400 rfl [.r (P 2 ps.length (pc ps)),.r (P 2 xs.length (pc xs)),bT] (JV n1 n2 c1)
theorem aB(rs ps xs ds gs:List Rn)(c1:A ((xs.length:Int)<2)=false)(c2:A ((gs.length:Int)<2)=true)(n1:RQ 115 [sL pc rs] (P 2 ps.length (pc ps)))(n2:RQ 155 [sL pc ps] (P 2 xs.length (pc xs)))(n3:RQ 116 [sL pc xs] (P 2 ds.length (pc ds)))(n4:RQ 135 [sL pc xs,sL pc ds] (P 2 gs.length (pc gs))):RQ 114 [sL pc rs] (sL pc xs):=i (fn:=iF Mv Apx) h rfl 400 rfl [.r (P 2 ps.length (pc ps)),.r (P 2 xs.length (pc xs)),bF,.r (P 2 ds.length (pc ds)),.r (P 2 gs.length (pc gs)),bT] (JT n1 n2 c1 n3 n4 c2)
theorem aC(rs ps xs ds gs us:List Rn)(c1:A ((xs.length:Int)<2)=false)(c2:A ((gs.length:Int)<2)=false)(n1:RQ 115 [sL pc rs] (P 2 ps.length (pc ps)))(n2:RQ 155 [sL pc ps] (P 2 xs.length (pc xs)))(n3:RQ 116 [sL pc xs] (P 2 ds.length (pc ds)))(n4:RQ 135 [sL pc xs,sL pc ds] (P 2 gs.length (pc gs)))(n5:RQ 156 [sL pc xs,sL pc gs] (P 2 us.length (pc us))):RQ 114 [sL pc rs] (P 2 us.length (pc us)):=i (fn:=iF Mv Apx) h rfl 400 rfl [.r (P 2 ps.length (pc ps)),.r (P 2 xs.length (pc xs)),bF,.r (P 2 ds.length (pc ds)),.r (P 2 gs.length (pc gs)),bF,.r (P 2 us.length (pc us))] (Lm n1 n2 c1 n3 n4 c2 n5)
theorem aD(rs ps xs ds gs:List Rn)(c1:A ((xs.length:Int)<2)=false)(c2:A ((gs.length:Int)<2)=true)(n1:RQ 115 [sL pc rs] (P 2 ps.length (pc ps)))(n2:RQ 155 [sL pc ps] (P 2 xs.length (pc xs)))(n3:RQ 116 [sL pc xs] (P 2 ds.length (pc ds)))(n4:RQ 135 [sL pc xs,sL pc ds] (sL pc gs)):RQ 114 [sL pc rs] (sL pc xs):=i (fn:=iF Mv Apx) h rfl 400 rfl [.r (P 2 ps.length (pc ps)),.r (P 2 xs.length (pc xs)),bF,.r (P 2 ds.length (pc ds)),.r (sL pc gs),bT] (JT n1 n2 c1 n3 n4 c2)
theorem aE(rs ps xs ds gs us:List Rn)(c1:A ((xs.length:Int)<2)=false)(c2:A ((gs.length:Int)<2)=false)(n1:RQ 115 [sL pc rs] (P 2 ps.length (pc ps)))(n2:RQ 155 [sL pc ps] (P 2 xs.length (pc xs)))(n3:RQ 116 [sL pc xs] (P 2 ds.length (pc ds)))(n4:RQ 135 [sL pc xs,sL pc ds] (sL pc gs))(n5:RQ 156 [sL pc xs,sL pc gs] (P 2 us.length (pc us))):RQ 114 [sL pc rs] (P 2 us.length (pc us)):=i (fn:=iF Mv Apx) h rfl 400 rfl [.r (P 2 ps.length (pc ps)),.r (P 2 xs.length (pc xs)),bF,.r (P 2 ds.length (pc ds)),.r (sL pc gs),bF,.r (P 2 us.length (pc us))] (Lm n1 n2 c1 n3 n4 c2 n5)
theorem aF(rs ps ds gs:List Rn)(c1:A ((ps.length:Int)<2)=false)(c2:A ((gs.length:Int)<2)=true)(n1:RQ 115 [sL pc rs] (P 2 ps.length (pc ps)))(n2:RQ 155 [sL pc ps] (sL pc ps))(n3:RQ 116 [sL pc ps] (P 2 ds.length (pc ds)))(n4:RQ 135 [sL pc ps,sL pc ds] (P 2 gs.length (pc gs))):RQ 114 [sL pc rs] (sL pc ps):=i (fn:=iF Mv Apx) h rfl 400 rfl [.r (P 2 ps.length (pc ps)),.r (sL pc ps),bF,.r (P 2 ds.length (pc ds)),.r (P 2 gs.length (pc gs)),bT] (JT n1 n2 c1 n3 n4 c2)
theorem aG(rs ps ds gs us:List Rn)(c1:A ((ps.length:Int)<2)=false)(c2:A ((gs.length:Int)<2)=false)(n1:RQ 115 [sL pc rs] (P 2 ps.length (pc ps)))(n2:RQ 155 [sL pc ps] (sL pc ps))(n3:RQ 116 [sL pc ps] (P 2 ds.length (pc ds)))(n4:RQ 135 [sL pc ps,sL pc ds] (P 2 gs.length (pc gs)))(n5:RQ 156 [sL pc ps,sL pc gs] (P 2 us.length (pc us))):RQ 114 [sL pc rs] (P 2 us.length (pc us)):=i (fn:=iF Mv Apx) h rfl 400 rfl [.r (P 2 ps.length (pc ps)),.r (sL pc ps),bF,.r (P 2 ds.length (pc ds)),.r (P 2 gs.length (pc gs)),bF,.r (P 2 us.length (pc us))] (Lm n1 n2 c1 n3 n4 c2 n5)
theorem aH(rs ps:List Rn)(c1:A ((ps.length:Int)<2)=true)(n1:RQ 115 [sL pc rs] (P 2 ps.length (pc ps)))(n2:RQ 155 [sL pc ps] (sL pc ps)):RQ 114 [sL pc rs] (sL pc ps):=i (fn:=iF Mv Apx) h rfl 400 rfl [.r (P 2 ps.length (pc ps)),.r (sL pc ps),bT] (JV n1 n2 c1)
theorem aI(rs ps ds gs:List Rn)(c1:A ((ps.length:Int)<2)=false)(c2:A ((gs.length:Int)<2)=true)(n1:RQ 115 [sL pc rs] (P 2 ps.length (pc ps)))(n2:RQ 155 [sL pc ps] (sL pc ps))(n3:RQ 116 [sL pc ps] (P 2 ds.length (pc ds)))(n4:RQ 135 [sL pc ps,sL pc ds] (sL pc gs)):RQ 114 [sL pc rs] (sL pc ps):=i (fn:=iF Mv Apx) h rfl 400 rfl [.r (P 2 ps.length (pc ps)),.r (sL pc ps),bF,.r (P 2 ds.length (pc ds)),.r (sL pc gs),bT] (JT n1 n2 c1 n3 n4 c2)
theorem aJ(rs ps ds gs us:List Rn)(c1:A ((ps.length:Int)<2)=false)(c2:A ((gs.length:Int)<2)=false)(n1:RQ 115 [sL pc rs] (P 2 ps.length (pc ps)))(n2:RQ 155 [sL pc ps] (sL pc ps))(n3:RQ 116 [sL pc ps] (P 2 ds.length (pc ds)))(n4:RQ 135 [sL pc ps,sL pc ds] (sL pc gs))(n5:RQ 156 [sL pc ps,sL pc gs] (P 2 us.length (pc us))):RQ 114 [sL pc rs] (P 2 us.length (pc us)):=i (fn:=iF Mv Apx) h rfl 400 rfl [.r (P 2 ps.length (pc ps)),.r (sL pc ps),bF,.r (P 2 ds.length (pc ds)),.r (sL pc gs),bF,.r (P 2 us.length (pc us))] (Lm n1 n2 c1 n3 n4 c2 n5)
end
end Go.Proofs.YtajompaehjkgkaaGreat
namespace Go.Ai
open Decidable renaming decide->A
open Int renaming add_zero->BJ,dvd_add_right->Anx,dvd_mul_right->UT,dvd_trans->SD,eq_of_mul_eq_mul_left->FM,mul_ediv_cancel'->JM,mul_eq_zero->EH,mul_zero->AG,natAbs->E,natAbs_dvd->A6e,natAbs_mul->BS,natCast_mul->DI,ofNat_dvd_left->Hl,pow_succ->A7,pow_zero->Dj
open List renaming countP_eq_length_filter->I9,eq_nil_of_length_eq_zero->A5,getD_cons_succ->Ix,getD_cons_zero->Kt,getD_eq_getElem?_getD->Z,getElem?_map->Cs,length_cons->B0,length_eq_countP_add_countP->Aax,length_take->AD,mem_cons_of_mem->AT,mem_cons_self->AO,mem_filter->ES,mem_map->Cn,mem_of_mem_take->BT,mem_range->JK,nodup_cons->Pm,nodup_iff_pairwise_ne->ZJ,range->Aq,take_sublist->AEm
open Nat renaming eq_zero_or_pos->Fo,gcd->J7,le_mul_of_pos_left->aR,le_mul_of_pos_right->C7,le_of_dvd->Ut,le_of_lt->uY,le_of_not_lt->PI,le_refl->Ao,le_trans->Bm,lt_of_le_of_lt->DF,mul_assoc->Fm,mul_le_mul->BG,mul_le_mul_left->z,mul_one->FR,mul_zero->jN,pow_add->De,pow_le_pow_right->BM,pow_pos->DH,pow_succ->Gx,strongRecOn->WX
theorem xQ(c:Nat)(hc:1<c):∃ p,1<p/\p∣c/\∀ d,d∣p->d=1\/d=p:=by
 have h:∀ n,∀ m,m<=n->1<m->m∣c->∃ p,1<p/\p∣c/\∀ d,d∣p->d=1\/d=p:=by
  intro n;induction n with
  | zero=>intro m h1 h2;omega
  | succ n ih =>
   intro m h1 h2 h3;by_cases h:∀ d,d∣m->d=1\/d=m
   ·exact⟨m,h2,h3,h⟩
   ·obtain⟨d,hd⟩:=Classical.not_forall.1 h;obtain⟨hd1,hd2⟩:=Classical.not_imp.1 hd;have h5:=Ut (by omega) hd1;have h6:d ≠ 0:=by intro h0;subst h0;have:=Nat.zero_dvd.1 hd1;omega
    exact ih d (by omega) (by omega) (Nat.dvd_trans hd1 h3)
 exact h c c (Ao _) hc (Nat.dvd_refl _)
theorem xR{p:Nat}(hp:∀ d,d∣p->d=1\/d=p){a b:Int}(h:(p:Int)∣a*b):(p:Int)∣a\/(p:Int)∣b:=by
 rcases hp (J7 p a.natAbs) (Nat.gcd_dvd_left _ _) with g | g
 ·right;have h1:p∣a.natAbs*b.natAbs:=by rw[<- BS];exact Hl.1 h
  exact Hl.2 (Nat.Coprime.dvd_of_dvd_mul_left g h1)
 ·left;have:p∣a.natAbs:=by rw[<- g];exact Nat.gcd_dvd_right _ _
  exact Hl.2 this
theorem V4(g:LI)(b:Int)(k:LI)(i:Nat):(Bs g (b::k)).getD i 0=b*g.getD i 0+(Dz 1 (Bs g k)).getD i 0:=by
 have h:=Dq (p:=Bs g (b::k)) (q:=Ec (As b g) (Dz 1 (Bs g k))) (fun x=>by
  rw[AX,BY,A0,D9,AX];simp only[Aa,A7,Dj];grind) i
 rw[h,DS,m]
theorem Uz{p:Nat}(hp:∀ d,d∣p->d=1\/d=p):∀ (g k:LI),(∀ i,(p:Int)∣(Bs g k).getD i 0)->(¬ ∀ i,(p:Int)∣g.getD i 0)->∀ i,(p:Int)∣k.getD i 0
 | [],k,_,h=>absurd (fun i=>by simp) h
 | a::g,k,h,hn=>by
  by_cases ha:(p:Int)∣a
  ·refine Uz hp g k (fun i => ?_) (fun h2=>hn fun i => ?_)
   ·have h1:=h (i+1);rw[Fu,Cw,if_pos (by omega)] at h1;exact (Anx (SD ha (UT _ _))).1 h1
   ·cases i with
    | zero=>simpa using ha
    | succ i=>simpa using h2 i
  ·clear hn;induction k with
   | nil=>intro i;simp
   | cons b k ih =>
    have h0:=h 0;rw[Fu,Cw,if_neg (by omega),BJ] at h0;have hb:(p:Int)∣b:=by
     rcases xR hp h0 with g1 | g1
     ·exact absurd g1 ha
     ·simpa using g1
    have h2:=ih (fun i=>by
     have h1:=h (i+1);rw[V4,Cw,if_pos (by omega)] at h1;exact (Anx (SD hb (UT _ _))).1 h1)
    intro i;cases i with
    | zero=>simpa using hb
    | succ i=>simpa using h2 i
theorem ADl{g:LI}(hg:w g=1):∀ (c:Nat) (k:LI),0<c->(∀ i,(c:Int)∣(Bs g k).getD i 0)->∀ i,(c:Int)∣k.getD i 0:=by
 intro c;induction c using WX with
 | ind c ih =>
  intro k hc h;by_cases h1:c=1
  ·intro i;rw[h1];exact Int.one_dvd _
  ·obtain⟨p,p1,⟨d,hd⟩,p3⟩:=xQ c (by omega);have hd0:0<d:=by
    rcases Fo d with g | g
    ·rw[g,jN] at hd;omega
    ·exact g
   have hdc:d<c:=by rw[hd];exact (Nat.lt_mul_iff_one_lt_left hd0).2 p1
   have hpk:=Uz p3 g k (fun i=>SD ⟨(d:Int),by rw[hd];push_cast;rfl⟩ (h i)) (fun h2=>by
    have:=(Mb p g).2 h2;rw[hg] at this;have:=Ut (by decide) this;omega)
   have hk:As (p:Int) (k.map fun x=>x / (p:Int))=k:=by
    apply L_ (by simp[As]);intro i;rw[m];have e:(k.map fun x=>x / (p:Int)).getD i 0=k.getD i 0 / (p:Int):=by
     simp only[Z,Cs];cases k[i]? <;> simp
    rw[e];exact JM (hpk i)
   generalize k.map (fun x=>x / (p:Int))=k1 at hk;subst hk;have h3:=ih d hdc k1 hd0 (fun i=>by
    have h2:=h i;have e:(Bs g (As (p:Int) k1)).getD i 0=(p:Int)*(Bs g k1).getD i 0:=by
     rw[<- m];exact Dq (fun x=>by rw[AX,A0,A0,AX];grind) i
    rw[e,hd,DI] at h2;exact Int.dvd_of_mul_dvd_mul_left (by omega) h2)
   intro i;rw[m,hd,DI];exact Int.mul_dvd_mul_left _ (h3 i)
def Rf:LI->Int->LI
 | [],_=>[]
 | _::p,a=>Ec p (As a (Rf p a))
theorem RU:∀ (p:LI) (a x:Int),Aa p x-Aa p a=(x-a)*Aa (Rf p a) x
 | [],a,x=>by simp[Rf,Aa]
 | c::p,a,x=>by
  have ih:=RU p a x;simp only[Rf,Aa];rw[BY,A0];grind
theorem YR:∀ (p:LI) (a:Int),(Rf p a).length<=p.length-1
 | [],a=>by simp[Rf]
 | c::p,a=>by
  have ih:=YR p a;have:=cH p (As a (Rf p a));rw[y] at this;simp only[Rf,B0];omega
theorem dF(p:LI)(a:Int)(i:Nat):p.getD i 0=(Aa p a::Rf p a).getD i 0-a*(Rf p a).getD i 0:=by
 have h:=Dq (p:=p) (q:=My (Aa p a::Rf p a) (As a (Rf p a))) (fun x=>by
  rw[FC,A0];simp only[Aa];have:=RU p a x;grind) i
 rw[h,To,m]
theorem YS:∀ (n:Nat) (p:LI) (l:LI),p.length<=n->l.Nodup->(∀ x∈l,Aa p x=0)->n<=l.length->∀ i,p.getD i 0=0:=by
 intro n;induction n with
 | zero =>
  intro p l h _ _ _ i;rw[A5 (by omega:p.length=0)];simp
 | succ n ih =>
  intro p l h1 h2 h3 h4 i;cases l with
  | nil=>simp at h4
  | cons a l =>
   have ha:=h3 a AO;have hq:=ih (Rf p a) l (by have:=YR p a;omega) (Pm.1 h2).2 (fun x hx=>by
    have h5:=RU p a x;rw[ha,h3 x (AT _ hx)] at h5;rcases EH.1 (h5.symm.trans (by omega)) with g | g
    ·have hxa:x=a:=by omega
     subst hxa;exact absurd hx (Pm.1 h2).1
    ·exact g) (by simp at h4;omega)
   rw[dF p a i,ha,hq i];cases i with
   | zero=>simp
   | succ i=>simpa using hq i
theorem WD{R:Nat}:∀ (n:Nat) (g:LI) (l:LI) (M:Nat),g.length<=n+1->l.Nodup->l.length=n+1->(∀ x∈l,x.natAbs<=R/\(Aa g x).natAbs<=M)->(∀ x∈l,∀ y∈l,x ≠ y->1<=(x-y).natAbs)->∀ i,(g.getD i 0).natAbs<=M*(2*R+3)^n:=by
 intro n;induction n with
 | zero =>
  intro g l M h1 h2 h3 h4 _ i;cases l with
  | nil=>simp at h3
  | cons a l =>
   have ha:=h4 a AO;cases g with
   | nil=>simp
   | cons c g =>
    have:g=[]:=by simpa using h1
    subst this;simp only[Aa,AG,BJ] at ha;rw[Nat.pow_zero,FR];cases i with
    | zero=>simpa using ha.2
    | succ i=>simp
 | succ n ih =>
  intro g l M h1 h2 h3 h4 h6 i;cases l with
  | nil=>simp at h3
  | cons a l =>
   obtain⟨ha1,ha2⟩:=h4 a AO;have hq:=ih (Rf g a) l (2*M) (by have:=YR g a;omega) (Pm.1 h2).2 (by simpa using h3) (fun x hx=>by
    obtain⟨hx1,hx2⟩:=h4 x (AT _ hx);refine⟨hx1,?_⟩;have h5:=congrArg E (RU g a x);rw[BS] at h5;have hne:x ≠ a:=by intro e;subst e;exact absurd hx (Pm.1 h2).1
    have h7:1<=(x-a).natAbs:=by omega
    have h8:=aR (Aa (Rf g a) x).natAbs h7;have h9:(Aa g x-Aa g a).natAbs<=2*M:=by omega
    omega) (fun x hx y hy=>h6 x (AT _ hx) y (AT _ hy))
   rw[dF g a i];have hX:1<=(2*R+3)^n:=DH (by omega);have e1:M*(2*R+3)^(n+1)=R*(2*M*(2*R+3)^n)+2*M*(2*R+3)^n+M*(2*R+3)^n:=by rw[Gx];grind
   have e2:M*1<=M*(2*R+3)^n:=z _ hX;have b1:=hq i;have b2:(a*(Rf g a).getD i 0).natAbs<=R*(2*M*(2*R+3)^n):=by rw[BS];exact BG ha1 b1
   have b3:((Aa g a::Rf g a).getD i 0).natAbs<=2*M*(2*R+3)^n+M*(2*R+3)^n:=by
    cases i with
    | zero=>simp only[Kt];omega
    | succ i=>have:=hq i;simp only[Ix];omega
   rw[e1];generalize R*(2*M*(2*R+3)^n)=A at *
   generalize 2*M*(2*R+3)^n=B at *
   generalize M*(2*R+3)^n=C at *
   omega
theorem V5{R B:Nat}:∀ (t:LI) (x:Int),(∀ i,(t.getD i 0).natAbs<=B)->x.natAbs<=R->(Aa t x).natAbs<=B*(R+1)^t.length
 | [],x,_,_=>by simp[Aa]
 | c::t,x,h,hx=>by
  have ih:=V5 t x (fun i=>by simpa using h (i+1)) hx;have h0:c.natAbs<=B:=by simpa using h 0
  simp only[Aa,B0];have h1:(x*Aa t x).natAbs<=R*(B*(R+1)^t.length):=by rw[BS];exact BG hx ih
  have h2:B*1<=B*(R+1)^t.length:=z _ (DH (by omega));have e:B*(R+1)^(t.length+1)=R*(B*(R+1)^t.length)+B*(R+1)^t.length:=by rw[Gx];grind
  rw[e];generalize R*(B*(R+1)^t.length)=X at *
  omega
theorem Aia{t:LI}{n:Nat}(ht:Y t ≠ [])(hl:t.length<=n+1):∃ l:LI,l.Nodup/\l.length=n+1/\∀ x∈l,x.natAbs<=2*n/\Aa t x ≠ 0:=by
 have hnd:((Aq (2*n+1)).map fun i:Nat=>(i:Int)).Nodup:=by
  rw[ZJ,List.pairwise_map];exact (ZJ.1 List.nodup_range).imp (fun h=>by omega)
 have hmem:∀ x∈(Aq (2*n+1)).map fun i:Nat=>(i:Int),x.natAbs<=2*n:=by
  intro x hx;obtain⟨i,hi,rfl⟩:=Cn.1 hx;have:=JK.1 hi;omega
 have hlen:((Aq (2*n+1)).map fun i:Nat=>(i:Int)).length=2*n+1:=by simp
 generalize ((Aq (2*n+1)).map fun i:Nat=>(i:Int))=L at *
 have hsum:=Aax (fun x=>decide (Aa t x=0)) (l:=L);rw[I9,I9] at hsum;have hA:(L.filter fun x=>decide (Aa t x=0)).length<=n:=by
  apply PI;intro h;apply ht;rw[Dn];exact YS (n+1) t (L.filter fun x=>decide (Aa t x=0)) hl (hnd.filter _) (fun x hx=>by simpa using (ES.1 hx).2) (by omega)
 refine⟨(L.filter fun x=>decide ¬ (A (Aa t x=0))=true).take (n+1),(hnd.filter _).sublist (AEm _ _),?_,?_⟩
 ·rw[AD];omega
 ·intro x hx;obtain⟨h1,h2⟩:=ES.1 (BT hx);exact⟨hmem x h1,by simpa using h2⟩
theorem YT{t g k:LI}{K:Nat}(ht:Y t ≠ [])(hl:t.length<=9)(hg:g.length<=9)(hK:Kb K t)(h:∀ x,Aa t x=Aa g x*Aa k x):Kb (K+3) g:=by
 obtain⟨l,l1,l2,l3⟩:=Aia (n:=8) ht hl;have hb:∀ i,(t.getD i 0).natAbs<=4294967296^K:=fun i=>uY (hK i);have h1:=WD (R:=16) 8 g l (4294967296^K*17^9) hg l1 l2 (fun x hx=>by
  obtain⟨a,b⟩:=l3 x hx;refine⟨a,?_⟩;have h2:=V5 (R:=16) t x hb a;have h3:=congrArg E (h x);rw[BS] at h3;have h4:1<=(Aa k x).natAbs:=by
   rcases Fo (Aa k x).natAbs with g | g
   ·rw[g,jN] at h3;omega
   ·exact g
  have h5:=C7 (Aa g x).natAbs h4;have h6:4294967296^K*17^t.length<=4294967296^K*17^9:=z _ (BM (by decide) hl);exact Bm (Bm h5 (Nat.le_of_eq h3.symm)) (Bm h2 h6)) (fun x _ y _ hne=>by omega)
 intro i;have h2:=h1 i;unfold Bv;refine DF h2 ?_;rw[Fm,De];exact Nat.mul_lt_mul_of_pos_left (by decide) (DH (by decide))
theorem Rg{t g k:LI}{c:Int}(hc:c ≠ 0)(hg:w g=1)(h:∀ x,c*Aa t x=Aa g x*Aa k x):∃ k',∀ x,Aa t x=Aa g x*Aa k' x:=by
 have h1:=Dq (p:=Bs g k) (q:=As c t) (fun x=>by rw[AX,A0];exact (h x).symm);have h2:=ADl hg c.natAbs k (by omega) (fun i=>by rw[h1,m];exact SD (A6e.2 (Int.dvd_refl _)) (UT _ _));have hk:As c (k.map fun x=>x / c)=k:=by
  apply L_ (by simp[As]);intro i;rw[m];have e:(k.map fun x=>x / c).getD i 0=k.getD i 0 / c:=by
   simp only[Z,Cs];cases k[i]? <;> simp
  rw[e];exact JM (A6e.1 (h2 i))
 refine⟨k.map fun x=>x / c,fun x => ?_⟩;have h3:=h x;rw[<- hk,A0] at h3;apply FM hc;rw[h3];grind
theorem U0{t g k:LI}{c:Int}{K:Nat}(hc:c ≠ 0)(hg:w g=1)(ht:Y t ≠ [])(hl:t.length<=9)(hgl:g.length<=9)(hK:Kb K t)(h:∀ x,c*Aa t x=Aa g x*Aa k x):Kb (K+3) g:=by
 obtain⟨k',hk⟩:=Rg hc hg h;exact YT ht hl hgl hK hk
end Go.Ai
