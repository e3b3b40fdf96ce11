/- Texts of the proof of RootDyadics: part 7 of 13. -/
import Derived.Test.YtajompaehjkgkaaGreatRdx6
namespace Go.Proofs.YtajompaehjkgkaaGreat
open Go.Ai
set_option maxRecDepth 100000
open BitVec renaming ofInt->T,or_comm->Of,toNat_and->MU
open Bool renaming and_false->Ii,and_true->Ks,eq_iff_iff->ZH,false_eq_true->BX
open Decidable renaming decide->B
open Go.IntKind renaming bits->Aj,i64->R,u32->A4,u64->U,wrap->D
open Int renaming add_comm->Ij,add_mul->GH,add_mul_ediv_left->HH,add_mul_ediv_right->A4a,add_mul_emod_self_left->T0,add_zero->B2,ediv_emod_unique->KX,ediv_eq_zero_of_lt->DN,ediv_lt_of_lt_mul->JQ,ediv_nonneg->IV,emod_eq_of_lt->FT,emod_lt_of_pos->DU,emod_nonneg->EK,eq_ofNat_of_zero_le->LS,eq_of_mul_eq_mul_left->HY,fdiv->d,fdiv_eq_ediv_of_nonneg->t,gcd->CV,le_of_lt->Aw,le_refl->DL,lt_of_lt_of_le->RV,lt_of_mul_lt_mul_left->ER,lt_of_mul_lt_mul_right->BP,mul_add->C1,mul_assoc->AB,mul_comm->AD,mul_ediv_add_emod->Gj,mul_ediv_cancel_left->BN,mul_emod_mul_of_pos->A3w,mul_eq_zero->GI,mul_le_mul->Ei,mul_le_mul_of_nonneg_left->Ah,mul_le_mul_of_nonneg_right->Ad,mul_lt_mul_of_pos_left->Js,mul_lt_mul_of_pos_right->A9,mul_neg->DY,mul_nonneg->A1,mul_one->Dp,mul_pos->BE,mul_sub->HG,mul_zero->AG,natAbs->E,natAbs_natCast->B9,natAbs_pow->Kx,natCast_emod->Aqk,natCast_mul->Dj,neg_tdiv->Adc,neg_tmod->Adf,not_lt->Ka,one_mul->CR,pow_add->B4,pow_mul->gP,pow_succ->Ay,pow_zero->Da,sub_self->SU,sub_zero->EI,tdiv->o,tdiv_eq_ediv_of_nonneg->B0,tdiv_neg->Ade,tmod->f,tmod_eq_emod_of_nonneg->Bc,tmod_neg->Adg,toNat->A,toNat_natCast->F,zero_add->Db,zero_mul->DF
open List renaming all->pK,drop->g,drop_eq_getElem_cons->CU,drop_length->Jo,drop_zero->EP,eq_nil_of_length_eq_zero->A3,getD_eq_getElem?_getD->Z,getElem?_drop->AX,getElem?_eq_getElem->Ae,length->Bj,length_cons->Bo,length_drop->Ed,length_eq_one_iff->A1a,length_map->N,length_nil->Ja,length_pos_iff->An,length_range->BY,length_set->AS,map_append->DR,map_congr_left->FV,map_cons->Cz,map_nil->FF,map_take->Rr,mem_append->BJ,mem_cons_of_mem->A_,mem_cons_self->Bs,mem_map->Ea,mem_singleton->HZ,range->Ao,range_succ->FX,replicate->Aq,replicate_succ->FU,set_append_right->A3v,set_set->Rl,take->Br,take_length->Ee,take_of_length_le->Ef,take_zero->T2
open Nat renaming add_assoc->CO,add_mul->DK,add_zero->FB,and_two_pow_sub_one_eq_mod->T7,gcd->HT,gcd_comm->IX,gcd_rec->Auc,gcd_zero_right->G1,le_of_dvd->QI,le_of_lt->Qe,le_of_not_lt->MH,le_refl->Am,lt_of_le_of_lt->Dh,lt_of_lt_of_le->F5,lt_or_ge->Ck,mod_lt->G5,mul_assoc->EA,mul_comm->CP,mul_le_mul->Bx,mul_le_mul_left->z,mul_le_mul_right->A8,mul_succ->OH,mul_zero->ZF,one_mul->ES,pow_le_pow_right->Bm,pow_lt_pow_right->PF,pow_mul->A5c,pow_pos->Cn,sub_self->Lt,sub_zero->Ls,testBit_and->Auh,testBit_lt_two_pow->cU,zero_add->BR,zero_le->Bf
open Or renaming inr->T1
def PC(xs:List Int)(d:Int)(k:Nat)(qs:List Int)(r:Int)(i:Int):Ak:=(.val (sL lm xs)::(.val (.int .u32 d)::(Q 4 (.own 1 k (lm qs)::(.val (.int .u64 r)::(.val (.int .i64 i)::(Q 34 [])))))))
theorem Aoh(xs:List Int)(d:Int)(k:Nat)(qs:List Int)(r:Int)(i:Int)(c1:B (i>=0)=true)(n1:0<=i/\i<(xs.length:Int))(n2:¬ (D U d)=0)(n3:0<=i/\i<(k:Int))(n4:qs.length=k):W I U_ (PC xs d k qs r i) .norm (PC xs d k (qs.set (A i) (D A4 (D U (o (D U ((T (Aj .u64) (D U (r*2^(min (A 32) (Aj .u64)))) ||| T (Aj .u64) (D U (xs.getD (A i) 0))).toNat)) (D U d))))) (f (D U ((T (Aj .u64) (D U (r*2^(min (A 32) (Aj .u64)))) ||| T (Aj .u64) (D U (xs.getD (A i) 0))).toNat)) (D U d)) (D R (i-1))):=(C m 400 [.b true,.v (.int .u32 (xs.getD (A i) 0)),.l (lm (qs.set (A i) (D A4 (D U (o (D U ((T (Aj .u64) (D U (r*2^(min (A 32) (Aj .u64)))) ||| T (Aj .u64) (D U (xs.getD (A i) 0))).toNat)) (D U d))))))] [0,1,6,7,8] (L c1 (L HE (L n1 (L (y n1) (L n2 (L n2 (L n3 (L (show Cv (lm qs) (A i*1) [.int .u32 (D A4 (D U (o (D U ((T (Aj .u64) (D U (r*2^(min (A 32) (Aj .u64)))) ||| T (Aj .u64) (D U (xs.getD (A i) 0))).toNat)) (D U d))))]=some (lm (qs.set (A i) (D A4 (D U (o (D U ((T (Aj .u64) (D U (r*2^(min (A 32) (Aj .u64)))) ||| T (Aj .u64) (D U (xs.getD (A i) 0))).toNat)) (D U d)))))) from (CS n4 n3)) a0)))))))))
theorem Aoi(xs:List Int)(d:Int)(k:Nat)(qs:List Int)(r:Int)(i:Int)(c1:B (i>=0)=false):W I U_ (PC xs d k qs r i) (.exit 0) (PC xs d k qs r i):=(C m 400 [.b false] [0,1,6,7,8] (L c1 a0))
theorem Aoj(xs qs:List Int)(d r i:Int)(k:Nat)(n1:0<=(xs.length:Int)/\(xs.length:Int)<=1048576)(hl2:W I (.loop U_) ((.val (sL lm xs)::(.val (.int .u32 d)::(Q 4 (.own 1 (A (xs.length:Int)) (Co [.int .u32 0] (A (xs.length:Int)))::(.val (.int .u64 0)::(.val (.int .i64 (D R ((xs.length:Int)-1)))::(Q 34 [])))))))) (.exit 0) (PC xs d k qs r i)):H I 187 [sL lm xs,.int .u32 d] (.tup [.sl k (lm qs),.int .u32 (D A4 r)]):=p (fn:=Va) (s:=(Q 1 (.val (.int .u32 d)::(Q 2 (.own 1 k (lm qs)::(.val (.int .u32 (D A4 r))::(Q 37 []))))))) (ex := .ret) rfl rfl (P (P (Ar (W.seq (C m 400 [] [0,1,6,7,8] (L n1 a0)) (W.seq (W.block hl2) (C m 400 [] [1,4,5] a0)))))) (by nofun) rfl
def PD(xs:List Int)(s:Int)(k:Nat)(os:List Int)(n:Int)(i:Int):Ak:=(Q 1 (.val (.int .i64 s)::(Q 3 (.own 1 k (lm os)::(Q 7 (.val (sL lm xs)::(.val (.int .i64 n)::(.val (.int .i64 i)::(Q 26 [])))))))))
theorem Aok(xs:List Int)(s:Int)(k:Nat)(os:List Int)(n:Int)(i:Int)(c1:B (i<n)=true)(n1:0<=i/\i<(xs.length:Int))(n2:¬ (D U s)<0)(n3:0<=i/\i<(k:Int))(n4:os.length=k)(n5:0<=(D R (i+1))/\(D R (i+1))<(k:Int))(n6:(os.set (A i) (D A4 ((T (Aj .u32) (os.getD (A i) 0) ||| T (Aj .u32) (D A4 (D U ((D U (xs.getD (A i) 0))*2^(min (A (D U s)) (Aj .u64)))))).toNat))).length=k):W I Vc (PD xs s k os n i) .norm (PD xs s k ((os.set (A i) (D A4 ((T (Aj .u32) (os.getD (A i) 0) ||| T (Aj .u32) (D A4 (D U ((D U (xs.getD (A i) 0))*2^(min (A (D U s)) (Aj .u64)))))).toNat))).set (A (D R (i+1))) (D A4 (d (D U ((D U (xs.getD (A i) 0))*2^(min (A (D U s)) (Aj .u64)))) (2^(min (A 32) (Aj .u64)))))) n (D R (i+1))):=(C m 400 [.b true,.v (.int .u32 (xs.getD (A i) 0)),.v (.int .u32 (os.getD (A i) 0)),.l (lm (os.set (A i) (D A4 ((T (Aj .u32) (os.getD (A i) 0) ||| T (Aj .u32) (D A4 (D U ((D U (xs.getD (A i) 0))*2^(min (A (D U s)) (Aj .u64)))))).toNat)))),.l (lm ((os.set (A i) (D A4 ((T (Aj .u32) (os.getD (A i) 0) ||| T (Aj .u32) (D A4 (D U ((D U (xs.getD (A i) 0))*2^(min (A (D U s)) (Aj .u64)))))).toNat))).set (A (D R (i+1))) (D A4 (d (D U ((D U (xs.getD (A i) 0))*2^(min (A (D U s)) (Aj .u64)))) (2^(min (A 32) (Aj .u64)))))))] [1,5,13,14,15] (L c1 (L n1 (L (y n1) (L n2 (L n3 (L (Ca n4 n3) (L n3 (L (show Cv (lm os) (A i*1) [.int .u32 (D A4 ((T (Aj .u32) (os.getD (A i) 0) ||| T (Aj .u32) (D A4 (D U ((D U (xs.getD (A i) 0))*2^(min (A (D U s)) (Aj .u64)))))).toNat))]=some (lm (os.set (A i) (D A4 ((T (Aj .u32) (os.getD (A i) 0) ||| T (Aj .u32) (D A4 (D U ((D U (xs.getD (A i) 0))*2^(min (A (D U s)) (Aj .u64)))))).toNat)))) from (CS n4 n3)) (L HE (L n5 (L (show Cv (lm (os.set (A i) (D A4 ((T (Aj .u32) (os.getD (A i) 0) ||| T (Aj .u32) (D A4 (D U ((D U (xs.getD (A i) 0))*2^(min (A (D U s)) (Aj .u64)))))).toNat)))) (A (D R (i+1))*1) [.int .u32 (D A4 (d (D U ((D U (xs.getD (A i) 0))*2^(min (A (D U s)) (Aj .u64)))) (2^(min (A 32) (Aj .u64)))))]=some (lm ((os.set (A i) (D A4 ((T (Aj .u32) (os.getD (A i) 0) ||| T (Aj .u32) (D A4 (D U ((D U (xs.getD (A i) 0))*2^(min (A (D U s)) (Aj .u64)))))).toNat))).set (A (D R (i+1))) (D A4 (d (D U ((D U (xs.getD (A i) 0))*2^(min (A (D U s)) (Aj .u64)))) (2^(min (A 32) (Aj .u64))))))) from (CS n6 n5)) a0))))))))))))
theorem Aol(xs:List Int)(s:Int)(k:Nat)(os:List Int)(n:Int)(i:Int)(c1:B (i<n)=false):W I Vc (PD xs s k os n i) (.exit 0) (PD xs s k os n i):=(C m 400 [.b false] [1,5,13,14,15] (L c1 a0))
theorem Aom(xs os:List Int)(s n i:Int)(k:Nat)(n1:0<=(D R ((xs.length:Int)+1))/\(D R ((xs.length:Int)+1))<=1048576)(hl2:W I (.loop Vc) ((Q 1 (.val (.int .i64 s)::(Q 3 (.own 1 (A (D R ((xs.length:Int)+1))) (Co [.int .u32 0] (A (D R ((xs.length:Int)+1))))::(Q 7 (.val (sL lm xs)::(.val (.int .i64 (xs.length:Int))::(.val (.int .i64 0)::(Q 26 [])))))))))) (.exit 0) (PD xs s k os n i)):H I 189 [sL lm xs,.int .i64 s] (.fresh 1 k (lm os)):=p (fn:=Ve) (s:=(Q 1 (.val (.int .i64 s)::(Q 2 (.own 1 k (lm os)::(Q 37 [])))))) (ex := .ret) rfl rfl (P (Ar (W.seq (C m 400 [] [1,5,13,14,15] (L n1 a0)) (W.seq (W.block hl2) (C m 400 [] [1,4] a0))))) (by nofun) rfl
def Ej(k:Nat)(us:List Int)(vs:List Int)(n:Int)(t:Int)(t2:Int)(kq:Nat)(qs:List Int)(s:Int)(j:Int)(g:Int)(r:Int):Ak:=(Q 4 (.own 1 kq (lm qs)::(Q 3 (.val (.int .i64 s)::(.own 1 k (lm us)::(.val (sL lm vs)::(.val (.int .i64 n)::(Q 1 (.val (.int .u64 t)::(.val (.int .u64 t2)::(.val (.int .i64 j)::(Q 1 (.val (.int .u64 g)::(.val (.int .u64 r)::(Q 263 [])))))))))))))))
theorem wF(k:Nat)(us:List Int)(vs:List Int)(n:Int)(t:Int)(t2:Int)(kq:Nat)(qs:List Int)(s:Int)(j:Int)(g:Int)(r:Int)(c1:B (g>=4294967296)=true)(c2:B ((D U (r+t))>=4294967296)=true):W I Hs (Ej k us vs n t t2 kq qs s j g r) (.exit 2) (Ej k us vs n t t2 kq qs s j (D U (g-1)) (D U (r+t))):=(C m 400 [.b true,.b true,.b true] [4,8,9,10,11,13,14,15,17,18] (L c1 (L G0 (L c2 a0))))
theorem wG(k:Nat)(us:List Int)(vs:List Int)(n:Int)(t:Int)(t2:Int)(kq:Nat)(qs:List Int)(s:Int)(j:Int)(g:Int)(r:Int)(c1:B (g>=4294967296)=true)(c2:B ((D U (r+t))>=4294967296)=false):W I Hs (Ej k us vs n t t2 kq qs s j g r) .norm (Ej k us vs n t t2 kq qs s j (D U (g-1)) (D U (r+t))):=(C m 400 [.b true,.b true,.b false] [4,8,9,10,11,13,14,15,17,18] (L c1 (L G0 (L c2 a0))))
theorem wH(k:Nat)(us:List Int)(vs:List Int)(n:Int)(t:Int)(t2:Int)(kq:Nat)(qs:List Int)(s:Int)(j:Int)(g:Int)(r:Int)(c1:B (g>=4294967296)=false)(c2:(B ((D U (g*t2))>(D U ((T (Aj .u64) (D U (r*2^(min (A 32) (Aj .u64)))) ||| T (Aj .u64) (D U (us.getD (A (D R ((D R (j+n))-2))) 0))).toNat))))=true)(c3:B ((D U (r+t))>=4294967296)=true)(n1:0<=(D R ((D R (j+n))-2))/\(D R ((D R (j+n))-2))<(k:Int))(n2:us.length=k):W I Hs (Ej k us vs n t t2 kq qs s j g r) (.exit 2) (Ej k us vs n t t2 kq qs s j (D U (g-1)) (D U (r+t))):=(C m 400 [.b false,.v (.int .u32 (us.getD (A (D R ((D R (j+n))-2))) 0)),.b true,.b true] [4,8,9,10,11,13,14,15,17,18] (L c1 (L HE (L n1 (L (Ca n2 n1) (L c2 (L c3 a0)))))))
theorem wI(k:Nat)(us:List Int)(vs:List Int)(n:Int)(t:Int)(t2:Int)(kq:Nat)(qs:List Int)(s:Int)(j:Int)(g:Int)(r:Int)(c1:B (g>=4294967296)=false)(c2:(B ((D U (g*t2))>(D U ((T (Aj .u64) (D U (r*2^(min (A 32) (Aj .u64)))) ||| T (Aj .u64) (D U (us.getD (A (D R ((D R (j+n))-2))) 0))).toNat))))=true)(c3:B ((D U (r+t))>=4294967296)=false)(n1:0<=(D R ((D R (j+n))-2))/\(D R ((D R (j+n))-2))<(k:Int))(n2:us.length=k):W I Hs (Ej k us vs n t t2 kq qs s j g r) .norm (Ej k us vs n t t2 kq qs s j (D U (g-1)) (D U (r+t))):=(C m 400 [.b false,.v (.int .u32 (us.getD (A (D R ((D R (j+n))-2))) 0)),.b true,.b false] [4,8,9,10,11,13,14,15,17,18] (L c1 (L HE (L n1 (L (Ca n2 n1) (L c2 (L c3 a0)))))))
theorem XE(k:Nat)(us:List Int)(vs:List Int)(n:Int)(t:Int)(t2:Int)(kq:Nat)(qs:List Int)(s:Int)(j:Int)(g:Int)(r:Int)(c1:B (g>=4294967296)=false)(c2:(B ((D U (g*t2))>(D U ((T (Aj .u64) (D U (r*2^(min (A 32) (Aj .u64)))) ||| T (Aj .u64) (D U (us.getD (A (D R ((D R (j+n))-2))) 0))).toNat))))=false)(n1:0<=(D R ((D R (j+n))-2))/\(D R ((D R (j+n))-2))<(k:Int))(n2:us.length=k):W I Hs (Ej k us vs n t t2 kq qs s j g r) (.exit 2) (Ej k us vs n t t2 kq qs s j g r):=(C m 400 [.b false,.v (.int .u32 (us.getD (A (D R ((D R (j+n))-2))) 0)),.b false] [4,8,9,10,11,13,14,15,17,18] (L c1 (L HE (L n1 (L (Ca n2 n1) (L c2 a0))))))
def IA(k:Nat)(us:List Int)(vs:List Int)(n:Int)(t:Int)(t2:Int)(kq:Nat)(qs:List Int)(s:Int)(j:Int)(g:Int)(b:Int)(c:Int)(i:Int):Ak:=(Q 4 (.own 1 kq (lm qs)::(Q 3 (.val (.int .i64 s)::(.own 1 k (lm us)::(.val (sL lm vs)::(.val (.int .i64 n)::(Q 1 (.val (.int .u64 t)::(.val (.int .u64 t2)::(.val (.int .i64 j)::(Q 1 (.val (.int .u64 g)::(Q 1 (.val (.int .u64 b)::(.val (.int .u64 c)::(.val (.int .i64 i)::(Q 260 []))))))))))))))))))
theorem wJ(k:Nat)(us:List Int)(vs:List Int)(n:Int)(t:Int)(t2:Int)(kq:Nat)(qs:List Int)(s:Int)(j:Int)(g:Int)(b:Int)(c:Int)(i:Int)(c1:B (i<n)=true)(n1:0<=i/\i<(vs.length:Int))(n2:0<=(D R (i+j))/\(D R (i+j))<(k:Int))(n3:us.length=k):W I Ov (IA k us vs n t t2 kq qs s j g b c i) .norm (IA k (us.set (A (D R (i+j))) (D A4 (D U ((D U ((D U (us.getD (A (D R (i+j))) 0))-(D U (D A4 (D U ((D U (g*(D U (vs.getD (A i) 0))))+c))))))-b)))) vs n t t2 kq qs s j g (d (D U ((D U ((D U (us.getD (A (D R (i+j))) 0))-(D U (D A4 (D U ((D U (g*(D U (vs.getD (A i) 0))))+c))))))-b)) (2^(min (A 63) (Aj .u64)))) (d (D U ((D U (g*(D U (vs.getD (A i) 0))))+c)) (2^(min (A 32) (Aj .u64)))) (D R (i+1))):=(C m 400 [.b true,.v (.int .u32 (vs.getD (A i) 0)),.v (.int .u32 (us.getD (A (D R (i+j))) 0)),.l (lm (us.set (A (D R (i+j))) (D A4 (D U ((D U ((D U (us.getD (A (D R (i+j))) 0))-(D U (D A4 (D U ((D U (g*(D U (vs.getD (A i) 0))))+c))))))-b)))))] [4,8,9,10,11,13,14,15,17,19,20,21] (L c1 (L n1 (L (y n1) (L HE (L n2 (L (Ca n3 n2) (L W6 (L n2 (L (show Cv (lm us) (A (D R (i+j))*1) [.int .u32 (D A4 (D U ((D U ((D U (us.getD (A (D R (i+j))) 0))-(D U (D A4 (D U ((D U (g*(D U (vs.getD (A i) 0))))+c))))))-b)))]=some (lm (us.set (A (D R (i+j))) (D A4 (D U ((D U ((D U (us.getD (A (D R (i+j))) 0))-(D U (D A4 (D U ((D U (g*(D U (vs.getD (A i) 0))))+c))))))-b))))) from (CS n3 n2)) a0))))))))))
theorem wK(k:Nat)(us:List Int)(vs:List Int)(n:Int)(t:Int)(t2:Int)(kq:Nat)(qs:List Int)(s:Int)(j:Int)(g:Int)(b:Int)(c:Int)(i:Int)(c1:B (i<n)=false):W I Ov (IA k us vs n t t2 kq qs s j g b c i) (.exit 4) (IA k us vs n t t2 kq qs s j g b c i):=(C m 400 [.b false] [4,8,9,10,11,13,14,15,17,19,20,21] (L c1 a0))
def KF(k:Nat)(us:List Int)(vs:List Int)(n:Int)(t:Int)(t2:Int)(kq:Nat)(qs:List Int)(s:Int)(j:Int)(g:Int)(c:Int)(i:Int):Ak:=(Q 4 (.own 1 kq (lm qs)::(Q 3 (.val (.int .i64 s)::(.own 1 k (lm us)::(.val (sL lm vs)::(.val (.int .i64 n)::(Q 1 (.val (.int .u64 t)::(.val (.int .u64 t2)::(.val (.int .i64 j)::(Q 1 (.val (.int .u64 g)::(Q 7 (.val (.int .u64 c)::(.val (.int .i64 i)::(Q 255 [])))))))))))))))))
theorem wL(k:Nat)(us:List Int)(vs:List Int)(n:Int)(t:Int)(t2:Int)(kq:Nat)(qs:List Int)(s:Int)(j:Int)(g:Int)(c:Int)(i:Int)(c1:B (i<n)=true)(n1:0<=(D R (i+j))/\(D R (i+j))<(k:Int))(n2:us.length=k)(n3:0<=i/\i<(vs.length:Int)):W I Q6 (KF k us vs n t t2 kq qs s j g c i) .norm (KF k (us.set (A (D R (i+j))) (D A4 (D U ((D U ((D U (us.getD (A (D R (i+j))) 0))+(D U (vs.getD (A i) 0))))+c)))) vs n t t2 kq qs s j g (d (D U ((D U ((D U (us.getD (A (D R (i+j))) 0))+(D U (vs.getD (A i) 0))))+c)) (2^(min (A 32) (Aj .u64)))) (D R (i+1))):=(C m 400 [.b true,.v (.int .u32 (us.getD (A (D R (i+j))) 0)),.v (.int .u32 (vs.getD (A i) 0)),.l (lm (us.set (A (D R (i+j))) (D A4 (D U ((D U ((D U (us.getD (A (D R (i+j))) 0))+(D U (vs.getD (A i) 0))))+c)))))] [4,8,9,10,11,13,14,15,17,25,26] (L c1 (L n1 (L (Ca n2 n1) (L n3 (L (y n3) (L HE (L n1 (L (show Cv (lm us) (A (D R (i+j))*1) [.int .u32 (D A4 (D U ((D U ((D U (us.getD (A (D R (i+j))) 0))+(D U (vs.getD (A i) 0))))+c)))]=some (lm (us.set (A (D R (i+j))) (D A4 (D U ((D U ((D U (us.getD (A (D R (i+j))) 0))+(D U (vs.getD (A i) 0))))+c))))) from (CS n2 n1)) a0)))))))))
theorem wM(k:Nat)(us:List Int)(vs:List Int)(n:Int)(t:Int)(t2:Int)(kq:Nat)(qs:List Int)(s:Int)(j:Int)(g:Int)(c:Int)(i:Int)(c1:B (i<n)=false):W I Q6 (KF k us vs n t t2 kq qs s j g c i) (.exit 6) (KF k us vs n t t2 kq qs s j g c i):=(C m 400 [.b false] [4,8,9,10,11,13,14,15,17,25,26] (L c1 a0))
def GZ(k:Nat)(us:List Int)(vs:List Int)(n:Int)(t:Int)(t2:Int)(kq:Nat)(qs:List Int)(s:Int)(j:Int):Ak:=(Q 4 (.own 1 kq (lm qs)::(Q 3 (.val (.int .i64 s)::(.own 1 k (lm us)::(.val (sL lm vs)::(.val (.int .i64 n)::(Q 1 (.val (.int .u64 t)::(.val (.int .u64 t2)::(.val (.int .i64 j)::(Q 266 []))))))))))))
theorem Aon(k:Nat)(us:List Int)(vs:List Int)(n:Int)(t:Int)(t2:Int)(kq:Nat)(qs:List Int)(s:Int)(j:Int)(us1 us2:List Int)(g r b c cc:Int)(c1:B (j>=0)=true)(c2:((d (D U ((D U ((D U (us1.getD (A (D R (j+n))) 0))-c))-b)) (2^(min (A 63) (Aj .u64)))) != 0)=true)(n1:0<=(D R (j+n))/\(D R (j+n))<(k:Int))(n2:us.length=k)(n3:0<=(D R ((D R (j+n))-1))/\(D R ((D R (j+n))-1))<(k:Int))(n4:¬ t=0)(hl5:W I (.loop Hs) (Ej k us vs n t t2 kq qs s j (D U (o (D U ((T (Aj .u64) (D U ((D U (us.getD (A (D R (j+n))) 0))*2^(min (A 32) (Aj .u64)))) ||| T (Aj .u64) (D U (us.getD (A (D R ((D R (j+n))-1))) 0))).toNat)) t)) (f (D U ((T (Aj .u64) (D U ((D U (us.getD (A (D R (j+n))) 0))*2^(min (A 32) (Aj .u64)))) ||| T (Aj .u64) (D U (us.getD (A (D R ((D R (j+n))-1))) 0))).toNat)) t)) (.exit 2) (Ej k us vs n t t2 kq qs s j g r))(hl6:W I (.loop Ov) (IA k us vs n t t2 kq qs s j g 0 0 0) (.exit 4) (IA k us1 vs n t t2 kq qs s j g b c n))(n7:us1.length=k)(hl8:W I (.loop Q6) (KF k (us1.set (A (D R (j+n))) (D A4 (D U ((D U ((D U (us1.getD (A (D R (j+n))) 0))-c))-b)))) vs n t t2 kq qs s j (D U (g-1)) 0 0) (.exit 6) (KF k us2 vs n t t2 kq qs s j (D U (g-1)) cc n))(n9:us2.length=k)(n10:0<=j/\j<(kq:Int))(n11:qs.length=kq):W I Mj (GZ k us vs n t t2 kq qs s j) .norm (GZ k (us2.set (A (D R (j+n))) (D A4 ((us2.getD (A (D R (j+n))) 0)+(D A4 cc)))) vs n t t2 kq (qs.set (A j) (D A4 (D U (g-1)))) s (D R (j-1))):=(W.seq (C (t:=(Q 4 (.own 1 kq (lm qs)::(Q 3 (vi s::(.own 1 k (lm us)::(vl vs::(vi n::(Q 1 (.val (.int .u64 t)::(.val (.int .u64 t2)::(vi j::(Q 266 []))))))))))))) m 400 [.b true] [4,8,9,10,11,13,14,15] (L c1 a0)) (W.seq (Ci (P (W.seq (C m 400 [.v (.int .u32 (us.getD (A (D R (j+n))) 0)),.v (.int .u32 (us.getD (A (D R ((D R (j+n))-1))) 0))] [4,8,9,10,11,13,14,15,17,18] (L n1 (L (Ca n2 n1) (L HE (L n3 (L (Ca n2 n3) (L n4 (L n4 a0)))))))) (W.seq (W.block hl5) (Ar (W.seq (C m 400 [] [4,8,9,10,11,13,14,15,17,19,20,21] a0) (W.seq (W.block hl6) (P (Ar (W.seq (C (t:=(Q 4 (.own 1 kq (lm qs)::(Q 3 (vi s::(.own 1 k (lm (us1.set (A (D R (j+n))) (D A4 (D U ((D U ((D U (us1.getD (A (D R (j+n))) 0))-c))-b)))))::(vl vs::(vi n::(Q 1 (.val (.int .u64 t)::(.val (.int .u64 t2)::(vi j::(Q 1 (.val (.int .u64 g)::(Q 181 (.val (.bool ((d (D U ((D U ((D U (us1.getD (A (D R (j+n))) 0))-c))-b)) (2^(min (A 63) (Aj .u64)))) != 0))::(Q 82 []))))))))))))))))) m 400 [.v (.int .u32 (us1.getD (A (D R (j+n))) 0)),.l (lm (us1.set (A (D R (j+n))) (D A4 (D U ((D U ((D U (us1.getD (A (D R (j+n))) 0))-c))-b)))))] [4,8,9,10,11,13,14,15,17,199] (L n1 (L (Ca n7 n1) (L n1 (L (show Cv (lm us1) (A (D R (j+n))*1) [.int .u32 (D A4 (D U ((D U ((D U (us1.getD (A (D R (j+n))) 0))-c))-b)))]=some (lm (us1.set (A (D R (j+n))) (D A4 (D U ((D U ((D U (us1.getD (A (D R (j+n))) 0))-c))-b))))) from (CS n7 n1)) (L W6 a0)))))) (W.seq (I7 (by rfl) c2 (P (Ar (W.seq (C m 400 [] [4,8,9,10,11,13,14,15,17,25,26] a0) (W.seq (W.block hl8) (C (t:=(Q 4 (.own 1 kq (lm qs)::(Q 3 (vi s::(.own 1 k (lm (us2.set (A (D R (j+n))) (D A4 ((us2.getD (A (D R (j+n))) 0)+(D A4 cc)))))::(vl vs::(vi n::(Q 1 (.val (.int .u64 t)::(.val (.int .u64 t2)::(vi j::(Q 1 (.val (.int .u64 (D U (g-1)))::(Q 264 []))))))))))))))) m 400 [.v (.int .u32 (us2.getD (A (D R (j+n))) 0)),.l (lm (us2.set (A (D R (j+n))) (D A4 ((us2.getD (A (D R (j+n))) 0)+(D A4 cc)))))] [4,8,9,10,11,13,14,15,17] (L n1 (L (Ca n9 n1) (L n1 (L (show Cv (lm us2) (A (D R (j+n))*1) [.int .u32 (D A4 ((us2.getD (A (D R (j+n))) 0)+(D A4 cc)))]=some (lm (us2.set (A (D R (j+n))) (D A4 ((us2.getD (A (D R (j+n))) 0)+(D A4 cc))))) from (CS n9 n1)) a0)))))))))) (C (t:=(Q 4 (.own 1 kq (lm (qs.set (A j) (D A4 (D U (g-1)))))::(Q 3 (vi s::(.own 1 k (lm (us2.set (A (D R (j+n))) (D A4 ((us2.getD (A (D R (j+n))) 0)+(D A4 cc)))))::(vl vs::(vi n::(Q 1 (.val (.int .u64 t)::(.val (.int .u64 t2)::(vi j::(Q 266 []))))))))))))) m 400 [.l (lm (qs.set (A j) (D A4 (D U (g-1)))))] [4,8,9,10,11,13,14,15] (L n10 (L (show Cv (lm qs) (A j*1) [.int .u32 (D A4 (D U (g-1)))]=some (lm (qs.set (A j) (D A4 (D U (g-1))))) from (CS n11 n10)) a0)))))))))))))) (C m 400 [] [4,8,9,10,11,13,14,15] a0)))
theorem Aoo(k:Nat)(us:List Int)(vs:List Int)(n:Int)(t:Int)(t2:Int)(kq:Nat)(qs:List Int)(s:Int)(j:Int)(us1:List Int)(g r b c:Int)(c1:B (j>=0)=true)(c2:((d (D U ((D U ((D U (us1.getD (A (D R (j+n))) 0))-c))-b)) (2^(min (A 63) (Aj .u64)))) != 0)=false)(n1:0<=(D R (j+n))/\(D R (j+n))<(k:Int))(n2:us.length=k)(n3:0<=(D R ((D R (j+n))-1))/\(D R ((D R (j+n))-1))<(k:Int))(n4:¬ t=0)(hl5:W I (.loop Hs) (Ej k us vs n t t2 kq qs s j (D U (o (D U ((T (Aj .u64) (D U ((D U (us.getD (A (D R (j+n))) 0))*2^(min (A 32) (Aj .u64)))) ||| T (Aj .u64) (D U (us.getD (A (D R ((D R (j+n))-1))) 0))).toNat)) t)) (f (D U ((T (Aj .u64) (D U ((D U (us.getD (A (D R (j+n))) 0))*2^(min (A 32) (Aj .u64)))) ||| T (Aj .u64) (D U (us.getD (A (D R ((D R (j+n))-1))) 0))).toNat)) t)) (.exit 2) (Ej k us vs n t t2 kq qs s j g r))(hl6:W I (.loop Ov) (IA k us vs n t t2 kq qs s j g 0 0 0) (.exit 4) (IA k us1 vs n t t2 kq qs s j g b c n))(n7:us1.length=k)(n8:0<=j/\j<(kq:Int))(n9:qs.length=kq):W I Mj (GZ k us vs n t t2 kq qs s j) .norm (GZ k (us1.set (A (D R (j+n))) (D A4 (D U ((D U ((D U (us1.getD (A (D R (j+n))) 0))-c))-b)))) vs n t t2 kq (qs.set (A j) (D A4 g)) s (D R (j-1))):=(W.seq (C (t:=(Q 4 (.own 1 kq (lm qs)::(Q 3 (vi s::(.own 1 k (lm us)::(vl vs::(vi n::(Q 1 (.val (.int .u64 t)::(.val (.int .u64 t2)::(vi j::(Q 266 []))))))))))))) m 400 [.b true] [4,8,9,10,11,13,14,15] (L c1 a0)) (W.seq (Ci (P (W.seq (C m 400 [.v (.int .u32 (us.getD (A (D R (j+n))) 0)),.v (.int .u32 (us.getD (A (D R ((D R (j+n))-1))) 0))] [4,8,9,10,11,13,14,15,17,18] (L n1 (L (Ca n2 n1) (L HE (L n3 (L (Ca n2 n3) (L n4 (L n4 a0)))))))) (W.seq (W.block hl5) (Ar (W.seq (C m 400 [] [4,8,9,10,11,13,14,15,17,19,20,21] a0) (W.seq (W.block hl6) (P (Ar (W.seq (C (t:=(Q 4 (.own 1 kq (lm qs)::(Q 3 (vi s::(.own 1 k (lm (us1.set (A (D R (j+n))) (D A4 (D U ((D U ((D U (us1.getD (A (D R (j+n))) 0))-c))-b)))))::(vl vs::(vi n::(Q 1 (.val (.int .u64 t)::(.val (.int .u64 t2)::(vi j::(Q 1 (.val (.int .u64 g)::(Q 181 (.val (.bool ((d (D U ((D U ((D U (us1.getD (A (D R (j+n))) 0))-c))-b)) (2^(min (A 63) (Aj .u64)))) != 0))::(Q 82 []))))))))))))))))) m 400 [.v (.int .u32 (us1.getD (A (D R (j+n))) 0)),.l (lm (us1.set (A (D R (j+n))) (D A4 (D U ((D U ((D U (us1.getD (A (D R (j+n))) 0))-c))-b)))))] [4,8,9,10,11,13,14,15,17,199] (L n1 (L (Ca n7 n1) (L n1 (L (show Cv (lm us1) (A (D R (j+n))*1) [.int .u32 (D A4 (D U ((D U ((D U (us1.getD (A (D R (j+n))) 0))-c))-b)))]=some (lm (us1.set (A (D R (j+n))) (D A4 (D U ((D U ((D U (us1.getD (A (D R (j+n))) 0))-c))-b))))) from (CS n7 n1)) (L W6 a0)))))) (W.seq (I8 (by rfl) c2 (C (t:=(Q 4 (.own 1 kq (lm qs)::(Q 3 (vi s::(.own 1 k (lm (us1.set (A (D R (j+n))) (D A4 (D U ((D U ((D U (us1.getD (A (D R (j+n))) 0))-c))-b)))))::(vl vs::(vi n::(Q 1 (.val (.int .u64 t)::(.val (.int .u64 t2)::(vi j::(Q 1 (.val (.int .u64 g)::(Q 264 []))))))))))))))) m 400 [] [4,8,9,10,11,13,14,15,17] a0)) (C (t:=(Q 4 (.own 1 kq (lm (qs.set (A j) (D A4 g)))::(Q 3 (vi s::(.own 1 k (lm (us1.set (A (D R (j+n))) (D A4 (D U ((D U ((D U (us1.getD (A (D R (j+n))) 0))-c))-b)))))::(vl vs::(vi n::(Q 1 (.val (.int .u64 t)::(.val (.int .u64 t2)::(vi j::(Q 266 []))))))))))))) m 400 [.l (lm (qs.set (A j) (D A4 g)))] [4,8,9,10,11,13,14,15] (L n8 (L (show Cv (lm qs) (A j*1) [.int .u32 (D A4 g)]=some (lm (qs.set (A j) (D A4 g))) from (CS n9 n8)) a0)))))))))))))) (C m 400 [] [4,8,9,10,11,13,14,15] a0)))
theorem Aop(k:Nat)(us:List Int)(vs:List Int)(n:Int)(t:Int)(t2:Int)(kq:Nat)(qs:List Int)(s:Int)(j:Int)(c1:B (j>=0)=false):W I Mj (GZ k us vs n t t2 kq qs s j) (.exit 0) (GZ k us vs n t t2 kq qs s j):=(AQ (C m 400 [.b false] [4,8,9,10,11,13,14,15] (L c1 a0)) (by nofun))
def HR(k:Nat)(us:List Int)(n:Int)(kq:Nat)(qs:List Int)(kr:Nat)(rs:List Int)(s:Int)(i:Int):Ak:=(Q 4 (.own 1 kq (lm qs)::(.own 1 kr (lm rs)::(Q 2 (.val (.int .i64 s)::(.own 1 k (lm us)::(Q 1 (.val (.int .i64 n)::(Q 16 (.val (.int .i64 i)::(Q 253 [])))))))))))
theorem wN(k:Nat)(us:List Int)(n:Int)(kq:Nat)(qs:List Int)(kr:Nat)(rs:List Int)(s:Int)(i:Int)(c1:B (i<n)=true)(c2:B (s>0)=true)(n1:0<=i/\i<(k:Int))(n2:us.length=k)(n3:¬ (D U s)<0)(n4:0<=i/\i<(kr:Int))(n5:rs.length=kr)(n6:(rs.set (A i) (d (us.getD (A i) 0) (2^(min (A (D U s)) (Aj .u32))))).length=kr)(n7:0<=(D R (i+1))/\(D R (i+1))<(k:Int))(n8:¬ (D U (D R (32-s)))<0):W I Mi (HR k us n kq qs kr rs s i) .norm (HR k us n kq qs kr ((rs.set (A i) (d (us.getD (A i) 0) (2^(min (A (D U s)) (Aj .u32))))).set (A i) (D A4 ((T (Aj .u32) ((rs.set (A i) (d (us.getD (A i) 0) (2^(min (A (D U s)) (Aj .u32))))).getD (A i) 0) ||| T (Aj .u32) (D A4 ((us.getD (A (D R (i+1))) 0)*2^(min (A (D U (D R (32-s)))) (Aj .u32))))).toNat))) s (D R (i+1))):=(C m 400 [.b true,.v (.int .u32 (us.getD (A i) 0)),.l (lm (rs.set (A i) (d (us.getD (A i) 0) (2^(min (A (D U s)) (Aj .u32)))))),.b true,.v (.int .u32 ((rs.set (A i) (d (us.getD (A i) 0) (2^(min (A (D U s)) (Aj .u32))))).getD (A i) 0)),.v (.int .u32 (us.getD (A (D R (i+1))) 0)),.l (lm ((rs.set (A i) (d (us.getD (A i) 0) (2^(min (A (D U s)) (Aj .u32))))).set (A i) (D A4 ((T (Aj .u32) ((rs.set (A i) (d (us.getD (A i) 0) (2^(min (A (D U s)) (Aj .u32))))).getD (A i) 0) ||| T (Aj .u32) (D A4 ((us.getD (A (D R (i+1))) 0)*2^(min (A (D U (D R (32-s)))) (Aj .u32))))).toNat))))] [4,5,8,9,11,28] (L c1 (L n1 (L (Ca n2 n1) (L n3 (L n4 (L (show Cv (lm rs) (A i*1) [.int .u32 (d (us.getD (A i) 0) (2^(min (A (D U s)) (Aj .u32))))]=some (lm (rs.set (A i) (d (us.getD (A i) 0) (2^(min (A (D U s)) (Aj .u32)))))) from (CS n5 n4)) (L c2 (L n4 (L (Ca n6 n4) (L n7 (L (Ca n2 n7) (L n8 (L n4 (L (show Cv (lm (rs.set (A i) (d (us.getD (A i) 0) (2^(min (A (D U s)) (Aj .u32)))))) (A i*1) [.int .u32 (D A4 ((T (Aj .u32) ((rs.set (A i) (d (us.getD (A i) 0) (2^(min (A (D U s)) (Aj .u32))))).getD (A i) 0) ||| T (Aj .u32) (D A4 ((us.getD (A (D R (i+1))) 0)*2^(min (A (D U (D R (32-s)))) (Aj .u32))))).toNat))]=some (lm ((rs.set (A i) (d (us.getD (A i) 0) (2^(min (A (D U s)) (Aj .u32))))).set (A i) (D A4 ((T (Aj .u32) ((rs.set (A i) (d (us.getD (A i) 0) (2^(min (A (D U s)) (Aj .u32))))).getD (A i) 0) ||| T (Aj .u32) (D A4 ((us.getD (A (D R (i+1))) 0)*2^(min (A (D U (D R (32-s)))) (Aj .u32))))).toNat)))) from (CS n6 n4)) a0)))))))))))))))
theorem wO(k:Nat)(us:List Int)(n:Int)(kq:Nat)(qs:List Int)(kr:Nat)(rs:List Int)(s:Int)(i:Int)(c1:B (i<n)=true)(c2:B (s>0)=false)(n1:0<=i/\i<(k:Int))(n2:us.length=k)(n3:¬ (D U s)<0)(n4:0<=i/\i<(kr:Int))(n5:rs.length=kr):W I Mi (HR k us n kq qs kr rs s i) .norm (HR k us n kq qs kr (rs.set (A i) (d (us.getD (A i) 0) (2^(min (A (D U s)) (Aj .u32))))) s (D R (i+1))):=(C m 400 [.b true,.v (.int .u32 (us.getD (A i) 0)),.l (lm (rs.set (A i) (d (us.getD (A i) 0) (2^(min (A (D U s)) (Aj .u32)))))),.b false] [4,5,8,9,11,28] (L c1 (L n1 (L (Ca n2 n1) (L n3 (L n4 (L (show Cv (lm rs) (A i*1) [.int .u32 (d (us.getD (A i) 0) (2^(min (A (D U s)) (Aj .u32))))]=some (lm (rs.set (A i) (d (us.getD (A i) 0) (2^(min (A (D U s)) (Aj .u32)))))) from (CS n5 n4)) (L c2 a0))))))))
theorem wP(k:Nat)(us:List Int)(n:Int)(kq:Nat)(qs:List Int)(kr:Nat)(rs:List Int)(s:Int)(i:Int)(c1:B (i<n)=false):W I Mi (HR k us n kq qs kr rs s i) (.exit 8) (HR k us n kq qs kr rs s i):=(C m 400 [.b false] [4,5,8,9,11,28] (L c1 a0))
theorem jS(xs ys:List Int)(cm:Int)(c1:B (cm<0)=true)(n1:Bj (lm xs)=xs.length*1)(n2:xs.length<=35184372088832)(n3:H I 151 [sL lm xs,sL lm ys] (.int .i64 cm)):H I 180 [sL lm xs,sL lm ys] (.tup [.sl 0 [],sL lm xs]):=p (fn:=P4) (s:=(Q 1 (.val (sL lm ys)::(Q 2 (.own 1 0 []::(.own 1 xs.length (lm xs)::(Q 276 []))))))) (ex := .ret) rfl rfl (P (P (P (P (P (P (P (Ar (AQ (C m 400 [.r (.int .i64 cm),.b true] [1,4,5] (L n3 (L c1 (L n1 (L n2 a0))))) (by nofun)))))))))) (by nofun) rfl
theorem jT(xs ys zs:List Int)(cm rr:Int)(c1:B (cm<0)=false)(c2:((ys.length:Int)==1)=true)(n1:H I 151 [sL lm xs,sL lm ys] (.int .i64 cm))(n2:0<=(0:Int)/\(0:Int)<(ys.length:Int))(n3:H I 187 [sL lm xs,.int .u32 (ys.getD (A 0) 0)] (.tup [sL lm zs,.int .u32 rr])):H I 180 [sL lm xs,sL lm ys] (.tup [sL lm zs,.sl 1 [.int .u32 rr]]):=p (fn:=P4) (s:=(Q 1 (.val (sL lm ys)::(Q 2 (.val (sL lm zs)::(.own 1 1 [.int .u32 rr]::(Q 276 []))))))) (ex := .ret) rfl rfl (P (P (P (P (P (P (P (Ar (AQ (C m 400 [.r (.int .i64 cm),.b false,.b true,.v (.int .u32 (ys.getD (A 0) 0)),.r (.tup [sL lm zs,.int .u32 rr])] [1,4,5] (L n1 (L c1 (L c2 (L n2 (L (y n2) (L n3 a0))))))) (by nofun)))))))))) (by nofun) rfl
theorem jU(xs ys us ws us1 vs qs rs:List Int)(cm s n t t2 j:Int)(k kq kr:Nat)(c1:B (cm<0)=false)(c2:((ys.length:Int)==1)=false)(n1:H I 151 [sL lm xs,sL lm ys] (.int .i64 cm))(n2:0<=(D R ((ys.length:Int)-1))/\(D R ((ys.length:Int)-1))<(ys.length:Int))(n3:H I 188 [.int .u32 (ys.getD (A (D R ((ys.length:Int)-1))) 0)] (.int .i64 s))(n4:0<=(ys.length:Int))(n5:0<=(A (ys.length:Int))/\(A (ys.length:Int))<=ws.length/\ws.length<=ws.length/\(false=true->true=true))(n6:H I 189 [sL lm xs,.int .i64 s] (.fresh 1 us.length (lm us)))(n7:H I 189 [sL lm ys,.int .i64 s] (.fresh 1 ws.length (lm ws)))(n8:0<=(D R ((D R ((xs.length:Int)-(ys.length:Int)))+1))/\(D R ((D R ((xs.length:Int)-(ys.length:Int)))+1))<=1048576)(n9:0<=(D R ((ys.length:Int)-1))/\(D R ((ys.length:Int)-1))<((((A (ys.length:Int))-0):Nat):Int))(n10:0<=(D R ((ys.length:Int)-2))/\(D R ((ys.length:Int)-2))<((((A (ys.length:Int))-0):Nat):Int))(hl11:W I (.loop Mj) ((Q 4 (.own 1 (A (D R ((D R ((xs.length:Int)-(ys.length:Int)))+1))) (Co [.int .u32 0] (A (D R ((D R ((xs.length:Int)-(ys.length:Int)))+1))))::(Q 3 (.val (.int .i64 s)::(.own 1 us.length (lm us)::(.val (.sl ((A (ys.length:Int))-0) (Br (((A (ys.length:Int))-0)*1) (g (0*1) (lm ws))))::(.val (.int .i64 (ys.length:Int))::(Q 1 (.val (.int .u64 (D U (((ws.drop 0).take ((A (ys.length:Int))-0)).getD (A (D R ((ys.length:Int)-1))) 0)))::(.val (.int .u64 (D U (((ws.drop 0).take ((A (ys.length:Int))-0)).getD (A (D R ((ys.length:Int)-2))) 0)))::(.val (.int .i64 (D R ((xs.length:Int)-(ys.length:Int))))::(Q 266 []))))))))))))) (.exit 0) (GZ k us1 vs n t t2 kq qs s j))(n12:0<=n/\n<=1048576)(hl13:W I (.loop Mi) ((Q 4 (.own 1 kq (lm qs)::(.own 1 (A n) (Co [.int .u32 0] (A n))::(Q 2 (.val (.int .i64 s)::(.own 1 k (lm us1)::(Q 1 (.val (.int .i64 n)::(Q 16 (.val (.int .i64 0)::(Q 253 [])))))))))))) (.exit 8) (HR k us1 n kq qs kr rs s n)):H I 180 [sL lm xs,sL lm ys] (.tup [.sl kq (lm qs),.sl kr (lm rs)]):=p (fn:=P4) (s:=(Q 4 (.own 1 kq (lm qs)::(.own 1 kr (lm rs)::(Q 276 []))))) (ex := .ret) rfl rfl (P (P (P (P (P (P (P (Ar (W.seq (C m 400 [.r (.int .i64 cm),.b false,.b false,.v (.int .u32 (ys.getD (A (D R ((ys.length:Int)-1))) 0)),.r (.int .i64 s),.r (.fresh 1 us.length (lm us)),.r (.fresh 1 ws.length (lm ws)),.v (.int .u32 (((ws.drop 0).take ((A (ys.length:Int))-0)).getD (A (D R ((ys.length:Int)-1))) 0)),.v (.int .u32 (((ws.drop 0).take ((A (ys.length:Int))-0)).getD (A (D R ((ys.length:Int)-2))) 0))] [4,8,9,10,11,13,14,15] (L n1 (L c1 (L c2 (L n2 (L (y n2) (L n3 (L n6 (L n7 (L n4 (L n5 (L n8 (L n9 (L (SP n9 n5) (L n10 (L (SP n10 n5) a0)))))))))))))))) (W.seq (W.block hl11) (Ar (W.seq (C m 400 [] [4,5,8,9,11,28] (L n12 a0)) (W.seq (W.block hl13) (C m 400 [] [4,5] a0)))))))))))))) (by nofun) rfl
def TQA:Cp:=TWB
theorem jV:B_ I TQA:=m
theorem wQ{xs:List Int}{d:Int}(hx:AI xs)(hd:0<d/\d<4294967296)(hN:xs.length<=1048576):∀ (i:Nat) (qs:List Int) (r:Int),i<=xs.length->qs.length=xs.length->AI qs->0<=r/\r<d->(∀ t,t<i->qs.getD t 0=0) ->
  ∃ qs' r',W I (.loop U_) (PC xs d xs.length qs r ((i:Int)-1)) (.exit 0) (PC xs d xs.length qs' r' (-1))/\qs'.length=xs.length/\AI qs'/\(0<=r'/\r'<d)/\d*Aa qs'+r'=d*Aa qs+4294967296^i*r+Aa (xs.take i):=by
 intro i;induction i with
 | zero =>
  intro qs r _ hl hu hr _;refine⟨qs,r,Al (Aoi xs d xs.length qs r _ (by simp)) (by nofun),hl,hu,hr,by simp[Aa]⟩
 | succ i ih =>
  intro qs r hi hl hu hr hz;have ei:(((i+1:Nat):Int)-1)=(i:Nat):=by omega
  have ej:D R ((i:Int)-1)=(i:Int)-1:=AW (by omega) (by omega);have hxi:=AA hx i;have hk:=Aoh xs d xs.length qs r (i:Nat) (by simp) (by omega) (by rw[Cx (by omega)];omega) (by omega) hl;rw[ej,F,Li (by omega) hxi,Cx (n:=d) (by omega)] at hk;have hv0:0<=r*4294967296+xs.getD i 0:=by omega
  rw[B0 hv0,Bc hv0] at hk;generalize hv:r*4294967296+xs.getD i 0=v at *
  have hm:=Gj v d;have hm0:=EK v (show d ≠ 0 by omega);have hm1:=DU v hd.1;have hq0:0<=v / d:=IV hv0 (by omega);have hq1:v / d<4294967296:=by
   apply JQ hd.1;have:=Ad (show r<=d-1 by omega) (show (0:Int)<=4294967296 by omega);have:(d-1)*4294967296=4294967296*d-4294967296:=by omega
   omega
  rw[Cx (n:=v / d) (by omega),QE ⟨hq0,hq1⟩] at hk;obtain⟨qs',r',g1,g2,g3,g4,g5⟩:=ih (qs.set i (v / d)) (v % d) (by omega) (by simpa using hl) (Cq hu ⟨hq0,hq1⟩) ⟨hm0,hm1⟩ (fun t ht=>by rw[Cm (by omega)];exact hz t (by omega));rw[ei];refine⟨qs',r',W.loop hk g1,g2,g3,g4,?_⟩;rw[g5,DA _ _ _ (by omega),hz i (by omega),Du xs i (by omega),Ay];generalize (4294967296:Int)^i=P at *
  have e2:xs.getD i 0=d*(v / d)+v % d-r*4294967296:=by omega
  rw[e2];grind
theorem WD{xs:List Int}{d:Int}(hx:AI xs)(hd:0<d/\d<4294967296)(hN:xs.length<=1048576):∃ qs r,(qs:List Int).length=xs.length/\AI qs/\(0<=r/\r<d)/\d*Aa qs+r=Aa xs/\H I 187 [sL lm xs,.int .u32 d] (.tup [sL lm qs,.int .u32 r]):=by
 obtain⟨qs,r,h1,h2,h3,h4,h5⟩:=wQ hx hd hN xs.length (Aq xs.length 0) 0 (Am _) (by simp) (EC _) (by omega) (fun t _=>Dw _ _);refine⟨qs,r,h2,h3,h4,?_,?_⟩
 ·rw[h5,Ez,Ee];omega
 ·have h:=Aoj xs qs d r (-1) xs.length (by omega) (by
   rw[F,EO,AW (by omega) (by omega)];exact h1)
  rw[QE (n:=r) (by omega)] at h;unfold sL;rw[h2];exact h
theorem wR{xs:List Int}{s:Nat}(hx:AI xs)(hs:s<32)(hN:xs.length<1048576):∀ (r i:Nat) (os:List Int),i+r=xs.length->os.length=xs.length+1->AI os->Aa os=2^s*Aa (xs.take i)->os.getD i 0<2^s->(∀ t,i<t->os.getD t 0=0) ->
  ∃ os',W I (.loop Vc) (PD xs (s:Nat) (xs.length+1) os (xs.length:Nat) (i:Nat)) (.exit 0) (PD xs (s:Nat) (xs.length+1) os' (xs.length:Nat) (xs.length:Nat))/\os'.length=xs.length+1/\AI os'/\Aa os'=2^s*Aa xs:=by
 intro r;induction r with
 | zero =>
  intro i os hi hl hu hv _ _;have:i=xs.length:=by omega
  subst this;exact⟨os,Al (Aol xs _ _ os _ _ (by simp)) (by nofun),hl,hu,by rw[hv,Ee]⟩
 | succ r ih =>
  intro i os hi hl hu hv hc hz;have ei:D R ((i:Int)+1)=((i+1:Nat):Int):=by rw[AW (by omega) (by omega)];omega
  have hxi:=AA hx i;have hoi:=AA hu i;obtain⟨p0,p1,p2,q,q0,q1⟩:=V0 hxi hs;have es:(2:Int)^(min (A (D U (s:Int))) (Aj .u64))=2^s:=by
   rw[Cx (by omega),F];congr 1;show min s 64=s;omega
  have hk:=Aok xs (s:Nat) (xs.length+1) os (xs.length:Nat) (i:Nat) (by simp;omega) (by omega) (by rw[Cx (by omega)];omega) (by omega) hl (by rw[ei];omega) (by simpa using hl);rw[ei,F,F,Cx (n:=xs.getD i 0) (by omega),es,Cx ⟨p0,p1⟩,XC,Ds (xs.getD i 0*2^s),q1] at hk;have hqs:q*2^s<4294967296:=by rw[<- q1];omega
  rw[Aod q0 hqs (by omega) ⟨hoi.1,hc⟩] at hk;have hhi:0<=xs.getD i 0*2^s / 4294967296:=by omega
  have hp2:(2:Int)^s<=4294967296:=by have:=FP (show s<=32 by omega);rwa [show (2:Int)^32=4294967296 by decide] at this
  rw[QE ⟨hhi,by omega⟩] at hk;have hsum:0<=q*2^s+os.getD i 0/\q*2^s+os.getD i 0<4294967296:=by
   have hq2:0<=q*2^s:=by rw[<- q1];omega
   refine⟨by omega,?_⟩;have e:(4294967296:Int)=2^(32-s)*2^s:=by
    rw[<- B4,show 32-s+s=32 by omega];decide
   rw[e] at hqs |-;have hp:=B7 s;have:=BP hqs (by omega);have:=Ad (show q+1<=2^(32-s) by omega) (show (0:Int)<=2^s by omega);rw[GH,CR] at this;omega
  obtain⟨os',g1,g2,g3,g4⟩:=ih (i+1) ((os.set i (q*2^s+os.getD i 0)).set (i+1) (xs.getD i 0*2^s / 4294967296)) (by omega) (by simpa using hl) (Cq (Cq hu hsum) ⟨hhi,by omega⟩) (by
    rw[DA _ _ _ (by simp;omega),DA _ _ _ (by omega),Cm (by omega),hz (i+1) (by omega),hv,Du xs i (by omega),Ay];have e3:xs.getD i 0*2^s=4294967296*(xs.getD i 0*2^s / 4294967296)+q*2^s:=by omega
    generalize (4294967296:Int)^i=P at *
    generalize xs.getD i 0*2^s / 4294967296=H at *
    generalize os.getD i 0=o at *
    generalize q*2^s=Q at *
    have e4:(2:Int)^s*(Aa (xs.take i)+P*xs.getD i 0)=2^s*Aa (xs.take i)+P*(xs.getD i 0*2^s):=by grind
    rw[e4,e3];grind) (by
    rw[show ((os.set i (q*2^s+os.getD i 0)).set (i+1) (xs.getD i 0*2^s / 4294967296)).getD (i+1) 0=xs.getD i 0*2^s / 4294967296 by simp[Z,show i+1<os.length by omega]];exact p2) (fun t ht=>by rw[Cm (by omega),Cm (by omega)];exact hz t (by omega))
  exact⟨os',W.loop hk g1,g2,g3,g4⟩
theorem QH{xs:List Int}{s:Nat}(hx:AI xs)(hs:s<32)(hN:xs.length<1048576):∃ os,(os:List Int).length=xs.length+1/\AI os/\Aa os=2^s*Aa xs/\H I 189 [sL lm xs,.int .i64 (s:Nat)] (.fresh 1 os.length (lm os)):=by
 obtain⟨os,h1,h2,h3,h4⟩:=wR hx hs hN xs.length 0 (Aq (xs.length+1) 0) (by omega) (by simp) (EC _) (by rw[Ez];simp[Aa]) (by rw[Dw];exact B7 s) (fun t _=>Dw _ _);refine⟨os,h2,h3,h4,?_⟩;have e:D R ((xs.length:Int)+1)=((xs.length+1:Nat):Int):=by rw[AW (by omega) (by omega)];omega
 have h:=Aom xs os (s:Nat) (xs.length:Nat) (xs.length:Nat) (xs.length+1) (by rw[e];omega) (by rw[e,F,EO];exact h1);rw[h2];exact h
section
variable {k:Nat} {us vs:List Int} {kq:Nat} {qs:List Int} {s:Int} {j m:Nat}
theorem jW(hl:us.length=k)(hk:k<=1048577)(hj:j+m+2<k)(h:Dig m (Aa vs) (Aa (us.drop j)) (vs.getD (m+1) 0) (vs.getD m 0) (us.getD (j+m+2) 0) (us.getD (j+m+1) 0) (us.getD (j+m) 0)):∀ (f:Nat) (g r:Int),g.toNat<=f ->
  DigI (Aa vs) (Aa (us.drop j)) (vs.getD (m+1) 0) (us.getD (j+m+2) 0*4294967296+us.getD (j+m+1) 0) g r->r<4294967296 ->
  ∃ g' r',W I (.loop Hs) (Ej k us vs ((m+2:Nat):Int) (vs.getD (m+1) 0) (vs.getD m 0) kq qs s (j:Nat) g r) (.exit 2) (Ej k us vs ((m+2:Nat):Int) (vs.getD (m+1) 0) (vs.getD m 0) kq qs s (j:Nat) g' r') /\
   (0<=g'/\g'<4294967296)/\Aa (us.drop j)<(g'+1)*Aa vs/\g'*Aa vs<Aa (us.drop j)+Aa vs:=by
 have ht:=h.htop;have hnx:=h.hnxt;have hz:=h.hz;have e1:D R (D R ((j:Int)+((m+2:Nat):Int))-2)=((j+m:Nat):Int):=by
  rw[AW (n:=(j:Int)+((m+2:Nat):Int)) (by omega) (by omega),AW (by omega) (by omega)];omega
 intro f;induction f with
 | zero =>
  intro g r hf i hr;have hg:g=0:=by have:=i.g0;omega
  subst hg;have c2:¬ (r*4294967296+us.getD (j+m) 0<0*vs.getD m 0):=by have:=i.r0;omega
  have k5:=XE k us vs ((m+2:Nat):Int) (vs.getD (m+1) 0) (vs.getD m 0) kq qs s (j:Nat) 0 r (by simp) (by
   rw[e1,F,Li ⟨i.r0,hr⟩ hz,Cx (n:=0*vs.getD m 0) (by omega),decide_eq_false_iff_not];omega) (by rw[e1];omega) hl
  exact⟨0,r,Al k5 (by nofun),by omega,i.up,h.out i (by omega) (T1 (by omega))⟩
 | succ f ih =>
  intro g r hf i hr;have hg1:=i.gle;have hg0:=i.g0;have hr0:=i.r0;have hgn:0<=g*vs.getD m 0/\g*vs.getD m 0<18446744073709551616:=by
   have a:=A1 hg0 hnx.1;have b:=Ei hg1 (show vs.getD m 0<=4294967295 by omega) hnx.1 (by omega);omega
  have er:D U (r+vs.getD (m+1) 0)=r+vs.getD (m+1) 0:=Cx (by omega);have ecmp:(B (D U (g*vs.getD m 0)>D U ((T (Aj .u64) (D U (r*2^(min (A 32) (Aj .u64)))) ||| T (Aj .u64) (D U (us.getD (A (D R (D R ((j:Int)+((m+2:Nat):Int))-2))) 0))).toNat)):Bool)=decide (r*4294967296+us.getD (j+m) 0<g*vs.getD m 0):=by
   rw[e1,F,Li ⟨hr0,hr⟩ hz,Cx hgn]
  by_cases hc:4294967296<=g\/r*4294967296+us.getD (j+m) 0<g*vs.getD m 0
  ·have i2:=h.step i hc;have hg2:=i2.g0;have eg:D U (g-1)=g-1:=Cx (by omega);by_cases hbig:4294967296<=r+vs.getD (m+1) 0
   ·have hgs:=h.small_g i2 hbig;have hrun:W I Hs (Ej k us vs ((m+2:Nat):Int) (vs.getD (m+1) 0) (vs.getD m 0) kq qs s (j:Nat) g r) (.exit 2) (Ej k us vs ((m+2:Nat):Int) (vs.getD (m+1) 0) (vs.getD m 0) kq qs s (j:Nat) (D U (g-1)) (D U (r+vs.getD (m+1) 0))):=by
     by_cases hg:4294967296<=g
     ·exact wF k us vs _ _ _ kq qs s _ g r (by simpa using hg) (by rw[er];simpa using hbig)
     ·exact wH k us vs _ _ _ kq qs s _ g r (by simp;omega) (by rw[ecmp,decide_eq_true_eq];omega) (by rw[er];simpa using hbig) (by rw[e1];omega) hl
    rw[eg,er] at hrun;exact⟨g-1,_,Al hrun (by nofun),⟨hg2,hgs⟩,i2.up,h.out i2 hgs (Or.inl hbig)⟩
   ·have hrun:W I Hs (Ej k us vs ((m+2:Nat):Int) (vs.getD (m+1) 0) (vs.getD m 0) kq qs s (j:Nat) g r) .norm (Ej k us vs ((m+2:Nat):Int) (vs.getD (m+1) 0) (vs.getD m 0) kq qs s (j:Nat) (D U (g-1)) (D U (r+vs.getD (m+1) 0))):=by
     by_cases hg:4294967296<=g
     ·exact wG k us vs _ _ _ kq qs s _ g r (by simpa using hg) (by rw[er,decide_eq_false_iff_not];omega)
     ·exact wI k us vs _ _ _ kq qs s _ g r (by simp;omega) (by rw[ecmp,decide_eq_true_eq];omega) (by rw[er,decide_eq_false_iff_not];omega) (by rw[e1];omega) hl
    rw[eg,er] at hrun;obtain⟨g',r',a1,a2⟩:=ih (g-1) (r+vs.getD (m+1) 0) (by omega) i2 (by omega);exact⟨g',r',W.loop hrun a1,a2⟩
  ·have k5:=XE k us vs ((m+2:Nat):Int) (vs.getD (m+1) 0) (vs.getD m 0) kq qs s (j:Nat) g r (by simp;omega) (by rw[ecmp,decide_eq_false_iff_not];omega) (by rw[e1];omega) hl;exact⟨g,r,Al k5 (by nofun),by omega,i.up,h.out i (by omega) (T1 (by omega))⟩
end
section
variable {k:Nat} {vs:List Int} {t t2:Int} {kq:Nat} {qs:List Int} {s:Int} {j:Nat} {g:Int}
theorem jX(hv:AI vs)(hk:k<=1048577)(hg:0<=g/\g<4294967296)(hj:j+vs.length<=k):∀ (r i:Nat) (us:List Int) (b c:Int),r+i=vs.length->us.length=k->AI us->0<=b/\b<=1->0<=c/\c<4294967296 ->
  W I (.loop Ov) (IA k us vs (vs.length:Nat) t t2 kq qs s (j:Nat) g b c (i:Nat)) (.exit 4) (IA k (F7 g vs j r i us b c).1 vs (vs.length:Nat) t t2 kq qs s (j:Nat) g (F7 g vs j r i us b c).2.1 (F7 g vs j r i us b c).2.2 (vs.length:Nat)):=by
 intro r;induction r with
 | zero =>
  intro i us b c hi _ _ _ _;have:i=vs.length:=by omega
  subst this;exact Al (wK k us vs _ t t2 kq qs s _ g b c _ (by simp)) (by nofun)
 | succ r ih =>
  intro i us b c hi hl hu hb hc;have ei:D R ((i:Int)+1)=((i+1:Nat):Int):=by rw[AW (by omega) (by omega)];omega
  have eij:D R ((i:Int)+(j:Int))=((i+j:Nat):Int):=by rw[AW (by omega) (by omega)];omega
  have hvi:=AA hv i;have hui:=AA hu (i+j);have hw:=Vw hg hvi hc;have hgv:=A1 hg.1 hvi.1;have h1:=wJ k us vs (vs.length:Nat) t t2 kq qs s (j:Nat) g b c (i:Nat) (by simp;omega) (by omega) (by rw[eij];omega) hl;rw[eij,ei,F,F,Cx (n:=vs.getD i 0) (by omega),Cx (n:=us.getD (i+j) 0) (by omega),Cx (n:=g*vs.getD i 0) (by omega),Cx hw,XC,Aoc,Ds (g*vs.getD i 0+c)] at h1;generalize hp:g*vs.getD i 0+c=p at *
  rw[Cx (n:=p % 4294967296) (by omega),B1,B1] at h1;have hstep:F7 g vs j (r+1) i us b c=F7 g vs j r (i+1) (us.set (i+j) ((us.getD (i+j) 0-p % 4294967296-b) % 4294967296)) (if us.getD (i+j) 0-p % 4294967296-b<0 then 1 else 0) (p / 4294967296):=by rw[F7,hp]
  generalize hd:us.getD (i+j) 0-p % 4294967296-b=d at *
  have e1:D A4 (((us.getD (i+j) 0-p % 4294967296) % 18446744073709551616-b) % 18446744073709551616)=d % 4294967296:=by rw[Ds];omega
  have e2:((us.getD (i+j) 0-p % 4294967296) % 18446744073709551616-b) % 18446744073709551616 / 9223372036854775808=(if d<0 then 1 else 0):=by split <;> omega
  rw[e1,e2] at h1;rw[hstep];exact W.loop h1 (ih (i+1) _ _ _ (by omega) (by simpa using hl) (Cq hu (by omega)) (by split <;> omega) (by omega))
theorem jY(hv:AI vs)(hk:k<=1048577)(hj:j+vs.length<=k):∀ (r i:Nat) (us:List Int) (c:Int),r+i=vs.length->us.length=k->AI us->0<=c/\c<=1 ->
  W I (.loop Q6) (KF k us vs (vs.length:Nat) t t2 kq qs s (j:Nat) g c (i:Nat)) (.exit 6) (KF k (H9 vs j r i us c).1 vs (vs.length:Nat) t t2 kq qs s (j:Nat) g (H9 vs j r i us c).2 (vs.length:Nat)):=by
 intro r;induction r with
 | zero =>
  intro i us c hi _ _ _;have:i=vs.length:=by omega
  subst this;exact Al (wM k us vs _ t t2 kq qs s _ g c _ (by simp)) (by nofun)
 | succ r ih =>
  intro i us c hi hl hu hc;have ei:D R ((i:Int)+1)=((i+1:Nat):Int):=by rw[AW (by omega) (by omega)];omega
  have eij:D R ((i:Int)+(j:Int))=((i+j:Nat):Int):=by rw[AW (by omega) (by omega)];omega
  have hvi:=AA hv i;have hui:=AA hu (i+j);have h1:=wL k us vs (vs.length:Nat) t t2 kq qs s (j:Nat) g c (i:Nat) (by simp;omega) (by rw[eij];omega) hl (by omega);rw[eij,ei,F,F,Cx (n:=vs.getD i 0) (by omega),Cx (n:=us.getD (i+j) 0) (by omega),Cx (n:=us.getD (i+j) 0+vs.getD i 0) (by omega),Cx (n:=us.getD (i+j) 0+vs.getD i 0+c) (by omega),XC,Ds] at h1;exact W.loop h1 (ih (i+1) _ _ (by omega) (by simpa using hl) (Cq hu (by omega)) (by omega))
end
theorem Aoq{X c b:Int}(hX:0<=X/\X<4294967296)(hc:0<=c/\c<4294967296)(hb:0<=b/\b<=1) :
  d (D U (D U (D U X-c)-b)) (2^(min (A 63) (Aj .u64)))=(if X-c-b<0 then 1 else 0)/\D A4 (D U (D U (D U X-c)-b))=(X-c-b) % 4294967296:=by
 rw[Aoc,Cx (n:=X) (by omega),B1,B1,Ds];refine⟨?_,by omega⟩;split <;> omega
section
variable {vs:List Int} {m:Nat} {k kq:Nat} {s:Int}
theorem wS(hv:AI vs)(hm:vs.length=m+2)(ht:2147483648<=vs.getD (m+1) 0)(hk:k=kq+vs.length)(hkb:k<=1048577):∀ (i:Nat) (us qs:List Int),i<=kq->us.length=k->AI us->qs.length=kq->AI qs->(∀ t,t<i->qs.getD t 0=0)->Aa (us.drop i)<Aa vs ->
  ∃ us' qs',W I (.loop Mj) (GZ k us vs (vs.length:Nat) (vs.getD (m+1) 0) (vs.getD m 0) kq qs s ((i:Int)-1)) (.exit 0) (GZ k us' vs (vs.length:Nat) (vs.getD (m+1) 0) (vs.getD m 0) kq qs' s (-1)) /\
   us'.length=k/\AI us'/\qs'.length=kq/\AI qs'/\Aa us'<Aa vs/\Aa us=Aa vs*(Aa qs'-Aa qs)+Aa us':=by
 intro i;induction i with
 | zero =>
  intro us qs _ h1 h2 h3 h4 _ h6;exact⟨us,qs,Al (Aop k us vs _ _ _ kq qs s _ (by simp)) (by nofun),h1,h2,h3,h4,h6,by rw[SU,AG,Db]⟩
 | succ i ih =>
  intro us qs hi h1 h2 h3 h4 h5 h6;have ei:(((i+1:Nat):Int)-1)=(i:Nat):=by omega
  have ej:D R ((i:Int)-1)=(i:Int)-1:=AW (by omega) (by omega);have en:D R ((i:Int)+(vs.length:Int))=((i+vs.length:Nat):Int):=by rw[AW (by omega) (by omega)];omega
  have en1:D R (((i+vs.length:Nat):Int)-1)=((i+m+1:Nat):Int):=by rw[AW (by omega) (by omega)];omega
  have hD:=qP (us:=us) (vs:=vs) (j:=i) (m:=m) h2 hv hm (by omega) ht h6;have hI:=hD.init;have hr1:=DU (us.getD (i+m+2) 0*4294967296+us.getD (i+m+1) 0) (show 0<vs.getD (m+1) 0 by omega);have ht2:=hD.htop;obtain⟨g,r,q1,q2,q3,q4⟩:=jW (k:=k) (kq:=kq) (qs:=qs) (s:=s) h1 hkb (by omega) hD _ _ _ (Am _) hI (by omega);rw[<- hm] at q1;have hn0:0<=us.getD (i+m+2) 0*4294967296+us.getD (i+m+1) 0:=by have:=hD.hx;have:=hD.hy;omega
  have hq0:=hI.g0;have hq1:=hI.gle;have hl5:W I (.loop Hs) (Ej k us vs (vs.length:Nat) (vs.getD (m+1) 0) (vs.getD m 0) kq qs s (i:Nat) (D U (o (D U ((T (Aj .u64) (D U ((D U (us.getD (A (D R ((i:Int)+(vs.length:Int)))) 0))*2^(min (A 32) (Aj .u64)))) ||| T (Aj .u64) (D U (us.getD (A (D R ((D R ((i:Int)+(vs.length:Int)))-1))) 0))).toNat)) (vs.getD (m+1) 0))) (f (D U ((T (Aj .u64) (D U ((D U (us.getD (A (D R ((i:Int)+(vs.length:Int)))) 0))*2^(min (A 32) (Aj .u64)))) ||| T (Aj .u64) (D U (us.getD (A (D R ((D R ((i:Int)+(vs.length:Int)))-1))) 0))).toNat)) (vs.getD (m+1) 0))) (.exit 2) (Ej k us vs (vs.length:Nat) (vs.getD (m+1) 0) (vs.getD m 0) kq qs s (i:Nat) g r):=by
   rw[en,en1,F,F,show i+vs.length=i+m+2 by omega,Cx (n:=us.getD (i+m+2) 0) (by have:=hD.hx;omega),Li hD.hx hD.hy,B0 hn0,Bc hn0,Cx ⟨hq0,by omega⟩];exact q1
  have hms:=jX (k:=k) (t:=vs.getD (m+1) 0) (t2:=vs.getD m 0) (kq:=kq) (qs:=qs) (s:=s) (j:=i) (g:=g) hv hkb q2 (by omega) vs.length 0 us 0 0 (by omega) h1 h2 (by omega) (by omega);have hmo:=Vx (j:=i) q2 hv vs.length 0 us 0 0 (by omega) (by omega) h2 (by omega) (by omega);have hst:=SS h2 hv (j:=i) (by omega) h6 q2 q3 q4;generalize hM:F7 g vs i vs.length 0 us 0 0=M at *
  obtain⟨m1,m2,m3,m4,_,_⟩:=hmo;obtain⟨d1,d2⟩:=Aoq (AA m2 (i+vs.length)) m4 m3;dsimp only at hst;obtain⟨S1,S2⟩:=hst;have fin:∀ (ws:List Int) (q:Int),StepOk us vs ws i q->(0<=q/\q<4294967296)->W I Mj (GZ k us vs (vs.length:Nat) (vs.getD (m+1) 0) (vs.getD m 0) kq qs s (i:Nat)) .norm (GZ k ws vs (vs.length:Nat) (vs.getD (m+1) 0) (vs.getD m 0) kq (qs.set i q) s ((i:Int)-1)) ->
    ∃ us' qs',W I (.loop Mj) (GZ k us vs (vs.length:Nat) (vs.getD (m+1) 0) (vs.getD m 0) kq qs s (i:Nat)) (.exit 0) (GZ k us' vs (vs.length:Nat) (vs.getD (m+1) 0) (vs.getD m 0) kq qs' s (-1)) /\
   us'.length=k/\AI us'/\qs'.length=kq/\AI qs'/\Aa us'<Aa vs/\Aa us=Aa vs*(Aa qs'-Aa qs)+Aa us':=by
   intro ws q hs hq hrun;obtain⟨us',qs',a1,a2,a3,a4,a5,a6,a7⟩:=ih ws (qs.set i q) (by omega) (by rw[hs.len];exact h1) hs.u32 (by simpa using h3) (Cq h4 hq) (fun t ht=>by rw[Cm (by omega)];exact h5 t (by omega)) hs.low;refine⟨us',qs',W.loop hrun a1,a2,a3,a4,a5,a6,?_⟩;have e:=hs.val;rw[DA _ _ _ (by omega),h5 i (by omega),EI] at a7;generalize (4294967296:Int)^i=P at *
   grind
  rw[ei];by_cases hd:M.1.getD (i+vs.length) 0-M.2.2-M.2.1<0
  ·obtain⟨S2,hg1⟩:=S2 hd;have hu2:AI (M.1.set (i+vs.length) ((M.1.getD (i+vs.length) 0-M.2.2-M.2.1) % 4294967296)):=Cq m2 (by omega);have hab:=jY (k:=k) (t:=vs.getD (m+1) 0) (t2:=vs.getD m 0) (kq:=kq) (qs:=qs) (s:=s) (j:=i) (g:=g-1) hv hkb (by omega) vs.length 0 (M.1.set (i+vs.length) ((M.1.getD (i+vs.length) 0-M.2.2-M.2.1) % 4294967296)) 0 (by omega) (by rw[AS,m1];exact h1) hu2 (by omega);have hao:=Vy (j:=i) hv vs.length 0 (M.1.set (i+vs.length) ((M.1.getD (i+vs.length) 0-M.2.2-M.2.1) % 4294967296)) 0 (by omega) (by rw[AS,m1];omega) hu2 (by omega);obtain⟨b1,b2,b3,_,_⟩:=hao;generalize hB:H9 vs i vs.length 0 (M.1.set (i+vs.length) ((M.1.getD (i+vs.length) 0-M.2.2-M.2.1) % 4294967296)) 0=Bb at *
   have eg:D U (g-1)=g-1:=Cx (by omega);have k1:=Aon k us vs (vs.length:Nat) (vs.getD (m+1) 0) (vs.getD m 0) kq qs s (i:Nat) M.1 Bb.1 g r M.2.1 M.2.2 Bb.2 (by simp) (by rw[en,F,d1,if_pos hd];rfl) (by rw[en];omega) h1 (by rw[en,en1];omega) (by omega) hl5 hms (by rw[m1];exact h1) (by rw[en,F,d2,eg];exact hab) (by rw[b1,AS,m1];exact h1) (by omega) h3;rw[en,F,eg,F,QE (n:=g-1) (by omega),ej,QE (n:=Bb.2) (by omega),Ds] at k1;exact fin _ _ S2 (by omega) k1
  ·have k2:=Aoo k us vs (vs.length:Nat) (vs.getD (m+1) 0) (vs.getD m 0) kq qs s (i:Nat) M.1 g r M.2.1 M.2.2 (by simp) (by rw[en,F,d1,if_neg hd];rfl) (by rw[en];omega) h1 (by rw[en,en1];omega) (by omega) hl5 hms (by rw[m1];exact h1) (by omega) h3;rw[en,F,F,d2,QE (n:=g) q2,ej] at k2;exact fin _ _ (S1 (by omega)) q2 k2
end
def TQB:Cp:=TQA
theorem Dg:B_ I TQB:=jV
theorem Aor(b1 b2 na nb:Bool)(xs ys as1 bs qs rs:List Int)(v w:Int)(n1:H I 143 [.agg [.bool b1,sL lm xs]] (.tup [.bool na,sL lm as1]))(n2:H I 143 [.agg [.bool b2,sL lm ys]] (.tup [.bool nb,sL lm bs]))(n3:H I 180 [sL lm as1,sL lm bs] (.tup [sL lm qs,sL lm rs]))(n4:H I 152 [.bool (!(na==nb)),sL lm qs] (Ab v))(n5:H I 152 [.bool na,sL lm rs] (Ab w)):H I 158 [.agg [.bool b1,sL lm xs],.agg [.bool b2,sL lm ys]] (.tup [Ab v,Ab w]):=i (fn:=UP) Dg rfl 400 rfl [.r (.tup [.bool na,sL lm as1]),.r (.tup [.bool nb,sL lm bs]),.r (.tup [sL lm qs,sL lm rs]),.r (Ab v),.r (Ab w)] (L n1 (L n2 (L n3 (L n4 (L n5 a0)))))
def NC(xs:List Int)(v:Int)(n:Int)(i:Int):Ak:=(Q 3 (.val (.int .u64 v)::(Q 3 (.val (sL lm xs)::(.val (.int .i64 n)::(.val (.int .i64 i)::(Q 14 [])))))))
theorem Aos(xs:List Int)(v:Int)(n:Int)(i:Int)(c1:B (i<n)=true)(n1:0<=i/\i<(xs.length:Int))(n2:¬ (D U (D R (32*i)))<0):W I UY (NC xs v n i) .norm (NC xs (D U ((T (Aj .u64) v ||| T (Aj .u64) (D U ((D U (xs.getD (A i) 0))*2^(min (A (D U (D R (32*i)))) (Aj .u64))))).toNat)) n (D R (i+1))):=(C Dg 400 [.b true,.v (.int .u32 (xs.getD (A i) 0))] [3,7,8,9] (L c1 (L n1 (L (y n1) (L n2 a0)))))
theorem Aot(xs:List Int)(v:Int)(n:Int)(i:Int)(c1:B (i<n)=false):W I UY (NC xs v n i) (.exit 0) (NC xs v n i):=(C Dg 400 [.b false] [3,7,8,9] (L c1 a0))
theorem Aou(n:Bool)(xs:List Int)(v i m:Int)(hl1:W I (.loop UY) (NC xs 0 (xs.length:Int) 0) (.exit 0) (NC xs v m i)):H I 183 [.agg [.bool n,sL lm xs]] (.int .u64 v):=p (fn:=UZ) (s:=(Q 2 (.val (.int .u64 v)::(Q 21 [])))) (ex := .ret) rfl rfl (P (Ar (W.seq (C Dg 400 [] [3,7,8,9] a0) (W.seq (W.block hl1) (C Dg 400 [] [2] a0))))) (by nofun) rfl
theorem Aov(n v:Int)(n1:H I 152 [.bool false,.sl 2 [.int .u32 (D A4 n),.int .u32 (D A4 (d n (2^(min (A 32) (Aj .u64)))))]] (Ab v)):H I 181 [.int .u64 n] (Ab v):=i (fn:=UV) Dg rfl 400 rfl [.r (Ab v)] (L HE (L n1 a0))
def ND(a:Int)(b:Int):Ak:=(.val (.int .u64 a)::(.val (.int .u64 b)::(Q 10 [])))
theorem Aow(a:Int)(b:Int)(c1:B (b>0)=true)(n1:¬ b=0):W I UW (ND a b) .norm (ND b (f a b)):=(C Dg 400 [.b true] [0,1] (L c1 (L n1 a0)))
theorem cR(a:Int)(b:Int)(c1:B (b>0)=false):W I UW (ND a b) (.exit 0) (ND a b):=(C Dg 400 [.b false] [0,1] (L c1 a0))
theorem Aox(a b a1 b1:Int)(hl1:W I (.loop UW) (ND a b) (.exit 0) (ND a1 b1)):H I 182 [.int .u64 a,.int .u64 b] (.int .u64 a1):=p (fn:=UX) (s:=(Q 4 (.val (.int .u64 a1)::(Q 7 [])))) (ex := .ret) rfl rfl (W.seq (C Dg 400 [] [0,1] a0) (W.seq (W.block hl1) (C Dg 400 [] [4] a0))) (by nofun) rfl
def Gu(x:Rn)(y:Rn)(z:Rn):Ak:=(Q 4 (.box [.bool z.1,.sl z.2.length (lm z.2)]::(.box [.bool x.1,.sl x.2.length (lm x.2)]::(.box [.bool y.1,.sl y.2.length (lm y.2)]::(Q 35 [])))))
theorem Aoy(x:Rn)(y:Rn)(z:Rn)(ua ub ug g:Int)(c1:B ((y.2.length:Int)>0)=true)(c2:B ((x.2.length:Int)<=2)=true)(c3:B ((y.2.length:Int)<=2)=true)(n1:H I 183 [Ap x] (.int .u64 ua))(n2:H I 183 [Ap y] (.int .u64 ub))(n3:H I 182 [.int .u64 ua,.int .u64 ub] (.int .u64 ug))(n4:H I 181 [.int .u64 ug] (Ab g)):W I Lc (Gu x y z) .ret (Gu x y (cn g)):=(C Dg 400 [.b true,.b true,.b true,.r (.int .u64 ua),.r (.int .u64 ub),.r (.int .u64 ug),.r (Ab g)] [4,5,6] (L c1 (L c2 (L c3 (L n1 (L n2 (L n3 (L n4 a0))))))))
theorem Aoz(x:Rn)(y:Rn)(z:Rn)(q r:Int)(c1:B ((y.2.length:Int)>0)=true)(c2:B ((x.2.length:Int)<=2)=true)(c3:B ((y.2.length:Int)<=2)=false)(n1:H I 158 [Ap x,Ap y] (.tup [Ab q,Ab r])):W I Lc (Gu x y z) .norm (Gu y (cn r) z):=(C Dg 400 [.b true,.b true,.b false,.r (.tup [Ab q,Ab r])] [4,5,6] (L c1 (L c2 (L c3 (L n1 a0)))))
theorem Apa(x:Rn)(y:Rn)(z:Rn)(q r:Int)(c1:B ((y.2.length:Int)>0)=true)(c2:B ((x.2.length:Int)<=2)=false)(n1:H I 158 [Ap x,Ap y] (.tup [Ab q,Ab r])):W I Lc (Gu x y z) .norm (Gu y (cn r) z):=(C Dg 400 [.b true,.b false,.b false,.r (.tup [Ab q,Ab r])] [4,5,6] (L c1 (L c2 (L Ff (L n1 a0)))))
theorem cS(x:Rn)(y:Rn)(z:Rn)(c1:B ((y.2.length:Int)>0)=false):W I Lc (Gu x y z) (.exit 0) (Gu x y z):=(C Dg 400 [.b false] [4,5,6] (L c1 a0))
theorem jZ(b1 b2:Bool)(xs ys:List Int)(v w:Int)(x y z:Rn)(n1:H I 160 [.agg [.bool b1,sL lm xs]] (Ab v))(n2:H I 160 [.agg [.bool b2,sL lm ys]] (Ab w))(hl3:W I (.loop Lc) (Gu (cn v) (cn w) (false,[])) (.exit 0) (Gu x y z)):H I 159 [.agg [.bool b1,sL lm xs],.agg [.bool b2,sL lm ys]] (Ap x):=p (fn:=RL) (s:=(Q 4 (.box [.bool x.1,.sl x.2.length (lm x.2)]::(Q 37 [])))) (ex := .ret) rfl rfl (P (W.seq (C Dg 400 [.r (Ab v),.r (Ab w)] [4,5,6] (L n1 (L n2 a0))) (W.seq (W.block hl3) (C Dg 400 [] [4] a0)))) (by nofun) rfl
theorem kA(b1 b2:Bool)(xs ys:List Int)(v w:Int)(x y z:Rn)(n1:H I 160 [.agg [.bool b1,sL lm xs]] (Ab v))(n2:H I 160 [.agg [.bool b2,sL lm ys]] (Ab w))(hl3:W I (.loop Lc) (Gu (cn v) (cn w) (false,[])) .ret (Gu x y z)):H I 159 [.agg [.bool b1,sL lm xs],.agg [.bool b2,sL lm ys]] (Ap z):=p (fn:=RL) (s:=(Q 4 (.box [.bool z.1,.sl z.2.length (lm z.2)]::(.box [.bool x.1,.sl x.2.length (lm x.2)]::(.box [.bool y.1,.sl y.2.length (lm y.2)]::(Q 35 [])))))) (ex := .ret) rfl rfl (P (W.seq (C Dg 400 [.r (Ab v),.r (Ab w)] [4,5,6] (L n1 (L n2 a0))) (AQ (De hl3) (by nofun)))) (by nofun) rfl
def TQC:Cp:=TQB
theorem kB:B_ I TQC:=Dg
def It(g:Nat->Int)(i r:Nat):List Int:=(Ao i).map g++Aq r 0
theorem WE(g:Nat->Int)(i r:Nat):(It g i r).length=i+r:=by simp [It]
theorem kC(g:Nat->Int)(i r:Nat):(It g i (r+1)).set i (g i)=It g (i+1) r:=by
 simp only[It,FX,DR,Cz,FF];rw[A3v _ _ (by simp)];simp[FU]
def Cy(us:List Int)(s:Nat)(i:Nat):Int:=us.getD (i+1) 0 % 2^s*2^(32-s)+us.getD i 0 / 2^s
theorem NE{us:List Int}(hu:AI us){s:Nat}(hs:s<32)(i:Nat):(0<=us.getD i 0 / 2^s/\us.getD i 0 / 2^s<2^(32-s))/\0<=us.getD (i+1) 0 % 2^s/\us.getD (i+1) 0 % 2^s*2^(32-s)<4294967296/\(0<=Cy us s i/\Cy us s i<4294967296):=by
 have h0:=AA hu i;have h1:=AA hu (i+1);have hp:=B7 s;have hp2:=B7 (32-s);have e:=QF (show s<=32 by omega);have a1:=EK (us.getD (i+1) 0) (show (2:Int)^s ≠ 0 by omega);have a2:=DU (us.getD (i+1) 0) hp;have b0:0<=us.getD i 0 / 2^s:=IV h0.1 (by omega);have b1:us.getD i 0 / 2^s<2^(32-s):=JQ hp (by rw[<- e];exact h0.2);unfold Cy;generalize us.getD (i+1) 0 % 2^s=x at *
 generalize us.getD i 0 / 2^s=y at *
 have c1:=Ad (show x+1<=2^s by omega) (show (0:Int)<=2^(32-s) by omega);rw[GH,CR,AD (2^s),<- e] at c1;have c2:=A1 a1 (show (0:Int)<=2^(32-s) by omega);omega
theorem cT{us:List Int}(s:Nat)(hs:s<32):∀ n,n<=us.length->2^s*Aa ((Ao n).map (Cy us s))=Aa (us.take n)-us.getD 0 0 % 2^s+4294967296^n*(us.getD n 0 % 2^s):=by
 intro n;induction n with
 | zero =>
  intro _;simp only[List.range_zero,FF,T2,Aa,Da,AG,CR];generalize us.getD 0 0 % 2^s=w;omega
 | succ n ih =>
  intro hn;have e:=QF (show s<=32 by omega);rw[FX,DR,Cz,FF,Gc,N,BY,C1,ih (by omega),Du us n (by omega),Ay];have e2:Aa [Cy us s n]=Cy us s n:=by simp[Aa]
  rw[e2];unfold Cy;have e3:=Gj (us.getD n 0) (2^s);generalize us.getD (n+1) 0 % 2^s=x at *
  generalize us.getD n 0 / 2^s=y at *
  generalize us.getD n 0 % 2^s=z at *
  generalize us.getD 0 0 % 2^s=w at *
  generalize us.getD n 0=u at *
  generalize Aa (us.take n)=V at *
  generalize (4294967296:Int)^n=P at *
  rw[e];generalize (2:Int)^(32-s)=T at *
  generalize (2:Int)^s=S at *
  rw[<- e3];grind
theorem kD{us:List Int}{k n kq:Nat}{qs:List Int}{s:Nat}(hu:AI us)(hl:us.length=k)(hn:n<k)(hk:k<=1048577)(hs:s<32) :
  W I (.loop Mi) (HR k us (n:Nat) kq qs n (Aq n 0) (s:Nat) 0) (.exit 8) (HR k us (n:Nat) kq qs n ((Ao n).map (Cy us s)) (s:Nat) (n:Nat)):=by
 have h:=W.up (prog:=I) (c:=Mi) (ex := .exit 8) (fin:=HR k us (n:Nat) kq qs n ((Ao n).map (Cy us s)) (s:Nat) (n:Nat))
  (fun i=>HR k us (n:Nat) kq qs n (It (Cy us s) i (n-i)) (s:Nat) (i:Nat)) n (by nofun) ?_ ?_ 0 (Bf _)
 ·simpa [It] using h
 ·intro i hi;obtain⟨r,hr⟩:∃ r,n-i=r+1:=⟨n-i-1,by omega⟩;have e2:n-(i+1)=r:=by omega
  have ei:D R ((i:Int)+1)=((i+1:Nat):Int):=by rw[AW (by omega) (by omega)];omega
  have hlen:(It (Cy us s) i (r+1)).length=n:=by rw[WE];omega
  obtain⟨b1,b2,b3,b4⟩:=NE hu hs i;have es:D U (s:Int)=(s:Nat):=Cx (by omega);have em:min (A (s:Int)) (Aj .u32)=s:=by rw[F];show min s 32=s;omega
  have hp:=B7 s;rw[hr,e2,<- kC];have hget:∀ v:Int,((It (Cy us s) i (r+1)).set i v).getD i 0=v:=fun v=>by simp[Z,show i<(It (Cy us s) i (r+1)).length by omega]
  have efd:d (us.getD i 0) (2^s)=us.getD i 0 / 2^s:=t _ (by omega);by_cases h0:s=0
  ·subst h0;have k2:=wO k us (n:Nat) kq qs n (It (Cy us 0) i (r+1)) ((0:Nat):Int) (i:Nat) (by simp;omega) (by simp) (by omega) hl (by rw[es];omega) (by omega) hlen;rw[ei,F,es,em,efd] at k2;have e5:Cy us 0 i=us.getD i 0 / 2^0:=by simp[Cy,Int.emod_one]
   rw[e5];exact k2
  ·have e32:D U (D R (32-(s:Int)))=((32-s:Nat):Int):=by rw[AW (by omega) (by omega),Cx (by omega)];omega
   have em2:min (A ((32-s:Nat):Int)) (Aj .u32)=32-s:=by rw[F];show min (32-s) 32=32-s;omega
   have k1:=wN k us (n:Nat) kq qs n (It (Cy us s) i (r+1)) (s:Int) (i:Nat) (by simp;omega) (by simp;omega) (by omega) hl (by rw[es];omega) (by omega) hlen (by simpa using hlen) (by rw[ei];omega) (by rw[e32];omega);rw[ei,F,F,es,em,e32,em2,efd,hget,Rl,Ds (us.getD (i+1) 0*2^(32-s))] at k1;have e6:us.getD (i+1) 0*2^(32-s) % 4294967296=us.getD (i+1) 0 % 2^s*2^(32-s):=by
    rw[QF (show s<=32 by omega),AD (us.getD (i+1) 0),A3w _ _ (B7 (32-s)),AD]
   rw[e6,Aod b2 b3 (by omega) b1] at k1;exact k1
 ·have k3:=wP k us (n:Nat) kq qs n ((Ao n).map (Cy us s)) (s:Nat) (n:Nat) (by simp);simpa [It] using k3
theorem Mv{g:Nat->Int}{n:Nat}(h:∀ i,0<=g i/\g i<4294967296):AI ((Ao n).map g):=fun x hx=>by
 obtain⟨i,_,rfl⟩:=Ea.1 hx;exact h i
theorem           WF {xs ys : List Int} (hx :    Fg xs) (hy :    Fg ys) (hy0 : ys ≠ []) (h1 : xs.length < 1048576) (h2 : ys.length < 1048576) : ∃ qs rs,  AI qs /\  AI rs /\ (qs : List Int).length <= 1048576 /\ (rs : List Int).length <= 1048576 /\   Aa qs =   Aa xs /   Aa ys /\   Aa rs =   Aa xs %   Aa ys /\
    H          I 180 [.sl xs.length (lm xs), .sl ys.length (lm ys)] (.tup [.sl qs.length (lm qs), .sl rs.length (lm rs)]) := by
  have hyl :=                  An.2 hy0
  have hcmp :=           I9 hx hy (by omega)
  have hx0 :=          AK hx.1
  have hyp :=        In hy hy0
  by_cases hlt :   Aa xs <   Aa ys
  · refine ⟨[], xs, fun x h => (nomatch h), hx.1, by simp, by omega, ?_, ?_, ?_⟩
    · rw [                    DN hx0 hlt]; rfl
    · rw [               FT hx0 hlt]
    · exact            jS xs ys _ (by unfold   Cw; rw [if_pos hlt]; rfl) (    TG xs) (by omega) hcmp
  have hcm : decide (  Cw (  Aa xs) (  Aa ys) < 0) = false := by unfold   Cw; rw [if_neg hlt]; split <;> rfl
  by_cases hone : ys.length = 1
  · obtain ⟨y, rfl⟩ :=                    A1a.1 hone
    have e1 :   Aa [y] = y := by simp [  Aa]
    rw [e1] at hyp
    have hyb := hy.1 y (by simp)
    obtain ⟨qs, r, q1, q2, q3, q4, q5⟩ :=           WD hx.1 (d := y) ⟨hyp, hyb.2⟩ (by omega)
    have e2 :   Aa [r] = r := by simp [  Aa]
    have hd := (                  KX hyp (a :=   Aa xs) (r := r) (q :=   Aa qs)).2 ⟨by omega, q3.1, q3.2⟩
    refine ⟨qs, [r], q2, fun x h => by rw [                HZ.1 h]; omega, by omega, by simp, by rw [e1]; exact hd.1.symm, by rw [e1, e2]; exact hd.2.symm, ?_⟩
    exact            jT xs [y] qs _ r hcm (by rfl) hcmp (by simp) q5
  · obtain ⟨m, hm⟩ : ∃ m, ys.length = m + 2 := ⟨ys.length - 2, by omega⟩
    have hxl : ys.length <= xs.length := by
      rcases           Ck xs.length ys.length with g | g
      · exact absurd (      Iq hx hy g) hlt
      · exact g
    -- the first limb of y
    have hyt : 0 < ys.getD (m + 1) 0 /\ ys.getD (m + 1) 0 < 4294967296 := by
      have a :=       AA hy.1 (m + 1)
      rcases hy.2 with g | g
      · exact absurd g hy0
      · rw [show ys.length - 1 = m + 1 by omega] at g; omega
    obtain ⟨s, hs, s1, s2, hlz⟩ :=     qQ hyt
    obtain ⟨us, u1, u2, u3, hus⟩ :=          QH hx.1 hs h1
    obtain ⟨ws, w1, w2, w3, hws⟩ :=          QH hy.1 hs h2
    have hp :=       B7 s
    -- y between powers
    have ysplit :=        Df ys (j := m + 1) (by omega)
    have yd :=       C2 ys (m + 1)
    rw [      DB (xs := ys) (i := m + 1 + 1) (by omega),           AG,           B2] at yd
    rw [yd] at ysplit
    have ylo :=      Fv hy.1 (m + 1)
    have ylo0 :=          AK (      Dm hy.1 (m + 1))
    have hP :=        Cc (m + 1)
    have hV1 : 2147483648 * 4294967296 ^ (m + 1) <=   Aa ws := by
      rw [w3, ysplit]
      have a :=                             Ad s1 (show (0 : Int) <= 4294967296 ^ (m + 1) by omega)
      have b :=             A1 (show (0 : Int) <= 2 ^ s by omega) ylo0
      have e : 2 ^ s * (  Aa (       Br (m + 1) ys) + 4294967296 ^ (m + 1) * ys.getD (m + 1) 0) = 2 ^ s *   Aa (       Br (m + 1) ys) + ys.getD (m + 1) 0 * 2 ^ s * 4294967296 ^ (m + 1) := by grind
      omega
    have hV2 :   Aa ws < 4294967296 ^ (m + 2) := by
      have e9 : (4294967296 : Int) ^ (m + 2) = 4294967296 ^ (m + 1) * 4294967296 :=           Ay _ _
      rw [w3, ysplit]
      have e0 :=   QF (show s <= 32 by omega)
      have a1 : ys.getD (m + 1) 0 + 1 <= 2 ^ (32 - s) := by
        rw [e0] at s2
        have :=                         BP s2 (by omega)
        omega
      have a2 :=                             Ad a1 (show (0 : Int) <= 2 ^ s * 4294967296 ^ (m + 1) by have :=          BE hp hP; omega)
      have a3 :=                         Js ylo hp
      have e1 : (ys.getD (m + 1) 0 + 1) * (2 ^ s * 4294967296 ^ (m + 1)) = 2 ^ s * (4294967296 ^ (m + 1) * ys.getD (m + 1) 0) + 2 ^ s * 4294967296 ^ (m + 1) := by grind
      have e2 : (2 : Int) ^ (32 - s) * (2 ^ s * 4294967296 ^ (m + 1)) = 4294967296 ^ (m + 1) * 4294967296 := by rw [<-            AB, <- e0,           AD]
      rw [         C1]
      omega
    have hdz :=         IT w2 (n := m + 2) (V := 4294967296 ^ (m + 2)) (         DL _) hV2
    have hvs :   Aa (ws.take (m + 2)) =   Aa ws := by
      have :=        Df ws (j := m + 2) (by omega)
      rw [hdz,           AG,           B2] at this
      exact this.symm
    have hvl : (ws.take (m + 2)).length = m + 2 := by simp; omega
    have hvu :=       Dm w2 (m + 2)
    generalize hvv : ws.take (m + 2) = vs at *
    have hvtop : 2147483648 <= vs.getD (m + 1) 0 := by
      have a :=        Df vs (j := m + 1) (by omega)
      have b :=       C2 vs (m + 1)
      rw [      DB (xs := vs) (i := m + 1 + 1) (by omega),           AG,           B2] at b
      rw [b] at a
      have c :=      Fv hvu (m + 1)
      apply         Ka.1
      intro h
      have :=                            Ah (show vs.getD (m + 1) 0 + 1 <= 2147483648 by omega) (show (0 : Int) <= 4294967296 ^ (m + 1) by omega)
      rw [         C1,          Dp,           AD _ 2147483648] at this
      omega
    have hini :   Aa (us.drop (xs.length - ys.length + 1)) <   Aa vs := by
      have a :=        Df us (j := xs.length - ys.length + 1) (by omega)
      have b :=          AK (      Dm u2 (xs.length - ys.length + 1))
      have c :=      D4 hx.1
      have d :=                         Js c hp
      have e : (4294967296 : Int) ^ xs.length = 4294967296 ^ (xs.length - ys.length + 1) * 4294967296 ^ (m + 1) := by rw [<-          B4]; congr 1; omega
      have hp2 : (2 : Int) ^ s <= 2147483648 := by
        have :=      FP (show s <= 31 by omega); rwa [show (2 : Int) ^ 31 = 2147483648 by decide] at this
      have hQ :=        Cc (xs.length - ys.length + 1)
      rw [hvs]
      apply                 RV (b := 2 ^ s * 4294967296 ^ (m + 1))
      · apply                        ER (a := 4294967296 ^ (xs.length - ys.length + 1)) _ (by omega)
        have e2 : (4294967296 : Int) ^ (xs.length - ys.length + 1) * (2 ^ s * 4294967296 ^ (m + 1)) = 2 ^ s * 4294967296 ^ xs.length := by rw [e]; grind
        omega
      · have :=                             Ad hp2 (show (0 : Int) <= 4294967296 ^ (m + 1) by omega)
        omega
    obtain ⟨us', qs, l1, l2, l3, l4, l5, l6, l7⟩ :=           wS (k := xs.length + 1) (kq := xs.length - ys.length + 1) (s := (s : Nat)) hvu hvl hvtop (by omega) (by omega) (xs.length - ys.length + 1) us (            Aq (xs.length - ys.length + 1) 0) (         Am _) u1 u2 (by simp) (       EC _) (fun t _ =>         Dw _ _) hini
    have l8 :=            kD (us := us') (k := xs.length + 1) (n := m + 2) (kq := xs.length - ys.length + 1) (qs := qs) l3 l2 (by omega) (by omega) hs
    rw [        Ez,           EI, u3, hvs, w3] at l7
    rw [hvs] at l6
    -- the remainder
    have hR :   Aa us' = 2 ^ s * (  Aa xs -   Aa ys *   Aa qs) := by rw [         HG]; have : 2 ^ s *   Aa ys *   Aa qs = 2 ^ s * (  Aa ys *   Aa qs) := by grind
                                                                     omega
    have us0 :=          AK l3
    have hR0 : 0 <=   Aa xs -   Aa ys *   Aa qs := by
      apply         Ka.1
      intro h
      have :=                            Ah (show   Aa xs -   Aa ys *   Aa qs <= -1 by omega) (show (0 : Int) <= 2 ^ s by omega)
      omega
    have hR1 :   Aa xs -   Aa ys *   Aa qs <   Aa ys := by
      rw [hR, w3] at l6
      exact                        ER l6 (by omega)
    have hrs :   Aa ((        Ao (m + 2)).map (  Cy us' s)) =   Aa xs -   Aa ys *   Aa qs := by
      have a :=      cT (us := us') s hs (m + 2) (by omega)
      have b : us'.getD 0 0 % 2 ^ s = 0 := by
        have c :=       C2 us' 0
        rw [            EP,           BR, hR] at c
        have e0 :=   QF (show s <= 32 by omega)
        have : us'.getD 0 0 = 2 ^ s * (  Aa xs -   Aa ys *   Aa qs - 2 ^ (32 - s) *   Aa (us'.drop 1)) := by rw [         HG, <-            AB,           AD (2 ^ s) (2 ^ (32 - s)), <- e0]; omega
        rw [this]
        exact Int.mul_emod_right _ _
      have dz :=         IT l3 (n := m + 2) (V :=   Aa ws) (by omega) l6
      have c2 : us'.getD (m + 2) 0 = 0 := by
        have c :=       C2 us' (m + 2)
        rw [dz] at c
        have d1 :=          AK (      E7 l3 (m + 2 + 1))
        have d2 :=       AA l3 (m + 2)
        omega
      have d :=        Df us' (j := m + 2) (by omega)
      rw [dz,           AG,           B2] at d
      rw [b, c2, <- d, hR, Int.zero_emod,           AG,           EI,           B2] at a
      exact                        HY (by omega) a
    have hd := (                  KX hyp (a :=   Aa xs) (r :=   Aa xs -   Aa ys *   Aa qs) (q :=   Aa qs)).2 ⟨by omega, hR0, hR1⟩
    have e1 :           R.wrap (((ys.length : Nat) : Int) - 1) = ((m + 1 : Nat) : Int) := by rw [ AW (by omega) (by omega)]; omega
    have e2 :           R.wrap (((ys.length : Nat) : Int) - 2) = ((m : Nat) : Int) := by rw [ AW (by omega) (by omega)]; omega
    have e3 :           R.wrap (((xs.length : Nat) : Int) - ((ys.length : Nat) : Int)) = ((xs.length - ys.length : Nat) : Int) := by rw [ AW (by omega) (by omega)]; omega
    have e4 :           R.wrap (((xs.length - ys.length : Nat) : Int) + 1) = ((xs.length - ys.length + 1 : Nat) : Int) := by rw [ AW (by omega) (by omega)]; omega
    have hlv : vs.length = ys.length := by omega
    have hvv2 : ws.take ys.length = vs := by rw [hm]; exact hvv
    have v1 :=       AA hvu (m + 1)
    have v2 :=       AA hvu m
    refine ⟨qs, (        Ao (m + 2)).map (  Cy us' s), l5,        Mv (fun i => (     NE l3 hs i).2.2.2), by omega, by simp; omega, hd.1.symm, by rw [hrs]; exact hd.2.symm, ?_⟩
    have hl11 :     W       I (.loop        Mj) (       GZ us.length us vs (vs.length : Nat) (vs.getD (m + 1) 0) (vs.getD m 0) (xs.length - ys.length + 1) (            Aq (xs.length - ys.length + 1) 0) (s : Nat) ((xs.length - ys.length : Nat) : Int)) (.exit 0) (       GZ us.length us' vs (vs.length : Nat) (vs.getD (m + 1) 0) (vs.getD m 0) (xs.length - ys.length + 1) qs (s : Nat) (-1)) := by
      rw [u1]
      refine l1.to ?_ rfl
      congr 1
      omega
    have h :=            jU xs ys us ws us' vs qs ((        Ao (m + 2)).map (  Cy us' s)) _ (s : Nat) (vs.length : Nat) (vs.getD (m + 1) 0) (vs.getD m 0) (-1) us.length (xs.length - ys.length + 1) (m + 2) hcm (by rw [hm, beq_eq_false_iff_ne]; omega) hcmp (by rw [e1]; omega) (by rw [e1,                 F]; exact hlz) (by omega) (by rw [                F]; exact ⟨by omega, by omega,          Am _, fun _ => rfl⟩) hus hws (by rw [e3, e4]; omega) (by rw [e1,                 F]; omega) (by rw [e2,                 F]; omega)
      (by
        rw [e1, e2, e3, e4,                 F,                 F,                 F,                 F,       EO,       X7,             EP,           Ls, hvv2,   Cx (n := vs.getD (m + 1) 0) (by omega),   Cx (n := vs.getD m 0) (by omega)]
        unfold        GZ at hl11 |-
        unfold sL at hl11 |-; rw [hlv] at hl11 |-
        exact hl11)
      (by omega) (by
        rw [hvl,                 F,       EO, u1]
        exact l8)
    rw [show qs.length = xs.length - ys.length + 1 from l4, show ((        Ao (m + 2)).map (  Cy us' s)).length = m + 2 by simp]
    exact h
def TQD:Cp:=TQC
theorem kF:B_ I TQD:=kB
def Do(neg:Bool)(xs:List Int)(sh:Int)(ms:List Int)(lost:Bool)(i:Int):Ak:=(Q 1 (.val (.int .i64 sh)::(.box [.bool neg,sL lm xs]::(Q 1 (.box [.bool false,.sl 0 []]::(.val (sL lm ms)::(.own 1 0 []::(.val (.bool lost)::(.val (.int .i64 i)::(Q 95 []))))))))))
theorem wT(neg:Bool)(xs:List Int)(sh:Int)(ms:List Int)(lost:Bool)(i:Int)(c1:B (i<(ms.length:Int))=true)(c2:B (i<(D R (o sh 32)))=true)(c3:(lost)=true):W I Ga (Do neg xs sh ms lost i) .norm (Do neg xs sh ms true (D R (i+1))):=(C h 400 [.b true,.b true,.b true] [1,2,4,5,6,7,8] (L c1 (L E3 (L c2 (L c3 a0)))))
theorem wU(neg:Bool)(xs:List Int)(sh:Int)(ms:List Int)(lost:Bool)(i:Int)(c1:B (i<(ms.length:Int))=true)(c2:B (i<(D R (o sh 32)))=true)(c3:(lost)=false)(n1:0<=i/\i<(ms.length:Int)):W I Ga (Do neg xs sh ms lost i) .norm (Do neg xs sh ms ((ms.getD (A i) 0) != 0) (D R (i+1))):=(C h 400 [.b true,.b true,.b false,.v (.int .u32 (ms.getD (A i) 0))] [1,2,4,5,6,7,8] (L c1 (L E3 (L c2 (L c3 (L n1 (L (y n1) a0)))))))
theorem wV(neg:Bool)(xs:List Int)(sh:Int)(ms:List Int)(lost:Bool)(i:Int)(c1:B (i<(ms.length:Int))=true)(c2:B (i<(D R (o sh 32)))=false):W I Ga (Do neg xs sh ms lost i) (.exit 0) (Do neg xs sh ms lost i):=(C h 400 [.b true,.b false] [1,2,4,5,6,7,8] (L c1 (L E3 (L c2 a0))))
theorem wW(neg:Bool)(xs:List Int)(sh:Int)(ms:List Int)(lost:Bool)(i:Int)(c1:B (i<(ms.length:Int))=false):W I Ga (Do neg xs sh ms lost i) (.exit 0) (Do neg xs sh ms lost i):=(C h 400 [.b false,.b false] [1,2,4,5,6,7,8] (L c1 (L Ff a0)))
def Dd(neg:Bool)(xs:List Int)(sh:Int)(ms:List Int)(n:Nat)(cs:List AV)(lost:Bool)(s:Int)(i:Int):Ak:=(Q 1 (.val (.int .i64 sh)::(.box [.bool neg,sL lm xs]::(Q 1 (.box [.bool false,.sl 0 []]::(.val (sL lm ms)::(.own 1 n cs::(.val (.bool lost)::(Q 1 (.val (.int .u64 s)::(.val (.int .i64 i)::(Q 93 []))))))))))))
theorem wX(neg:Bool)(xs:List Int)(sh:Int)(ms:List Int)(n:Nat)(cs:List AV)(lost:Bool)(s:Int)(i:Int)(c1:B (i<(ms.length:Int))=true)(c2:B ((D R (i+1))<(ms.length:Int))=true)(n1:0<=i/\i<(ms.length:Int))(n2:0<=(D R (i+1))/\(D R (i+1))<(ms.length:Int))(n3:¬ s<0)(n4:n+1<=35184372088832):W I FD (Dd neg xs sh ms n cs lost s i) .norm (Dd neg xs sh ms (n+1) (cs++([.int .u32 (D A4 (d (D U ((T (Aj .u64) (D U (ms.getD (A i) 0)) ||| T (Aj .u64) (D U ((D U (ms.getD (A (D R (i+1))) 0))*2^(min (A 32) (Aj .u64))))).toNat)) (2^(min (A s) (Aj .u64)))))]:List AV)) lost s (D R (i+1))):=(C h 400 [.b true,.v (.int .u32 (ms.getD (A i) 0)),.b true,.v (.int .u32 (ms.getD (A (D R (i+1))) 0))] [1,2,4,5,6,7,9,10] (L c1 (L n1 (L (y n1) (L c2 (L n2 (L (y n2) (L HE (L n3 (L (show Bj ([.int .u32 (D A4 (d (D U ((T (Aj .u64) (D U (ms.getD (A i) 0)) ||| T (Aj .u64) (D U ((D U (ms.getD (A (D R (i+1))) 0))*2^(min (A 32) (Aj .u64))))).toNat)) (2^(min (A s) (Aj .u64)))))]:List AV)=1*1 from rfl) (L n4 a0)))))))))))
theorem wY(neg:Bool)(xs:List Int)(sh:Int)(ms:List Int)(n:Nat)(cs:List AV)(lost:Bool)(s:Int)(i:Int)(c1:B (i<(ms.length:Int))=true)(c2:B ((D R (i+1))<(ms.length:Int))=false)(n1:0<=i/\i<(ms.length:Int))(n2:¬ s<0)(n3:n+1<=35184372088832):W I FD (Dd neg xs sh ms n cs lost s i) .norm (Dd neg xs sh ms (n+1) (cs++([.int .u32 (D A4 (d (D U (ms.getD (A i) 0)) (2^(min (A s) (Aj .u64)))))]:List AV)) lost s (D R (i+1))):=(C h 400 [.b true,.v (.int .u32 (ms.getD (A i) 0)),.b false] [1,2,4,5,6,7,9,10] (L c1 (L n1 (L (y n1) (L c2 (L n2 (L (show Bj ([.int .u32 (D A4 (d (D U (ms.getD (A i) 0)) (2^(min (A s) (Aj .u64)))))]:List AV)=1*1 from rfl) (L n3 a0))))))))
theorem XF(neg:Bool)(xs:List Int)(sh:Int)(ms:List Int)(n:Nat)(cs:List AV)(lost:Bool)(s:Int)(i:Int)(c1:B (i<(ms.length:Int))=false):W I FD (Dd neg xs sh ms n cs lost s i) (.exit 2) (Dd neg xs sh ms n cs lost s i):=(C h 400 [.b false] [1,2,4,5,6,7,9,10] (L c1 a0))
theorem kG(neg lost:Bool)(xs:List Int)(sh i1:Int)(n:Nat)(cs:List AV)(i2 v w:Int)(c1:(B ((D R (o sh 32))<(((Y xs).length:Nat):Int)))=true)(c2:(lost)=true)(c3:(neg)=true)(n1:H I 99 [sL lm xs] (.fresh 1 ((Y xs).length) (lm (Y xs))))(hl2:W I (.loop Ga) (Do neg xs sh (Y xs) false 0) (.exit 0) (Do neg xs sh (Y xs) lost i1))(hl3:W I (.loop FD) (Dd neg xs sh (Y xs) 0 ([]:List AV) lost (D U (f sh 32)) (D R (o sh 32))) (.exit 2) (Dd neg xs sh (Y xs) n cs lost (D U (f sh 32)) i2))(n4:H I 98 [.bool neg,.sl n cs] (C8 v))(n5:H I 49 [.int .i64 1] (Ab 1))(n6:H I 129 [Ab v,Ab 1] (Ab w)):H I 128 [.agg [.bool neg,sL lm xs],.int .i64 sh] (Ab w):=p (fn:=Jc) (s:=(Q 4 (.box [.bool (B (w<0)),.sl ((G (E w)).length) (lm (G (E w)))]::(Q 99 [])))) (ex := .ret) rfl rfl (P (P (P (Ar (W.seq (C h 400 [.r (.fresh 1 ((Y xs).length) (lm (Y xs)))] [1,2,4,5,6,7,8] (L n1 a0)) (W.seq (W.block hl2) (Ar (W.seq (C h 400 [] [1,2,4,5,6,7,9,10] (L E3 (L E3 a0))) (W.seq (W.block hl3) (C h 400 [.b true,.b true,.r (C8 v),.b true,.b true,.r (Ab 1),.r (Ab w)] [4] (L E3 (L c1 (L c2 (L n4 (L c3 (L G0 (L n5 (L n6 a0)))))))))))))))))) (by nofun) rfl
theorem kH(neg lost:Bool)(xs:List Int)(sh i1:Int)(n:Nat)(cs:List AV)(i2 v:Int)(c1:(B ((D R (o sh 32))<(((Y xs).length:Nat):Int)))=true)(c2:(lost)=true)(c3:(neg)=false)(n1:H I 99 [sL lm xs] (.fresh 1 ((Y xs).length) (lm (Y xs))))(hl2:W I (.loop Ga) (Do neg xs sh (Y xs) false 0) (.exit 0) (Do neg xs sh (Y xs) lost i1))(hl3:W I (.loop FD) (Dd neg xs sh (Y xs) 0 ([]:List AV) lost (D U (f sh 32)) (D R (o sh 32))) (.exit 2) (Dd neg xs sh (Y xs) n cs lost (D U (f sh 32)) i2))(n4:H I 98 [.bool neg,.sl n cs] (C8 v)):H I 128 [.agg [.bool neg,sL lm xs],.int .i64 sh] (Ab v):=p (fn:=Jc) (s:=(Q 4 (.box [.bool (B (v<0)),.sl ((G (E v)).length) (lm (G (E v)))]::(Q 99 [])))) (ex := .ret) rfl rfl (P (P (P (Ar (W.seq (C h 400 [.r (.fresh 1 ((Y xs).length) (lm (Y xs)))] [1,2,4,5,6,7,8] (L n1 a0)) (W.seq (W.block hl2) (Ar (W.seq (C h 400 [] [1,2,4,5,6,7,9,10] (L E3 (L E3 a0))) (W.seq (W.block hl3) (C h 400 [.b true,.b true,.r (C8 v),.b false,.b false] [4] (L E3 (L c1 (L c2 (L n4 (L c3 (L Ff a0)))))))))))))))) (by nofun) rfl
theorem kI(neg lost:Bool)(xs:List Int)(sh i1:Int)(n:Nat)(cs:List AV)(i2 v w:Int)(c1:(B ((D R (o sh 32))<(((Y xs).length:Nat):Int)))=true)(c2:(lost)=false)(c3:(neg)=true)(c4:((D A4 ((T (Aj .u32) ((Y xs).getD (A (D R (o sh 32))) 0) &&& T (Aj .u32) (D A4 ((D A4 (1*2^(min (A (D U (f sh 32))) (Aj .u32))))-1))).toNat)) != 0)=true)(n1:H I 99 [sL lm xs] (.fresh 1 ((Y xs).length) (lm (Y xs))))(hl2:W I (.loop Ga) (Do neg xs sh (Y xs) false 0) (.exit 0) (Do neg xs sh (Y xs) lost i1))(hl3:W I (.loop FD) (Dd neg xs sh (Y xs) 0 ([]:List AV) lost (D U (f sh 32)) (D R (o sh 32))) (.exit 2) (Dd neg xs sh (Y xs) n cs lost (D U (f sh 32)) i2))(n4:0<=(D R (o sh 32))/\(D R (o sh 32))<(((Y xs).length:Nat):Int))(n5:¬ (D U (f sh 32))<0)(n6:H I 98 [.bool neg,.sl n cs] (C8 v))(n7:H I 49 [.int .i64 1] (Ab 1))(n8:H I 129 [Ab v,Ab 1] (Ab w)):H I 128 [.agg [.bool neg,sL lm xs],.int .i64 sh] (Ab w):=p (fn:=Jc) (s:=(Q 4 (.box [.bool (B (w<0)),.sl ((G (E w)).length) (lm (G (E w)))]::(Q 99 [])))) (ex := .ret) rfl rfl (P (P (P (Ar (W.seq (C h 400 [.r (.fresh 1 ((Y xs).length) (lm (Y xs)))] [1,2,4,5,6,7,8] (L n1 a0)) (W.seq (W.block hl2) (Ar (W.seq (C h 400 [] [1,2,4,5,6,7,9,10] (L E3 (L E3 a0))) (W.seq (W.block hl3) (C h 400 [.b true,.b false,.v (.int .u32 ((Y xs).getD (A (D R (o sh 32))) 0)),.r (C8 v),.b true,.b true,.r (Ab 1),.r (Ab w)] [4] (L E3 (L c1 (L c2 (L E3 (L n4 (L (y n4) (L n5 (L n6 (L c3 (L c4 (L n7 (L n8 a0)))))))))))))))))))))) (by nofun) rfl
theorem kJ(neg lost:Bool)(xs:List Int)(sh i1:Int)(n:Nat)(cs:List AV)(i2 v:Int)(c1:(B ((D R (o sh 32))<(((Y xs).length:Nat):Int)))=true)(c2:(lost)=false)(c3:(neg)=true)(c4:((D A4 ((T (Aj .u32) ((Y xs).getD (A (D R (o sh 32))) 0) &&& T (Aj .u32) (D A4 ((D A4 (1*2^(min (A (D U (f sh 32))) (Aj .u32))))-1))).toNat)) != 0)=false)(n1:H I 99 [sL lm xs] (.fresh 1 ((Y xs).length) (lm (Y xs))))(hl2:W I (.loop Ga) (Do neg xs sh (Y xs) false 0) (.exit 0) (Do neg xs sh (Y xs) lost i1))(hl3:W I (.loop FD) (Dd neg xs sh (Y xs) 0 ([]:List AV) lost (D U (f sh 32)) (D R (o sh 32))) (.exit 2) (Dd neg xs sh (Y xs) n cs lost (D U (f sh 32)) i2))(n4:0<=(D R (o sh 32))/\(D R (o sh 32))<(((Y xs).length:Nat):Int))(n5:¬ (D U (f sh 32))<0)(n6:H I 98 [.bool neg,.sl n cs] (C8 v)):H I 128 [.agg [.bool neg,sL lm xs],.int .i64 sh] (Ab v):=p (fn:=Jc) (s:=(Q 4 (.box [.bool (B (v<0)),.sl ((G (E v)).length) (lm (G (E v)))]::(Q 99 [])))) (ex := .ret) rfl rfl (P (P (P (Ar (W.seq (C h 400 [.r (.fresh 1 ((Y xs).length) (lm (Y xs)))] [1,2,4,5,6,7,8] (L n1 a0)) (W.seq (W.block hl2) (Ar (W.seq (C h 400 [] [1,2,4,5,6,7,9,10] (L E3 (L E3 a0))) (W.seq (W.block hl3) (C h 400 [.b true,.b false,.v (.int .u32 ((Y xs).getD (A (D R (o sh 32))) 0)),.r (C8 v),.b true,.b false] [4] (L E3 (L c1 (L c2 (L E3 (L n4 (L (y n4) (L n5 (L n6 (L c3 (L c4 a0)))))))))))))))))))) (by nofun) rfl
theorem kK(neg lost:Bool)(xs:List Int)(sh i1:Int)(n:Nat)(cs:List AV)(i2 v:Int)(c1:(B ((D R (o sh 32))<(((Y xs).length:Nat):Int)))=true)(c2:(lost)=false)(c3:(neg)=false)(n1:H I 99 [sL lm xs] (.fresh 1 ((Y xs).length) (lm (Y xs))))(hl2:W I (.loop Ga) (Do neg xs sh (Y xs) false 0) (.exit 0) (Do neg xs sh (Y xs) lost i1))(hl3:W I (.loop FD) (Dd neg xs sh (Y xs) 0 ([]:List AV) lost (D U (f sh 32)) (D R (o sh 32))) (.exit 2) (Dd neg xs sh (Y xs) n cs lost (D U (f sh 32)) i2))(n4:0<=(D R (o sh 32))/\(D R (o sh 32))<(((Y xs).length:Nat):Int))(n5:¬ (D U (f sh 32))<0)(n6:H I 98 [.bool neg,.sl n cs] (C8 v)):H I 128 [.agg [.bool neg,sL lm xs],.int .i64 sh] (Ab v):=p (fn:=Jc) (s:=(Q 4 (.box [.bool (B (v<0)),.sl ((G (E v)).length) (lm (G (E v)))]::(Q 99 [])))) (ex := .ret) rfl rfl (P (P (P (Ar (W.seq (C h 400 [.r (.fresh 1 ((Y xs).length) (lm (Y xs)))] [1,2,4,5,6,7,8] (L n1 a0)) (W.seq (W.block hl2) (Ar (W.seq (C h 400 [] [1,2,4,5,6,7,9,10] (L E3 (L E3 a0))) (W.seq (W.block hl3) (C h 400 [.b true,.b false,.v (.int .u32 ((Y xs).getD (A (D R (o sh 32))) 0)),.r (C8 v),.b false,.b false] [4] (L E3 (L c1 (L c2 (L E3 (L n4 (L (y n4) (L n5 (L n6 (L c3 (L Ff a0)))))))))))))))))))) (by nofun) rfl
theorem kL(neg lost:Bool)(xs:List Int)(sh i1:Int)(n:Nat)(cs:List AV)(i2 v w:Int)(c1:(B ((D R (o sh 32))<(((Y xs).length:Nat):Int)))=false)(c2:(neg)=true)(c3:(lost)=true)(n1:H I 99 [sL lm xs] (.fresh 1 ((Y xs).length) (lm (Y xs))))(hl2:W I (.loop Ga) (Do neg xs sh (Y xs) false 0) (.exit 0) (Do neg xs sh (Y xs) lost i1))(hl3:W I (.loop FD) (Dd neg xs sh (Y xs) 0 ([]:List AV) lost (D U (f sh 32)) (D R (o sh 32))) (.exit 2) (Dd neg xs sh (Y xs) n cs lost (D U (f sh 32)) i2))(n4:H I 98 [.bool neg,.sl n cs] (C8 v))(n5:H I 49 [.int .i64 1] (Ab 1))(n6:H I 129 [Ab v,Ab 1] (Ab w)):H I 128 [.agg [.bool neg,sL lm xs],.int .i64 sh] (Ab w):=p (fn:=Jc) (s:=(Q 4 (.box [.bool (B (w<0)),.sl ((G (E w)).length) (lm (G (E w)))]::(Q 99 [])))) (ex := .ret) rfl rfl (P (P (P (Ar (W.seq (C h 400 [.r (.fresh 1 ((Y xs).length) (lm (Y xs)))] [1,2,4,5,6,7,8] (L n1 a0)) (W.seq (W.block hl2) (Ar (W.seq (C h 400 [] [1,2,4,5,6,7,9,10] (L E3 (L E3 a0))) (W.seq (W.block hl3) (C h 400 [.b false,.r (C8 v),.b true,.b true,.r (Ab 1),.r (Ab w)] [4] (L E3 (L c1 (L n4 (L c2 (L c3 (L n5 (L n6 a0))))))))))))))))) (by nofun) rfl
theorem kM(neg lost:Bool)(xs:List Int)(sh i1:Int)(n:Nat)(cs:List AV)(i2 v:Int)(c1:(B ((D R (o sh 32))<(((Y xs).length:Nat):Int)))=false)(c2:(neg)=true)(c3:(lost)=false)(n1:H I 99 [sL lm xs] (.fresh 1 ((Y xs).length) (lm (Y xs))))(hl2:W I (.loop Ga) (Do neg xs sh (Y xs) false 0) (.exit 0) (Do neg xs sh (Y xs) lost i1))(hl3:W I (.loop FD) (Dd neg xs sh (Y xs) 0 ([]:List AV) lost (D U (f sh 32)) (D R (o sh 32))) (.exit 2) (Dd neg xs sh (Y xs) n cs lost (D U (f sh 32)) i2))(n4:H I 98 [.bool neg,.sl n cs] (C8 v)):H I 128 [.agg [.bool neg,sL lm xs],.int .i64 sh] (Ab v):=p (fn:=Jc) (s:=(Q 4 (.box [.bool (B (v<0)),.sl ((G (E v)).length) (lm (G (E v)))]::(Q 99 [])))) (ex := .ret) rfl rfl (P (P (P (Ar (W.seq (C h 400 [.r (.fresh 1 ((Y xs).length) (lm (Y xs)))] [1,2,4,5,6,7,8] (L n1 a0)) (W.seq (W.block hl2) (Ar (W.seq (C h 400 [] [1,2,4,5,6,7,9,10] (L E3 (L E3 a0))) (W.seq (W.block hl3) (C h 400 [.b false,.r (C8 v),.b true,.b false] [4] (L E3 (L c1 (L n4 (L c2 (L c3 a0))))))))))))))) (by nofun) rfl
theorem kN(neg lost:Bool)(xs:List Int)(sh i1:Int)(n:Nat)(cs:List AV)(i2 v:Int)(c1:(B ((D R (o sh 32))<(((Y xs).length:Nat):Int)))=false)(c2:(neg)=false)(n1:H I 99 [sL lm xs] (.fresh 1 ((Y xs).length) (lm (Y xs))))(hl2:W I (.loop Ga) (Do neg xs sh (Y xs) false 0) (.exit 0) (Do neg xs sh (Y xs) lost i1))(hl3:W I (.loop FD) (Dd neg xs sh (Y xs) 0 ([]:List AV) lost (D U (f sh 32)) (D R (o sh 32))) (.exit 2) (Dd neg xs sh (Y xs) n cs lost (D U (f sh 32)) i2))(n4:H I 98 [.bool neg,.sl n cs] (C8 v)):H I 128 [.agg [.bool neg,sL lm xs],.int .i64 sh] (Ab v):=p (fn:=Jc) (s:=(Q 4 (.box [.bool (B (v<0)),.sl ((G (E v)).length) (lm (G (E v)))]::(Q 99 [])))) (ex := .ret) rfl rfl (P (P (P (Ar (W.seq (C h 400 [.r (.fresh 1 ((Y xs).length) (lm (Y xs)))] [1,2,4,5,6,7,8] (L n1 a0)) (W.seq (W.block hl2) (Ar (W.seq (C h 400 [] [1,2,4,5,6,7,9,10] (L E3 (L E3 a0))) (W.seq (W.block hl3) (C h 400 [.b false,.r (C8 v),.b false,.b false] [4] (L E3 (L c1 (L n4 (L c2 (L Ff a0))))))))))))))) (by nofun) rfl
def Mw(xs:List Int)(ys:List Int)(k:Nat)(qs:List Int)(r:Int)(i:Int):Ak:=(.val (sL lm xs)::(.val (sL lm ys)::(Q 2 (.own 1 0 []::(.own 1 0 []::(.own 1 k (lm qs)::(.val (.int .u64 r)::(.val (.int .i64 i)::(Q 298 [])))))))))
theorem wZ(xs:List Int)(ys:List Int)(k:Nat)(qs:List Int)(r:Int)(i:Int)(c1:B (i>=0)=true)(n1:0<=i/\i<(xs.length:Int))(n2:0<=(0:Int)/\(0:Int)<(ys.length:Int))(n3:¬ (D U (ys.getD (A 0) 0))=0)(n4:0<=i/\i<(k:Int))(n5:qs.length=k):W I Qz (Mw xs ys k qs r i) .norm (Mw xs ys k (qs.set (A i) (D A4 (D U (o (D U ((T (Aj .u64) (D U (r*2^(min (A 32) (Aj .u64)))) ||| T (Aj .u64) (D U (xs.getD (A i) 0))).toNat)) (D U (ys.getD (A 0) 0)))))) (f (D U ((T (Aj .u64) (D U (r*2^(min (A 32) (Aj .u64)))) ||| T (Aj .u64) (D U (xs.getD (A i) 0))).toNat)) (D U (ys.getD (A 0) 0))) (D R (i-1))):=(C h 400 [.b true,.v (.int .u32 (xs.getD (A i) 0)),.v (.int .u32 (ys.getD (A 0) 0)),.l (lm (qs.set (A i) (D A4 (D U (o (D U ((T (Aj .u64) (D U (r*2^(min (A 32) (Aj .u64)))) ||| T (Aj .u64) (D U (xs.getD (A i) 0))).toNat)) (D U (ys.getD (A 0) 0))))))),.v (.int .u32 (ys.getD (A 0) 0))] [0,1,4,5,6,7,8] (L c1 (L HE (L n1 (L (y n1) (L n2 (L (y n2) (L n3 (L n4 (L (show Cv (lm qs) (A i*1) [.int .u32 (D A4 (D U (o (D U ((T (Aj .u64) (D U (r*2^(min (A 32) (Aj .u64)))) ||| T (Aj .u64) (D U (xs.getD (A i) 0))).toNat)) (D U (ys.getD (A 0) 0)))))]=some (lm (qs.set (A i) (D A4 (D U (o (D U ((T (Aj .u64) (D U (r*2^(min (A 32) (Aj .u64)))) ||| T (Aj .u64) (D U (xs.getD (A i) 0))).toNat)) (D U (ys.getD (A 0) 0))))))) from (CS n5 n4)) (L n2 (L (y n2) (L n3 a0)))))))))))))
theorem xA(xs:List Int)(ys:List Int)(k:Nat)(qs:List Int)(r:Int)(i:Int)(c1:B (i>=0)=false):W I Qz (Mw xs ys k qs r i) (.exit 0) (Mw xs ys k qs r i):=(C h 400 [.b false] [0,1,4,5,6,7,8] (L c1 a0))
def KG(xs:List Int)(ys:List Int)(s:Int):Ak:=(.val (sL lm xs)::(.val (sL lm ys)::(Q 2 (.own 1 0 []::(.own 1 0 []::(Q 3 (.val (.int .i64 s)::(Q 297 []))))))))
theorem xB(xs:List Int)(ys:List Int)(s:Int)(c1:((D A4 ((T (Aj .u32) (D A4 ((ys.getD (A (D R ((ys.length:Int)-1))) 0)*2^(min (A (D U s)) (Aj .u32)))) &&& T (Aj .u32) 2147483648).toNat))==0)=true)(n1:0<=(D R ((ys.length:Int)-1))/\(D R ((ys.length:Int)-1))<(ys.length:Int))(n2:¬ (D U s)<0):W I Qy (KG xs ys s) .norm (KG xs ys (D R (s+1))):=(C h 400 [.v (.int .u32 (ys.getD (A (D R ((ys.length:Int)-1))) 0)),.b true] [0,1,4,5,9] (L n1 (L (y n1) (L n2 (L c1 a0)))))
theorem xC(xs:List Int)(ys:List Int)(s:Int)(c1:((D A4 ((T (Aj .u32) (D A4 ((ys.getD (A (D R ((ys.length:Int)-1))) 0)*2^(min (A (D U s)) (Aj .u32)))) &&& T (Aj .u32) 2147483648).toNat))==0)=false)(n1:0<=(D R ((ys.length:Int)-1))/\(D R ((ys.length:Int)-1))<(ys.length:Int))(n2:¬ (D U s)<0):W I Qy (KG xs ys s) (.exit 2) (KG xs ys s):=(C h 400 [.v (.int .u32 (ys.getD (A (D R ((ys.length:Int)-1))) 0)),.b false] [0,1,4,5,9] (L n1 (L (y n1) (L n2 (L c1 a0)))))
def Ek(k:Nat)(us:List Int)(vs:List Int)(n:Int)(kq:Nat)(qs:List Int)(s:Int)(j:Int)(g:Int)(r:Int):Ak:=(Q 4 (.own 1 0 []::(.own 1 0 []::(Q 3 (.val (.int .i64 s)::(.val (sL lm vs)::(.own 1 k (lm us)::(.val (.int .i64 n)::(.own 1 kq (lm qs)::(.val (.int .i64 j)::(Q 1 (.val (.int .u64 g)::(.val (.int .u64 r)::(Q 289 []))))))))))))))
theorem xD(k:Nat)(us:List Int)(vs:List Int)(n:Int)(kq:Nat)(qs:List Int)(s:Int)(j:Int)(g:Int)(r:Int)(c1:B (g>=4294967296)=true)(c2:(B ((D U (r+(D U (vs.getD (A (D R (n-1))) 0))))>=4294967296))=true)(n1:0<=(D R (n-1))/\(D R (n-1))<(vs.length:Int)):W I Hr (Ek k us vs n kq qs s j g r) (.exit 6) (Ek k us vs n kq qs s j (D U (g-1)) (D U (r+(D U (vs.getD (A (D R (n-1))) 0))))):=(C h 400 [.b true,.b true,.v (.int .u32 (vs.getD (A (D R (n-1))) 0)),.b true] [4,5,9,10,11,12,13,14,16,17] (L c1 (L G0 (L n1 (L (y n1) (L c2 a0))))))
theorem xE(k:Nat)(us:List Int)(vs:List Int)(n:Int)(kq:Nat)(qs:List Int)(s:Int)(j:Int)(g:Int)(r:Int)(c1:B (g>=4294967296)=true)(c2:(B ((D U (r+(D U (vs.getD (A (D R (n-1))) 0))))>=4294967296))=false)(n1:0<=(D R (n-1))/\(D R (n-1))<(vs.length:Int)):W I Hr (Ek k us vs n kq qs s j g r) .norm (Ek k us vs n kq qs s j (D U (g-1)) (D U (r+(D U (vs.getD (A (D R (n-1))) 0))))):=(C h 400 [.b true,.b true,.v (.int .u32 (vs.getD (A (D R (n-1))) 0)),.b false] [4,5,9,10,11,12,13,14,16,17] (L c1 (L G0 (L n1 (L (y n1) (L c2 a0))))))
theorem xF(k:Nat)(us:List Int)(vs:List Int)(n:Int)(kq:Nat)(qs:List Int)(s:Int)(j:Int)(g:Int)(r:Int)(c1:B (g>=4294967296)=false)(c2:B (r<4294967296)=true)(c3:(B ((D U (g*(D U (vs.getD (A (D R (n-2))) 0))))>(D U ((T (Aj .u64) (D U (r*2^(min (A 32) (Aj .u64)))) ||| T (Aj .u64) (D U (us.getD (A (D R ((D R (j+n))-2))) 0))).toNat))))=true)(c4:(B ((D U (r+(D U (vs.getD (A (D R (n-1))) 0))))>=4294967296))=true)(n1:0<=(D R (n-2))/\(D R (n-2))<(vs.length:Int))(n2:0<=(D R ((D R (j+n))-2))/\(D R ((D R (j+n))-2))<(k:Int))(n3:us.length=k)(n4:0<=(D R (n-1))/\(D R (n-1))<(vs.length:Int)):W I Hr (Ek k us vs n kq qs s j g r) (.exit 6) (Ek k us vs n kq qs s j (D U (g-1)) (D U (r+(D U (vs.getD (A (D R (n-1))) 0))))):=(C h 400 [.b false,.b true,.v (.int .u32 (vs.getD (A (D R (n-2))) 0)),.v (.int .u32 (us.getD (A (D R ((D R (j+n))-2))) 0)),.b false,.b true,.b true,.v (.int .u32 (vs.getD (A (D R (n-1))) 0)),.b true] [4,5,9,10,11,12,13,14,16,17] (L c1 (L c2 (L n1 (L (y n1) (L HE (L n2 (L (Ca n3 n2) (L c1 (L c2 (L c3 (L n4 (L (y n4) (L c4 a0))))))))))))))
theorem xG(k:Nat)(us:List Int)(vs:List Int)(n:Int)(kq:Nat)(qs:List Int)(s:Int)(j:Int)(g:Int)(r:Int)(c1:B (g>=4294967296)=false)(c2:B (r<4294967296)=true)(c3:(B ((D U (g*(D U (vs.getD (A (D R (n-2))) 0))))>(D U ((T (Aj .u64) (D U (r*2^(min (A 32) (Aj .u64)))) ||| T (Aj .u64) (D U (us.getD (A (D R ((D R (j+n))-2))) 0))).toNat))))=true)(c4:(B ((D U (r+(D U (vs.getD (A (D R (n-1))) 0))))>=4294967296))=false)(n1:0<=(D R (n-2))/\(D R (n-2))<(vs.length:Int))(n2:0<=(D R ((D R (j+n))-2))/\(D R ((D R (j+n))-2))<(k:Int))(n3:us.length=k)(n4:0<=(D R (n-1))/\(D R (n-1))<(vs.length:Int)):W I Hr (Ek k us vs n kq qs s j g r) .norm (Ek k us vs n kq qs s j (D U (g-1)) (D U (r+(D U (vs.getD (A (D R (n-1))) 0))))):=(C h 400 [.b false,.b true,.v (.int .u32 (vs.getD (A (D R (n-2))) 0)),.v (.int .u32 (us.getD (A (D R ((D R (j+n))-2))) 0)),.b false,.b true,.b true,.v (.int .u32 (vs.getD (A (D R (n-1))) 0)),.b false] [4,5,9,10,11,12,13,14,16,17] (L c1 (L c2 (L n1 (L (y n1) (L HE (L n2 (L (Ca n3 n2) (L c1 (L c2 (L c3 (L n4 (L (y n4) (L c4 a0))))))))))))))
theorem XG(k:Nat)(us:List Int)(vs:List Int)(n:Int)(kq:Nat)(qs:List Int)(s:Int)(j:Int)(g:Int)(r:Int)(c1:B (g>=4294967296)=false)(c2:B (r<4294967296)=true)(c3:(B ((D U (g*(D U (vs.getD (A (D R (n-2))) 0))))>(D U ((T (Aj .u64) (D U (r*2^(min (A 32) (Aj .u64)))) ||| T (Aj .u64) (D U (us.getD (A (D R ((D R (j+n))-2))) 0))).toNat))))=false)(n1:0<=(D R (n-2))/\(D R (n-2))<(vs.length:Int))(n2:0<=(D R ((D R (j+n))-2))/\(D R ((D R (j+n))-2))<(k:Int))(n3:us.length=k):W I Hr (Ek k us vs n kq qs s j g r) (.exit 6) (Ek k us vs n kq qs s j g r):=(C h 400 [.b false,.b true,.v (.int .u32 (vs.getD (A (D R (n-2))) 0)),.v (.int .u32 (us.getD (A (D R ((D R (j+n))-2))) 0)),.b false,.b true,.b false] [4,5,9,10,11,12,13,14,16,17] (L c1 (L c2 (L n1 (L (y n1) (L HE (L n2 (L (Ca n3 n2) (L c1 (L c2 (L c3 a0)))))))))))
def IB(k:Nat)(us:List Int)(vs:List Int)(n:Int)(kq:Nat)(qs:List Int)(s:Int)(j:Int)(g:Int)(b:Int)(c:Int)(i:Int):Ak:=(Q 4 (.own 1 0 []::(.own 1 0 []::(Q 3 (.val (.int .i64 s)::(.val (sL lm vs)::(.own 1 k (lm us)::(.val (.int .i64 n)::(.own 1 kq (lm qs)::(.val (.int .i64 j)::(Q 1 (.val (.int .u64 g)::(Q 1 (.val (.int .u64 b)::(.val (.int .u64 c)::(.val (.int .i64 i)::(Q 286 [])))))))))))))))))
theorem xH(k:Nat)(us:List Int)(vs:List Int)(n:Int)(kq:Nat)(qs:List Int)(s:Int)(j:Int)(g:Int)(b:Int)(c:Int)(i:Int)(c1:B (i<n)=true)(n1:0<=i/\i<(vs.length:Int))(n2:0<=(D R (i+j))/\(D R (i+j))<(k:Int))(n3:us.length=k):W I Ou (IB k us vs n kq qs s j g b c i) .norm (IB k (us.set (A (D R (i+j))) (D A4 (D U ((D U ((D U (us.getD (A (D R (i+j))) 0))-(D U ((T (Aj .u64) (D U (c+(D U (g*(D U (vs.getD (A i) 0)))))) &&& T (Aj .u64) 4294967295).toNat))))-b)))) vs n kq qs s j g (d (D U ((D U ((D U (us.getD (A (D R (i+j))) 0))-(D U ((T (Aj .u64) (D U (c+(D U (g*(D U (vs.getD (A i) 0)))))) &&& T (Aj .u64) 4294967295).toNat))))-b)) (2^(min (A 63) (Aj .u64)))) (d (D U (c+(D U (g*(D U (vs.getD (A i) 0)))))) (2^(min (A 32) (Aj .u64)))) (D R (i+1))):=(C h 400 [.b true,.v (.int .u32 (vs.getD (A i) 0)),.v (.int .u32 (us.getD (A (D R (i+j))) 0)),.l (lm (us.set (A (D R (i+j))) (D A4 (D U ((D U ((D U (us.getD (A (D R (i+j))) 0))-(D U ((T (Aj .u64) (D U (c+(D U (g*(D U (vs.getD (A i) 0)))))) &&& T (Aj .u64) 4294967295).toNat))))-b)))))] [4,5,9,10,11,12,13,14,16,18,19,20] (L c1 (L n1 (L (y n1) (L n2 (L (Ca n3 n2) (L n2 (L (show Cv (lm us) (A (D R (i+j))*1) [.int .u32 (D A4 (D U ((D U ((D U (us.getD (A (D R (i+j))) 0))-(D U ((T (Aj .u64) (D U (c+(D U (g*(D U (vs.getD (A i) 0)))))) &&& T (Aj .u64) 4294967295).toNat))))-b)))]=some (lm (us.set (A (D R (i+j))) (D A4 (D U ((D U ((D U (us.getD (A (D R (i+j))) 0))-(D U ((T (Aj .u64) (D U (c+(D U (g*(D U (vs.getD (A i) 0)))))) &&& T (Aj .u64) 4294967295).toNat))))-b))))) from (CS n3 n2)) (L W6 (L HE a0))))))))))
theorem xI(k:Nat)(us:List Int)(vs:List Int)(n:Int)(kq:Nat)(qs:List Int)(s:Int)(j:Int)(g:Int)(b:Int)(c:Int)(i:Int)(c1:B (i<n)=false):W I Ou (IB k us vs n kq qs s j g b c i) (.exit 8) (IB k us vs n kq qs s j g b c i):=(C h 400 [.b false] [4,5,9,10,11,12,13,14,16,18,19,20] (L c1 a0))
def KH(k:Nat)(us:List Int)(vs:List Int)(n:Int)(kq:Nat)(qs:List Int)(s:Int)(j:Int)(g:Int)(c:Int)(i:Int):Ak:=(Q 4 (.own 1 0 []::(.own 1 0 []::(Q 3 (.val (.int .i64 s)::(.val (sL lm vs)::(.own 1 k (lm us)::(.val (.int .i64 n)::(.own 1 kq (lm qs)::(.val (.int .i64 j)::(Q 1 (.val (.int .u64 g)::(Q 6 (.val (.int .u64 c)::(.val (.int .i64 i)::(Q 282 []))))))))))))))))
theorem xJ(k:Nat)(us:List Int)(vs:List Int)(n:Int)(kq:Nat)(qs:List Int)(s:Int)(j:Int)(g:Int)(c:Int)(i:Int)(c1:B (i<n)=true)(n1:0<=(D R (i+j))/\(D R (i+j))<(k:Int))(n2:us.length=k)(n3:0<=i/\i<(vs.length:Int)):W I Q5 (KH k us vs n kq qs s j g c i) .norm (KH k (us.set (A (D R (i+j))) (D A4 (D U (c+(D U ((D U (us.getD (A (D R (i+j))) 0))+(D U (vs.getD (A i) 0)))))))) vs n kq qs s j g (d (D U (c+(D U ((D U (us.getD (A (D R (i+j))) 0))+(D U (vs.getD (A i) 0)))))) (2^(min (A 32) (Aj .u64)))) (D R (i+1))):=(C h 400 [.b true,.v (.int .u32 (us.getD (A (D R (i+j))) 0)),.v (.int .u32 (vs.getD (A i) 0)),.l (lm (us.set (A (D R (i+j))) (D A4 (D U (c+(D U ((D U (us.getD (A (D R (i+j))) 0))+(D U (vs.getD (A i) 0)))))))))] [4,5,9,10,11,12,13,14,16,23,24] (L c1 (L n1 (L (Ca n2 n1) (L n3 (L (y n3) (L n1 (L (show Cv (lm us) (A (D R (i+j))*1) [.int .u32 (D A4 (D U (c+(D U ((D U (us.getD (A (D R (i+j))) 0))+(D U (vs.getD (A i) 0)))))))]=some (lm (us.set (A (D R (i+j))) (D A4 (D U (c+(D U ((D U (us.getD (A (D R (i+j))) 0))+(D U (vs.getD (A i) 0))))))))) from (CS n2 n1)) (L HE a0)))))))))
theorem xK(k:Nat)(us:List Int)(vs:List Int)(n:Int)(kq:Nat)(qs:List Int)(s:Int)(j:Int)(g:Int)(c:Int)(i:Int)(c1:B (i<n)=false):W I Q5 (KH k us vs n kq qs s j g c i) (.exit 10) (KH k us vs n kq qs s j g c i):=(C h 400 [.b false] [4,5,9,10,11,12,13,14,16,23,24] (L c1 a0))
def Iu(k:Nat)(us:List Int)(vs:List Int)(n:Int)(kq:Nat)(qs:List Int)(s:Int)(j:Int):Ak:=(Q 4 (.own 1 0 []::(.own 1 0 []::(Q 3 (.val (.int .i64 s)::(.val (sL lm vs)::(.own 1 k (lm us)::(.val (.int .i64 n)::(.own 1 kq (lm qs)::(.val (.int .i64 j)::(Q 292 [])))))))))))
theorem Apb(k:Nat)(us:List Int)(vs:List Int)(n:Int)(kq:Nat)(qs:List Int)(s:Int)(j:Int)(us1 us2:List Int)(g r b c cc:Int)(c1:B (j>=0)=true)(c2:((d (D U ((D U ((D U (us1.getD (A (D R (j+n))) 0))-c))-b)) (2^(min (A 63) (Aj .u64)))) != 0)=true)(n1:0<=(D R (j+n))/\(D R (j+n))<(k:Int))(n2:us.length=k)(n3:0<=(D R ((D R (j+n))-1))/\(D R ((D R (j+n))-1))<(k:Int))(n4:0<=(D R (n-1))/\(D R (n-1))<(vs.length:Int))(n5:¬ (D U (vs.getD (A (D R (n-1))) 0))=0)(hl6:W I (.loop Hr) (Ek k us vs n kq qs s j (D U (o (D U ((T (Aj .u64) (D U ((D U (us.getD (A (D R (j+n))) 0))*2^(min (A 32) (Aj .u64)))) ||| T (Aj .u64) (D U (us.getD (A (D R ((D R (j+n))-1))) 0))).toNat)) (D U (vs.getD (A (D R (n-1))) 0)))) (f (D U ((T (Aj .u64) (D U ((D U (us.getD (A (D R (j+n))) 0))*2^(min (A 32) (Aj .u64)))) ||| T (Aj .u64) (D U (us.getD (A (D R ((D R (j+n))-1))) 0))).toNat)) (D U (vs.getD (A (D R (n-1))) 0)))) (.exit 6) (Ek k us vs n kq qs s j g r))(hl7:W I (.loop Ou) (IB k us vs n kq qs s j g 0 0 0) (.exit 8) (IB k us1 vs n kq qs s j g b c n))(n8:us1.length=k)(hl9:W I (.loop Q5) (KH k (us1.set (A (D R (j+n))) (D A4 (D U ((D U ((D U (us1.getD (A (D R (j+n))) 0))-c))-b)))) vs n kq qs s j (D U (g-1)) 0 0) (.exit 10) (KH k us2 vs n kq qs s j (D U (g-1)) cc n))(n10:us2.length=k)(n11:0<=j/\j<(kq:Int))(n12:qs.length=kq):W I Ny (Iu k us vs n kq qs s j) .norm (Iu k (us2.set (A (D R (j+n))) (D A4 ((us2.getD (A (D R (j+n))) 0)+(D A4 cc)))) vs n kq (qs.set (A j) (D A4 (D U (g-1)))) s (D R (j-1))):=(W.seq (C (t:=(Q 4 (.own 1 0 []::(.own 1 0 []::(Q 3 (vi s::(vl vs::(.own 1 k (lm us)::(vi n::(.own 1 kq (lm qs)::(vi j::(Q 292 [])))))))))))) h 400 [.b true] [4,5,9,10,11,12,13,14] (L c1 a0)) (W.seq (Ci (P (W.seq (C h 400 [.v (.int .u32 (us.getD (A (D R (j+n))) 0)),.v (.int .u32 (us.getD (A (D R ((D R (j+n))-1))) 0)),.v (.int .u32 (vs.getD (A (D R (n-1))) 0)),.v (.int .u32 (vs.getD (A (D R (n-1))) 0))] [4,5,9,10,11,12,13,14,16,17] (L n1 (L (Ca n2 n1) (L HE (L n3 (L (Ca n2 n3) (L n4 (L (y n4) (L n5 (L n4 (L (y n4) (L n5 a0)))))))))))) (W.seq (W.block hl6) (Ar (W.seq (C h 400 [] [4,5,9,10,11,12,13,14,16,18,19,20] a0) (W.seq (W.block hl7) (P (Ar (W.seq (C (t:=(Q 4 (.own 1 0 []::(.own 1 0 []::(Q 3 (vi s::(vl vs::(.own 1 k (lm (us1.set (A (D R (j+n))) (D A4 (D U ((D U ((D U (us1.getD (A (D R (j+n))) 0))-c))-b)))))::(vi n::(.own 1 kq (lm qs)::(vi j::(Q 1 (.val (.int .u64 g)::(Q 236 (.val (.bool ((d (D U ((D U ((D U (us1.getD (A (D R (j+n))) 0))-c))-b)) (2^(min (A 63) (Aj .u64)))) != 0))::(Q 53 [])))))))))))))))) h 400 [.v (.int .u32 (us1.getD (A (D R (j+n))) 0)),.l (lm (us1.set (A (D R (j+n))) (D A4 (D U ((D U ((D U (us1.getD (A (D R (j+n))) 0))-c))-b)))))] [4,5,9,10,11,12,13,14,16,253] (L n1 (L (Ca n8 n1) (L n1 (L (show Cv (lm us1) (A (D R (j+n))*1) [.int .u32 (D A4 (D U ((D U ((D U (us1.getD (A (D R (j+n))) 0))-c))-b)))]=some (lm (us1.set (A (D R (j+n))) (D A4 (D U ((D U ((D U (us1.getD (A (D R (j+n))) 0))-c))-b))))) from (CS n8 n1)) (L W6 a0)))))) (W.seq (I7 (by rfl) c2 (P (Ar (W.seq (C h 400 [] [4,5,9,10,11,12,13,14,16,23,24] a0) (W.seq (W.block hl9) (C (t:=(Q 4 (.own 1 0 []::(.own 1 0 []::(Q 3 (vi s::(vl vs::(.own 1 k (lm (us2.set (A (D R (j+n))) (D A4 ((us2.getD (A (D R (j+n))) 0)+(D A4 cc)))))::(vi n::(.own 1 kq (lm qs)::(vi j::(Q 1 (.val (.int .u64 (D U (g-1)))::(Q 290 [])))))))))))))) h 400 [.v (.int .u32 (us2.getD (A (D R (j+n))) 0)),.l (lm (us2.set (A (D R (j+n))) (D A4 ((us2.getD (A (D R (j+n))) 0)+(D A4 cc)))))] [4,5,9,10,11,12,13,14,16] (L n1 (L (Ca n10 n1) (L n1 (L (show Cv (lm us2) (A (D R (j+n))*1) [.int .u32 (D A4 ((us2.getD (A (D R (j+n))) 0)+(D A4 cc)))]=some (lm (us2.set (A (D R (j+n))) (D A4 ((us2.getD (A (D R (j+n))) 0)+(D A4 cc))))) from (CS n10 n1)) a0)))))))))) (C (t:=(Q 4 (.own 1 0 []::(.own 1 0 []::(Q 3 (vi s::(vl vs::(.own 1 k (lm (us2.set (A (D R (j+n))) (D A4 ((us2.getD (A (D R (j+n))) 0)+(D A4 cc)))))::(vi n::(.own 1 kq (lm (qs.set (A j) (D A4 (D U (g-1)))))::(vi j::(Q 292 [])))))))))))) h 400 [.l (lm (qs.set (A j) (D A4 (D U (g-1)))))] [4,5,9,10,11,12,13,14] (L n11 (L (show Cv (lm qs) (A j*1) [.int .u32 (D A4 (D U (g-1)))]=some (lm (qs.set (A j) (D A4 (D U (g-1))))) from (CS n12 n11)) a0)))))))))))))) (C h 400 [] [4,5,9,10,11,12,13,14] a0)))
theorem Apc(k:Nat)(us:List Int)(vs:List Int)(n:Int)(kq:Nat)(qs:List Int)(s:Int)(j:Int)(us1:List Int)(g r b c:Int)(c1:B (j>=0)=true)(c2:((d (D U ((D U ((D U (us1.getD (A (D R (j+n))) 0))-c))-b)) (2^(min (A 63) (Aj .u64)))) != 0)=false)(n1:0<=(D R (j+n))/\(D R (j+n))<(k:Int))(n2:us.length=k)(n3:0<=(D R ((D R (j+n))-1))/\(D R ((D R (j+n))-1))<(k:Int))(n4:0<=(D R (n-1))/\(D R (n-1))<(vs.length:Int))(n5:¬ (D U (vs.getD (A (D R (n-1))) 0))=0)(hl6:W I (.loop Hr) (Ek k us vs n kq qs s j (D U (o (D U ((T (Aj .u64) (D U ((D U (us.getD (A (D R (j+n))) 0))*2^(min (A 32) (Aj .u64)))) ||| T (Aj .u64) (D U (us.getD (A (D R ((D R (j+n))-1))) 0))).toNat)) (D U (vs.getD (A (D R (n-1))) 0)))) (f (D U ((T (Aj .u64) (D U ((D U (us.getD (A (D R (j+n))) 0))*2^(min (A 32) (Aj .u64)))) ||| T (Aj .u64) (D U (us.getD (A (D R ((D R (j+n))-1))) 0))).toNat)) (D U (vs.getD (A (D R (n-1))) 0)))) (.exit 6) (Ek k us vs n kq qs s j g r))(hl7:W I (.loop Ou) (IB k us vs n kq qs s j g 0 0 0) (.exit 8) (IB k us1 vs n kq qs s j g b c n))(n8:us1.length=k)(n9:0<=j/\j<(kq:Int))(n10:qs.length=kq):W I Ny (Iu k us vs n kq qs s j) .norm (Iu k (us1.set (A (D R (j+n))) (D A4 (D U ((D U ((D U (us1.getD (A (D R (j+n))) 0))-c))-b)))) vs n kq (qs.set (A j) (D A4 g)) s (D R (j-1))):=(W.seq (C (t:=(Q 4 (.own 1 0 []::(.own 1 0 []::(Q 3 (vi s::(vl vs::(.own 1 k (lm us)::(vi n::(.own 1 kq (lm qs)::(vi j::(Q 292 [])))))))))))) h 400 [.b true] [4,5,9,10,11,12,13,14] (L c1 a0)) (W.seq (Ci (P (W.seq (C h 400 [.v (.int .u32 (us.getD (A (D R (j+n))) 0)),.v (.int .u32 (us.getD (A (D R ((D R (j+n))-1))) 0)),.v (.int .u32 (vs.getD (A (D R (n-1))) 0)),.v (.int .u32 (vs.getD (A (D R (n-1))) 0))] [4,5,9,10,11,12,13,14,16,17] (L n1 (L (Ca n2 n1) (L HE (L n3 (L (Ca n2 n3) (L n4 (L (y n4) (L n5 (L n4 (L (y n4) (L n5 a0)))))))))))) (W.seq (W.block hl6) (Ar (W.seq (C h 400 [] [4,5,9,10,11,12,13,14,16,18,19,20] a0) (W.seq (W.block hl7) (P (Ar (W.seq (C (t:=(Q 4 (.own 1 0 []::(.own 1 0 []::(Q 3 (vi s::(vl vs::(.own 1 k (lm (us1.set (A (D R (j+n))) (D A4 (D U ((D U ((D U (us1.getD (A (D R (j+n))) 0))-c))-b)))))::(vi n::(.own 1 kq (lm qs)::(vi j::(Q 1 (.val (.int .u64 g)::(Q 236 (.val (.bool ((d (D U ((D U ((D U (us1.getD (A (D R (j+n))) 0))-c))-b)) (2^(min (A 63) (Aj .u64)))) != 0))::(Q 53 [])))))))))))))))) h 400 [.v (.int .u32 (us1.getD (A (D R (j+n))) 0)),.l (lm (us1.set (A (D R (j+n))) (D A4 (D U ((D U ((D U (us1.getD (A (D R (j+n))) 0))-c))-b)))))] [4,5,9,10,11,12,13,14,16,253] (L n1 (L (Ca n8 n1) (L n1 (L (show Cv (lm us1) (A (D R (j+n))*1) [.int .u32 (D A4 (D U ((D U ((D U (us1.getD (A (D R (j+n))) 0))-c))-b)))]=some (lm (us1.set (A (D R (j+n))) (D A4 (D U ((D U ((D U (us1.getD (A (D R (j+n))) 0))-c))-b))))) from (CS n8 n1)) (L W6 a0)))))) (W.seq (I8 (by rfl) c2 (C (t:=(Q 4 (.own 1 0 []::(.own 1 0 []::(Q 3 (vi s::(vl vs::(.own 1 k (lm (us1.set (A (D R (j+n))) (D A4 (D U ((D U ((D U (us1.getD (A (D R (j+n))) 0))-c))-b)))))::(vi n::(.own 1 kq (lm qs)::(vi j::(Q 1 (.val (.int .u64 g)::(Q 290 [])))))))))))))) h 400 [] [4,5,9,10,11,12,13,14,16] a0)) (C (t:=(Q 4 (.own 1 0 []::(.own 1 0 []::(Q 3 (vi s::(vl vs::(.own 1 k (lm (us1.set (A (D R (j+n))) (D A4 (D U ((D U ((D U (us1.getD (A (D R (j+n))) 0))-c))-b)))))::(vi n::(.own 1 kq (lm (qs.set (A j) (D A4 g)))::(vi j::(Q 292 [])))))))))))) h 400 [.l (lm (qs.set (A j) (D A4 g)))] [4,5,9,10,11,12,13,14] (L n9 (L (show Cv (lm qs) (A j*1) [.int .u32 (D A4 g)]=some (lm (qs.set (A j) (D A4 g))) from (CS n10 n9)) a0)))))))))))))) (C h 400 [] [4,5,9,10,11,12,13,14] a0)))
theorem Apd(k:Nat)(us:List Int)(vs:List Int)(n:Int)(kq:Nat)(qs:List Int)(s:Int)(j:Int)(c1:B (j>=0)=false):W I Ny (Iu k us vs n kq qs s j) (.exit 4) (Iu k us vs n kq qs s j):=(AQ (C h 400 [.b false] [4,5,9,10,11,12,13,14] (L c1 a0)) (by nofun))
theorem kO(xs ys:List Int)(cm:Int)(c1:B (cm<0)=true)(n1:H I 134 [sL lm xs,sL lm ys] (.int .i64 cm)):H I 165 [sL lm xs,sL lm ys] (.tup [.sl 0 [],sL lm xs]):=p (fn:=P3) (s:=(Q 1 (.val (sL lm ys)::(Q 2 (.own 1 0 []::(.val (sL lm xs)::(Q 301 []))))))) (ex := .ret) rfl rfl (P (Ar (AQ (C h 400 [.r (.int .i64 cm),.b true] [1,4,5] (L n1 (L c1 a0))) (by nofun)))) (by nofun) rfl
theorem kP(xs ys qs:List Int)(cm r i:Int)(k:Nat)(c1:B (cm<0)=false)(c2:((ys.length:Int)==1)=true)(n1:H I 134 [sL lm xs,sL lm ys] (.int .i64 cm))(n2:0<=(xs.length:Int)/\(xs.length:Int)<=1048576)(hl3:W I (.loop Qz) ((.val (sL lm xs)::(.val (sL lm ys)::(Q 2 (.own 1 0 []::(.own 1 0 []::(.own 1 (A (xs.length:Int)) (Co [.int .u32 0] (A (xs.length:Int)))::(.val (.int .u64 0)::(.val (.int .i64 (D R ((xs.length:Int)-1)))::(Q 298 [])))))))))) (.exit 0) (Mw xs ys k qs r i))(n4:H I 99 [.sl k (lm qs)] (.fresh 1 ((Y qs).length) (lm (Y qs))))(n5:H I 99 [.sl 1 [.int .u32 (D A4 r)]] (.fresh 1 ((Y [D A4 r]).length) (lm (Y [D A4 r])))):H I 165 [sL lm xs,sL lm ys] (.tup [.sl ((Y qs).length) (lm (Y qs)),.sl ((Y [D A4 r]).length) (lm (Y [D A4 r]))]):=p (fn:=P3) (s:=(Q 1 (.val (sL lm ys)::(Q 2 (.own 1 ((Y qs).length) (lm (Y qs))::(.own 1 ((Y [D A4 r]).length) (lm (Y [D A4 r]))::(Q 301 []))))))) (ex := .ret) rfl rfl (P (Ar (W.seq (C (t:=(vl xs::(vl ys::(Q 2 (.own 1 0 []::(.own 1 0 []::(Q 26 (.val (.bool ((ys.length:Int)==1))::(Q 274 []))))))))) h 400 [.r (.int .i64 cm),.b false] [0,1,4,5,32] (L n1 (L c1 a0))) (AQ (I7 (by rfl) c2 (P (Ar (W.seq (C h 400 [] [0,1,4,5,6,7,8] (L n2 a0)) (W.seq (W.block hl3) (C h 400 [.r (.fresh 1 ((Y qs).length) (lm (Y qs))),.r (.fresh 1 ((Y [D A4 r]).length) (lm (Y [D A4 r])))] [1,4,5] (L n4 (L n5 a0)))))))) (by nofun))))) (by nofun) rfl
theorem kQ(xs ys qs us vs:List Int)(cm s n j U V w:Int)(k kq:Nat)(c1:B (cm<0)=false)(c2:((ys.length:Int)==1)=false)(n1:H I 134 [sL lm xs,sL lm ys] (.int .i64 cm))(hl2:W I (.loop Qy) (KG xs ys 0) (.exit 2) (KG xs ys s))(n3:H I 84 [.agg [.bool false,sL lm ys],.int .i64 s] (C8 V))(n4:((G (E U)).length)+2<=35184372088832)(n5:H I 84 [.agg [.bool false,sL lm xs],.int .i64 s] (C8 U))(n6:0<=(if (D R ((ys.length:Int)+1))>(D R ((xs.length:Int)+1)) then (D R ((ys.length:Int)+1)) else (D R ((xs.length:Int)+1)))/\(if (D R ((ys.length:Int)+1))>(D R ((xs.length:Int)+1)) then (D R ((ys.length:Int)+1)) else (D R ((xs.length:Int)+1)))<=(((((G (E U)).length)+2):Nat):Int))(n7:0<=(D R ((((A (if (D R ((ys.length:Int)+1))>(D R ((xs.length:Int)+1)) then (D R ((ys.length:Int)+1)) else (D R ((xs.length:Int)+1)))):Nat):Int)-(((G (E V)).length:Nat):Int)))/\(D R ((((A (if (D R ((ys.length:Int)+1))>(D R ((xs.length:Int)+1)) then (D R ((ys.length:Int)+1)) else (D R ((xs.length:Int)+1)))):Nat):Int)-(((G (E V)).length:Nat):Int)))<=1048576)(hl8:W I (.loop Ny) ((Q 4 (.own 1 0 []::(.own 1 0 []::(Q 3 (.val (.int .i64 s)::(.val (.sl ((G (E V)).length) (lm (G (E V))))::(.own 1 (A (if (D R ((ys.length:Int)+1))>(D R ((xs.length:Int)+1)) then (D R ((ys.length:Int)+1)) else (D R ((xs.length:Int)+1)))) (Br (A (if (D R ((ys.length:Int)+1))>(D R ((xs.length:Int)+1)) then (D R ((ys.length:Int)+1)) else (D R ((xs.length:Int)+1)))*1) ((lm (G (E U)))++([.int .u32 0,.int .u32 0]:List AV)))::(.val (.int .i64 (((G (E V)).length:Nat):Int))::(.own 1 (A (D R ((((A (if (D R ((ys.length:Int)+1))>(D R ((xs.length:Int)+1)) then (D R ((ys.length:Int)+1)) else (D R ((xs.length:Int)+1)))):Nat):Int)-(((G (E V)).length:Nat):Int)))) (Co [.int .u32 0] (A (D R ((((A (if (D R ((ys.length:Int)+1))>(D R ((xs.length:Int)+1)) then (D R ((ys.length:Int)+1)) else (D R ((xs.length:Int)+1)))):Nat):Int)-(((G (E V)).length:Nat):Int)))))::(.val (.int .i64 (D R ((D R ((((A (if (D R ((ys.length:Int)+1))>(D R ((xs.length:Int)+1)) then (D R ((ys.length:Int)+1)) else (D R ((xs.length:Int)+1)))):Nat):Int)-(((G (E V)).length:Nat):Int)))-1)))::(Q 292 [])))))))))))) (.exit 4) (Iu k us vs n kq qs s j))(n9:H I 99 [.sl kq (lm qs)] (.fresh 1 ((Y qs).length) (lm (Y qs))))(n10:H I 128 [.agg [.bool false,.sl k (lm us)],.int .i64 s] (Ab w)):H I 165 [sL lm xs,sL lm ys] (.tup [.sl ((Y qs).length) (lm (Y qs)),.sl ((G (E w)).length) (lm (G (E w)))]):=p (fn:=P3) (s:=(Q 4 (.own 1 ((Y qs).length) (lm (Y qs))::(.val (.sl ((G (E w)).length) (lm (G (E w))))::(Q 301 []))))) (ex := .ret) rfl rfl (P (Ar (W.seq (C (t:=(vl xs::(vl ys::(Q 2 (.own 1 0 []::(.own 1 0 []::(Q 26 (.val (.bool ((ys.length:Int)==1))::(Q 274 []))))))))) h 400 [.r (.int .i64 cm),.b false] [0,1,4,5,32] (L n1 (L c1 a0))) (W.seq (I8 (by rfl) c2 (C (t:=(vl xs::(vl ys::(Q 2 (.own 1 0 []::(.own 1 0 []::(Q 26 (.val (.bool ((ys.length:Int)==1))::(Q 274 []))))))))) h 400 [] [0,1,4,5,32] a0)) (W.seq (C h 400 [] [0,1,4,5,9] a0) (W.seq (W.block hl2) (P (P (P (P (Ar (W.seq (C h 400 [.r (C8 V),.r (C8 U)] [4,5,9,10,11,12,13,14] (L n3 (L n5 (L (show Bj ([.int .u32 0,.int .u32 0]:List AV)=2*1 from rfl) (L n4 (L n6 (L n7 a0))))))) (W.seq (W.block hl8) (C h 400 [.r (.fresh 1 ((Y qs).length) (lm (Y qs))),.r (Ab w)] [4,5] (L n9 (L n10 a0)))))))))))))))) (by nofun) rfl
def TDA:Cp:=TBE
theorem kR:B_ I TDA:=h
theorem A4i{p:Int}{s:Nat}(hp:0<=p/\p<18446744073709551616)(hs:s<=63):D U ((T (Aj .u64) p &&& T (Aj .u64) (2^s-1)).toNat)=p % 2^s:=by
 obtain⟨m,rfl⟩:=LS hp.1;have hb:(Aj .u64)=64:=rfl;have e1:(T 64 (m:Int)).toNat=m:=EB 64 m (by omega);have h2:2^s<=2^63:=Bm (by decide) hs;have h3:0<2^s:=Cn (by decide);have ec:((2:Int)^s-1)=((2^s-1:Nat):Int):=by
  have:((2^s:Nat):Int)=(2:Int)^s:=by simp
  omega
 have e2:(T 64 ((2^s-1:Nat):Int)).toNat=2^s-1:=EB 64 (2^s-1) (by omega);rw[hb,MU,e1,ec,e2,T7,B1];have h4:m % 2^s<2^s:=G5 _ h3;have e3:((m % 2^s:Nat):Int)=(m:Int) % 2^s:=by simp
 rw[<- e3];omega
theorem Y_{p:Int}{s:Nat}(hp:0<=p/\p<4294967296)(hs:s<=31):D A4 ((T (Aj .u32) p &&& T (Aj .u32) (2^s-1)).toNat)=p % 2^s:=by
 obtain⟨m,rfl⟩:=LS hp.1;have hb:(Aj .u32)=32:=rfl;have e1:(T 32 (m:Int)).toNat=m:=EB 32 m (by omega);have h2:2^s<=2^31:=Bm (by decide) hs;have h3:0<2^s:=Cn (by decide);have ec:((2:Int)^s-1)=((2^s-1:Nat):Int):=by
  have:((2^s:Nat):Int)=(2:Int)^s:=by simp
  omega
 have e2:(T 32 ((2^s-1:Nat):Int)).toNat=2^s-1:=EB 32 (2^s-1) (by omega);rw[hb,MU,e1,ec,e2,T7,Ds];have h4:m % 2^s<2^s:=G5 _ h3;have e3:((m % 2^s:Nat):Int)=(m:Int) % 2^s:=by simp
 rw[<- e3];omega
theorem A4j{p:Int}(hp:0<=p/\p<4294967296):(D A4 ((T (Aj .u32) p &&& T (Aj .u32) 2147483648).toNat)==0)=decide (p<2147483648):=by
 obtain⟨m,rfl⟩:=LS hp.1;have hb:(Aj .u32)=32:=rfl;have e1:(T 32 (m:Int)).toNat=m:=EB 32 m (by omega);have e2:(T 32 2147483648).toNat=2147483648:=EB 32 2147483648 (by decide);rw[hb,MU,e1,e2,Ds];have hlt:m &&& 2147483648<=2147483648:=Nat.and_le_right;have key:(m &&& 2147483648=0)↔m<2147483648:=by
  constructor
  ·intro h;have hm:m<2^32:=by omega
   have hb31:(m &&& 2^31).testBit 31=false:=by
    have:(m &&& 2^31)=0:=h;rw[this];rfl
   rw[Auh] at hb31;have:(2^31:Nat).testBit 31=true:=by decide
   rw[this,Ks] at hb31;refine Nat.lt_pow_two_of_testBit m (n:=31) fun i hi => ?_;rcases Nat.eq_or_lt_of_le hi with h1 | h1
   ·rw[<- h1];exact hb31
   ·exact cU (F5 hm (Bm (by decide) (by omega)))
  ·intro h;apply Nat.eq_of_testBit_eq;intro i;rw[Auh,Nat.zero_testBit];by_cases hi:i=31
   ·subst hi;rw[cU (x:=m) (i:=31) (by omega)];rfl
   ·have:(2147483648:Nat).testBit i=false:=by
     rw[show (2147483648:Nat)=2^31 by decide,Nat.testBit_two_pow];simp;omega
    rw[this,Ii]
 rw[ZH,beq_iff_eq,decide_eq_true_eq];constructor
 ·intro h;have:m &&& 2147483648=0:=by omega
  have:=key.1 this;omega
 ·intro h;have:=key.2 (by omega);omega
theorem NF{a b:Int}(ha:(G a.natAbs).length<1048576)(hb:(G b.natAbs).length<1048576):H I 129 [Ab a,Ab b] (Ab (a-b)):=by
 have h:=NB (na:=decide (a<0)) (nb:=decide (b<0)) (BC a.natAbs) (BC b.natAbs) ha hb;rw[Fr,Fr] at h;exact h
theorem NG{xs:List Int}(h:AI xs){v:Int}(hv:0<=v):(Aa xs+v=0)↔(Aa xs=0/\v=0):=by
 have:=AK h;omega
theorem kS{neg:Bool}{xs ms:List Int}{n:Nat}(hu:AI ms)(hn:(n:Int)<=9223372036854775807)(hN:ms.length<=1048576):∀ (r i:Nat),i+r=min ms.length (n / 32) ->
  W I (.loop Ga) (Do neg xs (n:Nat) ms (B (Aa (ms.take i) ≠ 0)) (i:Nat)) (.exit 0) (Do neg xs (n:Nat) ms (B (Aa (ms.take (n / 32)) ≠ 0)) ((min ms.length (n / 32):Nat):Int)):=by
 have e1:D R (o (n:Int) 32)=((n / 32:Nat):Int):=by
  rw[B0 (by omega),AW (by omega) (by omega)];omega
 intro r;induction r with
 | zero =>
  intro i hi;have hi':i=min ms.length (n / 32):=by omega
  have et:ms.take i=ms.take (n / 32):=by
   rcases Nat.le_total ms.length (n / 32) with h | h
   ·rw[Ef (by omega),Ef h]
   ·rw[hi',Nat.min_eq_right h]
  rw[et,<- hi'];by_cases hl:i<ms.length
  ·exact Al (wV neg xs _ ms _ _ (by simp;omega) (by rw[e1];simp;omega)) (by nofun)
  ·exact Al (wW neg xs _ ms _ _ (by simp;omega)) (by nofun)
 | succ r ih =>
  intro i hi;have ei:D R ((i:Int)+1)=((i+1:Nat):Int):=by rw[AW (by omega) (by omega)];omega
  have hm:=AA hu i;have hp:=Cc i;have hts:=Du ms i (by omega);have hz:(Aa (ms.take (i+1))=0)↔(Aa (ms.take i)=0/\ms.getD i 0=0):=by
   have hx:=NG (Dm hu i) (A1 (Aw hp) hm.1);rw[<- hts] at hx;rw[hx,GI];constructor
   ·rintro⟨a,b⟩;exact⟨a,by omega⟩
   ·rintro⟨a,b⟩;exact⟨a,.inr b⟩
  have step:W I Ga (Do neg xs (n:Nat) ms (B (Aa (ms.take i) ≠ 0)) (i:Nat)) .norm (Do neg xs (n:Nat) ms (B (Aa (ms.take (i+1)) ≠ 0)) ((i+1:Nat):Int)):=by
   by_cases h0:Aa (ms.take i)=0
   ·have k:=wU neg xs (n:Nat) ms (B (Aa (ms.take i) ≠ 0)) (i:Nat) (by simp;omega) (by rw[e1];simp;omega) (by simp[h0]) (by omega);rw[ei,F] at k;have e2:(ms.getD i 0 != 0)=decide (Aa (ms.take (i+1)) ≠ 0):=by
     rw[ZH,bne_iff_ne,decide_eq_true_eq,ne_eq,ne_eq,hz];simp[h0]
    rw[e2] at k;exact k
   ·have k:=wT neg xs (n:Nat) ms (B (Aa (ms.take i) ≠ 0)) (i:Nat) (by simp;omega) (by rw[e1];simp;omega) (by simp[h0]);rw[ei] at k;have e2:true=decide (Aa (ms.take (i+1)) ≠ 0):=by
     symm;rw[decide_eq_true_eq,ne_eq,hz];exact fun h=>h0 h.1
    rw[<- e2];exact k
  exact W.loop step (ih (i+1) (by omega))
theorem V5{x y:Int}(hx:0<=x/\x<4294967296){s:Nat}(hs:s<32):(y*4294967296+x) / 2^s % 4294967296=y % 2^s*2^(32-s)+x / 2^s:=by
 have e:=QF (show s<=32 by omega);have hp:=B7 s;have hp2:=B7 (32-s);have h1:(y*4294967296+x) / 2^s=y*2^(32-s)+x / 2^s:=by
  rw[e,<- AB,Ij,A4a _ _ (by omega),Ij]
 have b1:x / 2^s<2^(32-s):=JQ hp (by rw[<- e];exact hx.2);have b0:0<=x / 2^s:=IV hx.1 (by omega);have m0:=EK y (show (2:Int)^s ≠ 0 by omega);have m1:=DU y hp;have hy2:=Gj y (2^s);rw[h1];have e3:y*2^(32-s)+x / 2^s=(y % 2^s*2^(32-s)+x / 2^s)+4294967296*(y / 2^s):=by
  rw[e];generalize y % 2^s=a at *
  generalize y / 2^s=b at *
  generalize (2:Int)^(32-s)=T at *
  generalize (2:Int)^s=S at *
  generalize x / S=z at *
  rw[<- hy2];grind
 rw[e3,T0];apply FT
 ·have:=A1 m0 (show (0:Int)<=2^(32-s) by omega);omega
 ·have c1:=Ad (show y % 2^s+1<=2^s by omega) (show (0:Int)<=2^(32-s) by omega);rw[GH,CR,AD (2^s),<- e] at c1;omega
theorem kT{neg lost:Bool}{xs ms:List Int}{sh:Int}{s k:Nat}(hu:AI ms)(hs:s<32)(hN:ms.length<=1048576)(hk:k<=ms.length):∀ (r i:Nat),i+r=ms.length-k ->
  W I (.loop FD) (Dd neg xs sh ms i (lm ((Ao i).map (Cy (ms.drop k) s))) lost (s:Nat) ((k+i:Nat):Int)) (.exit 2) (Dd neg xs sh ms (ms.length-k) (lm ((Ao (ms.length-k)).map (Cy (ms.drop k) s))) lost (s:Nat) (ms.length:Nat)):=by
 intro r;induction r with
 | zero =>
  intro i hi;have hi':i=ms.length-k:=by omega
  subst hi';have e0:((k+(ms.length-k):Nat):Int)=(ms.length:Nat):=by omega
  rw[e0];exact Al (XF neg xs sh ms _ _ lost _ _ (by simp)) (by nofun)
 | succ r ih =>
  intro i hi;have ei:D R (((k+i:Nat):Int)+1)=((k+(i+1):Nat):Int):=by rw[AW (by omega) (by omega)];omega
  have hx:=AA hu (k+i);have hy:=AA hu (k+i+1);have gx:(ms.drop k).getD i 0=ms.getD (k+i) 0:=by simp[Z,AX]
  have gy:(ms.drop k).getD (i+1) 0=ms.getD (k+i+1) 0:=by simp[Z,AX,CO]
  have em:min (A (s:Int)) (Aj .u64)=s:=by rw[F];show min s 64=s;omega
  have hR:Cy (ms.drop k) s i=(ms.getD (k+i+1) 0*4294967296+ms.getD (k+i) 0) / 2^s % 4294967296:=by
   rw[V5 hx hs];unfold Cy;rw[gx,gy]
  have hstep:W I FD (Dd neg xs sh ms i (lm ((Ao i).map (Cy (ms.drop k) s))) lost (s:Nat) ((k+i:Nat):Int)) .norm (Dd neg xs sh ms (i+1) (lm ((Ao (i+1)).map (Cy (ms.drop k) s))) lost (s:Nat) ((k+(i+1):Nat):Int)):=by
   have el:lm ((Ao (i+1)).map (Cy (ms.drop k) s))=lm ((Ao i).map (Cy (ms.drop k) s))++([.int .u32 (Cy (ms.drop k) s i)]:List AV):=by
    rw[FX,DR,Cz,FF,G8]
   rw[el,hR];by_cases h1:k+i+1<ms.length
   ·have kk:=wX neg xs sh ms i (lm ((Ao i).map (Cy (ms.drop k) s))) lost (s:Nat) ((k+i:Nat):Int) (by simp;omega) (by rw[ei];simp;omega) (by omega) (by rw[ei];omega) (by omega) (by omega);rw[ei,F,F,em] at kk;have w1:D U ((T (Aj .u64) (D U (ms.getD (k+i) 0)) ||| T (Aj .u64) (D U ((D U (ms.getD (k+(i+1)) 0))*2^(min (A 32) (Aj .u64))))).toNat)=ms.getD (k+i+1) 0*4294967296+ms.getD (k+i) 0:=by
     rw[Of,Cx (n:=ms.getD (k+(i+1)) 0) (by rw[<- CO];omega),<- CO];exact Li hy hx
    have hpos:0<=ms.getD (k+i+1) 0*4294967296+ms.getD (k+i) 0:=by omega
    rw[w1,t _ (by have:=B7 s;omega),Ds] at kk;exact kk
   ·have hz:ms.getD (k+i+1) 0=0:=Bv (by omega);have kk:=wY neg xs sh ms i (lm ((Ao i).map (Cy (ms.drop k) s))) lost (s:Nat) ((k+i:Nat):Int) (by simp;omega) (by rw[ei];simp;omega) (by omega) (by omega) (by omega);rw[ei,F,em,Cx (n:=ms.getD (k+i) 0) (by omega),t _ (by have:=B7 s;omega),Ds] at kk;rw[hz,DF,Db];exact kk
  exact W.loop hstep (ih (i+1) (by omega))
theorem V6{ms:List Int}{s k:Nat}(hs:s<32)(hk:k<=ms.length) :
  Aa ms=4294967296^k*(2^s*Aa ((Ao (ms.length-k)).map (Cy (ms.drop k) s))+ms.getD k 0 % 2^s)+Aa (ms.take k):=by
 have h1:=Df ms hk;have h2:=cT (us:=ms.drop k) s hs (ms.length-k) (by simp);have g0:(ms.drop k).getD 0 0=ms.getD k 0:=by simp[Z,AX]
 have g1:(ms.drop k).getD (ms.length-k) 0=0:=Bv (by simp);rw[Ef (by simp),g0,g1,Int.zero_emod,AG,B2] at h2;rw[h2,h1];generalize Aa (ms.drop k)=X;generalize Aa (ms.take k)=Y;generalize ms.getD k 0 % 2^s=z;have:X-z+z=X:=by omega
 rw[this];omega
theorem Mx{neg:Bool}{xs:List Int}(hu:AI xs)(n:Nat)(hn:(n:Int)<=9223372036854775807)(hN:xs.length<1048576):H I 128 [.agg [.bool neg,sL lm xs],.int .i64 (n:Nat)] (Ab (rv neg xs / 2^n)):=by
 have t1:=Bn xs;have tu:=Oz hu;have e1:D R (o (n:Int) 32)=((n / 32:Nat):Int):=by
  rw[B0 (by omega),AW (by omega) (by omega)];omega
 have e2:D U (f (n:Int) 32)=((n % 32:Nat):Int):=by
  rw[Bc (by omega),B1];omega
 have hs:n % 32<32:=G5 _ (by decide);have hmag:=DI (xs:=xs) (by omega);have ha:=kS (neg:=neg) (xs:=xs) (n:=n) tu hn (by omega) (min (Y xs).length (n / 32)) 0 (by omega);rw[T2] at ha;have e0:decide (Aa ([]:List Int) ≠ 0)=false:=rfl;rw[e0] at ha;have hof:=QB (n:=1) (by omega);have hp:=G9 n;have hP:=Cc (n / 32);have hS:=B7 (n % 32);rw[<- Vt neg xs];generalize hms:Y xs=ms at *
 have fin:∀ (q l:Int),0<=l->l<2^n->Aa ms=2^n*q+l->rv neg ms / 2^n=if neg=true/\l ≠ 0 then -q-1 else if neg then -q else q:=by
  intro q l hl0 hl1 hv;have hpn:=B7 n;unfold rv;rw[hv];cases neg with
  | false=>simp only[BX,if_false,false_and];rw[Ij,HH _ _ (by omega),DN hl0 hl1];omega
  | true =>
   simp only[if_true,true_and];by_cases h0:l=0
   ·rw[if_neg (by simp[h0]),h0,B2,<- DY,BN _ (by omega)]
   ·rw[if_pos (by simpa using h0)];have : -(2^n*q+l)=(2^n-l)+2^n*(-q-1):=by rw[HG,DY];omega
    rw[this,HH _ _ (by omega),DN (by omega) (by omega)];omega
 by_cases hk:n / 32<ms.length
 ·-- some G are left
  have hb:=kT (neg:=neg) (lost:=decide (Aa (ms.take (n / 32)) ≠ 0)) (xs:=xs) (ms:=ms) (sh:=(n:Int)) (s:=n % 32) (k:=n / 32) tu hs (by omega) (by omega) (ms.length-n / 32) 0 (by omega);have c1:decide ((D R (o (n:Int) 32))<(ms.length:Int))=true:=by rw[e1];simp;omega
  have hall:=V6 (ms:=ms) hs (show n / 32<=ms.length by omega);have ux:AI ((Ao (ms.length-n / 32)).map (Cy (ms.drop (n / 32)) (n % 32))):=Mv fun i=>(NE (E7 tu _) hs i).2.2.2;have hmk:=FO (neg:=neg) ux (by simp;omega);have hlen:((Ao (ms.length-n / 32)).map (Cy (ms.drop (n / 32)) (n % 32))).length=ms.length-n / 32:=by simp
  unfold sL at hmk;rw[hlen] at hmk;have hq:=Es (neg:=neg) ux;generalize hQ:(Ao (ms.length-n / 32)).map (Cy (ms.drop (n / 32)) (n % 32))=Q at *
  have hm0:=EK (ms.getD (n / 32) 0) (show (2:Int)^(n % 32) ≠ 0 by omega);have hm1:=DU (ms.getD (n / 32) 0) hS;have ht0:=AK (Dm tu (n / 32));have ht1:=Fv tu (n / 32);have hb2:W I (.loop FD) (Dd neg xs (n:Nat) ms 0 [] (B (Aa (ms.take (n / 32)) ≠ 0)) (D U (f (n:Int) 32)) (D R (o (n:Int) 32))) (.exit 2) (Dd neg xs (n:Nat) ms (ms.length-n / 32) (lm Q) (B (Aa (ms.take (n / 32)) ≠ 0)) (D U (f (n:Int) 32)) (ms.length:Nat)):=by
   rw[e1,e2];exact hb
  have emask:D A4 ((D A4 (1*2^(min (A (D U (f (n:Int) 32))) (Aj .u32))))-1)=2^(n % 32)-1:=by
   have:min (A ((n % 32:Nat):Int)) (Aj .u32)=n % 32:=by rw[F];show min (n % 32) 32=n % 32;omega
   have h31:(2:Int)^(n % 32)<=2147483648:=FP (show n % 32<=31 by omega);rw[e2,this,CR,Ds,Ds];omega
  have ec4:D A4 ((T (Aj .u32) (ms.getD (A (D R (o (n:Int) 32))) 0) &&& T (Aj .u32) (D A4 ((D A4 (1*2^(min (A (D U (f (n:Int) 32))) (Aj .u32))))-1))).toNat)=ms.getD (n / 32) 0 % 2^(n % 32):=by
   rw[emask,e1,F];exact Y_ (AA tu _) (by omega)
  have hl:0<=4294967296^(n / 32)*(ms.getD (n / 32) 0 % 2^(n % 32))+Aa (ms.take (n / 32))/\4294967296^(n / 32)*(ms.getD (n / 32) 0 % 2^(n % 32))+Aa (ms.take (n / 32))<2^n:=by
   rw[hp];generalize (4294967296:Int)^(n / 32)=P at *
   generalize ms.getD (n / 32) 0 % 2^(n % 32)=z at *
   generalize (2:Int)^(n % 32)=S at *
   have a:=A1 (Aw hP) hm0;have b:=Ah (show z+1<=S by omega) (Aw hP);rw[C1,Dp] at b;omega
  have hf:=fin (Aa Q) _ hl.1 hl.2 (by rw[hall,hp];grind);have hlost:(4294967296^(n / 32)*(ms.getD (n / 32) 0 % 2^(n % 32))+Aa (ms.take (n / 32)) ≠ 0)↔(Aa (ms.take (n / 32)) ≠ 0\/ms.getD (n / 32) 0 % 2^(n % 32) ≠ 0):=by
   have a:=A1 (Aw hP) hm0;by_cases hz:ms.getD (n / 32) 0 % 2^(n % 32)=0
   ·rw[hz,AG,Db];simp
   ·have:0<4294967296^(n / 32)*(ms.getD (n / 32) 0 % 2^(n % 32)):=BE hP (by omega);constructor
    ·intro _;exact .inr hz
    ·intro _;omega
  by_cases hneg:neg=true
  ·subst hneg;have hrv:rv true Q = -Aa Q:=rfl;by_cases h0:Aa (ms.take (n / 32)) ≠ 0
   ·rw[hf,if_pos ⟨rfl,hlost.2 (.inl h0)⟩];have hmin:=NF (a := -Aa Q) (b:=1) (by rw[<- hrv];omega) (by decide);refine kG true (B (Aa (ms.take (n / 32)) ≠ 0)) xs (n:Nat) _ (ms.length-n / 32) (lm Q) _ (-Aa Q) _ (by rw[hms];exact c1) (by simpa using h0) rfl (by rw[hms];exact hmag) (by rw[hms];exact ha) (by rw[hms];exact hb2) hmk hof hmin
   ·by_cases h1:ms.getD (n / 32) 0 % 2^(n % 32)=0
    ·rw[hf,if_neg (fun h=>by rcases hlost.1 h.2 with g | g;exact h0 g;exact g h1),if_pos rfl];exact kJ true (B (Aa (ms.take (n / 32)) ≠ 0)) xs (n:Nat) _ (ms.length-n / 32) (lm Q) _ (-Aa Q) (by rw[hms];exact c1) (by simpa using h0) rfl (by rw[hms,ec4,h1];rfl) (by rw[hms];exact hmag) (by rw[hms];exact ha) (by rw[hms];exact hb2) (by rw[hms,e1];omega) (by rw[e2];omega) hmk
    ·rw[hf,if_pos ⟨rfl,hlost.2 (.inr h1)⟩];have hmin:=NF (a := -Aa Q) (b:=1) (by rw[<- hrv];omega) (by decide);exact kI true (B (Aa (ms.take (n / 32)) ≠ 0)) xs (n:Nat) _ (ms.length-n / 32) (lm Q) _ (-Aa Q) _ (by rw[hms];exact c1) (by simpa using h0) rfl (by rw[hms,ec4];simpa using h1) (by rw[hms];exact hmag) (by rw[hms];exact ha) (by rw[hms];exact hb2) (by rw[hms,e1];omega) (by rw[e2];omega) hmk hof hmin
  ·have hneg':neg=false:=by cases neg <;> simp_all
   subst hneg';rw[hf,if_neg (by simp),if_neg (by simp)];by_cases h0:Aa (ms.take (n / 32)) ≠ 0
   ·exact kH false (B (Aa (ms.take (n / 32)) ≠ 0)) xs (n:Nat) _ (ms.length-n / 32) (lm Q) _ (Aa Q) (by rw[hms];exact c1) (by simpa using h0) rfl (by rw[hms];exact hmag) (by rw[hms];exact ha) (by rw[hms];exact hb2) hmk
   ·exact kK false (B (Aa (ms.take (n / 32)) ≠ 0)) xs (n:Nat) _ (ms.length-n / 32) (lm Q) _ (Aa Q) (by rw[hms];exact c1) (by simpa using h0) rfl (by rw[hms];exact hmag) (by rw[hms];exact ha) (by rw[hms];exact hb2) (by rw[hms,e1];omega) (by rw[e2];omega) hmk
 ·-- nothing is left
  have c1:decide ((D R (o (n:Int) 32))<(ms.length:Int))=false:=by rw[e1];simp;omega
  have htake:ms.take (n / 32)=ms:=Ef (by omega);have hb:W I (.loop FD) (Dd neg xs (n:Nat) ms 0 [] (B (Aa (ms.take (n / 32)) ≠ 0)) (D U (f (n:Int) 32)) (D R (o (n:Int) 32))) (.exit 2) (Dd neg xs (n:Nat) ms 0 [] (B (Aa (ms.take (n / 32)) ≠ 0)) (D U (f (n:Int) 32)) (D R (o (n:Int) 32))) :=
   Al (XF neg xs _ ms _ _ _ _ _ c1) (by nofun)
  have hmk:=FO (neg:=neg) (xs:=[]) (fun x h=>(nomatch h)) (by simp);have hv0:rv neg ([]:List Int)=0:=by unfold rv;cases neg <;> rfl
  rw[hv0] at hmk;have hlt:Aa ms<2^n:=by
   have a:=D4 tu;have b:=Fq (show ms.length<=n / 32 by omega);rw[hp];have:=Ah (show (1:Int)<=2^(n % 32) by omega) (show (0:Int)<=4294967296^(n / 32) by omega);rw[Dp] at this;omega
  have hf:=fin 0 (Aa ms) (AK tu) hlt (by rw[AG,Db]);by_cases hneg:neg=true
  ·subst hneg;by_cases h0:Aa ms ≠ 0
   ·rw[hf,if_pos ⟨rfl,h0⟩];have hmin:=NF (a:=0) (b:=1) (by decide) (by decide);exact kL true (B (Aa (ms.take (n / 32)) ≠ 0)) xs (n:Nat) _ 0 [] _ 0 _ (by rw[hms];exact c1) rfl (by rw[htake];simpa using h0) (by rw[hms];exact hmag) (by rw[hms];exact ha) (by rw[hms];exact hb) hmk hof hmin
   ·rw[hf,if_neg (fun h=>h0 h.2),if_pos rfl];exact kM true (B (Aa (ms.take (n / 32)) ≠ 0)) xs (n:Nat) _ 0 [] _ 0 (by rw[hms];exact c1) rfl (by rw[htake];simpa using h0) (by rw[hms];exact hmag) (by rw[hms];exact ha) (by rw[hms];exact hb) hmk
  ·have hneg':neg=false:=by cases neg <;> simp_all
   subst hneg';rw[hf,if_neg (by simp),if_neg (by simp)];exact kN false (B (Aa (ms.take (n / 32)) ≠ 0)) xs (n:Nat) _ 0 [] _ 0 (by rw[hms];exact c1) rfl (by rw[hms];exact hmag) (by rw[hms];exact ha) (by rw[hms];exact hb) hmk
def TDB:Cp:=TDA
theorem kU:B_ I TDB:=kR
theorem kV{xs:List Int}{d:Int}(hx:AI xs)(hd:0<d/\d<4294967296)(hN:xs.length<=1048576):∀ (i:Nat) (qs:List Int) (r:Int),i<=xs.length->qs.length=xs.length->AI qs->0<=r/\r<d->(∀ t,t<i->qs.getD t 0=0) ->
  ∃ qs' r',W I (.loop Qz) (Mw xs [d] xs.length qs r ((i:Int)-1)) (.exit 0) (Mw xs [d] xs.length qs' r' (-1))/\qs'.length=xs.length/\AI qs'/\(0<=r'/\r'<d)/\d*Aa qs'+r'=d*Aa qs+4294967296^i*r+Aa (xs.take i):=by
 intro i;induction i with
 | zero =>
  intro qs r _ hl hu hr _;refine⟨qs,r,Al (xA xs [d] xs.length qs r _ (by simp)) (by nofun),hl,hu,hr,by simp[Aa]⟩
 | succ i ih =>
  intro qs r hi hl hu hr hz;have ei:(((i+1:Nat):Int)-1)=(i:Nat):=by omega
  have ej:D R ((i:Int)-1)=(i:Int)-1:=AW (by omega) (by omega);have hxi:=AA hx i;have ed:([d]:List Int).getD (A 0) 0=d:=rfl;have hk:=wZ xs [d] xs.length qs r (i:Nat) (by simp) (by omega) (by simp) (by rw[ed,Cx (by omega)];omega) (by omega) hl;rw[ej,F,ed,Li (by omega) hxi,Cx (n:=d) (by omega)] at hk;have hv0:0<=r*4294967296+xs.getD i 0:=by omega
  rw[B0 hv0,Bc hv0] at hk;generalize hv:r*4294967296+xs.getD i 0=v at *
  have hm:=Gj v d;have hm0:=EK v (show d ≠ 0 by omega);have hm1:=DU v hd.1;have hq0:0<=v / d:=IV hv0 (by omega);have hq1:v / d<4294967296:=by
   apply JQ hd.1;have:=Ad (show r<=d-1 by omega) (show (0:Int)<=4294967296 by omega);have:(d-1)*4294967296=4294967296*d-4294967296:=by omega
   omega
  rw[Cx (n:=v / d) (by omega),QE ⟨hq0,hq1⟩] at hk;obtain⟨qs',r',g1,g2,g3,g4,g5⟩:=ih (qs.set i (v / d)) (v % d) (by omega) (by simpa using hl) (Cq hu ⟨hq0,hq1⟩) ⟨hm0,hm1⟩ (fun t ht=>by rw[Cm (by omega)];exact hz t (by omega));rw[ei];refine⟨qs',r',W.loop hk g1,g2,g3,g4,?_⟩;rw[g5,DA _ _ _ (by omega),hz i (by omega),Du xs i (by omega),Ay];generalize (4294967296:Int)^i=P at *
  have e2:xs.getD i 0=d*(v / d)+v % d-r*4294967296:=by omega
  rw[e2];grind
theorem kW{xs ys:List Int}{y:Int}{s:Nat}(hy0:ys ≠ [])(hyl:ys.length<=1048576)(hy:ys.getD (ys.length-1) 0=y)(hb:0<y)(hs:s<32)(h1:2147483648<=y*2^s)(h2:y*2^s<4294967296):∀ (r i:Nat),i+r=s ->
  W I (.loop Qy) (KG xs ys (i:Nat)) (.exit 2) (KG xs ys (s:Nat)):=by
 have hpos:=An.2 hy0;have en:D R ((ys.length:Int)-1)=((ys.length-1:Nat):Int):=by rw[AW (by omega) (by omega)];omega
 have cond:∀ i:Nat,i<=s->(D A4 ((T (Aj .u32) (D A4 ((ys.getD (A (D R ((ys.length:Int)-1))) 0)*2^(min (A (D U (i:Int))) (Aj .u32)))) &&& T (Aj .u32) 2147483648).toNat)==0)=decide (y*2^i<2147483648):=by
  intro i hi;have em:min (A (i:Int)) (Aj .u32)=i:=by rw[F];show min i 32=i;omega
  have hp:=FP hi;have hp0:=B7 i;have hle:=Ah hp (show 0<=y by omega);have hge:=A1 (show 0<=y by omega) (show (0:Int)<=2^i by omega);rw[Cx (n:=(i:Int)) (by omega),em,en,F,hy,QE (n:=y*2^i) (by omega)];exact A4j (by omega)
 intro r;induction r with
 | zero =>
  intro i hi;have:i=s:=by omega
  subst this;exact Al (xC xs ys _ (by rw[cond i (Am _)];simp;omega) (by rw[en];omega) (by rw[Cx (by omega)];omega)) (by nofun)
 | succ r ih =>
  intro i hi;have ei:D R ((i:Int)+1)=((i+1:Nat):Int):=by rw[AW (by omega) (by omega)];omega
  have hlt:y*2^i<2147483648:=by
   have hp:=FP (show i+1<=s by omega);rw[Ay] at hp;have hle:=Ah hp (show 0<=y by omega);rw[<- AB] at hle;omega
  have k:=xB xs ys (i:Nat) (by rw[cond i (by omega)];simpa using hlt) (by rw[en];omega) (by rw[Cx (by omega)];omega);rw[ei] at k;exact W.loop k (ih (i+1) (by omega))
section
variable {k:Nat} {us vs:List Int} {kq:Nat} {qs:List Int} {s:Int} {j m:Nat}
theorem kX(hvl:vs.length=m+2)(hl:us.length=k)(hk:k<=1048577)(hj:j+m+2<k)(h:Dig m (Aa vs) (Aa (us.drop j)) (vs.getD (m+1) 0) (vs.getD m 0) (us.getD (j+m+2) 0) (us.getD (j+m+1) 0) (us.getD (j+m) 0)):∀ (f:Nat) (g r:Int),g.toNat<=f ->
  DigI (Aa vs) (Aa (us.drop j)) (vs.getD (m+1) 0) (us.getD (j+m+2) 0*4294967296+us.getD (j+m+1) 0) g r->r<4294967296 ->
  ∃ g' r',W I (.loop Hr) (Ek k us vs ((m+2:Nat):Int) kq qs s (j:Nat) g r) (.exit 6) (Ek k us vs ((m+2:Nat):Int) kq qs s (j:Nat) g' r') /\
   (0<=g'/\g'<4294967296)/\Aa (us.drop j)<(g'+1)*Aa vs/\g'*Aa vs<Aa (us.drop j)+Aa vs:=by
 have ht:=h.htop;have hnx:=h.hnxt;have hz:=h.hz;have e1:D R (D R ((j:Int)+((m+2:Nat):Int))-2)=((j+m:Nat):Int):=by
  rw[AW (n:=(j:Int)+((m+2:Nat):Int)) (by omega) (by omega),AW (by omega) (by omega)];omega
 have e2:D R (((m+2:Nat):Int)-2)=(m:Int):=by rw[AW (by omega) (by omega)];omega
 have e3:D R (((m+2:Nat):Int)-1)=((m+1:Nat):Int):=by rw[AW (by omega) (by omega)];omega
 have et:D U (vs.getD (A (D R (((m+2:Nat):Int)-1))) 0)=vs.getD (m+1) 0:=by rw[e3,F,Cx (by omega)]
 have en:D U (vs.getD (A (D R (((m+2:Nat):Int)-2))) 0)=vs.getD m 0:=by rw[e2,F,Cx (by omega)]
 have n2:0<=D R (((m+2:Nat):Int)-2)/\D R (((m+2:Nat):Int)-2)<(vs.length:Int):=by rw[e2];omega
 have n1:0<=D R (((m+2:Nat):Int)-1)/\D R (((m+2:Nat):Int)-1)<(vs.length:Int):=by rw[e3];omega
 have nu:0<=D R (D R ((j:Int)+((m+2:Nat):Int))-2)/\D R (D R ((j:Int)+((m+2:Nat):Int))-2)<(k:Int):=by rw[e1];omega
 have ecmp:∀ g r:Int,0<=r->r<4294967296->0<=g*vs.getD m 0/\g*vs.getD m 0<18446744073709551616->(B (D U (g*(D U (vs.getD (A (D R (((m+2:Nat):Int)-2))) 0)))>D U ((T (Aj .u64) (D U (r*2^(min (A 32) (Aj .u64)))) ||| T (Aj .u64) (D U (us.getD (A (D R (D R ((j:Int)+((m+2:Nat):Int))-2))) 0))).toNat)):Bool)=decide (r*4294967296+us.getD (j+m) 0<g*vs.getD m 0):=by
  intro g r hr0 hr hgn;rw[en,e1,F,Li ⟨hr0,hr⟩ hz,Cx hgn]
 intro f;induction f with
 | zero =>
  intro g r hf i hr;have hg:g=0:=by have:=i.g0;omega
  subst hg;have c2:¬ (r*4294967296+us.getD (j+m) 0<0*vs.getD m 0):=by have:=i.r0;omega
  have k5:=XG k us vs ((m+2:Nat):Int) kq qs s (j:Nat) 0 r (by simp) (by simpa using hr) (by
   rw[ecmp 0 r i.r0 hr (by omega),decide_eq_false_iff_not];exact c2) n2 nu hl
  exact⟨0,r,Al k5 (by nofun),by omega,i.up,h.out i (by omega) (T1 (by omega))⟩
 | succ f ih =>
  intro g r hf i hr;have hg1:=i.gle;have hg0:=i.g0;have hr0:=i.r0;have hgn:0<=g*vs.getD m 0/\g*vs.getD m 0<18446744073709551616:=by
   have a:=A1 hg0 hnx.1;have b:=Ei hg1 (show vs.getD m 0<=4294967295 by omega) hnx.1 (by omega);omega
  have er:D U (r+(D U (vs.getD (A (D R (((m+2:Nat):Int)-1))) 0)))=r+vs.getD (m+1) 0:=by rw[et];exact Cx (by omega)
  by_cases hc:4294967296<=g\/r*4294967296+us.getD (j+m) 0<g*vs.getD m 0
  ·have i2:=h.step i hc;have hg2:=i2.g0;have eg:D U (g-1)=g-1:=Cx (by omega);by_cases hbig:4294967296<=r+vs.getD (m+1) 0
   ·have hgs:=h.small_g i2 hbig;have hrun:W I Hr (Ek k us vs ((m+2:Nat):Int) kq qs s (j:Nat) g r) (.exit 6) (Ek k us vs ((m+2:Nat):Int) kq qs s (j:Nat) (D U (g-1)) (D U (r+(D U (vs.getD (A (D R (((m+2:Nat):Int)-1))) 0))))):=by
     by_cases hg:4294967296<=g
     ·exact xD k us vs _ kq qs s _ g r (by simpa using hg) (by rw[er];simpa using hbig) n1
     ·exact xF k us vs _ kq qs s _ g r (by simp;omega) (by simpa using hr) (by rw[ecmp g r hr0 hr hgn,decide_eq_true_eq];omega) (by rw[er];simpa using hbig) n2 nu hl n1
    rw[eg,er] at hrun;exact⟨g-1,_,Al hrun (by nofun),⟨hg2,hgs⟩,i2.up,h.out i2 hgs (Or.inl hbig)⟩
   ·have hrun:W I Hr (Ek k us vs ((m+2:Nat):Int) kq qs s (j:Nat) g r) .norm (Ek k us vs ((m+2:Nat):Int) kq qs s (j:Nat) (D U (g-1)) (D U (r+(D U (vs.getD (A (D R (((m+2:Nat):Int)-1))) 0))))):=by
     by_cases hg:4294967296<=g
     ·exact xE k us vs _ kq qs s _ g r (by simpa using hg) (by rw[er,decide_eq_false_iff_not];omega) n1
     ·exact xG k us vs _ kq qs s _ g r (by simp;omega) (by simpa using hr) (by rw[ecmp g r hr0 hr hgn,decide_eq_true_eq];omega) (by rw[er,decide_eq_false_iff_not];omega) n2 nu hl n1
    rw[eg,er] at hrun;obtain⟨g',r',a1,a2⟩:=ih (g-1) (r+vs.getD (m+1) 0) (by omega) i2 (by omega);exact⟨g',r',W.loop hrun a1,a2⟩
  ·have k5:=XG k us vs ((m+2:Nat):Int) kq qs s (j:Nat) g r (by simp;omega) (by simpa using hr) (by rw[ecmp g r hr0 hr hgn,decide_eq_false_iff_not];omega) n2 nu hl;exact⟨g,r,Al k5 (by nofun),by omega,i.up,h.out i (by omega) (T1 (by omega))⟩
end
section
variable {k:Nat} {vs:List Int} {kq:Nat} {qs:List Int} {s:Int} {j:Nat} {g:Int}
theorem kY(hv:AI vs)(hk:k<=1048577)(hg:0<=g/\g<4294967296)(hj:j+vs.length<=k):∀ (r i:Nat) (us:List Int) (b c:Int),r+i=vs.length->us.length=k->AI us->0<=b/\b<=1->0<=c/\c<4294967296 ->
  W I (.loop Ou) (IB k us vs (vs.length:Nat) kq qs s (j:Nat) g b c (i:Nat)) (.exit 8) (IB k (F7 g vs j r i us b c).1 vs (vs.length:Nat) kq qs s (j:Nat) g (F7 g vs j r i us b c).2.1 (F7 g vs j r i us b c).2.2 (vs.length:Nat)):=by
 intro r;induction r with
 | zero =>
  intro i us b c hi _ _ _ _;have:i=vs.length:=by omega
  subst this;exact Al (xI k us vs _ kq qs s _ g b c _ (by simp)) (by nofun)
 | succ r ih =>
  intro i us b c hi hl hu hb hc;have ei:D R ((i:Int)+1)=((i+1:Nat):Int):=by rw[AW (by omega) (by omega)];omega
  have eij:D R ((i:Int)+(j:Int))=((i+j:Nat):Int):=by rw[AW (by omega) (by omega)];omega
  have hvi:=AA hv i;have hui:=AA hu (i+j);have hw:=Vw hg hvi hc;have hgv:=A1 hg.1 hvi.1;have h1:=xH k us vs (vs.length:Nat) kq qs s (j:Nat) g b c (i:Nat) (by simp;omega) (by omega) (by rw[eij];omega) hl;have ecc:c+g*vs.getD i 0=g*vs.getD i 0+c:=Ij _ _;rw[eij,ei,F,F,Cx (n:=vs.getD i 0) (by omega),Cx (n:=us.getD (i+j) 0) (by omega),Cx (n:=g*vs.getD i 0) (by omega),ecc,Cx hw,XC,Aoc] at h1;have emk:D U ((T (Aj .u64) (g*vs.getD i 0+c) &&& T (Aj .u64) 4294967295).toNat)=(g*vs.getD i 0+c) % 4294967296:=A4i (s:=32) hw (by decide);rw[emk] at h1;generalize hp:g*vs.getD i 0+c=p at *
  rw[B1,B1] at h1;have hstep:F7 g vs j (r+1) i us b c=F7 g vs j r (i+1) (us.set (i+j) ((us.getD (i+j) 0-p % 4294967296-b) % 4294967296)) (if us.getD (i+j) 0-p % 4294967296-b<0 then 1 else 0) (p / 4294967296):=by rw[F7,hp]
  generalize hd:us.getD (i+j) 0-p % 4294967296-b=d at *
  have e1:D A4 (((us.getD (i+j) 0-p % 4294967296) % 18446744073709551616-b) % 18446744073709551616)=d % 4294967296:=by rw[Ds];omega
  have e2:((us.getD (i+j) 0-p % 4294967296) % 18446744073709551616-b) % 18446744073709551616 / 9223372036854775808=(if d<0 then 1 else 0):=by split <;> omega
  rw[e1,e2] at h1;rw[hstep];exact W.loop h1 (ih (i+1) _ _ _ (by omega) (by simpa using hl) (Cq hu (by omega)) (by split <;> omega) (by omega))
theorem kZ(hv:AI vs)(hk:k<=1048577)(hj:j+vs.length<=k):∀ (r i:Nat) (us:List Int) (c:Int),r+i=vs.length->us.length=k->AI us->0<=c/\c<=1 ->
  W I (.loop Q5) (KH k us vs (vs.length:Nat) kq qs s (j:Nat) g c (i:Nat)) (.exit 10) (KH k (H9 vs j r i us c).1 vs (vs.length:Nat) kq qs s (j:Nat) g (H9 vs j r i us c).2 (vs.length:Nat)):=by
 intro r;induction r with
 | zero =>
  intro i us c hi _ _ _;have:i=vs.length:=by omega
  subst this;exact Al (xK k us vs _ kq qs s _ g c _ (by simp)) (by nofun)
 | succ r ih =>
  intro i us c hi hl hu hc;have ei:D R ((i:Int)+1)=((i+1:Nat):Int):=by rw[AW (by omega) (by omega)];omega
  have eij:D R ((i:Int)+(j:Int))=((i+j:Nat):Int):=by rw[AW (by omega) (by omega)];omega
  have hvi:=AA hv i;have hui:=AA hu (i+j);have h1:=xJ k us vs (vs.length:Nat) kq qs s (j:Nat) g c (i:Nat) (by simp;omega) (by rw[eij];omega) hl (by omega);have ecc:c+(us.getD (i+j) 0+vs.getD i 0)=us.getD (i+j) 0+vs.getD i 0+c:=Ij _ _;rw[eij,ei,F,F,Cx (n:=vs.getD i 0) (by omega),Cx (n:=us.getD (i+j) 0) (by omega),Cx (n:=us.getD (i+j) 0+vs.getD i 0) (by omega),ecc,Cx (n:=us.getD (i+j) 0+vs.getD i 0+c) (by omega),XC,Ds] at h1;exact W.loop h1 (ih (i+1) _ _ (by omega) (by simpa using hl) (Cq hu (by omega)) (by omega))
end
def TDC:Cp:=TDB
theorem lA:B_ I TDC:=kU
section
variable {vs:List Int} {m:Nat} {k kq:Nat} {s:Int}
theorem xL(hv:AI vs)(hm:vs.length=m+2)(ht:2147483648<=vs.getD (m+1) 0)(hk:k=kq+vs.length)(hkb:k<=1048577):∀ (i:Nat) (us qs:List Int),i<=kq->us.length=k->AI us->qs.length=kq->AI qs->(∀ t,t<i->qs.getD t 0=0)->Aa (us.drop i)<Aa vs ->
  ∃ us' qs',W I (.loop Ny) (Iu k us vs (vs.length:Nat) kq qs s ((i:Int)-1)) (.exit 4) (Iu k us' vs (vs.length:Nat) kq qs' s (-1)) /\
   us'.length=k/\AI us'/\qs'.length=kq/\AI qs'/\Aa us'<Aa vs/\Aa us=Aa vs*(Aa qs'-Aa qs)+Aa us':=by
 intro i;induction i with
 | zero =>
  intro us qs _ h1 h2 h3 h4 _ h6;exact⟨us,qs,Al (Apd k us vs _ kq qs s _ (by simp)) (by nofun),h1,h2,h3,h4,h6,by rw[SU,AG,Db]⟩
 | succ i ih =>
  intro us qs hi h1 h2 h3 h4 h5 h6;have ei:(((i+1:Nat):Int)-1)=(i:Nat):=by omega
  have ej:D R ((i:Int)-1)=(i:Int)-1:=AW (by omega) (by omega);have en:D R ((i:Int)+(vs.length:Int))=((i+vs.length:Nat):Int):=by rw[AW (by omega) (by omega)];omega
  have en1:D R (((i+vs.length:Nat):Int)-1)=((i+m+1:Nat):Int):=by rw[AW (by omega) (by omega)];omega
  have ev1:D R ((vs.length:Int)-1)=((m+1:Nat):Int):=by rw[AW (by omega) (by omega)];omega
  have hD:=qP (us:=us) (vs:=vs) (j:=i) (m:=m) h2 hv hm (by omega) ht h6;have hI:=hD.init;have hr1:=DU (us.getD (i+m+2) 0*4294967296+us.getD (i+m+1) 0) (show 0<vs.getD (m+1) 0 by omega);have ht2:=hD.htop;have et:D U (vs.getD (A (D R ((vs.length:Int)-1))) 0)=vs.getD (m+1) 0:=by rw[ev1,F,Cx (by omega)]
  obtain⟨g,r,q1,q2,q3,q4⟩:=kX (k:=k) (kq:=kq) (qs:=qs) (s:=s) hm h1 hkb (by omega) hD _ _ _ (Am _) hI (by omega);rw[<- hm] at q1;have hn0:0<=us.getD (i+m+2) 0*4294967296+us.getD (i+m+1) 0:=by have:=hD.hx;have:=hD.hy;omega
  have hq0:=hI.g0;have hq1:=hI.gle;have hl5:W I (.loop Hr) (Ek k us vs (vs.length:Nat) kq qs s (i:Nat) (D U (o (D U ((T (Aj .u64) (D U ((D U (us.getD (A (D R ((i:Int)+(vs.length:Int)))) 0))*2^(min (A 32) (Aj .u64)))) ||| T (Aj .u64) (D U (us.getD (A (D R ((D R ((i:Int)+(vs.length:Int)))-1))) 0))).toNat)) (D U (vs.getD (A (D R ((vs.length:Int)-1))) 0)))) (f (D U ((T (Aj .u64) (D U ((D U (us.getD (A (D R ((i:Int)+(vs.length:Int)))) 0))*2^(min (A 32) (Aj .u64)))) ||| T (Aj .u64) (D U (us.getD (A (D R ((D R ((i:Int)+(vs.length:Int)))-1))) 0))).toNat)) (D U (vs.getD (A (D R ((vs.length:Int)-1))) 0)))) (.exit 6) (Ek k us vs (vs.length:Nat) kq qs s (i:Nat) g r):=by
   rw[et,en,en1,F,F,show i+vs.length=i+m+2 by omega,Cx (n:=us.getD (i+m+2) 0) (by have:=hD.hx;omega),Li hD.hx hD.hy,B0 hn0,Bc hn0,Cx ⟨hq0,by omega⟩];exact q1
  have hms:=kY (k:=k) (kq:=kq) (qs:=qs) (s:=s) (j:=i) (g:=g) hv hkb q2 (by omega) vs.length 0 us 0 0 (by omega) h1 h2 (by omega) (by omega);have hmo:=Vx (j:=i) q2 hv vs.length 0 us 0 0 (by omega) (by omega) h2 (by omega) (by omega);have hst:=SS h2 hv (j:=i) (by omega) h6 q2 q3 q4;generalize hM:F7 g vs i vs.length 0 us 0 0=M at *
  obtain⟨m1,m2,m3,m4,_,_⟩:=hmo;obtain⟨d1,d2⟩:=Aoq (AA m2 (i+vs.length)) m4 m3;dsimp only at hst;obtain⟨S1,S2⟩:=hst;have fin:∀ (ws:List Int) (q:Int),StepOk us vs ws i q->(0<=q/\q<4294967296)->W I Ny (Iu k us vs (vs.length:Nat) kq qs s (i:Nat)) .norm (Iu k ws vs (vs.length:Nat) kq (qs.set i q) s ((i:Int)-1)) ->
    ∃ us' qs',W I (.loop Ny) (Iu k us vs (vs.length:Nat) kq qs s (i:Nat)) (.exit 4) (Iu k us' vs (vs.length:Nat) kq qs' s (-1)) /\
   us'.length=k/\AI us'/\qs'.length=kq/\AI qs'/\Aa us'<Aa vs/\Aa us=Aa vs*(Aa qs'-Aa qs)+Aa us':=by
   intro ws q hs hq hrun;obtain⟨us',qs',a1,a2,a3,a4,a5,a6,a7⟩:=ih ws (qs.set i q) (by omega) (by rw[hs.len];exact h1) hs.u32 (by simpa using h3) (Cq h4 hq) (fun t ht=>by rw[Cm (by omega)];exact h5 t (by omega)) hs.low;refine⟨us',qs',W.loop hrun a1,a2,a3,a4,a5,a6,?_⟩;have e:=hs.val;rw[DA _ _ _ (by omega),h5 i (by omega),EI] at a7;generalize (4294967296:Int)^i=P at *
   grind
  have hn5:¬ D U (vs.getD (A (D R ((vs.length:Int)-1))) 0)=0:=by rw[et];omega
  rw[ei];by_cases hd:M.1.getD (i+vs.length) 0-M.2.2-M.2.1<0
  ·obtain⟨S2,hg1⟩:=S2 hd;have hu2:AI (M.1.set (i+vs.length) ((M.1.getD (i+vs.length) 0-M.2.2-M.2.1) % 4294967296)):=Cq m2 (by omega);have hab:=kZ (k:=k) (kq:=kq) (qs:=qs) (s:=s) (j:=i) (g:=g-1) hv hkb (by omega) vs.length 0 (M.1.set (i+vs.length) ((M.1.getD (i+vs.length) 0-M.2.2-M.2.1) % 4294967296)) 0 (by omega) (by rw[AS,m1];exact h1) hu2 (by omega);have hao:=Vy (j:=i) hv vs.length 0 (M.1.set (i+vs.length) ((M.1.getD (i+vs.length) 0-M.2.2-M.2.1) % 4294967296)) 0 (by omega) (by rw[AS,m1];omega) hu2 (by omega);obtain⟨b1,b2,b3,_,_⟩:=hao;generalize hB:H9 vs i vs.length 0 (M.1.set (i+vs.length) ((M.1.getD (i+vs.length) 0-M.2.2-M.2.1) % 4294967296)) 0=Bb at *
   have eg:D U (g-1)=g-1:=Cx (by omega);have k1:=Apb k us vs (vs.length:Nat) kq qs s (i:Nat) M.1 Bb.1 g r M.2.1 M.2.2 Bb.2 (by simp) (by rw[en,F,d1,if_pos hd];rfl) (by rw[en];omega) h1 (by rw[en,en1];omega) (by rw[ev1];omega) hn5 hl5 hms (by rw[m1];exact h1) (by rw[en,F,d2,eg];exact hab) (by rw[b1,AS,m1];exact h1) (by omega) h3;rw[en,F,eg,F,QE (n:=g-1) (by omega),ej,QE (n:=Bb.2) (by omega),Ds] at k1;exact fin _ _ S2 (by omega) k1
  ·have k2:=Apc k us vs (vs.length:Nat) kq qs s (i:Nat) M.1 g r M.2.1 M.2.2 (by simp) (by rw[en,F,d1,if_neg hd];rfl) (by rw[en];omega) h1 (by rw[en,en1];omega) (by rw[ev1];omega) hn5 hl5 hms (by rw[m1];exact h1) (by omega) h3;rw[en,F,F,d2,QE (n:=g) q2,ej] at k2;exact fin _ _ (S1 (by omega)) q2 k2
end
abbrev lz(n:Int):List Int:=G n.toNat
theorem xM{xs:List Int}(h:Fg xs):xs=lz (Aa xs):=by
 refine RR h (Cj _) ?_;rw[Cs];have:=AK h.1;omega
theorem Ayd{n:Int}(h:0<=n):G n.natAbs=lz n:=by unfold lz;congr 1;omega
theorem rvF(xs:List Int):rv false xs=Aa xs:=rfl
theorem cV{xs ys:List Int}(hx:Fg xs)(hy:Fg ys)(hy0:ys ≠ [])(h1:xs.length<1000000)(h2:ys.length<1000000) :
  H I 165 [sL lm xs,sL lm ys] (.tup [.sl (lz (Aa xs / Aa ys)).length (lm (lz (Aa xs / Aa ys))),.sl (lz (Aa xs % Aa ys)).length (lm (lz (Aa xs % Aa ys)))]):=by
 have hyl:=An.2 hy0;have hcmp:=N5 hx hy (by omega);have hx0:=AK hx.1;have hyp:=In hy hy0;by_cases hlt:Aa xs<Aa ys
 ·rw[DN hx0 hlt,FT hx0 hlt,<- xM hx];exact kO xs ys _ (by unfold Cw;rw[if_pos hlt];rfl) hcmp
 have hcm:decide (Cw (Aa xs) (Aa ys)<0)=false:=by unfold Cw;rw[if_neg hlt];split <;> rfl
 by_cases hone:ys.length=1
 ·obtain⟨y,rfl⟩:=A1a.1 hone;have e1:Aa [y]=y:=by simp[Aa]
  rw[e1] at hyp |-;have hyb:=hy.1 y (by simp);obtain⟨qs,r,q1,q2,q3,q4,q5⟩:=kV hx.1 (d:=y) ⟨hyp,hyb.2⟩ (by omega) xs.length (Aq xs.length 0) 0 (Am _) (by simp) (EC _) (by omega) (fun t _=>Dw _ _);rw[Ez,Ee,AG,AG,B2,Db] at q5;have hd:=(KX hyp (a:=Aa xs) (r:=r) (q:=Aa qs)).2 ⟨by omega,q4.1,q4.2⟩;have ur:AI [r]:=fun x h=>by rw[HZ.1 h];omega
  have er:Aa [r]=r:=by simp[Aa]
  have h:=kP xs [y] qs _ r (-1) xs.length hcm rfl hcmp (by omega) (by
   rw[F,EO,AW (by omega) (by omega)];exact q1) (by rw[<- q2];exact DI (by omega)) (by rw[QE (n:=r) (by omega)];exact DI (xs:=[r]) (by simp))
  rw[QE (n:=r) (by omega),Ip q3,Ip ur,er,<- hd.1,<- hd.2] at h;exact h
 ·obtain⟨m,hm⟩:∃ m,ys.length=m+2:=⟨ys.length-2,by omega⟩;have hxl:ys.length<=xs.length:=by
   rcases Ck xs.length ys.length with g | g
   ·exact absurd (Iq hx hy g) hlt
   ·exact g
  have hyt:0<ys.getD (m+1) 0/\ys.getD (m+1) 0<4294967296:=by
   have a:=AA hy.1 (m+1);rcases hy.2 with g | g
   ·exact absurd g hy0
   ·rw[show ys.length-1=m+1 by omega] at g;omega
  obtain⟨s,hs,s1,s2,_⟩:=qQ hyt;have hp:=B7 s;have hU:=LB (neg:=false) hx.1 s (by omega);have hV:=LB (neg:=false) hy.1 s (by omega);rw[rvF] at hU hV;have hU0:0<=Aa xs*2^s:=A1 hx0 (by omega);have hV0:0<Aa ys*2^s:=BE hyp hp;have eu:Aa (G (Aa xs*2^s).natAbs)=Aa xs*2^s:=by rw[Cs];omega
  have ev:Aa (G (Aa ys*2^s).natAbs)=Aa ys*2^s:=by rw[Cs];omega
  have cu:=Cj (Aa xs*2^s).natAbs;have cv:=Cj (Aa ys*2^s).natAbs;have hp2:(2:Int)^s<=2147483648:=by
   have:=FP (show s<=31 by omega);rwa [show (2:Int)^31=2147483648 by decide] at this
  have ysplit:=Df ys (j:=m+1) (by omega);have yd:=C2 ys (m+1);rw[DB (xs:=ys) (i:=m+1+1) (by omega),AG,B2] at yd;rw[yd] at ysplit;have ylo:=Fv hy.1 (m+1);have ylo0:=AK (Dm hy.1 (m+1));have hP:=Cc (m+1);have hV1:2147483648*4294967296^(m+1)<=Aa ys*2^s:=by
   rw[ysplit];have a:=Ad s1 (show (0:Int)<=4294967296^(m+1) by omega);have b:=A1 (show (0:Int)<=2^s by omega) ylo0;have e:(Aa (Br (m+1) ys)+4294967296^(m+1)*ys.getD (m+1) 0)*2^s=2^s*Aa (Br (m+1) ys)+ys.getD (m+1) 0*2^s*4294967296^(m+1):=by grind
   omega
  have e9:(4294967296:Int)^(m+2)=4294967296^(m+1)*4294967296:=Ay _ _;have hV2:Aa ys*2^s<4294967296^(m+2):=by
   rw[ysplit];have e0:=QF (show s<=32 by omega);have a1:ys.getD (m+1) 0+1<=2^(32-s):=by
    rw[e0] at s2;have:=BP s2 (by omega);omega
   have a2:=Ad a1 (show (0:Int)<=2^s*4294967296^(m+1) by have:=BE hp hP;omega);have a3:=Js ylo hp;have e1:(ys.getD (m+1) 0+1)*(2^s*4294967296^(m+1))=2^s*(4294967296^(m+1)*ys.getD (m+1) 0)+2^s*4294967296^(m+1):=by grind
   have e2:(2:Int)^(32-s)*(2^s*4294967296^(m+1))=4294967296^(m+1)*4294967296:=by rw[<- AB,<- e0,AD]
   rw[AD,C1];omega
  have hvl1:(G (Aa ys*2^s).natAbs).length<=m+2:=JW cv (by rw[ev];exact hV2);have hvl2:m+2<=(G (Aa ys*2^s).natAbs).length:=by
   apply MH;intro hh;have a:=D4 cv.1;rw[ev] at a;have b:=Fq (show (G (Aa ys*2^s).natAbs).length<=m+1 by omega);omega
  have hUlt:Aa xs*2^s<4294967296^(xs.length+1):=by
   have a:=D4 hx.1;have b:=A9 a hp;have c:=Ah hp2 (show (0:Int)<=4294967296^xs.length by have:=Cc xs.length;omega);have d:(4294967296:Int)^(xs.length+1)=4294967296^xs.length*4294967296:=Ay _ _;have e:=Cc xs.length;omega
  have hul1:(G (Aa xs*2^s).natAbs).length<=xs.length+1:=JW cu (by rw[eu];exact hUlt);have hxne:xs ≠ []:=by intro e;rw[e,Ja] at hxl;omega
  have hul2:xs.length<=(G (Aa xs*2^s).natAbs).length:=by
   apply MH;intro hh;have a:=D4 cu.1;rw[eu] at a;have b:=Fq (show (G (Aa xs*2^s).natAbs).length<=xs.length-1 by omega);have c:=Ox hx hxne;have d:=Ah (show (1:Int)<=2^s by omega) hx0;omega
  have hul3:0<xs.length:=An.2 hxne;generalize hvs:G (Aa ys*2^s).natAbs=vs at *
  generalize hus:G (Aa xs*2^s).natAbs=us0 at *
  have hvl:vs.length=m+2:=by omega
  have u00:AI (us0++[0,0]):=fun x hh=>by
   rcases BJ.1 hh with g | g
   ·exact cu.1 x g
   ·simp at g;omega
  have v00:Aa (us0++[0,0])=Aa xs*2^s:=by rw[Gc];simp[Aa,eu]
  have u2:AI ((us0++[0,0]).take (xs.length+1)):=Dm u00 _;have u1:((us0++[0,0]).take (xs.length+1)).length=xs.length+1:=by simp;omega
  have u3:Aa ((us0++[0,0]).take (xs.length+1))=Aa xs*2^s:=by
   have a:=Df (us0++[0,0]) (j:=xs.length+1) (by simp;omega);rw[IT u00 (n:=xs.length+1) (V:=4294967296^(xs.length+1)) (DL _) (by rw[v00];exact hUlt),AG,B2,v00] at a;exact a.symm
  have elm:Br ((xs.length+1)*1) (lm us0++([.int .u32 0,.int .u32 0]:List AV))=lm ((us0++[0,0]).take (xs.length+1)):=by
   simp[lm,Rr]
  generalize hU':(us0++[0,0]).take (xs.length+1)=us at *
  have hvtop:2147483648<=vs.getD (m+1) 0:=by
   have a:=Df vs (j:=m+1) (by omega);have b:=C2 vs (m+1);rw[DB (xs:=vs) (i:=m+1+1) (by omega),AG,B2] at b;rw[b] at a;have c:=Fv cv.1 (m+1);apply Ka.1;intro h;have:=Ah (show vs.getD (m+1) 0+1<=2147483648 by omega) (show (0:Int)<=4294967296^(m+1) by omega);rw[C1,Dp,AD _ 2147483648] at this;omega
  have hini:Aa (us.drop (xs.length-ys.length+1))<Aa vs:=by
   have a:=Df us (j:=xs.length-ys.length+1) (by omega);have b:=AK (Dm u2 (xs.length-ys.length+1));have c:=D4 hx.1;have d:=A9 c hp;have e:(4294967296:Int)^xs.length=4294967296^(xs.length-ys.length+1)*4294967296^(m+1):=by rw[<- B4];congr 1;omega
   have hQ:=Cc (xs.length-ys.length+1);rw[ev];apply RV (b:=2^s*4294967296^(m+1))
   ·apply ER (a:=4294967296^(xs.length-ys.length+1)) _ (by omega);have e2:(4294967296:Int)^(xs.length-ys.length+1)*(2^s*4294967296^(m+1))=4294967296^xs.length*2^s:=by rw[e];grind
    omega
   ·have:=Ad hp2 (show (0:Int)<=4294967296^(m+1) by omega);omega
  obtain⟨us',qs,l1,l2,l3,l4,l5,l6,l7⟩:=xL (k:=xs.length+1) (kq:=xs.length-ys.length+1) (s:=(s:Nat)) cv.1 hvl hvtop (by omega) (by omega) (xs.length-ys.length+1) us (Aq (xs.length-ys.length+1) 0) (Am _) u1 u2 (by simp) (EC _) (fun t _=>Dw _ _) hini;rw[Ez,EI,u3,ev] at l7;rw[ev] at l6;have hR:Aa us'=2^s*(Aa xs-Aa ys*Aa qs):=by
   rw[HG];have:2^s*(Aa ys*Aa qs)=Aa ys*2^s*Aa qs:=by grind
   rw[this,AD (2^s) (Aa xs)];omega
  have us0':=AK l3;have hR0:0<=Aa xs-Aa ys*Aa qs:=by
   apply Ka.1;intro h;have:=Ah (show Aa xs-Aa ys*Aa qs <= -1 by omega) (show (0:Int)<=2^s by omega);omega
  have hR1:Aa xs-Aa ys*Aa qs<Aa ys:=by
   rw[hR,AD (Aa ys) (2^s)] at l6;exact ER l6 (by omega)
  have hd:=(KX hyp (a:=Aa xs) (r:=Aa xs-Aa ys*Aa qs) (q:=Aa qs)).2 ⟨by omega,hR0,hR1⟩;have hdn:=Mx (neg:=false) l3 s (by omega) (by omega);rw[rvF,hR,BN _ (show (2:Int)^s ≠ 0 by omega)] at hdn;have emx:(if (D R ((ys.length:Int)+1))>(D R ((xs.length:Int)+1)) then (D R ((ys.length:Int)+1)) else (D R ((xs.length:Int)+1)))=((xs.length+1:Nat):Int):=by
   rw[AW (n:=(ys.length:Int)+1) (by omega) (by omega),AW (n:=(xs.length:Int)+1) (by omega) (by omega),if_neg (by omega)];omega
  have esub:D R (((xs.length+1:Nat):Int)-(vs.length:Int))=((xs.length-ys.length+1:Nat):Int):=by rw[AW (by omega) (by omega)];omega
  have esb1:D R (((xs.length-ys.length+1:Nat):Int)-1)=((xs.length-ys.length+1:Nat):Int)-1:=AW (by omega) (by omega);have hz:=kW (xs:=xs) (ys:=ys) (y:=ys.getD (m+1) 0) (s:=s) hy0 (by omega) (by rw[show ys.length-1=m+1 by omega]) hyt.1 hs s1 s2 s 0 (by omega);have key:=kQ xs ys qs us' vs (Cw (Aa xs) (Aa ys)) (s:Nat) (vs.length:Nat) (-1) (Aa xs*2^s) (Aa ys*2^s) (Aa xs-Aa ys*Aa qs) (xs.length+1) (xs.length-ys.length+1) hcm (by simp;omega) hcmp hz hV (by rw[hus];omega) hU
   (by rw[hus,emx];omega) (by rw[emx,hvs,F,esub];omega) (by
    rw[hus,hvs,emx,F,esub,F,esb1,elm,EO];exact l1) (by rw[<- l4];exact DI (by omega)) (by rw[<- l2];exact hdn)
  rw[Ip l5,Ayd hR0] at key;rw[hd.1,hd.2];exact key
def TDD:Cp:=TDC
theorem a:B_ I TDD:=lA
def Lj(rs:List Rn)(n:Int):Ak:=(.val (sL pc rs)::(Q 2 (.val (.int .i64 n)::(Q 31 []))))
theorem Ape(rs:List Rn)(n:Int)(c1:B (n>0)=true)(c2:((B8 (O (rs.getD (A (D R (n-1))) z0)))==0)=true)(n1:0<=(D R (n-1))/\(D R (n-1))<(rs.length:Int))(n2:H I 79 [Ap (rs.getD (A (D R (n-1))) z0)] (.int .i64 (B8 (O (rs.getD (A (D R (n-1))) z0))))):W I Rv (Lj rs n) .norm (Lj rs (D R (n-1))):=(C h 400 [.b true,.v (Ap (rs.getD (A (D R (n-1))) z0)),.r (.int .i64 (B8 (O (rs.getD (A (D R (n-1))) z0)))),.b true] [0,3] (L c1 (L n1 (L (B3 n1) (L n2 (L c2 a0))))))
theorem Apf(rs:List Rn)(n:Int)(c1:B (n>0)=true)(c2:((B8 (O (rs.getD (A (D R (n-1))) z0)))==0)=false)(n1:0<=(D R (n-1))/\(D R (n-1))<(rs.length:Int))(n2:H I 79 [Ap (rs.getD (A (D R (n-1))) z0)] (.int .i64 (B8 (O (rs.getD (A (D R (n-1))) z0))))):W I Rv (Lj rs n) (.exit 0) (Lj rs n):=(C h 400 [.b true,.v (Ap (rs.getD (A (D R (n-1))) z0)),.r (.int .i64 (B8 (O (rs.getD (A (D R (n-1))) z0)))),.b false] [0,3] (L c1 (L n1 (L (B3 n1) (L n2 (L c2 a0))))))
theorem Apg(rs:List Rn)(n:Int)(c1:B (n>0)=false):W I Rv (Lj rs n) (.exit 0) (Lj rs n):=(C h 400 [.b false,.b false] [0,3] (L c1 (L Ff a0)))
def My(rs:List Rn)(n:Int)(k:Nat)(cs:List AV)(i:Int):Ak:=(.val (sL pc rs)::(Q 2 (.val (.int .i64 n)::(.own 2 k cs::(.val (.int .i64 i)::(Q 29 []))))))
theorem Aph(rs:List Rn)(n:Int)(k:Nat)(cs:List AV)(i:Int)(c1:B (i<n)=true)(n1:0<=i/\i<(rs.length:Int))(n2:k+1<=1048576)(n3:H I 97 [Ap (rs.getD (A i) z0)] (Ab (O (rs.getD (A i) z0)))):W I Uk (My rs n k cs i) .norm (My rs n (k+1) (cs++([.bool (B ((O (rs.getD (A i) z0))<0)),.sl ((G (E (O (rs.getD (A i) z0)))).length) (lm (G (E (O (rs.getD (A i) z0)))))]:List AV)) (D R (i+1))):=(C h 400 [.b true,.v (Ap (rs.getD (A i) z0)),.r (Ab (O (rs.getD (A i) z0)))] [0,3,4,5] (L c1 (L n1 (L (B3 n1) (L n3 (L (show Bj ([.bool (B ((O (rs.getD (A i) z0))<0)),.sl ((G (E (O (rs.getD (A i) z0)))).length) (lm (G (E (O (rs.getD (A i) z0)))))]:List AV)=1*2 from rfl) (L n2 a0)))))))
theorem Api(rs:List Rn)(n:Int)(k:Nat)(cs:List AV)(i:Int)(c1:B (i<n)=false):W I Uk (My rs n k cs i) (.exit 2) (My rs n k cs i):=(C h 400 [.b false] [0,3,4,5] (L c1 a0))
theorem Aye(rs:List Rn)(n i:Int)(k:Nat)(cs:List AV)(hl1:W I (.loop Rv) (Lj rs (rs.length:Int)) (.exit 0) (Lj rs n))(hl2:W I (.loop Uk) (My rs n 0 ([]:List AV) 0) (.exit 2) (My rs n k cs i)):H I 46 [sL pc rs] (.fresh 2 k cs):=p (fn:=aJ) (s:=(Q 2 (.own 2 k cs::(Q 32 [])))) (ex := .ret) rfl rfl (P (W.seq (C h 400 [] [0,3] a0) (W.seq (W.block hl1) (Ar (W.seq (C h 400 [] [0,3,4,5] a0) (W.seq (W.block hl2) (C h 400 [] [2] a0))))))) (by nofun) rfl
def SV(ts:List Rn)(r:Rn)(e:Int)(w:Rn)(i:Int):Ak:=(Q 2 (.val (.int .i64 e)::(Q 1 (.box [.bool r.1,.sl r.2.length (lm r.2)]::(Q 1 (.box [.bool false,.sl 0 []]::(.val (sL pc ts)::(.box [.bool w.1,.sl w.2.length (lm w.2)]::(.val (.int .i64 i)::(Q 27 []))))))))))
theorem Ayf(ts:List Rn)(r:Rn)(e:Int)(w:Rn)(i:Int)(u:Int)(c1:B (i>=0)=true)(n1:0<=i/\i<(ts.length:Int))(n2:H I 96 [Ap w,Ap r] (Ab ((O w)*(O r))))(n3:H I 84 [Ap (ts.getD (A i) z0),.int .i64 (D R (e*(D R ((D R ((ts.length:Int)-1))-i))))] (C8 u))(n4:H I 95 [Ab ((O w)*(O r)),Ab u] (Ab (((O w)*(O r))+u))):W I aZ (SV ts r e w i) .norm (SV ts r e (cn (((O w)*(O r))+u)) (D R (i-1))):=(C h 400 [.b true,.r (Ab ((O w)*(O r))),.v (Ap (ts.getD (A i) z0)),.r (C8 u),.r (Ab (((O w)*(O r))+u))] [2,4,6,7,8,9] (L c1 (L n2 (L n1 (L (B3 n1) (L n3 (L n4 a0)))))))
theorem Ayg(ts:List Rn)(r:Rn)(e:Int)(w:Rn)(i:Int)(c1:B (i>=0)=false):W I aZ (SV ts r e w i) (.exit 0) (SV ts r e w i):=(C h 400 [.b false] [2,4,6,7,8,9] (L c1 a0))
theorem Ayh(rs ts:List Rn)(r w:Rn)(e i:Int)(n1:H I 46 [sL pc rs] (.fresh 2 ts.length (pc ts)))(hl2:W I (.loop aZ) (SV ts r e (false,[]) (D R ((ts.length:Int)-1))) (.exit 0) (SV ts r e w i)):H I 80 [sL pc rs,Ap r,.int .i64 e] (Ap w):=p (fn:=bA) (s:=(Q 6 (.box [.bool w.1,.sl w.2.length (lm w.2)]::(Q 30 [])))) (ex := .ret) rfl rfl (P (P (Ar (W.seq (C h 400 [.r (.fresh 2 ts.length (pc ts))] [2,4,6,7,8,9] (L n1 a0)) (W.seq (W.block hl2) (C h 400 [] [6] a0)))))) (by nofun) rfl
theorem cW(rs:List Rn)(r:Rn):pc rs++([.bool r.1,.sl r.2.length (lm r.2)]:List AV)=pc (rs++[r]):=by rw [Mp];rfl
theorem MM(g:Nat->Rn)(i:Nat):(Ao (i+1)).map g=(Ao i).map g++[g i]:=by rw [FX,DR];rfl
theorem xN{rs:List Rn}(hg:∀ r∈rs,u 1048576 r)(hN:rs.length<=1048576):∀ m,m<=rs.length->W I (.loop Rv) (Lj rs (m:Nat)) (.exit 0) (Lj rs (l (M rs) m:Nat)):=by
 intro m;induction m with
 | zero=>intro _;exact Al (Apg rs ((0:Nat):Int) (by simp)) (by nofun)
 | succ m ih =>
  intro hm;have e1:D R (((m+1:Nat):Int)-1)=(m:Int):=by rw[AW (by omega) (by omega)];omega
  obtain⟨g1,g2⟩:=A' hg m;have hs:=Ge (neg:=(rs.getD m z0).1) g1 g2;simp only[l];rw[C3];by_cases h0:O (rs.getD m z0)=0
  ·rw[if_pos h0];have k:=Ape rs ((m+1:Nat):Int) (by simp) (by rw[e1,F,h0];rfl) (by rw[e1];omega) (by simp only[e1,F];exact hs);rw[e1] at k;exact W.loop k (ih (by omega))
  ·rw[if_neg h0];exact Al (Apf rs ((m+1:Nat):Int) (by simp) (by rw[e1,F,beq_eq_false_iff_ne];unfold B8; (repeat' split) <;> omega) (by rw[e1];omega) (by simp only[e1,F];exact hs)) (by nofun)
theorem xO{rs:List Rn}(hg:∀ r∈rs,u 1048576 r)(hN:rs.length<=1048576)(n:Nat)(hn:n<=rs.length) :
  W I (.loop Uk) (My rs (n:Nat) 0 [] 0) (.exit 2) (My rs (n:Nat) n (pc ((Ao n).map fun j=>cn (O (rs.getD j z0)))) (n:Nat)):=by
 refine W.up (fun i=>My rs (n:Nat) i (pc ((Ao i).map fun j=>cn (O (rs.getD j z0)))) (i:Nat)) n (by nofun) ?_ ?_ 0 (Bf _)
 ·intro i hi;have ei:D R ((i:Int)+1)=((i+1:Nat):Int):=by rw[AW (by omega) (by omega)];omega
  obtain⟨g1,g2⟩:=A' hg i;have k:=Aph rs (n:Nat) i (pc ((Ao i).map fun j=>cn (O (rs.getD j z0)))) (i:Nat) (by simp;omega) (by omega) (by omega) (by simp only[F];exact jH g1 g2);refine k.to rfl ?_;simp only[F,ei];rw[MM,<- cW];rfl
 ·exact Api rs (n:Nat) n _ (n:Nat) (by simp)
theorem ED{rs:List Rn}(hg:∀ r∈rs,u 1048576 r)(hN:rs.length<=1048576):H I 46 [sL pc rs] (.fresh 2 (Y (M rs)).length (pk (Y (M rs)))):=by
 have hle:=Gn (M rs) rs.length;have hlen:(Y (M rs)).length=l (M rs) rs.length:=by rw[Fs,s]
 have h:=Aye rs _ _ _ _ (xN hg hN rs.length (Am _)) (xO hg hN _ hle);have e3:(Ao (l (M rs) rs.length)).map (fun j=>cn (O (rs.getD j z0)))=(Y (M rs)).map cn:=by
  rw[<- RS,hlen];apply FV;intro i _;rw[CX,C3]
 (first|rw[e3,<- hlen] at h|(rw[e3] at h;unfold sL at h;rw[<- hlen] at h));exact h
theorem PE(e:Nat):AY (e / 32+1) ((2:Int)^e):=by
 unfold AY;have h1:((2:Int)^e).natAbs=2^e:=by rw[Kx];rfl
 have h2:(4294967296:Nat)^(e / 32+1)=2^(32*(e / 32+1)):=by rw[A5c]
 rw[h1,h2];exact PF (by decide) (by omega)
theorem V7{K X:Nat}{x:Int}(hx:AY X x)(e:Nat):∀ {ts:List Int},(∀ t∈ts,AY K t)->AY (K+1+ts.length*(X+(e / 32+1)+1)) (hv ts x (2^e))
 | [],_=>G6 _
 | t::ts,h=>by
  have ih:=V7 (K:=K) hx e (ts:=ts) fun y hy=>h y (A_ _ hy);have h1:AY (K+(e*ts.length / 32+1)) (t*((2:Int)^e)^ts.length):=by
   rw[<- gP];exact (h t Bs).mul (PE _)
  have h2:=hx.mul ih;have hb:e*ts.length / 32<=ts.length*(e / 32+1):=by
   have:e*ts.length<=32*(ts.length*(e / 32+1)):=by
    have h3:e<=32*(e / 32+1):=by omega
    calc e*ts.length<=(32*(e / 32+1))*ts.length:=A8 _ h3
     _=32*(ts.length*(e / 32+1)):=by rw[EA,CP (e / 32+1)]
   omega
  have hb2:ts.length*(e / 32+1)<=ts.length*(X+(e / 32+1)+1):=z _ (by omega);have h3:=(h1.mono (k:=K+1+ts.length*(X+(e / 32+1)+1)+X+(e / 32+1)) (by omega)).add (h2.mono (by omega));simp only[hv,Bo,DK,ES];exact h3.mono (by omega)
theorem Apj{K X:Nat}{ts:List Rn}{r:Rn}(ht:∀ t∈ts,u K t)(hr:u X r)(e:Nat)(hS:K+2+(ts.length+1)*(X+(e / 32+1)+1)<=1048576)(he:e<=1073741824) :
  ∀ n (w:Rn),n<=ts.length->O w=hv ((M ts).drop n) (O r) (2^e)->u (K+1+(ts.length-n)*(X+(e / 32+1)+1)) w -> 
  ∃ w',O w'=hv (M ts) (O r) (2^e)/\(w'=w/\n=0\/w'=cn (hv (M ts) (O r) (2^e)))/\W I (.loop aZ) (SV ts r (e:Nat) w ((n:Int)-1)) (.exit 0) (SV ts r (e:Nat) w' (-1)):=by
 intro n;induction n with
 | zero =>
  intro w _ hw _;refine⟨w,by simpa using hw,.inl ⟨rfl,rfl⟩,?_⟩;exact Al (Ayg ts r (e:Nat) w (((0:Nat):Int)-1) (by simp)) (by nofun)
 | succ n ih =>
  intro w hn hw gw;obtain⟨t1,t2⟩:=A' ht n;have e0:((n+1:Nat):Int)-1=(n:Int):=by omega
  have hK1:(ts.length-(n+1))*(X+(e / 32+1)+1)+(X+(e / 32+1)+1)=(ts.length-n)*(X+(e / 32+1)+1):=by
   rw[show ts.length-n=ts.length-(n+1)+1 by omega,DK,ES]
  have hK2:(ts.length-n)*(X+(e / 32+1)+1)<=(ts.length+1)*(X+(e / 32+1)+1):=A8 _ (by omega);have hsh:e*(ts.length-1-n) / 32<=(ts.length-(n+1))*(X+(e / 32+1)+1):=by
   have h3:e<=32*(e / 32+1):=by omega
   have h4:e*(ts.length-1-n)<=32*((ts.length-(n+1))*(e / 32+1)):=by
    calc e*(ts.length-1-n)<=(32*(e / 32+1))*(ts.length-1-n):=A8 _ h3
     _=32*((ts.length-(n+1))*(e / 32+1)):=by rw[EA,CP (e / 32+1),show ts.length-1-n=ts.length-(n+1) by omega]
   have h5:(ts.length-(n+1))*(e / 32+1)<=(ts.length-(n+1))*(X+(e / 32+1)+1):=z _ (by omega);omega
  have w1:D R ((e:Int)*D R (D R ((ts.length:Int)-1)-(n:Int)))=((e*(ts.length-1-n):Nat):Int):=by
   have hle:ts.length<=1048576:=by
    have:ts.length*1<=(ts.length+1)*(X+(e / 32+1)+1):=Bx (by omega) (by omega);omega
   rw[AW (n:=(ts.length:Int)-1) (by omega) (by omega),AW (n:=(ts.length:Int)-1-(n:Int)) (by omega) (by omega)];have e3:(ts.length:Int)-1-(n:Int)=((ts.length-1-n:Nat):Int):=by omega
   rw[e3,<- Dj];have:e*(ts.length-1-n)<=1073741824*1048576:=Bx he (by omega);exact AW (by omega) (by omega)
  have w2:D R ((n:Int)-1)=(n:Int)-1:=by
   have hle:ts.length<=1048576:=by
    have:ts.length*1<=(ts.length+1)*(X+(e / 32+1)+1):=Bx (by omega) (by omega);omega
   exact AW (by omega) (by omega)
  have hst:hv ((M ts).drop n) (O r) (2^e)=O w*O r+O (ts.getD n z0)*2^(e*(ts.length-1-n)):=by
   have h1:(M ts).drop n=(M ts).getD n 0::(M ts).drop (n+1):=by
    rw[CU (by rw[s];omega)];congr 1;rw[Z,Ae (by rw[s];omega)];rfl
   rw[h1,hv,C3,Ed,s,<- hw,<- gP,show ts.length-(n+1)=ts.length-1-n by omega];generalize O (ts.getD n z0)*2^(e*(ts.length-1-n))=A;grind
  have fw:=gw.fits;have fp:=(fw.mul hr.fits);have ft:AY (K+(e*(ts.length-1-n) / 32+1)) (O (ts.getD n z0)*2^(e*(ts.length-1-n))):=(A' ht n).fits.mul (PE _);have hgood:u (K+1+(ts.length-n)*(X+(e / 32+1)+1)) (cn (O w*O r+O (ts.getD n z0)*2^(e*(ts.length-1-n)))):=by
   refine (AZ ((fp.mono (k:=K+1+(ts.length-(n+1))*(X+(e / 32+1)+1)+X+(e / 32+1)) (by omega)).add (ft.mono (by omega)))).mono (by omega)
  obtain⟨w',q1,q2,q3⟩:=ih (cn (O w*O r+O (ts.getD n z0)*2^(e*(ts.length-1-n)))) (by omega) (by rw[At,hst]) hgood;refine⟨w',q1,.inr ?_,?_⟩
  ·rcases q2 with ⟨g1,g2⟩ | g
   ·rw[g1];rw[g1,At] at q1;rw[q1]
   ·exact g
  ·rw[e0];have l1:=fp.len;have l2:=ft.len;obtain⟨gw1,gw2⟩:=gw;have k:=Ayf ts r (e:Nat) w (n:Nat) (O (ts.getD n z0)*2^(e*(ts.length-1-n))) (by simp) (by omega)
    (NA gw1 hr.1 (by have:=hr.2;omega))
    (by rw[w1,F];exact LB t1 _ (by omega))
    (by
     have:=Mt (na:=decide (O w*O r<0)) (nb:=decide (O (ts.getD n z0)*2^(e*(ts.length-1-n))<0)) (BC (O w*O r).natAbs) (BC (O (ts.getD n z0)*2^(e*(ts.length-1-n))).natAbs) (by omega) (by omega);rw[Fr,Fr] at this;exact this)
   rw[w2] at k;exact W.loop k q3
theorem SW{K X:Nat}{rs:List Rn}{r:Rn}(ht:∀ t∈rs,u K t)(hr:u X r)(e:Nat)(hS:K+2+(rs.length+1)*(X+(e / 32+1)+1)<=1048576)(he:e<=1073741824) :
  H I 80 [sL pc rs,.agg [.bool r.1,.sl r.2.length (lm r.2)],.int .i64 (e:Nat)] (Ab (hv (Y (M rs)) (O r) (2^e))):=by
 have hle:rs.length<=1048576:=by
  have:rs.length*1<=(rs.length+1)*(X+(e / 32+1)+1):=Bx (by omega) (by omega);omega
 have hK:K<=1048576:=by omega
 have htr:=ED (fun r h=>(ht r h).mono hK) hle;have hl:=Bn (M rs);rw[s] at hl;have gts:∀ t∈(Y (M rs)).map cn,u K t:=JE (FN (C4 ht));have hS2:K+2+(((Y (M rs)).map cn).length+1)*(X+(e / 32+1)+1)<=1048576:=by
  have:(((Y (M rs)).map cn).length+1)*(X+(e / 32+1)+1)<=(rs.length+1)*(X+(e / 32+1)+1):=A8 _ (by simp;omega);omega
 obtain⟨w',q1,q2,q3⟩:=Apj gts hr e hS2 he ((Y (M rs)).map cn).length z0 (Am _) (by
  rw[AH,N,Jo];rfl) (L7 _)
 rw[AH] at q1 q2;have e1:D R (((((Y (M rs)).map cn).length:Nat):Int)-1)=((((Y (M rs)).map cn).length:Nat):Int)-1:=AW (by omega) (by rw[N];omega);have hcn:w'=cn (hv (Y (M rs)) (O r) (2^e)):=by
  rcases q2 with ⟨g1,g2⟩ | g
  ·(first|rw[N] at g2|(unfold sL at g2;rw[N] at g2));rw[g1,A3 g2];rfl
  ·exact g
 (first|rw[<- N (f:=cn)] at htr|(unfold sL at htr;rw[<- N (f:=cn)] at htr));have h:=Ayh rs ((Y (M rs)).map cn) r w' (e:Nat) (-1) htr (by rw[e1];exact q3);rw[hcn] at h;exact h
def KI(na:Bool)(nb:Bool)(la:Nat)(xa:List AV)(lb:Nat)(xb:List AV)(n:Nat)(cs:List AV)(i:Int)(x:Int)(c:Int)(k:Int):Ak:=(Q 4 (.box [.bool false,.sl 0 []]::(.val (.bool na)::(Q 1 (.val (.bool nb)::(.val (.sl lb xb)::(.own 1 n cs::(.val (.int .i64 i)::(.val (.int .u32 x)::(.val (.int .u64 c)::(Q 28 (.val (.sl la xa)::(.val (.int .i64 (la:Int))::(.val (.int .i64 i)::(Q 4 (.val (.sl lb xb)::(.val (.int .i64 (lb:Int))::(.val (.int .i64 k)::(Q 43 [])))))))))))))))))))
theorem xP(na:Bool)(nb:Bool)(la:Nat)(xa:List AV)(lb:Nat)(xb:List AV)(n:Nat)(cs:List AV)(i:Int)(x:Int)(c:Int)(k:Int)(ds:List AV)(y z:Int)(c1:B (k<(lb:Int))=true)(n1:0<=k/\k<(lb:Int))(n2:Bl (g (A k*1) xb) 0 1 true=some (.int .u32 y))(n3:0<=(D R (i+k))/\(D R (i+k))<(n:Int))(n4:Bl cs (A (D R (i+k))*1) 1 true=some (.int .u32 z))(n5:0<=(D R (i+k))/\(D R (i+k))<(n:Int))(n6:Cv cs (A (D R (i+k))*1) [.int .u32 (D A4 (D U ((D U ((D U ((D U x)*(D U y)))+(D U z)))+c)))]=some ds):W I Qu (KI na nb la xa lb xb n cs i x c k) .norm (KI na nb la xa lb xb n ds i x (d (D U ((D U ((D U ((D U x)*(D U y)))+(D U z)))+c)) (2^(min (A 32) (Aj .u64)))) (D R (k+1))):=C m 300 [.b true,.v (.int .u32 y),.v (.int .u32 z),.l ds] [4,5,7,8,9,10,11,12,41,42,43,48,49,50] (L c1 (L n1 (L n2 (L n3 (L n4 (L HE (L n5 (L n6 a0)))))))) (by kernel_rfl)
theorem xQ(na:Bool)(nb:Bool)(la:Nat)(xa:List AV)(lb:Nat)(xb:List AV)(n:Nat)(cs:List AV)(i:Int)(x:Int)(c:Int)(k:Int)(c1:B (k<(lb:Int))=false):W I Qu (KI na nb la xa lb xb n cs i x c k) (.exit 2) (KI na nb la xa lb xb n cs i x c k):=C m 300 [.b false] [4,5,7,8,9,10,11,12,41,42,43,48,49,50] (L c1 a0) (by kernel_rfl)
def NH(na:Bool)(nb:Bool)(la:Nat)(xa:List AV)(lb:Nat)(xb:List AV)(n:Nat)(cs:List AV)(i:Int):Ak:=(Q 4 (.box [.bool false,.sl 0 []]::(.val (.bool na)::(Q 1 (.val (.bool nb)::(.val (.sl lb xb)::(.own 1 n cs::(Q 31 (.val (.sl la xa)::(.val (.int .i64 (la:Int))::(.val (.int .i64 i)::(Q 50 []))))))))))))
theorem lB(na nb:Bool)(la:Nat)(xa:List AV)(lb:Nat)(xb:List AV)(n:Nat)(cs:List AV)(i:Int)(h:(B (i<(la:Int)))=false):W I Ux (NH na nb la xa lb xb n cs i) (.exit 0) (NH na nb la xa lb xb n cs i):=C m 300 [.b false] [4,5,7,8,9,41,42,43] (L (show (B (i<(la:Int)))=false from h) a0) (by kernel_rfl)
theorem cX(na nb:Bool)(la:Nat)(xa:List AV)(lb:Nat)(xb:List AV)(n:Nat)(cs ds es:List AV)(i x c k:Int)(h:(B (i<(la:Int)))=true)(hi:0<=i/\i<(la:Int))(hx:Bl (g (A i*1) xa) 0 1 true=some (.int .u32 x))(hl:W I (.loop Qu) (KI na nb la xa lb xb n cs i x 0 0) (.exit 2) (KI na nb la xa lb xb n ds i x c k))(hix:0<=D R (i+(lb:Int))/\D R (i+(lb:Int))<(n:Int))(hst:Cv ds (A (D R (i+(lb:Int)))*1) [.int .u32 (D A4 c)]=some es):W I Ux (NH na nb la xa lb xb n cs i) .norm (NH na nb la xa lb xb n es (D R (i+1))):=(W.seq (C (t:=(Q 4 (.box [.bool false,.sl 0 []]::(.val (.bool na)::(Q 1 (.val (.bool nb)::(.val (.sl lb xb)::(.own 1 n cs::(Q 31 (.val (.sl la xa)::(vi (la:Int)::(vi i::(.val (.bool (B (i<(la:Int))))::(Q 49 [])))))))))))))) m 300 [] [4,5,7,8,9,41,42,43,44] a0) (W.seq (C (t:=(Q 4 (.box [.bool false,.sl 0 []]::(.val (.bool na)::(Q 1 (.val (.bool nb)::(.val (.sl lb xb)::(.own 1 n cs::(Q 31 (.val (.sl la xa)::(vi (la:Int)::(vi i::(.val (.bool (B (i<(la:Int))))::(Q 49 [])))))))))))))) m 300 [.b true] [4,5,7,8,9,41,42,43,44] (L (show (B (i<(la:Int)))=true from h) a0)) (W.seq (Ci (W.seq (C (t:=(Q 4 (.box [.bool false,.sl 0 []]::(.val (.bool na)::(Q 1 (.val (.bool nb)::(.val (.sl lb xb)::(.own 1 n cs::(vi i::(.val (.int .u32 x)::(Q 29 (.val (.sl la xa)::(vi (la:Int)::(vi i::(.val (.bool (B (i<(la:Int))))::(vi i::(.mem (g (A i*1) xa)::(.val (.int .u32 x)::(Q 46 []))))))))))))))))))) m 300 [.v (.int .u32 x)] [4,5,7,8,9,10,11,41,42,43,44,45,46,47] (L (show 0<=i/\i<(la:Int) from hi) (L (show Bl (g (A i*1) xa) 0 1 true=some (.int .u32 x) from hx) a0))) (W.seq (C (t:=(Q 4 (.box [.bool false,.sl 0 []]::(.val (.bool na)::(Q 1 (.val (.bool nb)::(.val (.sl lb xb)::(.own 1 n cs::(vi i::(.val (.int .u32 x)::(.val (.int .u64 0)::(Q 28 (.val (.sl la xa)::(vi (la:Int)::(vi i::(.val (.bool (B (i<(la:Int))))::(vi i::(.mem (g (A i*1) xa)::(.val (.int .u32 x)::(Q 46 [])))))))))))))))))))) m 300 [] [4,5,7,8,9,10,11,12,41,42,43,44,45,46,47] a0) (W.seq (W.seq (C (t:=(Q 4 (.box [.bool false,.sl 0 []]::(.val (.bool na)::(Q 1 (.val (.bool nb)::(.val (.sl lb xb)::(.own 1 n cs::(vi i::(.val (.int .u32 x)::(.val (.int .u64 0)::(Q 28 (.val (.sl la xa)::(vi (la:Int)::(vi i::(Q 4 (.val (.sl lb xb)::(vi (lb:Int)::(vi 0::(Q 43 [])))))))))))))))))))) m 300 [] [4,5,7,8,9,10,11,12,41,42,43,48,49,50] a0) (W.block hl)) (C (t:=(Q 4 (.box [.bool false,.sl 0 []]::(.val (.bool na)::(Q 1 (.val (.bool nb)::(.val (.sl lb xb)::(.own 1 n es::(vi i::(.val (.int .u32 x)::(.val (.int .u64 c)::(Q 28 (.val (.sl la xa)::(vi (la:Int)::(vi i::(Q 4 (.val (.sl lb xb)::(vi (lb:Int)::(vi k::(Q 29 (.dup 9::(vi i::(.val (.sl lb xb)::(vi (lb:Int)::(vi (D R (i+(lb:Int)))::(.val (.int .u64 c)::(.val (.int .u32 (D A4 c))::(.ptr 9 (A (D R (i+(lb:Int)))*1)::(Q 6 []))))))))))))))))))))))))))))) m 300 [.l es] [4,5,7,8,9,10,11,12,41,42,43,48,49,50,80,81,82,83,84,85,86,87] (L (show 0<=(D R (i+(lb:Int)))/\(D R (i+(lb:Int)))<(n:Int) from hix) (L (show Cv ds (A (D R (i+(lb:Int)))*1) [.int .u32 (D A4 c)]=some es from hst) a0))))))) (C (t:=(Q 4 (.box [.bool false,.sl 0 []]::(.val (.bool na)::(Q 1 (.val (.bool nb)::(.val (.sl lb xb)::(.own 1 n es::(Q 31 (.val (.sl la xa)::(vi (la:Int)::(vi (D R (i+1))::(Q 50 []))))))))))))) m 300 [] [4,5,7,8,9,41,42,43] a0))))
theorem lC(na nb:Bool)(xs ys:List Int)(hx:AI xs)(hy:AI ys)(n i:Nat)(hn:n<=1048576)(hib:i+ys.length<=n):∀ (r k:Nat) (out:List Int) (c:Int),r+k=ys.length->out.length=n->AI out->0<=c/\c<4294967296 ->
  W I (.loop Qu) (KI na nb xs.length (lm xs) ys.length (lm ys) n (lm out) (i:Int) (xs.getD i 0) c (k:Int)) (.exit 2)
   (KI na nb xs.length (lm xs) ys.length (lm ys) n (lm (GW (xs.getD i 0) ys i r k out c).1) (i:Int) (xs.getD i 0) (GW (xs.getD i 0) ys i r k out c).2 (ys.length:Int)):=by
 intro r;induction r with
 | zero =>
  intro k out c hk _ _ _;have hk':k=ys.length:=by omega
  subst hk';exact Al (xQ na nb xs.length (lm xs) ys.length (lm ys) n (lm out) (i:Int) (xs.getD i 0) c (ys.length:Int) (by simp)) (by nofun)
 | succ r ih =>
  intro k out c hk hl hu hc;have hai:=AA hx i;have hbk:=AA hy k;have hok:=AA hu (i+k);obtain⟨w1,w2,w3,w4⟩:=Vm hai hbk hc hok;have ei:D R ((i:Int)+(k:Int))=((i+k:Nat):Int):=by rw[AW (by omega) (by omega)];omega
  have ek:D R ((k:Int)+1)=((k+1:Nat):Int):=by rw[AW (by omega) (by omega)];omega
  have hz:=Vj (xs:=out) (i:=i+k) (by omega);have hyk:=DW (xs:=ys) (i:=k) (by omega);have hst:=HO (xs:=out) (i:=i+k) (v:=(c+(out.getD (i+k) 0+xs.getD i 0*ys.getD k 0)) % 4294967296) (by omega);have eW:D U (D U (D U (D U (xs.getD i 0)*D U (ys.getD k 0))+D U (out.getD (i+k) 0))+c)=c+(out.getD (i+k) 0+xs.getD i 0*ys.getD k 0):=by
   have q1:D U (xs.getD i 0)=xs.getD i 0:=by rw[B1];omega
   have q2:D U (ys.getD k 0)=ys.getD k 0:=by rw[B1];omega
   have q3:D U (out.getD (i+k) 0)=out.getD (i+k) 0:=by rw[B1];omega
   rw[q1,q2,q3,B1,B1,B1];omega
  have eS:d (c+(out.getD (i+k) 0+xs.getD i 0*ys.getD k 0)) (2^(min (A 32) (Aj .u64)))=(c+(out.getD (i+k) 0+xs.getD i 0*ys.getD k 0)) / 4294967296:=by
   show d _ 4294967296=_;rw[t _ (by omega)]
  have h1:=xP na nb xs.length (lm xs) ys.length (lm ys) n (lm out) (i:Int) (xs.getD i 0) c (k:Int) (lm (out.set (i+k) ((c+(out.getD (i+k) 0+xs.getD i 0*ys.getD k 0)) % 4294967296))) (ys.getD k 0) (out.getD (i+k) 0)
   (by simp;omega) (by omega) (by rw[F];exact hyk) (by rw[ei];omega) (by rw[ei,F];exact hz) (by rw[ei];omega) (by rw[ei,F,eW,Ds];exact hst)
  rw[eW,eS,ek] at h1;exact W.loop h1 (ih (k+1) _ _ (by omega) (by simpa using hl) (Cq hu (by omega)) (by omega))
theorem xR(na nb:Bool)(xs ys:List Int)(hx:AI xs)(hy:AI ys)(hN:xs.length+ys.length<=1048576):∀ (r i:Nat) (out:List Int),r+i=xs.length->out.length=xs.length+ys.length->AI out->(∀ j,i+ys.length<=j->out.getD j 0=0) ->
  ∃ out',out'.length=xs.length+ys.length/\AI out'/\Aa out'=Aa out+4294967296^i*(Aa (xs.drop i)*Aa ys) /\
   W I (.loop Ux) (NH na nb xs.length (lm xs) ys.length (lm ys) (xs.length+ys.length) (lm out) (i:Int)) (.exit 0) (NH na nb xs.length (lm xs) ys.length (lm ys) (xs.length+ys.length) (lm out') (xs.length:Int)):=by
 intro r;induction r with
 | zero =>
  intro i out hi hl hu _;have hi':i=xs.length:=by omega
  subst hi';refine⟨out,hl,hu,by simp[Aa],?_⟩;exact Al (lB na nb xs.length (lm xs) ys.length (lm ys) (xs.length+ys.length) (lm out) (xs.length:Int) (by simp)) (by nofun)
 | succ r ih =>
  intro i out hi hl hu hz;have hai:=AA hx i;have hlt:i<xs.length:=by omega
  have hin:=lC na nb xs ys hx hy (xs.length+ys.length) i hN (by omega) ys.length 0 out 0 (by omega) hl hu (by omega);obtain⟨g1,g2,g3,g4,g5⟩:=X5 (i:=i) hai hy ys.length 0 out 0 (by omega) (by omega) hu (by omega);generalize GW (xs.getD i 0) ys i ys.length 0 out 0=q at *
  obtain⟨ds,c⟩:=q;dsimp only at g1 g2 g3 g4 g5 hin;have ei:D R ((i:Int)+(ys.length:Int))=((i+ys.length:Nat):Int):=by rw[AW (by omega) (by omega)];omega
  have ei1:D R ((i:Int)+1)=((i+1:Nat):Int):=by rw[AW (by omega) (by omega)];omega
  have ec:D A4 c=c:=by rw[Ds];omega
  have hst:=HO (xs:=ds) (i:=i+ys.length) (v:=c) (by omega);have hxi:=DW (xs:=xs) (i:=i) hlt;have h1:=cX na nb xs.length (lm xs) ys.length (lm ys) (xs.length+ys.length) (lm out) (lm ds) (lm (ds.set (i+ys.length) c)) (i:Int) (xs.getD i 0) c (ys.length:Int) (by simp;omega) (by omega) (by rw[F];exact hxi) hin (by rw[ei];omega) (by rw[ei,F,ec];exact hst);rw[ei1] at h1;obtain⟨out',k1,k2,k3,k4⟩:=ih (i+1) (ds.set (i+ys.length) c) (by omega) (by simp;omega) (Cq g2 g3) (fun j hj=>by rw[Mo (by omega),g5 j (by omega),hz j (by omega)]);refine⟨out',k1,k2,?_,W.loop h1 k4⟩;have hv:Aa (ds.set (i+ys.length) c)=Aa out+4294967296^i*(xs.getD i 0*Aa ys):=by
   rw[DA ds _ _ (by omega),g5 _ (Am _),hz _ (Am _)];simp only[FB,EP,Db,EI] at g4 |-;exact g4
  have hd:Aa (xs.drop i)=xs.getD i 0+4294967296*Aa (xs.drop (i+1)):=C2 xs i;rw[k3,hv,hd,Ay];generalize (4294967296:Int)^i=p at *
  generalize Aa (xs.drop (i+1))=V at *
  grind
theorem lD(na:Bool)(xs:List Int)(nb:Bool)(ys:List Int)(a b:Int)(h1:H I 143 [.agg [.bool na,sL lm xs]] (.tup [.bool (B (a<0)),.sl (G (E a)).length (lm (G (E a)))]))(h2:H I 143 [.agg [.bool nb,sL lm ys]] (.tup [.bool (B (b<0)),.sl (G (E b)).length (lm (G (E b)))]))(z:((((G (E a)).length:Nat):Int)==0)=true):H I 112 [.agg [.bool na,sL lm xs],.agg [.bool nb,sL lm ys]] (.agg [.bool false,.sl 0 []]):=Bp (ps:=[H I 143 [.agg [.bool na,sL lm xs]] (.tup [.bool (B (a<0)),.sl ((G (E a)).length) (lm (G (E a)))]),H I 143 [.agg [.bool nb,sL lm ys]] (.tup [.bool (B (b<0)),.sl ((G (E b)).length) (lm (G (E b)))]),((((G (E a)).length:Nat):Int)==0)=true,true=true]) m rfl 300 rfl [.r (.tup [.bool (B (a<0)),.sl ((G (E a)).length) (lm (G (E a)))]),.r (.tup [.bool (B (b<0)),.sl ((G (E b)).length) (lm (G (E b)))]),.b true,.b true] (by kernel_rfl) ⟨h1,h2,z,rfl,trivial⟩
theorem lE(na:Bool)(xs:List Int)(nb:Bool)(ys:List Int)(a b:Int)(h1:H I 143 [.agg [.bool na,sL lm xs]] (.tup [.bool (B (a<0)),.sl (G (E a)).length (lm (G (E a)))]))(h2:H I 143 [.agg [.bool nb,sL lm ys]] (.tup [.bool (B (b<0)),.sl (G (E b)).length (lm (G (E b)))]))(y:((((G (E a)).length:Nat):Int)==0)=false)(z:((((G (E b)).length:Nat):Int)==0)=true):H I 112 [.agg [.bool na,sL lm xs],.agg [.bool nb,sL lm ys]] (.agg [.bool false,.sl 0 []]):=Bp (ps:=[H I 143 [.agg [.bool na,sL lm xs]] (.tup [.bool (B (a<0)),.sl ((G (E a)).length) (lm (G (E a)))]),H I 143 [.agg [.bool nb,sL lm ys]] (.tup [.bool (B (b<0)),.sl ((G (E b)).length) (lm (G (E b)))]),((((G (E a)).length:Nat):Int)==0)=false,((((G (E b)).length:Nat):Int)==0)=true]) m rfl 300 rfl [.r (.tup [.bool (B (a<0)),.sl ((G (E a)).length) (lm (G (E a)))]),.r (.tup [.bool (B (b<0)),.sl ((G (E b)).length) (lm (G (E b)))]),.b false,.b true] (by kernel_rfl) ⟨h1,h2,y,z,trivial⟩
theorem lF(na:Bool)(xs:List Int)(nb:Bool)(ys:List Int)(a b:Int)(h1:H I 143 [.agg [.bool na,sL lm xs]] (.tup [.bool (B (a<0)),.sl (G (E a)).length (lm (G (E a)))]))(h2:H I 143 [.agg [.bool nb,sL lm ys]] (.tup [.bool (B (b<0)),.sl (G (E b)).length (lm (G (E b)))]))(out:List Int)(r:Int)(y:((((G (E a)).length:Nat):Int)==0)=false)(z:((((G (E b)).length:Nat):Int)==0)=false)(hmk:0<=D R ((((G (E a)).length:Nat):Int)+(((G (E b)).length:Nat):Int))/\D R ((((G (E a)).length:Nat):Int)+(((G (E b)).length:Nat):Int))<=1048576)(hl:W I (.loop Ux) (NH (B (a<0)) (B (b<0)) (G (E a)).length (lm (G (E a))) (G (E b)).length (lm (G (E b))) (A (D R ((((G (E a)).length:Nat):Int)+(((G (E b)).length:Nat):Int)))) (Co [.int .u32 0] (A (D R ((((G (E a)).length:Nat):Int)+(((G (E b)).length:Nat):Int))))) 0) (.exit 0) (NH (B (a<0)) (B (b<0)) (G (E a)).length (lm (G (E a))) (G (E b)).length (lm (G (E b))) (A (D R ((((G (E a)).length:Nat):Int)+(((G (E b)).length:Nat):Int)))) (lm out) (((G (E a)).length:Nat):Int)))(h3:H I 152 [.bool (!((B (a<0))==(B (b<0)))),.sl (A (D R ((((G (E a)).length:Nat):Int)+(((G (E b)).length:Nat):Int)))) (lm out)] (.agg [.bool (B (r<0)),.sl ((G (E r)).length) (lm (G (E r)))])):H I 112 [.agg [.bool na,sL lm xs],.agg [.bool nb,sL lm ys]] (.agg [.bool (B (r<0)),.sl ((G (E r)).length) (lm (G (E r)))]):=p (fn:=Uy) (s:=(Q 4 (.box [.bool (B (r<0)),.sl ((G (E r)).length) (lm (G (E r)))]::(.val (.bool (B (a<0)))::(Q 1 (.val (.bool (B (b<0)))::(.val (.sl ((G (E b)).length) (lm (G (E b))))::(.val (.sl (A (D R ((((G (E a)).length:Nat):Int)+(((G (E b)).length:Nat):Int)))) (lm out))::(Q 31 (.val (.sl ((G (E a)).length) (lm (G (E a))))::(.val (.int .i64 (((G (E a)).length:Nat):Int))::(.val (.int .i64 (((G (E a)).length:Nat):Int))::(Q 45 (.val (.bool (B (a<0)))::(.val (.bool (B (b<0)))::(.val (.bool (!((B (a<0))==(B (b<0)))))::(.val (.sl (A (D R ((((G (E a)).length:Nat):Int)+(((G (E b)).length:Nat):Int)))) (lm out))::(.val (.agg [.bool (B (r<0)),.sl ((G (E r)).length) (lm (G (E r)))])::[])))))))))))))))))) (ex := .ret) rfl rfl (W.seq (C (t:=(.val (.agg [.bool na,sL lm xs])::(.val (.agg [.bool nb,sL lm ys])::(.box [.bool na,sL lm xs]::(.box [.bool nb,sL lm ys]::(.box [.bool false,.sl 0 []]::(Q 89 []))))))) m 300 [] [0,1,2,3,4] a0) (W.seq (C (t:=(.val (.agg [.bool na,sL lm xs])::(.val (.agg [.bool nb,sL lm ys])::(.box [.bool na,sL lm xs]::(.box [.bool nb,sL lm ys]::(.box [.bool false,.sl 0 []]::(.val (.bool (B (a<0)))::(.val (.sl ((G (E a)).length) (lm (G (E a))))::(Q 9 (.val (.tup [.bool (B (a<0)),.sl ((G (E a)).length) (lm (G (E a)))])::(.val (.agg [.bool na,sL lm xs])::(.val (.tup [.bool (B (a<0)),.sl ((G (E a)).length) (lm (G (E a)))])::(.val (.bool (B (a<0)))::(.val (.sl ((G (E a)).length) (lm (G (E a))))::(Q 73 []))))))))))))))) m 300 [.r (.tup [.bool (B (a<0)),.sl ((G (E a)).length) (lm (G (E a)))])] [0,1,2,3,4,5,6,16,17,18,19,20] (L (show H I 143 [.agg [.bool na,sL lm xs]] (.tup [.bool (B (a<0)),.sl ((G (E a)).length) (lm (G (E a)))]) from h1) a0)) (W.seq (C (t:=(.val (.agg [.bool na,sL lm xs])::(.val (.agg [.bool nb,sL lm ys])::(.box [.bool na,sL lm xs]::(.box [.bool nb,sL lm ys]::(.box [.bool false,.sl 0 []]::(.val (.bool (B (a<0)))::(.val (.sl ((G (E a)).length) (lm (G (E a))))::(.val (.bool (B (b<0)))::(.val (.sl ((G (E b)).length) (lm (G (E b))))::(Q 7 (.val (.tup [.bool (B (a<0)),.sl ((G (E a)).length) (lm (G (E a)))])::(.val (.agg [.bool na,sL lm xs])::(.val (.tup [.bool (B (a<0)),.sl ((G (E a)).length) (lm (G (E a)))])::(.val (.bool (B (a<0)))::(.val (.sl ((G (E a)).length) (lm (G (E a))))::(.val (.tup [.bool (B (b<0)),.sl ((G (E b)).length) (lm (G (E b)))])::(.val (.agg [.bool nb,sL lm ys])::(.val (.tup [.bool (B (b<0)),.sl ((G (E b)).length) (lm (G (E b)))])::(.val (.bool (B (b<0)))::(.val (.sl ((G (E b)).length) (lm (G (E b))))::(Q 68 [])))))))))))))))))))))) m 300 [.r (.tup [.bool (B (b<0)),.sl ((G (E b)).length) (lm (G (E b)))])] [0,1,2,3,4,5,6,7,8,16,17,18,19,20,21,22,23,24,25] (L (show H I 143 [.agg [.bool nb,sL lm ys]] (.tup [.bool (B (b<0)),.sl ((G (E b)).length) (lm (G (E b)))]) from h2) a0)) (W.seq (C (t:=(.val (.agg [.bool na,sL lm xs])::(.val (.agg [.bool nb,sL lm ys])::(.box [.bool na,sL lm xs]::(.box [.bool nb,sL lm ys]::(.box [.bool false,.sl 0 []]::(.val (.bool (B (a<0)))::(.val (.sl ((G (E a)).length) (lm (G (E a))))::(.val (.bool (B (b<0)))::(.val (.sl ((G (E b)).length) (lm (G (E b))))::(Q 7 (.val (.tup [.bool (B (a<0)),.sl ((G (E a)).length) (lm (G (E a)))])::(.val (.agg [.bool na,sL lm xs])::(.val (.tup [.bool (B (a<0)),.sl ((G (E a)).length) (lm (G (E a)))])::(.val (.bool (B (a<0)))::(.val (.sl ((G (E a)).length) (lm (G (E a))))::(.val (.tup [.bool (B (b<0)),.sl ((G (E b)).length) (lm (G (E b)))])::(.val (.agg [.bool nb,sL lm ys])::(.val (.tup [.bool (B (b<0)),.sl ((G (E b)).length) (lm (G (E b)))])::(.val (.bool (B (b<0)))::(.val (.sl ((G (E b)).length) (lm (G (E b))))::(.val (.sl ((G (E a)).length) (lm (G (E a))))::(vi (((G (E a)).length:Nat):Int)::(.val (.bool ((((G (E a)).length:Nat):Int)==0))::(.val (.bool ((((G (E a)).length:Nat):Int)==0))::(.val (.sl ((G (E b)).length) (lm (G (E b))))::(vi (((G (E b)).length:Nat):Int)::(.val (.bool ((((G (E b)).length:Nat):Int)==0))::(.val (.bool ((((G (E b)).length:Nat):Int)==0))::(Q 60 [])))))))))))))))))))))))))))))) m 300 [.b false,.b false] [0,1,2,3,4,5,6,7,8,16,17,18,19,20,21,22,23,24,25,26,27,28,29,30,31,32,33] (L (show ((((G (E a)).length:Nat):Int)==0)=false from y) (L (show ((((G (E b)).length:Nat):Int)==0)=false from z) a0))) (W.seq (C (t:=(.val (.agg [.bool na,sL lm xs])::(.val (.agg [.bool nb,sL lm ys])::(.box [.bool na,sL lm xs]::(.box [.bool nb,sL lm ys]::(.box [.bool false,.sl 0 []]::(.val (.bool (B (a<0)))::(.val (.sl ((G (E a)).length) (lm (G (E a))))::(.val (.bool (B (b<0)))::(.val (.sl ((G (E b)).length) (lm (G (E b))))::(.own 1 (A (D R ((((G (E a)).length:Nat):Int)+(((G (E b)).length:Nat):Int)))) (Co [.int .u32 0] (A (D R ((((G (E a)).length:Nat):Int)+(((G (E b)).length:Nat):Int)))))::(Q 6 (.val (.tup [.bool (B (a<0)),.sl ((G (E a)).length) (lm (G (E a)))])::(.val (.agg [.bool na,sL lm xs])::(.val (.tup [.bool (B (a<0)),.sl ((G (E a)).length) (lm (G (E a)))])::(.val (.bool (B (a<0)))::(.val (.sl ((G (E a)).length) (lm (G (E a))))::(.val (.tup [.bool (B (b<0)),.sl ((G (E b)).length) (lm (G (E b)))])::(.val (.agg [.bool nb,sL lm ys])::(.val (.tup [.bool (B (b<0)),.sl ((G (E b)).length) (lm (G (E b)))])::(.val (.bool (B (b<0)))::(.val (.sl ((G (E b)).length) (lm (G (E b))))::(.val (.sl ((G (E a)).length) (lm (G (E a))))::(vi (((G (E a)).length:Nat):Int)::(.val (.bool ((((G (E a)).length:Nat):Int)==0))::(.val (.bool ((((G (E a)).length:Nat):Int)==0))::(.val (.sl ((G (E b)).length) (lm (G (E b))))::(vi (((G (E b)).length:Nat):Int)::(.val (.bool ((((G (E b)).length:Nat):Int)==0))::(.val (.bool ((((G (E b)).length:Nat):Int)==0))::(Q 1 (.val (.sl ((G (E a)).length) (lm (G (E a))))::(vi (((G (E a)).length:Nat):Int)::(.val (.sl ((G (E b)).length) (lm (G (E b))))::(vi (((G (E b)).length:Nat):Int)::(vi (D R ((((G (E a)).length:Nat):Int)+(((G (E b)).length:Nat):Int)))::(Q 54 []))))))))))))))))))))))))))))))))))))) m 300 [] ((0)::(1)::(2)::(3)::(4)::(5)::(6)::(7)::(8)::(9)::(16)::(17)::(18)::(19)::(20)::(21)::(22)::(23)::(24)::(25)::(26)::(27)::(28)::(29)::(30)::(31)::(32)::(33)::(35)::(36)::(37)::(38)::(39)::[]) (L (show 0<=(D R ((((G (E a)).length:Nat):Int)+(((G (E b)).length:Nat):Int)))/\(D R ((((G (E a)).length:Nat):Int)+(((G (E b)).length:Nat):Int)))<=1048576 from hmk) a0)) (W.seq (W.seq (C (t:=(Q 4 (.box [.bool false,.sl 0 []]::(.val (.bool (B (a<0)))::(Q 1 (.val (.bool (B (b<0)))::(.val (.sl ((G (E b)).length) (lm (G (E b))))::(.own 1 (A (D R ((((G (E a)).length:Nat):Int)+(((G (E b)).length:Nat):Int)))) (Co [.int .u32 0] (A (D R ((((G (E a)).length:Nat):Int)+(((G (E b)).length:Nat):Int)))))::(Q 31 (.val (.sl ((G (E a)).length) (lm (G (E a))))::(vi (((G (E a)).length:Nat):Int)::(vi 0::(Q 50 []))))))))))))) m 300 [] [4,5,7,8,9,41,42,43] a0) (W.block hl)) (C (t:=(Q 4 (bN r::(.val (.bool (B (a<0)))::(Q 1 (.val (.bool (B (b<0)))::(.val (.sl ((G (E b)).length) (lm (G (E b))))::(.val (.sl (A (D R ((((G (E a)).length:Nat):Int)+(((G (E b)).length:Nat):Int)))) (lm out))::(Q 31 (.val (.sl ((G (E a)).length) (lm (G (E a))))::(vi (((G (E a)).length:Nat):Int)::(vi (((G (E a)).length:Nat):Int)::(Q 45 (.val (.bool (B (a<0)))::(.val (.bool (B (b<0)))::(.val (.bool (!((B (a<0))==(B (b<0)))))::(.val (.sl (A (D R ((((G (E a)).length:Nat):Int)+(((G (E b)).length:Nat):Int)))) (lm out))::(.val (.agg [.bool (B (r<0)),.sl ((G (E r)).length) (lm (G (E r)))])::[])))))))))))))))))) (ex := .ret) m 300 [.r (.agg [.bool (B (r<0)),.sl ((G (E r)).length) (lm (G (E r)))])] [4,5,7,8,9,41,42,43,89,90,91,92,93] (L (show H I 152 [.bool (!((B (a<0))==(B (b<0)))),.sl (A (D R ((((G (E a)).length:Nat):Int)+(((G (E b)).length:Nat):Int)))) (lm out)] (.agg [.bool (B (r<0)),.sl ((G (E r)).length) (lm (G (E r)))]) from h3) a0)))))))) (by nofun) rfl
theorem XH(a b:Int)(zs:List Int)(h:Aa zs=(a.natAbs:Int)*(b.natAbs:Int)):rv (!(decide (a<0)==decide (b<0))) zs=a*b:=by
 unfold rv;rw[h];by_cases g1:a<0 <;> by_cases g2:b<0
 ·have e1:(a.natAbs:Int) = -a:=by omega
  have e2:(b.natAbs:Int) = -b:=by omega
  rw[e1,e2];simp[g1,g2] <;> grind
 ·have e1:(a.natAbs:Int) = -a:=by omega
  have e2:(b.natAbs:Int)=b:=by omega
  rw[e1,e2];simp[g1,g2] <;> grind
 ·have e1:(a.natAbs:Int)=a:=by omega
  have e2:(b.natAbs:Int) = -b:=by omega
  rw[e1,e2];simp[g1,g2] <;> grind
 ·have e1:(a.natAbs:Int)=a:=by omega
  have e2:(b.natAbs:Int)=b:=by omega
  rw[e1,e2];simp[g1,g2]
theorem RX{na nb:Bool}{xs ys:List Int}(hx:AI xs)(hy:AI ys)(hN:xs.length+ys.length<=1048576):H I 112 [.agg [.bool na,sL lm xs],.agg [.bool nb,sL lm ys]] (Ab (rv na xs*rv nb ys)):=by
 have l1:=Es (neg:=na) hx;have l2:=Es (neg:=nb) hy;have k1:=CZ (neg:=na) hx (by omega);have k2:=CZ (neg:=nb) hy (by omega);generalize rv na xs=a at *
 generalize rv nb ys=b at *
 have z1:=DO a.natAbs;have z2:=DO b.natAbs;by_cases ha:a=0
 ·have h:=lD na xs nb ys a b k1 k2 (by rw[beq_iff_eq];omega);rw[ha,DF];exact h
 by_cases hb:b=0
 ·have h:=lE na xs nb ys a b k1 k2 (by rw[beq_eq_false_iff_ne];omega) (by rw[beq_iff_eq];omega);rw[hb,AG];exact h
 have e1:D R ((((G (E a)).length:Nat):Int)+(((G (E b)).length:Nat):Int))=(((G (E a)).length+(G (E b)).length:Nat):Int):=by rw[AW (by omega) (by omega)];omega
 have e2:(A (D R ((((G (E a)).length:Nat):Int)+(((G (E b)).length:Nat):Int))))=(G (E a)).length+(G (E b)).length:=by rw[e1,F]
 obtain⟨out,S,o2,o3,o4⟩:=xR (B (a<0)) (B (b<0)) (G (E a)) (G (E b)) (BC _) (BC _) (by omega) (G (E a)).length 0 (Aq ((G (E a)).length+(G (E b)).length) 0) (by omega) (by simp) (EC _) (fun j _=>Dw _ j);have hv:Aa out=(a.natAbs:Int)*(b.natAbs:Int):=by rw[o3,Ez];simp[Cs]
 have h3:=DD (neg := !(decide (a<0)==decide (b<0))) o2 (by omega);(first|rw[XH a b out hv,S] at h3|(rw[XH a b out hv] at h3;unfold sL at h3;rw[S] at h3));exact lF na xs nb ys a b k1 k2 out _ (by rw[beq_eq_false_iff_ne];omega) (by rw[beq_eq_false_iff_ne];omega) (by rw[e1];omega) (by rw[e2,EO];exact o4) (by rw[e2];exact h3)
def TWC:Cp:=TWB
theorem BB:B_ I TWC:=m
def PG(na:Bool)(xs:List Int)(w:Int)(s:Int)(k:Nat)(os:List Int)(n:Int)(i:Int)(z:Rn):Ak:=(Q 4 (.box [.bool z.1,.sl z.2.length (lm z.2)]::(.val (.bool na)::(Q 1 (.val (.int .i64 w)::(.val (.int .u64 s)::(.own 1 k (lm os)::(Q 23 (.val (sL lm xs)::(.val (.int .i64 n)::(.val (.int .i64 i)::(Q 31 []))))))))))))
theorem Apk(na:Bool)(xs:List Int)(w:Int)(s:Int)(k:Nat)(os:List Int)(n:Int)(i:Int)(z:Rn)(c1:B (i<n)=true)(n1:0<=i/\i<(xs.length:Int))(n2:¬ s<0)(n3:0<=(D R (i+w))/\(D R (i+w))<(k:Int))(n4:os.length=k)(n5:0<=(D R ((D R (i+w))+1))/\(D R ((D R (i+w))+1))<(k:Int))(n6:(os.set (A (D R (i+w))) (D A4 ((T (Aj .u32) (os.getD (A (D R (i+w))) 0) ||| T (Aj .u32) (D A4 (D U ((D U (xs.getD (A i) 0))*2^(min (A s) (Aj .u64)))))).toNat))).length=k):W I Us (PG na xs w s k os n i z) .norm (PG na xs w s k ((os.set (A (D R (i+w))) (D A4 ((T (Aj .u32) (os.getD (A (D R (i+w))) 0) ||| T (Aj .u32) (D A4 (D U ((D U (xs.getD (A i) 0))*2^(min (A s) (Aj .u64)))))).toNat))).set (A (D R ((D R (i+w))+1))) (D A4 (d (D U ((D U (xs.getD (A i) 0))*2^(min (A s) (Aj .u64)))) (2^(min (A 32) (Aj .u64)))))) n (D R (i+1)) z):=(C BB 400 [.b true,.v (.int .u32 (xs.getD (A i) 0)),.v (.int .u32 (os.getD (A (D R (i+w))) 0)),.l (lm (os.set (A (D R (i+w))) (D A4 ((T (Aj .u32) (os.getD (A (D R (i+w))) 0) ||| T (Aj .u32) (D A4 (D U ((D U (xs.getD (A i) 0))*2^(min (A s) (Aj .u64)))))).toNat)))),.l (lm ((os.set (A (D R (i+w))) (D A4 ((T (Aj .u32) (os.getD (A (D R (i+w))) 0) ||| T (Aj .u32) (D A4 (D U ((D U (xs.getD (A i) 0))*2^(min (A s) (Aj .u64)))))).toNat))).set (A (D R ((D R (i+w))+1))) (D A4 (d (D U ((D U (xs.getD (A i) 0))*2^(min (A s) (Aj .u64)))) (2^(min (A 32) (Aj .u64)))))))] [4,5,7,8,9,33,34,35] (L c1 (L n1 (L (y n1) (L n2 (L n3 (L (Ca n4 n3) (L n3 (L (show Cv (lm os) (A (D R (i+w))*1) [.int .u32 (D A4 ((T (Aj .u32) (os.getD (A (D R (i+w))) 0) ||| T (Aj .u32) (D A4 (D U ((D U (xs.getD (A i) 0))*2^(min (A s) (Aj .u64)))))).toNat))]=some (lm (os.set (A (D R (i+w))) (D A4 ((T (Aj .u32) (os.getD (A (D R (i+w))) 0) ||| T (Aj .u32) (D A4 (D U ((D U (xs.getD (A i) 0))*2^(min (A s) (Aj .u64)))))).toNat)))) from (CS n4 n3)) (L HE (L n5 (L (show Cv (lm (os.set (A (D R (i+w))) (D A4 ((T (Aj .u32) (os.getD (A (D R (i+w))) 0) ||| T (Aj .u32) (D A4 (D U ((D U (xs.getD (A i) 0))*2^(min (A s) (Aj .u64)))))).toNat)))) (A (D R ((D R (i+w))+1))*1) [.int .u32 (D A4 (d (D U ((D U (xs.getD (A i) 0))*2^(min (A s) (Aj .u64)))) (2^(min (A 32) (Aj .u64)))))]=some (lm ((os.set (A (D R (i+w))) (D A4 ((T (Aj .u32) (os.getD (A (D R (i+w))) 0) ||| T (Aj .u32) (D A4 (D U ((D U (xs.getD (A i) 0))*2^(min (A s) (Aj .u64)))))).toNat))).set (A (D R ((D R (i+w))+1))) (D A4 (d (D U ((D U (xs.getD (A i) 0))*2^(min (A s) (Aj .u64)))) (2^(min (A 32) (Aj .u64))))))) from (CS n6 n5)) a0))))))))))))
theorem Apl(na:Bool)(xs:List Int)(w:Int)(s:Int)(k:Nat)(os:List Int)(n:Int)(i:Int)(z:Rn)(c1:B (i<n)=false):W I Us (PG na xs w s k os n i z) (.exit 0) (PG na xs w s k os n i z):=(C BB 400 [.b false] [4,5,7,8,9,33,34,35] (L c1 a0))
theorem lH(b na:Bool)(xs as1:List Int)(m:Int)(c1:((as1.length:Int)==0)=true)(n1:H I 143 [.agg [.bool b,sL lm xs]] (.tup [.bool na,sL lm as1])):H I 104 [.agg [.bool b,sL lm xs],.int .i64 m] (.agg [.bool false,.sl 0 []]):=p (fn:=Rz) (s:=(Q 4 (.box [.bool false,.sl 0 []]::(Q 62 [])))) (ex := .ret) rfl rfl (P (P (P (P (Ar (AQ (C BB 400 [.r (.tup [.bool na,sL lm as1]),.b true] [4] (L n1 (L c1 a0))) (by nofun))))))) (by nofun) rfl
theorem lI(b na:Bool)(xs as1 os:List Int)(m w s n i v:Int)(k:Nat)(z:Rn)(c1:((as1.length:Int)==0)=false)(n1:H I 143 [.agg [.bool b,sL lm xs]] (.tup [.bool na,sL lm as1]))(n2:0<=(D R ((D R ((as1.length:Int)+(D R (o m 32))))+1))/\(D R ((D R ((as1.length:Int)+(D R (o m 32))))+1))<=1048576)(hl3:W I (.loop Us) ((Q 4 (.box [.bool false,.sl 0 []]::(.val (.bool na)::(Q 1 (.val (.int .i64 (D R (o m 32)))::(.val (.int .u64 (D U (f m 32)))::(.own 1 (A (D R ((D R ((as1.length:Int)+(D R (o m 32))))+1))) (Co [.int .u32 0] (A (D R ((D R ((as1.length:Int)+(D R (o m 32))))+1))))::(Q 23 (.val (sL lm as1)::(.val (.int .i64 (as1.length:Int))::(.val (.int .i64 0)::(Q 31 []))))))))))))) (.exit 0) (PG na as1 w s k os n i z))(n4:H I 152 [.bool na,.sl k (lm os)] (Ab v)):H I 104 [.agg [.bool b,sL lm xs],.int .i64 m] (Ab v):=p (fn:=Rz) (s:=(Q 4 (.box [.bool (B (v<0)),.sl ((G (E v)).length) (lm (G (E v)))]::(Q 62 [])))) (ex := .ret) rfl rfl (P (P (P (P (Ar (W.seq (C BB 400 [.r (.tup [.bool na,sL lm as1]),.b false] [4,5,7,8,9,33,34,35] (L n1 (L c1 (L E3 (L E3 (L n2 a0)))))) (W.seq (W.block hl3) (C BB 400 [.r (Ab v)] [4] (L n4 a0))))))))) (by nofun) rfl
def SX(ts:List Rn)(r:Rn)(e:Int)(w:Rn)(i:Int)(s:Int):Ak:=(.val (sL pc ts)::(Q 2 (.box [.bool r.1,.sl r.2.length (lm r.2),.int .i64 e]::(Q 1 (.box [.bool w.1,.sl w.2.length (lm w.2)]::(.val (.int .i64 i)::(.val (.int .i64 s)::(Q 24 []))))))))
theorem Ayi(ts:List Rn)(r:Rn)(e:Int)(w:Rn)(i:Int)(s:Int)(t:Int)(c1:B (i>=0)=true)(n1:0<=i/\i<(ts.length:Int))(n2:H I 112 [Ap w,Ap r] (Ab ((O w)*(O r))))(n3:H I 104 [Ap (ts.getD (A i) z0),.int .i64 s] (Ab t))(n4:H I 111 [Ab ((O w)*(O r)),Ab t] (Ab (((O w)*(O r))+t))):W I aS (SX ts r e w i s) .norm (SX ts r e (cn (((O w)*(O r))+t)) (D R (i-1)) (D R (s+e))):=(C BB 400 [.b true,.r (Ab ((O w)*(O r))),.v (Ap (ts.getD (A i) z0)),.r (Ab t),.r (Ab (((O w)*(O r))+t))] [0,3,5,6,7] (L c1 (L n2 (L n1 (L (B3 n1) (L n3 (L n4 a0)))))))
theorem Ayj(ts:List Rn)(r:Rn)(e:Int)(w:Rn)(i:Int)(s:Int)(c1:B (i>=0)=false):W I aS (SX ts r e w i s) (.exit 0) (SX ts r e w i s):=(C BB 400 [.b false] [0,3,5,6,7] (L c1 a0))
theorem Ayk(ts:List Rn)(r w:Rn)(e i s sg:Int)(hl1:W I (.loop aS) (SX ts r e (false,[]) (D R ((ts.length:Int)-1)) 0) (.exit 0) (SX ts r e w i s))(n2:H I 101 [Ap w] (.int .i64 sg)):H I 65 [sL pc ts,.agg [.bool r.1,.sl r.2.length (lm r.2),.int .i64 e]] (.int .i64 sg):=p (fn:=aT) (s:=(Q 4 (.val (.int .i64 sg)::(Q 27 [])))) (ex := .ret) rfl rfl (P (Ar (W.seq (C BB 400 [] [0,3,5,6,7] a0) (W.seq (W.block hl1) (C BB 400 [.r (.int .i64 sg)] [4] (L n2 a0)))))) (by nofun) rfl
def TSA:Cp:=TWC
theorem lJ:B_ I TSA:=BB
theorem xS{na:Bool}{xs:List Int}{z:Rn}{w s:Nat}(hx:AI xs)(hs:s<32)(hN:w+xs.length<1048576):∀ (r i:Nat) (os:List Int),i+r=xs.length->os.length=w+xs.length+1->AI os->Aa os=4294967296^w*(2^s*Aa (xs.take i))->os.getD (i+w) 0<2^s->(∀ t,i+w<t->os.getD t 0=0) ->
  ∃ os',W I (.loop Us) (PG na xs (w:Nat) (s:Nat) (w+xs.length+1) os (xs.length:Nat) (i:Nat) z) (.exit 0) (PG na xs (w:Nat) (s:Nat) (w+xs.length+1) os' (xs.length:Nat) (xs.length:Nat) z)/\os'.length=w+xs.length+1/\AI os'/\Aa os'=4294967296^w*(2^s*Aa xs):=by
 intro r;induction r with
 | zero =>
  intro i os hi hl hu hv _ _;have:i=xs.length:=by omega
  subst this;exact⟨os,Al (Apl na xs _ _ _ os _ _ z (by simp)) (by nofun),hl,hu,by rw[hv,Ee]⟩
 | succ r ih =>
  intro i os hi hl hu hv hc hz;have ei:D R ((i:Int)+1)=((i+1:Nat):Int):=by rw[AW (by omega) (by omega)];omega
  have ew:D R ((i:Int)+(w:Int))=((i+w:Nat):Int):=by rw[AW (by omega) (by omega)];omega
  have ew1:D R (((i+w:Nat):Int)+1)=((i+w+1:Nat):Int):=by rw[AW (by omega) (by omega)];omega
  have hxi:=AA hx i;have hoi:=AA hu (i+w);obtain⟨p0,p1,p2,q,q0,q1⟩:=V0 hxi hs;have es:(2:Int)^(min (A (s:Int)) (Aj .u64))=2^s:=by
   rw[F];congr 1;show min s 64=s;omega
  have hk:=Apk na xs (w:Nat) (s:Nat) (w+xs.length+1) os (xs.length:Nat) (i:Nat) z (by simp;omega) (by omega) (by omega) (by rw[ew];omega) hl (by rw[ew,ew1];omega) (by simpa using hl);rw[ei,ew,ew1,es,F,F,F,Cx (n:=xs.getD i 0) (by omega),Cx ⟨p0,p1⟩,XC,Ds (xs.getD i 0*2^s),q1] at hk;have hqs:q*2^s<4294967296:=by rw[<- q1];omega
  rw[Aod q0 hqs (by omega) ⟨hoi.1,hc⟩] at hk;have hhi:0<=xs.getD i 0*2^s / 4294967296:=by omega
  have hp2:(2:Int)^s<=4294967296:=by have:=FP (show s<=32 by omega);rwa [show (2:Int)^32=4294967296 by decide] at this
  rw[QE ⟨hhi,by omega⟩] at hk;have hsum:0<=q*2^s+os.getD (i+w) 0/\q*2^s+os.getD (i+w) 0<4294967296:=by
   have hq2:0<=q*2^s:=by rw[<- q1];omega
   refine⟨by omega,?_⟩;have e:=QF (show s<=32 by omega);rw[e] at hqs |-;have hp:=B7 s;have:=BP hqs (by omega);have:=Ad (show q+1<=2^(32-s) by omega) (show (0:Int)<=2^s by omega);rw[GH,CR] at this;omega
  obtain⟨os',g1,g2,g3,g4⟩:=ih (i+1) ((os.set (i+w) (q*2^s+os.getD (i+w) 0)).set (i+w+1) (xs.getD i 0*2^s / 4294967296)) (by omega) (by simpa using hl) (Cq (Cq hu hsum) ⟨hhi,by omega⟩) (by
    rw[DA _ _ _ (by simp;omega),DA _ _ _ (by omega),Cm (by omega),hz (i+w+1) (by omega),hv,Du xs i (by omega),Ay,B4];have e3:xs.getD i 0*2^s=4294967296*(xs.getD i 0*2^s / 4294967296)+q*2^s:=by omega
    generalize (4294967296:Int)^i=P at *
    generalize (4294967296:Int)^w=V at *
    generalize xs.getD i 0*2^s / 4294967296=H at *
    generalize os.getD (i+w) 0=o at *
    generalize q*2^s=Q at *
    have e4:(2:Int)^s*(Aa (xs.take i)+P*xs.getD i 0)=2^s*Aa (xs.take i)+P*(xs.getD i 0*2^s):=by grind
    rw[e4,e3];grind) (by
    rw[show i+1+w=i+w+1 by omega,show ((os.set (i+w) (q*2^s+os.getD (i+w) 0)).set (i+w+1) (xs.getD i 0*2^s / 4294967296)).getD (i+w+1) 0=xs.getD i 0*2^s / 4294967296 by simp[Z,show i+w+1<os.length by omega]];exact p2) (fun t ht=>by rw[Cm (by omega),Cm (by omega)];exact hz t (by omega))
  exact⟨os',W.loop hk g1,g2,g3,g4⟩
theorem O1{neg:Bool}{xs:List Int}(hu:AI xs)(n:Nat)(hn:n<=9223372036854775807)(hN:n / 32+xs.length+1<=1048576):H I 104 [.agg [.bool neg,sL lm xs],.int .i64 (n:Nat)] (Ab (rv neg xs*2^n)):=by
 have l1:=Es (neg:=neg) hu;have r1:=CZ (neg:=neg) hu (by omega);generalize rv neg xs=a at *
 by_cases h0:(G a.natAbs).length=0
 ·have h:=lH neg _ xs (G a.natAbs) (n:Nat) (by rw[h0];rfl) r1;have ha:a=0:=by have:=(DO a.natAbs).1 h0;omega
  rw[ha,DF];exact h
 ·have e1:D R (o (n:Int) 32)=((n / 32:Nat):Int):=by
   rw[B0 (by omega),AW (by omega) (by omega)];omega
  have e2:D U (f (n:Int) 32)=((n % 32:Nat):Int):=by
   rw[Bc (by omega),Cx (by omega)];omega
  have e3:D R ((((G a.natAbs).length:Nat):Int)+((n / 32:Nat):Int))=((n / 32+(G a.natAbs).length:Nat):Int):=by rw[AW (by omega) (by omega)];omega
  have e4:D R (((n / 32+(G a.natAbs).length:Nat):Int)+1)=((n / 32+(G a.natAbs).length+1:Nat):Int):=by rw[AW (by omega) (by omega)];omega
  have hs:n % 32<32:=G5 _ (by decide);obtain⟨os,g1,g2,g3,g4⟩:=xS (na:=decide (a<0)) (xs:=G a.natAbs) (z:=z0) (w:=n / 32) (BC a.natAbs) hs (by omega) (G a.natAbs).length 0 (Aq (n / 32+(G a.natAbs).length+1) 0) (by omega) (by simp) (EC _) (by rw[Ez];simp[Aa]) (by rw[Dw];exact B7 _) (fun t _=>Dw _ _);have hm:=DD (neg:=decide (a<0)) g3 (by omega);have hv:rv (B (a<0)) os=a*2^n:=by
   rw[XA (xs:=G a.natAbs) (t:=2^n) (by rw[g4,G9 n];grind),Fr]
  rw[hv] at hm;unfold sL at hm;rw[g2] at hm;exact lI neg _ xs (G a.natAbs) os (n:Nat) _ _ _ _ _ _ _ (by rw[beq_eq_false_iff_ne];omega) r1 (by rw[e1,e3,e4];omega) (by rw[e1,e2,e3,e4,F,EO];exact g1) hm
theorem Apm{K X:Nat}{ts:List Rn}{r:Rn}(ht:∀ t∈ts,u K t)(hr:u X r)(e:Nat)(hS:K+2+(ts.length+1)*(X+(e / 32+1)+1)<=1048576)(he:e<=1073741824) :
  ∀ n (w:Rn),n<=ts.length->O w=hv ((M ts).drop n) (O r) (2^e)->u (K+1+(ts.length-n)*(X+(e / 32+1)+1)) w -> 
  ∃ w' s',O w'=hv (M ts) (O r) (2^e)/\u (K+1+ts.length*(X+(e / 32+1)+1)) w'/\W I (.loop aS) (SX ts r (e:Nat) w ((n:Int)-1) ((e*(ts.length-n):Nat):Int)) (.exit 0) (SX ts r (e:Nat) w' (-1) s'):=by
 have hle:ts.length<=1048576:=by
  have:ts.length*1<=(ts.length+1)*(X+(e / 32+1)+1):=Bx (by omega) (by omega);omega
 intro n;induction n with
 | zero =>
  intro w _ hw gw;exact⟨w,_,by simpa using hw,gw,Al (Ayj ts r (e:Nat) w (((0:Nat):Int)-1) _ (by simp)) (by nofun)⟩
 | succ n ih =>
  intro w hn hw gw;obtain⟨t1,t2⟩:=A' ht n;have e0:((n+1:Nat):Int)-1=(n:Int):=by omega
  have hK1:(ts.length-(n+1))*(X+(e / 32+1)+1)+(X+(e / 32+1)+1)=(ts.length-n)*(X+(e / 32+1)+1):=by
   rw[show ts.length-n=ts.length-(n+1)+1 by omega,DK,ES]
  have hK2:(ts.length-n)*(X+(e / 32+1)+1)<=(ts.length+1)*(X+(e / 32+1)+1):=A8 _ (by omega);have hsh:e*(ts.length-(n+1)) / 32<=(ts.length-(n+1))*(X+(e / 32+1)+1):=by
   have h3:e<=32*(e / 32+1):=by omega
   have h4:e*(ts.length-(n+1))<=32*((ts.length-(n+1))*(e / 32+1)):=by
    calc e*(ts.length-(n+1))<=(32*(e / 32+1))*(ts.length-(n+1)):=A8 _ h3
     _=32*((ts.length-(n+1))*(e / 32+1)):=by rw[EA,CP (e / 32+1)]
   have h5:(ts.length-(n+1))*(e / 32+1)<=(ts.length-(n+1))*(X+(e / 32+1)+1):=z _ (by omega);omega
  have hb1:e*(ts.length-(n+1))<=1073741824*1048576:=Bx he (by omega);have hb2:e*(ts.length-n)<=1073741824*1048576:=Bx he (by omega);have w1:D R (((e*(ts.length-(n+1)):Nat):Int)+(e:Int))=((e*(ts.length-n):Nat):Int):=by
   have:e*(ts.length-n)=e*(ts.length-(n+1))+e:=by rw[show ts.length-n=ts.length-(n+1)+1 by omega,OH]
   rw[AW (by omega) (by omega)];omega
  have w2:D R ((n:Int)-1)=(n:Int)-1:=AW (by omega) (by omega);have hst:hv ((M ts).drop n) (O r) (2^e)=O w*O r+O (ts.getD n z0)*2^(e*(ts.length-(n+1))):=by
   have h1:(M ts).drop n=(M ts).getD n 0::(M ts).drop (n+1):=by
    rw[CU (by rw[s];omega)];congr 1;rw[Z,Ae (by rw[s];omega)];rfl
   rw[h1,hv,C3,Ed,s,<- hw,<- gP];generalize O (ts.getD n z0)*2^(e*(ts.length-(n+1)))=A;grind
  have fw:=gw.fits;have fp:=(fw.mul hr.fits);have ft:AY (K+(e*(ts.length-(n+1)) / 32+1)) (O (ts.getD n z0)*2^(e*(ts.length-(n+1)))):=(A' ht n).fits.mul (PE _);have hgood:u (K+1+(ts.length-n)*(X+(e / 32+1)+1)) (cn (O w*O r+O (ts.getD n z0)*2^(e*(ts.length-(n+1))))):=by
   refine (AZ ((fp.mono (k:=K+1+(ts.length-(n+1))*(X+(e / 32+1)+1)+X+(e / 32+1)) (by omega)).add (ft.mono (by omega)))).mono (by omega)
  obtain⟨w',s',q1,q2,q3⟩:=ih (cn (O w*O r+O (ts.getD n z0)*2^(e*(ts.length-(n+1))))) (by omega) (by rw[At,hst]) hgood;refine⟨w',s',q1,q2,?_⟩;rw[e0];have l1:=fp.len;have l2:=ft.len;obtain⟨gw1,gw2⟩:=gw;have k:=Ayi ts r (e:Nat) w (n:Nat) ((e*(ts.length-(n+1)):Nat):Int) (O (ts.getD n z0)*2^(e*(ts.length-(n+1)))) (by simp) (by omega)
   (RX gw1 hr.1 (by have:=hr.2;omega))
   (by rw[F];exact O1 t1 _ (by omega) (by omega))
   (by
    have:=O0 (na:=decide (O w*O r<0)) (nb:=decide (O (ts.getD n z0)*2^(e*(ts.length-(n+1)))<0)) (BC (O w*O r).natAbs) (BC (O (ts.getD n z0)*2^(e*(ts.length-(n+1)))).natAbs) (by omega) (by omega);rw[Fr,Fr] at this;exact this)
  rw[w1,w2] at k;exact W.loop k q3
theorem M0{K X:Nat}{rs:List Rn}{r:Rn}(ht:∀ t∈rs,u K t)(hr:u X r)(e:Nat)(hS:K+2+(rs.length+1)*(X+(e / 32+1)+1)<=1048576)(he:e<=1073741824) :
  H I 65 [sL pc rs,.agg [.bool r.1,.sl r.2.length (lm r.2),.int .i64 (e:Nat)]] (.int .i64 (B8 (hv (M rs) (O r) (2^e)))):=by
 have hle:rs.length<=1048576:=by
  have:rs.length*1<=(rs.length+1)*(X+(e / 32+1)+1):=Bx (by omega) (by omega);omega
 obtain⟨w',s',q1,q2,q3⟩:=Apm ht hr e hS he rs.length z0 (Am _) (by rw[<- s,Jo];rfl) (L7 _);rw[Lt,ZF] at q3;have hK2:rs.length*(X+(e / 32+1)+1)<=(rs.length+1)*(X+(e / 32+1)+1):=A8 _ (by omega);have hs:=J_ (neg:=w'.1) q2.1 (by have:=q2.2;omega);rw[show rv w'.1 w'.2=O w' from rfl,q1] at hs;have e1:D R ((rs.length:Int)-1)=(rs.length:Int)-1:=AW (by omega) (by omega);exact Ayk rs r w' (e:Nat) (-1) s' _ (by rw[e1];exact q3) hs
def TSB:Cp:=TSA
theorem En:B_ I TSB:=lJ
def OX(as1:List Rn)(k:Nat)(cs:List AV)(bs:List Rn):Ak:=(Q 3 (.val (sL pc as1)::(.own 1 k cs::(.val (sL pc bs)::(Q 23 [])))))
theorem Ayl(as1:List Rn)(k:Nat)(cs:List AV)(bs:List Rn)(us vs:List Rn)(c1:B ((bs.length:Int)>0)=true)(n1:k+1<=1048576)(n2:H I 118 [sL pc as1,sL pc bs] (.fresh 2 us.length (pc us)))(n3:H I 117 [sL pc us] (.fresh 2 vs.length (pc vs))):W I Xo (OX as1 k cs bs) .norm (OX bs (k+1) (cs++([sL pc bs]:List AV)) vs):=(C a 400 [.b true,.r (.fresh 2 us.length (pc us)),.r (.fresh 2 vs.length (pc vs))] [3,4,5] (L c1 (L (show Bj ([sL pc bs]:List AV)=1*1 from rfl) (L n1 (L n2 (L n3 a0))))))
theorem qR(as1:List Rn)(k:Nat)(cs:List AV)(bs:List Rn)(c1:B ((bs.length:Int)>0)=false):W I Xo (OX as1 k cs bs) (.exit 0) (OX as1 k cs bs):=(C a 400 [.b false] [3,4,5] (L c1 a0))
theorem cY(rs fs:List Rn)(c1:((fs.length:Int)==0)=true)(n1:H I 114 [sL pc rs] (.fresh 2 fs.length (pc fs))):H I 67 [sL pc rs] (.fresh 1 0 []):=p (fn:=SC) (s:=(Q 2 (.own 1 0 []::(Q 26 [])))) (ex := .ret) rfl rfl (P (P (P (P (AQ (C a 400 [.r (.fresh 2 fs.length (pc fs)),.b true] [2] (L n1 (L c1 a0))) (by nofun)))))) (by nofun) rfl
theorem cZ(rs fs ds ps as1 bs:List Rn)(ls:List (List Rn))(c1:((fs.length:Int)==0)=false)(n1:H I 114 [sL pc rs] (.fresh 2 fs.length (pc fs)))(n2:H I 116 [sL pc fs] (.fresh 2 ds.length (pc ds)))(n3:H I 115 [sL pc ds] (.fresh 2 ps.length (pc ps)))(hl4:W I (.loop Xo) (OX fs 1 ([sL pc fs]:List AV) ps) (.exit 0) (OX as1 ls.length (pp ls) bs)):H I 67 [sL pc rs] (.fresh 1 ls.length (pp ls)):=p (fn:=SC) (s:=(Q 2 (.own 1 ls.length (pp ls)::(Q 26 [])))) (ex := .ret) rfl rfl (P (P (P (P (W.seq (C a 400 [.r (.fresh 2 fs.length (pc fs)),.b false,.r (.fresh 2 ds.length (pc ds)),.r (.fresh 2 ps.length (pc ps))] [3,4,5] (L n1 (L c1 (L n2 (L n3 a0))))) (W.seq (W.block hl4) (C a 400 [] [2] a0))))))) (by nofun) rfl
theorem dA(rs fs:List Rn)(c1:((fs.length:Int)==0)=true)(n1:H I 114 [sL pc rs] (sL pc fs)):H I 67 [sL pc rs] (.fresh 1 0 []):=p (fn:=SC) (s:=(Q 2 (.own 1 0 []::(Q 26 [])))) (ex := .ret) rfl rfl (P (P (P (P (AQ (C a 400 [.r (sL pc fs),.b true] [2] (L n1 (L c1 a0))) (by nofun)))))) (by nofun) rfl
theorem dB(rs fs ds ps as1 bs:List Rn)(ls:List (List Rn))(c1:((fs.length:Int)==0)=false)(n1:H I 114 [sL pc rs] (sL pc fs))(n2:H I 116 [sL pc fs] (.fresh 2 ds.length (pc ds)))(n3:H I 115 [sL pc ds] (.fresh 2 ps.length (pc ps)))(hl4:W I (.loop Xo) (OX fs 1 ([sL pc fs]:List AV) ps) (.exit 0) (OX as1 ls.length (pp ls) bs)):H I 67 [sL pc rs] (.fresh 1 ls.length (pp ls)):=p (fn:=SC) (s:=(Q 2 (.own 1 ls.length (pp ls)::(Q 26 [])))) (ex := .ret) rfl rfl (P (P (P (P (W.seq (C a 400 [.r (sL pc fs),.b false,.r (.fresh 2 ds.length (pc ds)),.r (.fresh 2 ps.length (pc ps))] [3,4,5] (L n1 (L c1 (L n2 (L n3 a0))))) (W.seq (W.block hl4) (C a 400 [] [2] a0))))))) (by nofun) rfl
def KJ(ls:List (List Rn))(r:Rn)(e:Int)(n:Int)(last:Int)(m:Int)(i:Int):Ak:=(Q 3 (.box [.bool r.1,.sl r.2.length (lm r.2),.int .i64 e]::(Q 1 (.val (.int .i64 n)::(.val (.int .i64 last)::(Q 3 (.val (sL pp ls)::(.val (.int .i64 m)::(.val (.int .i64 i)::(Q 24 []))))))))))
theorem Aym(ls:List (List Rn))(r:Rn)(e:Int)(n:Int)(last:Int)(m:Int)(i:Int)(s:Int)(c1:B (i<m)=true)(c2:(s != 0)=true)(c3:(last != 0)=true)(c4:(s != last)=true)(n1:0<=i/\i<(ls.length:Int))(n2:H I 65 [.sl ((ls.getD (A i) []).length) (pc (ls.getD (A i) [])),.agg [.bool r.1,.sl r.2.length (lm r.2),.int .i64 e]] (.int .i64 s)):W I SD (KJ ls r e n last m i) .norm (KJ ls r e (D R (n+1)) s m (D R (i+1))):=(C a 400 [.b true,.v (.sl ((ls.getD (A i) []).length) (pc (ls.getD (A i) []))),.r (.int .i64 s),.b true,.b true,.b true,.b true] [3,5,6,10,11,12] (L c1 (L n1 (L (Fh n1) (L n2 (L c2 (L c3 (L c4 (L c2 a0)))))))))
theorem Ayn(ls:List (List Rn))(r:Rn)(e:Int)(n:Int)(last:Int)(m:Int)(i:Int)(s:Int)(c1:B (i<m)=true)(c2:(s != 0)=true)(c3:(last != 0)=true)(c4:(s != last)=false)(n1:0<=i/\i<(ls.length:Int))(n2:H I 65 [.sl ((ls.getD (A i) []).length) (pc (ls.getD (A i) [])),.agg [.bool r.1,.sl r.2.length (lm r.2),.int .i64 e]] (.int .i64 s)):W I SD (KJ ls r e n last m i) .norm (KJ ls r e n s m (D R (i+1))):=(C a 400 [.b true,.v (.sl ((ls.getD (A i) []).length) (pc (ls.getD (A i) []))),.r (.int .i64 s),.b true,.b true,.b false,.b true] [3,5,6,10,11,12] (L c1 (L n1 (L (Fh n1) (L n2 (L c2 (L c3 (L c4 (L c2 a0)))))))))
theorem Ayo(ls:List (List Rn))(r:Rn)(e:Int)(n:Int)(last:Int)(m:Int)(i:Int)(s:Int)(c1:B (i<m)=true)(c2:(s != 0)=true)(c3:(last != 0)=false)(n1:0<=i/\i<(ls.length:Int))(n2:H I 65 [.sl ((ls.getD (A i) []).length) (pc (ls.getD (A i) [])),.agg [.bool r.1,.sl r.2.length (lm r.2),.int .i64 e]] (.int .i64 s)):W I SD (KJ ls r e n last m i) .norm (KJ ls r e n s m (D R (i+1))):=(C a 400 [.b true,.v (.sl ((ls.getD (A i) []).length) (pc (ls.getD (A i) []))),.r (.int .i64 s),.b true,.b false,.b false,.b true] [3,5,6,10,11,12] (L c1 (L n1 (L (Fh n1) (L n2 (L c2 (L c3 (L Ff (L c2 a0)))))))))
theorem Ayp(ls:List (List Rn))(r:Rn)(e:Int)(n:Int)(last:Int)(m:Int)(i:Int)(s:Int)(c1:B (i<m)=true)(c2:(s != 0)=false)(n1:0<=i/\i<(ls.length:Int))(n2:H I 65 [.sl ((ls.getD (A i) []).length) (pc (ls.getD (A i) [])),.agg [.bool r.1,.sl r.2.length (lm r.2),.int .i64 e]] (.int .i64 s)):W I SD (KJ ls r e n last m i) .norm (KJ ls r e n last m (D R (i+1))):=(C a 400 [.b true,.v (.sl ((ls.getD (A i) []).length) (pc (ls.getD (A i) []))),.r (.int .i64 s),.b false,.b false,.b false,.b false] [3,5,6,10,11,12] (L c1 (L n1 (L (Fh n1) (L n2 (L c2 (L Ff (L Ff (L c2 a0)))))))))
theorem Ayq(ls:List (List Rn))(r:Rn)(e:Int)(n:Int)(last:Int)(m:Int)(i:Int)(c1:B (i<m)=false):W I SD (KJ ls r e n last m i) (.exit 0) (KJ ls r e n last m i):=(C a 400 [.b false] [3,5,6,10,11,12] (L c1 a0))
theorem Ayr(ls:List (List Rn))(r:Rn)(e n last i:Int)(hl1:W I (.loop SD) (KJ ls r e 0 0 (ls.length:Int) 0) (.exit 0) (KJ ls r e n last (ls.length:Int) i)):H I 68 [sL pp ls,.agg [.bool r.1,.sl r.2.length (lm r.2),.int .i64 e]] (.int .i64 n):=p (fn:=aW) (s:=(Q 4 (.val (.int .i64 n)::(Q 32 [])))) (ex := .ret) rfl rfl (P (Ar (W.seq (C a 400 [] [3,5,6,10,11,12] a0) (W.seq (W.block hl1) (C a 400 [] [4] a0))))) (by nofun) rfl
def NI(k:Nat)(cs:List AV)(bs:List Rn):Ak:=(Q 4 (.own 1 k cs::(.val (sL pc bs)::(Q 27 []))))
theorem Apn(k:Nat)(cs:List AV)(bs:List Rn)(ws us vs:List Rn)(c1:B ((bs.length:Int)>0)=true)(n1:k+1<=1048576)(n2:0<=(D R ((((k+1):Nat):Int)-2))/\(D R ((((k+1):Nat):Int)-2))<(((k+1):Nat):Int))(n3:Bl (cs++([sL pc bs]:List AV)) (A (D R ((((k+1):Nat):Int)-2))*1) 1 true=some (sL pc ws))(n4:H I 119 [sL pc ws,sL pc bs] (sL pc us))(n5:H I 153 [sL pc us] (.fresh 2 vs.length (pc vs))):W I Uv (NI k cs bs) .norm (NI (k+1) (cs++([sL pc bs]:List AV)) vs):=(C a 400 [.b true,.v (sL pc ws),.r (sL pc us),.r (.fresh 2 vs.length (pc vs))] [4,5] (L c1 (L (show Bj ([sL pc bs]:List AV)=1*1 from rfl) (L n1 (L n2 (L n3 (L n4 (L n5 a0))))))))
theorem dC(k:Nat)(cs:List AV)(bs:List Rn)(c1:B ((bs.length:Int)>0)=false):W I Uv (NI k cs bs) (.exit 0) (NI k cs bs):=(C a 400 [.b false] [4,5] (L c1 a0))
theorem lL(rs fs:List Rn)(c1:((fs.length:Int)==0)=true)(n1:H I 73 [sL pc rs] (sL pc fs)):H I 108 [sL pc rs] (.fresh 1 0 []):=p (fn:=R0) (s:=(Q 2 (.own 1 0 []::(Q 30 [])))) (ex := .ret) rfl rfl (P (P (P (P (AQ (C a 400 [.r (sL pc fs),.b true] [2] (L n1 (L c1 a0))) (by nofun)))))) (by nofun) rfl
theorem lM(rs fs ds ps bs:List Rn)(ls:List (List Rn))(c1:((fs.length:Int)==0)=false)(n1:H I 73 [sL pc rs] (sL pc fs))(n2:H I 122 [sL pc fs] (.fresh 2 ds.length (pc ds)))(n3:H I 86 [sL pc ds] (.fresh 2 ps.length (pc ps)))(hl4:W I (.loop Uv) (NI 1 ([sL pc fs]:List AV) ps) (.exit 0) (NI ls.length (pp ls) bs)):H I 108 [sL pc rs] (.fresh 1 ls.length (pp ls)):=p (fn:=R0) (s:=(Q 2 (.own 1 ls.length (pp ls)::(Q 30 [])))) (ex := .ret) rfl rfl (P (P (P (P (W.seq (C a 400 [.r (sL pc fs),.b false,.r (.fresh 2 ds.length (pc ds)),.r (.fresh 2 ps.length (pc ps))] [4,5] (L n1 (L c1 (L n2 (L n3 a0))))) (W.seq (W.block hl4) (C a 400 [] [2] a0))))))) (by nofun) rfl
def HS(ls:List (List Rn))(r:Rn)(e:Int)(n:Int)(last:Int)(i:Int):Ak:=(.val (sL pp ls)::(Q 2 (.box [.bool r.1,.sl r.2.length (lm r.2),.int .i64 e]::(Q 1 (.val (.int .i64 n)::(.val (.int .i64 last)::(.val (.int .i64 i)::(Q 34 []))))))))
theorem Apo(ls:List (List Rn))(r:Rn)(e:Int)(n:Int)(last:Int)(i:Int)(w s:Int)(c1:B (i<(ls.length:Int))=true)(c2:(s != 0)=true)(c3:(last != 0)=true)(c4:(s != last)=true)(n1:0<=i/\i<(ls.length:Int))(n2:H I 80 [.sl ((ls.getD (A i) []).length) (pc (ls.getD (A i) [])),Ap r,.int .i64 e] (Ab w))(n3:H I 79 [Ab w] (.int .i64 s)):W I Nw (HS ls r e n last i) .norm (HS ls r e (D R (n+1)) s (D R (i+1))):=(C a 400 [.b true,.v (.sl ((ls.getD (A i) []).length) (pc (ls.getD (A i) []))),.r (Ab w),.r (.int .i64 s),.b true,.b true,.b true,.b true] [0,3,5,6,7] (L c1 (L n1 (L (Fh n1) (L n2 (L n3 (L c2 (L c3 (L c4 (L c2 a0))))))))))
theorem App(ls:List (List Rn))(r:Rn)(e:Int)(n:Int)(last:Int)(i:Int)(w s:Int)(c1:B (i<(ls.length:Int))=true)(c2:(s != 0)=true)(c3:(last != 0)=true)(c4:(s != last)=false)(n1:0<=i/\i<(ls.length:Int))(n2:H I 80 [.sl ((ls.getD (A i) []).length) (pc (ls.getD (A i) [])),Ap r,.int .i64 e] (Ab w))(n3:H I 79 [Ab w] (.int .i64 s)):W I Nw (HS ls r e n last i) .norm (HS ls r e n s (D R (i+1))):=(C a 400 [.b true,.v (.sl ((ls.getD (A i) []).length) (pc (ls.getD (A i) []))),.r (Ab w),.r (.int .i64 s),.b true,.b true,.b false,.b true] [0,3,5,6,7] (L c1 (L n1 (L (Fh n1) (L n2 (L n3 (L c2 (L c3 (L c4 (L c2 a0))))))))))
theorem Apq(ls:List (List Rn))(r:Rn)(e:Int)(n:Int)(last:Int)(i:Int)(w s:Int)(c1:B (i<(ls.length:Int))=true)(c2:(s != 0)=true)(c3:(last != 0)=false)(n1:0<=i/\i<(ls.length:Int))(n2:H I 80 [.sl ((ls.getD (A i) []).length) (pc (ls.getD (A i) [])),Ap r,.int .i64 e] (Ab w))(n3:H I 79 [Ab w] (.int .i64 s)):W I Nw (HS ls r e n last i) .norm (HS ls r e n s (D R (i+1))):=(C a 400 [.b true,.v (.sl ((ls.getD (A i) []).length) (pc (ls.getD (A i) []))),.r (Ab w),.r (.int .i64 s),.b true,.b false,.b false,.b true] [0,3,5,6,7] (L c1 (L n1 (L (Fh n1) (L n2 (L n3 (L c2 (L c3 (L Ff (L c2 a0))))))))))
theorem Apr(ls:List (List Rn))(r:Rn)(e:Int)(n:Int)(last:Int)(i:Int)(w s:Int)(c1:B (i<(ls.length:Int))=true)(c2:(s != 0)=false)(n1:0<=i/\i<(ls.length:Int))(n2:H I 80 [.sl ((ls.getD (A i) []).length) (pc (ls.getD (A i) [])),Ap r,.int .i64 e] (Ab w))(n3:H I 79 [Ab w] (.int .i64 s)):W I Nw (HS ls r e n last i) .norm (HS ls r e n last (D R (i+1))):=(C a 400 [.b true,.v (.sl ((ls.getD (A i) []).length) (pc (ls.getD (A i) []))),.r (Ab w),.r (.int .i64 s),.b false,.b false,.b false,.b false] [0,3,5,6,7] (L c1 (L n1 (L (Fh n1) (L n2 (L n3 (L c2 (L Ff (L Ff (L c2 a0))))))))))
theorem Aps(ls:List (List Rn))(r:Rn)(e:Int)(n:Int)(last:Int)(i:Int)(c1:B (i<(ls.length:Int))=false):W I Nw (HS ls r e n last i) (.exit 0) (HS ls r e n last i):=(C a 400 [.b false] [0,3,5,6,7] (L c1 a0))
theorem Apt(ls:List (List Rn))(r:Rn)(e n last i:Int)(hl1:W I (.loop Nw) (HS ls r e 0 0 0) (.exit 0) (HS ls r e n last i)):H I 110 [sL pp ls,.agg [.bool r.1,.sl r.2.length (lm r.2),.int .i64 e]] (.int .i64 n):=p (fn:=Uw) (s:=(Q 4 (.val (.int .i64 n)::(Q 37 [])))) (ex := .ret) rfl rfl (P (Ar (W.seq (C a 400 [] [0,3,5,6,7] a0) (W.seq (W.block hl1) (C a 400 [] [4] a0))))) (by nofun) rfl
def TZA:Cp:=TDD
theorem lN:B_ I TZA:=a
theorem Apu(na nb:Bool)(xs ys qs rs:List Int)(v w:Int)(n1:H I 99 [sL lm xs] (.fresh 1 ((Y xs).length) (lm (Y xs))))(n2:H I 99 [sL lm ys] (.fresh 1 ((Y ys).length) (lm (Y ys))))(n3:H I 165 [.sl ((Y xs).length) (lm (Y xs)),.sl ((Y ys).length) (lm (Y ys))] (.tup [sL lm qs,sL lm rs]))(n4:H I 98 [.bool (!(na==nb)),sL lm qs] (C8 v))(n5:H I 98 [.bool na,sL lm rs] (C8 w)):H I 138 [.agg [.bool na,sL lm xs],.agg [.bool nb,sL lm ys]] (.tup [Ab v,Ab w]):=i (fn:=UE) a rfl 400 rfl [.r (.fresh 1 ((Y xs).length) (lm (Y xs))),.r (.fresh 1 ((Y ys).length) (lm (Y ys))),.r (.tup [sL lm qs,sL lm rs]),.r (C8 v),.r (C8 w)] (L n1 (L n2 (L n3 (L n4 (L n5 a0)))))
def KK(x:Rn)(y:Rn):Ak:=(Q 4 (.box [.bool false,.sl 0 []]::(.box [.bool x.1,.sl x.2.length (lm x.2)]::(.box [.bool y.1,.sl y.2.length (lm y.2)]::(Q 20 [])))))
theorem xT(x:Rn)(y:Rn)(q r:Int)(c1:((B8 (O y)) != 0)=true)(n1:H I 79 [Ap y] (.int .i64 (B8 (O y))))(n2:H I 138 [Ap x,Ap y] (.tup [Ab q,Ab r])):W I Qx (KK x y) .norm (KK y (cn r)):=(C a 400 [.r (.int .i64 (B8 (O y))),.b true,.r (.tup [Ab q,Ab r])] [4,5,6] (L n1 (L c1 (L n2 a0))))
theorem XI(x:Rn)(y:Rn)(c1:((B8 (O y)) != 0)=false)(n1:H I 79 [Ap y] (.int .i64 (B8 (O y)))):W I Qx (KK x y) (.exit 0) (KK x y):=(C a 400 [.r (.int .i64 (B8 (O y))),.b false] [4,5,6] (L n1 (L c1 a0)))
theorem Apv(na nb:Bool)(xs ys:List Int)(va vb:Int)(x y:Rn)(n1:H I 98 [.bool false,sL lm xs] (C8 va))(n2:H I 98 [.bool false,sL lm ys] (C8 vb))(hl3:W I (.loop Qx) (KK (cn va) (cn vb)) (.exit 0) (KK x y)):H I 164 [.agg [.bool na,sL lm xs],.agg [.bool nb,sL lm ys]] (Ap x):=p (fn:=US) (s:=(Q 4 (.box [.bool x.1,.sl x.2.length (lm x.2)]::(Q 22 [])))) (ex := .ret) rfl rfl (P (W.seq (C a 400 [.r (C8 va),.r (C8 vb)] [4,5,6] (L n1 (L n2 a0))) (W.seq (W.block hl3) (C a 400 [] [4] a0)))) (by nofun) rfl
def NJ(rs:List Rn)(w:Rn)(i:Int):Ak:=(.val (sL pc rs)::(Q 1 (.box [.bool false,.sl 0 []]::(.box [.bool w.1,.sl w.2.length (lm w.2)]::(.val (.int .i64 i)::(Q 14 []))))))
theorem Apw(rs:List Rn)(w:Rn)(i:Int)(g:Int)(c1:B (i<(rs.length:Int))=true)(n1:0<=i/\i<(rs.length:Int))(n2:H I 164 [Ap w,Ap (rs.getD (A i) z0)] (Ab g)):W I UC (NJ rs w i) .norm (NJ rs (cn g) (D R (i+1))):=(C a 400 [.b true,.v (Ap (rs.getD (A i) z0)),.r (Ab g)] [0,2,3,4] (L c1 (L n1 (L (B3 n1) (L n2 a0)))))
theorem Apx(rs:List Rn)(w:Rn)(i:Int)(c1:B (i<(rs.length:Int))=false):W I UC (NJ rs w i) (.exit 0) (NJ rs w i):=(C a 400 [.b false] [0,2,3,4] (L c1 a0))
theorem Apy(rs:List Rn)(w:Rn)(i:Int)(hl1:W I (.loop UC) (NJ rs (false,[]) 0) (.exit 0) (NJ rs w i)):H I 137 [sL pc rs] (Ap w):=p (fn:=UD) (s:=(Q 2 (.box [.bool w.1,.sl w.2.length (lm w.2)]::(Q 16 [])))) (ex := .ret) rfl rfl (P (Ar (W.seq (C a 400 [] [0,2,3,4] a0) (W.seq (W.block hl1) (C a 400 [] [2] a0))))) (by nofun) rfl
def SY(rs:List Rn)(c:Rn)(k:Nat)(cs:List AV)(i:Int):Ak:=(.val (sL pc rs)::(Q 1 (.own 2 0 []::(.box [.bool c.1,.sl c.2.length (lm c.2)]::(.own 2 k cs::(.val (.int .i64 i)::(Q 28 [])))))))
theorem Ays(rs:List Rn)(c:Rn)(k:Nat)(cs:List AV)(i:Int)(q r:Int)(c1:B (i<(rs.length:Int))=true)(n1:0<=i/\i<(rs.length:Int))(n2:k+1<=1048576)(n3:H I 138 [Ap (rs.getD (A i) z0),Ap c] (.tup [Ab q,Ab r])):W I bE (SY rs c k cs i) .norm (SY rs c (k+1) (cs++([.bool (B (q<0)),.sl ((G (E q)).length) (lm (G (E q)))]:List AV)) (D R (i+1))):=(C a 400 [.b true,.v (Ap (rs.getD (A i) z0)),.r (.tup [Ab q,Ab r])] [0,2,3,4,5] (L c1 (L n1 (L (B3 n1) (L n3 (L (show Bj ([.bool (B (q<0)),.sl ((G (E q)).length) (lm (G (E q)))]:List AV)=1*2 from rfl) (L n2 a0)))))))
theorem Ayt(rs:List Rn)(c:Rn)(k:Nat)(cs:List AV)(i:Int)(c1:B (i<(rs.length:Int))=false):W I bE (SY rs c k cs i) (.exit 0) (SY rs c k cs i):=(C a 400 [.b false] [0,2,3,4,5] (L c1 a0))
theorem xU(rs:List Rn)(c:Int)(c1:((B8 c)==0)=true)(n1:H I 137 [sL pc rs] (Ab c))(n2:H I 79 [Ab c] (.int .i64 (B8 c))):H I 86 [sL pc rs] (.fresh 2 0 []):=p (fn:=Xs) (s:=(Q 2 (.own 2 0 []::(Q 31 [])))) (ex := .ret) rfl rfl (P (P (P (Ar (AQ (C a 400 [.r (Ab c),.r (.int .i64 (B8 c)),.b true] [2] (L n1 (L n2 (L c1 a0)))) (by nofun)))))) (by nofun) rfl
theorem xV(rs os ts:List Rn)(c i:Int)(k:Nat)(c1:((B8 c)==0)=false)(n1:H I 137 [sL pc rs] (Ab c))(n2:H I 79 [Ab c] (.int .i64 (B8 c)))(hl3:W I (.loop bE) (SY rs (cn c) 0 ([]:List AV) 0) (.exit 0) (SY rs (cn c) k (pc os) i))(n4:H I 46 [.sl k (pc os)] (.fresh 2 ts.length (pc ts))):H I 86 [sL pc rs] (.fresh 2 ts.length (pc ts)):=p (fn:=Xs) (s:=(Q 2 (.own 2 ts.length (pc ts)::(Q 31 [])))) (ex := .ret) rfl rfl (P (P (P (Ar (W.seq (C a 400 [.r (Ab c),.r (.int .i64 (B8 c)),.b false] [0,2,3,4,5] (L n1 (L n2 (L c1 a0)))) (W.seq (W.block hl3) (C a 400 [.r (.fresh 2 ts.length (pc ts))] [2] (L n4 a0)))))))) (by nofun) rfl
def NK(rs:List Rn)(k:Nat)(cs:List AV)(i:Int):Ak:=(.val (sL pc rs)::(Q 1 (.own 2 0 []::(.own 2 k cs::(.val (.int .i64 i)::(Q 18 []))))))
theorem Apz(rs:List Rn)(k:Nat)(cs:List AV)(i:Int)(c1:B (i<(rs.length:Int))=true)(n1:0<=i/\i<(rs.length:Int))(n2:k+1<=1048576)(n3:H I 49 [.int .i64 i] (Ab i))(n4:H I 96 [Ab i,Ap (rs.getD (A i) z0)] (Ab (i*(O (rs.getD (A i) z0))))):W I U5 (NK rs k cs i) .norm (NK rs (k+1) (cs++([.bool (B ((i*(O (rs.getD (A i) z0)))<0)),.sl ((G (E (i*(O (rs.getD (A i) z0))))).length) (lm (G (E (i*(O (rs.getD (A i) z0))))))]:List AV)) (D R (i+1))):=(C a 400 [.b true,.r (Ab i),.v (Ap (rs.getD (A i) z0)),.r (Ab (i*(O (rs.getD (A i) z0))))] [0,2,3,4] (L c1 (L n3 (L n1 (L (B3 n1) (L n4 (L (show Bj ([.bool (B ((i*(O (rs.getD (A i) z0)))<0)),.sl ((G (E (i*(O (rs.getD (A i) z0))))).length) (lm (G (E (i*(O (rs.getD (A i) z0))))))]:List AV)=1*2 from rfl) (L n2 a0))))))))
theorem Aqa(rs:List Rn)(k:Nat)(cs:List AV)(i:Int)(c1:B (i<(rs.length:Int))=false):W I U5 (NK rs k cs i) (.exit 0) (NK rs k cs i):=(C a 400 [.b false] [0,2,3,4] (L c1 a0))
theorem Aqb(rs os ts:List Rn)(i:Int)(k:Nat)(hl1:W I (.loop U5) (NK rs 0 ([]:List AV) 1) (.exit 0) (NK rs k (pc os) i))(n2:H I 46 [.sl k (pc os)] (.fresh 2 ts.length (pc ts))):H I 122 [sL pc rs] (.fresh 2 ts.length (pc ts)):=p (fn:=U6) (s:=(Q 2 (.own 2 ts.length (pc ts)::(Q 20 [])))) (ex := .ret) rfl rfl (P (Ar (W.seq (C a 400 [] [0,2,3,4] a0) (W.seq (W.block hl1) (C a 400 [.r (.fresh 2 ts.length (pc ts))] [2] (L n2 a0)))))) (by nofun) rfl
def NL(rs:List Rn)(k:Nat)(cs:List AV)(i:Int):Ak:=(.val (sL pc rs)::(Q 1 (.own 2 0 []::(.own 2 k cs::(.val (.int .i64 i)::(Q 16 []))))))
theorem Aqc(rs:List Rn)(k:Nat)(cs:List AV)(i:Int)(c1:B (i<(rs.length:Int))=true)(n1:0<=i/\i<(rs.length:Int))(n2:k+1<=1048576)(n3:H I 161 [Ap (rs.getD (A i) z0)] (Ab (-(O (rs.getD (A i) z0))))):W I UK (NL rs k cs i) .norm (NL rs (k+1) (cs++([.bool (B ((-(O (rs.getD (A i) z0)))<0)),.sl ((G (E (-(O (rs.getD (A i) z0))))).length) (lm (G (E (-(O (rs.getD (A i) z0))))))]:List AV)) (D R (i+1))):=(C a 400 [.b true,.v (Ap (rs.getD (A i) z0)),.r (Ab (-(O (rs.getD (A i) z0))))] [0,2,3,4] (L c1 (L n1 (L (B3 n1) (L n3 (L (show Bj ([.bool (B ((-(O (rs.getD (A i) z0)))<0)),.sl ((G (E (-(O (rs.getD (A i) z0))))).length) (lm (G (E (-(O (rs.getD (A i) z0))))))]:List AV)=1*2 from rfl) (L n2 a0)))))))
theorem Aqd(rs:List Rn)(k:Nat)(cs:List AV)(i:Int)(c1:B (i<(rs.length:Int))=false):W I UK (NL rs k cs i) (.exit 0) (NL rs k cs i):=(C a 400 [.b false] [0,2,3,4] (L c1 a0))
theorem Aqe(rs os ts:List Rn)(i:Int)(k:Nat)(hl1:W I (.loop UK) (NL rs 0 ([]:List AV) 0) (.exit 0) (NL rs k (pc os) i))(n2:H I 46 [.sl k (pc os)] (.fresh 2 ts.length (pc ts))):H I 153 [sL pc rs] (.fresh 2 ts.length (pc ts)):=p (fn:=UL) (s:=(Q 2 (.own 2 ts.length (pc ts)::(Q 18 [])))) (ex := .ret) rfl rfl (P (Ar (W.seq (C a 400 [] [0,2,3,4] a0) (W.seq (W.block hl1) (C a 400 [.r (.fresh 2 ts.length (pc ts))] [2] (L n2 a0)))))) (by nofun) rfl
theorem lO(rs ns:List Rn)(c1:B ((rs.length:Int)>0)=true)(c2:(B ((B8 (O (rs.getD (A (D R ((rs.length:Int)-1))) z0)))<0))=true)(n1:0<=(D R ((rs.length:Int)-1))/\(D R ((rs.length:Int)-1))<(rs.length:Int))(n2:H I 79 [Ap (rs.getD (A (D R ((rs.length:Int)-1))) z0)] (.int .i64 (B8 (O (rs.getD (A (D R ((rs.length:Int)-1))) z0)))))(n3:H I 153 [sL pc rs] (.fresh 2 ns.length (pc ns))):H I 120 [sL pc rs] (.fresh 2 ns.length (pc ns)):=i (fn:=Px) a rfl 400 rfl [.b true,.v (Ap (rs.getD (A (D R ((rs.length:Int)-1))) z0)),.r (.int .i64 (B8 (O (rs.getD (A (D R ((rs.length:Int)-1))) z0)))),.b true,.r (.fresh 2 ns.length (pc ns))] (L c1 (L n1 (L (B3 n1) (L n2 (L c2 (L n3 a0))))))
theorem lP(rs:List Rn)(c1:B ((rs.length:Int)>0)=true)(c2:(B ((B8 (O (rs.getD (A (D R ((rs.length:Int)-1))) z0)))<0))=false)(n1:0<=(D R ((rs.length:Int)-1))/\(D R ((rs.length:Int)-1))<(rs.length:Int))(n2:H I 79 [Ap (rs.getD (A (D R ((rs.length:Int)-1))) z0)] (.int .i64 (B8 (O (rs.getD (A (D R ((rs.length:Int)-1))) z0))))):H I 120 [sL pc rs] (sL pc rs):=i (fn:=Px) a rfl 400 rfl [.b true,.v (Ap (rs.getD (A (D R ((rs.length:Int)-1))) z0)),.r (.int .i64 (B8 (O (rs.getD (A (D R ((rs.length:Int)-1))) z0)))),.b false] (L c1 (L n1 (L (B3 n1) (L n2 (L c2 a0)))))
theorem lQ(rs:List Rn)(c1:B ((rs.length:Int)>0)=false):H I 120 [sL pc rs] (sL pc rs):=i (fn:=Px) a rfl 400 rfl [.b false,.b false] (L c1 (L Ff a0))
def Gf(rs:List Rn)(ds:List Rn)(t:Rn)(u:Rn)(q:Int)(k:Nat)(cs:List AV)(i:Int):Ak:=(Q 4 (.own 2 0 []::(.val (sL pc rs)::(.val (sL pc ds)::(.box [.bool t.1,.sl t.2.length (lm t.2)]::(.box [.bool u.1,.sl u.2.length (lm u.2)]::(.val (.int .i64 q)::(.own 2 k cs::(.val (.int .i64 i)::(Q 68 []))))))))))
theorem xW(rs:List Rn)(ds:List Rn)(t:Rn)(u:Rn)(q:Int)(k:Nat)(cs:List AV)(i:Int)(c1:(B (i<(D R ((rs.length:Int)-1))))=true)(c2:B (i>=q)=true)(n1:0<=i/\i<(rs.length:Int))(n2:0<=(D R (i-q))/\(D R (i-q))<(ds.length:Int))(n3:k+1<=1048576)(n4:H I 96 [.agg [.bool false,.sl t.2.length (lm t.2)],Ap (rs.getD (A i) z0)] (Ab ((O (false,t.2))*(O (rs.getD (A i) z0)))))(n5:H I 96 [Ap u,Ap (ds.getD (A (D R (i-q))) z0)] (Ab ((O u)*(O (ds.getD (A (D R (i-q))) z0)))))(n6:H I 129 [Ab ((O (false,t.2))*(O (rs.getD (A i) z0))),Ab ((O u)*(O (ds.getD (A (D R (i-q))) z0)))] (Ab (((O (false,t.2))*(O (rs.getD (A i) z0)))-((O u)*(O (ds.getD (A (D R (i-q))) z0)))))):W I KA (Gf rs ds t u q k cs i) .norm (Gf rs ds t u q (k+1) (cs++([.bool (B ((((O (false,t.2))*(O (rs.getD (A i) z0)))-((O u)*(O (ds.getD (A (D R (i-q))) z0))))<0)),.sl ((G (E (((O (false,t.2))*(O (rs.getD (A i) z0)))-((O u)*(O (ds.getD (A (D R (i-q))) z0)))))).length) (lm (G (E (((O (false,t.2))*(O (rs.getD (A i) z0)))-((O u)*(O (ds.getD (A (D R (i-q))) z0)))))))]:List AV)) (D R (i+1))):=(C a 400 [.b true,.v (Ap (rs.getD (A i) z0)),.r (Ab ((O (false,t.2))*(O (rs.getD (A i) z0)))),.b true,.v (Ap (ds.getD (A (D R (i-q))) z0)),.r (Ab ((O u)*(O (ds.getD (A (D R (i-q))) z0)))),.r (Ab (((O (false,t.2))*(O (rs.getD (A i) z0)))-((O u)*(O (ds.getD (A (D R (i-q))) z0)))))] [4,5,6,7,8,9,10,11] (L c1 (L n1 (L (B3 n1) (L n4 (L c2 (L n2 (L (B3 n2) (L n5 (L n6 (L (show Bj ([.bool (B ((((O (false,t.2))*(O (rs.getD (A i) z0)))-((O u)*(O (ds.getD (A (D R (i-q))) z0))))<0)),.sl ((G (E (((O (false,t.2))*(O (rs.getD (A i) z0)))-((O u)*(O (ds.getD (A (D R (i-q))) z0)))))).length) (lm (G (E (((O (false,t.2))*(O (rs.getD (A i) z0)))-((O u)*(O (ds.getD (A (D R (i-q))) z0)))))))]:List AV)=1*2 from rfl) (L n3 a0))))))))))))
theorem xX(rs:List Rn)(ds:List Rn)(t:Rn)(u:Rn)(q:Int)(k:Nat)(cs:List AV)(i:Int)(c1:(B (i<(D R ((rs.length:Int)-1))))=true)(c2:B (i>=q)=false)(n1:0<=i/\i<(rs.length:Int))(n2:k+1<=1048576)(n3:H I 96 [.agg [.bool false,.sl t.2.length (lm t.2)],Ap (rs.getD (A i) z0)] (Ab ((O (false,t.2))*(O (rs.getD (A i) z0))))):W I KA (Gf rs ds t u q k cs i) .norm (Gf rs ds t u q (k+1) (cs++([.bool (B (((O (false,t.2))*(O (rs.getD (A i) z0)))<0)),.sl ((G (E ((O (false,t.2))*(O (rs.getD (A i) z0))))).length) (lm (G (E ((O (false,t.2))*(O (rs.getD (A i) z0))))))]:List AV)) (D R (i+1))):=(C a 400 [.b true,.v (Ap (rs.getD (A i) z0)),.r (Ab ((O (false,t.2))*(O (rs.getD (A i) z0)))),.b false] [4,5,6,7,8,9,10,11] (L c1 (L n1 (L (B3 n1) (L n3 (L c2 (L (show Bj ([.bool (B (((O (false,t.2))*(O (rs.getD (A i) z0)))<0)),.sl ((G (E ((O (false,t.2))*(O (rs.getD (A i) z0))))).length) (lm (G (E ((O (false,t.2))*(O (rs.getD (A i) z0))))))]:List AV)=1*2 from rfl) (L n2 a0))))))))
theorem xY(rs:List Rn)(ds:List Rn)(t:Rn)(u:Rn)(q:Int)(k:Nat)(cs:List AV)(i:Int)(c1:(B (i<(D R ((rs.length:Int)-1))))=false):W I KA (Gf rs ds t u q k cs i) (.exit 2) (Gf rs ds t u q k cs i):=(C a 400 [.b false] [4,5,6,7,8,9,10,11] (L c1 a0))
def Jh(rs:List Rn)(ds:List Rn)(t:Rn):Ak:=(Q 4 (.own 2 0 []::(.val (sL pc rs)::(.val (sL pc ds)::(.box [.bool t.1,.sl t.2.length (lm t.2)]::(Q 72 []))))))
theorem Aqf(rs:List Rn)(ds:List Rn)(t:Rn)(os ts xs:List Rn)(k:Nat)(i:Int)(c1:B ((rs.length:Int)>=(ds.length:Int))=true)(c2:B ((B8 (O t))<0)=true)(n1:0<=(D R ((rs.length:Int)-1))/\(D R ((rs.length:Int)-1))<(rs.length:Int))(n2:H I 79 [Ap t] (.int .i64 (B8 (O t))))(n3:H I 161 [Ap (rs.getD (A (D R ((rs.length:Int)-1))) z0)] (Ab (-(O (rs.getD (A (D R ((rs.length:Int)-1))) z0)))))(hl4:W I (.loop KA) (Gf rs ds t (cn (-(O (rs.getD (A (D R ((rs.length:Int)-1))) z0)))) (D R ((rs.length:Int)-(ds.length:Int))) 0 ([]:List AV) 0) (.exit 2) (Gf rs ds t (cn (-(O (rs.getD (A (D R ((rs.length:Int)-1))) z0)))) (D R ((rs.length:Int)-(ds.length:Int))) k (pc os) i))(n5:H I 46 [.sl k (pc os)] (.fresh 2 ts.length (pc ts)))(n6:H I 86 [sL pc ts] (.fresh 2 xs.length (pc xs))):W I Pw (Jh rs ds t) .norm (Jh xs ds t):=(W.seq (C (t:=(Q 4 (.own 2 0 []::(vp rs::(vp ds::(bR t::(Q 72 []))))))) a 400 [.b true] [4,5,6,7] (L c1 a0)) (Ci (P (P (P (Ar (W.seq (C a 400 [.v (Ap (rs.getD (A (D R ((rs.length:Int)-1))) z0)),.r (.int .i64 (B8 (O t))),.b true,.r (Ab (-(O (rs.getD (A (D R ((rs.length:Int)-1))) z0))))] [4,5,6,7,8,9,10,11] (L n1 (L (B3 n1) (L n2 (L c2 (L n3 a0)))))) (W.seq (W.block hl4) (C a 400 [.r (.fresh 2 ts.length (pc ts)),.r (.fresh 2 xs.length (pc xs))] [4,5,6,7] (L n5 (L n6 a0)))))))))))
theorem Aqg(rs:List Rn)(ds:List Rn)(t:Rn)(os ts xs:List Rn)(k:Nat)(i:Int)(c1:B ((rs.length:Int)>=(ds.length:Int))=true)(c2:B ((B8 (O t))<0)=false)(n1:0<=(D R ((rs.length:Int)-1))/\(D R ((rs.length:Int)-1))<(rs.length:Int))(n2:H I 79 [Ap t] (.int .i64 (B8 (O t))))(hl3:W I (.loop KA) (Gf rs ds t (rs.getD (A (D R ((rs.length:Int)-1))) z0) (D R ((rs.length:Int)-(ds.length:Int))) 0 ([]:List AV) 0) (.exit 2) (Gf rs ds t (rs.getD (A (D R ((rs.length:Int)-1))) z0) (D R ((rs.length:Int)-(ds.length:Int))) k (pc os) i))(n4:H I 46 [.sl k (pc os)] (.fresh 2 ts.length (pc ts)))(n5:H I 86 [sL pc ts] (.fresh 2 xs.length (pc xs))):W I Pw (Jh rs ds t) .norm (Jh xs ds t):=(W.seq (C (t:=(Q 4 (.own 2 0 []::(vp rs::(vp ds::(bR t::(Q 72 []))))))) a 400 [.b true] [4,5,6,7] (L c1 a0)) (Ci (P (P (P (Ar (W.seq (C a 400 [.v (Ap (rs.getD (A (D R ((rs.length:Int)-1))) z0)),.r (.int .i64 (B8 (O t))),.b false] [4,5,6,7,8,9,10,11] (L n1 (L (B3 n1) (L n2 (L c2 a0))))) (W.seq (W.block hl3) (C a 400 [.r (.fresh 2 ts.length (pc ts)),.r (.fresh 2 xs.length (pc xs))] [4,5,6,7] (L n4 (L n5 a0)))))))))))
theorem dF(rs:List Rn)(ds:List Rn)(t:Rn)(c1:B ((rs.length:Int)>=(ds.length:Int))=false):W I Pw (Jh rs ds t) (.exit 0) (Jh rs ds t):=(AQ (C a 400 [.b false] [4,5,6,7] (L c1 a0)) (by nofun))
theorem Aqh(rs ss ps ds us:List Rn)(t:Rn)(n1:H I 86 [sL pc rs] (.fresh 2 ps.length (pc ps)))(n2:H I 46 [sL pc ss] (.fresh 2 ds.length (pc ds)))(n3:0<=(D R ((ds.length:Int)-1))/\(D R ((ds.length:Int)-1))<(ds.length:Int))(hl4:W I (.loop Pw) (Jh ps ds (ds.getD (A (D R ((ds.length:Int)-1))) z0)) (.exit 0) (Jh us ds t)):H I 119 [sL pc rs,sL pc ss] (sL pc us):=p (fn:=U4) (s:=(Q 4 (.val (sL pc us)::(Q 75 [])))) (ex := .ret) rfl rfl (P (P (W.seq (C a 400 [.r (.fresh 2 ps.length (pc ps)),.r (.fresh 2 ds.length (pc ds)),.v (Ap (ds.getD (A (D R ((ds.length:Int)-1))) z0))] [4,5,6,7] (L n1 (L n2 (L n3 (L (B3 n3) a0))))) (W.seq (W.block hl4) (C a 400 [] [4] a0))))) (by nofun) rfl
def Ji(as1:List Rn)(bs:List Rn):Ak:=(Q 4 (.own 2 0 []::(.val (sL pc as1)::(.val (sL pc bs)::(Q 15 [])))))
theorem dG(as1:List Rn)(bs:List Rn)(us:List Rn)(c1:B ((bs.length:Int)>0)=true)(n1:H I 119 [sL pc as1,sL pc bs] (sL pc us)):W I Pt (Ji as1 bs) .norm (Ji bs us):=(C a 400 [.b true,.r (sL pc us)] [4,5,6] (L c1 (L n1 a0)))
theorem dH(as1:List Rn)(bs:List Rn)(c1:B ((bs.length:Int)>0)=false):W I Pt (Ji as1 bs) (.exit 0) (Ji as1 bs):=(C a 400 [.b false] [4,5,6] (L c1 a0))
theorem xZ(rs ss ps qs as1 bs ts:List Rn)(n1:H I 86 [sL pc rs] (.fresh 2 ps.length (pc ps)))(n2:H I 86 [sL pc ss] (.fresh 2 qs.length (pc qs)))(hl3:W I (.loop Pt) (Ji ps qs) (.exit 0) (Ji as1 bs))(n4:H I 120 [sL pc as1] (.fresh 2 ts.length (pc ts))):H I 70 [sL pc rs,sL pc ss] (.fresh 2 ts.length (pc ts)):=p (fn:=Xp) (s:=(Q 4 (.own 2 ts.length (pc ts)::(Q 17 [])))) (ex := .ret) rfl rfl (P (W.seq (C a 400 [.r (.fresh 2 ps.length (pc ps)),.r (.fresh 2 qs.length (pc qs))] [4,5,6] (L n1 (L n2 a0))) (W.seq (W.block hl3) (C a 400 [.r (.fresh 2 ts.length (pc ts))] [4] (L n4 a0))))) (by nofun) rfl
theorem yA(rs ss ps qs as1 bs:List Rn)(n1:H I 86 [sL pc rs] (.fresh 2 ps.length (pc ps)))(n2:H I 86 [sL pc ss] (.fresh 2 qs.length (pc qs)))(hl3:W I (.loop Pt) (Ji ps qs) (.exit 0) (Ji as1 bs))(n4:H I 120 [sL pc as1] (sL pc as1)):H I 70 [sL pc rs,sL pc ss] (sL pc as1):=p (fn:=Xp) (s:=(Q 4 (.val (sL pc as1)::(Q 17 [])))) (ex := .ret) rfl rfl (P (W.seq (C a 400 [.r (.fresh 2 ps.length (pc ps)),.r (.fresh 2 qs.length (pc qs))] [4,5,6] (L n1 (L n2 a0))) (W.seq (W.block hl3) (C a 400 [.r (sL pc as1)] [4] (L n4 a0))))) (by nofun) rfl
def IC(rs:List Rn)(ds:List Rn)(t:Rn)(k:Nat)(os:List Rn)(u:Rn)(q:Int)(i:Int):Ak:=(Q 4 (.own 2 0 []::(.val (sL pc rs)::(.val (sL pc ds)::(.box [.bool t.1,.sl t.2.length (lm t.2)]::(.own 2 k (pc os)::(.box [.bool u.1,.sl u.2.length (lm u.2)]::(.val (.int .i64 q)::(.val (.int .i64 i)::(Q 91 []))))))))))
theorem yB(rs:List Rn)(ds:List Rn)(t:Rn)(k:Nat)(os:List Rn)(u:Rn)(q:Int)(i:Int)(c1:B (i<(k:Int))=true)(n1:0<=i/\i<(k:Int))(n2:os.length=k)(n3:H I 96 [Ap (os.getD (A i) z0),Ap t] (Ab ((O (os.getD (A i) z0))*(O t)))):W I On (IC rs ds t k os u q i) .norm (IC rs ds t k (os.set (A i) (cn ((O (os.getD (A i) z0))*(O t)))) u q (D R (i+1))):=(C a 400 [.b true,.v (Ap (os.getD (A i) z0)),.r (Ab ((O (os.getD (A i) z0))*(O t))),.l (pc (os.set (A i) (cn ((O (os.getD (A i) z0))*(O t)))))] [4,5,6,7,8,9,10,11] (L c1 (L n1 (L (FM n2 n1) (L n3 (L n1 (L (Ft (r:=cn ((O (os.getD (A i) z0))*(O t))) n2 n1) a0)))))))
theorem yC(rs:List Rn)(ds:List Rn)(t:Rn)(k:Nat)(os:List Rn)(u:Rn)(q:Int)(i:Int)(c1:B (i<(k:Int))=false):W I On (IC rs ds t k os u q i) (.exit 2) (IC rs ds t k os u q i):=(C a 400 [.b false] [4,5,6,7,8,9,10,11] (L c1 a0))
def GM(rs:List Rn)(ds:List Rn)(t:Rn)(k:Nat)(os:List Rn)(u:Rn)(q:Int)(m:Nat)(cs:List AV)(i:Int):Ak:=(Q 4 (.own 2 0 []::(.val (sL pc rs)::(.val (sL pc ds)::(.box [.bool t.1,.sl t.2.length (lm t.2)]::(.own 2 k (pc os)::(.box [.bool u.1,.sl u.2.length (lm u.2)]::(.val (.int .i64 q)::(Q 1 (.own 2 m cs::(.val (.int .i64 i)::(Q 89 []))))))))))))
theorem yD(rs:List Rn)(ds:List Rn)(t:Rn)(k:Nat)(os:List Rn)(u:Rn)(q:Int)(m:Nat)(cs:List AV)(i:Int)(c1:(B (i<(D R ((rs.length:Int)-1))))=true)(c2:B (i>=q)=true)(n1:0<=i/\i<(rs.length:Int))(n2:0<=(D R (i-q))/\(D R (i-q))<(ds.length:Int))(n3:m+1<=1048576)(n4:H I 96 [Ap t,Ap (rs.getD (A i) z0)] (Ab ((O t)*(O (rs.getD (A i) z0)))))(n5:H I 96 [Ap u,Ap (ds.getD (A (D R (i-q))) z0)] (Ab ((O u)*(O (ds.getD (A (D R (i-q))) z0)))))(n6:H I 129 [Ab ((O t)*(O (rs.getD (A i) z0))),Ab ((O u)*(O (ds.getD (A (D R (i-q))) z0)))] (Ab (((O t)*(O (rs.getD (A i) z0)))-((O u)*(O (ds.getD (A (D R (i-q))) z0)))))):W I Me (GM rs ds t k os u q m cs i) .norm (GM rs ds t k os u q (m+1) (cs++([.bool (B ((((O t)*(O (rs.getD (A i) z0)))-((O u)*(O (ds.getD (A (D R (i-q))) z0))))<0)),.sl ((G (E (((O t)*(O (rs.getD (A i) z0)))-((O u)*(O (ds.getD (A (D R (i-q))) z0)))))).length) (lm (G (E (((O t)*(O (rs.getD (A i) z0)))-((O u)*(O (ds.getD (A (D R (i-q))) z0)))))))]:List AV)) (D R (i+1))):=(C a 400 [.b true,.v (Ap (rs.getD (A i) z0)),.r (Ab ((O t)*(O (rs.getD (A i) z0)))),.b true,.v (Ap (ds.getD (A (D R (i-q))) z0)),.r (Ab ((O u)*(O (ds.getD (A (D R (i-q))) z0)))),.r (Ab (((O t)*(O (rs.getD (A i) z0)))-((O u)*(O (ds.getD (A (D R (i-q))) z0)))))] [4,5,6,7,8,9,10,12,13] (L c1 (L n1 (L (B3 n1) (L n4 (L c2 (L n2 (L (B3 n2) (L n5 (L n6 (L (show Bj ([.bool (B ((((O t)*(O (rs.getD (A i) z0)))-((O u)*(O (ds.getD (A (D R (i-q))) z0))))<0)),.sl ((G (E (((O t)*(O (rs.getD (A i) z0)))-((O u)*(O (ds.getD (A (D R (i-q))) z0)))))).length) (lm (G (E (((O t)*(O (rs.getD (A i) z0)))-((O u)*(O (ds.getD (A (D R (i-q))) z0)))))))]:List AV)=1*2 from rfl) (L n3 a0))))))))))))
theorem yE(rs:List Rn)(ds:List Rn)(t:Rn)(k:Nat)(os:List Rn)(u:Rn)(q:Int)(m:Nat)(cs:List AV)(i:Int)(c1:(B (i<(D R ((rs.length:Int)-1))))=true)(c2:B (i>=q)=false)(n1:0<=i/\i<(rs.length:Int))(n2:m+1<=1048576)(n3:H I 96 [Ap t,Ap (rs.getD (A i) z0)] (Ab ((O t)*(O (rs.getD (A i) z0))))):W I Me (GM rs ds t k os u q m cs i) .norm (GM rs ds t k os u q (m+1) (cs++([.bool (B (((O t)*(O (rs.getD (A i) z0)))<0)),.sl ((G (E ((O t)*(O (rs.getD (A i) z0))))).length) (lm (G (E ((O t)*(O (rs.getD (A i) z0))))))]:List AV)) (D R (i+1))):=(C a 400 [.b true,.v (Ap (rs.getD (A i) z0)),.r (Ab ((O t)*(O (rs.getD (A i) z0)))),.b false] [4,5,6,7,8,9,10,12,13] (L c1 (L n1 (L (B3 n1) (L n3 (L c2 (L (show Bj ([.bool (B (((O t)*(O (rs.getD (A i) z0)))<0)),.sl ((G (E ((O t)*(O (rs.getD (A i) z0))))).length) (lm (G (E ((O t)*(O (rs.getD (A i) z0))))))]:List AV)=1*2 from rfl) (L n2 a0))))))))
theorem yF(rs:List Rn)(ds:List Rn)(t:Rn)(k:Nat)(os:List Rn)(u:Rn)(q:Int)(m:Nat)(cs:List AV)(i:Int)(c1:(B (i<(D R ((rs.length:Int)-1))))=false):W I Me (GM rs ds t k os u q m cs i) (.exit 4) (GM rs ds t k os u q m cs i):=(C a 400 [.b false] [4,5,6,7,8,9,10,12,13] (L c1 a0))
def PH(rs:List Rn)(ds:List Rn)(t:Rn)(k:Nat)(os:List Rn):Ak:=(Q 4 (.own 2 0 []::(.val (sL pc rs)::(.val (sL pc ds)::(.box [.bool t.1,.sl t.2.length (lm t.2)]::(.own 2 k (pc os)::(Q 94 [])))))))
theorem Aqi(rs:List Rn)(ds:List Rn)(t:Rn)(k:Nat)(os:List Rn)(os1 ns ts:List Rn)(m:Nat)(i1 i2:Int)(c1:B ((rs.length:Int)>=(ds.length:Int))=true)(n1:0<=(D R ((rs.length:Int)-1))/\(D R ((rs.length:Int)-1))<(rs.length:Int))(hl2:W I (.loop On) (IC rs ds t k os (rs.getD (A (D R ((rs.length:Int)-1))) z0) (D R ((rs.length:Int)-(ds.length:Int))) 0) (.exit 2) (IC rs ds t k os1 (rs.getD (A (D R ((rs.length:Int)-1))) z0) (D R ((rs.length:Int)-(ds.length:Int))) i1))(n3:0<=(D R ((rs.length:Int)-(ds.length:Int)))/\(D R ((rs.length:Int)-(ds.length:Int)))<(k:Int))(n4:os1.length=k)(hl5:W I (.loop Me) (GM rs ds t k (os1.set (A (D R ((rs.length:Int)-(ds.length:Int)))) (rs.getD (A (D R ((rs.length:Int)-1))) z0)) (rs.getD (A (D R ((rs.length:Int)-1))) z0) (D R ((rs.length:Int)-(ds.length:Int))) 0 ([]:List AV) 0) (.exit 4) (GM rs ds t k (os1.set (A (D R ((rs.length:Int)-(ds.length:Int)))) (rs.getD (A (D R ((rs.length:Int)-1))) z0)) (rs.getD (A (D R ((rs.length:Int)-1))) z0) (D R ((rs.length:Int)-(ds.length:Int))) m (pc ns) i2))(n6:H I 46 [.sl m (pc ns)] (.fresh 2 ts.length (pc ts))):W I U7 (PH rs ds t k os) .norm (PH ts ds t k (os1.set (A (D R ((rs.length:Int)-(ds.length:Int)))) (rs.getD (A (D R ((rs.length:Int)-1))) z0))):=(W.seq (C (t:=(Q 4 (.own 2 0 []::(vp rs::(vp ds::(bR t::(.own 2 k (pc os)::(Q 94 [])))))))) a 400 [.b true] [4,5,6,7,8] (L c1 a0)) (Ci (P (Ar (W.seq (C a 400 [.v (Ap (rs.getD (A (D R ((rs.length:Int)-1))) z0))] [4,5,6,7,8,9,10,11] (L n1 (L (B3 n1) a0))) (W.seq (W.block hl2) (P (Ar (W.seq (C a 400 [.l (pc (os1.set (A (D R ((rs.length:Int)-(ds.length:Int)))) (rs.getD (A (D R ((rs.length:Int)-1))) z0)))] [4,5,6,7,8,9,10,12,13] (L n3 (L (Ft (r:=rs.getD (A (D R ((rs.length:Int)-1))) z0) n4 n3) a0))) (W.seq (W.block hl5) (C a 400 [.r (.fresh 2 ts.length (pc ts))] [4,5,6,7,8] (L n6 a0))))))))))))
theorem dI(rs:List Rn)(ds:List Rn)(t:Rn)(k:Nat)(os:List Rn)(c1:B ((rs.length:Int)>=(ds.length:Int))=false):W I U7 (PH rs ds t k os) (.exit 0) (PH rs ds t k os):=(AQ (C a 400 [.b false] [4,5,6,7,8] (L c1 a0)) (by nofun))
theorem Aqj(rs ss ps ds xs os us ts:List Rn)(t:Rn)(k:Nat)(n1:H I 46 [sL pc rs] (.fresh 2 ps.length (pc ps)))(n2:H I 46 [sL pc ss] (.fresh 2 ds.length (pc ds)))(n3:0<=(D R ((ds.length:Int)-1))/\(D R ((ds.length:Int)-1))<(ds.length:Int))(n4:0<=(D R ((D R ((ps.length:Int)-(ds.length:Int)))+1))/\(D R ((D R ((ps.length:Int)-(ds.length:Int)))+1))<=1048576)(hl5:W I (.loop U7) ((Q 4 (.own 2 0 []::(.val (sL pc ps)::(.val (sL pc ds)::(.box [.bool ((ds.getD (A (D R ((ds.length:Int)-1))) z0).1),.sl ((ds.getD (A (D R ((ds.length:Int)-1))) z0).2.length) (lm (ds.getD (A (D R ((ds.length:Int)-1))) z0).2)]::(.own 2 (A (D R ((D R ((ps.length:Int)-(ds.length:Int)))+1))) (Co [.bool false,.sl 0 []] (A (D R ((D R ((ps.length:Int)-(ds.length:Int)))+1))))::(Q 94 [])))))))) (.exit 0) (PH xs ds t k os))(n6:H I 46 [.sl k (pc os)] (.fresh 2 ts.length (pc ts)))(n7:H I 86 [sL pc ts] (.fresh 2 us.length (pc us)))(n8:H I 120 [sL pc us] (sL pc us)):H I 123 [sL pc rs,sL pc ss] (sL pc us):=p (fn:=U8) (s:=(Q 4 (.val (sL pc us)::(Q 98 [])))) (ex := .ret) rfl rfl (P (P (P (W.seq (C a 400 [.r (.fresh 2 ps.length (pc ps)),.r (.fresh 2 ds.length (pc ds)),.v (Ap (ds.getD (A (D R ((ds.length:Int)-1))) z0))] [4,5,6,7,8] (L n1 (L n2 (L n3 (L (B3 n3) (L n4 a0)))))) (W.seq (W.block hl5) (C a 400 [.r (.fresh 2 ts.length (pc ts)),.r (.fresh 2 us.length (pc us)),.r (sL pc us)] [4] (L n6 (L n7 (L n8 a0))))))))) (by nofun) rfl
theorem Za(rs ps xs:List Rn)(c1:B ((xs.length:Int)<=1)=true)(n1:H I 86 [sL pc rs] (.fresh 2 ps.length (pc ps)))(n2:H I 120 [sL pc ps] (.fresh 2 xs.length (pc xs))):H I 73 [sL pc rs] (sL pc xs):=i (fn:=OS) a rfl 400 rfl [.r (.fresh 2 ps.length (pc ps)),.r (.fresh 2 xs.length (pc xs)),.b true] (L n1 (L n2 (L c1 a0)))
theorem Zb(rs ps xs ds gs us:List Rn)(c1:B ((xs.length:Int)<=1)=false)(n1:H I 86 [sL pc rs] (.fresh 2 ps.length (pc ps)))(n2:H I 120 [sL pc ps] (.fresh 2 xs.length (pc xs)))(n3:H I 122 [sL pc xs] (.fresh 2 ds.length (pc ds)))(n4:H I 70 [sL pc xs,sL pc ds] (.fresh 2 gs.length (pc gs)))(n5:H I 123 [sL pc xs,sL pc gs] (sL pc us)):H I 73 [sL pc rs] (sL pc us):=i (fn:=OS) a rfl 400 rfl [.r (.fresh 2 ps.length (pc ps)),.r (.fresh 2 xs.length (pc xs)),.b false,.r (.fresh 2 ds.length (pc ds)),.r (.fresh 2 gs.length (pc gs)),.r (sL pc us)] (L n1 (L n2 (L c1 (L n3 (L n4 (L n5 a0))))))
theorem Zc(rs ps xs ds gs us:List Rn)(c1:B ((xs.length:Int)<=1)=false)(n1:H I 86 [sL pc rs] (.fresh 2 ps.length (pc ps)))(n2:H I 120 [sL pc ps] (.fresh 2 xs.length (pc xs)))(n3:H I 122 [sL pc xs] (.fresh 2 ds.length (pc ds)))(n4:H I 70 [sL pc xs,sL pc ds] (sL pc gs))(n5:H I 123 [sL pc xs,sL pc gs] (sL pc us)):H I 73 [sL pc rs] (sL pc us):=i (fn:=OS) a rfl 400 rfl [.r (.fresh 2 ps.length (pc ps)),.r (.fresh 2 xs.length (pc xs)),.b false,.r (.fresh 2 ds.length (pc ds)),.r (sL pc gs),.r (sL pc us)] (L n1 (L n2 (L c1 (L n3 (L n4 (L n5 a0))))))
theorem Zd(rs ps ds gs us:List Rn)(c1:B ((ps.length:Int)<=1)=false)(n1:H I 86 [sL pc rs] (.fresh 2 ps.length (pc ps)))(n2:H I 120 [sL pc ps] (sL pc ps))(n3:H I 122 [sL pc ps] (.fresh 2 ds.length (pc ds)))(n4:H I 70 [sL pc ps,sL pc ds] (.fresh 2 gs.length (pc gs)))(n5:H I 123 [sL pc ps,sL pc gs] (sL pc us)):H I 73 [sL pc rs] (sL pc us):=i (fn:=OS) a rfl 400 rfl [.r (.fresh 2 ps.length (pc ps)),.r (sL pc ps),.b false,.r (.fresh 2 ds.length (pc ds)),.r (.fresh 2 gs.length (pc gs)),.r (sL pc us)] (L n1 (L n2 (L c1 (L n3 (L n4 (L n5 a0))))))
theorem Ze(rs ps:List Rn)(c1:B ((ps.length:Int)<=1)=true)(n1:H I 86 [sL pc rs] (.fresh 2 ps.length (pc ps)))(n2:H I 120 [sL pc ps] (sL pc ps)):H I 73 [sL pc rs] (sL pc ps):=i (fn:=OS) a rfl 400 rfl [.r (.fresh 2 ps.length (pc ps)),.r (sL pc ps),.b true] (L n1 (L n2 (L c1 a0)))
theorem Zf(rs ps ds gs us:List Rn)(c1:B ((ps.length:Int)<=1)=false)(n1:H I 86 [sL pc rs] (.fresh 2 ps.length (pc ps)))(n2:H I 120 [sL pc ps] (sL pc ps))(n3:H I 122 [sL pc ps] (.fresh 2 ds.length (pc ds)))(n4:H I 70 [sL pc ps,sL pc ds] (sL pc gs))(n5:H I 123 [sL pc ps,sL pc gs] (sL pc us)):H I 73 [sL pc rs] (sL pc us):=i (fn:=OS) a rfl 400 rfl [.r (.fresh 2 ps.length (pc ps)),.r (sL pc ps),.b false,.r (.fresh 2 ds.length (pc ds)),.r (sL pc gs),.r (sL pc us)] (L n1 (L n2 (L c1 (L n3 (L n4 (L n5 a0))))))
theorem lR(a b q r:Int)(hq:q=(a.natAbs:Int) / (b.natAbs:Int))(hr:r=(a.natAbs:Int) % (b.natAbs:Int)) :
  (if (!(decide (a<0)==decide (b<0)))=true then -q else q)=o a b/\(if decide (a<0)=true then -r else r)=f a b:=by
 subst hq hr;have hA:(0:Int)<=(a.natAbs:Int):=by omega
 by_cases ha:a<0 <;> by_cases hb:b<0
 ·have ea:a = -(a.natAbs:Int):=by omega
  have eb:b = -(b.natAbs:Int):=by omega
  have h1:o a b=(a.natAbs:Int) / (b.natAbs:Int):=by
   rw[<- B0 hA];conv=>lhs;rw[ea,eb,Adc,Ade,Int.neg_neg]
  have h2:f a b = -((a.natAbs:Int) % (b.natAbs:Int)):=by
   rw[<- Bc hA];conv=>lhs;rw[ea,eb,Adf,Adg]
  rw[h1,h2,decide_eq_true ha,decide_eq_true hb];simp
 ·have ea:a = -(a.natAbs:Int):=by omega
  have eb:b=(b.natAbs:Int):=by omega
  have h1:o a b = -((a.natAbs:Int) / (b.natAbs:Int)):=by
   rw[<- B0 hA];conv=>lhs;rw[ea,eb,Adc]
  have h2:f a b = -((a.natAbs:Int) % (b.natAbs:Int)):=by
   rw[<- Bc hA];conv=>lhs;rw[ea,eb,Adf]
  rw[h1,h2,decide_eq_true ha,decide_eq_false hb];simp
 ·have ea:a=(a.natAbs:Int):=by omega
  have eb:b = -(b.natAbs:Int):=by omega
  have h1:o a b = -((a.natAbs:Int) / (b.natAbs:Int)):=by
   rw[<- B0 hA];conv=>lhs;rw[ea,eb,Ade]
  have h2:f a b=(a.natAbs:Int) % (b.natAbs:Int):=by
   rw[<- Bc hA];conv=>lhs;rw[ea,eb,Adg]
  rw[h1,h2,decide_eq_false ha,decide_eq_true hb];simp
 ·have ea:a=(a.natAbs:Int):=by omega
  have eb:b=(b.natAbs:Int):=by omega
  have h1:o a b=(a.natAbs:Int) / (b.natAbs:Int):=by
   rw[<- B0 hA];conv=>lhs;rw[ea,eb]
  have h2:f a b=(a.natAbs:Int) % (b.natAbs:Int):=by
   rw[<- Bc hA];conv=>lhs;rw[ea,eb]
  rw[h1,h2,decide_eq_false ha,decide_eq_false hb];simp
theorem O2{na nb:Bool}{xs ys:List Int}(hx:AI xs)(hy:AI ys)(h0:rv nb ys ≠ 0)(h1:xs.length<1048576)(h2:ys.length<1048576) :
  H I 158 [.agg [.bool na,sL lm xs],.agg [.bool nb,sL lm ys]] (.tup [Ab (o (rv na xs) (rv nb ys)),Ab (f (rv na xs) (rv nb ys))]):=by
 have l1:=Es (neg:=na) hx;have l2:=Es (neg:=nb) hy;have r1:=CZ (neg:=na) hx (by omega);have r2:=CZ (neg:=nb) hy (by omega);generalize rv na xs=a at *
 generalize rv nb ys=b at *
 have hb0:G b.natAbs ≠ []:=by rw[Ne,Io];omega
 obtain⟨qs,rs,q1,q2,q3,q4,q5,q6,q7⟩:=WF (Cj a.natAbs) (Cj b.natAbs) hb0 (by omega) (by omega);rw[Cs,Cs] at q5 q6;obtain⟨e1,e2⟩:=lR a b _ _ q5 q6;have m1:=DD (neg := !(decide (a<0)==decide (b<0))) q1 q3;have m2:=DD (neg:=decide (a<0)) q2 q4;have f1:rv (!(decide (a<0)==decide (b<0))) qs=o a b:=e1;have f2:rv (B (a<0)) rs=f a b:=e2;rw[f1] at m1;rw[f2] at m2;exact Aor na nb _ _ xs ys _ _ qs rs _ _ r1 r2 q7 m1 m2
theorem SZ{n:Nat}{b:Bool}(h:(G n).length<=2):H I 183 [.agg [.bool b,.sl (G n).length (lm (G n))]] (.int .u64 (n:Nat)):=by
 have hu:=BC n;have hv:=Cs n;generalize hxs:G n=xs at *
 have hl:=W.up (prog:=I) (c:=UY) (ex := .exit 0) (fin:=NC xs (n:Nat) (xs.length:Nat) (xs.length:Nat))
  (fun i=>NC xs (Aa (xs.take i)) (xs.length:Nat) (i:Nat)) xs.length (by nofun) ?_ ?_ 0 (Bf _)
 ·exact Aou b xs (n:Nat) (xs.length:Nat) (xs.length:Nat) (by simpa [Aa] using hl)
 ·intro i hi;have ei:D R ((i:Int)+1)=((i+1:Nat):Int):=by rw[AW (by omega) (by omega)];omega
  have e32:D U (D R (32*(i:Int)))=((32*i:Nat):Int):=by rw[AW (by omega) (by omega),Cx (by omega)];omega
  have em:min (A ((32*i:Nat):Int)) (Aj .u64)=32*i:=by rw[F];show min (32*i) 64=32*i;omega
  have hxi:=AA hu i;have k:=Aos xs (Aa (xs.take i)) (xs.length:Nat) (i:Nat) (by simp;omega) (by omega) (by rw[e32];omega);rw[ei,e32,em,F,Cx (n:=xs.getD i 0) (by omega)] at k;have hp:xs.getD i 0*2^(32*i)<18446744073709551616:=by
   have:=FP (show 32*i<=32 by omega);rw[show (2:Int)^32=4294967296 by decide] at this;have:=Ei (show xs.getD i 0<=4294967295 by omega) this (by have:=B7 (32*i);omega) (by omega);omega
  have h0:=A1 hxi.1 (show (0:Int)<=2^(32*i) by have:=B7 (32*i);omega);have hlt:=Fv hu i;rw[Mu] at hlt;rw[Cx ⟨h0,hp⟩,Of,Ane hxi.1 hp (by omega) ⟨AK (Dm hu i),hlt⟩] at k;refine k.to rfl ?_;rw[Du xs i hi,Mu];congr 1;rw[AD];omega
 ·rw[Ee,hv];exact Aot xs (n:Nat) (xs.length:Nat) (xs.length:Nat) (by simp)
theorem Zg:∀ (f a b:Nat),b<=f->W I (.loop UW) (ND (a:Nat) (b:Nat)) (.exit 0) (ND (HT a b:Nat) 0):=by
 intro f;induction f with
 | zero =>
  intro a b hb;have:b=0:=by omega
  subst this;rw[G1];exact Al (cR _ _ (by simp)) (by nofun)
 | succ f ih =>
  intro a b hb;by_cases h0:b=0
  ·subst h0;rw[G1];exact Al (cR _ _ (by simp)) (by nofun)
  ·have k:=Aow (a:Nat) (b:Nat) (by simp;omega) (by omega);rw[Bc (by omega),<- Aqk] at k;have hm:=G5 a (show 0<b by omega);have:=ih b (a % b) (by omega);rw[IX b,<- Auc,IX b a] at this;exact W.loop k this
theorem qS{n:Nat}(h:(G n).length<=2):(n:Int)<18446744073709551616:=by
 have h1:=D4 (BC n);rw[Cs] at h1;have h2:=Fq h;rw[show (4294967296:Int)^2=18446744073709551616 by decide] at h2;omega
theorem dJ{n:Nat}(h:(n:Int)<18446744073709551616):H I 181 [.int .u64 (n:Nat)] (Ab (n:Nat)):=by
 obtain⟨h1,h2⟩:=L6 (u:=(n:Nat)) (by omega);have m:=DD (neg:=false) h1 (by simp);have e:rv false [D A4 (n:Int),D A4 (d (n:Int) (2^(min (A 32) (Aj .u64))))]=(n:Nat):=h2;rw[e] at m;exact Aov (n:Nat) _ m
theorem Ayu(n:Nat):cn (n:Nat)=(false,G n):=by
 unfold cn;rw[B9,decide_eq_false (by omega)]
theorem Jj(n:Nat):(cn (n:Nat)).2.length=(G n).length:=by rw [Ayu]
theorem yG{K:Nat}(hK:K<1048576):∀ (f a b:Nat),b<=f->AY K (a:Nat)->AY K (b:Nat) ->
  (∃ y z,W I (.loop Lc) (Gu (cn (a:Nat)) (cn (b:Nat)) (false,[])) (.exit 0) (Gu (cn (HT a b:Nat)) y z)) \/
  (∃ x y,W I (.loop Lc) (Gu (cn (a:Nat)) (cn (b:Nat)) (false,[])) .ret (Gu x y (cn (HT a b:Nat)))):=by
 intro f;induction f with
 | zero =>
  intro a b hb _ _;have:b=0:=by omega
  subst this;rw[G1];exact Or.inl ⟨_,_,Al (cS _ _ _ (by rw[Jj];rfl)) (by nofun)⟩
 | succ f ih =>
  intro a b hb ka kb;by_cases h0:b=0
  ·subst h0;rw[G1];exact Or.inl ⟨_,_,Al (cS _ _ _ (by rw[Jj];rfl)) (by nofun)⟩
  ·have hbl:0<(G b).length:=An.2 (by rw[Ne,Io];exact h0);have la:=ka.len;have lb:=kb.len;rw[B9] at la lb;by_cases h2:(G a).length<=2/\(G b).length<=2
   ·right;have ta:=qS h2.1;have tb:=qS h2.2;have hg:((HT a b:Nat):Int)<18446744073709551616:=by
     have:=QI (by omega) (Nat.gcd_dvd_right a b);omega
    have u1:=SZ (b:=(cn (a:Nat)).1) h2.1;have u2:=SZ (b:=(cn (b:Nat)).1) h2.2;have u3:=Aox (a:Nat) (b:Nat) _ _ (Zg b a b (Am _));have u4:=dJ hg;have k:=Aoy (cn (a:Nat)) (cn (b:Nat)) (false,[]) (a:Nat) (b:Nat) (HT a b:Nat) (HT a b:Nat) (by rw[Jj];simp;omega) (by rw[Jj];simp;omega) (by rw[Jj];simp;omega) u1 u2 u3 u4;exact⟨_,_,Al k (by nofun)⟩
   ·have hq:=O2 (na:=(cn (a:Nat)).1) (nb:=(cn (b:Nat)).1) (xs:=(cn (a:Nat)).2) (ys:=(cn (b:Nat)).2) (BC _) (BC _) (by have:=At (b:Nat);unfold O at this;rw[this];omega) (by rw[Jj];omega) (by rw[Jj];omega);rw[show rv (cn (a:Nat)).1 (cn (a:Nat)).2=(a:Nat) from At _,show rv (cn (b:Nat)).1 (cn (b:Nat)).2=(b:Nat) from At _,Bc (by omega),<- Aqk] at hq;have hm:=G5 a (show 0<b by omega);have step:W I Lc (Gu (cn (a:Nat)) (cn (b:Nat)) (false,[])) .norm (Gu (cn (b:Nat)) (cn ((a % b:Nat):Int)) (false,[])):=by
     by_cases h3:(G a).length<=2
     ·exact Aoz (cn (a:Nat)) (cn (b:Nat)) (false,[]) _ _ (by rw[Jj];simp;omega) (by rw[Jj];simp;omega) (by rw[Jj];simp;omega) hq
     ·exact Apa (cn (a:Nat)) (cn (b:Nat)) (false,[]) _ _ (by rw[Jj];simp;omega) (by rw[Jj];simp;omega) hq
    have kr:AY K ((a % b:Nat):Int):=by
     unfold AY at *
     rw[B9] at *
     exact Dh (Qe hm) kb
    have e:HT b (a % b)=HT a b:=by rw[IX b,<- Auc,IX b a]
    rcases ih b (a % b) (by omega) kb kr with ⟨y,z,h⟩ | ⟨x,y,h⟩
    ·rw[e] at h;exact Or.inl ⟨y,z,W.loop step h⟩
    ·rw[e] at h;exact T1 ⟨x,y,W.loop step h⟩
theorem XJ{na nb:Bool}{xs ys:List Int}(hx:AI xs)(hy:AI ys)(h1:xs.length<1048576)(h2:ys.length<1048576) :
  H I 159 [.agg [.bool na,sL lm xs],.agg [.bool nb,sL lm ys]] (Ab (CV (rv na xs) (rv nb ys):Nat)):=by
 have a1:=RW (neg:=na) hx (by omega);have a2:=RW (neg:=nb) hy (by omega);have f1:=Vk (neg:=na) hx;have f2:=Vk (neg:=nb) hy;have g1:AY (max xs.length ys.length) (((rv na xs).natAbs:Nat):Int):=by
  unfold AY at *;rw[B9];exact F5 f1 (Bm (by decide) (by omega))
 have g2:AY (max xs.length ys.length) (((rv nb ys).natAbs:Nat):Int):=by
  unfold AY at *;rw[B9];exact F5 f2 (Bm (by decide) (by omega))
 rcases yG (K:=max xs.length ys.length) (by omega) _ _ _ (Am _) g1 g2 with ⟨y,z,h⟩ | ⟨x,y,h⟩
 ·exact jZ na nb xs ys _ _ _ _ _ a1 a2 h
 ·exact kA na nb xs ys _ _ _ _ _ a1 a2 h
def TQE:Cp:=TQD
theorem CL:B_ I TQE:=kF
def OY(N:Nat)(cs:List AV)(i:Int):Ak:=(.val (.sl N cs)::(Q 1 (.val (.int .i64 0)::(.val (.int .i64 i)::(Q 16 [])))))
theorem Ayv(N:Nat)(cs:List AV)(i:Int)(r:Rn)(v:Int)(c1:B (i>=0)=true)(c2:(v==0)=true)(n1:0<=i/\i<(N:Int))(n2:Bl (g (A i*2) cs) 0 2 false=some (.agg [.bool r.1,.sl r.2.length (lm r.2)]))(n3:H I 101 [.agg [.bool r.1,.sl r.2.length (lm r.2)]] (.int .i64 v)):W I Xm (OY N cs i) .norm (OY N cs (D R (i-1))):=C BB 300 [.b true,.v (.agg [.bool r.1,.sl r.2.length (lm r.2)]),.r (.int .i64 v),.b true] [0,2,3] (L c1 (L n1 (L n2 (L n3 (L c2 a0))))) (by kernel_rfl)
theorem Ayw(N:Nat)(cs:List AV)(i:Int)(r:Rn)(v:Int)(c1:B (i>=0)=true)(c2:(v==0)=false)(n1:0<=i/\i<(N:Int))(n2:Bl (g (A i*2) cs) 0 2 false=some (.agg [.bool r.1,.sl r.2.length (lm r.2)]))(n3:H I 101 [.agg [.bool r.1,.sl r.2.length (lm r.2)]] (.int .i64 v)):W I Xm (OY N cs i) (.exit 0) (OY N cs i):=C BB 300 [.b true,.v (.agg [.bool r.1,.sl r.2.length (lm r.2)]),.r (.int .i64 v),.b false] [0,2,3] (L c1 (L n1 (L n2 (L n3 (L c2 a0))))) (by kernel_rfl)
theorem Ayx(N:Nat)(cs:List AV)(i:Int)(c1:B (i>=0)=false):W I Xm (OY N cs i) (.exit 0) (OY N cs i):=C BB 300 [.b false,.b false] [0,2,3] (L c1 (L Ff a0)) (by kernel_rfl)
theorem XK{n:Int}:B8 n=0↔n=0:=by unfold B8;split <;> (try split) <;> omega
theorem Aql(rs:List Rn)(hg:∀ r∈rs,u 1048576 r)(hN:rs.length<=1048576):∀ m,m<=rs.length->W I (.loop Xm) (OY rs.length (pc rs) ((m:Int)-1)) (.exit 0) (OY rs.length (pc rs) (((l (M rs) m:Nat):Int)-1)):=by
 intro m;induction m with
 | zero =>
  intro _;exact Al (Ayx rs.length (pc rs) (((0:Nat):Int)-1) (by simp)) (by nofun)
 | succ m ih =>
  intro hm;have e0:((m+1:Nat):Int)-1=(m:Int):=by omega
  have e1:D R ((m:Int)-1)=(m:Int)-1:=AW (by omega) (by omega);have hx:=N6 (rs:=rs) (i:=m) (by omega);have gm:=A' hg m;have hs:=J_ (neg:=(rs.getD m z0).1) gm.1 gm.2;rw[e0];simp only[l];rw[C3];by_cases h0:O (rs.getD m z0)=0
  ·rw[if_pos h0];have h1:=Ayv rs.length (pc rs) (m:Int) (rs.getD m z0) (B8 (O (rs.getD m z0))) (by simp) (by rw[beq_iff_eq];exact XK.2 h0) (by omega) (by rw[F];exact hx) hs;rw[e1] at h1;exact W.loop h1 (ih (by omega))
  ·rw[if_neg h0,e0];exact Al (Ayw rs.length (pc rs) (m:Int) (rs.getD m z0) (B8 (O (rs.getD m z0))) (by simp) (by rw[beq_eq_false_iff_ne];exact fun h=>h0 (XK.1 h)) (by omega) (by rw[F];exact hx) hs) (by nofun)
theorem GB{rs:List Rn}(hg:∀ r∈rs,u 1048576 r)(hN:rs.length<=1048576):H I 53 [sL pc rs] (.int .i64 (((l (M rs) rs.length:Nat):Int)-1)):=by
 have e1:D R ((rs.length:Int)-1)=(rs.length:Int)-1:=AW (by omega) (by omega);have hl:W I (.loop Xm) (OY rs.length (pc rs) (D R ((rs.length:Int)-1))) (.exit 0) (OY rs.length (pc rs) (((l (M rs) rs.length:Nat):Int)-1)):=by
  rw[e1];exact Aql rs hg hN rs.length (Am _)
 exact p (fn:=aN) (s:=(.val (sL pc rs)::(Q 1 (.val (.int .i64 (((l (M rs) rs.length:Nat):Int)-1))::(.val (.int .i64 (((l (M rs) rs.length:Nat):Int)-1))::(Q 15 (.val (.int .i64 (((l (M rs) rs.length:Nat):Int)-1))::[]))))))) (ex := .ret) rfl rfl
  (W.seq (DH (t:=(.val (sL pc rs)::(Q 1 (.val (.int .i64 0)::(Q 17 []))))) (ex := .norm) (ps:=[]) BB 300 [] [0,2] (by kernel_rfl) trivial)
  (W.seq (DH (t:=(.val (sL pc rs)::(Q 1 (.val (.int .i64 0)::(.val (.int .i64 (D R ((rs.length:Int)-1)))::(Q 16 [])))))) (ex := .norm) (ps:=[]) BB 300 [] [0,2,3] (by kernel_rfl) trivial)
  (W.seq (W.block hl)
  (DH (t:=(.val (sL pc rs)::(Q 1 (.val (.int .i64 (((l (M rs) rs.length:Nat):Int)-1))::(.val (.int .i64 (((l (M rs) rs.length:Nat):Int)-1))::(Q 15 (.val (.int .i64 (((l (M rs) rs.length:Nat):Int)-1))::[]))))))) (ex := .ret) (ps:=[]) BB 300 [] [0,2,3,19] (by kernel_rfl) trivial)))) (by nofun) rfl
def S'(N:Nat)(cs:List AV)(n:Nat)(os:List AV)(m:Int)(i:Int):Ak:=(.val (.sl N cs)::(Q 1 (.own 2 0 []::(Q 1 (.own 2 n os::(Q 9 (.val (.int .i64 m)::(.val (.int .i64 i)::(Q 12 [])))))))))
theorem Ayy(N:Nat)(cs:List AV)(n:Nat)(os:List AV)(m:Int)(i:Int)(ds:List AV)(r:Rn)(v:Int)(c1:B (i<m)=true)(n1:0<=i/\i<(N:Int))(n2:Bl (g (A i*2) cs) 0 2 false=some (.agg [.bool r.1,.sl r.2.length (lm r.2)]))(n3:H I 113 [.agg [.bool r.1,.sl r.2.length (lm r.2)]] (.agg [.bool (B (v<0)),.sl ((G (E v)).length) (lm (G (E v)))]))(n4:0<=i/\i<(n:Int))(n5:Cv os (A i*2) [.bool (B (v<0)),.sl ((G (E v)).length) (lm (G (E v)))]=some ds):W I aU (S' N cs n os m i) .norm (S' N cs n ds m (D R (i+1))):=C BB 300 [.b true,.v (.agg [.bool r.1,.sl r.2.length (lm r.2)]),.r (.agg [.bool (B (v<0)),.sl ((G (E v)).length) (lm (G (E v)))]),.l ds] [0,2,4,14,15] (L c1 (L n1 (L n2 (L n3 (L n4 (L n5 a0)))))) (by kernel_rfl)
theorem Ayz(N:Nat)(cs:List AV)(n:Nat)(os:List AV)(m:Int)(i:Int)(c1:B (i<m)=false):W I aU (S' N cs n os m i) (.exit 0) (S' N cs n os m i):=C BB 300 [.b false] [0,2,4,14,15] (L c1 a0) (by kernel_rfl)
theorem Aqm(rs:List Rn)(hg:∀ r∈rs,u 1048576 r)(hN:rs.length<=1048576)(n:Nat)(hn:n<=rs.length):∀ (r i:Nat),i+r=n ->
  W I (.loop aU) (S' rs.length (pc rs) n (pc (E6 (fun j=>cn (O (rs.getD j z0))) i r)) (n:Int) (i:Int)) (.exit 0) (S' rs.length (pc rs) n (pc (E6 (fun j=>cn (O (rs.getD j z0))) n 0)) (n:Int) (n:Int)):=by
 intro r;induction r with
 | zero =>
  intro i hi;have hi':i=n:=by omega
  subst hi';exact Al (Ayz rs.length (pc rs) i _ (i:Int) (i:Int) (by simp)) (by nofun)
 | succ r ih =>
  intro i hi;have ei:D R ((i:Int)+1)=((i+1:Nat):Int):=by rw[AW (by omega) (by omega)];omega
  have hx:=N6 (rs:=rs) (i:=i) (by omega);have gm:=A' hg i;have hs:=Is (neg:=(rs.getD i z0).1) gm.1 gm.2;have hst:=YY (rs:=E6 (fun j=>cn (O (rs.getD j z0))) i (r+1)) (i:=i) (r:=cn (O (rs.getD i z0))) (by rw[JY];omega);rw[N8 (fun j=>cn (O (rs.getD j z0))) i r] at hst;have h1:=Ayy rs.length (pc rs) n _ (n:Int) (i:Int) _ (rs.getD i z0) (O (rs.getD i z0)) (by simp;omega) (by omega) (by rw[F];exact hx) hs (by omega) (by rw[F];exact hst);rw[ei] at h1;exact W.loop h1 (ih (i+1) (by omega))
theorem yH(rs:List Rn)(hd:H I 53 [sL pc rs] (.int .i64 (((l (M rs) rs.length:Nat):Int)-1)))(hz:((D R ((((l (M rs) rs.length:Nat):Int)-1)+1))==0)=true):H I 66 [sL pc rs] (.fresh 2 0 []):=Bp (ps:=[H I 53 [sL pc rs] (.int .i64 (((l (M rs) rs.length:Nat):Int)-1)),((D R ((((l (M rs) rs.length:Nat):Int)-1)+1))==0)=true]) BB rfl 300 rfl [.r (.int .i64 (((l (M rs) rs.length:Nat):Int)-1)),.b true] (by kernel_rfl) ⟨hd,hz,trivial⟩
theorem yI(rs ss:List Rn)(hd:H I 53 [sL pc rs] (.int .i64 (((l (M rs) rs.length:Nat):Int)-1)))(hz:((D R ((((l (M rs) rs.length:Nat):Int)-1)+1))==0)=false)(hmk:0<=D R ((((l (M rs) rs.length:Nat):Int)-1)+1)/\D R ((((l (M rs) rs.length:Nat):Int)-1)+1)<=1048576)(hl:W I (.loop aU) (S' rs.length (pc rs) (A (D R ((((l (M rs) rs.length:Nat):Int)-1)+1))) (Co [.bool false,.sl 0 []] (A (D R ((((l (M rs) rs.length:Nat):Int)-1)+1)))) (((A (D R ((((l (M rs) rs.length:Nat):Int)-1)+1))):Nat):Int) 0) (.exit 0) (S' rs.length (pc rs) (A (D R ((((l (M rs) rs.length:Nat):Int)-1)+1))) (pc ss) (((A (D R ((((l (M rs) rs.length:Nat):Int)-1)+1))):Nat):Int) (((A (D R ((((l (M rs) rs.length:Nat):Int)-1)+1))):Nat):Int))):H I 66 [sL pc rs] (.fresh 2 (A (D R ((((l (M rs) rs.length:Nat):Int)-1)+1))) (pc ss)):=p (fn:=aV) (s:=(.val (sL pc rs)::(Q 1 (.own 2 (A (D R ((((l (M rs) rs.length:Nat):Int)-1)+1))) (pc ss)::(Q 11 (.val (.int .i64 (((A (D R ((((l (M rs) rs.length:Nat):Int)-1)+1))):Nat):Int))::(.val (.int .i64 (((A (D R ((((l (M rs) rs.length:Nat):Int)-1)+1))):Nat):Int))::(Q 12 [])))))))) (ex := .ret) rfl rfl (W.seq (C (t:=(vp rs::(Q 1 (.own 2 0 []::(Q 25 []))))) BB 300 [] [0,2] a0) (W.seq (C (t:=(vp rs::(Q 1 (.own 2 0 []::(vi (D R ((((l (M rs) rs.length:Nat):Int)-1)+1))::(Q 2 (vp rs::(vi (((l (M rs) rs.length:Nat):Int)-1)::(vi (D R ((((l (M rs) rs.length:Nat):Int)-1)+1))::(Q 19 [])))))))))) BB 300 [.r (.int .i64 (((l (M rs) rs.length:Nat):Int)-1))] [0,2,3,6,7,8] (L (show H I 53 [sL pc rs] (.int .i64 (((l (M rs) rs.length:Nat):Int)-1)) from hd) a0)) (W.seq (C (t:=(vp rs::(Q 1 (.own 2 0 []::(vi (D R ((((l (M rs) rs.length:Nat):Int)-1)+1))::(Q 2 (vp rs::(vi (((l (M rs) rs.length:Nat):Int)-1)::(vi (D R ((((l (M rs) rs.length:Nat):Int)-1)+1))::(vi (D R ((((l (M rs) rs.length:Nat):Int)-1)+1))::(.val (.bool ((D R ((((l (M rs) rs.length:Nat):Int)-1)+1))==0))::(Q 17 [])))))))))))) BB 300 [.b false] [0,2,3,6,7,8,9,10] (L (show ((D R ((((l (M rs) rs.length:Nat):Int)-1)+1))==0)=false from hz) a0)) (W.seq (C (t:=(vp rs::(Q 1 (.own 2 0 []::(vi (D R ((((l (M rs) rs.length:Nat):Int)-1)+1))::(.own 2 (A (D R ((((l (M rs) rs.length:Nat):Int)-1)+1))) (Co [.bool false,.sl 0 []] (A (D R ((((l (M rs) rs.length:Nat):Int)-1)+1))))::(Q 1 (vp rs::(vi (((l (M rs) rs.length:Nat):Int)-1)::(vi (D R ((((l (M rs) rs.length:Nat):Int)-1)+1))::(vi (D R ((((l (M rs) rs.length:Nat):Int)-1)+1))::(.val (.bool ((D R ((((l (M rs) rs.length:Nat):Int)-1)+1))==0))::(vi (D R ((((l (M rs) rs.length:Nat):Int)-1)+1))::(Q 16 [])))))))))))))) BB 300 [] [0,2,3,4,6,7,8,9,10,11] (L (show 0<=(D R ((((l (M rs) rs.length:Nat):Int)-1)+1))/\(D R ((((l (M rs) rs.length:Nat):Int)-1)+1))<=1048576 from hmk) a0)) (W.seq (W.seq (C (t:=(vp rs::(Q 1 (.own 2 0 []::(Q 1 (.own 2 (A (D R ((((l (M rs) rs.length:Nat):Int)-1)+1))) (Co [.bool false,.sl 0 []] (A (D R ((((l (M rs) rs.length:Nat):Int)-1)+1))))::(Q 9 (vi (((A (D R ((((l (M rs) rs.length:Nat):Int)-1)+1))):Nat):Int)::(vi 0::(Q 12 [])))))))))) BB 300 [] [0,2,4,14,15] a0) (W.block hl)) (C (t:=(vp rs::(Q 1 (.own 2 (A (D R ((((l (M rs) rs.length:Nat):Int)-1)+1))) (pc ss)::(Q 11 (vi (((A (D R ((((l (M rs) rs.length:Nat):Int)-1)+1))):Nat):Int)::(vi (((A (D R ((((l (M rs) rs.length:Nat):Int)-1)+1))):Nat):Int)::(Q 12 [])))))))) (ex := .ret) BB 300 [] [0,2,14,15] a0)))))) (by nofun) rfl
theorem Hx{rs:List Rn}(hg:∀ r∈rs,u 1048576 r)(hN:rs.length<=1048576):H I 66 [sL pc rs] (.fresh 2 (Y (M rs)).length (pk (Y (M rs)))):=by
 have hle:=Gn (M rs) rs.length;have hlen:(Y (M rs)).length=l (M rs) rs.length:=by rw[Fs,s]
 have hd:=GB hg hN;have e1:D R ((((l (M rs) rs.length:Nat):Int)-1)+1)=((l (M rs) rs.length:Nat):Int):=by rw[AW (by omega) (by omega)];omega
 have e2:(A (D R ((((l (M rs) rs.length:Nat):Int)-1)+1)))=l (M rs) rs.length:=by rw[e1,F]
 by_cases h0:l (M rs) rs.length=0
 ·have h:=yH rs hd (by rw[e1,h0];rfl);have:Y (M rs)=[]:=A3 (by omega);rw[this];exact h
 ·have hl:=Aqm rs hg hN (l (M rs) rs.length) hle (l (M rs) rs.length) 0 (by omega);rw[Mq,<- N7] at hl;have h:=yI rs _ hd (by rw[e1,beq_eq_false_iff_ne];omega) (by rw[e1];omega) (by rw[e2];exact hl);rw[e2,Mr] at h;have e3:(Ao (l (M rs) rs.length)).map (fun j=>cn (O (rs.getD j z0)))=(Y (M rs)).map cn:=by
   rw[<- RS,hlen];apply FV;intro i _;rw[CX,C3]
  rw[e3] at h;rw[hlen];exact h
def NM(N:Nat)(cs:List AV)(n:Nat)(os:List AV)(m:Int)(i:Int):Ak:=(.val (.sl N cs)::(Q 1 (.own 2 0 []::(.own 2 n os::(Q 5 (.val (.int .i64 m)::(.val (.int .i64 i)::(Q 12 []))))))))
theorem Aqn(N:Nat)(cs:List AV)(n:Nat)(os:List AV)(m:Int)(i:Int)(ds:List AV)(r:Rn)(v:Int)(c1:B (i<m)=true)(n1:0<=i/\i<(N:Int))(n2:Bl (g (A i*2) cs) 0 2 false=some (.agg [.bool r.1,.sl r.2.length (lm r.2)]))(n3:H I 131 [.agg [.bool r.1,.sl r.2.length (lm r.2)]] (.agg [.bool (B (v<0)),.sl ((G (E v)).length) (lm (G (E v)))]))(n4:0<=i/\i<(n:Int))(n5:Cv os (A i*2) [.bool (B (v<0)),.sl ((G (E v)).length) (lm (G (E v)))]=some ds):W I U1 (NM N cs n os m i) .norm (NM N cs n ds m (D R (i+1))):=C BB 300 [.b true,.v (.agg [.bool r.1,.sl r.2.length (lm r.2)]),.r (.agg [.bool (B (v<0)),.sl ((G (E v)).length) (lm (G (E v)))]),.l ds] [0,2,3,9,10] (L c1 (L n1 (L n2 (L n3 (L n4 (L n5 a0)))))) (by kernel_rfl)
theorem Aqo(N:Nat)(cs:List AV)(n:Nat)(os:List AV)(m:Int)(i:Int)(c1:B (i<m)=false):W I U1 (NM N cs n os m i) (.exit 0) (NM N cs n os m i):=C BB 300 [.b false] [0,2,3,9,10] (L c1 a0) (by kernel_rfl)
theorem yJ(rs:List Rn)(hg:∀ r∈rs,u 1048576 r)(hN:rs.length<=1048576)(n:Nat)(hn:n<=rs.length):∀ (r i:Nat),i+r=n ->
  W I (.loop U1) (NM rs.length (pc rs) n (pc (E6 (fun j=>cn (-(O (rs.getD j z0)))) i r)) (n:Int) (i:Int)) (.exit 0) (NM rs.length (pc rs) n (pc (E6 (fun j=>cn (-(O (rs.getD j z0)))) n 0)) (n:Int) (n:Int)):=by
 intro r;induction r with
 | zero =>
  intro i hi;have hi':i=n:=by omega
  subst hi';exact Al (Aqo rs.length (pc rs) i _ (i:Int) (i:Int) (by simp)) (by nofun)
 | succ r ih =>
  intro i hi;have ei:D R ((i:Int)+1)=((i+1:Nat):Int):=by rw[AW (by omega) (by omega)];omega
  have hx:=N6 (rs:=rs) (i:=i) (by omega);have gm:=A' hg i;have hs:=RU (neg:=(rs.getD i z0).1) gm.1 gm.2;have hst:=YY (rs:=E6 (fun j=>cn (-(O (rs.getD j z0)))) i (r+1)) (i:=i) (r:=cn (-(O (rs.getD i z0)))) (by rw[JY];omega);rw[N8 (fun j=>cn (-(O (rs.getD j z0)))) i r] at hst;have h1:=Aqn rs.length (pc rs) n _ (n:Int) (i:Int) _ (rs.getD i z0) (-(O (rs.getD i z0))) (by simp;omega) (by omega) (by rw[F];exact hx) hs (by omega) (by rw[F];exact hst);rw[ei] at h1;exact W.loop h1 (ih (i+1) (by omega))
theorem Aqp(rs ss:List Rn)(hmk:0<=(rs.length:Int)/\(rs.length:Int)<=1048576)(hl:W I (.loop U1) (NM rs.length (pc rs) (A (rs.length:Int)) (Co [.bool false,.sl 0 []] (A (rs.length:Int))) (rs.length:Int) 0) (.exit 0) (NM rs.length (pc rs) (A (rs.length:Int)) (pc ss) (rs.length:Int) (rs.length:Int))):H I 117 [sL pc rs] (.fresh 2 (A (rs.length:Int)) (pc ss)):=p (fn:=U2) (s:=(.val (sL pc rs)::(Q 1 (.own 2 (A (rs.length:Int)) (pc ss)::(Q 6 (.val (.int .i64 (rs.length:Int))::(.val (.int .i64 (rs.length:Int))::(Q 12 [])))))))) (ex := .ret) rfl rfl (W.seq (C (t:=(vp rs::(Q 1 (.own 2 0 []::(Q 20 []))))) BB 300 [] [0,2] a0) (W.seq (C (t:=(vp rs::(Q 1 (.own 2 0 []::(.own 2 (A (rs.length:Int)) (Co [.bool false,.sl 0 []] (A (rs.length:Int)))::(Q 1 (vp rs::(vi (rs.length:Int)::(Q 16 []))))))))) BB 300 [] [0,2,3,5,6] (L (show 0<=(rs.length:Int)/\(rs.length:Int)<=1048576 from hmk) a0)) (W.seq (W.seq (C (t:=(vp rs::(Q 1 (.own 2 0 []::(.own 2 (A (rs.length:Int)) (Co [.bool false,.sl 0 []] (A (rs.length:Int)))::(Q 5 (vi (rs.length:Int)::(vi 0::(Q 12 []))))))))) BB 300 [] [0,2,3,9,10] a0) (W.block hl)) (C (t:=(vp rs::(Q 1 (.own 2 (A (rs.length:Int)) (pc ss)::(Q 6 (vi (rs.length:Int)::(vi (rs.length:Int)::(Q 12 [])))))))) (ex := .ret) BB 300 [] [0,2,9,10] a0)))) (by nofun) rfl
theorem Ke{rs:List Rn}(hg:∀ r∈rs,u 1048576 r)(hN:rs.length<=1048576):H I 117 [sL pc rs] (.fresh 2 rs.length (pk (BV (M rs)))):=by
 have hl:=yJ rs hg hN rs.length (Am _) rs.length 0 (by omega);rw[Mq,<- N7] at hl;have h:=Aqp rs _ (by omega) (by rw[F];exact hl);rw[F,Mr] at h;have e3:(Ao rs.length).map (fun j=>cn (-(O (rs.getD j z0))))=(BV (M rs)).map cn:=by
  have hq:(BV (M rs)).length=rs.length:=by simp[BV,M]
  rw[<- RS,hq];apply FV;intro i _;rw[G7,C3]
 rw[e3] at h;exact h
def TAA:Cp:=TWC
theorem CT:B_ I TAA:=BB
def Lk(rs:List Rn)(w:Rn)(i:Int)(z:Rn):Ak:=(.val (sL pc rs)::(Q 1 (.box [.bool z.1,.sl z.2.length (lm z.2)]::(.box [.bool w.1,.sl w.2.length (lm w.2)]::(.val (.int .i64 i)::(Q 19 []))))))
theorem Aqq(rs:List Rn)(w:Rn)(i:Int)(z:Rn)(b g:Int)(c1:B (i>=0)=true)(c2:(b != 1)=true)(n1:0<=i/\i<(rs.length:Int))(n2:H I 102 [Ap w] (.int .i64 b))(n3:H I 159 [Ap w,Ap (rs.getD (A i) z0)] (Ab g)):W I RK (Lk rs w i z) .norm (Lk rs (cn g) (D R (i-1)) z):=(C CL 400 [.b true,.r (.int .i64 b),.b true,.v (Ap (rs.getD (A i) z0)),.r (Ab g)] [0,2,3,4] (L c1 (L n2 (L c2 (L n1 (L (B3 n1) (L n3 a0)))))))
theorem Aqr(rs:List Rn)(w:Rn)(i:Int)(z:Rn)(b:Int)(c1:B (i>=0)=true)(c2:(b != 1)=false)(n1:H I 102 [Ap w] (.int .i64 b)):W I RK (Lk rs w i z) (.exit 0) (Lk rs w i z):=(C CL 400 [.b true,.r (.int .i64 b),.b false] [0,2,3,4] (L c1 (L n1 (L c2 a0))))
theorem Aqs(rs:List Rn)(w:Rn)(i:Int)(z:Rn)(c1:B (i>=0)=false):W I RK (Lk rs w i z) (.exit 0) (Lk rs w i z):=(C CL 400 [.b false,.b false] [0,2,3,4] (L c1 (L Ff a0)))
theorem Aqt(rs:List Rn)(w z:Rn)(i:Int)(hl1:W I (.loop RK) (Lk rs (false,[]) (D R ((rs.length:Int)-1)) (false,[])) (.exit 0) (Lk rs w i z)):H I 157 [sL pc rs] (Ap w):=p (fn:=UO) (s:=(Q 2 (.box [.bool w.1,.sl w.2.length (lm w.2)]::(Q 21 [])))) (ex := .ret) rfl rfl (P (Ar (W.seq (C CL 400 [] [0,2,3,4] a0) (W.seq (W.block hl1) (C CL 400 [] [2] a0))))) (by nofun) rfl
def Ll(k:Nat)(os:List Rn)(w:Rn)(n:Int)(i:Int):Ak:=(Q 3 (.own 2 k (pc os)::(.box [.bool w.1,.sl w.2.length (lm w.2)]::(Q 9 (.val (.int .i64 n)::(.val (.int .i64 i)::(Q 16 [])))))))
theorem Aqu(k:Nat)(os:List Rn)(w:Rn)(n:Int)(i:Int)(q r:Int)(c1:B (i<n)=true)(n1:0<=i/\i<(k:Int))(n2:os.length=k)(n3:H I 158 [Ap (os.getD (A i) z0),Ap w] (.tup [Ab q,Ab r])):W I R1 (Ll k os w n i) .norm (Ll k (os.set (A i) (cn q)) w n (D R (i+1))):=(C CL 400 [.b true,.v (Ap (os.getD (A i) z0)),.r (.tup [Ab q,Ab r]),.l (pc (os.set (A i) (cn q)))] [3,4,14,15] (L c1 (L n1 (L (FM n2 n1) (L n3 (L n1 (L (Ft (r:=cn q) n2 n1) a0)))))))
theorem Aqv(k:Nat)(os:List Rn)(w:Rn)(n:Int)(i:Int)(c1:B (i<n)=false):W I R1 (Ll k os w n i) (.exit 0) (Ll k os w n i):=(C CL 400 [.b false] [3,4,14,15] (L c1 a0))
theorem lS(rs ts os:List Rn)(w:Rn)(g b n i:Int)(k:Nat)(c1:B (b>1)=true)(n1:H I 66 [sL pc rs] (.fresh 2 ts.length (pc ts)))(n2:pK (pc ts) (fun c => !isI c)=true)(n3:Gp (Ab g)=true)(n4:H I 157 [sL pc ts] (Ab g))(n5:H I 102 [Ab g] (.int .i64 b))(hl6:W I (.loop R1) (Ll ts.length ts (cn g) (ts.length:Int) 0) (.exit 0) (Ll k os w n i)):H I 115 [sL pc rs] (.fresh 2 k (pc os)):=p (fn:=R2) (s:=(Q 2 (.own 2 k (pc os)::(Q 29 [])))) (ex := .ret) rfl rfl (P (P (Ar (W.seq (C (t:=(vp rs::(Q 1 (.own 2 0 []::(.own 2 ts.length (pc ts)::(bN g::(Q 7 (.val (.bool (B (b>1)))::(Q 19 []))))))))) CL 400 [.r (.fresh 2 ts.length (pc ts)),.r (Ab g),.r (.int .i64 b)] [0,2,3,4,12] (L n1 (L n2 (L n3 (L n4 (L n5 a0)))))) (W.seq (I7 (by rfl) c1 (W.seq (C CL 400 [] [3,4,14,15] a0) (W.block hl6))) (C CL 400 [] [2] a0)))))) (by nofun) rfl
theorem lT(rs ts:List Rn)(g b:Int)(c1:B (b>1)=false)(n1:H I 66 [sL pc rs] (.fresh 2 ts.length (pc ts)))(n2:pK (pc ts) (fun c => !isI c)=true)(n3:Gp (Ab g)=true)(n4:H I 157 [sL pc ts] (Ab g))(n5:H I 102 [Ab g] (.int .i64 b)):H I 115 [sL pc rs] (.fresh 2 ts.length (pc ts)):=p (fn:=R2) (s:=(Q 2 (.own 2 ts.length (pc ts)::(Q 29 [])))) (ex := .ret) rfl rfl (P (P (Ar (W.seq (C (t:=(vp rs::(Q 1 (.own 2 0 []::(.own 2 ts.length (pc ts)::(bN g::(Q 7 (.val (.bool (B (b>1)))::(Q 19 []))))))))) CL 400 [.r (.fresh 2 ts.length (pc ts)),.r (Ab g),.r (.int .i64 b)] [0,2,3,4,12] (L n1 (L n2 (L n3 (L n4 (L n5 a0)))))) (W.seq (I8 (by rfl) c1 (C (t:=(Q 2 (.own 2 0 []::(.own 2 ts.length (pc ts)::(Q 28 []))))) CL 400 [] [2,3] a0)) (C CL 400 [] [2] a0)))))) (by nofun) rfl
theorem lW(rs ts:List Rn)(s:Int)(c1:B ((rs.length:Int)>0)=true)(c2:B (s<0)=true)(n1:0<=(D R ((rs.length:Int)-1))/\(D R ((rs.length:Int)-1))<(rs.length:Int))(n2:H I 101 [Ap (rs.getD (A (D R ((rs.length:Int)-1))) z0)] (.int .i64 s))(n3:H I 117 [sL pc rs] (.fresh 2 ts.length (pc ts))):H I 155 [sL pc rs] (.fresh 2 ts.length (pc ts)):=i (fn:=P2) CL rfl 400 rfl [.b true,.v (Ap (rs.getD (A (D R ((rs.length:Int)-1))) z0)),.r (.int .i64 s),.b true,.r (.fresh 2 ts.length (pc ts))] (L c1 (L n1 (L (B3 n1) (L n2 (L c2 (L n3 a0))))))
theorem lX(rs:List Rn)(s:Int)(c1:B ((rs.length:Int)>0)=true)(c2:B (s<0)=false)(n1:0<=(D R ((rs.length:Int)-1))/\(D R ((rs.length:Int)-1))<(rs.length:Int))(n2:H I 101 [Ap (rs.getD (A (D R ((rs.length:Int)-1))) z0)] (.int .i64 s)):H I 155 [sL pc rs] (sL pc rs):=i (fn:=P2) CL rfl 400 rfl [.b true,.v (Ap (rs.getD (A (D R ((rs.length:Int)-1))) z0)),.r (.int .i64 s),.b false] (L c1 (L n1 (L (B3 n1) (L n2 (L c2 a0)))))
theorem lY(rs:List Rn)(c1:B ((rs.length:Int)>0)=false):H I 155 [sL pc rs] (sL pc rs):=i (fn:=P2) CL rfl 400 rfl [.b false,.b false] (L c1 (L Ff a0))
def NN(rs:List Rn)(k:Nat)(cs:List AV)(i:Int):Ak:=(.val (sL pc rs)::(Q 2 (.own 2 k cs::(.val (.int .i64 i)::(Q 18 [])))))
theorem Aqw(rs:List Rn)(k:Nat)(cs:List AV)(i:Int)(d v:Int)(c1:B (i<=d)=true)(n1:0<=i/\i<(rs.length:Int))(n2:k+1<=1048576)(n3:H I 53 [sL pc rs] (.int .i64 d))(n4:H I 132 [.int .i64 i] (Ab i))(n5:H I 112 [Ap (rs.getD (A i) z0),Ab i] (Ab v)):W I Uz (NN rs k cs i) .norm (NN rs (k+1) (cs++([.bool (B (v<0)),.sl ((G (E v)).length) (lm (G (E v)))]:List AV)) (D R (i+1))):=(C CL 400 [.r (.int .i64 d),.b true,.v (Ap (rs.getD (A i) z0)),.r (Ab i),.r (Ab v)] [0,3,4] (L n3 (L c1 (L n1 (L (B3 n1) (L n4 (L n5 (L (show Bj ([.bool (B (v<0)),.sl ((G (E v)).length) (lm (G (E v)))]:List AV)=1*2 from rfl) (L n2 a0)))))))))
theorem Aqx(rs:List Rn)(k:Nat)(cs:List AV)(i:Int)(d:Int)(c1:B (i<=d)=false)(n1:H I 53 [sL pc rs] (.int .i64 d)):W I Uz (NN rs k cs i) (.exit 0) (NN rs k cs i):=(C CL 400 [.r (.int .i64 d),.b false] [0,3,4] (L n1 (L c1 a0)))
theorem Aqy(rs os ts:List Rn)(k:Nat)(i:Int)(hl1:W I (.loop Uz) (NN rs 0 ([]:List AV) 1) (.exit 0) (NN rs k (pc os) i))(n2:H I 66 [.sl k (pc os)] (.fresh 2 ts.length (pc ts))):H I 116 [sL pc rs] (.fresh 2 ts.length (pc ts)):=p (fn:=U0) (s:=(Q 2 (.own 2 ts.length (pc ts)::(Q 20 [])))) (ex := .ret) rfl rfl (P (Ar (W.seq (C CL 400 [] [0,3,4] a0) (W.seq (W.block hl1) (C CL 400 [.r (.fresh 2 ts.length (pc ts))] [2] (L n2 a0)))))) (by nofun) rfl
def TRA:Cp:=TQE
theorem lZ:B_ I TRA:=CL
end Go.Proofs.YtajompaehjkgkaaGreat
namespace Go.Ai
open Function renaming comp->A0z
open Int renaming eq_of_mul_eq_mul_left->HY,mul_ediv_cancel'->Ih,mul_ediv_cancel_left->BN,mul_ediv_mul_of_pos->A3x,mul_ne_zero->BK,mul_zero->AG,natAbs_mul->BA,natAbs_natCast->B9,natAbs_of_nonneg->Ky,natCast_mul->Dj,ofNat_dvd_left->Gk
open List renaming eq_nil_of_length_eq_zero->A3,getD_eq_getElem?_getD->Z,getElem?_map->CA,length->Bj,length_map->N,map_congr_left->FV,map_cons->Cz,map_map->Auq,map_take->Rr
open Nat renaming eq_zero_or_pos->F6,gcd->HT,le_mul_of_pos_left->WY,mul_one->Ia
open Or renaming inr->T1
def AL:List Int->Nat
 | []=>0
 | x::xs=>HT x.natAbs (AL xs)
theorem JG(d:Nat):∀ xs:List Int,d∣AL xs↔∀ i,(d:Int)∣xs.getD i 0
 | []=>by simp[AL]
 | x::xs=>by
  have ih:=JG d xs;simp only[AL,Nat.dvd_gcd_iff,ih];constructor
  ·rintro⟨h1,h2⟩ i;cases i with
   | zero=>simpa using Gk.2 h1
   | succ i=>simpa using h2 i
  ·intro h;refine⟨Gk.1 (by simpa using h 0),fun i=>by simpa using h (i+1)⟩
theorem GN(xs:List Int)(i:Nat):(AL xs:Int)∣xs.getD i 0:=(JG _ xs).1 (Nat.dvd_refl _) i
theorem RY{xs ys:List Int}(h:∀ i,xs.getD i 0=ys.getD i 0):AL xs=AL ys :=
 Nat.dvd_antisymm ((JG _ _).2 fun i=>h i ▸ GN xs i) ((JG _ _).2 fun i=>h i ▸ GN ys i)
theorem V8(xs:List Int):AL (Y xs)=AL xs:=RY (CX xs)
theorem Iw{xs:List Int}:AL xs=0↔∀ i,xs.getD i 0=0:=by
 constructor
 ·intro h i;have:=GN xs i;rw[h] at this;exact Int.zero_dvd.1 this
 ·intro h;have:AL xs=AL []:=RY fun i=>by rw[h i];simp
  rw[this];rfl
theorem KL(k:Int):∀ xs:List Int,AL (Ax k xs)=k.natAbs*AL xs
 | []=>rfl
 | x::xs=>by
  have ih:=KL k xs;simp only[Ax,Cz,AL] at *
  rw[ih,BA,Nat.gcd_mul_left]
theorem CW{xs:List Int}:Y xs=[]↔∀ i,xs.getD i 0=0:=by
 constructor
 ·intro h i;rw[<- CX,h];simp
 ·intro h;have:Y xs=Y []:=FL fun i=>by rw[h i];simp
  rw[this];rfl
theorem Ix{xs:List Int}(h:Y xs ≠ []):0<AL xs:=by
 rcases F6 (AL xs) with g | g
 ·exact absurd (CW.2 (Iw.1 g)) h
 ·exact g
theorem KM{k:Int}(hk:k ≠ 0)(xs:List Int):Y (Ax k xs)=Ax k (Y xs):=by
 have e:∀ n,l (Ax k xs) n=l xs n:=by
  intro n;induction n with
  | zero=>rfl
  | succ n ih =>
   simp only[l,ih,AO];by_cases h:xs.getD n 0=0
   ·rw[h,AG]
   ·rw[if_neg h,if_neg (BK hk h)]
 simp only[Y];rw[e,show (Ax k xs).length=xs.length by simp[Ax]];simp[Ax,Rr]
def prim(xs:List Int):List Int:=(Y xs).map fun x=>x / (AL xs:Int)
theorem Iy(xs:List Int)(i:Nat):(prim xs).getD i 0=xs.getD i 0 / (AL xs:Int):=by
 rw[<- CX xs i];simp only[prim,Z,CA];cases (Y xs)[i]? <;> simp
theorem BS(xs:List Int):(prim xs).length=(Y xs).length:=by simp [prim]
theorem O3(xs:List Int)(i:Nat):(AL xs:Int)*(prim xs).getD i 0=xs.getD i 0:=by
 rw[Iy];exact Ih (GN xs i)
theorem LC{xs ys:List Int}(h:∀ i,xs.getD i 0=ys.getD i 0):prim xs=prim ys:=by
 simp only[prim];rw[FL h,RY h]
theorem DX{xs:List Int}:prim xs=[]↔∀ i,xs.getD i 0=0:=by
 rw[<- CW];simp[prim]
theorem NO{k:Int}(hk:0<k)(xs:List Int):prim (Ax k xs)=prim xs:=by
 simp only[prim];rw[KM (by omega),KL];simp only[Ax,Auq];apply FV;intro x _;simp only[A0z];rw[Dj,Ky (by omega),A3x _ _ hk]
theorem Zh{k:Int}(hk:0<k){xs ys:List Int}(h:∀ i,ys.getD i 0=k*xs.getD i 0):prim ys=prim xs:=by
 rw[<- NO hk xs];exact LC fun i=>by rw[h,AO]
theorem mA{xs:List Int}(h:l xs xs.length=xs.length):Y xs=xs:=by simp [Y,h]
def BU(xs:List Int):Prop:=Y xs=xs
theorem Hy(xs:List Int):BU (Y xs):=Hv xs
theorem E8{xs:List Int}(h:BU xs)(hn:xs ≠ []):xs.getD (xs.length-1) 0 ≠ 0:=by
 have e:=congrArg Bj h;rw[Fs] at e;rcases X1 xs xs.length with g | g
 ·rw[g] at e;exact absurd (A3 e.symm) hn
 ·rw[e] at g;exact g
theorem NP{xs:List Int}(h:xs=[]\/xs.getD (xs.length-1) 0 ≠ 0):BU xs:=by
 rcases h with rfl | h
 ·rfl
 ·cases hl:xs.length with
  | zero=>rw[A3 hl];rfl
  | succ n =>
   apply mA;rw[hl];simp only[l];rw[if_neg (by rw[hl] at h;simpa using h)]
theorem dK{k:Int}(hk:k ≠ 0){xs:List Int}(h:BU xs):BU (Ax k xs):=by
 unfold BU;rw[KM hk,h]
theorem KN(xs:List Int):Ax (AL xs) (prim xs)=Y xs:=by
 apply JF
 ·simp[Ax,BS]
 ·intro i;rw[AO,O3,CX]
theorem Ce(xs:List Int):BU (prim xs):=by
 by_cases h:Y xs=[]
 ·rw[DX.2 (CW.1 h)];rfl
 ·have hc:=Ix h;have h1:=Hy xs;rw[<- KN] at h1;unfold BU at h1 |-;rw[KM (by omega)] at h1;have hinj:∀ a b:List Int,Ax (AL xs) a=Ax (AL xs) b->a=b:=by
   intro a b hab;have hl:=congrArg Bj hab;simp only[Ax,N] at hl;apply JF hl;intro i;have:=congrArg (fun l:List Int=>l.getD i 0) hab;simp only[AO] at this;exact HY (by omega) this
  exact hinj _ _ h1
theorem Kf{xs:List Int}(h:Y xs ≠ []):AL (prim xs)=1:=by
 have hc:=Ix h;have h1:=KL (AL xs) (prim xs);rw[KN,V8,B9] at h1;have h2:AL xs*1=AL xs*AL (prim xs):=by rw[Ia];exact h1
 exact (Nat.eq_of_mul_eq_mul_left hc h2).symm
theorem RZ{xs:List Int}(h:AL xs=1):prim xs=Y xs:=by
 simp only[prim,h];rw[show (fun x:Int=>x / ((1:Nat):Int))=id by funext x;simp];simp
theorem BI(xs:List Int):prim (prim xs)=prim xs:=by
 by_cases h:Y xs=[]
 ·rw[DX.2 (CW.1 h)];rfl
 ·rw[RZ (Kf h)];exact Ce xs
theorem R'{K:Nat}{x:Int}(h:AY K x)(c:Nat):AY K (x / (c:Int))\/¬ (c:Int)∣x:=by
 by_cases hd:(c:Int)∣x
 ·left;obtain⟨y,rfl⟩:=hd;rcases F6 c with h0 | h0
  ·subst h0;simpa using h
  ·rw[BN _ (by omega)];unfold AY at *
   rw[BA,B9] at h;have:=WY y.natAbs h0;omega
 ·exact T1 hd
theorem mB{K:Nat}{xs:List Int}(h:∀ i,AY K (xs.getD i 0))(i:Nat):AY K ((prim xs).getD i 0):=by
 rw[Iy];rcases R' (h i) (AL xs) with g | g
 ·exact g
 ·exact absurd (GN xs i) g
end Go.Ai
