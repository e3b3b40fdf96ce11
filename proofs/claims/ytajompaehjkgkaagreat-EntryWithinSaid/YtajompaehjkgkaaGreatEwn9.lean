/- Texts of the proof of EntryWithin: part 9 of 13. -/
import Derived.KernelRfl
import Derived.Test.YtajompaehjkgkaaGreatEwn8
namespace Go.Proofs.YtajompaehjkgkaaGreat
open Go.Ai
set_option maxRecDepth 100000
open Bool renaming and_eq_true->At,eq_iff_iff->W2,not_eq_true'->Fh,or_eq_false_iff->QU,or_eq_true->I4,true_and->ABe
open Classical renaming byContradiction->A6
open Decidable renaming decide->E
open Go.Ai.AV renaming agg->Ao,bool->W,fresh->Ae,int->J,sl->P,tup->A3
open Go.Ai.Reg renaming box->AH,own->Ak,val->C
open Go.IntKind renaming i64->X,u32->U,wrap->Q
open Go.Proofs.Tryz renaming prog->AC
open Int renaming add_zero->Cx,ediv_le_self->Axp,ediv_nonneg->Kr,le_of_lt->A9,le_of_mul_le_mul_left->Fu,le_refl->DO,le_trans->FC,lt_of_mul_lt_mul_right->CY,lt_trichotomy->G8,mul_comm->AT,mul_le_mul->Fk,mul_le_mul_of_nonneg_left->Ax,mul_le_mul_of_nonneg_right->Ap,mul_neg->F8,mul_nonneg->A8,mul_pos->Br,mul_zero->Be,natAbs->I,natAbs_mul->C1,natAbs_pow->Oh,natCast_mul->Eg,neg_mul->O',not_le->FI,one_mul->D0,pow_add->Cc,pow_nonneg->Og,pow_pos->FP,pow_succ->AD,pow_zero->DC,sub_mul->yR,sub_zero->FV,tdiv->AF,tdiv_eq_ediv_of_nonneg->Cu,tmod->Bl,tmod_eq_emod_of_nonneg->BY,toNat->Y,toNat_natCast->Aa,zero_add->E7,zero_mul->Cs
open List renaming all_eq_true->CG,append_assoc->Iu,drop->AL,drop_eq_getElem_cons->BL,drop_length->DD,drop_zero->DA,eq_nil_of_length_eq_zero->AU,ext_getElem->On,getD->H,getD_eq_getElem?_getD->Ad,getElem?_eq_getElem->Am,getElem?_eq_none->Bi,getElem?_map->CC,getElem?_range->AJj,getElem_drop->AJt,getElem_map->Aim,getElem_mem->AP,getElem_of_mem->DK,getElem_range->AJp,length->F,length_append->B0,length_cons->BM,length_drop->CX,length_filter_le->gA,length_map->Ac,length_nil->IP,length_pos_iff->Av,length_set->BH,length_take->AX,map_append->D_,map_congr_left->GP,map_cons->CW,map_drop->ABf,map_map->Rr,map_set->Ww,map_take->Od,mem_append->BD,mem_append_left->F6,mem_append_right->Ez,mem_cons->BW,mem_cons_of_mem->Bg,mem_cons_self->Ba,mem_filter->DR,mem_map->DI,mem_of_mem_drop->E3,mem_of_mem_take->C5,mem_range->Hf,mem_singleton->Dh,pairwise_append->Of,pairwise_cons->G3,pairwise_iff_getElem->IK,range->Ay,replicate->AI,replicate_succ->GO,take->BF,take_add_one->W_,take_append_drop->Ft,take_length->DV,take_of_length_le->Dt,take_subset_take_left->eF,take_succ_eq_append_getElem->Dz,take_zero->OQ
open Nat renaming add_comm->H0,add_mul->DU,add_sub_cancel->HQ,gcd->FO,gcd_comm->Ji,gcd_pos_of_pos_left->AHp,gcd_rec->yT,gcd_zero_right->Gw,le_of_lt->Abm,le_refl->A2,le_succ->ABg,le_trans->B6,log2_lt->TD,lt_of_lt_of_le->Dg,lt_or_ge->CN,lt_trichotomy->Mv,min_eq_left->Kh,mod_lt->IV,mul_comm->Du,mul_le_mul->Ck,mul_le_mul_left->Bu,mul_le_mul_right->Bf,not_lt_zero->Pk,one_mul->Gi,pow_add->Dw,pow_le_pow_right->B_,pow_succ->GV,sub_zero->Lb,zero_add->Cv,zero_le->A_,zero_mul->Lj
open Option renaming getD_some->H3
noncomputable section
theorem Je:T 169 [] (A4 (V 1) 0):=A7u (aY (n:=1) (by decide))
def r:Nat->Int
 | 0=>1
 | n+1=>r n*((n+1:Nat):Int)
theorem qG:∀ n,n<=8->1<=r n/\r n<=40320:=by decide
theorem PG{n:Nat}(hn:n<=8):T 186 [J X (n:Nat)] (J X (r n)):=by
 have a:r (n-1+1)=r n:=by
  cases n with
  | zero=>rfl
  | succ n=>rfl
 have l:=Et (prog:=DP) (c:=qC) (ex := .exit 0) (fin:=S7 (n:Nat) (r n) ((n-1+2:Nat))) (fun j=>S7 (n:Nat) (r (j+1)) ((j+2:Nat))) (n-1) (by nofun)
  (fun j hj=>by
   have d:=qG (j+2) (by omega);have b:r (j+1)*((j+2:Nat):Int)=r (j+2):=rfl;have k:=A7q (n:Nat) (r (j+1)) ((j+2:Nat)) (by rw[AZ];omega);rw[b,By (n:=r (j+2)) (by omega) (by omega),By (n:=((j+2:Nat):Int)+1) (by omega) (by omega)] at k;exact k)
  (by
   rw[<- a];exact A7r (n:Nat) (r (n-1+1)) ((n-1+2:Nat)) (by rw[AW];omega)) 0 (A_ _)
 exact A7s (n:Nat) (r n) _ l
def cX(n k:Nat):Int:=AF (r n) (r k*r (n-k))
def Xu(n i k:Nat):Int:=cX i k*(r k*r (n-k))
theorem qH:∀ n,n<=8->∀ k,k<=n->1<=r k*r (n-k)/\r k*r (n-k)<=40320/\0<=cX n k/\cX n k<=70:=by decide +kernel
theorem Ald:∀ n,n<=8->∀ i,i<=n->∀ k,k<=i->0<=Xu n i k/\Xu n i k<=2822400:=by decide +kernel
theorem xG{n k:Nat}(hn:n<=8)(hk:k<=n):T 185 [J X (n:Nat),J X (k:Nat)] (J X (cX n k)):=by
 obtain⟨c,d,e,f⟩:=qH n hn k hk;have a:Q X (r k*r (n-k))=r k*r (n-k):=By (by omega) (by omega);have b:Q X (n-k)=((n-k:Nat):Int):=wrz
 have h:=A7t (n:Nat) (k:Nat) (r n) (r k) (r (n-k)) (by rw[a];omega) (PG hn) (PG (by omega)) (by rw[b];exact PG (by omega));rw[a,By (n:=AF (r n) (r k*r (n-k))) (by have:cX n k=AF (r n) (r k*r (n-k)):=rfl;omega) (by have:cX n k=AF (r n) (r k*r (n-k)):=rfl;omega)] at h;exact h
def Is(p:G)(n i:Nat):Nat->Int
 | 0=>0
 | k+1=>Is p n i k+H p k 0*Xu n i k
def PH(p:G)(n:Nat):Nat->Bool × Bool
 | 0=>(true,true)
 | i+1=>if B4 (Is p n i (i+1))=1 then (false,(PH p n i).2) else if B4 (Is p n i (i+1)) = -1 then ((PH p n i).1,false) else PH p n i
def JR(p:G):Bool:=(PH p (F p-1) (F p)).1
def MJ(p:G):Bool:=(PH p (F p-1) (F p)).2 && !JR p
section
variable {p:G} (hk:Kb 5 p) (hl:F p<=8)
include hk hl
omit hl in
theorem UO{n i:Nat}(hn:n<=8)(hi:i<=n):∀ k,k<=i+1->u (7+k) (Is p n i k)
 | 0,_=>by unfold Is u;decide
 | k+1,h=>by
  have ih:=UO hn hi k (by omega)
  have hw:=Ald n hn i hi k (by omega)
  have f1:u 1 (Xu n i k):=by unfold u;omega
  have f2:=((hk k).mul f1).mono (show 5+1<=7+k by omega)
  exact ih.add f2
theorem qI{b1 b2:Bool}{n i:Nat}(hn:n+1=F p)(hi:i<=n) :
  Z (.loop QF) (II (p.map V) b1 b2 (n:Nat) (i:Nat) (false,[]) 0) xZ2 (II (p.map V) b1 b2 (n:Nat) (i:Nat) (V (Is p n i (i+1))) ((i+1:Nat))):=by
 have z:V (Is p n i 0)=((false,[]):Rn):=by unfold Is;decide
 have l:=Et (prog:=DP) (c:=QF) (ex := .exit 2) (fin:=II (p.map V) b1 b2 (n:Nat) (i:Nat) (V (Is p n i (i+1))) ((i+1:Nat))) (fun k=>II (p.map V) b1 b2 (n:Nat) (i:Nat) (V (Is p n i k)) (k:Nat)) (i+1) (by nofun)
  (fun k q=>by
   obtain⟨c1,s,t,v⟩:=qH i (by omega) k (by omega);have hw:=Ald n (by omega) i hi k (by omega);have w:=qG k (by omega);have x:=qG (n-k) (by omega);have y:=(qH n (by omega) k (by omega));have d:Q X (n-k)=((n-k:Nat):Int):=wrz
   have e:Q X (r k*r (n-k))=r k*r (n-k):=By (by omega) (by omega);have f:Q X (cX i k*(r k*r (n-k)))=Xu n i k:=By (by have:Xu n i k=cX i k*(r k*r (n-k)):=rfl;omega) (by have:Xu n i k=cX i k*(r k*r (n-k)):=rfl;omega);have g:Q X (k+1)=((k+1:Nat):Int):=wrz
   have j:BC 5 (H (p.map V) k z0):=Cm (Bx hk) k;have f1:u 1 (Xu n i k):=by unfold u;omega
   have m:=NT j (BB f1) (by decide);rw[FZ,AO] at m;have fs:=(UO hk (n:=n) (by omega) hi k (by omega)).len;have A:=((hk k).mul f1).len;have o:=jH (a:=Is p n i k) (b:=H p k 0*Xu n i k) (by omega) (by omega);have h:=Atn (p.map V) b1 b2 (n:Nat) (i:Nat) (V (Is p n i k)) (k:Nat) (r k) (r (n-k)) (cX i k) (Xu n i k) (H p k 0*Xu n i k) (Is p n i k+H p k 0*Xu n i k)
    (by rw[AZ];omega) (by rw[Ac];omega) (xG (by omega) (by omega)) (PG (by omega)) (by rw[d];exact PG (by omega)) (by rw[e,f];exact aY (by omega)) (by rw[Aa];exact m) o
   rw[g] at h;exact h)
  (Ato (p.map V) b1 b2 (n:Nat) (i:Nat) _ _ (by rw[AW];omega)) 0 (A_ _)
 rw[z] at l;exact l
theorem Ahe:T 166 [sL S (p.map V)] (A3 [W (JR p),W (MJ p)]):=by
 have en:Q X (F (p.map V)-1)=(F p:Int)-1:=by rw[Ac];exact By (by omega) (by omega)
 have l:=Et (prog:=DP) (c:=UM) (ex := .exit 0) (fin:=KZ (p.map V) (PH p (F p-1) (F p)).1 (PH p (F p-1) (F p)).2 (F p-1) (F p)) (fun i=>KZ (p.map V) (PH p (F p-1) i).1 (PH p (F p-1) i).2 (F p-1) (i:Nat)) (F p) (by nofun)
  (fun i hi=>by
   have d:Q X (i+1)=((i+1:Nat):Int):=wrz
   have f:((F p:Int)-1)=((F p-1:Nat):Int):=by omega
   have e:=qI hk hl (b1:=(PH p (F p-1) i).1) (b2:=(PH p (F p-1) i).2) (n:=F p-1) (i:=i) (by omega) (by omega);have fs:=(UO hk (n:=F p-1) (i:=i) (by omega) (by omega) (i+1) (A2 _)).len;have sg:=aZ (n:=Is p (F p-1) i (i+1)) (by omega);rw[f];simp only[PH];by_cases a:B4 (Is p (F p-1) i (i+1))=1
   ·rw[Ar a];have h:=A7z (p.map V) _ _ ((F p-1:Nat)) (i:Nat) _ _ _ (by rw[AZ];omega) (by rw[BJ];exact a) e sg;rw[d] at h;exact h
   ·rw[Aw a];by_cases b:B4 (Is p (F p-1) i (i+1)) = -1
    ·rw[Ar b];have h:=A8a (p.map V) _ _ ((F p-1:Nat)) (i:Nat) _ _ _ (by rw[AZ];omega) (by rw[C3];exact a) (by rw[BJ];exact b) e sg;rw[d] at h;exact h
    ·rw[Aw b];have h:=A8b (p.map V) _ _ ((F p-1:Nat)) (i:Nat) _ _ _ (by rw[AZ];omega) (by rw[C3];exact a) (by rw[C3];exact b) e sg;rw[d] at h;exact h)
  (A8c (p.map V) _ _ _ _ (by rw[AW];omega)) 0 (A_ _)
 rw[<- en] at l;cases hb:(PH p (F p-1) (F p)).2 with
 | true =>
  have h:=Agy (p.map V) _ true _ rfl (by rw[hb] at l;exact l);unfold MJ;rw[hb];exact h
 | false =>
  have h:=Agz (p.map V) _ false _ rfl (by rw[hb] at l;exact l);unfold MJ;rw[hb];exact h
end
def Jf:G->Int
 | []=>0
 | x::p=>if B4 x=0 then Jf p else B4 x
theorem OL{z w:Nu}:Jd z w (-1)↔∃ u:Dy,EF z u/\¬ EF w u:=by
 constructor
 ·rintro (⟨_,m,c,h1,h2⟩ | ⟨h,_⟩ | ⟨h,_⟩)
  ·exact⟨(m,c),h1,fun g=>by unfold EF at g;simp only at g;omega⟩
  ·exact absurd h (by decide)
  ·exact absurd h (by decide)
 ·rintro⟨u,h1,h2⟩;exact .inl ⟨rfl,u.1,u.2,h1,by unfold EF at h2;omega⟩
theorem qJ{z w:Nu}:Jd z w 1↔Jd w z (-1):=by
 constructor
 ·intro h;exact cM h
 ·intro h;exact cM h
theorem QK{z w:Nu}:Jd z w 0↔∀ u:Dy,EF z u↔EF w u:=by
 constructor
 ·rintro (⟨h,_⟩ | ⟨h,_⟩ | ⟨_,h⟩)
  ·exact absurd h (by decide)
  ·exact absurd h (by decide)
  ·exact fun u=>h u.1 u.2
 ·intro h;exact .inr (.inr ⟨rfl,fun m c=>h (m,c)⟩)
theorem cY{x y z:Nu}(hy:One y.1 y.2)(hz:One z.1 z.2)(h1:Jd x y (-1))(h2:Jd y z (-1)):Jd x z (-1):=by
 obtain⟨u,a,b⟩:=OL.1 h1;obtain⟨v,d,e⟩:=OL.1 h2;refine OL.2 ⟨u,a,fun g=>e (Hp hz g ?_)⟩;exact (DN u v).resolve_right fun c=>b (Hp hy d c)
theorem QL{z:Nu}(h:One z.1 z.2):EF z z.2.hi':=Zd h
theorem T0{z:Nu}(h:One z.1 z.2){u:Dy}(g:EF z u):¬ dl u z.2.lo':=((We h u).1 g).1
theorem QM{z:Nu}(h:One z.1 z.2){t:Dy}(g:EF z t)(e:¬ dl (1,0) t):sd z.1 z.2 1 0<0:=by
 have h1:EF z (1,0):=Hp h g ((DN t (1,0)).resolve_right e);have i:sd z.1 z.2 1 0<=0:=h1;apply A6;intro n;have d:sd z.1 z.2 1 0=0:=by omega
 have hs:Dl (O z.1) 1 0=0:=by
  unfold sd F_ at d;split at d
  ·cases d
  ·split at d
   ·cases d
   ·split at d
    ·assumption
    ·split at d <;> cases d
 have k:=cI h.ne h.len (x:=t.1) (a:=t.2) (y:=1) (b:=0) (by
  have:¬ (1:Int)*2^t.2<=t.1*2^0:=e;omega) hs
 have j:=((We h t).1 g).2;have f:dl (1,0) z.2.hi':=by
  apply A6;intro c;have:¬ (1:Int)*2^z.2.b<=B z.2.t*2^0:=c;have:=Xs (p:=z.1) h.lt (m:=1) (c:=0) (by omega);omega
 have l:=F4 z.1 f;have o:VD z.1 (1,0)=Vd z.1 1 0:=rfl;have q:VD z.1 t=Vd z.1 t.1 t.2:=rfl;omega
theorem PI{p:G}(hp:Cw p)(d:p ≠ []){u t:Dy}(h:dl u t)(hv:VD p u=VD p t)(a:Dl p u.1 u.2 ≠ 0)(b:Dl p t.1 t.2 ≠ 0):Dl p u.1 u.2=Dl p t.1 t.2:=by
 have e:=Jc p u.1 u.2 t.2;have c:=Jc p t.1 t.2 u.2;rw[H0 t.2 u.2] at c;rw[UI _ u t.2,UI _ t u.2,H0 t.2 u.2] at hv;rw[<- e] at a |-;rw[<- c] at b |-;rw[MZ] at a b |-;rw[MZ];exact (A7l (F p) (A2 _) hp d (Bz _) h hv (fun z=>a (DB.2 z)) (fun z=>b (DB.2 z))).symm
theorem xH{p:G}(hp:Cw p)(a:p ≠ []){t:Dy}(h:Dl p t.1 t.2=0):Dl (O p) t.1 t.2=0:=by
 rw[MZ] at h |-;exact DB.2 (cQ (F p) (A2 _) hp a (DB.1 h))
theorem xI{p:G}(hp:Cw p)(c:p ≠ []){u t:Dy}(d:¬ dl t u)(h:Dl p t.1 t.2=0)(e:2<=F (O p)):VD p t<VD p u:=by
 have k:=cI (Ca hp c) e (x:=u.1) (a:=u.2) (y:=t.1) (b:=t.2) (by
  have:¬ t.1*2^u.2<=u.1*2^t.2:=d;omega) (xH hp c h)
 have f:VD p t=Vd p t.1 t.2:=rfl;have g:VD p u=Vd p u.1 u.2:=rfl;omega
theorem kN{p:G}(hp:Cw p)(a:p ≠ [])(c:¬ 2<=F (O p)){t:Dy}(h:Dl p t.1 t.2=0):False:=by
 obtain⟨lf,_,_,b,_⟩:=C7 (Ca hp a);have h1:=EN lf b;have h2:=xH hp a h;have d:=Av.2 b;rw[MZ] at h2;apply h1;rw[show F (O p)-1=0 by omega];have e:Hh (O p) t.1 (2^t.2)=H (O p) 0 0:=by unfold Hh;rw[show F (O p)-1=0 by omega];rfl
 rw[<- e];exact DB.1 h2
structure Beg (ps:List (List Int)) (C:Dy->Prop):Prop where
 root:∃ p∈ps,∃ y∈DT p,sd p y 1 0<0/\∀ u,C u↔EF (p,y) u
 wit:∃ t:Dy,C t/\¬ dl (1,0) t/\∀ p∈ps,(∀ u,C u->dl u t->VD p u=VD p t)/\0<Dl p t.1 t.2
def nu0:Nu:=([],Ir)
def SB(M:List Nu)(j:Nat):Dy:=if j+1<F M then (H M (j+1) nu0).2.lo' else (1,0)
def NY(u v:Dy):Dy:=(Rf u.1 u.2 v.1 v.2,KU u.1 u.2 v.1 v.2)
def H8(M:List Nu)(j:Nat):Dy:=NY (H M j nu0).2.hi' (SB M j)
theorem qK{u v:Dy}(h:¬ dl v u):¬ dl (NY u v) u/\¬ dl v (NY u v):=by
 obtain⟨a,b⟩:=Ii (x:=u.1) (a:=u.2) (y:=v.1) (b:=v.2) (FI.1 h);exact⟨FI.2 a,FI.2 b⟩
structure Srt (ps:List (List Int)) (M:List Nu):Prop where
 ok:∀ z∈M,∃ k,k<=4600/\Nok k z
 src:∀ z∈M,∃ p∈ps,∃ y∈DT p,sd p y 1 0<0/\∀ u,EF z u↔EF (p,y) u
 cov:∀ p∈ps,∀ y∈DT p,sd p y 1 0<0->∃ z∈M,∀ u,EF (p,y) u↔EF z u
 sep:M.Pairwise fun z w=>¬ dl w.2.lo' z.2.hi'
 top:∀ z∈M,¬ dl (1,0) z.2.hi'
theorem HN{M:List Nu}{j:Nat}(h:j<F M):H M j nu0=M[j]:=by
 rw[Ad,Am h];rfl
theorem Ahf{u v w:Dy}(h1:¬ dl v u)(h2:dl v w):¬ dl w u:=fun g=>h1 (CV h2 g)
theorem le_of_lt{u v:Dy}(h:¬ dl v u):dl u v:=(DN u v).resolve_right h
section
variable {ps:List (G)} (hps:∀ p∈ps,Enp p/\Cw p) {M:List Nu} (h:Srt ps M)
include h
theorem Srt.one{j:Nat}(hj:j<F M):One M[j].1 M[j].2:=by
 obtain⟨k,_,o⟩:=h.ok _ (AP hj);exact o.one
theorem Srt.lt{i j:Nat}(a:i<j)(hj:j<F M):¬ dl M[j].2.lo' (M[i]'(by omega)).2.hi':=(IK.1 h.sep) i j (by omega) hj a
theorem Srt.ends{j:Nat}(hj:j<F M):¬ dl (SB M j) (H M j nu0).2.hi'/\dl (SB M j) (1,0):=by
 rw[HN hj];unfold SB;by_cases c:j+1<F M
 ·rw[Ar c,HN c];refine⟨h.lt (Nat.lt_succ_self j) c,?_⟩;obtain⟨k,_,o⟩:=h.ok _ (AP c);have:=le_of_lt (h.top _ (AP c));exact CV o.one.dlt.1 this
 ·rw[Aw c];exact⟨h.top _ (AP hj),GM _⟩
include hps
theorem Srt.none{j:Nat}(hj:j<F M){p:G}(hp:p∈ps){u t:Dy}(m:EF M[j] u)(n:dl u t)(b:¬ dl (SB M j) t):VD p u=VD p t:=by
 apply A6;intro E;have h1:=F4 p n;obtain⟨H,v⟩:=h.ends hj;have q:¬ dl (1,0) t:=fun g=>b (CV v g);obtain⟨k,_,o⟩:=h.ok _ (AP hj);have s:=T0 o.one m;have x:dl (0,0) u:=by
  have a:dl (0,0) M[j].2.lo':=by
   show (0:Int)*2^M[j].2.a<=B M[j].2.r*2^0;have:=o.w.lo;omega
  exact CV a (le_of_lt s)
 obtain⟨y,hy,d,f⟩:=Pg (hps p hp).1 x n (le_of_lt q) (by omega);obtain⟨z,hz,A⟩:=h.cov p hp y hy (QM (z:=(p,y)) (by
  unfold DT KW at hy;split at hy
  ·cases hy
  ·exact Jr 744 Ir Hq.lt (Jq (hps p hp).1 744 0 Ir rfl Hq) y hy) f q)
 obtain⟨i,hi,rfl⟩:=DK hz;rw[A] at d f;rcases Mv i j with c | c | c
 ·have:=h.lt c hj;exact d (Hp (h.one hi) (QL (h.one hi)) (CV (le_of_lt this) (le_of_lt s)))
 ·subst c;exact d m
 ·have l:j+1<F M:=by omega
  have e:SB M j=M[j+1].2.lo':=by unfold SB;rw[Ar l,HN l]
  rw[e] at b;have:=T0 (h.one hi) f;by_cases C:i=j+1
  ·subst C;exact b (le_of_lt this)
  ·have D:=h.lt (show j+1<i by omega) hi;exact b (CV (CV (h.one l).dlt.1 (le_of_lt D)) (le_of_lt this))
theorem Srt.beg{j:Nat}(hj:j<F M)(b:∀ p∈ps,0<Dl p (H8 M j).1 (H8 M j).2):Beg ps (EF M[j]):=by
 obtain⟨c,d⟩:=h.ends hj;obtain⟨m1,a⟩:=qK c;have hn:EF M[j] (H8 M j):=Hp (h.one hj) (QL (h.one hj)) (by rw[HN hj] at m1;unfold H8;rw[HN hj];exact le_of_lt m1);exact⟨h.src _ (AP hj),H8 M j,hn,fun g=>a (CV d g),fun p hp=>⟨fun u e f=>h.none hps hj hp e f a,b p hp⟩⟩
theorem Srt.pos{a:Dy->Prop}(i:Beg ps a):∃ j,∃ hj:j<F M,(∀ u,a u↔EF M[j] u)/\∀ p∈ps,0<Dl p (H8 M j).1 (H8 M j).2:=by
 obtain⟨b,n,y,hy,o,hc⟩:=i.root;obtain⟨z,hz,q⟩:=h.cov b n y hy o;obtain⟨j,hj,rfl⟩:=DK hz;have g:∀ u,a u↔EF M[j] u:=fun u=>(hc u).trans (q u);refine⟨j,hj,g,fun p hp => ?_⟩;obtain⟨t,r,B,s⟩:=i.wit;obtain⟨v,C⟩:=s p hp;obtain⟨w,D⟩:=h.ends hj;obtain⟨m1,d⟩:=qK w;have m1:¬ dl (H8 M j) (H M j nu0).2.hi':=m1;have d:¬ dl (SB M j) (H8 M j):=d;generalize H8 M j=m at *
 rw[HN hj] at m1;have x:EF M[j] m:=Hp (h.one hj) (QL (h.one hj)) (le_of_lt m1);obtain⟨A,f⟩:=hps p hp;have b:p ≠ []:=fun e=>A.ne (by rw[e];rfl);have k:Dl p m.1 m.2 ≠ 0:=by
  intro e;by_cases l:2<=F (O p)
  ·have E:=xI f b m1 e l;have G:=h.none hps hj hp (QL (h.one hj)) (le_of_lt m1) d;omega
  ·exact kN f b l e
 have e:Dl p m.1 m.2=Dl p t.1 t.2:=by
  rcases DN m t with c | c
  ·exact PI f b c (v m ((g m).2 x) c) k (by omega)
  ·exact (PI f b c (h.none hps hj hp ((g t).1 r) c d) (by omega) k).symm
 omega
theorem Srt.least{j:Nat}(hj:j<F M)(d:∀ i,i<j->¬ ∀ p∈ps,0<Dl p (H8 M i).1 (H8 M i).2){a:Dy->Prop}(e:Beg ps a){u:Dy}(b:a u):EF M[j] u:=by
 obtain⟨i,hi,hc,hp⟩:=h.pos hps e;rw[hc] at b;rcases Mv i j with c | c | c
 ·exact absurd hp (d i c)
 ·subst c;exact b
 ·have k:=h.lt c hi;exact Hp (h.one hj) (QL (h.one hj)) (CV (le_of_lt k) (le_of_lt (T0 (h.one hi) b)))
theorem Srt.no(b:∀ i,i<F M->¬ ∀ p∈ps,0<Dl p (H8 M i).1 (H8 M i).2){a:Dy->Prop}(c:Beg ps a):False:=by
 obtain⟨i,hi,_,hp⟩:=h.pos hps c;exact b i hi hp
end
def AJ(z:Nu):Rt:=z.2.rt (O z.1)
abbrev NZ(z:Nu):AV:=Bh (AJ z).fs (AJ z).r (AJ z).e (AJ z).t (AJ z).f
theorem Ju{M:List Nu}{i:Nat}(h:i<F M):H (M.map AJ) i zR=AJ M[i]:=by
 rw[Ad,CC,Am h];rfl
theorem cZ{k:Nat}{z:Nu}(h:Nok k z)(a:k+1<8000):T 82 [NZ z] (NZ (Nst z)):=Xq (Gg h.en) h.ok (by omega)
theorem N'{c j m:Nat}{x:Iv}(h:IvOk c j x)(d:j<=m):IvOk c m x:=⟨h.gr,h.gt,by have:=h.a;omega,by have:=h.b;omega,h.vr,h.vt⟩
theorem xJ{j k:Nat}{z w:Nu}(hz:Nok j z)(a:Nok k w)(hj:j<=5600)(b:k<=5600):∃ s,Jd z w s/\(s = -1\/s=0\/s=1)/\T 74 [NZ z,NZ w] (J X s):=by
 obtain⟨s,h1,h2⟩:=kI hz.en a.en hz.one a.one (A2 5600) (N' hz.ok hj) (N' a.ok b) hz.w a.w;refine⟨s,h1,?_,h2⟩;rcases h1 with ⟨e,_⟩ | ⟨e,_⟩ | ⟨e,_⟩ <;> omega
theorem A8u{M:List Nu}{i:Nat}(h:i<F M):BQ (C2 (M.map AJ)) (i*7) 7 false=some (NZ M[i]):=by
 have k:=Tx (l:=M.map AJ) (n:=F M) (Ac ..) (X:=(i:Int)) (by omega);rw[Aa,Ju h] at k;exact k
section
variable {L:List Nu} {a:Nu} (hL:∀ z∈L,∃ k,k<=744/\Nok k z) (ha:∃ k,k<=744/\Nok k a) (asc:L.Pairwise fun z w=>Jd z w (-1)) (hlen:F L<=1000)
include hL ha asc hlen
theorem Auy(ls:List D)(g i:Int)(l:List Rt)(M j:Int):∀ p:Nat,p<=F L->(∀ z∈L.drop p,Jd a z (-1))->∃ (q:Nat) (b:Bool),q<=F L /\
  Z (.loop Ty) (JZ ls g i (F L) (C2 (L.map AJ)) l M j (AJ a).fs (AJ a).r (AJ a).e (AJ a).t (AJ a).f (p:Nat) false) xZ4 (JZ ls g i (F L) (C2 (L.map AJ)) l M j (AJ a).fs (AJ a).r (AJ a).e (AJ a).t (AJ a).f (q:Nat) b) /\
  (b=true->∃ z∈L,Jd a z 0)/\(b=false->(∀ z∈L.take q,Jd z a (-1))/\∀ z∈L.drop q,Jd a z (-1)):=by
 intro p;induction p with
 | zero =>
  intro _ hd;exact⟨0,false,A_ _,Aq (Atr _ _ _ _ _ _ _ _ _ _ _ _ _ ((0:Nat)) false rfl),fun h=>(by cases h),fun _=>⟨fun z hz=>(by simp at hz),hd⟩⟩
 | succ p y =>
  intro hp hd;have d:p<F L:=by omega
  obtain⟨k,C,u⟩:=hL _ (AP d);obtain⟨E,G,v⟩:=ha;obtain⟨s,hs,H,hr⟩:=xJ v u (by omega) (by omega);have m:Q X ((p+1:Nat)-1)=(p:Int):=wrz
  have hx:0<=Q X ((p+1:Nat)-1)/\Q X ((p+1:Nat)-1)<(F L:Int):=by rw[m];omega
  have w:BQ (C2 (L.map AJ)) (Y (Q X ((p+1:Nat)-1))*7) 7 false=some (NZ L[p]):=by rw[m,Aa];exact A8u d
  have c1:decide (((p+1:Nat):Int)>0)=true:=by rw[AZ];omega
  by_cases c:s>=0
  ·refine⟨p+1,s==0,hp,Aq (Atp ls g i _ _ l M j _ _ _ _ _ ((p+1:Nat)) false (AJ L[p]) s c1 rfl (BP c) hx w hr),?_,?_⟩
   ·intro e;rw[BJ] at e;rw[e] at hs;exact⟨L[p],AP d,hs⟩
   ·intro e;rw[C3] at e;have n:s=1:=by omega
    rw[n] at hs;have hs:=qJ.1 hs;refine⟨fun z hz => ?_,hd⟩;obtain⟨q,o,rfl⟩:=DK hz;rw[AX] at o;rw[List.getElem_take];by_cases A:q=p
    ·subst A;exact hs
    ·exact cY u.one v.one ((IK.1 asc) q p (by omega) d (by omega)) hs
  ·have n:s = -1:=by omega
   have x:=Atq ls g i _ _ l M j _ _ _ _ _ ((p+1:Nat)) false (AJ L[p]) s c1 rfl (Bw c) hx w hr;rw[m,show (s==0)=false by rw[C3];omega] at x;rw[n] at hs;obtain⟨q,b,o,B,r⟩:=y (by omega) (fun z hz=>by
    rw[BL d] at hz;rcases BW.1 hz with rfl | hz
    ·exact hs
    ·exact hd z hz)
   exact⟨q,b,o,Bk x B,r⟩
end
structure Inv (ps:List (List Int)) (done:Nu->Prop) (L:List Nu):Prop where
 ok:∀ z∈L,∃ k,k<=744/\Nok k z
 asc:L.Pairwise fun z w=>Jd z w (-1)
 src:∀ z∈L,z.1∈ps/\z.2∈DT z.1
 cov:∀ a,done a->sd a.1 a.2 1 0<0->∃ z∈L,Jd a z 0
theorem Auz{a:Nu}{k:Nat}(hp:Enp a.1)(d:IvOk 0 k a.2)(e:k<=8000)(h1:One a.1 a.2):T 76 [NZ a,A4 (V 1) 0] (J X (sd a.1 a.2 1 0)):=by
 have k:=Xp (Gg hp) d.gr d.gt (q:=V 1) (BB (C8 (k:=1) (by decide) (by decide))) (a:=a.2.a) (b:=a.2.b) (c:=0) (by have:=d.a;omega) (by have:=d.b;omega) (by decide) (by rw[Fe.2 h1.lt];decide);rw[AO] at k;exact k
theorem Ava{ps:List (G)}{done:Nu->Prop}{L:List Nu}(h:Inv ps done L)(hlen:F L+1<=1000){p:G}(hp:p∈ps)(s:Enp p){l:List Iv}(K:l=DT p)(ls:List D)(c i M:Int){j:Nat}(hj:j<F l)(N:(j:Int)<M)(a4:j<1000000) :
  ∃ m,Inv ps (fun a=>done a\/a=(p,l[j])) m/\F m<=F L+1 /\
   Z OK (HB ls c i (F L) (C2 (L.map AJ)) (l.map (Iv.rt (O p))) M (j:Nat)) .norm (HB ls c i (F m) (C2 (m.map AJ)) (l.map (Iv.rt (O p))) M ((j+1:Nat))):=by
 have hy:l[j]∈DT p:=by rw[<- K];exact AP hj
 have h1:One p l[j]/\IvOk 0 744 l[j]:=by
  unfold DT KW at hy;split at hy
  ·cases hy
  ·refine⟨Jr 744 Ir Hq.lt (Jq s 744 0 Ir rfl Hq) _ hy,?_⟩;have:=cH 744 Ir 0 Wf (by decide) _ hy;exact this
 have n:H (l.map (Iv.rt (O p))) (Y j) zR=AJ (p,l[j]):=by
  rw[Aa,Ad,CC,Am hj];rfl
 have v:Q X (j+1)=((j+1:Nat):Int):=wrz
 have c1:decide ((j:Int)<M)=true:=BP N;have x:0<=(j:Int)/\(j:Int)<(F (l.map (Iv.rt (O p))):Int):=by rw[Ac];omega
 have P:=Auz (a:=(p,l[j])) s h1.2 (by decide) h1.1;have y:T 76 [Bh (H (l.map (Iv.rt (O p))) (Y j) zR).fs (H (l.map (Iv.rt (O p))) (Y j) zR).r (H (l.map (Iv.rt (O p))) (Y j) zR).e (H (l.map (Iv.rt (O p))) (Y j) zR).t (H (l.map (Iv.rt (O p))) (Y j) zR).f,A4 (V 1) 0] (J X (sd p l[j] 1 0)):=by
  rw[n];exact P
 by_cases A:sd p l[j] 1 0>=0
 ·refine⟨L,⟨h.ok,h.asc,h.src,?_⟩,by omega,?_⟩
  ·rintro a (d | rfl) g
   ·exact h.cov a d g
   ·exact absurd g (by simp only;omega)
  ·have k:=Ats ls c i (F L) (C2 (L.map AJ)) (l.map (Iv.rt (O p))) M (j:Nat) _ c1 (BP A) x Je y;rw[v] at k;exact k
 ·have ha:∃ k,k<=744/\Nok k (p,l[j]):=cT s _ hy (by omega);obtain⟨q,b,R,S,U,W⟩:=Auy h.ok ha h.asc (by omega) ls c i (l.map (Iv.rt (O p))) M (j:Nat) (F L) (A2 _) (fun z hz=>by simp at hz);have B:=S;rw[<- n] at B;cases b with
  | true =>
   obtain⟨z,hz,C⟩:=U rfl;refine⟨L,⟨h.ok,h.asc,h.src,?_⟩,by omega,?_⟩
   ·rintro a (d | rfl) g
    ·exact h.cov a d g
    ·exact⟨z,hz,C⟩
   ·have k:=Att ls c i (F L) (C2 (L.map AJ)) (l.map (Iv.rt (O p))) M (j:Nat) _ (q:Nat) true c1 (Bw A) rfl x Je y B;rw[v] at k;exact k
  | false =>
   obtain⟨a1,a2⟩:=W rfl;obtain⟨ka,a3,oa⟩:=ha;refine⟨L.take q++(p,l[j])::L.drop q,⟨?_,?_,?_,?_⟩,by simp;omega,?_⟩
   ·intro z hz;rcases BD.1 hz with hz | hz
    ·exact h.ok z (C5 hz)
    ·rcases BW.1 hz with rfl | hz
     ·exact⟨ka,a3,oa⟩
     ·exact h.ok z (E3 hz)
   ·have o:=h.asc;rw[<- Ft q L,Of] at o;rw[Of,G3];refine⟨o.1,⟨a2,o.2.1⟩,fun z hz w E => ?_⟩;rcases BW.1 E with rfl | E
    ·exact a1 z hz
    ·exact o.2.2 z hz w E
   ·intro z hz;rcases BD.1 hz with hz | hz
    ·exact h.src z (C5 hz)
    ·rcases BW.1 hz with rfl | hz
     ·exact⟨hp,hy⟩
     ·exact h.src z (E3 hz)
   ·rintro a (d | rfl) g
    ·obtain⟨z,hz,C⟩:=h.cov a d g;refine⟨z,?_,C⟩;rw[<- Ft q L] at hz;rcases BD.1 hz with hz | hz
     ·exact F6 _ hz
     ·exact Ez _ (Bg _ hz)
    ·exact⟨_,Ez _ (Ba ..),QK.2 fun u=>Iff.rfl⟩
   ·have a5:F (C2 (L.map AJ))=F L*7:=by rw[FA,Ac]
    have I:BF ((F L-q)*7) (AL (q*7) (C2 (L.map AJ)))=C2 ((L.drop q).map AJ):=by
     rw[Ns,ABf,Dt];rw[FA,CX,Ac];omega
    have k:=Atu ls c i (F L) (C2 (L.map AJ)) (l.map (Iv.rt (O p))) M (j:Nat) _ (q:Nat) false c1 (Bw A) rfl x Je y B (by omega) (by rw[Aa];omega) (by rw[Aa];omega) (by rw[Aa];omega) (by rw[Aa];exact R) (by
     simp only[Aa];rw[I];simp only[B0,BM,IP,FA,Ac,CX];omega)
    simp only[Aa] at k;rw[v,I,Tw,<- Od] at k;have el:q+(1+(F L-q))=F (L.take q++(p,l[j])::L.drop q):=by simp;omega
    rw[el] at k;rw[D_,CW,K0,C2];rw[Aa] at n;rw[n] at k;exact k
theorem Inv.less{ps:List (G)}{d c:Nu->Prop}{b:List Nu}(h:Inv ps d b)(hd:∀ a,c a->d a):Inv ps c b:=⟨h.ok,h.asc,h.src,fun a e=>h.cov a (hd a e)⟩
theorem Yx{p:G}(hE:Enp p)(c:F (Cq p)<=10):F (F3 p 744 Ir)<=10:=by
 have h:=Atl 744 Ir (Jq hE 744 0 Ir rfl Hq);have e:=Pf c (B Ir.r) Ir.a;have f:=Pf c (B Ir.t) Ir.b;unfold Iv.d at h;omega
section
variable {ps:List (G)} {p:G} (hp:p∈ps) (hE:Enp p) (ls:List D) (N i:Int)
include hp hE
theorem Avb{l:List Iv}(k:l=DT p)(hn:F l<=10):∀ (r j:Nat) (done:Nu->Prop) (b:List Nu),j+r=F l->Inv ps done b->F b+r<=900 ->
  ∃ f,Inv ps (fun a=>done a\/(a.1=p/\a.2∈l.drop j)) f/\F f<=F b+r /\
   Z (.loop OK) (HB ls N i (F b) (C2 (b.map AJ)) (l.map (Iv.rt (O p))) (F (l.map (Iv.rt (O p)))) (j:Nat)) xZ2 (HB ls N i (F f) (C2 (f.map AJ)) (l.map (Iv.rt (O p))) (F (l.map (Iv.rt (O p)))) (F l)):=by
 intro r;induction r with
 | zero =>
  intro j done b hj h m;refine⟨b,h.less ?_,by omega,?_⟩
  ·rintro a (d | ⟨_,d⟩)
   ·exact d
   ·rw[show j=F l by omega,DD] at d;cases d
  ·rw[show j=F l by omega];exact Aq (Atv _ _ _ _ _ _ _ _ (by rw[Ac,AW];omega))
 | succ r n =>
  intro j done b hj h m;have g:j<F l:=by omega
  obtain⟨o,h1,u,q⟩:=Ava h (by omega) hp hE k ls N i (F (l.map (Iv.rt (O p))):Int) g (by rw[Ac];omega) (by omega);obtain⟨s,h2,v,t⟩:=n (j+1) _ o (by omega) h1 (by omega);refine⟨s,h2.less ?_,by omega,Bk q t⟩;rintro a (d | ⟨e,d⟩)
  ·exact .inl (.inl d)
  ·rw[BL g] at d;rcases BW.1 d with c | c
   ·exact .inl (.inr (by rw[<- e,<- c]))
   ·exact .inr ⟨e,c⟩
theorem Avc{i:Nat}(hi:(i:Int)<N)(u:i<1000000)(q:H ls i []=p.map V)(v:i<F ls){done:Nu->Prop}{b:List Nu}(h:Inv ps done b)(w:F b<=800) :
  ∃ c,Inv ps (fun a=>done a\/(a.1=p/\a.2∈DT p)) c/\F c<=F b+10 /\
   Z Tz (J' ls N (i:Nat) (F b) (C2 (b.map AJ))) .norm (J' ls N ((i+1:Nat)) (F c) (C2 (c.map AJ))):=by
 have r:Kb 5 p:=fun j=>C8 (hE.co j) (by decide);have e:=Bx r;have f:F (p.map V)<=9:=by rw[Ac];have:=hE.len;omega
 have g:=K4 e f;rw[Bs] at g;have y:=Yx hE g;have s:F (DT p)<=10:=by
  have:=kJ p 744 Ir;show F (KW p 744 Ir)<=10;omega
 obtain⟨c,t,z,l⟩:=Avb hp hE ls N (i:Nat) rfl s (F (DT p)) 0 done b (by omega) h (by omega);refine⟨c,t,by omega,?_⟩;have d:=Ate e f (n:=744) (x:=Ir) (C:=0) (m:=0) Wf (by decide) (E:=1073741824) (by decide) (by rw[Bs];exact Jq hE 744 0 Ir rfl Hq) (by rw[Bs];omega);rw[Bs] at d;have o:Q X (i+1)=((i+1:Nat):Int):=wrz
 have hx:H ls (Y i) []=p.map V:=by rw[Aa];exact q
 rcases d with d | d
 ·have k:=Aha ls N (i:Nat) (F b) (C2 (b.map AJ)) ((DT p).map (Iv.rt (O p))) true _ _ _ (BP hi) (by omega) Je (by rw[hx];exact d) l;rw[o] at k;exact k
 ·have k:=Atw ls N (i:Nat) (F b) (C2 (b.map AJ)) ((DT p).map (Iv.rt (O p))) true _ _ _ (BP hi) (by omega) Je (by rw[hx];exact d) l;rw[o] at k;exact k
end
theorem qL{ps:List (G)}{i:Nat}(h:i<F ps):H (s ps) i []=(ps[i]).map V:=by
 rw[L8 h,Ad,Am h];rfl
theorem Avd{ps:List (G)}(k:∀ p∈ps,Enp p)(hn:F ps<=60):∀ (r i:Nat) (b:List Nu),i+r=F ps->Inv ps (fun a=>a.1∈ps.take i/\a.2∈DT a.1) b->F b<=10*i ->
  ∃ f,Inv ps (fun a=>a.1∈ps/\a.2∈DT a.1) f/\F f<=10*F ps /\
   Z (.loop Tz) (J' (s ps) (F (s ps)) (i:Nat) (F b) (C2 (b.map AJ))) xZ0 (J' (s ps) (F (s ps)) (F ps) (F f) (C2 (f.map AJ))):=by
 intro r;induction r with
 | zero =>
  intro i b hi h g;have e:i=F ps:=by omega
  subst e;rw[DV] at h;exact⟨b,h,g,Aq (Atx _ _ _ _ _ (by rw[Ee,AW];omega))⟩
 | succ r l =>
  intro i b hi h g;have d:i<F ps:=by omega
  obtain⟨m,h1,u,n⟩:=Avc (AP d) (k _ (AP d)) (s ps) (F (s ps):Int) (i:=i) (by rw[Ee];omega) (by omega) (qL d) (by rw[Ee];exact d) h (by omega);obtain⟨o,h2,q,t⟩:=l (i+1) m (by omega) (h1.less (by
   rintro a ⟨c1,j⟩;rw[Dz d] at c1;rcases BD.1 c1 with c | c
   ·exact .inl ⟨c,j⟩
   ·have c:=Dh.1 c;exact .inr ⟨c,by rw[<- c];exact j⟩)) (by omega)
  exact⟨o,h2,q,Bk n t⟩
def q(z:Nu)(m:Nat):Nu:=(z.1,stpN (O z.1) z.2 m)
theorem IJ{k:Nat}{z:Nu}(h:Nok k z):∀ m,k+m<8000->Nok (k+m) (q z m)
 | 0,_=>h
 | m+1,a=>(IJ h m (by omega)).st (by omega)
theorem Wi{z:Nu}(h:One z.1 z.2)(m:Nat)(u:Dy):EF (q z m) u↔EF z u:=by
 show sd z.1 (stpN (O z.1) z.2 m) u.1 u.2<=0↔_;rw[S3 h];exact Iff.rfl
theorem Ale{z w:Nu}(hz:One z.1 z.2)(a:One w.1 w.2)(m n:Nat)(s:Int):Jd (q z m) (q w n) s↔Jd z w s:=KX hz a m n
section
variable(A:List Nu)
theorem Wj(z:Nu)(a:List Nu):H ((A++z::a).map AJ) (F A) zR=AJ z:=by
 rw[Ju (by simp)];simp
theorem kO(z w:Nu)(a:List Nu):H ((A++z::w::a).map AJ) (F A+1) zR=AJ w:=by
 rw[Ju (by simp)];simp
theorem xK(z x:Nu)(a:List Nu):((A++z::a).map AJ).set (F A) (AJ x)=(A++x::a).map AJ:=by
 rw[<- Ww];congr 1;simp
theorem Ave(z w x:Nu)(a:List Nu):((A++z::w::a).map AJ).set (F A+1) (AJ x)=(A++z::x::a).map AJ:=by
 rw[<- Ww];congr 1;simp
end
theorem Alf{r t:Rn}{a b:Nat}(hr:BC 300 r)(c:BC 300 t)(d:a<=8192)(hb:b<=8192):T 55 [A4 r (a:Nat),A4 t (b:Nat)] (J X (BS (B r) a (B t) b)):=L9 (hr.mono (by decide)) (c.mono (by decide)) d hb
theorem Mt{u v:Dy}:¬ BS u.1 u.2 v.1 v.2<0↔dl v u:=by unfold dl BS DE; (repeat' split) <;> omega
theorem Ahg(A h:List Nu){z w:Nu}{j k:Nat}(hz:Nok j z)(l:Nok k w)(hj:j<=2700)(I:k<=2700)(B:Jd z w (-1)){n:Nat}(hn:n=F (A++z::w::h))(K:n<=1000) :
  ∃ m,m<=1921/\Z (.loop QG) (Js n ((A++z::w::h).map AJ) n (F A)) xZ8 (Js n ((A++q z m::q w m::h).map AJ) n (F A))/\¬ dl (q w m).2.lo' (q z m).2.hi':=by
 have L:n=F A+(F h+2):=by rw[hn];simp
 obtain⟨m,o,m1,p⟩:∃ m,m<=1921/\(∀ i,i<m->decide (BS (q z i).2.hi'.1 (q z i).2.hi'.2 (q w i).2.lo'.1 (q w i).2.lo'.2<0)=false)/\decide (BS (q z m).2.hi'.1 (q z m).2.hi'.2 (q w m).2.lo'.1 (q w m).2.lo'.2<0)=true:=by
  rcases HU (fun i=>decide (BS (q z i).2.hi'.1 (q z i).2.hi'.2 (q w i).2.lo'.1 (q w i).2.lo'.2<0)) 1922 1922 0 rfl with g | ⟨m,_,M,C,D⟩
  ·exfalso;have:=g 1921 (by omega) (by omega);generalize O:1921=N at this;have h1:=Agx (IJ hz N (by omega)) (IJ l N (by omega)) (by omega) (by omega) ((Ale hz.one l.one N N (-1)).2 B);rw[AW] at this;exact h1 (Mt.1 this)
  ·exact⟨m,by omega,fun i hi=>D i (by omega) hi,C⟩
 have d:Q X (F A+1)=((F A+1:Nat):Int):=wrz
 have c1:decide (Q X (F A+1)<(n:Int))=true:=by rw[d,AZ];omega
 have s:0<=(F A:Int)/\(F A:Int)<(n:Int):=by omega
 have u:0<=Q X (F A+1)/\Q X (F A+1)<(n:Int):=by rw[d];omega
 have v:∀ i,i<=1921->T 55 [A4 (H ((A++q z i::q w i::h).map AJ) (Y (F A)) zR).t (H ((A++q z i::q w i::h).map AJ) (Y (F A)) zR).f,A4 (H ((A++q z i::q w i::h).map AJ) (Y (Q X (F A+1))) zR).r (H ((A++q z i::q w i::h).map AJ) (Y (Q X (F A+1))) zR).e] (J X (BS (q z i).2.hi'.1 (q z i).2.hi'.2 (q w i).2.lo'.1 (q w i).2.lo'.2)):=by
  intro i hi;rw[d,Aa,Aa,Wj,kO];have x:=(IJ hz i (by omega)).ok;have y:=(IJ l i (by omega)).ok;exact Alf x.gt y.gr (by have:=x.b;omega) (by have:=y.a;omega)
 refine⟨m,o,?_,?_⟩
 ·refine Hl (prog:=DP) (c:=QG) (ex := .exit 8) (fun i=>Js n ((A++q z i::q w i::h).map AJ) n (F A)) m (by nofun) ?_ 0 (A_ _) ?_
  ·exact Atz n _ _ _ _ c1 (by rw[AW];have:=of_decide_eq_true p;omega) s (by rw[hn,Ac];simp) u (v m o)
  ·intro i _ hi;have E:=cZ (IJ hz i (by omega)) (by omega);have G:=cZ (IJ l i (by omega)) (by omega);have k:=Aty n ((A++q z i::q w i::h).map AJ) n (F A) (AJ (Nst (q z i))) (AJ (Nst (q w i))) _ c1 (by rw[AZ];have:=of_decide_eq_false (m1 i hi);omega) s (by rw[hn,Ac];simp) u (by rw[hn,BH,Ac];simp) (v i (by omega))
    (by rw[Aa,Wj];exact E) (by rw[d,Aa,kO];exact G)
   rw[d,Aa,Aa,xK,Ave] at k;exact k
 ·intro g;exact Mt.2 g (of_decide_eq_true p)
theorem kP(A e:List Nu){z:Nu}{j:Nat}(hz:Nok j z)(hj:j<=4700){n:Nat}(hn:n=F (A++z::e)) :
  ∃ m,m<=1921/\(¬ dl (1,0) z.2.hi'->m=0)/\Z (.loop Wg) (M_ n ((A++z::e).map AJ) n (F A)) (.exit 10) (M_ n ((A++q z m::e).map AJ) n (F A))/\¬ dl (1,0) (q z m).2.hi':=by
 have x:n=F A+(F e+1):=by rw[hn];simp
 obtain⟨m,d,m1,h⟩:∃ m,m<=1921/\(∀ i,i<m->decide (BS (q z i).2.hi'.1 (q z i).2.hi'.2 1 0<0)=false)/\decide (BS (q z m).2.hi'.1 (q z m).2.hi'.2 1 0<0)=true:=by
  rcases HU (fun i=>decide (BS (q z i).2.hi'.1 (q z i).2.hi'.2 1 0<0)) 1922 1922 0 rfl with g | ⟨m,_,y,r,s⟩
  ·exfalso;have:=g 1921 (by omega) (by omega);generalize B:1921=N at this;have h1:=cU (IJ hz N (by omega)) (by omega);rw[AW] at this;exact h1 (Mt (u:=(q z N).2.hi') (v:=(1,0)).1 this)
  ·exact⟨m,by omega,fun i hi=>s i (by omega) hi,r⟩
 have l:0<=(F A:Int)/\(F A:Int)<(n:Int):=by omega
 have o:∀ i,i<=1921->T 55 [A4 (H ((A++q z i::e).map AJ) (Y (F A)) zR).t (H ((A++q z i::e).map AJ) (Y (F A)) zR).f,A4 (V 1) 0] (J X (BS (q z i).2.hi'.1 (q z i).2.hi'.2 1 0)):=by
  intro i hi;rw[Aa,Wj];have p:=(IJ hz i (by omega)).ok;have k:=Alf p.gt (t:=V 1) (a:=(q z i).2.b) (b:=0) (BB (C8 (k:=1) (by decide) (by decide))) (by have:=p.b;omega) (by decide);rw[AO] at k;exact k
 refine⟨m,d,?_,?_,?_⟩
 ·intro g;apply A6;intro c;have:=of_decide_eq_false (m1 0 (by omega));exact g (Mt (u:=(q z 0).2.hi') (v:=(1,0)).1 this)
 ·refine Hl (prog:=DP) (c:=Wg) (ex := .exit 10) (fun i=>M_ n ((A++q z i::e).map AJ) n (F A)) m (by nofun) ?_ 0 (A_ _) ?_
  ·exact Auc n _ _ _ _ (by rw[AW];have:=of_decide_eq_true h;omega) l (by rw[hn,Ac];simp) Je (o m d)
  ·intro i _ hi;have w:=cZ (IJ hz i (by omega)) (by omega);have k:=Aub n ((A++q z i::e).map AJ) n (F A) (AJ (Nst (q z i))) _ (by rw[AZ];have:=of_decide_eq_false (m1 i hi);omega) l (by rw[hn,Ac];simp) Je (o i (by omega)) (by rw[Aa,Wj];exact w);rw[Aa,xK] at k;exact k
 ·intro g;exact (Mt (u:=(q z m).2.hi') (v:=(1,0))).2 g (of_decide_eq_true h)
def Sml:List Nu->List Nu->Prop
 | [],[]=>True
 | z::l,w::m=>(∀ u,EF w u↔EF z u)/\Sml l m
 | _,_=>False
theorem Sml.right:∀ {a M:List Nu},Sml a M->∀ w∈M,∃ z∈a,∀ u,EF w u↔EF z u
 | [],[],_,_,b=>by cases b
 | [],_::_,h,_,_=>h.elim
 | _::_,[],h,_,_=>h.elim
 | z::l,x::m,h,w,b=>by
  rcases BW.1 b with rfl | b
  ·exact⟨z,Ba ..,h.1⟩
  ·obtain⟨y,hy,e⟩:=Sml.right h.2 w b;exact⟨y,Bg _ hy,e⟩
theorem Sml.left:∀ {a M:List Nu},Sml a M->∀ z∈a,∃ w∈M,∀ u,EF w u↔EF z u
 | [],[],_,_,b=>by cases b
 | [],_::_,h,_,_=>h.elim
 | _::_,[],h,_,_=>h.elim
 | z::l,x::m,h,w,b=>by
  rcases BW.1 b with rfl | b
  ·exact⟨x,Ba ..,h.1⟩
  ·obtain⟨y,hy,e⟩:=Sml.left h.2 w b;exact⟨y,Bg _ hy,e⟩
theorem Sml.len:∀ {a M:List Nu},Sml a M->F M=F a
 | [],[],_=>rfl
 | [],_::_,h=>h.elim
 | _::_,[],h=>h.elim
 | _::l,_::m,h=>by simp[Sml.len h.2]
structure Apr (M:List Nu):Prop where
 ok:∀ z∈M,∃ k,k<=4600/\Nok k z
 sep:M.Pairwise fun z w=>¬ dl w.2.lo' z.2.hi'
 top:∀ z∈M,¬ dl (1,0) z.2.hi'
theorem AHg(n:Nat)(l:List Rt):Z (.loop Wh) (L_ n l n n) xZ6 (L_ n l n n) :=
 Aq (Aud _ _ _ _ (by rw[AW];omega))
theorem Avf{n:Nat}(O:n<=1000):∀ (c:Nat) (d A:List Nu),F d=c->n=F (A++d)->(∀ z∈d,∃ k,k<=2665/\Nok k z)->(∀ z∈d.tail,∃ k,k<=744/\Nok k z)->d.Pairwise (fun z w=>Jd z w (-1)) ->
  ∃ M,Sml d M/\Apr M/\(∀ z w,d.head? = some z->M.head? = some w->dl z.2.lo' w.2.lo') /\
   Z (.loop Wh) (L_ n ((A++d).map AJ) n (F A)) xZ6 (L_ n ((A++M).map AJ) n n):=by
 intro c;induction c with
 | zero =>
  intro d A hc hn _ _ _;have e:=AU hc;subst e;have p:n=F A:=by rw[hn];simp
  refine⟨[],trivial,⟨fun z hz=>(by cases hz),.nil,fun z hz=>(by cases hz)⟩,fun z w h=>(by simp at h),?_⟩;rw[<- p];exact AHg n _
 | succ c P =>
  intro d A hc hn H s i;match d,hc with
  | [z],_ =>
   obtain⟨R,S,f⟩:=H z (Ba ..);have p:n=F A+1:=by rw[hn];simp
   obtain⟨m,T,_,v,l⟩:=kP A [] f (by omega) hn;have o:Q X (F A+1)=(n:Int):=wrz
   have U:Z (.loop QG) (Js n ((A++[z]).map AJ) n (F A)) xZ8 (Js n ((A++[z]).map AJ) n (F A)) :=
    Aq (Aua _ _ _ _ (by rw[o,AW];omega))
   have k:=kK n _ n (F A) _ _ (by rw[AZ];omega) U v;rw[o] at k;refine⟨[q z m],⟨fun u=>Wi f.one m u,trivial⟩,⟨?_,List.pairwise_singleton _ _,?_⟩,?_,Bk k (AHg n _)⟩
   ·intro w C;rw[Dh.1 C];exact⟨R+m,by omega,IJ f m (by omega)⟩
   ·intro w C;rw[Dh.1 C];exact l
   ·intro a b j hb;simp at j hb;subst j hb;exact (PE f.one m).1
  | z::w::r,hc =>
   obtain⟨k,S,f⟩:=H z (Ba ..);obtain⟨V,a1,ow⟩:=s w (Ba ..);rw[G3] at i;obtain⟨m,T,v,l⟩:=Ahg A r f ow (by omega) (by omega) (i.1 w (Ba ..)) hn O;have I:=IJ f m (by omega);have D:=IJ ow m (by omega);have hb:¬ dl (1,0) (q z m).2.hi':=by
    intro g;have a:=D.one.dlt.1;have b:dl (q w m).2.hi' (1,0):=by
     show B (q w m).2.t*2^0<=1*2^(q w m).2.b;have:=D.w.hi;omega
    exact l (CV (CV a b) g)
   obtain⟨m0,_,W,J,l4⟩:=kP A (q w m::r) I (by omega) (n:=n) (by rw[hn];simp);have e0:=W hb;subst e0;have Y:q (q z m) 0=q z m:=rfl;rw[Y] at J;have p:n=F A+(F r+2):=by rw[hn];simp
   have o:Q X (F A+1)=(F (A++[q z m]):Int):=by rw[wqz];simp
   have K:=kK n _ n (F A) _ _ (by rw[AZ];omega) v J;rw[o,show A++q z m::q w m::r=(A++[q z m])++(q w m::r) by simp] at K;have L:∀ u,EF (q w m) u↔EF w u:=Wi ow.one m;obtain⟨M,h1,h2,E,h4⟩:=P (q w m::r) (A++[q z m]) (by simpa using hc) (by rw[hn];simp) (by
    intro y hy;rcases BW.1 hy with rfl | hy
    ·exact⟨V+m,by omega,D⟩
    ·obtain⟨k3,a2,G⟩:=s y (Bg _ hy);exact⟨k3,by omega,G⟩) (fun y hy=>s y (Bg _ hy)) (by
    rw[G3] at i |-;refine⟨fun y hy => ?_,i.2.2⟩;obtain⟨u,a,b⟩:=OL.1 (i.2.1 y hy);exact OL.2 ⟨u,(L u).2 a,b⟩)
   refine⟨q z m::M,⟨fun u=>Wi f.one m u,?_⟩,⟨?_,?_,?_⟩,?_,?_⟩
   ·match M,h1 with
    | y::M',h1=>exact⟨fun u=>(h1.1 u).trans (L u),h1.2⟩
   ·intro y hy;rcases BW.1 hy with rfl | hy
    ·exact⟨k+m,by omega,I⟩
    ·exact h2.ok y hy
   ·rw[G3];refine⟨?_,h2.sep⟩;match M,h1,h2,E with
    | y::M',h1,h2,E =>
     have hy:=E (q w m) y rfl rfl;have c0:¬ dl y.2.lo' (q z m).2.hi':=Ahf l hy;intro x hx;rcases BW.1 hx with rfl | hx
     ·exact c0
     ·have hs:=h2.sep;rw[G3] at hs;have c2:=hs.1 x hx;obtain⟨k5,_,G⟩:=h2.ok y (Ba ..);exact Ahf (Ahf c0 G.one.dlt.1) (le_of_lt c2)
   ·intro y hy;rcases BW.1 hy with rfl | hy
    ·exact hb
    ·exact h2.top y hy
   ·intro a b j N;simp at j N;subst j N;exact (PE f.one m).1
   ·rw[show A++q z m::M=(A++[q z m])++M by simp];exact Bk K h4
theorem Yy{ps:List (G)}(i:∀ p∈ps,Enp p)(hn:F ps<=60):∃ M,Srt ps M/\F M<=600/\T 168 [sL pp (s ps)] (Ae 7 (F (M.map AJ)) (C2 (M.map AJ))):=by
 obtain⟨c,d,x,j⟩:=Avd i hn (F ps) 0 [] (by omega) ⟨fun z hz=>(by cases hz),.nil,fun z hz=>(by cases hz),fun a l=>(by simp at l)⟩ (by simp);obtain⟨M,g,h,_,m⟩:=Avf (n:=F c) (by omega) (F c) c [] rfl rfl (fun z hz=>by
  obtain⟨k,a,b⟩:=d.ok z hz;exact⟨k,by omega,b⟩) (fun z hz=>d.ok z (List.mem_of_mem_tail hz)) d.asc
 have o:=g.len;refine⟨M,⟨h.ok,?_,?_,h.sep,h.top⟩,by omega,?_⟩
 ·intro z hz;obtain⟨w,f,e⟩:=g.right z hz;obtain⟨q,r⟩:=d.src w f;obtain⟨k,_,ow⟩:=d.ok w f;exact⟨w.1,q,w.2,r,ow.lt,e⟩
 ·intro p hp y hy t;obtain⟨z,hz,e⟩:=d.cov (p,y) ⟨hp,hy⟩ t;obtain⟨w,f,v⟩:=g.left z hz;exact⟨w,f,fun u=>(QK.1 e u).trans (v u).symm⟩
 ·have k:=A8d (s ps) (c.map AJ) (M.map AJ) _ _ (by rw[Ac];exact j) (by rw[Ac];exact m);rw[show F (M.map AJ)=F (c.map AJ) by rw[Ac,Ac];exact o];exact k
section
variable {p:G} (hk:Kb 5 p) (hl:F p<=8)
include hk hl
theorem qM:∀ r i:Nat,i+r=F p ->
  (Jf (p.drop i)=0/\Z (.loop UL) (KY 0 (p.map V) (F (p.map V)) (i:Nat)) xZ0 (KY 0 (p.map V) (F (p.map V)) (F p:Nat))) \/
  ∃ j:Int,Z (.loop UL) (KY 0 (p.map V) (F (p.map V)) (i:Nat)) .ret (KY (Jf (p.drop i)) (p.map V) (F (p.map V)) j):=by
 intro r;induction r with
 | zero =>
  intro i hi;have e:i=F p:=by omega
  subst e;rw[DD];exact .inl ⟨rfl,Aq (A7x _ _ _ _ (by rw[Ac,AW];omega))⟩
 | succ r g =>
  intro i hi;have d:i<F p:=by omega
  have hd:p.drop i=p[i]::p.drop (i+1):=BL d;have hg:BC 5 (H (p.map V) i z0):=Cm (Bx hk) i;have sg:=Lz (neg:=(H (p.map V) i z0).1) hg.1 (by have:=hg.2;omega);rw[show v (H (p.map V) i z0).1 (H (p.map V) i z0).2=B (H (p.map V) i z0) from rfl,FZ,Ad (l:=p),Am d] at sg;have sg:T 101 [AB (H (p.map V) (Y i) z0)] (J X (B4 p[i])):=by rw[Aa];exact sg
  have h:Q X (i+1)=((i+1:Nat):Int):=wrz
  have c1:decide ((i:Int)<(F (p.map V):Int))=true:=by rw[Ac,AZ];omega
  have f:0<=(i:Int)/\(i:Int)<(F (p.map V):Int):=by rw[Ac];omega
  rw[hd];simp only[Jf];by_cases c:B4 p[i]=0
  ·rw[Ar c];have k:=A7w 0 (p.map V) _ _ _ c1 (by rw[bne_eq_false_iff_eq];exact c) f sg;rw[h] at k;rcases g (i+1) (by omega) with ⟨a,b⟩ | ⟨j,b⟩
   ·exact .inl ⟨a,Bk k b⟩
   ·exact .inr ⟨j,Bk k b⟩
  ·rw[Aw c];exact .inr ⟨_,Aq (A7v 0 (p.map V) _ _ _ c1 (by rw[bne_iff_ne];exact c) f sg)⟩
theorem xL:T 167 [sL S (p.map V)] (J X (Jf p)):=by
 rcases qM hk hl (F p) 0 (by omega) with ⟨a,b⟩ | ⟨j,b⟩
 ·rw[DA] at a;rw[a];exact A7y _ _ b
 ·rw[DA] at b;exact Atm _ _ _ b
end
def FU(ts:List (G)):List (G):=ts.filter fun p => !MJ p
def Oi(ts:List (G)):Bool:=(FU ts).all fun p=>decide (Jf p>0)
def Cf(ls:List D):List (G):=ls.map fun rs=>Af (Al rs)
structure Few (ls:List D):Prop where
 len:ls.length<=5
 good:∀ rs∈ls,∀ r∈rs,BC 5 r
 deg:∀ rs∈ls,rs.length<=8
 co:∀ rs∈ls,∀ i,((Al rs).getD i 0).natAbs<=2^113
theorem kQ(a:List (G))(p:G):FU (a++[p])=if MJ p then FU a else FU a++[p]:=by
 unfold FU;rw[List.filter_append];cases h:MJ p <;> simp[h]
theorem PJ(a:List (G))(p:G):pp (s (a++[p]))=pp (s a)++[sL S (p.map V)]:=by
 simp[pp,s]
section
variable {ls:List D} (h:Few ls)
include h
theorem Few.ts{t:G}(b:t∈Cf ls):Kb 5 t/\F t<=8/\Cw t/\∀ i,I (H t i 0)<=2^113:=by
 obtain⟨rs,a,rfl⟩:=DI.1 b;refine⟨(KL (DW (h.good rs a))).trim,?_,GI _,fun i => ?_⟩
 ·have:=Ct (Al rs);have:=h.deg rs a;rw[B1] at *
  omega
 ·rw[Ei];exact h.co rs a i
theorem Few.open{t:G}(f:t∈FU (Cf ls))(hn:JR t=false):Enp t/\Cw t:=by
 obtain⟨a,b,c,d⟩:=h.ts (DR.1 f).1;refine⟨⟨?_,b,d⟩,c⟩;intro e;have e:t=[]:=by rw[<- c];exact e
 rw[e] at hn;cases hn
theorem Xv{i:Nat}(hi:i<F (Cf ls)) :
  (JR (Cf ls)[i]=false->Z Ij (E9 false (F (FU ((Cf ls).take i))) (pp (s (FU ((Cf ls).take i)))) (Oi ((Cf ls).take i)) ls (F ls) (i:Nat)) .norm (E9 false (F (FU ((Cf ls).take (i+1)))) (pp (s (FU ((Cf ls).take (i+1))))) (Oi ((Cf ls).take (i+1))) ls (F ls) ((i+1:Nat)))) /\
  (JR (Cf ls)[i]=true->Z Ij (E9 false (F (FU ((Cf ls).take i))) (pp (s (FU ((Cf ls).take i)))) (Oi ((Cf ls).take i)) ls (F ls) (i:Nat)) .ret (E9 false (F (FU ((Cf ls).take i))) (pp (s (FU ((Cf ls).take i)))) (Oi ((Cf ls).take i)) ls (F ls) (i:Nat))):=by
 have u:F (Cf ls)=F ls:=Ac ..;have j:i<F ls:=by omega
 have v:=h.len;obtain⟨a,b,_,_⟩:=h.ts (AP hi);have m:(Cf ls)[i]=Af (Al ls[i]):=by simp[Cf]
 have n:H ls (Y i) []=ls[i]:=by rw[Aa,Ad,Am j];rfl
 have l:Q X (i+1)=((i+1:Nat):Int):=wrz
 have c1:decide ((i:Int)<(F ls:Int))=true:=by rw[AZ];omega
 have f:0<=(i:Int)/\(i:Int)<(F ls:Int):=by omega
 have o:=h.good ls[i] (AP j);have w:=h.deg ls[i] (AP j);have d:=L7 (rs:=ls[i]) (fun r hr=>(o r hr).mono (by decide)) (by omega);rw[<- m] at d;have d:T 66 [sL S (H ls (Y i) [])] (Ae 2 (F ((Cf ls)[i].map V)) (S ((Cf ls)[i].map V))):=by
  rw[n,Ac];exact d
 have c:=Ahe a b;have q:(Cf ls).take (i+1)=(Cf ls).take i++[(Cf ls)[i]]:=Dz hi;have x:F (FU ((Cf ls).take i))<=5:=by
  have:=gA (fun p => !MJ p) ((Cf ls).take i);rw[AX] at this;unfold FU;omega
 constructor
 ·intro hn;rw[hn] at c;rw[q];cases g:MJ (Cf ls)[i] with
  | true =>
   rw[g] at c;have e:FU ((Cf ls).take i++[(Cf ls)[i]])=FU ((Cf ls).take i):=by rw[kQ,g];rfl
   have en:Oi ((Cf ls).take i++[(Cf ls)[i]])=Oi ((Cf ls).take i):=by unfold Oi;rw[e]
   rw[e,en];have k:=Auf false (F (FU ((Cf ls).take i))) (pp (s (FU ((Cf ls).take i)))) (Oi ((Cf ls).take i)) ls (F ls) (i:Nat) _ false true c1 rfl rfl f d c;rw[l] at k;exact k
  | false =>
   rw[g] at c;have e:FU ((Cf ls).take i++[(Cf ls)[i]])=FU ((Cf ls).take i)++[(Cf ls)[i]]:=by rw[kQ,g];rfl
   have en:Oi ((Cf ls).take i++[(Cf ls)[i]])=(Oi ((Cf ls).take i)&&decide (Jf (Cf ls)[i]>0)):=by unfold Oi;rw[e,List.all_append];simp
   have t:=xL a b;rw[en,e,PJ,B0];cases y:Oi ((Cf ls).take i) with
   | true =>
    have k:=Aug false (F (FU ((Cf ls).take i))) (pp (s (FU ((Cf ls).take i)))) true ls (F ls) (i:Nat) _ false false _ c1 rfl rfl rfl f (by omega) d c t;rw[l] at k;exact k
   | false =>
    have k:=Auh false (F (FU ((Cf ls).take i))) (pp (s (FU ((Cf ls).take i)))) false ls (F ls) (i:Nat) _ false false c1 rfl rfl rfl f (by omega) d c;rw[l] at k;exact k
 ·intro hn;rw[hn] at c;exact Aue false (F (FU ((Cf ls).take i))) (pp (s (FU ((Cf ls).take i)))) (Oi ((Cf ls).take i)) ls (F ls) (i:Nat) _ true _ c1 rfl f d c
theorem Avg:((∀ t∈Cf ls,JR t=false)->Z (.loop Ij) (E9 false 0 ([]:AK) true ls (F ls) 0) xZ0 (E9 false (F (FU (Cf ls))) (pp (s (FU (Cf ls)))) (Oi (Cf ls)) ls (F ls) (F ls))) /\
  ((∃ t∈Cf ls,JR t=true)->∃ (k:Nat) (cs:AK) (nw:Bool) (i:Int),Z (.loop Ij) (E9 false 0 ([]:AK) true ls (F ls) 0) .ret (E9 false k cs nw ls (F ls) i)):=by
 have a:F (Cf ls)=F ls:=Ac ..;constructor
 ·intro hn;refine Hl (prog:=DP) (c:=Ij) (ex := .exit 0) (fun i=>E9 false (F (FU ((Cf ls).take i))) (pp (s (FU ((Cf ls).take i)))) (Oi ((Cf ls).take i)) ls (F ls) (i:Nat)) (F ls) (by nofun) ?_ 0 (A_ _) (fun i _ hi=>(Xv h (by omega)).1 (hn _ (AP _)));rw[<- a,DV,a];exact Aui _ _ _ _ _ _ _ (by rw[AW];omega)
 ·rintro⟨t,f,hn⟩;obtain⟨j,hj,rfl⟩:=DK f;rcases HU (fun i=>JR (H (Cf ls) i [])) (F (Cf ls)) (F (Cf ls)) 0 (by omega) with g | ⟨m,_,b,d,l⟩
  ·have:=g j (A_ _) hj;rw[Ad,Am hj] at this;rw[show JR (Cf ls)[j]=false from this] at hn;cases hn
  ·have e:∀ i (hi:i<F (Cf ls)),H (Cf ls) i []=(Cf ls)[i]:=fun i hi=>by rw[Ad,Am hi];rfl
   rw[e m b] at d;exact⟨_,_,_,_,Hl (prog:=DP) (c:=Ij) (ex := .ret) (fun i=>E9 false (F (FU ((Cf ls).take i))) (pp (s (FU ((Cf ls).take i)))) (Oi ((Cf ls).take i)) ls (F ls) (i:Nat)) m (by nofun) ((Xv h b).2 d) 0 (A_ _) (fun i _ hi=>(Xv h (by omega)).1 (by
    have:=l i (A_ _) hi;rw[e i (by omega)] at this;exact this))⟩
end
section
variable {ps:List (G)} (hps:∀ p∈ps,Enp p/\Cw p) (hn:F ps<=5) {m:Rn} (hm:BC 300 m) {g:Nat} (hg:g<=8192) (oF:D) (oR:Rn) (oE:Int) (oT:Rn) (n:Int) (o:Bool) (l:List Rt) (M j d:Int) (fs:D) (r:Rn) (e:Int) (t:Rn) (f:Int)
include hps hn hm hg
theorem Avh:∀ k q:Nat,q+k=F ps ->
  ((∀ p∈ps.drop q,0<Dl p (B m) g)/\Z (.loop Na) (GU oF oR oE oT n o (s ps) l M j d fs r e t f m (g:Nat) (q:Nat)) xZ4 (GU oF oR oE oT n o (s ps) l M j d fs r e t f m (g:Nat) (F ps:Nat))) \/
  ((¬ ∀ p∈ps.drop q,0<Dl p (B m) g)/\∃ i:Int,Z (.loop Na) (GU oF oR oE oT n o (s ps) l M j d fs r e t f m (g:Nat) (q:Nat)) xZ3 (GU oF oR oE oT n o (s ps) l M j d fs r e t f m (g:Nat) i)):=by
 intro k;induction k with
 | zero =>
  intro q x;have e:q=F ps:=by omega
  subst e;rw[DD];exact .inl ⟨fun p hp=>(by cases hp),Aq (Aul _ _ _ _ _ _ _ _ _ _ _ _ _ _ _ _ _ _ _ (by rw[Ee,AW];omega))⟩
 | succ k y =>
  intro q x;have h:q<F ps:=by omega
  obtain⟨v,_⟩:=hps _ (AP h);have hk:Kb 5 ps[q]:=fun i=>C8 (v.co i) (by decide);have sg:=Q9 (p:=ps[q]) ⟨hk.mono (by decide),by have:=v.len;omega⟩ hm hg;have sg:T 65 [sL S (H (s ps) (Y q) []),A4 m (g:Nat)] (J X (Dl ps[q] (B m) g)):=by
   rw[Aa,qL h];exact sg
  have A:Q X (q+1)=((q+1:Nat):Int):=wrz
  have c1:decide ((q:Int)<(F (s ps):Int))=true:=by rw[Ee,AZ];omega
  have w:0<=(q:Int)/\(q:Int)<(F (s ps):Int):=by rw[Ee];omega
  rw[BL h];by_cases c:Dl ps[q] (B m) g<=0
  ·exact .inr ⟨fun z=>by have:=z _ (Ba ..);omega,_,Aq (Auj oF oR oE oT n o (s ps) l M j d fs r e t f m (g:Nat) (q:Nat) _ c1 (BP c) w sg)⟩
  ·have u:=Auk oF oR oE oT n o (s ps) l M j d fs r e t f m (g:Nat) (q:Nat) _ c1 (Bw c) w sg;rw[A] at u;rcases y (q+1) (by omega) with ⟨a,b⟩ | ⟨a,i,b⟩
   ·refine .inl ⟨fun p hp => ?_,Bk u b⟩;rcases BW.1 hp with rfl | hp
    ·omega
    ·exact a p hp
   ·exact .inr ⟨fun z=>a fun p hp=>z p (Bg _ hp),i,Bk u b⟩
end
section
variable {ps:List (G)} (hps:∀ p∈ps,Enp p/\Cw p) (hn:F ps<=5) {M:List Nu} (h:Srt ps M) (hM:F M<=600)
include h hM
theorem Avi{j:Nat}(hj:j<F M):BC 300 (V (H8 M j).1)/\(H8 M j).2<=8192 /\
  (E (Q X (j+1)<(F (M.map AJ):Int))=true->T 133 [A4 (H (M.map AJ) (Y j) zR).t (H (M.map AJ) (Y j) zR).f,A4 (H (M.map AJ) (Y (Q X (j+1))) zR).r (H (M.map AJ) (Y (Q X (j+1))) zR).e] (A4 (V (H8 M j).1) ((H8 M j).2:Nat))) /\
  (E (Q X (j+1)<(F (M.map AJ):Int))=false->T 133 [A4 (H (M.map AJ) (Y j) zR).t (H (M.map AJ) (Y j) zR).f,A4 (V 1) 0] (A4 (V (H8 M j).1) ((H8 M j).2:Nat))):=by
 obtain⟨k,z,o⟩:=h.ok _ (AP hj);have ok:=o.ok;have d:Q X (j+1)=((j+1:Nat):Int):=wrz
 have p:H (M.map AJ) (Y j) zR=AJ M[j]:=by rw[Aa];exact Ju hj
 have q:∀ {t:Rn} {b:Nat},BC 300 t->b<=4600->I (B t)<=2^0*2^b->SB M j=(B t,b) ->
   BC 300 (V (H8 M j).1)/\(H8 M j).2<=8192/\T 133 [A4 (AJ M[j]).t (AJ M[j]).f,A4 t (b:Nat)] (A4 (V (H8 M j).1) ((H8 M j).2:Nat)):=by
  intro t b s hb hv u;have A:=ok.b;have e:H8 M j=(Rf (B M[j].2.t) M[j].2.b (B t) b,KU (B M[j].2.t) M[j].2.b (B t) b):=by
   unfold H8;rw[u,HN hj];rfl
  have me:KU (B M[j].2.t) M[j].2.b (B t) b<=max M[j].2.b b+1:=OJ;have v:=Tp ok.vt hv;have w:=Q8 (ok.gt.mono (show 300<=600 by omega)) (s.mono (show 300<=600 by omega)) (a:=M[j].2.b) (b:=b) (by omega) (by omega);rw[e];refine⟨BB (C8 (k:=0+KU (B M[j].2.t) M[j].2.b (B t) b) (by rw[Dw];exact v) (by omega)),by simp only;omega,w⟩
 by_cases c:j+1<F M
 ·obtain⟨C,D,x⟩:=h.ok _ (AP c);have i:=x.ok;have y:H (M.map AJ) (Y (Q X (j+1))) zR=AJ M[j+1]:=by rw[d,Aa];exact Ju c
  obtain⟨l,m,n⟩:=q i.gr (by have:=i.a;omega) i.vr (by unfold SB;rw[Ar c,HN c];rfl);refine⟨l,m,fun _=>by rw[p,y];exact n,fun g => ?_⟩;(first|rw[d,Ac,AW] at g|(rw[d] at g;unfold sL at g;rw[Ac,AW] at g));omega
 ·obtain⟨l,m,n⟩:=q (t:=V 1) (b:=0) (BB (C8 (k:=1) (by decide) (by decide))) (by decide) (by decide) (by unfold SB;rw[Aw c,AO]);refine⟨l,m,fun g => ?_,fun _=>by rw[p];exact n⟩;(first|rw[d,Ac,AZ] at g|(rw[d] at g;unfold sL at g;rw[Ac,AZ] at g));omega
include hps hn
theorem Ahh{j:Nat}(hj:j<F M)(d:D)(l:Rn)(m:Int)(q:Rn)(n:Int)(o:Bool) :
  ((∀ p∈ps,0<Dl p (H8 M j).1 (H8 M j).2)->Z Jt (Fr d l m q n o (s ps) (M.map AJ) (F (M.map AJ)) (j:Nat)) .ret (Fr (AJ M[j]).fs (AJ M[j]).r (AJ M[j]).e (AJ M[j]).t (AJ M[j]).f true (s ps) (M.map AJ) (F (M.map AJ)) (j:Nat))) /\
  ((¬ ∀ p∈ps,0<Dl p (H8 M j).1 (H8 M j).2)->Z Jt (Fr d l m q n o (s ps) (M.map AJ) (F (M.map AJ)) (j:Nat)) .norm (Fr d l m q n o (s ps) (M.map AJ) (F (M.map AJ)) ((j+1:Nat)))):=by
 obtain⟨z,A,m1,x⟩:=Avi h hM hj;have v:Q X (j+1)=((j+1:Nat):Int):=wrz
 have B:H (M.map AJ) (Y j) zR=AJ M[j]:=by rw[Aa];exact Ju hj
 have c1:decide ((j:Int)<(F (M.map AJ):Int))=true:=by rw[Ac,AZ];omega
 have u:0<=(j:Int)/\(j:Int)<(F (M.map AJ):Int):=by rw[Ac];omega
 have y:decide (Q X (j+1)<(F (M.map AJ):Int))=true->0<=Q X (j+1)/\Q X (j+1)<(F (M.map AJ):Int):=fun g=>by
  rw[v] at g |-;exact⟨by omega,of_decide_eq_true g⟩
 have w:=Avh hps hn z A d l m q n o (M.map AJ) (F (M.map AJ):Int) (j:Nat) (j:Nat) (H (M.map AJ) (Y j) zR).fs (H (M.map AJ) (Y j) zR).r (H (M.map AJ) (Y j) zR).e (H (M.map AJ) (Y j) zR).t (H (M.map AJ) (Y j) zR).f (F ps) 0 (by omega);rw[DA,AO] at w;constructor
 ·intro hp;rcases w with ⟨_,b⟩ | ⟨a,_⟩
  ·rw[<- B];cases c:decide (Q X (j+1)<(F (M.map AJ):Int)) with
   | true=>exact Ahb d l m q n o (s ps) (M.map AJ) _ (j:Nat) _ _ _ c1 c u Je (y c) (m1 c) b
   | false=>exact Ahc d l m q n o (s ps) (M.map AJ) _ (j:Nat) _ _ _ c1 c u Je (x c) b
  ·exact absurd hp a
 ·intro hp;rcases w with ⟨a,_⟩ | ⟨_,i,b⟩
  ·exact absurd a hp
  ·cases c:decide (Q X (j+1)<(F (M.map AJ):Int)) with
   | true =>
    have k:=Aum d l m q n o (s ps) (M.map AJ) _ (j:Nat) _ _ _ c1 c u Je (y c) (m1 c) b;rw[v] at k;exact k
   | false =>
    have k:=Aun d l m q n o (s ps) (M.map AJ) _ (j:Nat) _ _ _ c1 c u Je (x c) b;rw[v] at k;exact k
theorem Ahi:(∃ j,∃ hj:j<F M,Beg ps (EF M[j])/\(∀ a,Beg ps a->∀ u,a u->EF M[j] u)/\Z (.loop Jt) (Fr [] (false,[]) 0 (false,[]) 0 false (s ps) (M.map AJ) (F (M.map AJ)) 0) .ret (Fr (AJ M[j]).fs (AJ M[j]).r (AJ M[j]).e (AJ M[j]).t (AJ M[j]).f true (s ps) (M.map AJ) (F (M.map AJ)) (j:Nat))) \/
  ((∀ a,¬ Beg ps a)/\Z (.loop Jt) (Fr [] (false,[]) 0 (false,[]) 0 false (s ps) (M.map AJ) (F (M.map AJ)) 0) xZ2 (Fr [] (false,[]) 0 (false,[]) 0 false (s ps) (M.map AJ) (F (M.map AJ)) (F M:Nat))):=by
 have st:=fun j (hj:j<F M)=>Ahh hps hn h hM hj [] (false,[]) 0 (false,[]) 0 false;have k:∀ j,((ps.all fun p=>decide (0<Dl p (H8 M j).1 (H8 M j).2))=true↔∀ p∈ps,0<Dl p (H8 M j).1 (H8 M j).2):=fun j=>by
  simp only[CG,AZ]
 have b:∀ j,((ps.all fun p=>decide (0<Dl p (H8 M j).1 (H8 M j).2))=false->¬ ∀ p∈ps,0<Dl p (H8 M j).1 (H8 M j).2):=fun j e g=>by
  rw[(k j).2 g] at e;cases e
 rcases HU (fun j=>ps.all fun p=>decide (0<Dl p (H8 M j).1 (H8 M j).2)) (F M) (F M) 0 (by omega) with g | ⟨m,_,d,n,o⟩
 ·refine .inr ⟨fun a l=>h.no hps (fun i hi=>b i (g i (A_ _) hi)) l,?_⟩;exact Hl (prog:=DP) (c:=Jt) (ex := .exit 2) (fun j=>Fr [] (false,[]) 0 (false,[]) 0 false (s ps) (M.map AJ) (F (M.map AJ)) (j:Nat)) (F M) (by nofun) (Auo _ _ _ _ _ _ _ _ _ _ (by rw[Ac,AW];omega)) 0 (A_ _) (fun j _ hj=>(st j hj).2 (b j (g j (A_ _) hj)))
 ·refine .inl ⟨m,d,h.beg hps d ((k m).1 n),fun a l u q=>h.least hps d (fun i hi=>b i (o i (A_ _) hi)) l q,?_⟩;exact Hl (prog:=DP) (c:=Jt) (ex := .ret) (fun j=>Fr [] (false,[]) 0 (false,[]) 0 false (s ps) (M.map AJ) (F (M.map AJ)) (j:Nat)) m (by nofun) ((st m d).1 ((k m).1 n)) 0 (A_ _) (fun j _ hj=>(st j (by omega)).2 (b j (o j (A_ _) hj)))
end
def Kp(ts:List (G)):Prop:=(∀ t∈ts,JR t=false)/\Oi ts=true
structure RootS (ts:List (List Int)) (C:Dy->Prop):Prop where
 nev:∀ t∈ts,JR t=false
 nw:Oi ts=false
 beg:Beg (FU ts) C
 least:∀ C',Beg (FU ts) C'->∀ u,C' u->C u
def SC:Iv:=⟨V 0,0,V 0,0⟩
abbrev Xw:AV:=Bh ([0,1].map V) (V 0) 0 (V 0) 0
abbrev nuN:AV:=Bh [] (false,[]) 0 (false,[]) 0
theorem Ahj(hz:T 81 [A4 z0 0] Xw){ls:List D}(h:Few ls) :
  (Kp (Cf ls)/\T 139 [sL pp ls] (A3 [Xw,W true])) \/
  (¬ Kp (Cf ls)/\(∀ c,¬ RootS (Cf ls) c)/\T 139 [sL pp ls] (A3 [nuN,W false])) \/
  (¬ Kp (Cf ls)/\∃ k z,k<=4600/\Nok k z/\RootS (Cf ls) (EF z)/\T 139 [sL pp ls] (A3 [NZ z,W true])):=by
 obtain⟨r,u⟩:=Avg h;by_cases n:∃ t∈Cf ls,JR t=true
 ·obtain⟨k,cs,nw,i,l⟩:=u n;obtain⟨t,f,hn⟩:=n;refine .inr (.inl ⟨fun g => ?_,fun c g => ?_,Aup ls _ _ _ _ l⟩)
  ·rw[g.1 t f] at hn;cases hn
  ·rw[g.nev t f] at hn;cases hn
 have m:∀ t∈Cf ls,JR t=false:=fun t f=>by
  cases e:JR t with
  | false=>rfl
  | true=>exact absurd ⟨t,f,e⟩ n
 have l:=r m;have hps:∀ p∈FU (Cf ls),Enp p/\Cw p:=fun p hp=>h.open hp (m p (DR.1 hp).1);have v:F (FU (Cf ls))<=5:=by
  have a:=gA (fun p => !MJ p) (Cf ls);have b:F (Cf ls)=F ls:=Ac ..;have:=h.len;unfold FU;omega
 have w:F (s (FU (Cf ls)))=F (FU (Cf ls)):=Ee _;rw[<- w] at l;cases d:Oi (Cf ls) with
 | true =>
  rw[d] at l;exact .inl ⟨⟨m,d⟩,Auq ls (s (FU (Cf ls))) _ _ _ _ _ _ l hz⟩
 | false =>
  rw[d] at l;have nz:¬ Kp (Cf ls):=fun g=>by rw[g.2] at d;cases d
  obtain⟨M,hM,x,q⟩:=Yy (fun p hp=>(hps p hp).1) (show F (FU (Cf ls))<=60 by omega);rcases Ahi hps v hM x with ⟨j,hj,y,A,k⟩ | ⟨b,k⟩
  ·obtain⟨B,C,o⟩:=hM.ok _ (AP hj);exact .inr (.inr ⟨nz,B,M[j],C,o,⟨m,d,y,A⟩,Aus ls (s (FU (Cf ls))) (M.map AJ) _ _ _ _ _ _ _ l q k⟩)
  ·exact .inr (.inl ⟨nz,fun c g=>b c g.beg,Aur ls (s (FU (Cf ls))) (M.map AJ) _ _ l q k⟩)
theorem A8v:Kb 5 [0,1]:=(KL (K:=1) fun x hx=>by
 simp at hx;rcases hx with rfl | rfl <;> (unfold u;decide)).mono (by decide)
theorem Alg:VY [0,1]:=⟨A8v.mono (by decide),by decide⟩
theorem Wk(m:Nat):IvOk 0 m SC :=
 ⟨BB (C8 (k:=1) (by decide) (by decide)),BB (C8 (k:=1) (by decide) (by decide)),A_ _,A_ _,by decide,by decide⟩
theorem dA:T 125 [Xw] (W true) :=
 LA (p:=[0,1]) (Wk 0).gr (Wk 0).gt (a:=0) (b:=0) (by decide) (by decide)
theorem xM{k:Nat}{z:Nu}(h:Nok k z)(c:k<=5600):T 125 [NZ z] (W false):=by
 have e:=LA (p:=O z.1) h.ok.gr h.ok.gt (a:=z.2.a) (b:=z.2.b) (by have:=h.ok.a;omega) (by have:=h.ok.b;omega);rw[Fe.2 h.one.lt] at e;exact e
theorem Avj{k:Nat}{z:Nu}(h:Nok k z)(f:k<=5600):T 74 [Xw,NZ z] (J X (-1)):=by
 have d:=N' h.ok f;obtain⟨c1,A⟩:=PD (Wk 5600) d (by decide);have e0:B SC.t=0:=AO 0;have j:B SC.r=0:=AO 0;by_cases e:BS (B SC.t) SC.b (B z.2.r) z.2.a<0
 ·exact kF _ SC.r SC.t _ _ _ z.2.r z.2.t _ _ _ (BP e) c1
 ·have lo:=h.w.lo;have C:=h.w.lt;have l:=Bz z.2.b;have m:=Bz z.2.a;have D:B z.2.r*2^z.2.b>=0:=A8 lo (A9 l);have E:0<B z.2.t:=by
   apply FI.1;intro g;have:=A8 (show 0 <= -B z.2.t by omega) (A9 m);rw[O'] at this;omega
  have o:¬ BS (B z.2.t) z.2.b (B SC.r) SC.a<0:=by
   rw[j];refine Mt (u:=(B z.2.t,z.2.b)) (v:=((0:Int),SC.a)).2 ?_;show (0:Int)*2^z.2.b<=B z.2.t*2^(0:Nat);omega
  have p:BS (B SC.t) SC.b (B z.2.r) z.2.a<=0:=by
   rw[e0];refine G7 (u:=((0:Int),SC.b)) (v:=(B z.2.r,z.2.a)).2 ?_;show (0:Int)*2^z.2.a<=B z.2.r*2^(0:Nat);omega
  have x:sd z.1 z.2 0 0=1:=QC (by omega);have s:=Xp (Gg h.en) h.ok.gr h.ok.gt (q:=V 0) (BB (C8 (k:=1) (by decide) (by decide))) (a:=z.2.a) (b:=z.2.b) (c:=0) (by have:=h.ok.a;omega) (by have:=h.ok.b;omega) (by decide) (by rw[Fe.2 h.one.lt];decide);rw[AO,show F_ (O z.1) (B z.2.r) z.2.a (B z.2.t) z.2.b 0 0=1 from x] at s;have y:=pY ([0,1].map V) SC.r SC.t SC.a SC.b ((O z.1).map V) z.2.r z.2.t (z.2.a:Nat) (z.2.b:Nat) 1 true rfl dA s;exact cE Alg (Gg h.en) (Wk 5600) d (n:=0) (by decide) e o y ⟨fun i hi=>absurd hi (Pk i),.inl ⟨rfl,p⟩⟩
inductive FSt (ll:l) (i:Nat):Az->Prop
 | no:(∀ ls∈ll.take i,¬ Kp (Cf ls))->(∀ ls∈ll.take i,∀ C,¬ RootS (Cf ls) C)->FSt ll i (K6 [] (false,[]) 0 (false,[]) 0 false ll ll.length (i:Nat))
 | ro (k:Nat) (z:Nu):k<=4600->Nok k z->(∀ ls∈ll.take i,¬ Kp (Cf ls))->(∃ ls∈ll.take i,RootS (Cf ls) (EF z))->(∀ ls∈ll.take i,∀ C,RootS (Cf ls) C->∀ u,C u->EF z u)->FSt ll i (K6 (AJ z).fs (AJ z).r (AJ z).e (AJ z).t (AJ z).f true ll ll.length (i:Nat))
theorem I3{α:Type}{l:List α}{i:Nat}(h:i<F l){P:α->Prop}:(∀ x∈l.take (i+1),P x)↔(∀ x∈l.take i,P x)/\P l[i]:=by
 rw[Dz h];constructor
 ·intro g;exact⟨fun x hx=>g x (F6 _ hx),g _ (Ez _ (Dh.2 rfl))⟩
 ·rintro⟨a,b⟩ x hx;rcases BD.1 hx with hx | hx
  ·exact a x hx
  ·rw[Dh.1 hx];exact b
section
variable (hz:T 81 [A4 z0 0] Xw) {ll:l} (h:∀ ls∈ll,Few ls) (hn:F ll<=5)
include hz h hn
theorem xN{i:Nat}(hi:i<F ll){s:Az}(hs:FSt ll i s) :
  (∃ N,Z Rg s .norm N/\FSt ll (i+1) N)\/((∃ ls∈ll,Kp (Cf ls))/\Z Rg s xZ0 (K6 ([0,1].map V) (V 0) 0 (V 0) 0 true ll (F ll) (i:Nat))):=by
 have C:Q X (i+1)=((i+1:Nat):Int):=wrz
 have G:H ll (Y i) []=ll[i]:=by rw[Aa,Ad,Am hi];rfl
 have c1:decide ((i:Int)<(F ll:Int))=true:=by rw[AZ];omega
 have y:0<=(i:Int)/\(i:Int)<(F ll:Int):=by omega
 have hb:=Ahj hz (h _ (AP hi));rw[<- G] at hb;have O:T 101 [AB (V 0)] (J X 0):=aZ (n:=0) (by decide);rcases hb with ⟨d,p⟩ | ⟨x,d,p⟩ | ⟨x,k,w,D,ow,d,p⟩
 ·rw[G] at d;refine .inr ⟨⟨_,AP hi,d⟩,?_⟩;cases hs with
  | no m q=>exact AFf _ _ _ _ _ false ll _ (i:Nat) _ _ _ _ _ _ true true c1 rfl rfl rfl rfl y p dA O
  | ro k z D o m q E=>exact AFd _ _ _ _ _ true ll _ (i:Nat) _ _ _ _ _ (-1) _ true true c1 rfl rfl rfl rfl rfl y p (Avj o (by omega)) dA O
 ·rw[G] at x d;left;cases hs with
  | no m q =>
   have b:=Alb [] (false,[]) 0 (false,[]) 0 false ll _ (i:Nat) _ _ _ _ _ false c1 rfl y p;rw[C] at b;exact⟨_,b,.no ((I3 hi).2 ⟨m,x⟩) ((I3 hi).2 ⟨q,d⟩)⟩
  | ro k z D o m q E =>
   have b:=Alb (AJ z).fs (AJ z).r (AJ z).e (AJ z).t (AJ z).f true ll _ (i:Nat) _ _ _ _ _ false c1 rfl y p;rw[C] at b;obtain⟨ls,m1,I⟩:=q;exact⟨_,b,.ro k z D o ((I3 hi).2 ⟨m,x⟩) ⟨ls,eF _ (ABg i) m1,I⟩ ((I3 hi).2 ⟨E,fun a l=>absurd l (d a)⟩)⟩
 ·rw[G] at x d;left;have own:ll[i]∈ll.take (i+1):=by
   rw[Dz hi];exact Ez _ (Dh.2 rfl)
  cases hs with
  | no m q =>
   have b:=AFg [] (false,[]) 0 (false,[]) 0 false ll _ (i:Nat) _ _ _ _ _ true false c1 rfl rfl rfl y p (xM ow (by omega));rw[C] at b;exact⟨_,b,.ro k w D ow ((I3 hi).2 ⟨m,x⟩) ⟨_,own,d⟩ ((I3 hi).2 ⟨fun ls K a l=>absurd l (q ls K a),fun a l u A=>d.least a l.beg u A⟩)⟩
  | ro j z hj o m q E =>
   obtain⟨s,B,S,P⟩:=xJ ow o (by omega) (by omega);by_cases c:s>=0
   ·have b:=AFc (AJ z).fs (AJ z).r (AJ z).e (AJ z).t (AJ z).f true ll _ (i:Nat) _ _ _ _ _ _ true c1 rfl rfl (BP c) y p P;rw[C] at b;obtain⟨ls,m1,I⟩:=q;refine⟨_,b,.ro j z hj o ((I3 hi).2 ⟨m,x⟩) ⟨ls,eF _ (ABg i) m1,I⟩ ((I3 hi).2 ⟨E,fun a l u A => ?_⟩)⟩;have R:=d.least a l.beg u A;rcases S with e | e | e
    ·omega
    ·rw[e] at B;exact (QK.1 B u).1 R
    ·rw[e] at B;obtain⟨v,L,M⟩:=OL.1 (qJ.1 B);exact Hp o.one L ((DN v u).resolve_right fun g=>M (Hp ow.one R g))
   ·have b:=AFe (AJ z).fs (AJ z).r (AJ z).e (AJ z).t (AJ z).f true ll _ (i:Nat) _ _ _ _ _ _ true false c1 rfl rfl (Bw c) rfl y p P (xM ow (by omega));rw[C] at b;refine⟨_,b,.ro k w D ow ((I3 hi).2 ⟨m,x⟩) ⟨_,own,d⟩ ((I3 hi).2 ⟨fun ls K a l u A => ?_,fun a l u A=>d.least a l.beg u A⟩)⟩;have U:=E ls K a l u A;have e:s = -1:=by omega
    rw[e] at B;obtain⟨v,L,M⟩:=OL.1 B;exact Hp ow.one L ((DN v u).resolve_right fun g=>M (Hp o.one U g))
theorem xO:∀ (r i:Nat) (s:Az),i+r=F ll->FSt ll i s ->
  (∃ t,FSt ll (F ll) t/\Z (.loop Rg) s xZ0 t)\/((∃ ls∈ll,Kp (Cf ls))/\∃ j:Int,Z (.loop Rg) s xZ0 (K6 ([0,1].map V) (V 0) 0 (V 0) 0 true ll (F ll) j)):=by
 intro r;induction r with
 | zero =>
  intro i s hi hs;have e:i=F ll:=by omega
  subst e;refine .inl ⟨s,hs,?_⟩;cases hs with
  | no a b=>exact Aq (Alc _ _ _ _ _ _ _ _ _ (by rw[AW];omega))
  | ro j z hj o a b m=>exact Aq (Alc _ _ _ _ _ _ _ _ _ (by rw[AW];omega))
 | succ r c =>
  intro i s hi hs;rcases xN hz h hn (by omega) hs with ⟨d,k,f⟩ | ⟨e,k⟩
  ·rcases c (i+1) d (by omega) f with ⟨t,g,l⟩ | ⟨e,j,l⟩
   ·exact .inl ⟨t,g,Bk k l⟩
   ·exact .inr ⟨e,j,Bk k l⟩
  ·exact .inr ⟨e,_,Aq k⟩
theorem Ahk :
  ((∃ ls∈ll,Kp (Cf ls))/\T 89 [P (F ll) (ER ll)] (A3 [Xw,W true])) \/
  ((∀ ls∈ll,¬ Kp (Cf ls))/\(∀ ls∈ll,∀ a,¬ RootS (Cf ls) a)/\T 89 [P (F ll) (ER ll)] (A3 [nuN,W false])) \/
  ((∀ ls∈ll,¬ Kp (Cf ls))/\∃ k z,k<=4600/\Nok k z/\(∃ ls∈ll,RootS (Cf ls) (EF z))/\(∀ ls∈ll,∀ a,RootS (Cf ls) a->∀ u,a u->EF z u)/\T 89 [P (F ll) (ER ll)] (A3 [NZ z,W true])):=by
 rcases xO hz h hn (F ll) 0 _ (by omega) (.no (fun ls d=>by simp at d) (fun ls d=>by simp at d)) with ⟨t,g,l⟩ | ⟨e,j,l⟩
 ·cases g with
  | no b c =>
   rw[DV] at b c;exact .inr (.inl ⟨b,c,qD ll _ _ _ _ _ _ false l⟩)
  | ro k z i o b c f =>
   rw[DV] at b c f;exact .inr (.inr ⟨b,k,z,i,o,c,f,qD ll _ _ _ _ _ _ true l⟩)
 ·exact .inl ⟨e,qD ll _ _ _ _ _ _ true l⟩
end
section
variable {p q:G} (hp:Enp p) (hq:Enp q) {y x:Iv} (h1:One p y) (h2:One q x) {C m:Nat} (hm:m+C<7990) (o1:IvOk C m y) (o2:IvOk C m x)
include hp hq h1 h2 hm o1 o2
theorem Wl:T 33 [A4 y.t (y.b:Nat),A4 x.r (x.a:Nat)] (J X (BS (B y.t) y.b (B x.r) x.a))/\T 33 [A4 x.t (x.b:Nat),A4 y.r (y.a:Nat)] (J X (BS (B x.t) x.b (B y.r) y.a)) /\
  T 33 [A4 y.r (y.a:Nat),A4 y.t (y.b:Nat)] (J X (-1))/\T 33 [A4 x.r (x.a:Nat),A4 x.t (x.b:Nat)] (J X (-1))/\T 33 [A4 y.r (y.a:Nat),A4 x.r (x.a:Nat)] (J X (BS (B y.r) y.a (B x.r) x.a)) /\
  T 71 [y.av (O p),x.av (O q)] (W (E (BS (B y.t) y.b (B x.r) x.a<=0) || decide (BS (B x.t) x.b (B y.r) y.a<=0))) /\
  T 72 [y.av (O p)] ((Jb (O p) y).av (O p))/\T 72 [x.av (O q)] ((Jb (O q) x).av (O q)):=by
 have c:∀ {r t:Rn} {a b:Nat},BC 300 r->BC 300 t->a<=m->b<=m->T 33 [A4 r (a:Nat),A4 t (b:Nat)] (J X (BS (B r) a (B t) b)):=fun hr h j hb=>G2 (hr.mono (show 300<=600 by omega)) (h.mono (show 300<=600 by omega)) (by omega) (by omega);have c1:=c o1.gt o2.gr o1.b o2.a;have d:=c o2.gt o1.gr o2.b o1.a;have e:=c o1.gr o1.gt o1.a o1.b;have f:=c o2.gr o2.gt o2.a o2.b;have i:=c o1.gr o2.gr o1.a o2.a;rw[Fe.2 h1.lt] at e;rw[Fe.2 h2.lt] at f;refine⟨c1,d,e,f,i,?_,QA (Gg hp) o1 (by omega) (C7 hp.ne).1,QA (Gg hq) o2 (by omega) (C7 hq.ne).1⟩;by_cases g:BS (B y.t) y.b (B x.r) x.a<=0
 ·rw[BP g];exact Asl _ y.r y.t _ _ _ x.r x.t _ _ _ (BP g) c1
 ·rw[Bw g];exact Asm _ y.r y.t _ _ _ x.r x.t _ _ _ _ (Bw g) c1 d
theorem Xx{i:Nat}(hi:i<=2000)(c:¬ BS (B y.t) y.b (B x.r) x.a<0)(d:¬ BS (B x.t) x.b (B y.r) y.a<0)(e:Z JA (bS (O p) (O q) 0 y x i) .norm (bS (O p) (O q) 0 y x i))(f:Z Pe (cS (O p) (O q) 0 y x i) .norm (cS (O p) (O q) 0 y x i)) :
  Z J1 (Ko (O p) (O q) 0 y x i) .norm (Ko (O p) (O q) 0 (Jb (O p) y) (Jb (O q) x) (i+1)):=by
 obtain⟨c1,g,h,j,_,_,l,m⟩:=Wl hp hq h1 h2 hm o1 o2;have n:Q X (i+1)=((i+1:Nat):Int):=wrz
 have k:=A7g 0 _ _ _ _ _ _ _ _ _ _ (i:Nat) _ _ (-1) (-1) _ _ _ _ _ _ _ _ _ _ rfl rfl (Bw c) (Bw d) c1 g h j e f l m;rw[n] at k;exact k
theorem dB{i:Nat}{z:Int}(c:¬ BS (B y.t) y.b (B x.r) x.a<0)(d:¬ BS (B x.t) x.b (B y.r) y.a<0)(h:Z JA (bS (O p) (O q) 0 y x i) .ret (bS (O p) (O q) z y x i)\/Z JA (bS (O p) (O q) 0 y x i) .norm (bS (O p) (O q) 0 y x i)/\Z Pe (cS (O p) (O q) 0 y x i) .ret (cS (O p) (O q) z y x i)) :
  Z J1 (Ko (O p) (O q) 0 y x i) .ret (Ko (O p) (O q) z y x i):=by
 obtain⟨c1,e,f,g,_⟩:=Wl hp hq h1 h2 hm o1 o2;rcases h with h | ⟨j,k⟩
 ·exact AEv 0 _ _ _ _ _ _ _ _ _ _ (i:Nat) _ _ _ (-1) (-1) rfl rfl (Bw c) (Bw d) c1 e f g h
 ·exact A7f 0 _ _ _ _ _ _ _ _ _ _ (i:Nat) _ _ _ (-1) (-1) rfl rfl (Bw c) (Bw d) c1 e f g j k
theorem dC{i:Nat}(hi:i<8)(c:¬ BS (B y.t) y.b (B x.r) x.a<0)(d:¬ BS (B x.t) x.b (B y.r) y.a<0):Z J1 (Ko (O p) (O q) 0 y x i) .norm (Ko (O p) (O q) 0 (Jb (O p) y) (Jb (O q) x) (i+1)) :=
 Xx hp hq h1 h2 hm o1 o2 (by omega) c d (wR _ _ _ _ _ _ _ _ _ _ _ _ (by rw[C3];omega)) (A7e _ _ _ _ _ _ _ _ _ _ _ _ (by rw[AW];omega))
end
theorem A8w{p q:G}{y x:Iv}(h1:One p y)(h2:One q x){z:Int}(hz:Ms p y q x z)(a:z=0)(n:Nat):¬ dl (stpN (O p) y n).hi' (stpN (O q) x n).lo'/\¬ dl (stpN (O q) x n).hi' (stpN (O p) y n).lo':=by
 constructor
 ·intro g;have:=hz.unique h1 h2 ((KX h1 h2 n n).1 (Wb (h1.halves n) g));omega
 ·intro g;have:=hz.unique h1 h2 ((KX h1 h2 n n).1 (QD (h2.halves n) g));omega
section
variable {rs:D} (hg:∀ r∈rs,BC 5 r) (hb:∀ i,I (H (Al rs) i 0)<=2^113)
include hg hb
theorem A8x(ll:l)(a i:Int)(ls:List D)(M j:Int){d:Nat}(hd:d<=F rs)(f:F rs<=8):Z (.loop cV) (QH false ll a i ls M j rs ((d:Nat)-1:Int) 0) xZ4 (QH false ll a i ls M j rs ((d:Nat)-1:Int) (d:Nat)):=by
 refine Et (prog:=DP) (c:=cV) (ex := .exit 4) (fun k=>QH false ll a i ls M j rs ((d:Nat)-1:Int) (k:Nat)) d (by nofun) ?_ ?_ 0 (A_ _)
 ·intro k g;have hx:=Cm hg k;have bits:=U4 (neg:=(H rs k z0).1) hx.1 (by have:=hx.2;omega);have hv:FY (I (B (H rs k z0)))<=114:=by
   have:=hb k;rw[Eh] at this;exact wU this
  have bits:T 102 [AB (H rs (Y k) z0)] (J X (FY (I (B (H rs k z0))))):=by rw[Aa];exact bits
  have e:Q X (k+1)=((k+1:Nat):Int):=wrz
  have b:=A8e false ll a i ls M j rs ((d:Nat)-1:Int) (k:Nat) _ (by rw[AW];omega) (by rw[AZ];omega) (by omega) bits;rw[e] at b;exact b
 ·exact A8f _ _ _ _ _ _ _ _ _ _ (by rw[AW];omega)
end
theorem Ahl{ll:l}(h:∀ ls∈ll,Few ls)(hn:F ll<=5):T 88 [P (F ll) (ER ll)] (W false):=by
 refine AFh ll (F ll) (by rw[AW];omega) ?_;refine Et (prog:=DP) (c:=qE) (ex := .exit 0) (fun i=>UN false ll (F ll) (i:Nat)) (F ll) (by nofun) ?_ ?_ 0 (A_ _)
 ·intro i hi;have b:=h _ (AP hi);have d:H ll (Y i) []=ll[i]:=by rw[Aa,Ad,Am hi];rfl
  have o:Q X (i+1)=((i+1:Nat):Int):=wrz
  have t:=b.len;have e:Z (.loop cW) (QI false ll (F ll) (i:Nat) ll[i] (F ll[i]:Int) 0) xZ2 (QI false ll (F ll) (i:Nat) ll[i] (F ll[i]:Int) (F ll[i]:Int)):=by
   refine Et (prog:=DP) (c:=cW) (ex := .exit 2) (fun j=>QI false ll (F ll) (i:Nat) ll[i] (F ll[i]:Int) (j:Nat)) (F ll[i]) (by nofun) ?_ ?_ 0 (A_ _)
   ·intro j hj;have hm:=AP hj;have f:=b.good _ hm;have p:=b.deg _ hm;have g:H ll[i] (Y j) []=ll[i][j]:=by rw[Aa,Ad,Am hj];rfl
    have q:Q X (j+1)=((j+1:Nat):Int):=wrz
    have k:=Su (rs:=ll[i][j]) (fun r hr=>(f r hr).mono (by decide)) (by omega);have m:=MR (Al ll[i][j]);have n:=Ct (Al ll[i][j]);rw[B1] at m n;rw[<- m] at k;have s:=A8x f (b.co _ hm) ll (F ll:Int) (i:Nat) ll[i] (F ll[i]:Int) (j:Nat) n p;have a:=A8g false ll (F ll) (i:Nat) ll[i] (F ll[i]:Int) (j:Nat) ((F (Af (Al ll[i][j])):Nat)-1:Int) _ (by rw[AW];omega) (by rw[AZ];omega) (by omega) (by rw[g];exact k) (by rw[g];exact s);rw[q] at a;exact a
   ·exact A8h _ _ _ _ _ _ _ (by rw[AW];omega)
  rw[<- d] at e;have a:=A8i false ll (F ll) (i:Nat) _ (by rw[d,AW];omega) (by rw[AZ];omega) (by omega) e;rw[o] at a;exact a
 ·exact A8j _ _ _ _ (by rw[AW];omega)
def cnN(z:Nu):Nu:=(z.1,⟨V (B z.2.r),z.2.a,V (B z.2.t),z.2.b⟩)
theorem Wm(z:Nu)(u:Dy):EF (cnN z) u↔EF z u:=by
 unfold EF sd cnN;simp only[AO]
theorem AFi{k:Nat}{z:Nu}(h:Nok k z)(f:k<=5600):Nok k (cnN z):=by
 obtain⟨a,b,c,d,e⟩:=h;have g:∀ {n:Int} {m:Nat},I n<=2^0*2^m->m<=5600->BC 300 (V n):=fun {n m} hn hm=>BB (C8 (k:=0+m) (by rw[Dw];exact hn) (by omega));refine⟨a,⟨?_,?_⟩,⟨?_,?_,?_,?_,c.a,c.b⟩,⟨g d.vr (by have:=d.a;omega),g d.vt (by have:=d.b;omega),d.a,d.b,?_,?_⟩,?_⟩ <;> unfold cnN <;> simp only[AO]
 ·exact b.lt
 ·exact b.v
 ·exact c.lt
 ·exact c.w
 ·exact c.lo
 ·exact c.hi
 ·exact d.vr
 ·exact d.vt
 ·unfold sd at e |-;simp only[AO];exact e
theorem Ahm{k:Nat}{z:Nu}(h:Nok k z):T 57 [NZ z] (NZ (cnN z)):=by
 have gr:=h.ok.gr;have gt:=h.ok.gt;have lf:=(C7 h.en.ne).1;have d:=(QE h.en).1;have f:=(QE h.en).2;have c:=L7 (rs:=(O z.1).map V) (fun r hr=>(Bx d r hr).mono (by decide)) (by rw[Ac];omega);rw[Bs,lf] at c;have c1:=cB z.2.r (z.2.a:Nat) _ (NR (neg:=z.2.r.1) gr.1 (by have:=gr.2;omega));have e:=cB z.2.t (z.2.b:Nat) _ (NR (neg:=z.2.t.1) gt.1 (by have:=gt.2;omega));exact Akx ((O z.1).map V) z.2.r z.2.t (z.2.a:Nat) (z.2.b:Nat) _ _ _ _ _ (FD c) c1 e
theorem Ahn:T 57 [Xw] Xw:=by
 have gr:BC 300 (V 0):=(Wk 0).gr;have a:=L7 (rs:=([0,1]:G).map V) (fun r hr=>(Bx Alg.1 r hr).mono (by decide)) (by decide);rw[Bs,show Af [0,1]=[0,1] by decide] at a;have c1:=cB (V 0) 0 _ (NR (neg:=(V 0).1) gr.1 (by have:=gr.2;omega));rw[show v (V 0).1 (V 0).2=0 from AO 0] at c1;exact Akx (([0,1]:G).map V) (V 0) (V 0) 0 0 _ _ _ _ _ (FD a) c1 c1
section
variable (hz:T 81 [A4 z0 0] Xw) {ll:l} (h:∀ ls∈ll,Few ls) (hn:F ll<=5)
include hz h hn
theorem Aho :
  ((∃ ls∈ll,Kp (Cf ls))/\T 38 [P (F ll) (ER ll)] (A3 [Xw,W true,J X 0])) \/
  ((∀ ls∈ll,¬ Kp (Cf ls))/\(∀ ls∈ll,∀ C,¬ RootS (Cf ls) C)/\T 38 [P (F ll) (ER ll)] (A3 [nuN,W false,J X 0])) \/
  ((∀ ls∈ll,¬ Kp (Cf ls))/\∃ k z,k<=4600/\Nok k z/\(∃ ls∈ll,RootS (Cf ls) (EF z))/\(∀ ls∈ll,∀ C,RootS (Cf ls) C->∀ u,C u->EF z u)/\T 38 [P (F ll) (ER ll)] (A3 [NZ z,W true,J X 0])):=by
 have g:=Ahl h hn;rcases Ahk hz h hn with ⟨a,b⟩ | ⟨a,b,c⟩ | ⟨a,k,z,l,o,b,c,d⟩
 ·exact .inl ⟨a,kL ll _ _ _ _ _ _ _ _ _ _ true rfl g b Ahn⟩
 ·exact .inr (.inl ⟨a,b,Aut ll _ _ _ _ _ false rfl g c⟩)
 ·refine .inr (.inr ⟨a,k,cnN z,l,AFi o (by omega),?_,fun ls i C m u f=>(Wm z u).2 (c ls i C m u f),kL ll _ _ _ _ _ _ _ _ _ _ true rfl g d (Ahm o)⟩);obtain⟨ls,i,r⟩:=b;refine⟨ls,i,r.nev,r.nw,?_,fun C' n u f=>(Wm z u).2 (r.least C' n u f)⟩;obtain⟨⟨p,hp,y,hy,q,e⟩,⟨t,s,v,j⟩⟩:=r.beg;exact⟨⟨p,hp,y,hy,q,fun u=>(Wm z u).trans (e u)⟩,⟨t,(Wm z t).2 s,v,fun p hp=>⟨fun u f=>(j p hp).1 u ((Wm z u).1 f),(j p hp).2⟩⟩⟩
end
def OKc(r:Rn):Prop:=FY (I (B r))<=110/\F r.2<=5
def OKp(rs:D):Prop:=F rs<=8/\∀ r∈rs,OKc r
def OKl(ls:List D):Prop:=F ls<=5/\∀ rs∈ls,OKp rs
theorem PK{α:Type}{l:List α}{d:α}{i:Nat}(h:i<F l):H l (Y i) d=l[i]:=by
 rw[Aa,Ad,Am h];rfl
theorem UP{i:Nat}(h:i<100000000000000):Q X (i+1)=((i+1:Nat):Int):=by rw [wqz];omega
section
variable {ll:l} {i:Nat} (hi:i<F ll)
include hi
theorem AJf{j:Nat}(hj:j<F ll[i])(u:∀ r∈ll[i][j],BC 35184372088832 r)(z:F ll[i][j]<=8):∀ m k:Nat,k+m=F ll[i][j] ->
  ((∀ r∈ll[i][j].drop k,OKc r)/\Z (.loop S8) (JC false ll (i:Nat) (j:Nat) (k:Nat)) xZ4 (JC false ll (i:Nat) (j:Nat) (F ll[i][j]))) \/
  ∃ l:Int,Z (.loop S8) (JC false ll (i:Nat) (j:Nat) (k:Nat)) .ret (JC false ll (i:Nat) (j:Nat) l):=by
 have c:=PK (d:=[]) hi;have f:=PK (d:=[]) hj;have g:0<=(i:Int)/\(i:Int)<(F ll:Int):=by omega
 have h:0<=(j:Int)/\(j:Int)<(F (H ll (Y i) []):Int):=by rw[c];omega
 have n:F (H (H ll (Y i) []) (Y j) [])=F ll[i][j]:=by rw[c,f]
 intro m;induction m with
 | zero =>
  intro k v;have e:k=F ll[i][j]:=by omega
  subst e;rw[DD];exact .inl ⟨fun r hr=>(by cases hr),Aq (A8n _ _ _ _ _ (by rw[n,AW];omega) g h)⟩
 | succ m w =>
  intro k v;have o:k<F ll[i][j]:=by omega
  have p:=PK (d:=z0) o;have q:0<=(k:Int)/\(k:Int)<(F (H (H ll (Y i) []) (Y j) []):Int):=by rw[n];omega
  have c1:decide ((k:Int)<(F (H (H ll (Y i) []) (Y j) []):Int))=true:=by rw[n,AZ];omega
  have t:=u _ (AP o);have bits:=bZ (neg:=(ll[i][j][k]).1) t.1 (by have:=t.2;omega);have bits:T 51 [AB (H (H (H ll (Y i) []) (Y j) []) (Y k) z0)] (J X (FY (I (B ll[i][j][k])))):=by rw[c,f,p];exact bits
  by_cases x:FY (I (B ll[i][j][k]))<=110
  ·by_cases y:F (ll[i][j][k]).2<=5
   ·have s:=A8m false ll (i:Nat) (j:Nat) (k:Nat) _ c1 (by rw[AW];omega) (by rw[c,f,p,AW];omega) g h q bits;rw[UP (by omega)] at s;rcases w (k+1) (by omega) with ⟨a,b⟩ | ⟨l,b⟩
    ·refine .inl ⟨fun r hr => ?_,Bk s b⟩;rw[BL o] at hr;rcases BW.1 hr with rfl | hr
     ·exact⟨x,y⟩
     ·exact a r hr
    ·exact .inr ⟨l,Bk s b⟩
   ·exact .inr ⟨_,Aq (A8l false ll (i:Nat) (j:Nat) (k:Nat) _ c1 (by rw[AW];omega) (by rw[c,f,p,AZ];omega) g h q bits)⟩
  ·exact .inr ⟨_,Aq (A8k false ll (i:Nat) (j:Nat) (k:Nat) _ c1 (by rw[AZ];omega) g h q bits)⟩
theorem AJg(t:∀ rs∈ll[i],∀ r∈rs,BC 35184372088832 r)(x:F ll[i]<=5):∀ m j:Nat,j+m=F ll[i] ->
  ((∀ rs∈ll[i].drop j,OKp rs)/\Z (.loop S9) (JD false ll (i:Nat) (j:Nat)) xZ2 (JD false ll (i:Nat) (F ll[i]))) \/
  ∃ o:Int,Z (.loop S9) (JD false ll (i:Nat) (j:Nat)) .ret (JD false ll (i:Nat) o):=by
 have c:=PK (d:=[]) hi;have f:0<=(i:Int)/\(i:Int)<(F ll:Int):=by omega
 intro m;induction m with
 | zero =>
  intro j hj;have e:j=F ll[i]:=by omega
  subst e;rw[DD];exact .inl ⟨fun r hr=>(by cases hr),Aq (A8q _ _ _ _ (by rw[c,AW];omega) f)⟩
 | succ m u =>
  intro j hj;have g:j<F ll[i]:=by omega
  have p:=PK (d:=[]) g;have k:0<=(j:Int)/\(j:Int)<(F (H ll (Y i) []):Int):=by rw[c];omega
  have c1:decide ((j:Int)<(F (H ll (Y i) []):Int))=true:=by rw[c,AZ];omega
  by_cases q:F ll[i][j]<=8
  ·have s:decide ((F (H (H ll (Y i) []) (Y j) []):Int)>8)=false:=by rw[c,p,AW];omega
   rcases AJf hi g (t _ (AP g)) q (F ll[i][j]) 0 (by omega) with ⟨a,b⟩ | ⟨o,b⟩
   ·have l:=A8p false ll (i:Nat) (j:Nat) _ c1 s f k b;rw[UP (by omega)] at l;rcases u (j+1) (by omega) with ⟨v,n⟩ | ⟨w,n⟩
    ·refine .inl ⟨fun rs h => ?_,Bk l n⟩;rw[BL g] at h;rcases BW.1 h with rfl | h
     ·exact⟨q,by rw[DA] at a;exact a⟩
     ·exact v rs h
    ·exact .inr ⟨w,Bk l n⟩
   ·exact .inr ⟨_,Aq (Auu false ll (i:Nat) (j:Nat) _ c1 s f k b)⟩
  ·exact .inr ⟨_,Aq (A8o false ll (i:Nat) (j:Nat) c1 (by rw[c,p,AZ];omega) f k)⟩
end
theorem AJh{ll:l}(q:∀ ls∈ll,∀ rs∈ls,∀ r∈rs,BC 35184372088832 r)(v:F ll<=5):∀ m i:Nat,i+m=F ll ->
  ((∀ ls∈ll.drop i,OKl ls)/\Z (.loop SA) (JE false ll (i:Nat)) xZ0 (JE false ll (F ll))) \/
  ∃ k:Int,Z (.loop SA) (JE false ll (i:Nat)) .ret (JE false ll k):=by
 intro m;induction m with
 | zero =>
  intro i hi;have e:i=F ll:=by omega
  subst e;rw[DD];exact .inl ⟨fun r hr=>(by cases hr),Aq (A8t _ _ _ (by rw[AW];omega))⟩
 | succ m s =>
  intro i hi;have c:i<F ll:=by omega
  have n:=PK (d:=[]) c;have g:0<=(i:Int)/\(i:Int)<(F ll:Int):=by omega
  have c1:decide ((i:Int)<(F ll:Int))=true:=by rw[AZ];omega
  by_cases o:F ll[i]<=5
  ·have p:decide ((F (H ll (Y i) []):Int)>5)=false:=by rw[n,AW];omega
   rcases AJg c (q _ (AP c)) o (F ll[i]) 0 (by omega) with ⟨a,b⟩ | ⟨k,b⟩
   ·have h:=A8s false ll (i:Nat) _ c1 p g b;rw[UP (by omega)] at h;rcases s (i+1) (by omega) with ⟨t,j⟩ | ⟨u,j⟩
    ·refine .inl ⟨fun ls f => ?_,Bk h j⟩;rw[BL c] at f;rcases BW.1 f with rfl | f
     ·exact⟨o,by rw[DA] at a;exact a⟩
     ·exact t ls f
    ·exact .inr ⟨u,Bk h j⟩
   ·exact .inr ⟨_,Aq (Auv false ll (i:Nat) _ c1 p g b)⟩
  ·exact .inr ⟨_,Aq (A8r false ll (i:Nat) c1 (by rw[n,AZ];omega) g)⟩
theorem Avk{ll:l}(f:∀ ls∈ll,∀ rs∈ls,∀ r∈rs,BC 35184372088832 r):∃ b,T 37 [P (F ll) (ER ll)] (W b)/\(b=true->F ll<=5/\∀ ls∈ll,OKl ls):=by
 by_cases c:F ll<=5
 ·have d:decide ((F ll:Int)>5)=false:=by rw[AW];omega
  rcases AJh f c (F ll) 0 (by omega) with ⟨a,b⟩ | ⟨g,b⟩
  ·exact⟨true,Aux ll _ d b,fun _=>⟨c,by rw[DA] at a;exact a⟩⟩
  ·exact⟨false,Ahd ll _ d b,fun e=>by cases e⟩
 ·exact⟨false,Auw ll (by rw[AZ];omega),fun e=>by cases e⟩
theorem AFj{ls:List D}(c:∀ rs∈ls,∀ r∈rs,BC 35184372088832 r)(h:OKl ls):Few ls/\∀ rs∈ls,∀ i,I (H (Al rs) i 0)<=2^110:=by
 have b:∀ rs∈ls,∀ i,I (H (Al rs) i 0)<=2^110:=by
  intro rs a i;by_cases hi:i<F rs
  ·have e:H (Al rs) i 0=B (rs[i]):=by
    rw[Ad,Al,CC,Am hi];rfl
   rw[e];have hb:=((h.2 rs a).2 _ (AP hi)).1;unfold FY at hb;split at hb
   next g=>rw[g];exact A_ _
   next g=>exact Abm ((TD g).1 (by omega))
  ·rw[Cp (by rw[B1];omega)];exact A_ _
 exact⟨⟨h.1,fun rs a r hr=>⟨(c rs a r hr).1,((h.2 rs a).2 r hr).2⟩,fun rs a=>(h.2 rs a).1,fun rs a i=>B6 (b rs a i) (B_ (by decide) (by decide))⟩,b⟩
theorem az0:T 81 [Ao [W false,P 0 [],J X 0]] (Ao [P 2 [W false,P 0 [],W false,P 1 [J U 1]],W false,P 0 [],J X 0,W false,P 0 [],J X 0]):=Cy (c _) 400 _ _ _ (by kernel_rfl)
theorem AFk:Xw=(Ao [P 2 [W false,P 0 [],W false,P 1 [J U 1]],W false,P 0 [],J X 0,W false,P 0 [],J X 0]):=by rfl
theorem A8y:T 81 [A4 z0 0] Xw:=by rw [AFk];exact az0
theorem LC{n:Int}:0<B4 n↔0<n:=by unfold B4; (repeat' split) <;> omega
theorem Avl{n:Int}:B4 n<0↔n<0:=by unfold B4; (repeat' split) <;> omega
theorem Jg{n:Int}:B4 n=0↔n=0:=by unfold B4; (repeat' split) <;> omega
theorem N_{a b:Int}(h:0<a*b)(c:0<a):0<b:=by
 apply A6;intro g;have:=A8 (A9 c) (show 0 <= -b by omega);have e:a * -b = -(a*b):=F8 ..;omega
theorem Alh{a x q:Int}(b:0<=a)(hx:0<=x)(d:x<=q):∀ ts:G,(∀ c∈ts,-a<=c/\c<=a) -> -(a*(F ts:Int)*q^F ts)<=hv ts x q*q/\hv ts x q*q<=a*(F ts:Int)*q^F ts
 | [],_=>by simp[hv]
 | t::ts,h=>by
  obtain⟨h1,h2⟩:=Alh b hx d ts fun x hx=>h x (Bg _ hx);obtain⟨g,i⟩:=h t Ba;have hp:0<=q^F ts:=Og (by omega);have e:hv (t::ts) x q=t*q^F ts+x*hv ts x q:=rfl;rw[e,BM,AD];have f:((F ts+1:Nat):Int)=(F ts:Int)+1:=by omega
  rw[f];have hn:(0:Int)<=(F ts:Int):=by omega
  generalize (F ts:Int)=n at *
  generalize q^F ts=A at *
  generalize hv ts x q=v at *
  have m1:=A8 (A8 (show 0<=t+a by omega) hp) (show 0<=q by omega);have j:=A8 (A8 (show 0<=a-t by omega) hp) (show 0<=q by omega);have k:=A8 (A8 (A8 b hn) hp) (show 0<=q-x by omega);have l:=Ax h1 hx;have m:=Ax h2 hx;constructor <;> grind
theorem Yz:∀ ts:G,∃ a:Int,0<=a/\∀ x∈ts,-a<=x/\x<=a
 | []=>⟨0,by omega,fun x hx=>by cases hx⟩
 | t::ts=>by
  obtain⟨a,h1,h2⟩:=Yz ts;refine⟨a+I t,by omega,fun x hx => ?_⟩;cases hx with
  | head=>omega
  | tail _ hx=>have:=h2 x hx;omega
theorem dF{S x q:Int}(f:0<=S)(hx:0<x){L:Nat}(i:(S*(L:Int)+1)*x<=q):∀ p:G,(∀ c∈p,-S<=c/\c<=S)->F p<=L->Jf p ≠ 0->B4 (hv p x q)=Jf p
 | [],_,_,h=>absurd rfl h
 | t::ts,hp,hl,h=>by
  have m:0<=S*(L:Int):=A8 f (show (0:Int)<=(L:Int) by omega);have j:hv (t::ts) x q=t*q^F ts+x*hv ts x q:=rfl;rw[BM] at hl;by_cases c:B4 t=0
  ·have e:Jf (t::ts)=Jf ts:=by simp only[Jf];rw[Ar c]
   rw[e] at h |-;rw[j,Jg.1 c,Cs,E7,OI hx];exact dF f hx i ts (fun c hc=>hp c (Bg _ hc)) (by omega) h
  ·have e:Jf (t::ts)=B4 t:=by simp only[Jf];rw[Aw c]
   rw[e,j];have n:x<=q:=by
    have:=A8 m (A9 hx);have:(S*(L:Int)+1)*x=S*(L:Int)*x+x:=by grind
    omega
   obtain⟨o,r⟩:=Alh f (A9 hx) n ts fun c hc=>hp c (Bg _ hc);have d:0<q^F ts:=FP (by omega);have k:S*(F ts:Int)<=S*(L:Int):=Ax (by omega) f;have k:=Ap k (A9 d);generalize q^F ts=A at *
   generalize hv ts x q=v at *
   generalize S*(F ts:Int)*A=b at *
   generalize S*(L:Int)=K at *
   have m1:=Ap i (A9 d);have s:=Br hx d;have u:=Ax (show v*q<=K*A by omega) (A9 hx);have w:=Ax (show -(K*A)<=v*q by omega) (A9 hx);have l : -A*q<x*v*q/\x*v*q<A*q:=by constructor <;> grind
   have y : -A<x*v:=CY (a:=q) l.1 (by omega);have z:x*v<A:=CY (a:=q) l.2 (by omega);rcases G8 t 0 with g | g | g
   ·have:=A8 (show 0 <= -1-t by omega) (A9 d);have:(-1-t)*A = -A-t*A:=by grind
    rw[show B4 t = -1 by unfold B4;rw[Ar g]];unfold B4;rw[Ar (by omega)]
   ·exact absurd (Jg.2 g) c
   ·have:=A8 (show 0<=t-1 by omega) (A9 d);have:(t-1)*A=t*A-A:=by grind
    rw[show B4 t=1 by unfold B4;rw[Aw (by omega),Ar g]];unfold B4;rw[Aw (by omega),Ar (by omega)]
theorem dH(p:G)(h:Jf p ≠ 0):∃ a:Int,1<=a/\∀ q,a<=q->B4 (hv p 1 q)=Jf p:=by
 obtain⟨b,c,d⟩:=Yz p;have e:0<=b*(F p:Int):=A8 c (show (0:Int)<=(F p:Int) by omega);exact⟨b*(F p:Int)+1,by omega,fun q f=>dF c (by decide) (by omega) p d (A2 _) h⟩
theorem Zf:∀ p:G,Jf p = -1\/Jf p=0\/Jf p=1
 | [] => .inr (.inl rfl)
 | t::ts=>by
  simp only[Jf];split
  ·exact Zf ts
  ·unfold B4; (repeat' split) <;> simp
theorem kR:∀ p:G,Jf p=0->∀ x q,hv p x q=0
 | [],_,_,_=>rfl
 | t::ts,h,x,q=>by
  simp only[Jf] at h;by_cases c:B4 t=0
  ·rw[Ar c] at h;have:hv (t::ts) x q=t*q^F ts+x*hv ts x q:=rfl;rw[this,kR ts h,Jg.1 c];simp
  ·rw[Aw c] at h;exact absurd h c
def fwt(n i:Nat):Int:=r i*r (n-i)
theorem A8z:∀ n,n<=8->∀ i,i<=n->fwt n i*bin n i=r n:=by decide +kernel
theorem A9a:∀ i,i<=8->∀ k,k<=i->cX i k=bin i k:=by decide +kernel
def xP(p:G)(i:Nat):Int:=b (fwt (F p-1)) p 0 i
theorem Wn{p:G}(h0:p ≠ [])(hl:F p<=9)(u v:Int):bv u v (F p-1) (xP p)=r (F p-1)*hv p u (u+v):=by
 have hp:=Av.2 h0;have h:=oD u v (r (F p-1)) (fwt (F p-1)) (F p-1) (A8z _ (by omega)) p 0 (by omega);simp only[DC,D0] at h;exact h
theorem dI:∀ n,n<=8->0<r n:=by decide
theorem dJ(a:Nat->Int)(t:Int):∀ (ts:G) (i j:Nat),b a (ts++[t]) i j=b a ts i j+bin j (i+F ts)*a (i+F ts)*t
 | [],i,j=>by simp[b]
 | x::ts,i,j=>by
  have e:b a (x::ts++[t]) i j=bin j i*a i*x+b a (ts++[t]) (i+1) j:=rfl;have c:b a (x::ts) i j=bin j i*a i*x+b a ts (i+1) j:=rfl;rw[e,c,dJ a t ts (i+1) j,BM,show i+1+F ts=i+(F ts+1) by omega];omega
theorem Xy(a:Nat->Int):∀ (ts:G) (i j:Nat),j<i->b a ts i j=0
 | [],_,_,_=>rfl
 | x::ts,i,j,h=>by
  have e:b a (x::ts) i j=bin j i*a i*x+b a ts (i+1) j:=rfl;rw[e,Xy a ts (i+1) j (by omega),P6 h];simp
theorem dK(a:Nat->Int):∀ (ts us:G) (i j:Nat),b a (ts++us) i j=b a ts i j+b a us (i+F ts) j
 | [],us,i,j=>by simp[b]
 | x::ts,us,i,j=>by
  have e:b a (x::ts++us) i j=bin j i*a i*x+b a (ts++us) (i+1) j:=rfl;have c:b a (x::ts) i j=bin j i*a i*x+b a ts (i+1) j:=rfl;rw[e,c,dK a ts us (i+1) j,BM,show i+1+F ts=i+(F ts+1) by omega];omega
theorem Xz{p:G}(hl:F p<=9){i:Nat}(hi:i<F p):Is p (F p-1) i (i+1)=xP p i:=by
 have c:∀ k,k<=i+1->Is p (F p-1) i k=b (fwt (F p-1)) (p.take k) 0 i:=by
  intro k;induction k with
  | zero=>intro _;simp[Is,b]
  | succ k d =>
   intro f;have a:k<F p:=by omega
   have e:p.take (k+1)=p.take k++[p[k]]:=by rw[W_,Am a];rfl
   rw[e,dJ,<- d (by omega)];simp only[Is];rw[AX,Kh (by omega),Cv];unfold Xu fwt;rw[A9a i (by omega) k (by omega),Ad,Am a];simp only[H3];grind
 rw[c (i+1) (A2 _)];have h2:=dK (fwt (F p-1)) (p.take (i+1)) (p.drop (i+1)) 0 i;rw[Ft,Xy _ (p.drop (i+1)) _ i (by rw[AX,Kh (by omega)];omega)] at h2;unfold xP;rw[h2];omega
theorem dL(p:G)(n:Nat):∀ k,((PH p n k).1=true↔∀ i,i<k->Is p n i (i+1)<=0)/\((PH p n k).2=true↔∀ i,i<k->0<=Is p n i (i+1))
 | 0=>by simp[PH]
 | k+1=>by
  obtain⟨a,b⟩:=dL p n k;have d:∀ {P:Nat->Prop},(∀ i,i<k+1->P i)↔(∀ i,i<k->P i)/\P k:=fun {P}=>⟨fun h=>⟨fun i hi=>h i (by omega),h k (by omega)⟩,fun ⟨h1,h2⟩ i hi=>by
   by_cases c:i<k
   ·exact h1 i c
   ·rw[show i=k by omega];exact h2⟩
  have e:PH p n (k+1)=if B4 (Is p n k (k+1))=1 then (false,(PH p n k).2) else if B4 (Is p n k (k+1)) = -1 then ((PH p n k).1,false) else PH p n k:=rfl;rw[d,d,<- a,<- b,e];generalize Is p n k (k+1)=v;have f:B4 v=1↔0<v:=by unfold B4; (repeat' split) <;> omega
  have g:B4 v = -1↔v<0:=by unfold B4; (repeat' split) <;> omega
  by_cases c1:0<v
  ·rw[Ar (f.2 c1)];exact⟨⟨fun h=>(by cases h),fun h=>by omega⟩,⟨fun h=>⟨h,by omega⟩,fun h=>h.1⟩⟩
  ·rw[Aw (fun h=>c1 (f.1 h))];by_cases j:v<0
   ·rw[Ar (g.2 j)];exact⟨⟨fun h=>⟨h,by omega⟩,fun h=>h.1⟩,⟨fun h=>(by cases h),fun h=>by omega⟩⟩
   ·rw[Aw (fun h=>j (g.1 h))];exact⟨⟨fun h=>⟨h,by omega⟩,fun h=>h.1⟩,⟨fun h=>⟨h,by omega⟩,fun h=>h.1⟩⟩
section
variable {p:G} (h0:p ≠ []) (hl:F p<=9)
include h0 hl
theorem xQ:JR p=true↔∀ i,i<=F p-1->xP p i<=0:=by
 have hp:=Av.2 h0;unfold JR;rw[(dL p _ _).1];constructor
 ·intro h i hi;rw[<- Xz hl (by omega)];exact h i (by omega)
 ·intro h i hi;rw[Xz hl hi];exact h i (by omega)
theorem A9b(h:MJ p=true):(∀ i,i<=F p-1->0<=xP p i)/\∃ i,i<=F p-1/\0<xP p i:=by
 have hp:=Av.2 h0;unfold MJ at h;rw[At,(dL p _ _).2,Fh] at h;obtain⟨h1,h2⟩:=h;refine⟨fun i hi=>by rw[<- Xz hl (by omega)];exact h1 i (by omega),?_⟩;apply A6;intro hn;have:JR p=true:=(xQ h0 hl).2 fun i hi=>by
  apply A6;intro g;exact hn ⟨i,hi,by omega⟩
 rw[this] at h2;cases h2
theorem A9c(h:JR p=true){x q:Int}(hx:0<=x)(a:x<=q):hv p x q<=0:=by
 have hp:=Av.2 h0;have h1:=aR hx (show 0<=q-x by omega) ((xQ h0 hl).1 h);rw[Wn h0 hl,show x+(q-x)=q by omega] at h1;have:=dI (F p-1) (by omega);apply A6;intro g;have:=Br this (show 0<hv p x q by omega);omega
theorem xR(h:MJ p=true){x q:Int}(hx:0<x)(c:x<q):0<hv p x q:=by
 have hp:=Av.2 h0;obtain⟨a,b⟩:=A9b h0 hl h;have h1:=YQ hx (show 0<q-x by omega) a b;rw[Wn h0 hl,show x+(q-x)=q by omega] at h1;exact N_ h1 (dI (F p-1) (by omega))
theorem Avm(h:0<hv p 1 1):∃ a:Int,1<=a/\∀ u,a<=u->0<hv p u (u+1):=by
 have hp:=Av.2 h0;have b:=dI (F p-1) (by omega);have e:=Wn h0 hl 1 0;rw[uF,Int.one_pow,D0,show (1:Int)+0=1 by rfl] at e;obtain⟨a,c,d⟩:=Se (F p-1) (fun i=>xP p (F p-1-i)) 0 (A_ _) (fun i hi=>by omega) (by
  show 0<xP p (F p-1-0);rw[Lb,e];exact Br b h)
 refine⟨a,c,fun u f => ?_⟩;have k:=d u f;rw[<- YR,Wn h0 hl] at k;exact N_ k b
end
def TE(ts:List (G)):Prop:=∃ t:Dy,dl (0,0) t/\dl t (1,0)/\∀ p∈ts,0<Dl p t.1 t.2
theorem T1(a:Int):∃ b:Nat,∀ m,b<=m->a<=2^m:=by
 refine⟨a.toNat,fun m c => ?_⟩;have h1:m<2^m:=Nat.lt_two_pow_self;have h2:((2^m:Nat):Int)=(2:Int)^m:=by norm_cast
 omega
theorem T2{α:Type}{P:α->Nat->Prop}:∀ l:List α,(∀ x∈l,∃ b,∀ m,b<=m->P x m)->∃ b,∀ m,b<=m->∀ x∈l,P x m
 | [],_=>⟨0,fun _ _ x hx=>by cases hx⟩
 | a::l,h=>by
  obtain⟨m1,h1⟩:=T2 l fun x hx=>h x (Bg _ hx);obtain⟨c,h2⟩:=h a Ba;refine⟨m1+c,fun m d x hx => ?_⟩;cases hx with
  | head=>exact h2 m (by omega)
  | tail _ hx=>exact h1 m (by omega) x hx
theorem JS{p:G}{x:Int}{a:Nat}:0<Dl p x a↔0<hv p x (2^a):=LC
theorem A9d{ts:List (G)}(h:∀ p∈ts,F p<=9/\p ≠ []/\(Jf p=1\/MJ p=true)):TE ts:=by
 obtain⟨b,h1⟩:=T2 (P:=fun p m=>1<=m->0<hv p 1 (2^m)) ts (fun p hp=>by
  obtain⟨hl,h0,h | h⟩:=h p hp
  ·obtain⟨a,_,h2⟩:=dH p (by omega);obtain⟨b,c⟩:=T1 a;exact⟨b,fun m d _=>by have:=h2 _ (c m d);rw[h] at this;exact LC.1 (by omega)⟩
  ·exact⟨0,fun m _ h1=>xR h0 hl h (by decide) (by
    obtain⟨j,rfl⟩:∃ j,m=j+1:=⟨m-1,by omega⟩;have:=Bz j;rw[AD];omega)⟩)
 refine⟨(1,b+1),?_,?_,fun p hp=>JS.2 (h1 _ (by omega) p hp (by omega))⟩
 ·show (0:Int)*_<=1*2^0;simp
 ·show (1:Int)*2^0<=1*2^(b+1);have:=Bz (b+1);simp;omega
theorem kS{P:Nat->Prop}:∀ n,(∃ i,i<n/\P i)->∃ j,j<n/\P j/\∀ i,j<i->i<n->¬ P i
 | 0,⟨i,h,_⟩=>by omega
 | n+1,⟨i,hi,hp⟩=>by
  by_cases c:P n
  ·exact⟨n,by omega,c,fun i h1 h2=>by omega⟩
  ·have:i ≠ n:=fun e=>c (e ▸ hp);obtain⟨j,h1,h2,a⟩:=kS n ⟨i,by omega,hp⟩;refine⟨j,by omega,h2,fun k b d => ?_⟩;by_cases e:k=n
   ·rw[e];exact c
   ·exact a k b (by omega)
theorem UQ{P:Nat->Prop}:∀ n,(∃ i,i<n/\P i)->∃ j,j<n/\P j/\∀ i,i<j->¬ P i
 | 0,⟨i,h,_⟩=>by omega
 | n+1,⟨i,hi,hp⟩=>by
  by_cases c:∃ i,i<n/\P i
  ·obtain⟨j,h1,h2,a⟩:=UQ n c;exact⟨j,by omega,h2,a⟩
  ·have:i=n:=by
    apply A6;intro g;exact c ⟨i,by omega,hp⟩
   exact⟨i,hi,hp,fun k b g=>c ⟨k,by omega,g⟩⟩
section
variable {ps:List (G)} (hps:∀ p∈ps,Enp p/\Cw p) {M:List Nu} (h:Srt ps M)
include hps h
theorem Srt.find{t:Dy}(h0:¬ dl t (0,0))(h1:¬ dl (1,0) t)(n:∀ p∈ps,0<Dl p t.1 t.2)(hn:∃ p∈ps,Jf p ≠ 1):∃ f,Beg ps f/\∀ C',Beg ps C'->∀ u,C' u->f u:=by
 obtain⟨p,hp,hb⟩:=hn;have J:=JS.1 (n p hp);have K:Jf p = -1:=by
  rcases Zf p with g | g | g
  ·exact g
  ·rw[kR p g] at J;omega
  ·exact absurd g hb
 obtain⟨l,_,L⟩:=dH p (by omega);obtain⟨d,N⟩:=T1 l;have hs:=L _ (N (d+t.2) (by omega));rw[K] at hs;have tx:1<=t.1:=by
  have:¬ t.1*2^0<=0*2^t.2:=h0;simp at this;omega
 have v:dl (0,0) (1,d+t.2):=by
  show (0:Int)*_<=1*2^0;simp
 have x:dl (1,d+t.2) t:=by
  show (1:Int)*2^t.2<=t.1*2^(d+t.2);rw[Cc];have a:=Bz d;have b:=Bz t.2;have c:=Br a b;have:=A8 (show 0<=t.1-1 by omega) (A9 c);have:=A8 (show 0<=(2:Int)^d-1 by omega) (A9 b);grind
 obtain⟨O,Q⟩:=hps p hp;have R:p ≠ []:=fun e=>O.ne (by rw[e];rfl);have a6:Dl p 1 (d+t.2) = -1:=hs;have S:VD p t<VD p (1,d+t.2):=by
  have a:=F4 p x;apply A6;intro g;have e:=PI Q R x (by omega) (by show Dl p 1 (d+t.2) ≠ 0;omega) (by have:=n p hp;omega);have e:Dl p 1 (d+t.2)=Dl p t.1 t.2:=e;have:=n p hp;omega
 have below:∀ q∈ps,∀ u,dl (0,0) u->dl u t->VD q t<VD q u->∃ i,∃ hi:i<F M,¬ EF M[i] u/\EF M[i] t:=by
  intro q m u T U V;obtain⟨y,hy,C,A⟩:=Pg (hps q m).1 T U (le_of_lt h1) V;obtain⟨z,hz,W⟩:=h.cov q m y hy (QM (z:=(q,y)) (by
   unfold DT KW at hy;split at hy
   ·cases hy
   ·exact Jr 744 Ir Hq.lt (Jq (hps q m).1 744 0 Ir rfl Hq) y hy) A h1)
  obtain⟨i,hi,rfl⟩:=DK hz;rw[W] at C A;exact⟨i,hi,C,A⟩
 obtain⟨X,D,_,Y⟩:=below p hp _ v x S;obtain⟨j,hj,⟨_,Z⟩,a1⟩:=kS (P:=fun i=>∃ hi:i<F M,EF M[i] t) (F M) ⟨X,D,D,Y⟩;have a2:Beg ps (EF M[j]):=by
  refine⟨h.src _ (AP hj),t,Z,h1,fun q m=>⟨fun u s g => ?_,n q m⟩⟩;apply A6;intro a7;have a:=F4 q g;have E:=T0 (h.one hj) s;have v:dl (0,0) u:=by
   obtain⟨k,_,o⟩:=h.ok _ (AP hj);have a:dl (0,0) M[j].2.lo':=by
    show (0:Int)*2^M[j].2.a<=B M[j].2.r*2^0;have:=o.w.lo;omega
   exact CV a (le_of_lt E)
  obtain⟨i,hi,G,i2⟩:=below q m u v g (by omega);rcases Mv i j with c | c | c
  ·exact G (Hp (h.one hi) (QL (h.one hi)) (CV (le_of_lt (h.lt c hj)) (le_of_lt E)))
  ·subst c;exact G s
  ·exact a1 i c hi ⟨hi,i2⟩
 obtain⟨j1,H,_,a3⟩:=h.pos hps a2;obtain⟨k,I,⟨_,a4⟩,a5⟩:=UQ (P:=fun i=>∃ _:i<F M,∀ p∈ps,0<Dl p (H8 M i).1 (H8 M i).2) (F M) ⟨j1,H,H,a3⟩;exact⟨_,h.beg hps I a4,fun C' hC u s=>h.least hps I (fun i hi g=>a5 i hi ⟨by omega,g⟩) hC s⟩
end
theorem Ahp{z:Nu}{k:Nat}(h:Nok k z){u:Dy}(g:EF z u):¬ dl u (0,0):=fun e=>by
 have h1:=T0 h.one g;apply h1;have a:dl (0,0) z.2.lo':=by
  show (0:Int)*2^z.2.a<=B z.2.r*2^0;have:=h.w.lo;omega
 exact CV e a
theorem xS{p:G}{q:Int}(a:0<q)(h:hv p 0 q ≠ 0):B4 (hv p 0 q)=Jf p:=by
 cases p with
 | nil=>exact absurd rfl h
 | cons t ts =>
  have e:hv (t::ts) 0 q=q^F ts*t:=by
   have:hv (t::ts) 0 q=t*q^F ts+0*hv ts 0 q:=rfl;rw[this,Cs,Cx,AT]
  rw[e] at h |-;rw[OI (FP a)];simp only[Jf];rw[Aw fun c=>h (by rw[Jg.1 c,Be])]
theorem A9e{p:G}{q:Int}(a:0<q)(h:0<hv p 0 q):Jf p=1:=by
 rw[<- xS a (by omega)];have:=LC.2 h;unfold B4 at *
 (repeat' split) <;> simp_all
section
variable {ls:List D} (h:Few ls)
include h
theorem Few.in_of(hn:∀ t∈Cf ls,JR t=false):(Oi (Cf ls)=true->TE (Cf ls))/\∀ {t:Dy},¬ dl t (0,0)->¬ dl (1,0) t->(∀ p∈FU (Cf ls),0<Dl p t.1 t.2)->TE (Cf ls):=by
 have ne:∀ p∈Cf ls,p ≠ []:=fun p hp e=>by have:=hn p hp;rw[e] at this;cases this
 constructor
 ·intro f;refine A9d fun p hp=>⟨by have:=(h.ts hp).2.1;omega,ne p hp,?_⟩;cases a:MJ p with
  | true=>exact .inr rfl
  | false =>
   have:p∈FU (Cf ls):=DR.2 ⟨hp,by rw[a];rfl⟩;have:=of_decide_eq_true (CG.1 f p this);rcases Zf p with g | g | g
   ·omega
   ·omega
   ·exact .inl g
 ·intro t c d hp;have q:=Bz t.2;have i:0<t.1:=by
   have:¬ t.1*2^0<=0*2^t.2:=c;simp at this;omega
  have j:t.1<2^t.2:=by
   have:¬ 1*2^t.2<=t.1*2^0:=d;simp at this;omega
  refine⟨t,le_of_lt c,le_of_lt d,fun p b => ?_⟩;cases a:MJ p with
  | true=>exact JS.2 (xR (ne p b) (by have:=(h.ts b).2.1;omega) a i j)
  | false=>exact hp p (DR.2 ⟨b,by rw[a];rfl⟩)
theorem Few.sem:(Kp (Cf ls)\/∃ c,RootS (Cf ls) c)↔TE (Cf ls):=by
 constructor
 ·rintro (z | ⟨c,r⟩)
  ·exact (h.in_of z.1).1 z.2
  ·obtain⟨⟨p,hp,y,hy,v,e⟩,t,l,w,x⟩:=r.beg;obtain⟨k,_,o⟩:=cT (h.open hp (r.nev p (DR.1 hp).1)).1 y hy v;exact (h.in_of r.nev).2 (Ahp o ((e t).1 l)) w fun p hp=>(x p hp).2
 ·rintro⟨t,A,l,i⟩;have q:=Bz t.2;have B:0<=t.1:=by
   have:0*2^t.2<=t.1*2^0:=A;simp at this;omega
  have C:t.1<=2^t.2:=by
   have:t.1*2^0<=1*2^t.2:=l;simp at this;omega
  have ne:∀ p∈Cf ls,p ≠ []:=fun p hp e=>by
   have:=JS.1 (i p hp);rw[e] at this;simp[hv] at this
  have hn:∀ p∈Cf ls,JR p=false:=fun p hp=>by
   cases e:JR p with
   | false=>rfl
   | true =>
    have:=A9c (ne p hp) (by have:=(h.ts hp).2.1;omega) e B C;have:=JS.1 (i p hp);omega
  cases j:Oi (Cf ls) with
  | true=>exact .inl ⟨hn,j⟩
  | false =>
   right;have hps:∀ p∈FU (Cf ls),Enp p/\Cw p:=fun p hp=>h.open hp (hn p (DR.1 hp).1);have O:F (FU (Cf ls))<=5:=by
    have a:=gA (fun p => !MJ p) (Cf ls);have b:F (Cf ls)=F ls:=Ac ..;have:=h.len;unfold FU;omega
   have u:∃ p∈FU (Cf ls),Jf p ≠ 1:=by
    apply A6;intro g;have:Oi (Cf ls)=true:=CG.2 fun p hp=>by
     apply BP;have:Jf p=1:=A6 fun e=>g ⟨p,hp,e⟩;omega
    rw[this] at j;cases j
   have D:∃ s:Dy,¬ dl s (0,0)/\¬ dl (1,0) s/\∀ p∈FU (Cf ls),0<Dl p s.1 s.2:=by
    by_cases c0:dl t (0,0)
    ·exfalso;have e:t.1=0:=by
      have:t.1*2^0<=0*2^t.2:=c0;simp at this;omega
     obtain⟨p,hp,hb⟩:=u;have:=JS.1 (i p (DR.1 hp).1);rw[e] at this;exact hb (A9e q this)
    by_cases c1:dl (1,0) t
    ·have e:t.1=2^t.2:=by
      have:1*2^t.2<=t.1*2^0:=c1;simp at this;omega
     obtain⟨d,n⟩:=T2 (P:=fun p m=>0<hv p (2^m-1) (2^m)) (FU (Cf ls)) (fun p hp=>by
      have hp:=(DR.1 hp).1;have k:=i p hp;have E:Dl p t.1 t.2=Dl p 1 0:=by
       have:=Jc p 1 0 t.2;rw[D0,Cv,<- e] at this;exact this
      rw[E] at k;obtain⟨f,Q,G⟩:=Avm (ne p hp) (by have:=(h.ts hp).2.1;omega) (JS.1 k);obtain⟨d,H⟩:=T1 (f+1);exact⟨d,fun m n=>by
       have a:=H m n;have b:=G (2^m-1) (by omega);rw[show (2:Int)^m-1+1=2^m by omega] at b;exact b⟩)
     have R:(2:Int)^(d+1)=2*2^d:=by rw[AD,AT]
     have S:=Bz d;refine⟨(2^(d+1)-1,d+1),?_,?_,fun p hp=>JS.2 (n _ (by omega) p hp)⟩
     ·show ¬ ((2:Int)^(d+1)-1)*2^0<=0*2^(d+1);simp;omega
     ·show ¬ (1:Int)*2^(d+1)<=(2^(d+1)-1)*2^0;simp;omega
    ·exact⟨t,c0,c1,fun p hp=>i p (DR.1 hp).1⟩
   obtain⟨s,I,J,K⟩:=D;obtain⟨M,L,_,_⟩:=Yy (fun p hp=>(hps p hp).1) (show F (FU (Cf ls))<=60 by omega);obtain⟨c,c1,N⟩:=L.find hps I J K u;exact⟨c,hn,j,c1,N⟩
end
theorem qN(hz:T 81 [A4 z0 0] Xw){ll:l}(h:∀ ls∈ll,Few ls)(hn:F ll<=5) :
  ∃ b:Bool,(b=true↔∃ ls∈ll,TE (Cf ls))/\T 42 [P (F ll) (ER ll)] (A3 [W b,J X 0]):=by
 rcases Aho hz h hn with ⟨⟨ls,d,z⟩,a⟩ | ⟨f,i,a⟩ | ⟨_,k,z,_,_,⟨ls,d,r⟩,_,a⟩
 ·exact⟨true,⟨fun _=>⟨ls,d,(h ls d).sem.1 (.inl z)⟩,fun _=>rfl⟩,qF ll _ _ _ _ _ _ _ a⟩
 ·refine⟨false,⟨fun e=>(by cases e),fun ⟨ls,d,g⟩ => ?_⟩,qF ll _ _ _ _ _ _ _ a⟩;rcases (h ls d).sem.2 g with z | ⟨c,r⟩
  ·exact absurd z (f ls d)
  ·exact absurd r (i ls d c)
 ·exact⟨true,⟨fun _=>⟨ls,d,(h ls d).sem.1 (.inr ⟨_,r⟩)⟩,fun _=>rfl⟩,qF ll _ _ _ _ _ _ _ a⟩
def qO:ICode:=a Aan 93 116
section
variable(n k x i:Int)
def SD:Az:=N n::N k::L 3 (N x::N i::L 14 [])
theorem A9f(c1:E (i<k)=true)(a:¬ (Q X (i+1))=0):Z qO (SD n k x i) .norm (SD n k (Q X (AF (Q X (x*Q X (n-i))) (Q X (i+1)))) (Q X (i+1))):=Ab A1 [bT] [0,1,5,6] (DH c1 a)
theorem A9g(c1:E (i<k)=false):Z qO (SD n k x i) xZ0 (SD n k x i):=Ab A1 [bF] [0,1,5,6] (BO c1)
end
theorem A9h(n k x i:Int)(a:Z (.loop qO) (SD n k 1 0) xZ0 (SD n k x i)):T 170 [J X n,J X k] (J X x):=CQ Aan (L 4 (N x::L 16 [])) (As (AA (Ag (Ab A1 [] [0,1,5,6] a0) (Ag (A7 a) (Ab A1 [] [4] a0)))))
def qP:ICode:=a Aao 95 24
section
variable(x y:Int)
def SE:Az:=N x::N y::L 10 []
theorem A9i(c1:E (y>0)=true)(a:¬ y=0):Z qP (SE x y) .norm (SE y (Bl x y)):=Ab A1 [bT] [0,1] (DH c1 a)
theorem xT(c1:E (y>0)=false):Z qP (SE x y) xZ0 (SE x y):=Ab A1 [bF] [0,1] (BO c1)
end
theorem A9j(x y z w:Int)(a:Z (.loop qP) (SE x y) xZ0 (SE z w)):T 171 [J X x,J X y] (J X z):=CQ Aao (L 4 (N z::L 7 [])) (Ag (Ab A1 [] [0,1] a0) (Ag (A7 a) (Ab A1 [] [4] a0)))
def Wo:ICode:=a ZA 91 500
section
variable(rs:D)(n x i:Int)
def Nb:Az:=L 2 (Ak 2 0 []::C (sL S rs)::N n::N x::N i::L 58 [])
theorem Avn(c g:Int)(c1:E (i<=n)=true)(b:¬ g=0)(a:T 170 [J X n,J X i] (J X c))(d:T 171 [J X x,J X c] (J X g)):Z Wo (Nb rs n x i) .norm (Nb rs n (Q X (AF (Q X (x*c)) g)) (Q X (i+1))):=Ab A1 [bT,.r (J X c),.r (J X c),.r (J X g)] Pw (Ff c1 a a d b)
theorem kU(c1:E (i<=n)=false):Z Wo (Nb rs n x i) xZ0 (Nb rs n x i):=Ab A1 [bF] Pw (BO c1)
end
def Wp:ICode:=a ZA 81 521364
section
variable(rs:D)(n x:Int)(k:Nat)(cs:AK)(j:Int)(s:Rn)(i:Int)
def Nc:Az:=L 2 (Ak 2 0 []::C (sL S rs)::N n::N x::L 1 (Ak 2 k cs::N j::AH [W s.1,P (F s.2) (A s.2)]::N i::L 54 []))
theorem Avo(c d y z w:Int)(c1:E (i<=j)=true)(b:¬ d=0)(a:0<=i/\i<F rs)(e:T 170 [J X j,J X i] (J X c))(f:T 170 [J X n,J X i] (J X d))(g:T 49 [J X (Q X (c*Q X (AF x d)))] (M y))(h:T 96 [M y,AB (H rs (Y i) z0)] (M z))(l:T 95 [AB s,M z] (M w)):Z Wp (Nc rs n x k cs j s i) .norm (Nc rs n x k cs j (V w) (Q X (i+1))):=Ab A1 [bT,.r (J X c),.r (J X d),.r (M y),.v (AB (H rs (Y i) z0)),.r (M z),.r (M w)] Azz (M3 c1 e f b g a (BZ a) h l)
theorem Avp(c1:E (i<=j)=false):Z Wp (Nc rs n x k cs j s i) xZ4 (Nc rs n x k cs j s i):=Ab A1 [bF] Azz (BO c1)
end
def Zg:ICode:=a ZA 89 2036
section
variable(rs:D)(n x:Int)(k:Nat)(cs:AK)(j:Int)
def QN:Az:=L 2 (Ak 2 0 []::C (sL S rs)::N n::N x::L 1 (Ak 2 k cs::N j::L 56 []))
theorem Avq(t:Rn)(i:Int)(c1:E (j<=n)=true)(a:Z (.loop Wp) (Nc rs n x k cs j (false,[]) 0) xZ4 (Nc rs n x k cs j t i))(b:k+1<=1048576):Z Zg (QN rs n x k cs j) .norm (QN rs n x (k+1) (cs++([W t.1,P (F t.2) (A t.2)]:AK)) (Q X (j+1))):=Ag (Ab (t:=L 2 (Ak 2 0 []::vp rs::N n::N x::L 1 (Ak 2 k cs::N j::L 56 []))) A1 [bT] sK (BO c1)) (Ag (Bo (AA (Ag (Ab A1 [] Azz a0) (Ag (A7 a) (Ab (t:=L 2 (Ak 2 0 []::vp rs::N n::N x::L 1 (Ak 2 (k+1) (cs++([W t.1,P (F t.2) (A t.2)]:AK))::N j::L 56 []))) A1 [] sK (DH (show F ([W t.1,P (F t.2) (A t.2)]:AK)=1*2 from rfl) b)))))) (Ab A1 [] sK a0))
theorem kV(c1:E (j<=n)=false):Z Zg (QN rs n x k cs j) xZ2 (QN rs n x k cs j):=AG (Ab A1 [bF] sK (BO c1))
end
theorem xU(rs ts os:D)(x i j:Int)(m:Nat)(a:T 46 [sL S rs] (Ae 2 (F ts) (S ts)))(b:Z (.loop Wo) (Nb ts (Q X (F ts-1)) 1 0) xZ0 (Nb ts (Q X (F ts-1)) x i))(c:Z (.loop Zg) (QN ts (Q X (F ts-1)) x 0 ([]:AK) 0) xZ2 (QN ts (Q X (F ts-1)) x m (S os) j)):T 140 [sL S rs] (Ae 2 m (S os)):=CQ ZA (L 2 (Ak 2 m (S os)::L 62 [])) (As (As (As (AA (Ag (Ab A1 [.r (Ae 2 (F ts) (S ts))] Pw (BO a)) (Ag (A7 b) (AA (Ag (Ab A1 [] sK a0) (Ag (A7 c) (Ab A1 [] [2] a0))))))))))
def Oa:ICode:=a Aap 92 244
section
variable(rs:D)(a l n:Int)(b:Bool)(i:Int)
def Hz:Az:=C (sL S rs)::L 4 (N a::N l::N n::C (W b)::N i::L 35 [])
theorem A9k(s:Int)(c1:E (i<F rs)=true)(d:(s==0)=true)(c:0<=i/\i<F rs)(e:T 79 [AB (H rs (Y i) z0)] (J X s)):Z Oa (Hz rs a l n b i) .norm (Hz rs a l n b (Q X (i+1))):=Ab A1 [bT,.v (AB (H rs (Y i) z0)),.r (J X s),bT] Vl (Ff c1 c (BZ c) e d)
theorem A9l(s:Int)(c1:E (i<F rs)=true)(d:(s==0)=false)(f:(a==0)=true)(g:(l != 0)=false)(h:b=true)(c:0<=i/\i<F rs)(e:T 79 [AB (H rs (Y i) z0)] (J X s)):Z Oa (Hz rs a l n b i) .norm (Hz rs s s n true (Q X (i+1))):=Ab A1 [bT,.v (AB (H rs (Y i) z0)),.r (J X s),bF,bT,bF,bF,bT] Vl (M3 c1 c (BZ c) e d f g F9 h)
theorem A9m(s:Int)(c1:E (i<F rs)=true)(d:(s==0)=false)(f:(a==0)=true)(g:(l != 0)=false)(h:b=false)(c:0<=i/\i<F rs)(e:T 79 [AB (H rs (Y i) z0)] (J X s)):Z Oa (Hz rs a l n b i) .norm (Hz rs s s n (E (s>0)) (Q X (i+1))):=Ab A1 [bT,.v (AB (H rs (Y i) z0)),.r (J X s),bF,bT,bF,bF,bF] Vl (M3 c1 c (BZ c) e d f g F9 h)
theorem A9n(s:Int)(c1:E (i<F rs)=true)(d:(s==0)=false)(f:(a==0)=false)(g:(l != 0)=true)(h:(s != l)=true)(j:b=true)(c:0<=i/\i<F rs)(e:T 79 [AB (H rs (Y i) z0)] (J X s)):Z Oa (Hz rs a l n b i) .norm (Hz rs a s (Q X (n+1)) true (Q X (i+1))):=Ab A1 [bT,.v (AB (H rs (Y i) z0)),.r (J X s),bF,bF,bT,bT,bT] Vl (M3 c1 c (BZ c) e d f g h j)
theorem A9o(s:Int)(c1:E (i<F rs)=true)(d:(s==0)=false)(f:(a==0)=false)(g:(l != 0)=true)(h:(s != l)=true)(j:b=false)(c:0<=i/\i<F rs)(e:T 79 [AB (H rs (Y i) z0)] (J X s)):Z Oa (Hz rs a l n b i) .norm (Hz rs a s (Q X (n+1)) (E (s>0)) (Q X (i+1))):=Ab A1 [bT,.v (AB (H rs (Y i) z0)),.r (J X s),bF,bF,bT,bT,bF] Vl (M3 c1 c (BZ c) e d f g h j)
theorem Avr(s:Int)(c1:E (i<F rs)=true)(d:(s==0)=false)(f:(a==0)=false)(g:(l != 0)=true)(h:(s != l)=false)(j:b=true)(c:0<=i/\i<F rs)(e:T 79 [AB (H rs (Y i) z0)] (J X s)):Z Oa (Hz rs a l n b i) .norm (Hz rs a s n true (Q X (i+1))):=Ab A1 [bT,.v (AB (H rs (Y i) z0)),.r (J X s),bF,bF,bT,bF,bT] Vl (M3 c1 c (BZ c) e d f g h j)
theorem Avs(s:Int)(c1:E (i<F rs)=true)(d:(s==0)=false)(f:(a==0)=false)(g:(l != 0)=true)(h:(s != l)=false)(j:b=false)(c:0<=i/\i<F rs)(e:T 79 [AB (H rs (Y i) z0)] (J X s)):Z Oa (Hz rs a l n b i) .norm (Hz rs a s n (E (s>0)) (Q X (i+1))):=Ab A1 [bT,.v (AB (H rs (Y i) z0)),.r (J X s),bF,bF,bT,bF,bF] Vl (M3 c1 c (BZ c) e d f g h j)
theorem Avt(c1:E (i<F rs)=false):Z Oa (Hz rs a l n b i) xZ0 (Hz rs a l n b i):=Ab A1 [bF] Vl (BO c1)
end
theorem A9p(rs:D)(a l n i:Int)(b:Bool)(c:Z (.loop Oa) (Hz rs 0 0 0 false 0) xZ0 (Hz rs a l n b i)):T 172 [sL S rs] (A3 [J X a,J X n,W b]):=CQ Aap (L 2 (N a::N n::C (W b)::L 40 [])) (As (As (AA (Ag (Ab A1 [] Vl a0) (Ag (A7 c) (Ab A1 [] TN a0))))))
def Wq:ICode:=a mV 83 128156
section
variable(rs:D)(n:Int)(m:Nat)(os ls a:D)(k i:Int)
def Nd:Az:=C (sL S rs)::L 1 (Ak 2 0 []::Ak 2 0 []::N n::Ak 2 m (S os)::Ak 2 m (S ls)::Ak 2 m (S a)::N k::N i::L 64 [])
theorem Avu(z:Int)(c1:E (Q X (i+1)<=Q X (n-k))=true)(b:0<=i/\i<m)(c:F os=m)(d:0<=Q X (i+1)/\Q X (i+1)<(m:Int))(e:T 95 [AB (H os (Y i) z0),AB (H os (Y (Q X (i+1))) z0)] (M z)):Z Wq (Nd rs n m os ls a k i) .norm (Nd rs n m (os.set (Y i) (V z)) ls a k (Q X (i+1))):=Ab A1 [bT,.v (AB (H os (Y i) z0)),.v (AB (H os (Y (Q X (i+1))) z0)),.r (M z),.l (S (os.set (Y i) (V z)))] Azv (Ip c1 b (GH c b) d (GH c d) e b (HJ (r:=V z) c b))
theorem Avv(c1:E (Q X (i+1)<=Q X (n-k))=false):Z Wq (Nd rs n m os ls a k i) xZ2 (Nd rs n m os ls a k i):=Ab A1 [bF] Azv (BO c1)
end
def Wr:ICode:=a mV 91 500
section
variable(rs:D)(n:Int)(m:Nat)(os ls a:D)(k:Int)
def Nf:Az:=C (sL S rs)::L 1 (Ak 2 0 []::Ak 2 0 []::N n::Ak 2 m (S os)::Ak 2 m (S ls)::Ak 2 m (S a)::N k::L 65 [])
theorem Avw(x y i:Int)(c:D)(c1:E (k<=n)=true)(d:0<=(0:Int)/\(0:Int)<(m:Int))(e:F os=m)(f:0<=k/\k<m)(g:F ls=m)(h:T 84 [AB (H os (Y 0) z0),J X (Q X (n-k))] (Dk x))(b:0<=Q X (n-k)/\Q X (n-k)<(m:Int))(j:F a=m)(o:T 84 [AB (H os (Y (Q X (n-k))) z0),J X (Q X (n-k))] (Dk y))(p:Z (.loop Wq) (Nd rs n m os (ls.set (Y k) (V x)) (a.set (Y (Q X (n-k))) (V y)) k 0) xZ2 (Nd rs n m c (ls.set (Y k) (V x)) (a.set (Y (Q X (n-k))) (V y)) k i)):Z Wr (Nf rs n m os ls a k) .norm (Nf rs n m c (ls.set (Y k) (V x)) (a.set (Y (Q X (n-k))) (V y)) (Q X (k+1))):=Ag (Ab (t:=(vp rs::L 1 (Ak 2 0 []::Ak 2 0 []::N n::Ak 2 m (S os)::Ak 2 m (S ls)::Ak 2 m (S a)::N k::L 65 []))) A1 [bT] Vj (BO c1)) (Ag (Bo (As (As (Ag (Ab A1 [.v (AB (H os (Y 0) z0)),.r (Dk x),.l (S (ls.set (Y k) (V x))),.v (AB (H os (Y (Q X (n-k))) z0)),.r (Dk y),.l (S (a.set (Y (Q X (n-k))) (V y)))] Azv (Kw d (GH e d) h f (HJ (r:=V x) g f) b (GH e b) o b (HJ (r:=V y) j b))) (A7 p))))) (Ab A1 [] Vj a0))
theorem Avx(c1:E (k<=n)=false):Z Wr (Nf rs n m os ls a k) xZ0 (Nf rs n m os ls a k):=AG (Ab A1 [bF] Vj (BO c1))
end
theorem A9q(rs os ls a:D)(k:Int)(c:F (S rs)=F rs*2)(d:F rs<=1048576)(b:0<=Q X (Q X (F rs-1)+1)/\Q X (Q X (F rs-1)+1)<=1048576)(e:Z (.loop Wr) ((C (sL S rs)::L 1 (Ak 2 0 []::Ak 2 0 []::N (Q X (F rs-1))::Ak 2 (F rs) (S rs)::Ak 2 (Y (Q X (Q X (F rs-1)+1))) (C_ [W false,P 0 []] (Y (Q X (Q X (F rs-1)+1))))::Ak 2 (Y (Q X (Q X (F rs-1)+1))) (C_ [W false,P 0 []] (Y (Q X (Q X (F rs-1)+1))))::N 0::L 65 []))) xZ0 (Nf rs (Q X (F rs-1)) (F rs) os ls a k)):T 174 [sL S rs] (A3 [P (F rs) (S ls),P (F rs) (S a)]):=CQ mV (L 2 (Ak 2 (F rs) (S ls)::Ak 2 (F rs) (S a)::L 70 [])) (As (As (As (AA (Ag (Ab A1 [] Vj (FJ c d b b)) (Ag (A7 e) (Ab A1 [] RI a0)))))))
theorem A9r(r:Rn)(e n f x y:Int)(a:T 162 [A4 r e] (A4 (V n) f))(b:T 161 [M n] (M x))(c:T 49 [J X 1] (M 1))(d:T 84 [M 1,J X f] (Dk y)):T 173 [A4 r e] (Ao [P 2 [W (E (x<0)),sL A (o (I x)),W (E (y<0)),sL A (o (I y))],W (E (n<0)),sL A (o (I n)),J X f,W (E (n<0)),sL A (o (I n)),J X f]):=Bc (fn:=iF AC Azr) A1 rfl 400 rfl [.r (A4 (V n) f),.r (M x),.r (M 1),.r (Dk y)] (FJ a b c d)
def Fs:ICode:=a P_ 93 116
section
variable(ps bs:List D)(k e o:Int)(w:Bool)(c z i:Int)
def CJ:Az:=C (sL pp ps)::C (sL pp bs)::N k::N e::L 4 (AH [P 0 [],W false,P 0 [],J X 0,W false,P 0 [],J X 0]::N o::C (W w)::N c::N z::N i::L 138 [])
theorem Avy(f n:Int)(b:Bool)(c1:E (i<F bs)=true)(g:b=true)(h:w=true)(j:E (n>0)=true)(l:(n != 1)=true)(a:0<=i/\i<F bs)(d:T 172 [sL S (H bs (Y i) [])] (A3 [J X f,J X n,W b])):Z Fs (CJ ps bs k e o w c z i) .norm (CJ ps bs k e o (E (f>0)) (Q X (F bs+2)) i (Q X (i+1))):=Ab A1 [bT,.v (sL S (H bs (Y i) [])),.r (A3 [J X f,J X n,W b]),bF,bT,bT,bT,bT,bT,bT] Pv (IU c1 a (B3 a) d (KA g) h j I6 l I6 I6)
theorem Avz(f n:Int)(b:Bool)(c1:E (i<F bs)=true)(g:b=true)(h:w=true)(j:E (n>0)=true)(l:(n != 1)=false)(m:E (f>0)=true)(a:0<=i/\i<F bs)(d:T 172 [sL S (H bs (Y i) [])] (A3 [J X f,J X n,W b])):Z Fs (CJ ps bs k e o w c z i) .norm (CJ ps bs k e o (E (f>0)) (Q X (F bs+2)) i (Q X (i+1))):=Ab A1 [bT,.v (sL S (H bs (Y i) [])),.r (A3 [J X f,J X n,W b]),bF,bT,bT,bT,bF,bT,bT] Pv (IU c1 a (B3 a) d (KA g) h j I6 l m I6)
theorem Awa(f n s:Int)(b:Bool)(c1:E (i<F bs)=true)(g:b=true)(h:w=true)(j:E (n>0)=true)(l:(n != 1)=false)(m:E (f>0)=false)(p:(s==0)=true)(a:0<=i/\i<F bs)(d:0<=Q X (F (H bs (Y i) [])-1)/\Q X (F (H bs (Y i) [])-1)<(F (H bs (Y i) []):Int))(q:T 172 [sL S (H bs (Y i) [])] (A3 [J X f,J X n,W b]))(t:T 79 [AB (H (H bs (Y i) []) (Y (Q X (F (H bs (Y i) [])-1))) z0)] (J X s)):Z Fs (CJ ps bs k e o w c z i) .norm (CJ ps bs k e o (E (f>0)) (Q X (F bs+2)) i (Q X (i+1))):=Ab A1 [bT,.v (sL S (H bs (Y i) [])),.r (A3 [J X f,J X n,W b]),bF,bT,bT,bT,bF,bF,.v (sL S (H bs (Y i) [])),.v (sL S (H bs (Y i) [])),.v (AB (H (H bs (Y i) []) (Y (Q X (F (H bs (Y i) [])-1))) z0)),.r (J X s),bT] Pv (OX c1 a (B3 a) q (KA g) h j I6 (Kw l m a (B3 a) a (B3 a) d (BZ d) t p))
theorem Awb(f n s:Int)(b:Bool)(c1:E (i<F bs)=true)(g:b=true)(h:w=true)(j:E (n>0)=true)(l:(n != 1)=false)(m:E (f>0)=false)(p:(s==0)=false)(a:0<=i/\i<F bs)(d:0<=Q X (F (H bs (Y i) [])-1)/\Q X (F (H bs (Y i) [])-1)<(F (H bs (Y i) []):Int))(q:T 172 [sL S (H bs (Y i) [])] (A3 [J X f,J X n,W b]))(t:T 79 [AB (H (H bs (Y i) []) (Y (Q X (F (H bs (Y i) [])-1))) z0)] (J X s)):Z Fs (CJ ps bs k e o w c z i) .norm (CJ ps bs k e o (E (f>0)) (Q X (c+1)) i (Q X (i+1))):=Ab A1 [bT,.v (sL S (H bs (Y i) [])),.r (A3 [J X f,J X n,W b]),bF,bT,bT,bT,bF,bF,.v (sL S (H bs (Y i) [])),.v (sL S (H bs (Y i) [])),.v (AB (H (H bs (Y i) []) (Y (Q X (F (H bs (Y i) [])-1))) z0)),.r (J X s),bF] Pv (OX c1 a (B3 a) q (KA g) h j I6 (Kw l m a (B3 a) a (B3 a) d (BZ d) t p))
theorem Awc(f n:Int)(b:Bool)(c1:E (i<F bs)=true)(g:b=true)(h:w=true)(j:E (n>0)=false)(l:E (f<0)=true)(m:(n != 1)=true)(a:0<=i/\i<F bs)(d:T 172 [sL S (H bs (Y i) [])] (A3 [J X f,J X n,W b])):Z Fs (CJ ps bs k e o w c z i) .norm (CJ ps bs k e o (E (f>0)) (Q X (F bs+2)) i (Q X (i+1))):=Ab A1 [bT,.v (sL S (H bs (Y i) [])),.r (A3 [J X f,J X n,W b]),bF,bT,bF,bT,bT,bT,bT] Pv (IU c1 a (B3 a) d (KA g) h j l m I6 I6)
theorem Awd(f n:Int)(b:Bool)(c1:E (i<F bs)=true)(g:b=true)(h:w=true)(j:E (n>0)=false)(l:E (f<0)=false)(a:0<=i/\i<F bs)(d:T 172 [sL S (H bs (Y i) [])] (A3 [J X f,J X n,W b])):Z Fs (CJ ps bs k e o w c z i) .norm (CJ ps bs k e o (E (f>0)) c z (Q X (i+1))):=Ab A1 [bT,.v (sL S (H bs (Y i) [])),.r (A3 [J X f,J X n,W b]),bF,bT,bF,bF] Pv (Ip c1 a (B3 a) d (KA g) h j l)
theorem Ahq(f n:Int)(b:Bool)(c1:E (i<F bs)=true)(g:b=true)(h:w=false)(j:E (n>0)=true)(l:(n != 1)=true)(a:0<=i/\i<F bs)(d:T 172 [sL S (H bs (Y i) [])] (A3 [J X f,J X n,W b])):Z Fs (CJ ps bs k e o w c z i) .norm (CJ ps bs k e o false (Q X (F bs+2)) i (Q X (i+1))):=Ab A1 [bT,.v (sL S (H bs (Y i) [])),.r (A3 [J X f,J X n,W b]),bF,bF,bT,bT,bT,bT,bT] Pv (IU c1 a (B3 a) d (KA g) h j I6 l I6 I6)
theorem Ahr(f n:Int)(b:Bool)(c1:E (i<F bs)=true)(g:b=true)(h:w=false)(j:E (n>0)=true)(l:(n != 1)=false)(m:E (f>0)=true)(a:0<=i/\i<F bs)(d:T 172 [sL S (H bs (Y i) [])] (A3 [J X f,J X n,W b])):Z Fs (CJ ps bs k e o w c z i) .norm (CJ ps bs k e o false (Q X (F bs+2)) i (Q X (i+1))):=Ab A1 [bT,.v (sL S (H bs (Y i) [])),.r (A3 [J X f,J X n,W b]),bF,bF,bT,bT,bF,bT,bT] Pv (IU c1 a (B3 a) d (KA g) h j I6 l m I6)
theorem Ahs(f n s:Int)(b:Bool)(c1:E (i<F bs)=true)(g:b=true)(h:w=false)(j:E (n>0)=true)(l:(n != 1)=false)(m:E (f>0)=false)(p:(s==0)=true)(a:0<=i/\i<F bs)(d:0<=Q X (F (H bs (Y i) [])-1)/\Q X (F (H bs (Y i) [])-1)<(F (H bs (Y i) []):Int))(q:T 172 [sL S (H bs (Y i) [])] (A3 [J X f,J X n,W b]))(t:T 79 [AB (H (H bs (Y i) []) (Y (Q X (F (H bs (Y i) [])-1))) z0)] (J X s)):Z Fs (CJ ps bs k e o w c z i) .norm (CJ ps bs k e o false (Q X (F bs+2)) i (Q X (i+1))):=Ab A1 [bT,.v (sL S (H bs (Y i) [])),.r (A3 [J X f,J X n,W b]),bF,bF,bT,bT,bF,bF,.v (sL S (H bs (Y i) [])),.v (sL S (H bs (Y i) [])),.v (AB (H (H bs (Y i) []) (Y (Q X (F (H bs (Y i) [])-1))) z0)),.r (J X s),bT] Pv (OX c1 a (B3 a) q (KA g) h j I6 (Kw l m a (B3 a) a (B3 a) d (BZ d) t p))
theorem Aht(f n s:Int)(b:Bool)(c1:E (i<F bs)=true)(g:b=true)(h:w=false)(j:E (n>0)=true)(l:(n != 1)=false)(m:E (f>0)=false)(p:(s==0)=false)(a:0<=i/\i<F bs)(d:0<=Q X (F (H bs (Y i) [])-1)/\Q X (F (H bs (Y i) [])-1)<(F (H bs (Y i) []):Int))(q:T 172 [sL S (H bs (Y i) [])] (A3 [J X f,J X n,W b]))(t:T 79 [AB (H (H bs (Y i) []) (Y (Q X (F (H bs (Y i) [])-1))) z0)] (J X s)):Z Fs (CJ ps bs k e o w c z i) .norm (CJ ps bs k e o false (Q X (c+1)) i (Q X (i+1))):=Ab A1 [bT,.v (sL S (H bs (Y i) [])),.r (A3 [J X f,J X n,W b]),bF,bF,bT,bT,bF,bF,.v (sL S (H bs (Y i) [])),.v (sL S (H bs (Y i) [])),.v (AB (H (H bs (Y i) []) (Y (Q X (F (H bs (Y i) [])-1))) z0)),.r (J X s),bF] Pv (OX c1 a (B3 a) q (KA g) h j I6 (Kw l m a (B3 a) a (B3 a) d (BZ d) t p))
theorem Ahu(f n:Int)(b:Bool)(c1:E (i<F bs)=true)(g:b=true)(h:w=false)(j:E (n>0)=false)(l:E (f<0)=true)(m:(n != 1)=true)(a:0<=i/\i<F bs)(d:T 172 [sL S (H bs (Y i) [])] (A3 [J X f,J X n,W b])):Z Fs (CJ ps bs k e o w c z i) .norm (CJ ps bs k e o false (Q X (F bs+2)) i (Q X (i+1))):=Ab A1 [bT,.v (sL S (H bs (Y i) [])),.r (A3 [J X f,J X n,W b]),bF,bF,bF,bT,bT,bT,bT] Pv (IU c1 a (B3 a) d (KA g) h j l m I6 I6)
theorem Ahv(f n:Int)(b:Bool)(c1:E (i<F bs)=true)(g:b=true)(h:w=false)(j:E (n>0)=false)(l:E (f<0)=false)(a:0<=i/\i<F bs)(d:T 172 [sL S (H bs (Y i) [])] (A3 [J X f,J X n,W b])):Z Fs (CJ ps bs k e o w c z i) .norm (CJ ps bs k e o false c z (Q X (i+1))):=Ab A1 [bT,.v (sL S (H bs (Y i) [])),.r (A3 [J X f,J X n,W b]),bF,bF,bF,bF] Pv (Ip c1 a (B3 a) d (KA g) h j l)
theorem Ahw(f n:Int)(b:Bool)(c1:E (i<F bs)=true)(g:b=false)(a:0<=i/\i<F bs)(d:T 172 [sL S (H bs (Y i) [])] (A3 [J X f,J X n,W b])):Z Fs (CJ ps bs k e o w c z i) .ret (CJ ps bs k e 0 w c z i):=Ab A1 [bT,.v (sL S (H bs (Y i) [])),.r (A3 [J X f,J X n,W b]),bT] Pv (Ff c1 a (B3 a) d (Vo g))
theorem Ahx(c1:E (i<F bs)=false):Z Fs (CJ ps bs k e o w c z i) xZ0 (CJ ps bs k e o w c z i):=Ab A1 [bF] Pv (BO c1)
end
def T3:ICode:=a P_ 88 4084
section
variable(ps bs:List D)(k e:Int)(l:Nat)(cs:AK)(m:Nat)(a:AK)(i:Int)
def J_:Az:=C (sL pp ps)::C (sL pp bs)::N k::N e::L 4 (AH [P 0 [],W false,P 0 [],J X 0,W false,P 0 [],J X 0]::L 8 (Ak 1 l cs::Ak 1 m a::N i::L 132 []))
theorem Awe(xs b:D)(c1:E (i<F bs)=true)(c:0<=i/\i<F bs)(d:l+1<=1048576)(f:m+1<=1048576)(g:T 174 [sL S (H bs (Y i) [])] (A3 [sL S xs,sL S b])):Z T3 (J_ ps bs k e l cs m a i) .norm (J_ ps bs k e (l+1) (cs++([sL S xs]:AK)) (m+1) (a++([sL S b]:AK)) (Q X (i+1))):=Ab A1 [bT,.v (sL S (H bs (Y i) [])),.r (A3 [sL S xs,sL S b])] kl4 (Ip c1 c (B3 c) g (show F ([sL S xs]:AK)=1*1 from rfl) d (show F ([sL S b]:AK)=1*1 from rfl) f)
theorem Awf(c1:E (i<F bs)=false):Z T3 (J_ ps bs k e l cs m a i) xZ2 (J_ ps bs k e l cs m a i):=Ab A1 [bF] kl4 (BO c1)
end
section
variable(ps bs:List D)(k e c p i:Int)(w:Bool)
theorem Awg(d:Z (.loop Fs) (CJ ps bs k e 0 true 0 0 0) .ret (CJ ps bs k e 0 w c p i)):T 141 [sL pp ps,sL pp bs,J X k,J X e] (A3 [Ao [P 0 [],W false,P 0 [],J X 0,W false,P 0 [],J X 0],J X 0]):=CQ P_ (C (sL pp ps)::C (sL pp bs)::N k::N e::L 4 (AH [P 0 [],W false,P 0 [],J X 0,W false,P 0 [],J X 0]::N 0::C (W w)::N c::N p::N i::L 138 [])) (As (AA (Ag (Ab A1 [] Pv a0) (AG (BT d)))))
theorem Ahy(fs:D)(r t:Rn)(a b:Int)(c1:w=true)(d:Z (.loop Fs) (CJ ps bs k e 0 true 0 0 0) xZ0 (CJ ps bs k e 0 w c p i))(f:T 49 [J X k] (M k))(g:T 173 [A4 (V k) e] (Bh fs r a t b)):T 141 [sL pp ps,sL pp bs,J X k,J X e] (A3 [Bh fs r a t b,J X 1]):=CQ P_ (L 8 (GW fs r a t b::N 1::L 142 [])) (As (AA (Ag (Ab A1 [] Pv a0) (Ag (A7 d) (As (As (As (AA (AG (Ab A1 [bT,.r (M k),.r (Bh fs r a t b)] [8,9] (Gy c1 f g)))))))))))
theorem Ahz(c1:w=false)(h:(c==1)=true)(d:Z (.loop Fs) (CJ ps bs k e 0 true 0 0 0) xZ0 (CJ ps bs k e 0 w c p i))(f:0<=p/\p<F ps)(g:T 49 [J X k] (M k))(j:T 49 [J X (Q X (k+1))] (M (Q X (k+1)))):T 141 [sL pp ps,sL pp bs,J X k,J X e] (A3 [Bh (H ps (Y p) []) (V k) e (V (Q X (k+1))) e,J X 1]):=CQ P_ (L 8 (GW (H ps (Y p) []) (V k) e (V (Q X (k+1))) e::N 1::L 142 [])) (As (AA (Ag (Ab A1 [] Pv a0) (Ag (A7 d) (As (As (As (AA (AG (Ab A1 [bF,bT,.v (sL S (H ps (Y p) [])),.r (M k),.r (M (Q X (k+1)))] [8,9] (Gm c1 h f (B3 f) g j)))))))))))
theorem Aia(c1:w=false)(h:(c==1)=false)(l:(e==10)=true)(d:Z (.loop Fs) (CJ ps bs k e 0 true 0 0 0) xZ0 (CJ ps bs k e 0 w c p i)):T 141 [sL pp ps,sL pp bs,J X k,J X e] (A3 [Ao [P 0 [],W false,P 0 [],J X 0,W false,P 0 [],J X 0],J X 2]):=CQ P_ (L 8 (AH [P 0 [],W false,P 0 [],J X 0,W false,P 0 [],J X 0]::N 2::L 142 [])) (As (AA (Ag (Ab A1 [] Pv a0) (Ag (A7 d) (As (As (As (AA (AG (Ab A1 [bF,bF,bT] [8,9] (Gy c1 h l)))))))))))
end
section
variable(ps bs:List D)(k e c p i j:Int)(w:Bool)
theorem Aib(fs:D)(r t:Rn)(a b x:Int)(us vs:List D)(c1:w=false)(h:(c==1)=false)(l:(e==10)=false)(m:(x != 0)=true)(n:Z (.loop Fs) (CJ ps bs k e 0 true 0 0 0) xZ0 (CJ ps bs k e 0 w c p i))(o:Z (.loop T3) (J_ ps bs k e 0 ([]:AK) 0 ([]:AK) 0) xZ2 (J_ ps bs k e (F us) (pp us) (F vs) (pp vs) j))(q:T 141 [sL pp ps,sL pp us,J X (Q X (2*k)),J X (Q X (e+1))] (A3 [Bh fs r a t b,J X x])):T 141 [sL pp ps,sL pp bs,J X k,J X e] (A3 [Bh fs r a t b,J X x]):=CQ P_ (L 8 (GW fs r a t b::N x::L 142 [])) (As (AA (Ag (Ab A1 [] Pv a0) (Ag (A7 n) (As (As (As (AA (Ag (Ab A1 [bF,bF,bF] kl4 (Gy c1 h l)) (Ag (A7 o) (Ab A1 [.r (A3 [Bh fs r a t b,J X x]),bT] [8,9] (DH q m))))))))))))
theorem Aic(fs f:D)(r t u v:Rn)(a b d g x y:Int)(us vs:List D)(c1:w=false)(h:(c==1)=false)(l:(e==10)=false)(m:(x != 0)=false)(n:Z (.loop Fs) (CJ ps bs k e 0 true 0 0 0) xZ0 (CJ ps bs k e 0 w c p i))(o:Z (.loop T3) (J_ ps bs k e 0 ([]:AK) 0 ([]:AK) 0) xZ2 (J_ ps bs k e (F us) (pp us) (F vs) (pp vs) j))(q:T 141 [sL pp ps,sL pp us,J X (Q X (2*k)),J X (Q X (e+1))] (A3 [Bh fs r a t b,J X x]))(s:T 141 [sL pp ps,sL pp vs,J X (Q X (Q X (2*k)+1)),J X (Q X (e+1))] (A3 [Bh f u d v g,J X y])):T 141 [sL pp ps,sL pp bs,J X k,J X e] (A3 [Bh f u d v g,J X y]):=CQ P_ (L 8 (GW f u d v g::N y::L 142 [])) (As (AA (Ag (Ab A1 [] Pv a0) (Ag (A7 n) (As (As (As (AA (Ag (Ab A1 [bF,bF,bF] kl4 (Gy c1 h l)) (Ag (A7 o) (Ab A1 [.r (A3 [Bh fs r a t b,J X x]),bF,.r (A3 [Bh f u d v g,J X y])] [8,9] (Gy q m s))))))))))))
end
theorem Ali(n:Int)(a:T 49 [J X n] (M n)):T 94 [J X n] (A4 (V n) 0):=Bc (fn:=iF AC AGq) A1 rfl 400 rfl [.r (M n)] (BO a)
def dM:ICode:=a Ajk 94 52
section
variable(o:Bool)(ls:List D)(r:Rn)(e i:Int)
def OM:Az:=C (sL pp ls)::L 2 (AH [W r.1,P (F r.2) (A r.2),J X e]::C (W o)::N i::L 20 [])
theorem AFl(ts:D)(v s:Int)(c1:E (i<F ls)=true)(b:E (s<=0)=true)(a:0<=i/\i<F ls)(c:T 46 [sL S (H ls (Y i) [])] (Ae 2 (F ts) (S ts)))(d:T 80 [sL S ts,AB r,J X e] (M v))(f:T 79 [M v] (J X s)):Z dM (OM o ls r e i) .ret (OM false ls r e i):=Ab A1 [bT,.v (sL S (H ls (Y i) [])),.r (Ae 2 (F ts) (S ts)),.r (M v),.r (J X s),bT] XL (GZ c1 a (B3 a) c d f b)
theorem AFm(ts:D)(v s:Int)(c1:E (i<F ls)=true)(b:E (s<=0)=false)(a:0<=i/\i<F ls)(c:T 46 [sL S (H ls (Y i) [])] (Ae 2 (F ts) (S ts)))(d:T 80 [sL S ts,AB r,J X e] (M v))(f:T 79 [M v] (J X s)):Z dM (OM o ls r e i) .norm (OM o ls r e (Q X (i+1))):=Ab A1 [bT,.v (sL S (H ls (Y i) [])),.r (Ae 2 (F ts) (S ts)),.r (M v),.r (J X s),bF] XL (GZ c1 a (B3 a) c d f b)
theorem AFn(c1:E (i<F ls)=false):Z dM (OM o ls r e i) xZ0 (OM o ls r e i):=Ab A1 [bF] XL (BO c1)
end
section
variable(ls:List D)(r:Rn)(e i:Int)
theorem AFo(a:Z (.loop dM) (OM false ls r e 0) xZ0 (OM false ls r e i)):T 93 [sL pp ls,A4 r e] (W true):=CQ Ajk (L 4 (C (W true)::L 21 [])) (AA (Ag (Ab A1 [] XL a0) (Ag (A7 a) (Ab A1 [] [4] a0))))
theorem A9s(a:Z (.loop dM) (OM false ls r e 0) .ret (OM false ls r e i)):T 93 [sL pp ls,A4 r e] (W false):=CQ Ajk (C (sL pp ls)::L 2 (AH [W r.1,P (F r.2) (A r.2),J X e]::C (W false)::N i::L 20 [])) (AA (Ag (Ab A1 [] XL a0) (AG (BT a))))
end
def T4:ICode:=a ZD 78 3821128
section
variable(ls:List D)(l:List Rt)(i:Int)(m:List Rt)(k p:Int)(b:Bool)
def Ka:Az:=C (sL pp ls)::L 1 (Ak 7 0 []::C (P (F l) (C2 l))::N i::C (P (F m) (C2 m))::N k::N p::C (W b)::L 66 [])
theorem Awh(s:Int)(c1:E (p<F l)=true)(d:b=false)(g:E (s>=0)=true)(a:0<=p/\p<F l)(c:0<=k/\k<F m)(h:T 19 [Bh ((H l (Y p) zR).fs) ((H l (Y p) zR).r) ((H l (Y p) zR).e) ((H l (Y p) zR).t) ((H l (Y p) zR).f),Bh ((H m (Y k) zR).fs) ((H m (Y k) zR).r) ((H m (Y k) zR).e) ((H m (Y k) zR).t) ((H m (Y k) zR).f)] (J X s)):Z T4 (Ka ls l i m k p b) xZ4 (Ka ls l i m k p (s==0)):=Ab A1 [bT,bT,.v (Bh ((H l (Y p) zR).fs) ((H l (Y p) zR).r) ((H l (Y p) zR).e) ((H l (Y p) zR).t) ((H l (Y p) zR).f)),.v (Bh ((H m (Y k) zR).fs) ((H m (Y k) zR).r) ((H m (Y k) zR).e) ((H m (Y k) zR).t) ((H m (Y k) zR).f)),.r (J X s),bT] Vj (Ip c1 (Vo d) a (Ev a) c (Ev c) h g)
theorem Awi(s:Int)(c1:E (p<F l)=true)(d:b=false)(g:E (s>=0)=false)(a:0<=p/\p<F l)(c:0<=k/\k<F m)(h:T 19 [Bh ((H l (Y p) zR).fs) ((H l (Y p) zR).r) ((H l (Y p) zR).e) ((H l (Y p) zR).t) ((H l (Y p) zR).f),Bh ((H m (Y k) zR).fs) ((H m (Y k) zR).r) ((H m (Y k) zR).e) ((H m (Y k) zR).t) ((H m (Y k) zR).f)] (J X s)):Z T4 (Ka ls l i m k p b) .norm (Ka ls l i m k (Q X (p+1)) (s==0)):=Ab A1 [bT,bT,.v (Bh ((H l (Y p) zR).fs) ((H l (Y p) zR).r) ((H l (Y p) zR).e) ((H l (Y p) zR).t) ((H l (Y p) zR).f)),.v (Bh ((H m (Y k) zR).fs) ((H m (Y k) zR).r) ((H m (Y k) zR).e) ((H m (Y k) zR).t) ((H m (Y k) zR).f)),.r (J X s),bF] Vj (Ip c1 (Vo d) a (Ev a) c (Ev c) h g)
theorem Awj(c1:E (p<F l)=false):Z T4 (Ka ls l i m k p b) xZ4 (Ka ls l i m k p b):=Ab A1 [bF,bF] Vj (DH c1 F9)
end
def T5:ICode:=a ZD 85 29852
section
variable(ls:List D)(l:List Rt)(i:Int)(m:List Rt)(k:Int)
def K_:Az:=C (sL pp ls)::L 1 (Ak 7 0 []::C (P (F l) (C2 l))::N i::C (P (F m) (C2 m))::N k::L 68 [])
theorem Awk(p:Int)(b:Bool)(c1:E (k<F m)=true)(a:b=true)(c:Z (.loop T4) (Ka ls l i m k 0 false) xZ4 (Ka ls l i m k p b)):Z T5 (K_ ls l i m k) .norm (K_ ls l i m (Q X (k+1))):=Ag (Ab (t:=(C (sL pp ls)::L 1 (Ak 7 0 []::C (P (F l) (C2 l))::N i::C (P (F m) (C2 m))::N k::L 68 []))) A1 [bT] HS (BO c1)) (Ag (Bo (Ag (Ab A1 [] Vj a0) (Ag (A7 c) (Ab (t:=(C (sL pp ls)::L 1 (Ak 7 0 []::C (P (F l) (C2 l))::N i::C (P (F m) (C2 m))::N k::N p::L 67 []))) A1 [bF] gT (BO (KA a)))))) (Ab A1 [] HS a0))
theorem Awl(p:Int)(b:Bool)(c1:E (k<F m)=true)(a:b=false)(c:Z (.loop T4) (Ka ls l i m k 0 false) xZ4 (Ka ls l i m k p b))(d:0<=p)(h:0<=Y p/\Y p<=F l/\F l<=F l/\(false=true->true=true))(j:F (BF (((Y p)-0)*7) (AL (0*7) (C2 l)))=((Y p)-0)*7)(n:((Y p)-0)<=1048576)(g:0<=k/\k<F m)(o:((Y p)-0)+1<=1048576)(q:Y p<=F l/\F l<=F l/\F l<=F l/\(false=true->false=true))(s:F (BF ((F l-(Y p))*7) (AL (Y p*7) (C2 l)))=(F l-(Y p))*7)(u:(((Y p)-0)+1)+(F l-(Y p))<=1048576):Z T5 (K_ ls l i m k) .norm ((C (sL pp ls)::L 1 (Ak 7 0 []::C (P ((((Y p)-0)+1)+(F l-(Y p))) ((BF (((Y p)-0)*7) (AL (0*7) (C2 l))++([sL S ((H m (Y k) zR).fs),W (((H m (Y k) zR).r).1),sL A (((H m (Y k) zR).r).2),J X ((H m (Y k) zR).e),W (((H m (Y k) zR).t).1),sL A (((H m (Y k) zR).t).2),J X ((H m (Y k) zR).f)]:AK))++BF ((F l-(Y p))*7) (AL (Y p*7) (C2 l))))::N i::C (P (F m) (C2 m))::N (Q X (k+1))::L 68 []))):=Ag (Ab (t:=(C (sL pp ls)::L 1 (Ak 7 0 []::C (P (F l) (C2 l))::N i::C (P (F m) (C2 m))::N k::L 68 []))) A1 [bT] HS (BO c1)) (Ag (Bo (Ag (Ab A1 [] Vj a0) (Ag (A7 c) (Ab (t:=(C (sL pp ls)::L 1 (Ak 7 0 []::C (P ((((Y p)-0)+1)+(F l-(Y p))) ((BF (((Y p)-0)*7) (AL (0*7) (C2 l))++([sL S ((H m (Y k) zR).fs),W (((H m (Y k) zR).r).1),sL A (((H m (Y k) zR).r).2),J X ((H m (Y k) zR).e),W (((H m (Y k) zR).t).1),sL A (((H m (Y k) zR).t).2),J X ((H m (Y k) zR).f)]:AK))++BF ((F l-(Y p))*7) (AL (Y p*7) (C2 l))))::N i::C (P (F m) (C2 m))::N k::N p::L 56 (C (P (F m) (C2 m))::L 10 [])))) A1 [bT,.v (Bh ((H m (Y k) zR).fs) ((H m (Y k) zR).r) ((H m (Y k) zR).e) ((H m (Y k) zR).t) ((H m (Y k) zR).f))] [0,2,3,4,5,6,7,64] (OX (Vo a) d h j n g (Ev g) (show F ([sL S ((H m (Y k) zR).fs),W (((H m (Y k) zR).r).1),sL A (((H m (Y k) zR).r).2),J X ((H m (Y k) zR).e),W (((H m (Y k) zR).t).1),sL A (((H m (Y k) zR).t).2),J X ((H m (Y k) zR).f)]:AK)=1*7 from rfl) (Ff o d q s u)))))) (Ab A1 [] HS a0))
theorem Awm(c1:E (k<F m)=false):Z T5 (K_ ls l i m k) xZ2 (K_ ls l i m k):=AG (Ab A1 [bF] HS (BO c1))
end
def T6:ICode:=a ZD 93 116
section
variable(ls:List D)(l:List Rt)(i:Int)
def Kc:Az:=C (sL pp ls)::L 1 (Ak 7 0 []::C (P (F l) (C2 l))::N i::L 70 [])
theorem Awn(d:Int)(c1:E (i<F ls)=true)(b:E (d<1)=true)(a:0<=i/\i<F ls)(c:T 21 [sL S (H ls (Y i) [])] (J X d)):Z T6 (Kc ls l i) .norm (Kc ls l (Q X (i+1))):=Ag (Ab (t:=(C (sL pp ls)::L 1 (Ak 7 0 []::C (P (F l) (C2 l))::N i::L 70 []))) A1 [bT] Fy (BO c1)) (Ag (A7 (As (As (AG (Ab (t:=(C (sL pp ls)::L 1 (Ak 7 0 []::C (P (F l) (C2 l))::N i::L 70 []))) (ex:=xZ1) A1 [.v (sL S (H ls (Y i) [])),.r (J X d),bT] Fy (FJ a (B3 a) c b)))))) (Ab A1 [] Fy a0))
theorem Awo(d k:Int)(m e:List Rt)(c1:E (i<F ls)=true)(b:E (d<1)=false)(a:0<=i/\i<F ls)(c:T 21 [sL S (H ls (Y i) [])] (J X d))(f:T 94 [J X 0] (A4 (V 0) 0))(g:T 94 [J X 1] (A4 (V 1) 0))(h:T 60 [sL S (H ls (Y i) []),A4 (V 0) 0,A4 (V 1) 0] (Ae 7 (F m) (C2 m)))(j:Z (.loop T5) (K_ ls l i m 0) xZ2 (K_ ls e i m k)):Z T6 (Kc ls l i) .norm (Kc ls e (Q X (i+1))):=Ag (Ab (t:=(C (sL pp ls)::L 1 (Ak 7 0 []::C (P (F l) (C2 l))::N i::L 70 []))) A1 [bT] Fy (BO c1)) (Ag (Bo (As (As (Ag (Ab A1 [.v (sL S (H ls (Y i) [])),.r (J X d),bF,.v (sL S (H ls (Y i) [])),.r (A4 (V 0) 0),.r (A4 (V 1) 0),.r (Ae 7 (F m) (C2 m))] HS (M3 a (B3 a) c b a (B3 a) f g h)) (A7 j))))) (Ab A1 [] Fy a0))
theorem Awp(c1:E (i<F ls)=false):Z T6 (Kc ls l i) xZ0 (Kc ls l i):=AG (Ab A1 [bF] Fy (BO c1))
theorem A9t(n:Z (.loop T6) (Kc ls ([]) 0) xZ0 (Kc ls l i)):T 175 [sL pp ls] (P (F l) (C2 l)):=CQ ZD (L 2 (C (P (F l) (C2 l))::L 72 [])) (As (AA (Ag (Ab A1 [] Fy a0) (Ag (A7 n) (Ab A1 [] [2] a0)))))
end
def Ph:ICode:=a Aaq 96 12
section
variable(fs:D)(r:Rn)(e:Int)(t:Rn)(f:Int)(x:Bool)(a:D)(p:Rn)(c:Int)(q:Rn)(d:Int)(y:Bool)(o:Rn)(M:Int)
def HO:Az:=L 1 (C (W x)::L 1 (C (W y)::GW fs r e t f::L 1 (GW a p c q d::L 1 (AH [W o.1,P (F o.2) (A o.2),J X M]::L 21 []))))
theorem A9u(s m g:Int)(c1:x=true)(b:y=true)(h:E (s<0)=true)(i:T 94 [J X 0] (A4 (V 0) 0))(j:T 94 [J X 1] (A4 (V 1) 0))(k:T 33 [A4 t f,A4 p c] (J X s))(l:T 121 [A4 t f,A4 p c] (A4 (V m) g)):Z Ph (HO fs r e t f x a p c q d y o M) .ret (HO fs r e t f x a p c q d y (V m) g):=Ab A1 [.r (A4 (V 0) 0),.r (A4 (V 1) 0),bT,bT,.r (J X s),bT,.r (A4 (V m) g)] Vm (GZ i j c1 b k h l)
theorem A9v(s:Int)(n u:D)(v w z B:Rn)(G H I K:Int)(c1:x=true)(b:y=true)(h:E (s<0)=false)(i:T 94 [J X 0] (A4 (V 0) 0))(j:T 94 [J X 1] (A4 (V 1) 0))(k:T 33 [A4 t f,A4 p c] (J X s))(l:T 72 [Bh fs r e t f] (Bh n v G w H))(N:T 72 [Bh a p c q d] (Bh u z I B K)):Z Ph (HO fs r e t f x a p c q d y o M) .norm (HO n v G w H x u z I B K y o M):=Ab A1 [.r (A4 (V 0) 0),.r (A4 (V 1) 0),bT,bT,.r (J X s),bF,.r (Bh n v G w H),.r (Bh u z I B K)] Vm (Ip i j c1 b k h l N)
theorem A9w(s m g:Int)(c1:x=true)(b:y=false)(h:E (s<0)=true)(i:T 94 [J X 0] (A4 (V 0) 0))(j:T 94 [J X 1] (A4 (V 1) 0))(k:T 33 [A4 t f,A4 (V 1) 0] (J X s))(l:T 121 [A4 t f,A4 (V 1) 0] (A4 (V m) g)):Z Ph (HO fs r e t f x a p c q d y o M) .ret (HO fs r e t f x a p c q d y (V m) g):=Ab A1 [.r (A4 (V 0) 0),.r (A4 (V 1) 0),bT,bF,.r (J X s),bT,.r (A4 (V m) g)] Vm (GZ i j c1 b k h l)
theorem A9x(s:Int)(n u:D)(v w z B:Rn)(G H I K:Int)(c1:x=true)(b:y=false)(h:E (s<0)=false)(i:T 94 [J X 0] (A4 (V 0) 0))(j:T 94 [J X 1] (A4 (V 1) 0))(k:T 33 [A4 t f,A4 (V 1) 0] (J X s))(l:T 72 [Bh fs r e t f] (Bh n v G w H))(N:T 72 [Bh a p c q d] (Bh u z I B K)):Z Ph (HO fs r e t f x a p c q d y o M) .norm (HO n v G w H x u z I B K y o M):=Ab A1 [.r (A4 (V 0) 0),.r (A4 (V 1) 0),bT,bF,.r (J X s),bF,.r (Bh n v G w H),.r (Bh u z I B K)] Vm (Ip i j c1 b k h l N)
theorem A9y(s m g:Int)(c1:x=false)(b:y=true)(h:E (s<0)=true)(i:T 94 [J X 0] (A4 (V 0) 0))(j:T 94 [J X 1] (A4 (V 1) 0))(k:T 33 [A4 (V 0) 0,A4 p c] (J X s))(l:T 121 [A4 (V 0) 0,A4 p c] (A4 (V m) g)):Z Ph (HO fs r e t f x a p c q d y o M) .ret (HO fs r e t f x a p c q d y (V m) g):=Ab A1 [.r (A4 (V 0) 0),.r (A4 (V 1) 0),bF,bT,.r (J X s),bT,.r (A4 (V m) g)] Vm (GZ i j c1 b k h l)
theorem A9z(s:Int)(n u:D)(v w z B:Rn)(G H I K:Int)(c1:x=false)(b:y=true)(h:E (s<0)=false)(i:T 94 [J X 0] (A4 (V 0) 0))(j:T 94 [J X 1] (A4 (V 1) 0))(k:T 33 [A4 (V 0) 0,A4 p c] (J X s))(l:T 72 [Bh fs r e t f] (Bh n v G w H))(N:T 72 [Bh a p c q d] (Bh u z I B K)):Z Ph (HO fs r e t f x a p c q d y o M) .norm (HO n v G w H x u z I B K y o M):=Ab A1 [.r (A4 (V 0) 0),.r (A4 (V 1) 0),bF,bT,.r (J X s),bF,.r (Bh n v G w H),.r (Bh u z I B K)] Vm (Ip i j c1 b k h l N)
theorem AAa(s m g:Int)(c1:x=false)(b:y=false)(h:E (s<0)=true)(i:T 94 [J X 0] (A4 (V 0) 0))(j:T 94 [J X 1] (A4 (V 1) 0))(k:T 33 [A4 (V 0) 0,A4 (V 1) 0] (J X s))(l:T 121 [A4 (V 0) 0,A4 (V 1) 0] (A4 (V m) g)):Z Ph (HO fs r e t f x a p c q d y o M) .ret (HO fs r e t f x a p c q d y (V m) g):=Ab A1 [.r (A4 (V 0) 0),.r (A4 (V 1) 0),bF,bF,.r (J X s),bT,.r (A4 (V m) g)] Vm (GZ i j c1 b k h l)
theorem AAb(s:Int)(n u:D)(v w z B:Rn)(G H I K:Int)(c1:x=false)(b:y=false)(h:E (s<0)=false)(i:T 94 [J X 0] (A4 (V 0) 0))(j:T 94 [J X 1] (A4 (V 1) 0))(k:T 33 [A4 (V 0) 0,A4 (V 1) 0] (J X s))(l:T 72 [Bh fs r e t f] (Bh n v G w H))(N:T 72 [Bh a p c q d] (Bh u z I B K)):Z Ph (HO fs r e t f x a p c q d y o M) .norm (HO n v G w H x u z I B K y o M):=Ab A1 [.r (A4 (V 0) 0),.r (A4 (V 1) 0),bF,bF,.r (J X s),bF,.r (Bh n v G w H),.r (Bh u z I B K)] Vm (Ip i j c1 b k h l N)
end
theorem AAc(fs a b h:D)(r t p q i j k l:Rn)(e f c d n o s u:Int)(x y:Bool)(m g:Int)(v:Z (.loop Ph) (HO fs r e t f x a p c q d y (false,[]) 0) .ret (HO b i n j o x h k s l u y (V m) g)):T 176 [Bh fs r e t f,W x,Bh a p c q d,W y] (A4 (V m) g):=CQ Aaq (L 1 (C (W x)::L 1 (C (W y)::GW b i n j o::L 1 (GW h k s l u::L 1 (AH [W ((V m).1),sL A ((V m).2),J X g]::L 21 []))))) (Ag (Ab A1 [] Vm a0) (BT v))
def I9:ICode:=a mN 92 244
section
variable(b:D)(h:Rn)(j:Int)(k:Rn)(n:Int)(o:Bool)(ls:List D)(l:List Rt)(fs:D)(r:Rn)(e:Int)(t:Rn)(f i:Int)
def FN:Az:=C (sL pp ls)::L 1 (GW b h j k n::C (W o)::C (P (F l) (C2 l))::GW fs r e t f::N i::L 44 [])
theorem AAd(s:Int)(c1:E (i<=F l)=true)(u:E (i<F l)=true)(x:E (i>0)=true)(y:E (s>=0)=true)(a:0<=i/\i<F l)(z:T 94 [J X 1] (A4 (V 1) 0))(A:T 27 [Bh fs r e t f,A4 (V 1) 0] (J X s)):Z I9 (FN b h j k n o ls l fs r e t f i) xZ0 (FN b h j k n o ls l fs r e t f i):=Ab A1 [bT,bT,.v (Bh ((H l (Y i) zR).fs) ((H l (Y i) zR).r) ((H l (Y i) zR).e) ((H l (Y i) zR).t) ((H l (Y i) zR).f)),bT,.r (A4 (V 1) 0),.r (J X s),bT] HS (Ip c1 u a (Ev a) x z A y)
theorem AAe(s m g:Int)(w:Bool)(c1:E (i<=F l)=true)(u:E (i<F l)=true)(x:E (i>0)=true)(y:E (s>=0)=false)(B:w=true)(M:(i==0)=false)(a:0<=i/\i<F l)(z:T 94 [J X 1] (A4 (V 1) 0))(A:T 27 [Bh fs r e t f,A4 (V 1) 0] (J X s))(G:T 176 [Bh fs r e t f,W (E (i>0)),Bh ((H l (Y i) zR).fs) ((H l (Y i) zR).r) ((H l (Y i) zR).e) ((H l (Y i) zR).t) ((H l (Y i) zR).f),W (E (i<F l))] (A4 (V m) g))(K:T 93 [sL pp ls,A4 (V m) g] (W w)):Z I9 (FN b h j k n o ls l fs r e t f i) .ret (FN fs r e t f true ls l fs r e t f i):=Ab A1 [bT,bT,.v (Bh ((H l (Y i) zR).fs) ((H l (Y i) zR).r) ((H l (Y i) zR).e) ((H l (Y i) zR).t) ((H l (Y i) zR).f)),bT,.r (A4 (V 1) 0),.r (J X s),bF,.r (A4 (V m) g),.r (W w),bT,bF] HS (Vi c1 u a (Ev a) x z A y G K B M)
theorem AAf(s m g:Int)(w:Bool)(c1:E (i<=F l)=true)(u:E (i<F l)=true)(x:E (i>0)=true)(y:E (s>=0)=false)(B:w=false)(a:0<=i/\i<F l)(z:T 94 [J X 1] (A4 (V 1) 0))(A:T 27 [Bh fs r e t f,A4 (V 1) 0] (J X s))(G:T 176 [Bh fs r e t f,W (E (i>0)),Bh ((H l (Y i) zR).fs) ((H l (Y i) zR).r) ((H l (Y i) zR).e) ((H l (Y i) zR).t) ((H l (Y i) zR).f),W (E (i<F l))] (A4 (V m) g))(K:T 93 [sL pp ls,A4 (V m) g] (W w)):Z I9 (FN b h j k n o ls l fs r e t f i) .norm (FN b h j k n o ls l ((H l (Y i) zR).fs) ((H l (Y i) zR).r) ((H l (Y i) zR).e) ((H l (Y i) zR).t) ((H l (Y i) zR).f) (Q X (i+1))):=Ab A1 [bT,bT,.v (Bh ((H l (Y i) zR).fs) ((H l (Y i) zR).r) ((H l (Y i) zR).e) ((H l (Y i) zR).t) ((H l (Y i) zR).f)),bT,.r (A4 (V 1) 0),.r (J X s),bF,.r (A4 (V m) g),.r (W w),bF] HS (IU c1 u a (Ev a) x z A y G K B)
theorem AAg(m g:Int)(w:Bool)(I:D)(p q:Rn)(c d:Int)(c1:E (i<=F l)=true)(u:E (i<F l)=true)(x:E (i>0)=false)(y:w=true)(B:(i==0)=true)(a:0<=i/\i<F l)(z:T 176 [Bh fs r e t f,W (E (i>0)),Bh ((H l (Y i) zR).fs) ((H l (Y i) zR).r) ((H l (Y i) zR).e) ((H l (Y i) zR).t) ((H l (Y i) zR).f),W (E (i<F l))] (A4 (V m) g))(A:T 93 [sL pp ls,A4 (V m) g] (W w))(G:T 94 [J X 0] (A4 (V 0) 0))(K:T 173 [A4 (V 0) 0] (Bh I p c q d)):Z I9 (FN b h j k n o ls l fs r e t f i) .ret (FN I p c q d true ls l fs r e t f i):=Ab A1 [bT,bT,.v (Bh ((H l (Y i) zR).fs) ((H l (Y i) zR).r) ((H l (Y i) zR).e) ((H l (Y i) zR).t) ((H l (Y i) zR).f)),bF,bF,.r (A4 (V m) g),.r (W w),bT,bT,.r (A4 (V 0) 0),.r (Bh I p c q d)] HS (Vi c1 u a (Ev a) x F9 z A y B G K)
theorem AAh(m g:Int)(w:Bool)(c1:E (i<=F l)=true)(u:E (i<F l)=true)(x:E (i>0)=false)(y:w=false)(a:0<=i/\i<F l)(z:T 176 [Bh fs r e t f,W (E (i>0)),Bh ((H l (Y i) zR).fs) ((H l (Y i) zR).r) ((H l (Y i) zR).e) ((H l (Y i) zR).t) ((H l (Y i) zR).f),W (E (i<F l))] (A4 (V m) g))(A:T 93 [sL pp ls,A4 (V m) g] (W w)):Z I9 (FN b h j k n o ls l fs r e t f i) .norm (FN b h j k n o ls l ((H l (Y i) zR).fs) ((H l (Y i) zR).r) ((H l (Y i) zR).e) ((H l (Y i) zR).t) ((H l (Y i) zR).f) (Q X (i+1))):=Ab A1 [bT,bT,.v (Bh ((H l (Y i) zR).fs) ((H l (Y i) zR).r) ((H l (Y i) zR).e) ((H l (Y i) zR).t) ((H l (Y i) zR).f)),bF,bF,.r (A4 (V m) g),.r (W w),bF] HS (M3 c1 u a (Ev a) x F9 z A y)
theorem AAi(s:Int)(c1:E (i<=F l)=true)(u:E (i<F l)=false)(x:E (i>0)=true)(y:E (s>=0)=true)(a:T 94 [J X 1] (A4 (V 1) 0))(z:T 27 [Bh fs r e t f,A4 (V 1) 0] (J X s)):Z I9 (FN b h j k n o ls l fs r e t f i) xZ0 (FN b h j k n o ls l fs r e t f i):=Ab A1 [bT,bF,bT,.r (A4 (V 1) 0),.r (J X s),bT] HS (Gm c1 u x a z y)
theorem Awq(s m g:Int)(w:Bool)(c1:E (i<=F l)=true)(u:E (i<F l)=false)(x:E (i>0)=true)(y:E (s>=0)=false)(B:w=true)(M:(i==0)=false)(a:T 94 [J X 1] (A4 (V 1) 0))(z:T 27 [Bh fs r e t f,A4 (V 1) 0] (J X s))(A:T 176 [Bh fs r e t f,W (E (i>0)),Ao [P 0 [],W false,P 0 [],J X 0,W false,P 0 [],J X 0],W (E (i<F l))] (A4 (V m) g))(G:T 93 [sL pp ls,A4 (V m) g] (W w)):Z I9 (FN b h j k n o ls l fs r e t f i) .ret (FN fs r e t f true ls l fs r e t f i):=Ab A1 [bT,bF,bT,.r (A4 (V 1) 0),.r (J X s),bF,.r (A4 (V m) g),.r (W w),bT,bF] HS (Kw c1 u x a z y A G B M)
theorem Awr(s m g:Int)(w:Bool)(c1:E (i<=F l)=true)(u:E (i<F l)=false)(x:E (i>0)=true)(y:E (s>=0)=false)(B:w=false)(a:T 94 [J X 1] (A4 (V 1) 0))(z:T 27 [Bh fs r e t f,A4 (V 1) 0] (J X s))(A:T 176 [Bh fs r e t f,W (E (i>0)),Ao [P 0 [],W false,P 0 [],J X 0,W false,P 0 [],J X 0],W (E (i<F l))] (A4 (V m) g))(G:T 93 [sL pp ls,A4 (V m) g] (W w)):Z I9 (FN b h j k n o ls l fs r e t f i) .norm (FN b h j k n o ls l ([]) (false,[]) 0 (false,[]) 0 (Q X (i+1))):=Ab A1 [bT,bF,bT,.r (A4 (V 1) 0),.r (J X s),bF,.r (A4 (V m) g),.r (W w),bF] HS (M3 c1 u x a z y A G B)
theorem Aws(m g:Int)(w:Bool)(I:D)(p q:Rn)(c d:Int)(c1:E (i<=F l)=true)(u:E (i<F l)=false)(x:E (i>0)=false)(y:w=true)(B:(i==0)=true)(a:T 176 [Bh fs r e t f,W (E (i>0)),Ao [P 0 [],W false,P 0 [],J X 0,W false,P 0 [],J X 0],W (E (i<F l))] (A4 (V m) g))(z:T 93 [sL pp ls,A4 (V m) g] (W w))(A:T 94 [J X 0] (A4 (V 0) 0))(G:T 173 [A4 (V 0) 0] (Bh I p c q d)):Z I9 (FN b h j k n o ls l fs r e t f i) .ret (FN I p c q d true ls l fs r e t f i):=Ab A1 [bT,bF,bF,bF,.r (A4 (V m) g),.r (W w),bT,bT,.r (A4 (V 0) 0),.r (Bh I p c q d)] HS (Kw c1 u x F9 a z y B A G)
theorem Awt(m g:Int)(w:Bool)(c1:E (i<=F l)=true)(u:E (i<F l)=false)(x:E (i>0)=false)(y:w=false)(a:T 176 [Bh fs r e t f,W (E (i>0)),Ao [P 0 [],W false,P 0 [],J X 0,W false,P 0 [],J X 0],W (E (i<F l))] (A4 (V m) g))(z:T 93 [sL pp ls,A4 (V m) g] (W w)):Z I9 (FN b h j k n o ls l fs r e t f i) .norm (FN b h j k n o ls l ([]) (false,[]) 0 (false,[]) 0 (Q X (i+1))):=Ab A1 [bT,bF,bF,bF,.r (A4 (V m) g),.r (W w),bF] HS (GZ c1 u x F9 a z y)
theorem Awu(c1:E (i<=F l)=false):Z I9 (FN b h j k n o ls l fs r e t f i) xZ0 (FN b h j k n o ls l fs r e t f i):=Ab A1 [bF] HS (BO c1)
end
theorem AAj(ls:List D)(l:List Rt)(fs:D)(r t:Rn)(e f i:Int)(a:T 175 [sL pp ls] (P (F l) (C2 l)))(b:Z (.loop I9) (FN ([]) (false,[]) 0 (false,[]) 0 false ls l ([]) (false,[]) 0 (false,[]) 0 0) xZ0 (FN ([]) (false,[]) 0 (false,[]) 0 false ls l fs r e t f i)):T 142 [sL pp ls] (A3 [Ao [P 0 [],W false,P 0 [],J X 0,W false,P 0 [],J X 0],W false]):=CQ mN (L 2 (AH [P 0 [],W false,P 0 [],J X 0,W false,P 0 [],J X 0]::C (W false)::L 47 [])) (As (As (AA (Ag (Ab A1 [.r (P (F l) (C2 l))] HS (BO a)) (Ag (A7 b) (Ab A1 [] RI a0))))))
theorem Awv(ls:List D)(l:List Rt)(a fs:D)(b c r t:Rn)(d n e f i:Int)(o:Bool)(g:T 175 [sL pp ls] (P (F l) (C2 l)))(h:Z (.loop I9) (FN ([]) (false,[]) 0 (false,[]) 0 false ls l ([]) (false,[]) 0 (false,[]) 0 0) .ret (FN a b d c n o ls l fs r e t f i)):T 142 [sL pp ls] (A3 [Bh a b d c n,W o]):=CQ mN (C (sL pp ls)::L 1 (GW a b d c n::C (W o)::C (P (F l) (C2 l))::GW fs r e t f::N i::L 44 [])) (As (As (AA (Ag (Ab A1 [.r (P (F l) (C2 l))] HS (BO g)) (AG (BT h))))))
def kW:ICode:=a Ajj 92 244
section
variable(ls:List D)(k:Nat)(cs:AK)(m:Nat)(a:AK)(i:Int)
def SF:Az:=C (sL pp ls)::L 1 (AH [P 0 [],W false,P 0 [],J X 0,W false,P 0 [],J X 0]::C (W false)::Ak 1 k cs::Ak 1 m a::N i::L 39 [])
theorem AFp(ts bs:D)(c1:E (i<F ls)=true)(b:0<=i/\i<F ls)(c:m+1<=1048576)(d:k+1<=1048576)(e:T 46 [sL S (H ls (Y i) [])] (Ae 2 (F ts) (S ts)))(f:T 140 [sL S (H ls (Y i) [])] (Ae 2 (F bs) (S bs))):Z kW (SF ls k cs m a i) .norm (SF ls (k+1) (cs++([sL S bs]:AK)) (m+1) (a++([sL S ts]:AK)) (Q X (i+1))):=Ab A1 [bT,.v (sL S (H ls (Y i) [])),.r (Ae 2 (F ts) (S ts)),.v (sL S (H ls (Y i) [])),.r (Ae 2 (F bs) (S bs))] HS (IU c1 b (B3 b) e (show F ([sL S ts]:AK)=1*1 from rfl) c b (B3 b) f (show F ([sL S bs]:AK)=1*1 from rfl) d)
theorem AFq(c1:E (i<F ls)=false):Z kW (SF ls k cs m a i) xZ0 (SF ls k cs m a i):=Ab A1 [bF] HS (BO c1)
end
theorem Aww(ls bs ps:List D)(fs:D)(r t:Rn)(e f x i:Int)(c1:(x != 2)=true)(a:Z (.loop kW) (SF ls 0 ([]:AK) 0 ([]:AK) 0) xZ0 (SF ls (F bs) (pp bs) (F ps) (pp ps) i))(b:T 141 [sL pp ps,sL pp bs,J X 0,J X 0] (A3 [Bh fs r e t f,J X x])):T 90 [sL pp ls] (A3 [Bh fs r e t f,W (x==1)]):=CQ Ajj (L 2 (GW fs r e t f::C (W (x==1))::L 42 [])) (As (As (AA (Ag (Ab A1 [] HS a0) (Ag (A7 a) (Ab A1 [.r (A3 [Bh fs r e t f,J X x]),bT] RI (DH b c1)))))))
theorem Awx(ls bs ps:List D)(fs a:D)(r t p q:Rn)(e f c d x i:Int)(w:Bool)(c1:(x != 2)=false)(b:Z (.loop kW) (SF ls 0 ([]:AK) 0 ([]:AK) 0) xZ0 (SF ls (F bs) (pp bs) (F ps) (pp ps) i))(g:T 141 [sL pp ps,sL pp bs,J X 0,J X 0] (A3 [Bh fs r e t f,J X x]))(h:T 142 [sL pp ls] (A3 [Bh a p c q d,W w])):T 90 [sL pp ls] (A3 [Bh a p c q d,W w]):=CQ Ajj (L 2 (GW a p c q d::C (W w)::L 42 [])) (As (As (AA (Ag (Ab A1 [] HS a0) (Ag (A7 b) (Ab A1 [.r (A3 [Bh fs r e t f,J X x]),bF,.r (A3 [Bh a p c q d,W w])] RI (Gy g c1 h)))))))
def dN:ICode:=a sE 78 3820700
section
variable(o:Bool)(ll:l)(i j:Int)(rs:D)(k:Int)
def QO:Az:=C (P (F ll) (ER ll))::L 1 (C (W o)::N i::N j::C (sL S rs)::N k::L 47 [])
theorem AAk(z:Int)(c1:E (z>200)=false)(a:E (k<F rs)=true)(b:0<=k/\k<F rs)(c:T 51 [AB (H rs (Y k) z0)] (J X z)):Z dN (QO o ll i j rs k) .norm (QO o ll i j rs (Q X (k+1))):=Ab A1 [bT,.v (AB (H rs (Y k) z0)),.r (J X z),bF] HS (Ff a b (BZ b) c c1)
theorem AAl(a:E (k<F rs)=false):Z dN (QO o ll i j rs k) xZ4 (QO o ll i j rs k):=Ab A1 [bF] HS (BO a)
end
def dO:ICode:=a sE 86 14924
section
variable(o:Bool)(ll:l)(i j:Int)
def QP:Az:=C (P (F ll) (ER ll))::L 1 (C (W o)::N i::N j::L 49 [])
theorem AAm(ts:D)(k:Int)(c1:E ((F ts:Int)>9)=false)(b:E (j<(F (H ll (Y i) []):Int))=true)(a:0<=i/\i<F ll)(c:0<=j/\j<(F (H ll (Y i) []):Int))(d:T 46 [sL S (H (H ll (Y i) []) (Y j) [])] (Ae 2 (F ts) (S ts)))(e:Z (.loop dN) (QO o ll i j ts 0) xZ4 (QO o ll i j ts k)):Z dO (QP o ll i j) .norm (QP o ll i (Q X (j+1))):=Ag (Ab (t:=(C (P (F ll) (ER ll))::L 1 (C (W o)::N i::N j::L 49 []))) A1 [.v (sL pp (H ll (Y i) [])),bT] Fy (Gy a (Cn a) b)) (Ag (Bo (As (As (Ag (Ab A1 [.v (sL pp (H ll (Y i) [])),.v (sL S (H (H ll (Y i) []) (Y j) [])),.r (Ae 2 (F ts) (S ts)),bF] HS (Gm a (Cn a) c (B3 c) d c1)) (A7 e))))) (Ab A1 [] Fy a0))
theorem AAn(b:E (j<(F (H ll (Y i) []):Int))=false)(a:0<=i/\i<F ll):Z dO (QP o ll i j) xZ2 (QP o ll i j):=AG (Ab A1 [.v (sL pp (H ll (Y i) [])),bF] Fy (Gy a (Cn a) b))
end
def qQ:ICode:=a sE 93 116
section
variable(o:Bool)(ll:l)(i:Int)
def UR:Az:=C (P (F ll) (ER ll))::L 1 (C (W o)::N i::L 50 [])
theorem AAo(j:Int)(c1:E ((F (H ll (Y i) []):Int)>16)=false)(a:E (i<F ll)=true)(b:0<=i/\i<F ll)(c:Z (.loop dO) (QP o ll i 0) xZ2 (QP o ll i j)):Z qQ (UR o ll i) .norm (UR o ll (Q X (i+1))):=Ag (Ab (t:=(C (P (F ll) (ER ll))::L 1 (C (W o)::N i::L 50 []))) A1 [bT] IC (BO a)) (Ag (Bo (As (Ag (Ab A1 [.v (sL pp (H ll (Y i) [])),bF] Fy (Gy b (Cn b) c1)) (A7 c)))) (Ab A1 [] IC a0))
theorem AAp(a:E (i<F ll)=false):Z qQ (UR o ll i) xZ0 (UR o ll i):=AG (Ab A1 [bF] IC (BO a))
end
theorem AFr(ll:l)(i:Int)(c1:E ((F ll:Int)>64)=false)(a:Z (.loop qQ) (UR false ll 0) xZ0 (UR false ll i)):T 92 [P (F ll) (ER ll)] (W false):=CQ sE (L 2 (C (W false)::L 51 [])) (As (AA (Ag (Ab A1 [bF] IC (BO c1)) (Ag (A7 a) (Ab A1 [] [2] a0)))))
def Ws:ICode:=a Aja 93 116
section
variable(o:Bool)(z:Int)(ll:l)(i:Int)
def Lg:Az:=C (P (F ll) (ER ll))::L 1 (C (W o)::N z::N i::L 35 [])
theorem AFs(b:D)(p q:Rn)(c d:Int)(w:Bool)(c1:E (i<F ll)=true)(e:w=true)(a:0<=i/\i<F ll)(f:T 90 [sL pp (H ll (Y i) [])] (A3 [Bh b p c q d,W w])):Z Ws (Lg o z ll i) .ret (Lg true 0 ll i):=Ab A1 [bT,.v (sL pp (H ll (Y i) [])),.r (A3 [Bh b p c q d,W w]),bT,bT,bT] Fy (GZ c1 a (Cn a) f e I6 I6)
theorem AFt(b:D)(p q:Rn)(c d:Int)(w x:Bool)(c1:E (i<F ll)=true)(e:w=false)(g:x=true)(a:0<=i/\i<F ll)(f:T 90 [sL pp (H ll (Y i) [])] (A3 [Bh b p c q d,W w]))(h:T 94 [J X 0] (A4 (V 0) 0))(j:T 93 [sL pp (H ll (Y i) []),A4 (V 0) 0] (W x)):Z Ws (Lg o z ll i) .ret (Lg true 0 ll i):=Ab A1 [bT,.v (sL pp (H ll (Y i) [])),.r (A3 [Bh b p c q d,W w]),bF,.v (sL pp (H ll (Y i) [])),.r (A4 (V 0) 0),.r (W x),bT,bT] Fy (IU c1 a (Cn a) f e a (Cn a) h j g I6)
theorem AFu(b:D)(p q:Rn)(c d:Int)(w x y:Bool)(c1:E (i<F ll)=true)(e:w=false)(g:x=false)(k:y=true)(a:0<=i/\i<F ll)(f:T 90 [sL pp (H ll (Y i) [])] (A3 [Bh b p c q d,W w]))(h:T 94 [J X 0] (A4 (V 0) 0))(j:T 93 [sL pp (H ll (Y i) []),A4 (V 0) 0] (W x))(m:T 94 [J X 1] (A4 (V 1) 0))(n:T 93 [sL pp (H ll (Y i) []),A4 (V 1) 0] (W y)):Z Ws (Lg o z ll i) .ret (Lg true 0 ll i):=Ab A1 [bT,.v (sL pp (H ll (Y i) [])),.r (A3 [Bh b p c q d,W w]),bF,.v (sL pp (H ll (Y i) [])),.r (A4 (V 0) 0),.r (W x),bF,.v (sL pp (H ll (Y i) [])),.r (A4 (V 1) 0),.r (W y),bT] Fy (OX c1 a (Cn a) f e a (Cn a) h (GZ j g a (Cn a) m n k))
theorem AFv(b:D)(p q:Rn)(c d:Int)(w x y:Bool)(c1:E (i<F ll)=true)(e:w=false)(g:x=false)(k:y=false)(a:0<=i/\i<F ll)(f:T 90 [sL pp (H ll (Y i) [])] (A3 [Bh b p c q d,W w]))(h:T 94 [J X 0] (A4 (V 0) 0))(j:T 93 [sL pp (H ll (Y i) []),A4 (V 0) 0] (W x))(m:T 94 [J X 1] (A4 (V 1) 0))(n:T 93 [sL pp (H ll (Y i) []),A4 (V 1) 0] (W y)):Z Ws (Lg o z ll i) .norm (Lg o z ll (Q X (i+1))):=Ab A1 [bT,.v (sL pp (H ll (Y i) [])),.r (A3 [Bh b p c q d,W w]),bF,.v (sL pp (H ll (Y i) [])),.r (A4 (V 0) 0),.r (W x),bF,.v (sL pp (H ll (Y i) [])),.r (A4 (V 1) 0),.r (W y),bF] Fy (OX c1 a (Cn a) f e a (Cn a) h (GZ j g a (Cn a) m n k))
theorem AFw(c1:E (i<F ll)=false):Z Ws (Lg o z ll i) xZ0 (Lg o z ll i):=Ab A1 [bF] Fy (BO c1)
end
theorem AFx(ll:l)(i:Int)(a:T 92 [P (F ll) (ER ll)] (W false))(b:Z (.loop Ws) (Lg false 0 ll 0) xZ0 (Lg false 0 ll i)):T 43 [P (F ll) (ER ll)] (A3 [W false,J X 0]):=CQ Aja (L 2 (C (W false)::N 0::L 36 [])) (As (AA (Ag (Ab A1 [.r (W false),bF] Fy (DH a F9)) (Ag (A7 b) (Ab A1 [] RI a0)))))
theorem AAq(ll:l)(i:Int)(a:T 92 [P (F ll) (ER ll)] (W false))(b:Z (.loop Ws) (Lg false 0 ll 0) .ret (Lg true 0 ll i)):T 43 [P (F ll) (ER ll)] (A3 [W true,J X 0]):=CQ Aja (C (P (F ll) (ER ll))::L 1 (C (W true)::N 0::N i::L 35 [])) (As (AA (Ag (Ab A1 [.r (W false),bF] Fy (DH a F9)) (AG (BT b)))))
theorem AAr(ll:l)(b w:Bool)(c1:(b==b)=true)(a:w=true)(c:T 36 [] (W true))(d:T 37 [P (F ll) (ER ll)] (W w))(e:T 42 [P (F ll) (ER ll)] (A3 [W b,J X 0]))(f:T 43 [P (F ll) (ER ll)] (A3 [W b,J X 0])):T 9 [P (F ll) (ER ll)] (W true):=Bc (fn:=iF AC Yx9) A1 rfl 400 rfl [.r (W true),bF,.r (W w),bF,.r (A3 [W b,J X 0]),.r (A3 [W b,J X 0]),bT] (GZ c F9 d (KA a) e f c1)
theorem AAs(ll:l)(w:Bool)(b:w=false)(a:T 36 [] (W true))(c:T 37 [P (F ll) (ER ll)] (W w)):T 9 [P (F ll) (ER ll)] (W true):=Bc (fn:=iF AC Yx9) A1 rfl 400 rfl [.r (W true),bF,.r (W w),bT,.r (W true)] (Ff a F9 c (Vo b) a)
theorem Awy:∀ n,n<=8->∀ i,i<n->AF (bin n i*((n:Int)-(i:Int))) ((i:Int)+1)=bin n (i+1):=by decide +kernel
theorem T7:∀ n,n<=8->∀ i,i<=n->1<=bin n i/\bin n i<=70:=by decide +kernel
theorem US{n k:Nat}(hn:n<=8)(hk:k<=n):T 170 [J X (n:Nat),J X (k:Nat)] (J X (bin n k)):=by
 refine A9h (n:Nat) (k:Nat) (bin n k) (k:Nat) ?_;have e0:bin n 0=1:=by cases n <;> rfl
 have l:=Et (prog:=DP) (c:=qO) (ex := .exit 0) (fin:=SD (n:Nat) (k:Nat) (bin n k) (k:Nat)) (fun i=>SD (n:Nat) (k:Nat) (bin n i) (i:Nat)) k (by nofun)
  (fun i hi=>by
   obtain⟨b1,b2⟩:=T7 n hn i (by omega);obtain⟨b,d⟩:=T7 n hn (i+1) (by omega);have hs:=Awy n hn i (by omega);have e:=A8 (show 0<=bin n i by omega) (show (0:Int)<=(n:Int)-(i:Int) by omega);have m1:=A8 (show 0<=70-bin n i by omega) (show (0:Int)<=(n:Int)-(i:Int) by omega);have f:(70-bin n i)*((n:Int)-(i:Int))=70*((n:Int)-(i:Int))-bin n i*((n:Int)-(i:Int)):=yR ..;have a:Q X (i+1)=(i:Int)+1:=By (by omega) (by omega);have k:=A9f (n:Nat) (k:Nat) (bin n i) (i:Nat) (by rw[AZ];omega) (by rw[a];omega);rw[a,By (n:=(n:Int)-(i:Int)) (by omega) (by omega),By (n:=bin n i*((n:Int)-(i:Int))) (by omega) (by omega),hs,By (n:=bin n (i+1)) (by omega) (by omega)] at k;exact k)
  (A9g _ _ _ _ (by rw[AW];omega)) 0 (A_ _)
 rw[e0] at l;exact l
theorem qR:∀ (f x y:Nat),y<=f->Z (.loop qP) (SE (x:Nat) (y:Nat)) xZ0 (SE (FO x y) 0):=by
 intro f;induction f with
 | zero =>
  intro x y hy;have:y=0:=by omega
  subst this;rw[Gw];exact Aq (xT (x:Nat) ((0:Nat)) (by decide))
 | succ f a =>
  intro x y hy;by_cases c:y=0
  ·subst c;rw[Gw];exact Aq (xT (x:Nat) ((0:Nat)) (by decide))
  ·have k:=A9i (x:Nat) (y:Nat) (by rw[AZ];omega) (by omega);have e:Bl (x:Int) (y:Int)=((x % y:Nat):Int):=by rw[BY (by omega)];omega
   rw[e] at k;have hm:=IV x (show 0<y by omega);have g:=a y (x % y) (by omega);have b:FO y (x % y)=FO x y:=by rw[Ji x y,yT y x,Ji]
   rw[b] at g;exact Bk k g
theorem xV(x y:Nat):T 171 [J X (x:Nat),J X (y:Nat)] (J X (FO x y)) :=
 A9j (x:Nat) (y:Nat) _ 0 (qR y x y (A2 _))
def GN(n:Nat):Nat->Nat
 | 0=>1
 | i+1=>GN n i*(bin n i).toNat / FO (GN n i) (bin n i).toNat
theorem qS:∀ n,n<=8->∀ i,i<=n+1->1<=GN n i/\GN n i<=1000:=by decide +kernel
def Jv(n i:Nat):Int:=AF (GN n (n+1):Int) (bin n i)
theorem qT:∀ n,n<=8->∀ i,i<=n->1<=Jv n i/\Jv n i<=1000/\Jv n i*bin n i=(GN n (n+1):Int):=by decide +kernel
def dP(t:G)(j:Nat):Int:=b (Jv (F t-1)) t 0 j
theorem AAt{t:G}(a:t ≠ [])(hl:F t<=9)(u v:Int):bv u v (F t-1) (dP t)=(GN (F t-1) (F t-1+1):Int)*hv t u (u+v):=by
 have hp:=Av.2 a;have h:=oD u v _ (Jv (F t-1)) (F t-1) (fun i hi=>(qT _ (by omega) i hi).2.2) t 0 (by omega);simp only[DC,D0] at h;exact h
theorem kX{t:G}{j:Nat}(hj:j<F t):b (Jv (F t-1)) (t.take (j+1)) 0 j=dP t j:=by
 have h2:=dK (Jv (F t-1)) (t.take (j+1)) (t.drop (j+1)) 0 j;rw[Ft,Xy _ (t.drop (j+1)) _ j (by rw[AX,Kh (by omega)];omega)] at h2;unfold dP;rw[h2];omega
theorem kY(a:Nat->Int){t:G}{k j:Nat}(hk:k<F t):b a (t.take (k+1)) 0 j=b a (t.take k) 0 j+bin j k*a k*H t k 0:=by
 have e:t.take (k+1)=t.take k++[t[k]]:=by rw[W_,Am hk];rfl
 rw[e,dJ,AX,Kh (by omega),Cv,Ad,Am hk];rfl
theorem UT{t:G}{a:Nat}(c:∀ i,I (H t i 0)<=a)(hl:F t<=8){j:Nat}(hj:j<F t):∀ k,k<=j+1->I (b (Jv (F t-1)) (t.take k) 0 j)<=k*70000*a
 | 0,_=>by simp[b]
 | k+1,hk=>by
  have d:=UT c hl hj k (by omega);rw[kY _ (by omega)];obtain⟨a1,a2⟩:=T7 j (by omega) k (by omega);obtain⟨b1,b2,_⟩:=qT (F t-1) (by omega) k (by omega);have h:=c k;have e:I (bin j k*Jv (F t-1) k*H t k 0)<=70000*a:=by
   rw[C1,C1];exact Ck (B6 (Ck (show I (bin j k)<=70 by omega) (show I (Jv (F t-1) k)<=1000 by omega)) (by decide)) h
  have f:(k+1)*70000*a=k*70000*a+70000*a:=by rw[DU,DU,Gi]
  have:=Int.natAbs_add_le (b (Jv (F t-1)) (t.take k) 0 j) (bin j k*Jv (F t-1) k*H t k 0);omega
def Oj(t:G):G:=(Ay (F t)).map (dP t)
section
variable {t:G} (hk:∀ i,I (H t i 0)<=2^113) (hl:F t<=8)
include hk hl
omit hk in
theorem Awz{n:Nat}(hn:n+1=F t):Z (.loop Wo) (Nb (t.map V) (n:Nat) 1 0) xZ0 (Nb (t.map V) (n:Nat) (GN n (n+1)) ((n+1:Nat))):=by
 refine Et (prog:=DP) (c:=Wo) (ex := .exit 0) (fun i=>Nb (t.map V) (n:Nat) (GN n i) (i:Nat)) (n+1) (by nofun) ?_ ?_ 0 (A_ _)
 ·intro i hi
  obtain⟨b1,b2⟩:=T7 n (by omega) i (by omega)
  obtain⟨a1,a2⟩:=qS n (by omega) i (by omega)
  obtain⟨a3,a4⟩:=qS n (by omega) (i+1) (by omega)
  obtain⟨c,hc⟩:∃ c:Nat,bin n i=(c:Nat):=⟨(bin n i).toNat,by omega⟩
  have ch:=US (n:=n) (k:=i) (by omega) (by omega)
  rw[hc] at ch
  have gp:0<FO (GN n i) c:=AHp _ (by omega)
  have hm:GN n i*c<=1000*70:=Ck a2 (by omega)
  have e:AF (Q X (GN n i*c)) (FO (GN n i) c:Int)=(GN n (i+1):Int):=by
   have ec:(GN n i:Int)*(c:Int)=((GN n i*c:Nat):Int):=by rw[Eg]
   rw[ec,wqz,Cu (by omega)]
   have el:GN n (i+1)=GN n i*(bin n i).toNat / FO (GN n i) (bin n i).toNat:=rfl
   rw[el,hc,Aa]
   rfl
  have k:=Avn (t.map V) (n:Nat) (GN n i) (i:Nat) (c:Nat) (FO (GN n i) c) (by rw[AZ];omega) (by omega) ch (xV _ _)
  rw[e,By (n:=(GN n (i+1):Int)) (by omega) (by omega),By (n:=(i:Int)+1) (by omega) (by omega)] at k
  exact k
 ·exact kU _ _ _ _ (by rw[AW];omega)
theorem Axa{j:Nat}(hj:j<F t){k:Nat}(a:k<=j+1):u 5 (b (Jv (F t-1)) (t.take k) 0 j):=by
 have h:=UT hk hl hj k a;refine C8 (k:=140) (B6 h ?_) (by decide);exact B6 (Bf _ (Bf _ (show k<=8 by omega))) (by decide)
theorem Aid(cs:AK)(m:Nat){j:Nat}(hj:j<F t):Z (.loop Wp) (Nc (t.map V) ((F t-1:Nat)) (GN (F t-1) (F t-1+1)) m cs (j:Nat) (false,[]) 0) xZ4 (Nc (t.map V) ((F t-1:Nat)) (GN (F t-1) (F t-1+1)) m cs (j:Nat) (V (dP t j)) ((j+1:Nat))):=by
 have z:V (b (Jv (F t-1)) (t.take 0) 0 j)=((false,[]):Rn):=by simp only[OQ,b];decide
 rw[<- z,<- kX hj];refine Et (prog:=DP) (c:=Wp) (ex := .exit 4) (fun k=>Nc (t.map V) ((F t-1:Nat)) (GN (F t-1) (F t-1+1)) m cs (j:Nat) (V (b (Jv (F t-1)) (t.take k) 0 j)) (k:Nat)) (j+1) (by nofun) ?_ ?_ 0 (A_ _)
 ·intro k p;obtain⟨a1,a2⟩:=T7 j (by omega) k (by omega);obtain⟨b1,b2,_⟩:=qT (F t-1) (by omega) k (by omega);obtain⟨q,r⟩:=T7 (F t-1) (by omega) k (by omega);have s:=A8 (show 0<=bin j k by omega) (show 0<=Jv (F t-1) k by omega);have w:bin j k*Jv (F t-1) k<=70*1000:=Fk a2 b2 (by omega) (by omega);have h:BC 1 (V (bin j k*Jv (F t-1) k)):=BB (by unfold u;omega);have i:BC 4 (H (t.map V) k z0):=by rw[F7 (by omega)];exact BB (C8 (hk k) (by decide))
  have a:=Xk h i (by decide);rw[AO,FZ] at a;have d:u 5 (bin j k*Jv (F t-1) k*H t k 0):=by
   have:=(show u 1 (bin j k*Jv (F t-1) k) by unfold u;omega).mul (C8 (hk k) (show 113<32*4 by decide));exact this.mono (by decide)
  have e:=Axa hk hl hj (show k<=j+1 by omega);have f:=NO (na:=(V (b (Jv (F t-1)) (t.take k) 0 j)).1) (nb:=(V (bin j k*Jv (F t-1) k*H t k 0)).1) (BB e).1 (BB d).1 (by have:=(BB e).2;omega) (by have:=(BB d).2;omega);rw[show v (V (b (Jv (F t-1)) (t.take k) 0 j)).1 (V (b (Jv (F t-1)) (t.take k) 0 j)).2=_ from AO _,show v (V (bin j k*Jv (F t-1) k*H t k 0)).1 (V (bin j k*Jv (F t-1) k*H t k 0)).2=_ from AO _,<- kY _ (by omega)] at f;have l:Q X (AF (GN (F t-1) (F t-1+1):Int) (bin (F t-1) k))=Jv (F t-1) k:=By (n:=Jv (F t-1) k) (by omega) (by omega);have o:Q X (bin j k*Jv (F t-1) k)=bin j k*Jv (F t-1) k:=By (by omega) (by omega);have g:=Avo (t.map V) ((F t-1:Nat)) (GN (F t-1) (F t-1+1)) m cs (j:Nat) (V (b (Jv (F t-1)) (t.take k) 0 j)) (k:Nat) (bin j k) (bin (F t-1) k) (bin j k*Jv (F t-1) k) (bin j k*Jv (F t-1) k*H t k 0) (b (Jv (F t-1)) (t.take (k+1)) 0 j)
   (by rw[AZ];omega) (by omega) (by rw[Ac];omega) (US (by omega) (by omega)) (US (by omega) (by omega)) (by rw[l,o];exact MW (by omega)) (by rw[Aa];exact a) f
  rw[By (n:=(k:Int)+1) (by omega) (by omega)] at g;exact g
 ·exact Avp _ _ _ _ _ _ _ _ (by rw[AW];omega)
theorem Axb{rs:D}(d:∀ r∈rs,BC 5 r)(i:F rs<=8)(e:Af (Al rs)=t):T 140 [sL S rs] (Ae 2 (F ((Oj t).map V)) (S ((Oj t).map V))):=by
 have a:=FD (FM (fun r hr=>(d r hr).mono (by decide)) (show F rs<=1048576 by omega));rw[e] at a;have f:F ((Oj t).map V)=F t:=by simp[Oj]
 rw[f];by_cases b:t=[]
 ·subst b;have l:Q X (F (([]:G).map V))-1 = -1:=by decide
  refine xU rs ([].map V) ([].map V) 1 0 0 0 a ?_ ?_
  ·exact Aq (kU _ _ _ _ (by decide))
  ·exact Aq (kV _ _ _ _ _ _ (by decide))
 have hp:=Av.2 b;have en:Q X ((F (t.map V):Nat)-1:Int)=((F t-1:Nat):Int):=by rw[Ac,wqz];omega
 have g:=Awz hl (n:=F t-1) (by omega);refine xU rs (t.map V) ((Oj t).map V) (GN (F t-1) (F t-1+1)) ((F t-1+1:Nat)) (F t:Nat) (F t) a ?_ ?_
 ·rw[en];exact g
 ·rw[en];have h:(Oj t).map V=(Ay (F t)).map fun j=>V (dP t j):=by unfold Oj;rw[Rr];rfl
  rw[h];refine Et (prog:=DP) (c:=Zg) (ex := .exit 2) (fun j=>QN (t.map V) ((F t-1:Nat)) (GN (F t-1) (F t-1+1)) j (S ((Ay j).map fun j=>V (dP t j))) (j:Nat)) (F t) (by nofun) ?_ ?_ 0 (A_ _)
  ·intro j hj;have k:=Avq (t.map V) ((F t-1:Nat)) (GN (F t-1) (F t-1+1)) j (S ((Ay j).map fun j=>V (dP t j))) (j:Nat) (V (dP t j)) ((j+1:Nat)) (by rw[AZ];omega) (Aid hk hl _ _ hj) (by omega);refine k.to rfl ?_;rw[By (n:=(j:Int)+1) (by omega) (by omega),<- Hn (fun j=>dP t j) j];rfl
  ·exact kV _ _ _ _ _ _ (by rw[AW];omega)
end
theorem kZ{k e:Nat}(hk:k<=4096)(i:e<=100):∃ fs r t,∃ a b:Int,T 173 [A4 (V (k:Nat)) (e:Nat)] (Bh fs r a t b):=by
 have hf:u 1 k:=by unfold u;omega
 have hr:=Ys (N:=(k:Int)) (e:=e) (by have:=hf.len;omega) (by omega);obtain⟨n,hn⟩:∃ n,n=(k:Int) / 2^EJ (k:Int) e:=⟨_,rfl⟩;obtain⟨f,h⟩:∃ f,f=e-EJ (k:Int) e:=⟨_,rfl⟩;rw[<- hn,<- h] at hr;have j:I n<=4096:=by
  have h1:0<=n:=by rw[hn];exact Kr (by omega) (A9 (Bz _))
  have h2:n<=(k:Int):=by rw[hn];exact Axp _ (by omega)
  omega
 have g:=BB (k:=1) (n:=n) (by unfold u;omega);have c:=Th (neg:=(V n).1) g.1 (by have:=g.2;omega);rw[show v (V n).1 (V n).2=n from AO n] at c;have d:=BB (k:=1) (n:=1) (by unfold u;decide);have up:=NQ (neg:=(V 1).1) d.1 f (by have:=d.2;omega);exact⟨[V (-n),V (v (V 1).1 (V 1).2*2^f)],V n,V n,_,_,A9r (V (k:Nat)) (e:Nat) n (f:Nat) (-n) _ hr c (MW (by decide)) up⟩
def qU(x:Int)(v:Int × Int × Int × Bool):Int × Int × Int × Bool :=
 if B4 x=0 then v else (if v.1=0 then B4 x else v.1,B4 x,if v.2.1 ≠ 0/\B4 x ≠ v.2.1 then v.2.2.1+1 else v.2.2.1,v.2.2.2 || decide (B4 x>0))
def Rl(f:Nat->Int):Nat->Int × Int × Int × Bool
 | 0=>(0,0,0,false)
 | i+1=>qU (f i) (Rl f i)
structure ShI (f:Nat->Int) (k:Nat) (v:Int × Int × Int × Bool):Prop where
 zero:v.1=0↔∀ i,i<k->f i=0
 lz:v.2.1=0↔v.1=0
 fst:v.1 ≠ 0->∃ j,j<k/\(∀ i,i<j->f i=0)/\f j ≠ 0/\v.1=B4 (f j)
 lst:v.1 ≠ 0->∃ j,j<k/\(∀ i,j<i->i<k->f i=0)/\f j ≠ 0/\v.2.1=B4 (f j)
 ab:v.2.2.2=true↔∃ i,i<k/\0<f i
 nb:0<=v.2.2.1/\v.2.2.1<=(k:Int)
 nz:v.1=0->v.2.2.1=0
 c0:v.2.2.1=0->v.2.1=v.1/\∀ i,i<k->f i ≠ 0->B4 (f i)=v.1
 c1:v.2.2.1=1->v.2.1 = -v.1
theorem Alj{x:Int}(h:x ≠ 0):B4 x=1\/B4 x = -1:=by unfold B4; (repeat' split) <;> omega
theorem QQ(f:Nat->Int):∀ k,ShI f k (Rl f k)
 | 0=>⟨⟨fun _ i hi=>by omega,fun _=>rfl⟩,⟨fun _=>rfl,fun _=>rfl⟩,fun h=>absurd rfl h,fun h=>absurd rfl h,⟨fun h=>(by cases h),fun ⟨i,hi,_⟩=>by omega⟩,show (0:Int)<=0/\(0:Int)<=((0:Nat):Int) from by decide,fun _=>rfl,fun _=>⟨rfl,fun i hi=>by omega⟩,fun h=>(by simp[Rl] at h)⟩
 | k+1=>by
  have C:=QQ f k;have e:Rl f (k+1)=qU (f k) (Rl f k):=rfl;rw[e];obtain⟨q,o,t,A,w,D,x,r,y⟩:=C;generalize Rl f k=v at *
  obtain⟨a,l,n,b⟩:=v;simp only at q o t A w D x r y;have up:∀ {P:Nat->Prop},(∀ i,i<k+1->P i)↔(∀ i,i<k->P i)/\P k:=fun {P}=>⟨fun h=>⟨fun i hi=>h i (by omega),h k (by omega)⟩,fun ⟨h1,h2⟩ i hi=>by
   by_cases c:i<k
   ·exact h1 i c
   ·rw[show i=k by omega];exact h2⟩
  by_cases c:B4 (f k)=0
  ·have m:f k=0:=Jg.1 c;unfold qU;rw[Ar c];refine⟨by rw[up];exact⟨fun h=>⟨q.1 h,m⟩,fun h=>q.2 h.1⟩,o,fun h => ?_,fun h => ?_,?_,?_,x,fun h=>⟨(r h).1,fun i hi d => ?_⟩,y⟩
   ·obtain⟨j,h1,h2⟩:=t h;exact⟨j,by omega,h2⟩
   ·obtain⟨j,h1,h2,z⟩:=A h;refine⟨j,by omega,fun i u F => ?_,z⟩;by_cases c:i<k
    ·exact h2 i u c
    ·rw[show i=k by omega];exact m
   ·simp only;rw[w];constructor
    ·rintro⟨i,h1,h2⟩;exact⟨i,by omega,h2⟩
    ·rintro⟨i,h1,h2⟩;refine⟨i,?_,h2⟩;have:i ≠ k:=fun e=>by rw[e] at h2;omega
     omega
   ·simp only;omega
   ·by_cases c:i<k
    ·exact (r h).2 i c d
    ·exact absurd (by rw[show i=k by omega];exact m) d
  ·have m:f k ≠ 0:=fun e=>c (Jg.2 e);have hs:=Alj m;have av:a=0\/a=1\/a = -1:=by
    by_cases h:a=0
    ·exact .inl h
    ·obtain⟨j,_,_,z,u⟩:=t h;rcases Alj z with g | g
     ·exact .inr (.inl (u.trans g))
     ·exact .inr (.inr (u.trans g))
   unfold qU;rw[Aw c];simp only;refine⟨?_,?_,?_,?_,?_,?_,?_,?_,?_⟩
   ·simp only;rw[up];constructor
    ·intro h;split at h <;> omega
    ·exact fun h=>absurd h.2 m
   ·simp only;constructor
    ·exact fun h=>absurd h c
    ·intro h;split at h <;> omega
   ·intro _;simp only;by_cases h:a=0
    ·rw[Ar h];exact⟨k,by omega,q.1 h,m,rfl⟩
    ·rw[Aw h];obtain⟨j,h1,h2⟩:=t h;exact⟨j,by omega,h2⟩
   ·intro _;exact⟨k,by omega,fun i h1 h2=>by omega,m,rfl⟩
   ·simp only;rw[I4,w,AZ];constructor
    ·rintro (⟨i,h1,h2⟩ | h)
     ·exact⟨i,by omega,h2⟩
     ·exact⟨k,by omega,LC.1 h⟩
    ·rintro⟨i,h1,h2⟩;by_cases s:i<k
     ·exact .inl ⟨i,s,h2⟩
     ·right;rw[show i=k by omega] at h2;exact LC.2 h2
   ·simp only;split <;> omega
   ·intro h;simp only at h;split at h <;> omega
   ·intro h;simp only at h |-;by_cases d:a=0
    ·have p:=o.2 d;rw[Ar d];refine⟨rfl,fun i hi hn => ?_⟩;by_cases s:i<k
     ·exact absurd (q.1 d i s) hn
     ·rw[show i=k by omega]
    ·have p:l ≠ 0:=fun e=>d (o.1 e);rw[Aw d];by_cases hl:l ≠ 0/\B4 (f k) ≠ l
     ·rw[Ar hl] at h;omega
     ·rw[Aw hl] at h;have e:B4 (f k)=l:=A6 fun g=>hl ⟨p,g⟩;obtain⟨B,E⟩:=r h;refine⟨e.trans B,fun i hi hn => ?_⟩;by_cases s:i<k
      ·exact E i s hn
      ·rw[show i=k by omega];exact e.trans B
   ·intro h;simp only at h |-;by_cases d:a=0
    ·have p:=o.2 d;have G:=x d;rw[Aw (fun g=>g.1 p)] at h;omega
    ·have p:l ≠ 0:=fun e=>d (o.1 e);rw[Aw d];by_cases hl:l ≠ 0/\B4 (f k) ≠ l
     ·rw[Ar hl] at h;have:=(r (by omega)).1;have:=hl.2;omega
     ·rw[Aw hl] at h;have e:B4 (f k)=l:=A6 fun g=>hl ⟨p,g⟩;rw[e];exact y h
section
variable {xs:G} (hk:Kb 20 xs) (hl:F xs<=100)
include hk hl
theorem qV{i:Nat}(hi:i<F xs){a l n:Int}{b:Bool}(hz:l=0↔a=0)(hn:0<=n/\n<=1000) :
  Z Oa (Hz (xs.map V) a l n b (i:Nat)) .norm (Hz (xs.map V) (qU (H xs i 0) (a,l,n,b)).1 (qU (H xs i 0) (a,l,n,b)).2.1 (qU (H xs i 0) (a,l,n,b)).2.2.1 (qU (H xs i 0) (a,l,n,b)).2.2.2 ((i+1:Nat))):=by
 have g:=BB (hk i);have sg:=Tg (n:=H xs i 0) (by have:=g.2;simp only[V] at this;omega);have sg:T 79 [AB (H (xs.map V) (Y i) z0)] (J X (B4 (H xs i 0))):=by rw[Aa,F7 hi];exact sg
 have c1:decide ((i:Int)<(F (xs.map V):Int))=true:=by rw[Ac,AZ];omega
 have c:0<=(i:Int)/\(i:Int)<(F (xs.map V):Int):=by rw[Ac];omega
 have d:Q X (i+1)=((i+1:Nat):Int):=wrz
 have en:Q X (n+1)=n+1:=By (by omega) (by omega);unfold qU;generalize B4 (H xs i 0)=s at *
 by_cases cs:s=0
 ·rw[Ar cs];have k:=A9k (xs.map V) a l n b (i:Nat) s c1 (by rw[BJ];exact cs) c sg;rw[d] at k;exact k
 rw[Aw cs];have j:(s==0)=false:=by rw[C3];exact cs
 simp only;by_cases m:a=0
 ·have o:=hz.2 m;rw[Ar m,Aw (fun g=>g.1 o)];have f:(a==0)=true:=by rw[BJ];exact m
  have h:(l != 0)=false:=by rw[bne_eq_false_iff_eq];exact o
  cases b with
  | true =>
   have k:=A9l (xs.map V) a l n true (i:Nat) s c1 j f h rfl c sg;rw[d] at k;exact k
  | false =>
   have k:=A9m (xs.map V) a l n false (i:Nat) s c1 j f h rfl c sg;rw[d] at k;exact k
 ·have o:l ≠ 0:=fun e=>m (hz.1 e);rw[Aw m];have f:(a==0)=false:=by rw[C3];exact m
  have h:(l != 0)=true:=by rw[bne_iff_ne];exact o
  by_cases q:s=l
  ·rw[Aw (fun g=>g.2 q)];have p:(s != l)=false:=by rw[bne_eq_false_iff_eq];exact q
   cases b with
   | true =>
    have k:=Avr (xs.map V) a l n true (i:Nat) s c1 j f h p rfl c sg;rw[d] at k;exact k
   | false =>
    have k:=Avs (xs.map V) a l n false (i:Nat) s c1 j f h p rfl c sg;rw[d] at k;exact k
  ·rw[Ar ⟨o,q⟩];have p:(s != l)=true:=by rw[bne_iff_ne];exact q
   cases b with
   | true =>
    have k:=A9n (xs.map V) a l n true (i:Nat) s c1 j f h p rfl c sg;rw[d,en] at k;exact k
   | false =>
    have k:=A9o (xs.map V) a l n false (i:Nat) s c1 j f h p rfl c sg;rw[d,en] at k;exact k
def JF(xs:G):Int × Int × Int × Bool:=Rl (fun i=>H xs i 0) (F xs)
theorem xW:T 172 [sL S (xs.map V)] (A3 [J X (JF xs).1,J X (JF xs).2.2.1,W (JF xs).2.2.2]):=by
 refine A9p (xs.map V) (JF xs).1 (JF xs).2.1 (JF xs).2.2.1 (F xs:Nat) (JF xs).2.2.2 ?_;refine Et (prog:=DP) (c:=Oa) (ex := .exit 0) (fun i=>Hz (xs.map V) (Rl (fun i=>H xs i 0) i).1 (Rl (fun i=>H xs i 0) i).2.1 (Rl (fun i=>H xs i 0) i).2.2.1 (Rl (fun i=>H xs i 0) i).2.2.2 (i:Nat)) (F xs) (by nofun) ?_ ?_ 0 (A_ _)
 ·intro i hi;have h:=QQ (fun i=>H xs i 0) i;exact qV hk hl hi h.lz ⟨h.nb.1,by have:=h.nb.2;omega⟩
 ·exact Avt _ _ _ _ _ _ (by rw[Ac,AW];omega)
end
theorem Zh{m i:Nat}(g:Nat->Rn)(h:i<m):H ((Ay m).map g) i z0=g i:=by
 rw[Ad,CC,AJj h];rfl
theorem qW{m i:Nat}(g:Nat->Rn)(v:Rn):((Ay m).map g).set i v=(Ay m).map fun j=>if j=i then v else g j:=by
 apply On (by simp);intro j h1 h2;rw[List.getElem_set];simp only[Aim,AJp];by_cases c:i=j
 ·rw[Ar c,Ar c.symm]
 ·rw[Aw c,Aw (fun e=>c e.symm)]
theorem Ng{m:Nat}{g h:Nat->Rn}(e:∀ i,i<m->g i=h i):(Ay m).map g=(Ay m).map h:=GP fun i hi=>e i (Hf.1 hi)
theorem lC:∀ n:Nat,C_ [W false,P 0 []] n=S (AI n z0)
 | 0=>rfl
 | n+1=>by
  rw[GO];have e:C_ [W false,P 0 []] (n+1)=[W false,P 0 []]++C_ [W false,P 0 []] n:=rfl;rw[e,lC n];rfl
theorem Alk(n:Nat):AI n z0=(Ay n).map fun _=>z0:=by
 apply On (by simp);intro j h1 h2;simp
section
variable {n:Nat} {f:Nat->Int} {B:Nat} (hn:n<=8) (hB:B<=400) (hf:∀ i,i<=n->I (f i)<=2^B)
include hn hB hf
theorem T8{k i:Nat}(h:i+k<=n):u 20 (bv 1 1 k fun j=>f (j+i)):=by
 have c:∀ j,j<=k -> -((2^B:Nat):Int)<=f (j+i)/\f (j+i)<=((2^B:Nat):Int):=fun j hj=>by have:=hf (j+i) (by omega);omega
 obtain⟨a,b⟩:=VG (v:=1) (S:=((2^B:Nat):Int)) (by decide) (n:=k) (f:=fun j=>f (j+i)) c;have e:((2^B:Nat):Int)*(1+1)^k=((2^(B+k):Nat):Int):=by rw[Dw];push_cast;rfl
 rw[e] at a b;exact C8 (k:=B+k) (by omega) (by omega)
def Hr(n:Nat)(f:Nat->Int)(k q i:Nat):Rn:=V (bv 1 1 (if i<q then min (k+1) (n-i) else min k (n-i)) fun j=>f (j+i))
omit hn hB hf in
theorem Aie(k i:Nat)(h:i<=n):Hr n f k (n-k) i=Hr n f (k+1) 0 i:=by
 unfold Hr
 rw[Aw (show ¬ i<0 by omega)]
 by_cases c:i<n-k
 ·rw[Ar c]
 ·rw[Aw c,show min k (n-i)=min (k+1) (n-i) by omega]
theorem xX(rs ls a:D){k:Nat}(hk:k<=n):Z (.loop Wq) (Nd rs (n:Nat) (n+1) ((Ay (n+1)).map (Hr n f k 0)) ls a (k:Nat) 0) xZ2 (Nd rs (n:Nat) (n+1) ((Ay (n+1)).map (Hr n f (k+1) 0)) ls a (k:Nat) ((n-k:Nat))):=by
 have e:(Ay (n+1)).map (Hr n f (k+1) 0)=(Ay (n+1)).map (Hr n f k (n-k)):=Ng fun i hi=>(Aie k i (by omega)).symm;rw[e];have h:Q X (n-k)=((n-k:Nat):Int):=wrz
 refine Et (prog:=DP) (c:=Wq) (ex := .exit 2) (fun q=>Nd rs (n:Nat) (n+1) ((Ay (n+1)).map (Hr n f k q)) ls a (k:Nat) (q:Nat)) (n-k) (by nofun) ?_ ?_ 0 (A_ _)
 ·intro q t;have b:Q X (q+1)=((q+1:Nat):Int):=wrz
  have g0:H ((Ay (n+1)).map (Hr n f k q)) q z0=V (bv 1 1 k fun j=>f (j+q)):=by
   rw[Zh _ (by omega)];unfold Hr;rw[Aw (by omega),show min k (n-q)=k by omega]
  have r:H ((Ay (n+1)).map (Hr n f k q)) (q+1) z0=V (bv 1 1 k fun j=>f (j+(q+1))):=by
   rw[Zh _ (by omega)];unfold Hr;rw[Aw (by omega),show min k (n-(q+1))=k by omega]
  have l:=BB (T8 hn hB hf (k:=k) (i:=q) (by omega));have m:=BB (T8 hn hB hf (k:=k) (i:=q+1) (by omega));have o:=NO (na:=(V (bv 1 1 k fun j=>f (j+q))).1) (nb:=(V (bv 1 1 k fun j=>f (j+(q+1)))).1) l.1 m.1 (by have:=l.2;omega) (by have:=m.2;omega);rw[show v (V (bv 1 1 k fun j=>f (j+q))).1 (V (bv 1 1 k fun j=>f (j+q))).2=_ from AO _,show v (V (bv 1 1 k fun j=>f (j+(q+1)))).1 (V (bv 1 1 k fun j=>f (j+(q+1)))).2=_ from AO _] at o;have d:=Avu rs (n:Nat) (n+1) ((Ay (n+1)).map (Hr n f k q)) ls a (k:Nat) (q:Nat) _ (by rw[b,h,AZ];omega) (by omega) (by simp) (by rw[b];omega) (by rw[b,Aa,Aa,g0,r];exact o);rw[b,Aa,qW] at d;have s:((Ay (n+1)).map fun j=>if j=q then V ((bv 1 1 k fun j=>f (j+q))+bv 1 1 k fun j=>f (j+(q+1))) else Hr n f k q j)=(Ay (n+1)).map (Hr n f k (q+1)):=Ng fun i hi=>by
   by_cases c:i=q
   ·subst c;rw[Ar rfl];unfold Hr;rw[Ar (by omega),show min (k+1) (n-i)=k+1 by omega];congr 1;have:∀ g:Nat->Int,bv 1 1 (k+1) g=bv 1 1 k g+bv 1 1 k fun j=>g (j+1):=fun g=>by simp[bv]
    rw[this];congr 2;funext j;congr 1;omega
   ·rw[Aw c];unfold Hr;by_cases p:i<q
    ·rw[Ar p,Ar (by omega)]
    ·rw[Aw p,Aw (by omega)]
  rw[s] at d;exact d
 ·refine Avv _ _ _ _ _ _ _ _ ?_;rw[h,wqz,AW];omega
section
variable(n:Nat)(f:Nat->Int)(k i:Nat)
def dQ:Rn:=if i<k then V (Sb n f i) else z0
def dR:Rn:=if n<i+k then V (Sd n f i) else z0
end
theorem xY{rs:D}:Z (.loop Wr) (Nf rs (n:Nat) (n+1) ((Ay (n+1)).map (Hr n f 0 0)) ((Ay (n+1)).map (dQ n f 0)) ((Ay (n+1)).map (dR n f 0)) 0) xZ0 (Nf rs (n:Nat) (n+1) ((Ay (n+1)).map (Hr n f (n+1) 0)) ((Ay (n+1)).map (dQ n f (n+1))) ((Ay (n+1)).map (dR n f (n+1))) ((n+1:Nat))):=by
 refine Et (prog:=DP) (c:=Wr) (ex := .exit 0) (fun k=>Nf rs (n:Nat) (n+1) ((Ay (n+1)).map (Hr n f k 0)) ((Ay (n+1)).map (dQ n f k)) ((Ay (n+1)).map (dR n f k)) (k:Nat)) (n+1) (by nofun) ?_ ?_ 0 (A_ _)
 ·intro k hk;have b:Q X (n-k)=((n-k:Nat):Int):=wrz
  have l:Q X (k+1)=((k+1:Nat):Int):=wrz
  have g0:H ((Ay (n+1)).map (Hr n f k 0)) 0 z0=V (bv 1 1 k f):=by
   rw[Zh _ (by omega)];unfold Hr;rw[Aw (by omega),show min k (n-0)=k by omega];rfl
  have m:H ((Ay (n+1)).map (Hr n f k 0)) (n-k) z0=V (bv 1 1 k fun j=>f (j+(n-k))):=by
   rw[Zh _ (by omega)];unfold Hr;rw[Aw (by omega),show min k (n-(n-k))=k by omega]
  have e:=BB (T8 hn hB hf (k:=k) (i:=0) (by omega));have g:=BB (T8 hn hB hf (k:=k) (i:=n-k) (by omega));have u0:=NQ (neg:=(V (bv 1 1 k f)).1) e.1 (n-k) (by have:=e.2;omega);have h:=NQ (neg:=(V (bv 1 1 k fun j=>f (j+(n-k)))).1) g.1 (n-k) (by have:=g.2;omega);have u0:T 84 [AB (V (bv 1 1 k f)),J X ((n-k:Nat))] (Dk (bv 1 1 k f*2^(n-k))):=by
   rw[show v (V (bv 1 1 k f)).1 (V (bv 1 1 k fun j=>f (j+0))).2=bv 1 1 k f from AO _] at u0;exact u0
  rw[show v (V (bv 1 1 k fun j=>f (j+(n-k)))).1 (V (bv 1 1 k fun j=>f (j+(n-k)))).2=_ from AO _] at h;have d:=Avw rs (n:Nat) (n+1) ((Ay (n+1)).map (Hr n f k 0)) ((Ay (n+1)).map (dQ n f k)) ((Ay (n+1)).map (dR n f k)) (k:Nat) _ _ ((n-k:Nat)) ((Ay (n+1)).map (Hr n f (k+1) 0)) (by rw[AZ];omega) (by omega) (by simp) (by omega) (by simp) (by rw[b,show Y 0=0 by rfl,g0];exact u0) (by rw[b];omega) (by simp) (by rw[b,Aa,m];exact h) (xX hn hB hf _ _ _ (by omega));rw[l,b,Aa,Aa,qW,qW] at d;have o:((Ay (n+1)).map fun j=>if j=k then V (bv 1 1 k f*2^(n-k)) else dQ n f k j)=(Ay (n+1)).map (dQ n f (k+1)):=Ng fun i hi=>by
   unfold dQ;by_cases c:i=k
   ·subst c;rw[Ar rfl,Ar (by omega)];unfold Sb;rw[AT]
   ·rw[Aw c];by_cases a:i<k
    ·rw[Ar a,Ar (by omega)]
    ·rw[Aw a,Aw (by omega)]
  have p:((Ay (n+1)).map fun j=>if j=n-k then V ((bv 1 1 k fun j=>f (j+(n-k)))*2^(n-k)) else dR n f k j)=(Ay (n+1)).map (dR n f (k+1)):=Ng fun i hi=>by
   unfold dR;by_cases c:i=n-k
   ·subst c;rw[Ar rfl,Ar (by omega)];unfold Sd;rw[AT,show n-(n-k)=k by omega]
   ·rw[Aw c];by_cases a:n<i+k
    ·rw[Ar a,Ar (by omega)]
    ·rw[Aw a,Aw (by omega)]
  rw[o,p] at d;exact d
 ·exact Avx _ _ _ _ _ _ _ (by rw[AW];omega)
end
def Rm(xs:G):G:=(Ay (F xs)).map (Sb (F xs-1) fun i=>H xs i 0)
def Ro(xs:G):G:=(Ay (F xs)).map (Sd (F xs-1) fun i=>H xs i 0)
theorem xZ{xs:G}{B:Nat}(c:xs ≠ [])(hl:F xs<=9)(hB:B<=400)(hx:∀ i,I (H xs i 0)<=2^B):T 174 [sL S (xs.map V)] (A3 [sL S ((Rm xs).map V),sL S ((Ro xs).map V)]):=by
 have hp:=Av.2 c;have l:=xY (rs:=xs.map V) (n:=F xs-1) (f:=fun i=>H xs i 0) (B:=B) (by omega) hB (fun i _=>hx i);have en:Q X (F (xs.map V)-1)=((F xs-1:Nat):Int):=by rw[Ac,wqz];omega
 have a:Q X ((F xs-1:Nat)+1)=(F xs:Int):=wrz
 have d:F xs-1+1=F xs:=by omega
 rw[d] at l;have e:(Ay (F xs)).map (Hr (F xs-1) (fun i=>H xs i 0) 0 0)=xs.map V:=by
  rw[<- SV];refine Ng fun i hi => ?_;unfold Hr;rw[Aw (by omega),show min 0 (F xs-1-i)=0 by omega];simp[bv]
 have g:(Ay (F xs)).map (dQ (F xs-1) (fun i=>H xs i 0) 0)=AI (F xs) z0:=by
  rw[Alk];exact Ng fun i hi=>by unfold dQ;rw[Aw (by omega)]
 have h:(Ay (F xs)).map (dR (F xs-1) (fun i=>H xs i 0) 0)=AI (F xs) z0:=by
  rw[Alk];exact Ng fun i hi=>by unfold dR;rw[Aw (by omega)]
 have j:(Ay (F xs)).map (dQ (F xs-1) (fun i=>H xs i 0) (F xs))=(Rm xs).map V:=by
  unfold Rm;rw[Rr];exact Ng fun i hi=>by unfold dQ;rw[Ar hi];rfl
 have k:(Ay (F xs)).map (dR (F xs-1) (fun i=>H xs i 0) (F xs))=(Ro xs).map V:=by
  unfold Ro;rw[Rr];exact Ng fun i hi=>by unfold dR;rw[Ar (by omega)];rfl
 rw[e,g,h,j,k] at l;have ll:F ((Rm xs).map V)=F (xs.map V):=by simp[Rm]
 have b:F ((Ro xs).map V)=F (xs.map V):=by simp[Ro]
 (first|rw[ll,b]|(unfold sL;rw[ll,b]));refine A9q (xs.map V) ((Ay (F xs)).map (Hr (F xs-1) (fun i=>H xs i 0) (F xs) 0)) ((Rm xs).map V) ((Ro xs).map V) (F xs:Nat) (by rw[Uq]) (by rw[Ac];omega) (by rw[en,a];omega) ?_;rw[en,a,Aa,lC];unfold Nf at l |-;simp only[Ac] at l |-;exact l
structure Berp (p b:List Int) (k e:Nat):Prop where
 len:b.length=p.length
 val:p ≠ []->∃ A:Int,0<A/\∀ u v:Int,bv u v (p.length-1) (fun i=>b.getD i 0)=A*hv p ((k:Int)*v+((k:Int)+1)*u) (2^e*(u+v))
 bd:∀ i,(b.getD i 0).natAbs<=2^(140+10*e)
theorem PL(g:Nat->Int)(m i:Nat):H ((Ay m).map g) i 0=if i<m then g i else 0:=HV g m i
theorem yA{xs:G}{i:Nat}(h:i<F xs):H (Rm xs) i 0=Sb (F xs-1) (fun i=>H xs i 0) i:=by unfold Rm;rw [PL,Ar h]
theorem yB{xs:G}{i:Nat}(h:i<F xs):H (Ro xs) i 0=Sd (F xs-1) (fun i=>H xs i 0) i:=by unfold Ro;rw [PL,Ar h]
theorem Axc{f:Nat->Int}{c k:Nat}(h:∀ i,I (f i)<=2^c):I (bv 1 1 k f)<=2^(c+k):=by
 obtain⟨a,b⟩:=VG (v:=1) (S:=((2^c:Nat):Int)) (by decide) (n:=k) (f:=f) (fun i _=>by have:=h i;omega);have e:((2^c:Nat):Int)*(1+1)^k=((2^(c+k):Nat):Int):=by rw[Dw];push_cast;rfl
 rw[e] at a b;omega
theorem Y0{f:Nat->Int}{a j k:Nat}(h:∀ i,I (f i)<=2^a)(hj:j+k<=10):I ((2:Int)^j*bv 1 1 k f)<=2^(a+10):=by
 rw[C1,Oh];have h1:=Axc (k:=k) h;have h2:(2:Nat)^j*2^(a+k)=2^(a+k+j):=by rw[Du,<- Dw]
 have c:(2:Nat)^(a+k+j)<=2^(a+10):=B_ (by decide) (by omega);have d:=Bu (2^j) h1;have b:(I 2)^j=2^j:=rfl;rw[b];omega
theorem Berp.halves{p b:G}{k e:Nat}(h:Berp p b k e)(hl:F p<=9):Berp p (Rm b) (2*k) (e+1)/\Berp p (Ro b) (2*k+1) (e+1):=by
 have hb:=h.len;have l:(2:Int)^(e+1)=2*2^e:=by rw[AD,AT]
 constructor
 ·refine⟨by unfold Rm;simp[hb],fun a => ?_,fun i => ?_⟩
  ·obtain⟨A,d,f⟩:=h.val a;have hp:=Av.2 a;refine⟨A,d,fun u v => ?_⟩;rw[HL u v (g:=Sb (F p-1) fun i=>H b i 0) (fun i hi=>by rw[yA (by omega),hb]),Acl,f,l];congr 2
   ·push_cast;grind
   ·grind
  ·by_cases c:i<F b
   ·rw[yA c];exact Y0 h.bd (by omega)
   ·unfold Rm;rw[PL,Aw c];simp
 ·refine⟨by unfold Ro;simp[hb],fun a => ?_,fun i => ?_⟩
  ·obtain⟨A,d,f⟩:=h.val a;have hp:=Av.2 a;refine⟨A,d,fun u v => ?_⟩;rw[HL u v (g:=Sd (F p-1) fun i=>H b i 0) (fun i hi=>by rw[yB (by omega),hb]),Acm,f,l];congr 2
   ·push_cast;grind
   ·grind
  ·by_cases c:i<F b
   ·rw[yB c];exact Y0 (fun j=>h.bd (j+i)) (by omega)
   ·unfold Ro;rw[PL,Aw c];simp
def lD(ps:List (G))(k e:Nat):Prop:=∀ t:Dy,(k:Int)*2^t.2<=t.1*2^e->t.1*2^e<=((k:Int)+1)*2^t.2->¬ ∀ p∈ps,0<Dl p t.1 t.2
theorem lD.join{ps:List (G)}{k e:Nat}(h1:lD ps (2*k) (e+1))(h2:lD ps (2*k+1) (e+1)):lD ps k e:=by
 intro t a b hp;have d:(2:Int)^(e+1)=2*2^e:=by rw[AD,AT]
 have q:=Bz t.2;by_cases c:t.1*(2*2^e)<=(2*(k:Int)+1)*2^t.2
 ·refine h1 t ?_ ?_ hp
  ·rw[d];push_cast;grind
  ·rw[d];push_cast;exact c
 ·refine h2 t ?_ ?_ hp
  ·rw[d];push_cast;omega
  ·rw[d];push_cast;grind
section
variable {p b:G} {k e:Nat} (h:Berp p b k e)
include h
theorem Berp.ne{j:Nat}(hj:j<F b):p ≠ []:=fun e=>by rw [h.len,e] at hj;exact absurd hj (by simp)
theorem Berp.never(f:(JF b).2.2.2=false){t:Dy}(h1:(k:Int)*2^t.2<=t.1*2^e)(h2:t.1*2^e<=((k:Int)+1)*2^t.2):¬ 0<Dl p t.1 t.2:=by
 intro g;have g:=JS.1 g;have a:p ≠ []:=fun e=>by rw[e] at g;simp[hv] at g
 obtain⟨A,j,l⟩:=h.val a;have hp:=Av.2 a;have hb:=h.len;have m:∀ i,i<=F p-1->H b i 0<=0:=fun i hi=>by
  apply A6;intro c;have:=(QQ (fun i=>H b i 0) (F b)).ab.2 ⟨i,by omega,by omega⟩;have e:(JF b).2.2.2=true:=this;rw[f] at e;cases e
 have d:=aR (u:=t.1*2^e-(k:Int)*2^t.2) (v:=((k:Int)+1)*2^t.2-t.1*2^e) (by omega) (by omega) m;rw[l] at d;have n:(k:Int)*(((k:Int)+1)*2^t.2-t.1*2^e)+((k:Int)+1)*(t.1*2^e-(k:Int)*2^t.2)=2^e*t.1:=by grind
 have o:(2:Int)^e*(t.1*2^e-(k:Int)*2^t.2+(((k:Int)+1)*2^t.2-t.1*2^e))=2^e*2^t.2:=by grind
 rw[n,o,Tn] at d;have q:(0:Int)<(2^e)^(F p-1):=FP (Bz e);have c:=Br j (Br q g);omega
theorem Berp.left(f:0<(JF b).1):∃ d,∀ m,d<=m->0<hv p ((k:Int)*2^m+1) (2^(e+m)):=by
 have ok:=QQ (fun i=>H b i 0) (F b);have f:0<(Rl (fun i=>H b i 0) (F b)).1:=f;obtain⟨j,g,l,w,x⟩:=ok.fst (by omega);have n:=h.ne g;obtain⟨A,o,q⟩:=h.val n;have hb:=h.len;obtain⟨a,y,r⟩:=Se (F p-1) (fun i=>H b i 0) j (by omega) l (LC.1 (by omega));obtain⟨d,s⟩:=T1 (a+1);refine⟨d,fun m t => ?_⟩;have c:=r (2^m-1) (by have:=s m t;omega);rw[q] at c;have c:=N_ c o;have u:(k:Int)*(2^m-1)+((k:Int)+1)*1=(k:Int)*2^m+1:=by grind
 have v:(2:Int)^e*(1+(2^m-1))=2^(e+m):=by rw[Cc];grind
 rw[u,v] at c;exact c
def yC(b:G):Prop:=((JF b).2.2.1=0/\0<=(JF b).1)\/((JF b).2.2.1=1/\(JF b).1<=0/\B4 (H b (F b-1) 0) ≠ 0)
theorem Berp.right(q:(JF b).2.2.2=true)(hc:yC b):∃ f,∀ m,f<=m->0<hv p (((k:Int)+1)*2^m-1) (2^(e+m)):=by
 have ok:=QQ (fun i=>H b i 0) (F b);obtain⟨j,r,t⟩:=ok.ab.1 q;have l:=h.ne r;obtain⟨A,u,v⟩:=h.val l;have hb:=h.len;have hp:=Av.2 l;have n:∀ m:Nat,0<bv (2^m-1) 1 (F p-1) (fun i=>H b i 0)->0<hv p (((k:Int)+1)*2^m-1) (2^(e+m)):=by
  intro m c;rw[v] at c;have c:=N_ c u;have w:(k:Int)*1+((k:Int)+1)*(2^m-1)=((k:Int)+1)*2^m-1:=by grind
  have x:(2:Int)^e*(2^m-1+1)=2^(e+m):=by rw[Cc];grind
  rw[w,x] at c;exact c
 rcases hc with ⟨c1,d⟩ | ⟨c1,d,y⟩
 ·have c1:(Rl (fun i=>H b i 0) (F b)).2.2.1=0:=c1;have d:0<=(Rl (fun i=>H b i 0) (F b)).1:=d;obtain⟨_,g⟩:=ok.c0 c1;have z:∀ i,i<=F p-1->0<=H b i 0:=fun i hi=>by
   apply A6;intro c;have:=g i (by omega) (by show H b i 0 ≠ 0;omega);have s:B4 (H b i 0)<0:=Avl.2 (by omega);omega
  refine⟨1,fun m o=>n m (YQ ?_ (by decide) z ⟨j,by omega,t⟩)⟩;obtain⟨i,rfl⟩:∃ i,m=i+1:=⟨m-1,by omega⟩;have:=Bz i;rw[AD];omega
 ·have c1:(Rl (fun i=>H b i 0) (F b)).2.2.1=1:=c1;have d:(Rl (fun i=>H b i 0) (F b)).1<=0:=d;have a0:(Rl (fun i=>H b i 0) (F b)).1 ≠ 0:=fun e=>by have:=ok.nz e;omega
  have K:=ok.c1 c1;obtain⟨B,L,C,M,D⟩:=ok.lst a0;have E:B=F b-1:=by
   apply A6;intro c;exact y (Jg.2 (C (F b-1) (by omega) (by omega)))
  subst E;have G:0<H b (F p-1) 0:=by
   rw[<- hb];exact LC.1 (by have:(Rl (fun i=>H b i 0) (F b)).2.1=B4 (H b (F b-1) 0):=D;omega)
  obtain⟨a,N,I⟩:=Se (F p-1) (fun i=>H b (F p-1-i) 0) 0 (A_ _) (fun i hi=>by omega) G;obtain⟨f,o⟩:=T1 (a+1);refine⟨f,fun m J=>n m ?_⟩;have c:=I (2^m-1) (by have:=o m J;omega);rw[YR];exact c
end
theorem dU{ps:List (G)}{x:Nat->Int}{e:Nat}(hx:∀ m,1<=m->0<=x m/\x m<=2^(e+m))(h:∀ i,i<F ps->∃ a,∀ m,a<=m->0<hv (H ps i []) (x m) (2^(e+m))):TE ps:=by
 obtain⟨a,h1⟩:=T2 (P:=fun i m=>0<hv (H ps i []) (x m) (2^(e+m))) (Ay (F ps)) (fun i hi=>h i (Hf.1 hi));obtain⟨b,c⟩:=hx (a+1) (by omega);refine⟨(x (a+1),e+(a+1)),?_,?_,fun p hp => ?_⟩
 ·show (0:Int)*_<=x (a+1)*2^0;simp;omega
 ·show x (a+1)*2^0<=1*2^(e+(a+1));simp;omega
 ·obtain⟨i,hi,rfl⟩:=DK hp;have:=h1 (a+1) (by omega) i (Hf.2 hi);rw[Ad,Am hi] at this;exact JS.2 this
structure QJ (bs:List (List Int)) (i:Nat) (w:Bool) (c z:Int):Prop where
 cb:0<=c/\c<=(bs.length:Int)+2+(i:Int)
 now:w=true->∀ j,j<i->0<(JF (bs.getD j [])).1
 ok:c<(bs.length:Int)+2->∀ j,j<i->yC (bs.getD j [])
 zb:0<=z/\(1<=c->z<(bs.length:Int))
 ab:∀ j,j<i->(JF (bs.getD j [])).2.2.2=true
section
variable {ps bs:List (G)} (hb:∀ i,Kb 20 (H bs i [])) (hl:∀ i,F (H bs i [])<=9) (hn:F bs<=5) (k e:Nat)
include hb hl hn
theorem yD{i:Nat}(hi:i<F bs){w:Bool}{c z:Int}(hJ:QJ bs i w c z) :
  ((JF (H bs i [])).2.2.2=false/\Z Fs (CJ (s ps) (s bs) (k:Nat) (e:Nat) 0 w c z (i:Nat)) .ret (CJ (s ps) (s bs) (k:Nat) (e:Nat) 0 w c z (i:Nat))) \/
  ∃ l K L,QJ bs (i+1) l K L/\Z Fs (CJ (s ps) (s bs) (k:Nat) (e:Nat) 0 w c z (i:Nat)) .norm (CJ (s ps) (s bs) (k:Nat) (e:Nat) 0 l K L ((i+1:Nat))):=by
 have b:=xW (hb i) (show F (H bs i [])<=100 by have:=hl i;omega);have sI:=QQ (fun j=>H (H bs i []) j 0) (F (H bs i []));have D:=Ee bs;have M:H (s bs) (Y i) []=(H bs i []).map V:=by rw[Aa];exact L8 hi
 have c1:decide ((i:Int)<(F (s bs):Int))=true:=by rw[D,AZ];omega
 have m:0<=(i:Int)/\(i:Int)<(F (s bs):Int):=by rw[D];omega
 have p:Q X (i+1)=((i+1:Nat):Int):=wrz
 rw[<- M] at b;obtain⟨j1,E,N,j4,j5⟩:=hJ;have O:Q X (c+1)=c+1:=By (by omega) (by omega);have r:Q X (F (s bs)+2)=(F bs:Int)+2:=by rw[D,wqz]
 have R:ShI (fun j=>H (H bs i []) j 0) (F (H bs i [])) (JF (H bs i [])):=sI;have v:∀ {P:Nat->Prop},(∀ j,j<i->P j)->P i->∀ j,j<i+1->P j:=fun {P} h1 h2 j hj=>by
  by_cases c:j<i
  ·exact h1 j c
  ·rw[show j=i by omega];exact h2
 cases G:(JF (H bs i [])).2.2.2 with
 | false =>
  rw[G] at b;exact .inl ⟨rfl,Ahw (s ps) (s bs) (k:Nat) (e:Nat) 0 w c z (i:Nat) _ _ false c1 rfl m b⟩
 | true =>
  rw[G] at b;right;have I:∀ j,j<i+1->(JF (H bs j [])).2.2.2=true:=v j5 G;have bad:∀ l,(l=true->w=true/\0<(JF (H bs i [])).1)->QJ bs (i+1) l ((F bs:Int)+2) (i:Nat):=fun l t=>⟨by omega,fun g=>v (P:=fun j=>0<(JF (H bs j [])).1) (E (t g).1) (t g).2,fun g=>by omega,by omega,I⟩;have good:∀ l,(l=true->w=true/\0<(JF (H bs i [])).1)->yC (H bs i [])->QJ bs (i+1) l (c+1) (i:Nat):=fun l t hc=>⟨by omega,fun g=>v (P:=fun j=>0<(JF (H bs j [])).1) (E (t g).1) (t g).2,fun g=>v (P:=fun j=>yC (H bs j [])) (N (by omega)) hc,by omega,I⟩;have S:∀ l,(l=true->w=true/\0<(JF (H bs i [])).1)->yC (H bs i [])->QJ bs (i+1) l c z:=fun l t hc=>⟨by omega,fun g=>v (P:=fun j=>0<(JF (H bs j [])).1) (E (t g).1) (t g).2,fun g=>v (P:=fun j=>yC (H bs j [])) (N g) hc,j4,I⟩;have x:decide ((JF (H bs i [])).1>0)=true->0<(JF (H bs i [])).1:=fun g=>of_decide_eq_true g;have a1:(H bs i []) ≠ []->(0<=Q X (((F (H (s bs) (Y i) []):Int))-1)/\Q X (((F (H (s bs) (Y i) []):Int))-1)<(F (H (s bs) (Y i) []):Int))/\T 79 [AB (H (H (s bs) (Y i) []) (Y (Q X (((F (H (s bs) (Y i) []):Int))-1))) z0)] (J X (B4 (H (H bs i []) (F (H bs i [])-1) 0))):=fun h0=>by
   have hp:=Av.2 h0;have a3:=hl i;rw[M];have en:Q X (F ((H bs i []).map V)-1)=((F (H bs i [])-1:Nat):Int):=by rw[Ac,wqz];omega
   rw[en,Aa,F7 (by omega),Ac];have g:=BB (hb i (F (H bs i [])-1));exact⟨by omega,Tg (by have:=g.2;simp only[V] at this;omega)⟩
  have a2:(JF (H bs i [])).1 ≠ 0->H bs i [] ≠ []:=fun h e=>h (by rw[e];rfl);generalize ef:(JF (H bs i [])).1=f at *
  generalize en:(JF (H bs i [])).2.2.1=n at *
  have nz:f=0->n=0:=fun h=>by have:=R.nz (by rw[ef];exact h);omega
  have nb:0<=n:=by have:=R.nb;omega
  have U:n=0->0<=f->yC (H bs i []):=fun h1 h2 => .inl ⟨by omega,by omega⟩;have W:n=1->f<=0->B4 (H (H bs i []) (F (H bs i [])-1) 0) ≠ 0->yC (H bs i []):=fun h1 h2 h3 => .inr ⟨by omega,by omega,h3⟩;by_cases g1:n>0
  ·have o:decide (n>0)=true:=BP g1;by_cases u:n=1
   ·have d:(n != 1)=false:=by rw[bne_eq_false_iff_eq];exact u
    by_cases g3:f>0
    ·have q:decide (f>0)=true:=BP g3;cases w with
     | true =>
      have a:=Avz (s ps) (s bs) (k:Nat) (e:Nat) 0 true c z (i:Nat) f n true c1 rfl rfl o d q m b;rw[r,p] at a;exact⟨_,_,_,bad _ fun g=>⟨rfl,x g⟩,a⟩
     | false =>
      have a:=Ahr (s ps) (s bs) (k:Nat) (e:Nat) 0 false c z (i:Nat) f n true c1 rfl rfl o d q m b;rw[r,p] at a;exact⟨_,_,_,bad _ fun g=>(by cases g),a⟩
    ·have q:decide (f>0)=false:=Bw g3;obtain⟨A,B⟩:=a1 (a2 fun e=>by have:=nz e;omega);by_cases C:B4 (H (H bs i []) (F (H bs i [])-1) 0)=0
     ·have y:(B4 (H (H bs i []) (F (H bs i [])-1) 0)==0)=true:=by rw[BJ];exact C
      cases w with
      | true =>
       have a:=Awa (s ps) (s bs) (k:Nat) (e:Nat) 0 true c z (i:Nat) f n _ true c1 rfl rfl o d q y m A b B;rw[r,p] at a;exact⟨_,_,_,bad _ fun g=>⟨rfl,x g⟩,a⟩
      | false =>
       have a:=Ahs (s ps) (s bs) (k:Nat) (e:Nat) 0 false c z (i:Nat) f n _ true c1 rfl rfl o d q y m A b B;rw[r,p] at a;exact⟨_,_,_,bad _ fun g=>(by cases g),a⟩
     ·have y:(B4 (H (H bs i []) (F (H bs i [])-1) 0)==0)=false:=by rw[C3];exact C
      cases w with
      | true =>
       have a:=Awb (s ps) (s bs) (k:Nat) (e:Nat) 0 true c z (i:Nat) f n _ true c1 rfl rfl o d q y m A b B;rw[O,p] at a;exact⟨_,_,_,good _ (fun g=>⟨rfl,x g⟩) (W u (by omega) C),a⟩
      | false =>
       have a:=Aht (s ps) (s bs) (k:Nat) (e:Nat) 0 false c z (i:Nat) f n _ true c1 rfl rfl o d q y m A b B;rw[O,p] at a;exact⟨_,_,_,good _ (fun g=>(by cases g)) (W u (by omega) C),a⟩
   ·have d:(n != 1)=true:=by rw[bne_iff_ne];exact u
    cases w with
    | true =>
     have a:=Avy (s ps) (s bs) (k:Nat) (e:Nat) 0 true c z (i:Nat) f n true c1 rfl rfl o d m b;rw[r,p] at a;exact⟨_,_,_,bad _ fun g=>⟨rfl,x g⟩,a⟩
    | false =>
     have a:=Ahq (s ps) (s bs) (k:Nat) (e:Nat) 0 false c z (i:Nat) f n true c1 rfl rfl o d m b;rw[r,p] at a;exact⟨_,_,_,bad _ fun g=>(by cases g),a⟩
  ·have o:decide (n>0)=false:=Bw g1;by_cases u:f<0
   ·have d:decide (f<0)=true:=BP u;have q:(n != 1)=true:=by rw[bne_iff_ne];omega
    cases w with
    | true =>
     have a:=Awc (s ps) (s bs) (k:Nat) (e:Nat) 0 true c z (i:Nat) f n true c1 rfl rfl o d q m b;rw[r,p] at a;exact⟨_,_,_,bad _ fun g=>⟨rfl,x g⟩,a⟩
    | false =>
     have a:=Ahu (s ps) (s bs) (k:Nat) (e:Nat) 0 false c z (i:Nat) f n true c1 rfl rfl o d q m b;rw[r,p] at a;exact⟨_,_,_,bad _ fun g=>(by cases g),a⟩
   ·have d:decide (f<0)=false:=Bw u;cases w with
    | true =>
     have a:=Awd (s ps) (s bs) (k:Nat) (e:Nat) 0 true c z (i:Nat) f n true c1 rfl rfl o d m b;rw[p] at a;exact⟨_,_,_,S _ (fun g=>⟨rfl,x g⟩) (U (by omega) (by omega)),a⟩
    | false =>
     have a:=Ahv (s ps) (s bs) (k:Nat) (e:Nat) 0 false c z (i:Nat) f n true c1 rfl rfl o d m b;rw[p] at a;exact⟨_,_,_,S _ (fun g=>(by cases g)) (U (by omega) (by omega)),a⟩
theorem yE:∀ (r i:Nat) (w:Bool) (c z:Int),i+r=F bs->QJ bs i w c z ->
  (∃ j,j<F bs/\(JF (H bs j [])).2.2.2=false/\∃ a b d,Z (.loop Fs) (CJ (s ps) (s bs) (k:Nat) (e:Nat) 0 w c z (i:Nat)) .ret (CJ (s ps) (s bs) (k:Nat) (e:Nat) 0 a b d (j:Nat))) \/
  ∃ a b d,QJ bs (F bs) a b d/\Z (.loop Fs) (CJ (s ps) (s bs) (k:Nat) (e:Nat) 0 w c z (i:Nat)) xZ0 (CJ (s ps) (s bs) (k:Nat) (e:Nat) 0 a b d (F bs:Nat)):=by
 intro r;induction r with
 | zero =>
  intro i w c z hi f;have o:i=F bs:=by omega
  subst o;exact .inr ⟨w,c,z,f,Aq (Ahx _ _ _ _ _ _ _ _ _ (by rw[Ee,AW];omega))⟩
 | succ r p =>
  intro i w c z hi f;rcases yD (ps:=ps) hb hl hn k e (show i<F bs by omega) f with ⟨h1,h2⟩ | ⟨a,b,d,h1,h2⟩
  ·exact .inl ⟨i,by omega,h1,w,c,z,Aq h2⟩
  ·rcases p (i+1) a b d (by omega) h1 with ⟨j,g,h,l,m,n,q⟩ | ⟨l,m,n,g,h⟩
   ·exact .inl ⟨j,g,h,l,m,n,Bk h2 q⟩
   ·exact .inr ⟨l,m,n,g,Bk h2 h⟩
end
theorem Aif{α:Type}{l:List α}{i:Nat}(h:i<F l):l.take (i+1)=l.take i++[l[i]]:=by rw [W_,Am h];rfl
theorem fW(ps:List (G)){bs:List (G)}{B:Nat}(d:B<=400)(f:∀ b∈bs,b ≠ []/\F b<=9/\∀ i,I (H b i 0)<=2^B)(hn:F bs<=5)(k e:Nat) :
  Z (.loop T3) (J_ (s ps) (s bs) (k:Nat) (e:Nat) 0 ([]:AK) 0 ([]:AK) 0) xZ2 (J_ (s ps) (s bs) (k:Nat) (e:Nat) (F (s (bs.map Rm))) (pp (s (bs.map Rm))) (F (s (bs.map Ro))) (pp (s (bs.map Ro))) (F bs:Nat)):=by
 have l:=Et (prog:=DP) (c:=T3) (ex := .exit 2) (fin:=J_ (s ps) (s bs) (k:Nat) (e:Nat) (F bs) (pp (s ((bs.take (F bs)).map Rm))) (F bs) (pp (s ((bs.take (F bs)).map Ro))) (F bs:Nat)) (fun i=>J_ (s ps) (s bs) (k:Nat) (e:Nat) i (pp (s ((bs.take i).map Rm))) i (pp (s ((bs.take i).map Ro))) (i:Nat)) (F bs) (by nofun)
  (fun i hi=>by
   obtain⟨g,h,j⟩:=f bs[i] (AP hi);have hv:=xZ g h d j;have m:H (s bs) (Y i) []=(bs[i]).map V:=by rw[Aa];exact qL hi
   rw[<- m] at hv;have a:=Awe (s ps) (s bs) (k:Nat) (e:Nat) i (pp (s ((bs.take i).map Rm))) i (pp (s ((bs.take i).map Ro))) (i:Nat) _ _ (by rw[Ee,AZ];omega) (by rw[Ee];omega) (by omega) (by omega) hv;rw[<- PJ,<- PJ,By (n:=(i:Int)+1) (by omega) (by omega)] at a;rw[Aif hi,D_,D_];exact a)
  (Awf _ _ _ _ _ _ _ _ _ (by rw[Ee,AW];omega)) 0 (A_ _)
 rw[DV] at l;rw[Ee,Ee,Ac,Ac];exact l
theorem AFy{b:G}{B:Nat}(a:B<=400)(h:∀ i,I (H b i 0)<=2^B):Kb 20 b:=fun i=>C8 (h i) (by omega)
theorem Y1{ps:List (G)}(C:∀ p∈ps,F p<=9)(hn:F ps<=5)(e k:Nat)(bs:List (G))(Z:e<=10)(hk:k<2^e)(a2:F bs=F ps)(d:∀ i,i<F ps->Berp (H ps i []) (H bs i []) k e)
  (N:e<10->∀ (n:Nat) (D:List (G)),n<2^(e+1)->F D=F ps->(∀ i,i<F ps->Berp (H ps i []) (H D i []) n (e+1)) ->
   ∃ fs r t,∃ a b x:Int,T 141 [sL pp (s ps),sL pp (s D),J X (n:Nat),J X ((e+1:Nat))] (A3 [Bh fs r a t b,J X x])/\(x=0/\lD ps n (e+1)\/x=1/\TE ps\/x=2/\∀ p∈ps,p ≠ [])) :
  ∃ fs r t,∃ a b x:Int,T 141 [sL pp (s ps),sL pp (s bs),J X (k:Nat),J X (e:Nat)] (A3 [Bh fs r a t b,J X x])/\(x=0/\lD ps k e\/x=1/\TE ps\/x=2/\∀ p∈ps,p ≠ []):=by
 have a3:k<1024:=Dg hk (B6 (B_ (by decide) Z) (by decide));have a4:(k:Int)+1<=2^e:=by
  have:((2^e:Nat):Int)=(2:Int)^e:=by norm_cast
  omega
 have o:∀ i,i<F ps->H ps i []∈ps:=fun i hi=>by rw[Ad,Am hi];exact AP hi
 have O:∀ i,F (H bs i [])<=9:=fun i=>by
  by_cases c:i<F ps
  ·rw[(d i c).len];exact C _ (o i c)
  ·rw[Ad,Bi (by omega)];simp
 have a1:∀ i,Kb 20 (H bs i []):=fun i=>by
  by_cases c:i<F ps
  ·exact AFy (B:=140+10*e) (by omega) (d i c).bd
  ·rw[Ad,Bi (by omega)];exact fun j=>by simp;exact Ib _
 have start:QJ bs 0 true 0 0:=⟨by omega,fun _ j hj=>by omega,fun _ j hj=>by omega,by omega,fun j hj=>by omega⟩;rcases yE (ps:=ps) a1 O (by omega) k e (F bs) 0 true 0 0 (by omega) start with ⟨j,P,j2,w,c,z,l⟩ | ⟨w,c,z,h,l⟩
 ·refine⟨[],(false,[]),(false,[]),0,0,0,Awg (s ps) (s bs) (k:Nat) (e:Nat) c z (j:Nat) w l,.inl ⟨rfl,fun t h1 h2 hp => ?_⟩⟩;exact (d j (by omega)).never j2 h1 h2 (hp _ (o j (by omega)))
 ·have R:∀ m:Nat,1<=m->(2:Int)<=2^m:=fun m A=>by
   obtain⟨i,rfl⟩:∃ i,m=i+1:=⟨m-1,by omega⟩;have:=Bz i;rw[AD];omega
  cases w with
  | true =>
   obtain⟨fs,r,t,a,b,x⟩:=kZ (k:=k) (e:=e) (by omega) (by omega);refine⟨fs,r,t,a,b,1,Ahy (s ps) (s bs) (k:Nat) (e:Nat) c z (F bs:Nat) true fs r t a b rfl l (MW (by omega)) x,.inr (.inl ⟨rfl,dU (x:=fun m=>(k:Int)*2^m+1) (e:=e) (fun m A => ?_) fun i hi=>(d i hi).left (h.now rfl i (by omega))⟩)⟩;have m2:=R m A;have m0:=A8 (show (0:Int)<=(k:Int) by omega) (show (0:Int)<=2^m by omega);have m1:=A8 (show (0:Int)<=2^e-((k:Int)+1) by omega) (show (0:Int)<=2^m by omega);rw[Cc];constructor
   ·show 0<=(k:Int)*2^m+1;omega
   ·show (k:Int)*2^m+1<=2^e*2^m;grind
  | false =>
   by_cases c1:c=1
   ·obtain⟨z1,z2⟩:=h.zb;refine⟨_,_,_,_,_,1,Ahz (s ps) (s bs) (k:Nat) (e:Nat) c z (F bs:Nat) false rfl (by rw[BJ];exact c1) l (by rw[Ee];omega) (MW (by omega)) (MW (by rw[wqz];omega)),.inr (.inl ⟨rfl,dU (x:=fun m=>((k:Int)+1)*2^m-1) (e:=e) (fun m A => ?_) fun i hi=>(d i hi).right (h.ab i (by omega)) (h.ok (by omega) i (by omega))⟩)⟩;have m2:=R m A;have m0:=A8 (show (0:Int)<=(k:Int) by omega) (show (0:Int)<=2^m by omega);have m1:=A8 (show (0:Int)<=2^e-((k:Int)+1) by omega) (show (0:Int)<=2^m by omega);rw[Cc];constructor
    ·show 0<=((k:Int)+1)*2^m-1;grind
    ·show ((k:Int)+1)*2^m-1<=2^e*2^m;grind
   ·have E:(c==1)=false:=by rw[C3];exact c1
    by_cases a5:e=10
    ·exact⟨[],(false,[]),(false,[]),0,0,2,Aia (s ps) (s bs) (k:Nat) (e:Nat) c z (F bs:Nat) false rfl E (by rw[BJ];omega) l,.inr (.inr ⟨rfl,fun p hp=>by
      obtain⟨i,hi,rfl⟩:=DK hp;have a:=h.ab i (by omega);have I:H ps i []=ps[i]:=by rw[Ad,Am hi];rfl
      obtain⟨j,P,_⟩:=(QQ (fun j=>H (H bs i []) j 0) (F (H bs i []))).ab.1 a;rw[<- I];exact (d i hi).ne P⟩)⟩
    ·have S:((e:Int)==10)=false:=by rw[C3];omega
     have U:=fW ps (bs:=bs) (B:=140+10*e) (by omega) (fun b hb=>by
      obtain⟨i,hi,rfl⟩:=DK hb;have I:H bs i []=bs[i]:=by rw[Ad,Am hi];rfl
      rw[<- I];refine⟨fun e0 => ?_,O i,(d i (by omega)).bd⟩;have:=h.ab i hi;rw[e0] at this;cases this) (by omega) k e
     have e2:(2:Nat)^(e+1)=2*2^e:=by rw[GV,Du]
     have V:∀ (f:G->G) i,i<F ps->H (bs.map f) i []=f (H bs i []):=fun f i hi=>by
      rw[Ad,CC,Am (show i<F bs by omega),Ad,Am (show i<F bs by omega)];rfl
     obtain⟨fs,r,t,a,b,x,h1,h2⟩:=N (by omega) (2*k) (bs.map Rm) (by omega) (by rw[Ac];omega) (fun i hi=>by rw[V _ i hi];exact ((d i hi).halves (C _ (o i hi))).1);obtain⟨W,u,v,Y,g,y,h3,h4⟩:=N (by omega) (2*k+1) (bs.map Ro) (by omega) (by rw[Ac];omega) (fun i hi=>by rw[V _ i hi];exact ((d i hi).halves (C _ (o i hi))).2);have K:Q X (2*k)=((2*k:Nat):Int):=wrz
     have L:Q X (e+1)=((e+1:Nat):Int):=wrz
     have w3:Q X ((2*k:Nat)+1)=((2*k+1:Nat):Int):=wrz
     by_cases M:x=0
     ·refine⟨W,u,v,Y,g,y,Aic (s ps) (s bs) (k:Nat) (e:Nat) c z (F bs:Nat) (F bs:Nat) false fs W r t u v a b Y g x y _ _ rfl E S (by rw[bne_eq_false_iff_eq];exact M) l U (by rw[K,L];exact h1) (by rw[K,L,w3];exact h3),?_⟩;rcases h2 with ⟨_,n1⟩ | ⟨q,_⟩ | ⟨q,_⟩
      ·rcases h4 with ⟨q,n2⟩ | q | q
       ·exact .inl ⟨q,n1.join n2⟩
       ·exact .inr (.inl q)
       ·exact .inr (.inr q)
      ·omega
      ·omega
     ·refine⟨fs,r,t,a,b,x,Aib (s ps) (s bs) (k:Nat) (e:Nat) c z (F bs:Nat) (F bs:Nat) false fs r t a b x _ _ rfl E S (by rw[bne_iff_ne];exact M) l U (by rw[K,L];exact h1),?_⟩;rcases h2 with ⟨q,_⟩ | q | q
      ·exact absurd q M
      ·exact .inr (.inl q)
      ·exact .inr (.inr q)
theorem Aig{ps:List (G)}(j:∀ p∈ps,F p<=9)(hn:F ps<=5):∀ (d e k:Nat) (bs:List (G)),e+d=10->k<2^e->F bs=F ps->(∀ i,i<F ps->Berp (H ps i []) (H bs i []) k e) ->
  ∃ fs r t,∃ a b x:Int,T 141 [sL pp (s ps),sL pp (s bs),J X (k:Nat),J X (e:Nat)] (A3 [Bh fs r a t b,J X x])/\(x=0/\lD ps k e\/x=1/\TE ps\/x=2/\∀ p∈ps,p ≠ []):=by
 intro d;induction d with
 | zero =>
  intro e k bs l c f g;exact Y1 j hn e k bs (by omega) c f g fun h=>absurd h (by omega)
 | succ d m =>
  intro e k bs l c f g;exact Y1 j hn e k bs (by omega) c f g fun _ n o h1 h2 q=>m (e+1) n o (by omega) h1 h2 q
section
variable {p q:G} (hp:Enp p) (hq:Enp q) {y x:Iv} (h1:One p y) (h2:One q x) {C m:Nat} (hm:m+C<7990) (o1:IvOk C m y) (o2:IvOk C m x)
include hp hq h1 h2 hm o1 o2
theorem All(i:Nat)(z:Int)(hz:(z = -1/\BS (B y.t) y.b (B x.r) x.a<0)\/(z=1/\¬ BS (B y.t) y.b (B x.r) x.a<0/\BS (B x.t) x.b (B y.r) y.a<0)):Z J1 (Ko (O p) (O q) 0 y x i) .ret (Ko (O p) (O q) z y x i):=by
 obtain⟨c1,c,_⟩:=Wl hp hq h1 h2 hm o1 o2;rcases hz with ⟨rfl,a⟩ | ⟨rfl,a,b⟩
 ·exact AEt _ _ _ _ _ _ _ _ _ _ _ _ _ (BP a) c1
 ·exact AEu _ _ _ _ _ _ _ _ _ _ _ _ _ _ (Bw a) (BP b) c1 c
theorem AHh{i:Nat}(hi:8<=i):(pZ y x=true->Z Pe (cS (O p) (O q) 0 y x i) .ret (cS (O p) (O q) (apZ y x) y x i))/\(pZ y x=false->Z Pe (cS (O p) (O q) 0 y x i) .norm (cS (O p) (O q) 0 y x i)):=by
 obtain⟨_,_,_,_,d,b,_,_⟩:=Wl hp hq h1 h2 hm o1 o2;have b:T 71 [y.av (O p),x.av (O q)] (W (pZ y x)):=b;have c:decide ((i:Int)>=8)=true:=by rw[AZ];omega
 constructor
 ·intro hb;rw[hb] at b;unfold apZ;by_cases g:BS (B y.r) y.a (B x.r) x.a<0
  ·rw[Ar g];exact A7b _ _ _ _ _ _ _ _ _ _ _ (i:Nat) true _ c rfl (BP g) b d
  ·rw[Aw g];exact A7c _ _ _ _ _ _ _ _ _ _ _ (i:Nat) true _ c rfl (Bw g) b d
 ·intro hb;rw[hb] at b;exact A7d _ _ _ _ _ _ _ _ _ _ _ (i:Nat) false c rfl b
theorem yF{i:Nat}(hi:8<i)(f:i<=2000)(c:¬ BS (B y.t) y.b (B x.r) x.a<0)(d:¬ BS (B x.t) x.b (B y.r) y.a<0) :
  (pZ y x=true->Z J1 (Ko (O p) (O q) 0 y x i) .ret (Ko (O p) (O q) (apZ y x) y x i)) /\
  (pZ y x=false->Z J1 (Ko (O p) (O q) 0 y x i) .norm (Ko (O p) (O q) 0 (Jb (O p) y) (Jb (O q) x) (i+1))):=by
 obtain⟨g,j⟩:=AHh hp hq h1 h2 hm o1 o2 (i:=i) (by omega);have e:=wR 0 ((O p).map V) y.r (y.a:Nat) y.t (y.b:Nat) ((O q).map V) x.r (x.a:Nat) x.t (x.b:Nat) (i:Nat) (by rw[C3];omega);exact⟨fun h=>dB hp hq h1 h2 hm o1 o2 c d (.inr ⟨e,g h⟩),fun h=>Xx hp hq h1 h2 hm o1 o2 f c d e (j h)⟩
theorem X1(s:¬ BS (B y.t) y.b (B x.r) x.a<0)(u:¬ BS (B x.t) x.b (B y.r) y.a<0) :
  (y.d (Ch (O p) (O q))=1/\0<sd p y (B x.r) x.a/\sd p y (B x.t) x.b<=0->Z J1 (Ko (O p) (O q) 0 y x 8) .ret (Ko (O p) (O q) 0 y x 8)) /\
  (¬ (y.d (Ch (O p) (O q))=1/\0<sd p y (B x.r) x.a/\sd p y (B x.t) x.b<=0) -> 
  (pZ y x=true->Z J1 (Ko (O p) (O q) 0 y x 8) .ret (Ko (O p) (O q) (apZ y x) y x 8)) /\
  (pZ y x=false->Z J1 (Ko (O p) (O q) 0 y x 8) .norm (Ko (O p) (O q) 0 (Jb (O p) y) (Jb (O q) x) 9))):=by
 obtain⟨_,j⟩:=xC hp hq;obtain⟨A,H⟩:=Yw hp (O q);have k:=wW (f:=O p) A (by omega) o1 (by omega) (Fe.2 h1.lt);have lf:=(C7 hp.ne).1;have v:BS (B y.r) y.a (B y.t) y.b ≠ 0:=by rw[Fe.2 h1.lt];decide
 have m:T 27 [y.av (O p),A4 x.r (x.a:Nat)] (J X (sd p y (B x.r) x.a)):=To (Gg hp) o1.gr o1.gt o2.gr (by have:=o1.a;omega) (by have:=o1.b;omega) (by have:=o2.a;omega) lf v;have wq:T 27 [y.av (O p),A4 x.t (x.b:Nat)] (J X (sd p y (B x.t) x.b)):=To (Gg hp) o1.gr o1.gt o2.gt (by have:=o1.a;omega) (by have:=o1.b;omega) (by have:=o2.b;omega) lf v;have C:=UJ (q:=O q) hp.ne;have D:(!decide (F (Ch (O p) (O q))<2)&&(y.d (Ch (O p) (O q))==1))=decide (y.d (Ch (O p) (O q))=1):=by
  by_cases c:F (Ch (O p) (O q))<2
  ·have:y.d (Ch (O p) (O q))=0:=by
    have:=C c y.lo' y.hi';show VD _ y.lo'-VD _ y.hi'=0;omega
   rw[BP c,this];rfl
  ·rw[Bw c];by_cases e:y.d (Ch (O p) (O q))=1
   ·rw[e];rfl
   ·rw[Bw e,C3.2 e];rfl
 rw[D] at k;generalize Ch (O p) (O q)=g at *
 constructor
 ·intro ⟨n,l,o⟩;rw[BP n] at k;refine dB hp hq h1 h2 hm o1 o2 s u (.inl ?_);rcases j with j | j
  ·exact Asr _ _ _ _ _ _ _ _ _ _ _ 8 _ true _ _ rfl rfl (BP l) (BP o) j k m wq
  ·exact Asn _ _ _ _ _ _ _ _ _ _ _ 8 _ true _ _ rfl rfl (BP l) (BP o) j k m wq
 ·intro hn;have w:Z JA (bS (O p) (O q) 0 y x 8) .norm (bS (O p) (O q) 0 y x 8):=by
   by_cases n:y.d g=1
   ·rw[BP n] at k;by_cases l:0<sd p y (B x.r) x.a
    ·have o:¬ sd p y (B x.t) x.b<=0:=fun z=>hn ⟨n,l,z⟩;rcases j with j | j
     ·exact Ass _ _ _ _ _ _ _ _ _ _ _ 8 _ true _ _ rfl rfl (BP l) (Bw o) j k m wq
     ·exact Aso _ _ _ _ _ _ _ _ _ _ _ 8 _ true _ _ rfl rfl (BP l) (Bw o) j k m wq
    ·rcases j with j | j
     ·exact Ast _ _ _ _ _ _ _ _ _ _ _ 8 _ true _ rfl rfl (Bw l) j k m
     ·exact Asp _ _ _ _ _ _ _ _ _ _ _ 8 _ true _ rfl rfl (Bw l) j k m
   ·rw[Bw n] at k;rcases j with j | j
    ·exact Asu _ _ _ _ _ _ _ _ _ _ _ 8 _ false rfl rfl j k
    ·exact Asq _ _ _ _ _ _ _ _ _ _ _ 8 _ false rfl rfl j k
  obtain⟨E,G⟩:=AHh hp hq h1 h2 hm o1 o2 (i:=8) (A2 _);exact⟨fun h=>dB hp hq h1 h2 hm o1 o2 s u (.inr ⟨w,E h⟩),fun h=>Xx hp hq h1 h2 hm o1 o2 (by decide) s u w (G h)⟩
end
def stB(f g:G)(y x:Iv)(i:Nat):Bool:=decide (BS (B (stpN f y i).t) (stpN f y i).b (B (stpN g x i).r) (stpN g x i).a<0) || decide (BS (B (stpN g x i).t) (stpN g x i).b (B (stpN f y i).r) (stpN f y i).a<0) || decide (8<=i)&&Wd f g y x i
theorem dV{f g:G}{y x:Iv}{i:Nat}(h:stB f g y x i=false):¬ BS (B (stpN f y i).t) (stpN f y i).b (B (stpN g x i).r) (stpN g x i).a<0/\¬ BS (B (stpN g x i).t) (stpN g x i).b (B (stpN f y i).r) (stpN f y i).a<0/\(8<=i->Wd f g y x i=false):=by
 unfold stB at h;rw[QU,QU,AW,AW] at h;refine⟨h.1.1,h.1.2,fun k => ?_⟩;have:=h.2;rw[BP k,ABe] at this;exact this
theorem Axd{f g:G}{y x:Iv}{i:Nat}(h:stB f g y x i=true):(BS (B (stpN f y i).t) (stpN f y i).b (B (stpN g x i).r) (stpN g x i).a<0\/BS (B (stpN g x i).t) (stpN g x i).b (B (stpN f y i).r) (stpN f y i).a<0)\/8<=i/\Wd f g y x i=true:=by
 unfold stB at h;rw[I4,I4,At,AZ,AZ,AZ] at h;exact h
section
variable {p q:G} (hp:Enp p) (hq:Enp q) {y x:Iv} (h1:One p y) (h2:One q x) {m:Nat} (hm:m<=4700) (o1:IvOk 0 m y) (o2:IvOk 0 m x) {j1 j2:Nat} (w1:W1 j1 y) (w2:W1 j2 x) {z:Int} (hz:Ms p y q x z)
include hp hq h1 h2 hz hm o1 o2 w1 w2
theorem fX:T 19 [y.av (O p),x.av (O q)] (J X z):=by
 obtain⟨S,U⟩:=Tv hp hq;have C:=fun i (hi:i<=1930)=>JQ (p:=O p) o1 i (by omega);have D:=fun i (hi:i<=1930)=>JQ (p:=O q) o2 i (by omega);suffices h:∃ n j o,Z (.loop J1) (Ko (O p) (O q) 0 y x 0) .ret (Ko (O p) (O q) z j o n) by
  obtain⟨n,j,o,h⟩:=h;exact AEw _ y.r y.t _ _ _ x.r x.t _ _ z (n:Nat) _ _ _ _ _ _ _ _ _ _ h
 have I:∀ {u v:Dy},BS u.1 u.2 v.1 v.2<0->dl u v:=fun h=>G7.1 (A9 h);have V:∀ n v,n<=1930->(∀ t,t<n->Z J1 (Ko (O p) (O q) 0 (stpN (O p) y t) (stpN (O q) x t) t) .norm (Ko (O p) (O q) 0 (stpN (O p) y (t+1)) (stpN (O q) x (t+1)) (t+1))) ->
   Z J1 (Ko (O p) (O q) 0 (stpN (O p) y n) (stpN (O q) x n) n) .ret (Ko (O p) (O q) v (stpN (O p) y n) (stpN (O q) x n) n) ->
   Z (.loop J1) (Ko (O p) (O q) 0 y x 0) .ret (Ko (O p) (O q) v (stpN (O p) y n) (stpN (O q) x n) n):=fun n v _ st out =>
  Hl (prog:=DP) (c:=J1) (ex := .ret) (fun i=>Ko (O p) (O q) 0 (stpN (O p) y i) (stpN (O q) x i) i) n (by nofun) out 0 (A_ _) (fun t _ F=>st t F)
 by_cases K:z=0
 ·-- equal
  have no:=A8w h1 h2 hz K;have W:∀ i,¬ BS (B (stpN (O p) y i).t) (stpN (O p) y i).b (B (stpN (O q) x i).r) (stpN (O q) x i).a<0:=fun i g=>(no i).1 (I (u:=(stpN (O p) y i).hi') (v:=(stpN (O q) x i).lo') g);have Y:∀ i,¬ BS (B (stpN (O q) x i).t) (stpN (O q) x i).b (B (stpN (O p) y i).r) (stpN (O p) y i).a<0:=fun i g=>(no i).2 (I (u:=(stpN (O q) x i).hi') (v:=(stpN (O p) y i).lo') g);refine⟨8,stpN (O p) y 8,stpN (O q) x 8,?_⟩;rw[K];refine V 8 0 (by decide) (fun t F=>dC hp hq (h1.halves t) (h2.halves t) (by omega) (C t (by omega)) (D t (by omega)) F (W t) (Y t)) ?_;refine (X1 hp hq (h1.halves 8) (h2.halves 8) (by omega) (C 8 (by omega)) (D 8 (by omega)) (W 8) (Y 8)).1 ?_;have hs:=(KX h1 h2 8 8).2 hz;have hs:∀ m c,sd p (stpN (O p) y 8) m c<=0↔sd q (stpN (O q) x 8) m c<=0:=by
   rcases hs with ⟨e,_⟩ | ⟨e,_⟩ | ⟨_,g⟩
   ·omega
   ·omega
   ·exact g
  refine⟨?_,?_,(hs _ _).2 (Zd (h2.halves 8))⟩
  ·obtain⟨f,hN⟩:∃ f,f=1922:=⟨_,rfl⟩;have a4:=PF hp hq (h1.halves (8+f)) (h2.halves (8+f)) (w1.stpN (O p) (8+f)) (w2.stpN (O q) (8+f)) (by omega) (by omega) ((DN _ _).resolve_left (no (8+f)).1) ((DN _ _).resolve_left (no (8+f)).2);have E:=AEy hp.ne (NX hq.ne) (h1.halves 8);have G:=Wc (Ch (O p) (O q)) h1 (m:=8) f;obtain⟨s,_,_⟩:=NV (stpN (O p) y (8+f)).lo' (stpN (O q) x (8+f)).lo';obtain⟨b1,_,_⟩:=NW (stpN (O p) y (8+f)).hi' (stpN (O q) x (8+f)).hi';have v1:=F4 (Ch (O p) (O q)) s;have v2:=F4 (Ch (O p) (O q)) b1;unfold YF at a4;have g3:(stpN (O p) y (8+f)).d (Ch (O p) (O q))=VD (Ch (O p) (O q)) (stpN (O p) y (8+f)).lo'-VD (Ch (O p) (O q)) (stpN (O p) y (8+f)).hi':=rfl;omega
  ·have:¬ sd p (stpN (O p) y 8) (B (stpN (O q) x 8).r) (stpN (O q) x 8).a<=0:=fun g=>by
    have g:=(hs _ _).1 g;rw[QC (DO _)] at g;omega
   omega
 ·-- not equal
  have a5:∃ n,n<=1930/\(∀ i,i<n->stB (O p) (O q) y x i=false)/\stB (O p) (O q) y x n=true:=by
   rcases HU (stB (O p) (O q) y x) 1931 1931 0 rfl with g | ⟨n,_,G,g3,g4⟩
   ·exfalso;have a3:=g 1930 (by omega) (by omega);obtain⟨f,hN⟩:∃ f,f=1930:=⟨_,rfl⟩;rw[<- hN] at a3;have l:=S6 ((dV a3).2.2 (by omega));have:=PF hp hq (h1.halves f) (h2.halves f) (w1.stpN (O p) f) (w2.stpN (O q) f) (by omega) (by omega) ((DN _ _).resolve_left l.1) ((DN _ _).resolve_left l.2);exact K (hz.unique h1 h2 ((KX h1 h2 f f).1 (S4 (h1.halves f) (h2.halves f) S U this)))
   ·exact⟨n,by omega,fun i hi=>g4 i (by omega) hi,g3⟩
  obtain⟨n,hn,n1,n2⟩:=a5;have L:¬ ((stpN (O p) y 8).d (Ch (O p) (O q))=1/\0<sd p (stpN (O p) y 8) (B (stpN (O q) x 8).r) (stpN (O q) x 8).a/\sd p (stpN (O p) y 8) (B (stpN (O q) x 8).t) (stpN (O q) x 8).b<=0):=fun ⟨e1,e2,e3⟩ =>
   K (hz.unique h1 h2 ((KX h1 h2 8 8).1 (wX (h1.halves 8) (h2.halves 8) S U e1 e2 e3)))
  have step:∀ t,t<n->Z J1 (Ko (O p) (O q) 0 (stpN (O p) y t) (stpN (O q) x t) t) .norm (Ko (O p) (O q) 0 (stpN (O p) y (t+1)) (stpN (O q) x (t+1)) (t+1)):=by
   intro t F;obtain⟨P,Q,s3⟩:=dV (n1 t F);rcases Mv t 8 with c | c | c
   ·exact dC hp hq (h1.halves t) (h2.halves t) (by omega) (C t (by omega)) (D t (by omega)) c P Q
   ·subst c;exact ((X1 hp hq (h1.halves 8) (h2.halves 8) (by omega) (C 8 (by omega)) (D 8 (by omega)) P Q).2 L).2 (s3 (A2 _))
   ·exact (yF hp hq (h1.halves t) (h2.halves t) (by omega) (C t (by omega)) (D t (by omega)) c (by omega) P Q).2 (s3 (by omega))
  suffices h:∃ v,Ms p (stpN (O p) y n) q (stpN (O q) x n) v/\Z J1 (Ko (O p) (O q) 0 (stpN (O p) y n) (stpN (O q) x n) n) .ret (Ko (O p) (O q) v (stpN (O p) y n) (stpN (O q) x n) n) by
   obtain⟨v,hv,h⟩:=h;have e:=hz.unique h1 h2 ((KX h1 h2 n n).1 hv);rw[<- e] at h;exact⟨n,_,_,V n z hn step h⟩
  have w:=h1.halves n;have A:=h2.halves n;have M:=C n hn;have N:=D n hn;have a6:(BS (B (stpN (O p) y n).t) (stpN (O p) y n).b (B (stpN (O q) x n).r) (stpN (O q) x n).a<0\/BS (B (stpN (O q) x n).t) (stpN (O q) x n).b (B (stpN (O p) y n).r) (stpN (O p) y n).a<0)\/8<=n/\pZ (stpN (O p) y n) (stpN (O q) x n)=true:=Axd n2;have a7:n=8->¬ ((stpN (O p) y n).d (Ch (O p) (O q))=1/\0<sd p (stpN (O p) y n) (B (stpN (O q) x n).r) (stpN (O q) x n).a/\sd p (stpN (O p) y n) (B (stpN (O q) x n).t) (stpN (O q) x n).b<=0):=fun e=>by rw[e];exact L
  generalize stpN (O p) y n=j at *
  generalize stpN (O q) x n=o at *
  by_cases s:BS (B j.t) j.b (B o.r) o.a<0
  ·exact⟨-1,Wb w (I (u:=j.hi') (v:=o.lo') s),All hp hq w A (by omega) M N n (-1) (.inl ⟨rfl,s⟩)⟩
  by_cases H:BS (B o.t) o.b (B j.r) j.a<0
  ·exact⟨1,QD A (I (u:=o.hi') (v:=j.lo') H),All hp hq w A (by omega) M N n 1 (.inr ⟨rfl,s,H⟩)⟩
  obtain⟨h8,hb⟩:=a6.resolve_left (fun g=>by rcases g with g | g;exact s g;exact H g);refine⟨apZ j o,?_,?_⟩
  ·have R:=hb;unfold pZ at R;rw[I4,AZ,AZ] at R;unfold apZ;rcases R with g | g
   ·have E:=(G7 (u:=j.hi') (v:=o.lo')).1 g;have G:BS (B j.r) j.a (B o.r) o.a<0:=by
     have a8:B j.r*2^o.a<B o.r*2^j.a:=by
      apply FI.1;intro k;exact w.dlt.2 (CV E k)
     rw[Fe.2 a8];decide
    rw[Ar G];exact Wb w E
   ·have E:=(G7 (u:=o.hi') (v:=j.lo')).1 g;have G:¬ BS (B j.r) j.a (B o.r) o.a<0:=fun k=>by
     have k:=(G7 (u:=j.lo') (v:=o.lo')).1 (A9 k);exact A.dlt.2 (CV E k)
    rw[Aw G];exact QD A E
  ·rcases CN 8 n with c | c
   ·exact (yF hp hq w A (by omega) M N c (by omega) s H).1 hb
   ·have e:n=8:=by omega
    have L:=a7 e;subst e;exact ((X1 hp hq w A (by omega) M N s H).2 L).1 hb
end
structure Mok (k:Nat) (z:Nu):Prop where
 en:Enp z.1
 one:One z.1 z.2
 w:W1 k z.2
 ok:IvOk 0 k z.2
theorem Y2{p:G}(hp:Enp p):∀ y∈DT p,∃ k,k<=744/\Mok k (p,y):=by
 intro y hy;unfold DT KW at hy;split at hy
 ·cases hy
 ·have hd:=Jq hp 744 0 Ir rfl Hq;have h1:=Jr 744 Ir Hq.lt hd y hy;obtain⟨j,hj,d⟩:=xB 744 0 Ir Hq y hy;have c:=cH 744 Ir 0 Wf (by decide) y hy;exact⟨j,by omega,hp,h1,d,⟨c.gr,c.gt,d.a,d.b,c.vr,c.vt⟩⟩
theorem Axe{j k:Nat}{z w:Nu}(hz:Mok j z)(a:Mok k w)(hj:j<=4700)(b:k<=4700):∃ s,Jd z w s/\(s = -1\/s=0\/s=1)/\T 19 [NZ z,NZ w] (J X s):=by
 obtain⟨p,y⟩:=z;obtain⟨q,x⟩:=w;obtain⟨s,h1,_⟩:=kI hz.en a.en hz.one a.one (show 4700<=5600 by decide) (N' hz.ok hj) (N' a.ok b) hz.w a.w;have hb:s = -1\/s=0\/s=1:=by
  rcases h1 with ⟨g,_⟩ | ⟨g,_⟩ | ⟨g,_⟩ <;> omega
 exact⟨s,h1,hb,fX hz.en a.en hz.one a.one (A2 4700) (N' hz.ok hj) (N' a.ok b) hz.w a.w h1⟩
theorem dW{z w:Nu}(hz:One z.1 z.2)(d:One w.1 w.2)(h:Jd z w (-1)){v:Dy}(g:EF w v):EF z v:=by
 obtain⟨u,a,b⟩:=OL.1 h;rcases DN u v with c | c
 ·exact Hp hz a c
 ·exact absurd (Hp d g c) b
structure Tms (rss:List D) (L:List Nu):Prop where
 ok:∀ z∈L,∃ k,k<=744/\Mok k z
 asc:L.Pairwise fun z w=>Jd z w (-1)
 cov:∀ rs∈rss,∀ y∈DT (Al rs),∃ z∈L,Jd (Al rs,y) z 0
structure Seg (L:List Nu) (i:Nat) (v w:Dy):Prop where
 lo:∀ j (hj:j<L.length),j<i->EF L[j] v
 hi:∀ j (hj:j<L.length),i<=j->¬ EF L[j] w
structure Bet (L:List Nu) (i:Nat) (u m:Dy):Prop where
 u0:dl (0,0) u
 um:¬ dl m u
 m1:¬ dl (1,0) m
 seg:Seg L i u m
section
variable {rss:List D} {L:List Nu} (h:Tms rss L)
include h
theorem Tms.one{j:Nat}(hj:j<F L):One L[j].1 L[j].2:=by
 obtain⟨k,_,o⟩:=h.ok _ (AP hj);exact o.one
theorem Tms.none{i:Nat}{v w:Dy}(s:Seg L i v w)(f:dl (0,0) v)(d:dl v w)(k:dl w (1,0)){rs:D}(l:rs∈rss)(hE:Enp (Al rs)):VD (Af (Al rs)) v=VD (Af (Al rs)) w:=by
 have e:∀ u,VD (Af (Al rs)) u=VD (Al rs) u:=fun u=>A7k (Agq _) u.1 u.2;rw[e,e];have h1:=F4 (Al rs) d;apply A6;intro n;obtain⟨y,hy,a,b⟩:=Pg hE f d k (by omega);obtain⟨z,hz,g⟩:=h.cov rs l y hy;obtain⟨j,hj,rfl⟩:=DK hz;have g:=QK.1 g;rcases CN j i with c | c
 ·exact a ((g v).2 (s.lo j hj c))
 ·exact s.hi j hj c ((g w).1 b)
theorem Tms.pos{i:Nat}{u m t:Dy}(b:Bet L i u m)(s:Seg L i t t)(k:¬ dl t (0,0))(l:¬ dl (1,0) t){rs:D}(f:rs∈rss)(hE:Enp (Al rs))(hp:0<Dl (Af (Al rs)) t.1 t.2):0<Dl (Af (Al rs)) m.1 m.2:=by
 have a:Cw (Af (Al rs)):=GI _;have d:Af (Al rs) ≠ []:=hE.ne;have um:=le_of_lt b.um;have n:∀ j (hj:j<F L),j<i->EF L[j] m:=fun j hj hi=>Hp (h.one hj) (b.seg.lo j hj hi) um;have o:=CV b.u0 um;have g:Dl (Af (Al rs)) m.1 m.2 ≠ 0:=by
  intro e;by_cases hl:2<=F (O (Af (Al rs)))
  ·have p:=xI a d b.um e hl;have q:=h.none b.seg b.u0 um (le_of_lt b.m1) f hE;omega
  ·exact kN a d hl e
 have e:Dl (Af (Al rs)) m.1 m.2=Dl (Af (Al rs)) t.1 t.2:=by
  rcases DN m t with c | c
  ·exact PI a d c (h.none ⟨n,s.hi⟩ o c (le_of_lt l) f hE) g (by omega)
  ·exact (PI a d c (h.none ⟨s.lo,b.seg.hi⟩ (le_of_lt k) c (le_of_lt b.m1) f hE) (by omega) g).symm
 omega
theorem Tms.seg(t:Dy):∃ i,i<=F L/\Seg L i t t:=by
 obtain⟨i,hi,a,b⟩:=UQ (P:=fun j=>j=F L\/∃ hj:j<F L,¬ EF L[j] t) (F L+1) ⟨F L,by omega,.inl rfl⟩;refine⟨i,by omega,fun j hj e => ?_,fun j hj f g => ?_⟩
 ·apply A6;intro n;exact b j e (.inr ⟨hj,n⟩)
 ·rcases a with a | ⟨d,a⟩
  ·omega
  ·rcases CN i j with c | c
   ·exact a (dW (h.one d) (h.one hj) ((IK.1 h.asc) i j d hj c) g)
   ·have:j=i:=by omega
    subst this;exact a g
end
theorem Mok.nok{k:Nat}{z:Nu}(h:Mok k z)(hl:sd z.1 z.2 1 0<0):Nok k z:=⟨h.en,h.one,h.w,h.ok,hl⟩
theorem ON{k:Nat}{z:Nu}(h:Mok k z)(m:Nat)(a:k+m<7990):Mok (k+m) (q z m) :=
 ⟨h.en,h.one.halves m,h.w.stpN (O z.1) m,JQ (p:=O z.1) h.ok m (by omega)⟩
theorem Aih{j k:Nat}{z w:Nu}(hz:Mok j z)(a:Mok k w)(hj:1921<=j)(d:1921<=k)(b:Jd z w (-1)):¬ dl w.2.lo' z.2.hi':=by
 intro g;have e:dl z.2.lo' w.2.hi':=by
  rcases DN w.2.hi' z.2.lo' with c | c
  ·have:=Ms.unique hz.one a.one b (QD a.one c);omega
  ·exact c
 have h:=PF hz.en a.en hz.one a.one hz.w a.w hj d g e;obtain⟨f,i⟩:=Tv hz.en a.en;have:=Ms.unique hz.one a.one b (S4 hz.one a.one f i h);omega
theorem yG:∀ p:G,Jf p=0->∀ i,H p i 0=0
 | [],_,i=>by simp
 | t::ts,h,i=>by
  simp only[Jf] at h;by_cases c:B4 t=0
  ·rw[Ar c] at h;cases i with
   | zero=>exact Jg.1 c
   | succ i=>exact yG ts h i
  ·rw[Aw c] at h;exact absurd h c
theorem Aii{k:Nat}{z:Nu}(hz:Mok k z)(C:200<=k):¬ dl z.2.lo' (0,0):=by
 intro g;have g:B z.2.r*2^0<=0*2^z.2.a:=g;have r0:B z.2.r=0:=by have:=hz.w.lo;omega
 obtain⟨lf,_,_,D,_⟩:=C7 hz.en.ne;obtain⟨E,F⟩:=QE hz.en;have o:=Bz z.2.a;have W:=Bz z.2.b;have q:=hz.w.w;rw[r0,Cs,FV] at q;have G:B z.2.t*2^k<=2^z.2.b:=by
  apply Fu _ o;have e:(2:Int)^z.2.a*(B z.2.t*2^k)=B z.2.t*2^z.2.a*2^k:=by grind
  rw[e];exact q
 have H:0<B z.2.t:=by
  have h1:=hz.one.lt;rw[r0,Cs] at h1;exact N_ (a:=2^z.2.a) (by rw[AT];exact h1) o
 have hb:Jf (O z.1) ≠ 0:=fun e=>EN lf D (yG _ e _);have co:∀ c∈O z.1,-(2:Int)^160<=c/\c<=2^160:=fun c hc=>by
  obtain⟨i,hi,rfl⟩:=DK hc;have h1:=E i;rw[Ad,Am hi] at h1;have h1:I (O z.1)[i]<4294967296^5:=h1;have j:(4294967296:Nat)^5=1461501637330902918203684832716283019655932542976:=by decide
  have l:(2:Int)^160=1461501637330902918203684832716283019655932542976:=by decide
  rw[j] at h1;rw[l];omega
 have s:∀ {x:Int} {c:Nat},0<x->x*2^k<=2^c->Dl (O z.1) x c=Jf (O z.1):=fun {x c} hx h=>dF (S:=2^160) (L:=9) (by decide) hx (by
  have j:(2:Int)^160*((9:Nat):Int)+1<=2^200:=by decide
  have l:(2:Int)^200<=2^k:=by
   have:=B_ (n:=2) (by decide) C;exact_mod_cast this
  have:=Ap (FC j l) (A9 hx);rw[AT (2^k)] at this;exact FC this h) _ co F hb
 obtain⟨J,_,K⟩:=NM z.1 hz.en.ne 1 (by decide);obtain⟨N,P⟩:=T1 J;obtain⟨M,X⟩:∃ M,M=N+k+z.2.b:=⟨_,rfl⟩;have m:=Bz M;have pk:(2:Int)^k<=2^M:=by
  have:=B_ (n:=2) (by decide) (show k<=M by omega);exact_mod_cast this
 have Y:(2:Int)^z.2.b<=2^M:=by
  have:=B_ (n:=2) (by decide) (show z.2.b<=M by omega);exact_mod_cast this
 have d:=s (x:=1) (c:=M) (by decide) (by omega);have Q:=s H G;have u:B z.2.r*2^M<1*2^z.2.a:=by rw[r0];omega
 have R:(1:Int)*2^z.2.b<=B z.2.t*2^M:=by
  have:=Ap (show 1<=B z.2.t by omega) (A9 m);omega
 have hs:sd z.1 z.2 1 M<=0:=by
  unfold sd F_;have T:¬ BS 1 M (B z.2.r) z.2.a<=0:=by rw[KV.2 u];decide
  rw[Aw T,d,Q,Aw hb,Ar rfl];split <;> decide
 have Z:=(NU hz.one u R).1.1 hs;have v2:Vd z.1 (B z.2.r) z.2.a-Vd z.1 (B z.2.t) z.2.b=1:=hz.one.v;have v3:Vd z.1 (B z.2.r) z.2.a=Vd z.1 0 M:=by
  rw[r0];have a1:=JB (p:=z.1) (x:=0) (y:=0) (a:=z.2.a) (b:=M) (by omega);have a2:=JB (p:=z.1) (x:=0) (y:=0) (a:=M) (b:=z.2.a) (by omega);omega
 have A:=K (2^M) 0 ⟨m,by simp;omega,by simp;omega⟩ (P M (by omega));have w0:wq z.1 0 (2^M)=Vd z.1 0 M:=(I8 ..).symm;have U:wq z.1 (0+1) (2^M)=Vd z.1 1 M:=(I8 ..).symm;rw[w0,U] at A;have hL:Lst z.1 0 (2^M):=by
  apply A6;intro n;have:=A.2 n;omega
 apply hL.1;have V:Dl (O z.1) 0 M ≠ 0:=by
  intro e;rw[MZ] at e;exact hL.2 (DB.1 e)
 have f:Dl (O z.1) 0 M=Jf (O z.1):=xS m fun e=>V (by unfold Dl;rw[e];rfl);rw[MZ] at f d;unfold M4;rcases Zf (O z.1) with e | e | e
 ·rw[e] at f d;exact .inr ⟨Gu.1 f,Gu.1 d⟩
 ·exact absurd e hb
 ·rw[e] at f d;exact .inl ⟨GK.1 f,GK.1 d⟩
def Mu:Nu:=([],⟨(false,[]),0,(false,[]),0⟩)
theorem lE:Jb [] Mu.2=Mu.2:=by unfold Jb;exact Ar (by decide)
theorem SG:O []=[]:=by decide +kernel
theorem X2:∀ m,q Mu m=Mu
 | 0=>rfl
 | m+1=>by
  have a:=X2 m;have e:(q Mu m).2=Mu.2:=by rw[a]
  show (Mu.1,Jb (O Mu.1) (q Mu m).2)=Mu;rw[e,show O Mu.1=[] from SG,lE]
structure Mop (x:Bool) (z:Nu):Prop where
 some:x=true->∃ k,k<=744/\Mok k z
 none:x=false->z=Mu
theorem Alm{x:Bool}{z:Nu}(h:Mop x z){i:Nat}(hi:i<=2000):T 72 [NZ (q z i)] (NZ (q z (i+1))):=by
 cases x with
 | true =>
  obtain⟨k,a,o⟩:=h.some rfl;have o:=ON o i (by omega);exact QA (Gg o.en) o.ok (by omega) (C7 o.en.ne).1
 | false =>
  rw[h.none rfl,X2,X2];have k:=QA (p:=[]) (x:=Mu.2) (C:=0) (m:=0) ⟨fun i=>by rw[List.getD_nil];exact C8 (k:=1) (by decide) (by decide),by decide⟩ ⟨Py _,Py _,A2 _,A2 _,by decide,by decide⟩ (by decide) rfl;rw[lE] at k;have e:NZ Mu=Mu.2.av []:=by
   show Mu.2.av (O [])=_;rw[SG]
  rw[e];exact k
def QR(x:Bool)(z:Nu):Dy:=if x then z.2.hi' else (0,0)
def Rp(y:Bool)(w:Nu):Dy:=if y then w.2.lo' else (1,0)
def apD(x:Bool)(a:Nu)(y:Bool)(b:Nu)(i:Nat):Bool:=decide (BS (QR x (q a i)).1 (QR x (q a i)).2 (Rp y (q b i)).1 (Rp y (q b i)).2<0)
section
variable {x y:Bool} {a b:Nu} (ha:Mop x a) (hb:Mop y b) (h1:x=true->y=true->Jd a b (-1)) (h2:x=true->y=false->sd a.1 a.2 1 0<0)
include ha hb h1 h2
theorem Axf:∃ i,i<=1921/\(∀ j,j<i->apD x a y b j=false)/\apD x a y b i=true:=by
 rcases HU (apD x a y b) 1922 1922 0 rfl with g | ⟨m,_,l,f,h⟩
 ·exfalso;have g:=g 1921 (by omega) (by omega);generalize n:1921=c at g;have g:=Mt.1 (of_decide_eq_false g);unfold QR Rp at g;cases x <;> cases y
  ·exact absurd (show dl (1,0) (0,0) from g) (by unfold dl;decide)
  ·obtain⟨k,d,o⟩:=hb.some rfl;exact Aii (ON o c (by omega)) (by omega) g
  ·obtain⟨k,d,o⟩:=ha.some rfl;exact cU (IJ (o.nok (h2 rfl rfl)) c (by omega)) (by omega) g
  ·obtain⟨k,d,o⟩:=ha.some rfl;obtain⟨p,q,e⟩:=hb.some rfl;exact Aih (ON o c (by omega)) (ON e c (by omega)) (by omega) (by omega) ((Ale o.one e.one c c (-1)).2 (h1 rfl rfl)) g
 ·exact⟨m,by omega,fun j hj=>h j (by omega) hj,f⟩
end
theorem AAu{x:Bool}{a:Nu}(ha:Mop x a){i:Nat}(hi:i<=1921):∃ r:Rn,∃ e:Nat,QR x (q a i)=(B r,e)/\BC 300 r/\e<=2700/\I (B r)<=2^0*2^e/\A4 r (e:Nat)=(if x then A4 (AJ (q a i)).t (AJ (q a i)).f else A4 (V 0) 0):=by
 cases x with
 | true =>
  obtain⟨k,c,o⟩:=ha.some rfl;have o:=(ON o i (by omega)).ok;exact⟨(q a i).2.t,(q a i).2.b,rfl,o.gt,by have:=o.b;omega,o.vt,rfl⟩
 | false=>exact⟨V 0,0,rfl,BB (C8 (k:=1) (by decide) (by decide)),by decide,by decide,rfl⟩
theorem AAv{y:Bool}{b:Nu}(hb:Mop y b){i:Nat}(hi:i<=1921):∃ r:Rn,∃ e:Nat,Rp y (q b i)=(B r,e)/\BC 300 r/\e<=2700/\I (B r)<=2^0*2^e/\A4 r (e:Nat)=(if y then A4 (AJ (q b i)).r (AJ (q b i)).e else A4 (V 1) 0):=by
 cases y with
 | true =>
  obtain⟨k,c,o⟩:=hb.some rfl;have o:=(ON o i (by omega)).ok;exact⟨(q b i).2.r,(q b i).2.a,rfl,o.gr,by have:=o.a;omega,o.vr,rfl⟩
 | false=>exact⟨V 1,0,rfl,BB (C8 (k:=1) (by decide) (by decide)),by decide,by decide,rfl⟩
def LD(L:List Nu)(x:Bool)(i:Nat):Nu:=if x then H L i nu0 else Mu
section
variable {rss:List D} {L:List Nu} (h:Tms rss L)
include h
theorem Tms.bet{i:Nat}(hi:i<=F L)(hl:∀ (f:0<i),i=F L->sd (L[i-1]).1 (L[i-1]).2 1 0<0) :
  Mop (E (0<i)) (LD L (E (0<i)) (i-1))/\Mop (E (i<F L)) (LD L (E (i<F L)) i) /\
  (E (0<i)=true->decide (i<F L)=true->Jd (LD L (E (0<i)) (i-1)) (LD L (E (i<F L)) i) (-1)) /\
  (E (0<i)=true->decide (i<F L)=false->sd (LD L (E (0<i)) (i-1)).1 (LD L (E (0<i)) (i-1)).2 1 0<0) /\
  ∀ n,apD (E (0<i)) (LD L (E (0<i)) (i-1)) (E (i<F L)) (LD L (E (i<F L)) i) n=true->n<=1921 ->
   Bet L i (QR (E (0<i)) (q (LD L (E (0<i)) (i-1)) n)) (NY (QR (E (0<i)) (q (LD L (E (0<i)) (i-1)) n)) (Rp (E (i<F L)) (q (LD L (E (i<F L)) i) n))):=by
 have l:∀ (f:0<i),LD L (E (0<i)) (i-1)=L[i-1]:=fun f=>by
  unfold LD;rw[BP f,Ar rfl];exact HN (by omega)
 have p:∀ (f:i<F L),LD L (E (i<F L)) i=L[i]:=fun f=>by
  unfold LD;rw[BP f,Ar rfl];exact HN (by omega)
 have s:=IK.1 h.asc;refine⟨⟨fun c => ?_,fun c => ?_⟩,⟨fun c => ?_,fun c => ?_⟩,fun c d => ?_,fun c d => ?_,fun n hn z => ?_⟩
 ·have c:=of_decide_eq_true c;rw[l c];exact h.ok _ (AP _)
 ·unfold LD;rw[c];rfl
 ·have c:=of_decide_eq_true c;rw[p c];exact h.ok _ (AP _)
 ·unfold LD;rw[c];rfl
 ·have c:=of_decide_eq_true c;have d:=of_decide_eq_true d;rw[l c,p d];exact s (i-1) i (by omega) d (by omega)
 ·have c:=of_decide_eq_true c;have d:=of_decide_eq_false d;rw[l c];exact hl c (by omega)
 ·have lt:¬ dl (Rp (E (i<F L)) (q (LD L (E (i<F L)) i) n)) (QR (E (0<i)) (q (LD L (E (0<i)) (i-1)) n)):=fun g=>Mt.2 g (of_decide_eq_true hn);obtain⟨m1,u⟩:=qK lt;generalize NY _ _=m at *
  have x:dl (Rp (E (i<F L)) (q (LD L (E (i<F L)) i) n)) (1,0):=by
   by_cases c:i<F L
   ·rw[p c,BP c];obtain⟨k,y,o⟩:=h.ok _ (AP c);have o:=ON o n (by omega);refine CV o.one.dlt.1 ?_;show B (q L[i] n).2.t*2^0<=1*2^(q L[i] n).2.b;have:=o.w.hi;omega
   ·rw[Bw c];exact GM _
  refine⟨?_,m1,fun g=>u (CV x g),fun j hj c => ?_,fun j hj c g => ?_⟩
  ·by_cases c:0<i
   ·rw[l c,BP c];obtain⟨k,y,o⟩:=h.ok _ (AP (show i-1<F L by omega));have o:=ON o n (by omega);refine CV (v:=(q L[i-1] n).2.lo') ?_ o.one.dlt.1;show (0:Int)*2^(q L[i-1] n).2.a<=B (q L[i-1] n).2.r*2^0;have:=o.w.lo;omega
   ·rw[Bw c];exact GM _
  ·have c0:0<i:=by omega
   rw[l c0,BP c0];have o:=h.one (show i-1<F L by omega);have g:EF L[i-1] (QR true (q L[i-1] n)):=(Wi o n _).1 (QL (o.halves n));by_cases e:j=i-1
   ·subst e;exact g
   ·exact dW (h.one hj) o (s j (i-1) hj (by omega) (by omega)) g
  ·have c0:i<F L:=by omega
   rw[p c0,BP c0] at u;have o:=h.one c0;have g:EF L[i] m:=by
    by_cases e:j=i
    ·subst e;exact g
    ·exact dW o (h.one hj) (s i j c0 hj (by omega)) g
   exact T0 (o.halves n) ((Wi o n m).2 g) (le_of_lt u)
end
theorem Hs:T 94 [J X 0] (A4 (V 0) 0):=Ali 0 (MW (n:=0) (by decide))
theorem Ga:T 94 [J X 1] (A4 (V 1) 0):=Ali 1 (MW (n:=1) (by decide))
section
variable {L:List Nu} {a:Nu} (hL:∀ z∈L,∃ k,k<=744/\Mok k z) (ha:∃ k,k<=744/\Mok k a) (asc:L.Pairwise fun z w=>Jd z w (-1)) (hlen:F L<=1000)
include hL ha asc hlen
theorem Axg(ls:List D)(i:Int)(m:List Rt)(k:Int)(l:0<=k/\k<F m)(w:H m (Y k) zR=AJ a):∀ r p:Nat,p+r=F L->(∀ z∈L.take p,Jd z a (-1))->∃ (q:Nat) (b:Bool),q<=F L /\
  Z (.loop T4) (Ka ls (L.map AJ) i m k (p:Nat) false) xZ4 (Ka ls (L.map AJ) i m k (q:Nat) b) /\
  (b=true->∃ z∈L,Jd a z 0)/\(b=false->(∀ z∈L.take q,Jd z a (-1))/\∀ z∈L.drop q,Jd a z (-1)):=by
 intro r;induction r with
 | zero =>
  intro p hp g;refine⟨p,false,by omega,Aq (Awj _ _ _ _ _ _ _ (by rw[Ac,AW];omega)),fun h=>(by cases h),fun _=>⟨g,fun z hz => ?_⟩⟩;rw[show p=F L by omega,DD] at hz;cases hz
 | succ r x =>
  intro p hp g;have d:p<F L:=by omega
  obtain⟨G,I,n⟩:=hL _ (AP d);obtain⟨K,M,y⟩:=ha;obtain⟨s,hs,N,hr⟩:=Axe n y (by omega) (by omega);have c1:decide ((p:Int)<(F (L.map AJ):Int))=true:=by rw[Ac,AZ];omega
  have o:0<=(p:Int)/\(p:Int)<(F (L.map AJ):Int):=by rw[Ac];omega
  have A:H (L.map AJ) (Y p) zR=AJ L[p]:=by rw[Aa];exact Ju d
  have hr:T 19 [Bh (H (L.map AJ) (Y p) zR).fs (H (L.map AJ) (Y p) zR).r (H (L.map AJ) (Y p) zR).e (H (L.map AJ) (Y p) zR).t (H (L.map AJ) (Y p) zR).f,Bh (H m (Y k) zR).fs (H m (Y k) zR).r (H m (Y k) zR).e (H m (Y k) zR).t (H m (Y k) zR).f] (J X s):=by
   rw[A,w];exact hr
  by_cases c:s>=0
  ·refine⟨p,s==0,by omega,Aq (Awh ls _ i m k _ false s c1 rfl (BP c) o l hr),?_,?_⟩
   ·intro e;rw[BJ] at e;rw[e] at hs;exact⟨L[p],AP d,QK.2 fun u=>(QK.1 hs u).symm⟩
   ·intro e;rw[C3] at e;rw[show s=1 by omega] at hs;have hs:=qJ.1 hs;refine⟨g,fun z hz => ?_⟩;obtain⟨q,j,rfl⟩:=DK hz;rw[CX] at j;rw[AJt];by_cases B:q=0
    ·subst B;exact hs
    ·obtain⟨O,P,ow⟩:=hL _ (AP (show p+q<F L by omega));exact cY n.one ow.one hs ((IK.1 asc) p (p+q) d (by omega) (by omega))
  ·have v:=Awi ls _ i m k _ false s c1 rfl (Bw c) o l hr;have C:Q X (p+1)=((p+1:Nat):Int):=wrz
   rw[C,show (s==0)=false by rw[C3];omega] at v;rw[show s = -1 by omega] at hs;obtain⟨q,b,j,hl,E⟩:=x (p+1) (by omega) (fun z hz=>by
    rw[Dz d] at hz;rcases BD.1 hz with hz | hz
    ·exact g z hz
    ·rw[Dh.1 hz];exact hs)
   exact⟨q,b,j,Bk v hl,E⟩
end
structure Tin (done:Nu->Prop) (L:List Nu):Prop where
 ok:∀ z∈L,∃ k,k<=744/\Mok k z
 asc:L.Pairwise fun z w=>Jd z w (-1)
 cov:∀ a,done a->∃ z∈L,Jd a z 0
theorem Tin.less{d b:Nu->Prop}{L:List Nu}(h:Tin d L)(hd:∀ a,b a->d a):Tin b L:=⟨h.ok,h.asc,fun a ha=>h.cov a (hd a ha)⟩
section
variable {p:G} (hE:Enp p) (ls:List D) (i:Int) {l:List Iv} (hl:l=DT p)
include hE hl
theorem Axh{done:Nu->Prop}{L:List Nu}(h:Tin done L)(hlen:F L+1<=1000){j:Nat}(hj:j<F l)(N:j<1000000) :
  ∃ m,Tin (fun a=>done a\/a=(p,l[j])) m/\F m<=F L+1 /\
   Z T5 (K_ ls (L.map AJ) i (l.map (Iv.rt (O p))) (j:Nat)) .norm (K_ ls (m.map AJ) i (l.map (Iv.rt (O p))) ((j+1:Nat))):=by
 have hy:l[j]∈DT p:=by rw[<- hl];exact AP hj
 have ha:∃ k,k<=744/\Mok k (p,l[j]):=Y2 hE _ hy;have s:H (l.map (Iv.rt (O p))) (Y j) zR=AJ (p,l[j]):=by
  rw[Aa,Ad,CC,Am hj];rfl
 have v:Q X (j+1)=((j+1:Nat):Int):=wrz
 have c1:decide ((j:Int)<(F (l.map (Iv.rt (O p))):Int))=true:=by rw[Ac,AZ];omega
 have x:0<=(j:Int)/\(j:Int)<(F (l.map (Iv.rt (O p))):Int):=by rw[Ac];omega
 obtain⟨q,b,y,B,D,E⟩:=Axg h.ok ha h.asc (by omega) ls i (l.map (Iv.rt (O p))) (j:Nat) x s (F L) 0 (by omega) (fun z hz=>by simp at hz);cases b with
 | true =>
  obtain⟨z,hz,n⟩:=D rfl;refine⟨L,⟨h.ok,h.asc,?_⟩,by omega,?_⟩
  ·rintro a (d | rfl)
   ·exact h.cov a d
   ·exact⟨z,hz,n⟩
  ·have k:=Awk ls _ i _ (j:Nat) (q:Nat) true c1 rfl B;rw[v] at k;exact k
 | false =>
  obtain⟨G,I⟩:=E rfl;refine⟨L.take q++(p,l[j])::L.drop q,⟨?_,?_,?_⟩,by simp;omega,?_⟩
  ·intro z hz;rcases BD.1 hz with hz | hz
   ·exact h.ok z (C5 hz)
   ·rcases BW.1 hz with rfl | hz
    ·exact ha
    ·exact h.ok z (E3 hz)
  ·have g:=h.asc;rw[<- Ft q L,Of] at g;rw[Of,G3];refine⟨g.1,⟨I,g.2.1⟩,fun z hz w o => ?_⟩;rcases BW.1 o with rfl | o
   ·exact G z hz
   ·exact g.2.2 z hz w o
  ·rintro a (d | rfl)
   ·obtain⟨z,hz,n⟩:=h.cov a d;refine⟨z,?_,n⟩;rw[<- Ft q L] at hz;rcases BD.1 hz with hz | hz
    ·exact F6 _ hz
    ·exact Ez _ (Bg _ hz)
   ·exact⟨_,Ez _ (Ba ..),QK.2 fun u=>Iff.rfl⟩
  ·have P:F (C2 (L.map AJ))=F L*7:=by rw[FA,Ac]
   have C:BF ((F L-q)*7) (AL (q*7) (C2 (L.map AJ)))=C2 ((L.drop q).map AJ):=by
    rw[Ns,ABf,Dt];rw[FA,CX,Ac];omega
   have e0:BF ((q-0)*7) (AL (0*7) (C2 (L.map AJ)))=C2 ((L.take q).map AJ):=by
    rw[Lj,DA,Lb,Tw,Od]
   have c:F (L.map AJ)=F L:=Ac ..;have k:=Awl ls (L.map AJ) i (l.map (Iv.rt (O p))) (j:Nat) (q:Nat) false c1 rfl B (by omega) (by rw[Aa,c];exact⟨A_ _,y,A2 _,fun e=>absurd e (by decide)⟩) (by
    rw[Aa,e0,FA,Ac,AX];omega) (by rw[Aa];omega) x (by rw[Aa];omega) (by rw[Aa,c];exact⟨y,A2 _,A2 _,fun e=>absurd e (by decide)⟩) (by
    rw[Aa,c,C,FA,Ac,CX]) (by rw[Aa,c];omega)
   rw[v,Aa,c,e0,C,s] at k;have K:q-0+1+(F L-q)=F ((L.take q++(p,l[j])::L.drop q).map AJ):=by simp;omega
   have M:C2 ((L.take q++(p,l[j])::L.drop q).map AJ)=C2 ((L.take q).map AJ)++[sL S ((AJ (p,l[j])).fs),W ((AJ (p,l[j])).r).1,sL A (((AJ (p,l[j])).r).2),J X ((AJ (p,l[j])).e),W ((AJ (p,l[j])).t).1,sL A (((AJ (p,l[j])).t).2),J X ((AJ (p,l[j])).f)]++C2 ((L.drop q).map AJ):=by
    rw[D_,CW,K0,C2,Iu];rfl
   rw[K,<- M] at k;exact k
theorem Axi(hn:F l<=10):∀ (r j:Nat) (done:Nu->Prop) (L:List Nu),j+r=F l->Tin done L->F L+r<=900 ->
  ∃ b,Tin (fun a=>done a\/(a.1=p/\a.2∈l.drop j)) b/\F b<=F L+r /\
   Z (.loop T5) (K_ ls (L.map AJ) i (l.map (Iv.rt (O p))) (j:Nat)) xZ2 (K_ ls (b.map AJ) i (l.map (Iv.rt (O p))) (F l)):=by
 intro r;induction r with
 | zero =>
  intro j done L hj h hL;refine⟨L,h.less ?_,by omega,?_⟩
  ·rintro a (d | ⟨_,d⟩)
   ·exact d
   ·rw[show j=F l by omega,DD] at d;cases d
  ·rw[show j=F l by omega];exact Aq (Awm _ _ _ _ _ (by rw[Ac,AW];omega))
 | succ r g =>
  intro j done L hj h hL;have f:j<F l:=by omega
  obtain⟨k,h1,q,m⟩:=Axh hE ls i hl h (by omega) f (by omega);obtain⟨n,h2,s,o⟩:=g (j+1) _ k (by omega) h1 (by omega);refine⟨n,h2.less ?_,by omega,Bk m o⟩;rintro a (d | ⟨e,d⟩)
  ·exact .inl (.inl d)
  ·rw[BL f] at d;rcases BW.1 d with c | c
   ·exact .inl (.inr (by rw[<- e,<- c]))
   ·exact .inr ⟨e,c⟩
end
theorem fY{p:G}(hE:Enp p)(h:F (Af p)<=1):DT p=[]:=by
 cases e:DT p with
 | nil=>rfl
 | cons y l =>
  obtain⟨k,_,o⟩:=Y2 hE y (by rw[e];exact Ba ..);have h2:2<=F (O p):=o.one.len;have a:=((C7 hE.ne).2.2.2.2.1.length hE.ne).1;rw[show Af (O p)=O p from (C7 hE.ne).1] at a;omega
section
variable {ls:List D} (hf:Few ls) (hE:∀ rs∈ls,Enp (Al rs))
include hf hE
theorem yH{i:Nat}(hi:i<F ls){done:Nu->Prop}{L:List Nu}(h:Tin done L)(hL:F L<=800) :
  ∃ b,Tin (fun a=>done a\/(a.1=Al ls[i]/\a.2∈DT a.1)) b/\F b<=F L+10 /\
   Z T6 (Kc ls (L.map AJ) (i:Nat)) .norm (Kc ls (b.map AJ) ((i+1:Nat))):=by
 have l:=AP hi;have o:=hf.good _ l;have z:=hf.deg _ l;have f:=hE _ l;have A:=hf.len;have g:H ls (Y i) []=ls[i]:=by rw[Aa,Ad,Am hi];rfl
 have q:Q X (i+1)=((i+1:Nat):Int):=wrz
 have c1:decide ((i:Int)<(F ls:Int))=true:=by rw[AZ];omega
 have s:0<=(i:Int)/\(i:Int)<(F ls:Int):=by omega
 have p:=fV (rs:=ls[i]) (fun r hr=>(o r hr).mono (by decide)) (by omega);rw[<- g] at p;by_cases c:F (Af (Al ls[i]))<=1
 ·refine⟨L,h.less ?_,by omega,?_⟩
  ·rintro a (d | ⟨j,e⟩)
   ·exact d
   ·rw[j,fY f c] at e;cases e
  ·have k:=Awn ls (L.map AJ) (i:Nat) _ c1 (by rw[g,AZ];omega) s p;rw[q] at k;exact k
 ·have t:=K4 o (by omega);have B:=Yx f t;have u:F (DT (Al ls[i]))<=10:=by
   have:=kJ (Al ls[i]) 744 Ir;show F (KW (Al ls[i]) 744 Ir)<=10;omega
  obtain⟨b,v,D,w⟩:=Axi f ls (i:Nat) rfl u (F (DT (Al ls[i]))) 0 done L (by omega) h (by omega);have y:=Agw o (by omega) (n:=744) (x:=Ir) (C:=0) (m:=0) Wf (by decide) (Jq f 744 0 Ir rfl Hq) (by omega) (by decide);have e0:A4 (V 0) 0=A4 Ir.r (Ir.a:Nat):=by
   show A4 (V 0) 0=A4 z0 0;rw[show V 0=z0 by decide]
  refine⟨b,v.less ?_,by omega,?_⟩
  ·rintro a (d | ⟨j,e⟩)
   ·exact .inl d
   ·exact .inr ⟨j,by rw[j] at e;exact e⟩
  ·have k:=Awo ls (L.map AJ) (i:Nat) _ _ ((DT (Al ls[i])).map (Iv.rt (O (Al ls[i])))) (b.map AJ) c1 (by rw[g,AW];omega) s p Hs Ga (by rw[g,e0];exact y) w;rw[q] at k;exact k
theorem yI:∃ L,Tms ls L/\F L<=100/\T 175 [sL pp ls] (sL C2 (L.map AJ)):=by
 have q:=hf.len;suffices h:∀ (r i:Nat) (L:List Nu),i+r=F ls->Tin (fun a=>(∃ rs∈ls.take i,a.1=Al rs)/\a.2∈DT a.1) L->F L<=10*i ->
   ∃ b,Tms ls b/\F b<=10*F ls/\Z (.loop T6) (Kc ls (L.map AJ) (i:Nat)) xZ0 (Kc ls (b.map AJ) (F ls)) by
  obtain⟨L,h1,h2,k⟩:=h (F ls) 0 [] (by omega) ⟨fun z hz=>(by cases hz),.nil,fun a ha=>(by simp at ha)⟩ (by simp);exact⟨L,h1,by omega,A9t ls _ _ k⟩
 intro r;induction r with
 | zero =>
  intro i L hi h hL;have e:i=F ls:=by omega
  subst e;rw[DV] at h;exact⟨L,⟨h.ok,h.asc,fun rs g y hy=>h.cov (Al rs,y) ⟨⟨rs,g,rfl⟩,hy⟩⟩,hL,Aq (Awp _ _ _ (by rw[AW];omega))⟩
 | succ r j =>
  intro i L hi h hL;have d:i<F ls:=by omega
  obtain⟨l,h1,s,m⟩:=yH hf hE d h (by omega);obtain⟨n,h2,o,p⟩:=j (i+1) l (by omega) (h1.less (by
   rintro a ⟨⟨rs,c0,c1⟩,f⟩;rw[Dz d] at c0;rcases BD.1 c0 with c | c
   ·exact .inl ⟨⟨rs,c,c1⟩,f⟩
   ·exact .inr ⟨by rw[c1,Dh.1 c],f⟩)) (by omega)
  exact⟨n,h2,o,Bk m p⟩
end
theorem Wt{ls:List D}{i:Nat}(hi:i<F ls):H ls (Y i) []=ls[i]:=by rw [Aa,Ad,Am hi];rfl
theorem wr1{i:Nat}(h:i<=1000000):Q X (i+1)=((i+1:Nat):Int):=by rw [wqz];omega
section
variable {ls:List D} (hf:Few ls)
include hf
theorem dX{rs:D}(a:rs∈ls):T 46 [sL S rs] (Ae 2 (F ((Af (Al rs)).map V)) (S ((Af (Al rs)).map V))):=by
 have d:=hf.deg rs a;exact FD (FM (fun r hr=>(hf.good rs a r hr).mono (by decide)) (by omega))
theorem Pi{r:Rn}(hr:BC 300 r){a:Nat}(ha:a<=8192):∃ b:Bool,(b=true↔∀ p∈Cf ls,0<Dl p (B r) a)/\T 93 [sL pp ls,A4 r (a:Nat)] (W b):=by
 have w:=hf.len;have t:∀ k i,i+k=F ls->((∀ rs∈ls.drop i,0<Dl (Af (Al rs)) (B r) a)/\Z (.loop dM) (OM false ls r (a:Nat) (i:Nat)) xZ0 (OM false ls r (a:Nat) (F ls:Nat))) \/
   ((¬ ∀ rs∈ls.drop i,0<Dl (Af (Al rs)) (B r) a)/\∃ j:Int,Z (.loop dM) (OM false ls r (a:Nat) (i:Nat)) .ret (OM false ls r (a:Nat) j)):=by
  intro k;induction k with
  | zero =>
   intro i hi;have e:i=F ls:=by omega
   subst e;rw[DD];exact .inl ⟨fun p hp=>(by cases hp),Aq (AFn _ _ _ _ _ (by rw[AW];omega))⟩
  | succ k u =>
   intro i hi;have l:i<F ls:=by omega
   have m:=AP l;have c1:decide ((i:Int)<(F ls:Int))=true:=by rw[AZ];omega
   have q:0<=(i:Int)/\(i:Int)<(F ls:Int):=by omega
   have d:=dX hf m;have hd:=hf.deg _ m;have v:=Ct (Al ls[i]);rw[B1] at v;obtain⟨f,g⟩:=Sz (rs:=(Af (Al ls[i])).map V) (fun x hx=>(Bx (KL (DW (hf.good _ m))).trim x hx).mono (by decide)) (by rw[Ac];omega) hr ha;rw[Bs,show Af (Af (Al ls[i]))=Af (Al ls[i]) from GI _] at f g;rw[BL l];generalize s:Af (Al ls[i])=tt at d f g;rw[<- Wt l] at d;by_cases c:Dl tt (B r) a<=0
   ·exact .inr ⟨fun z=>by have:=z _ (Ba ..);rw[s] at this;omega,_,Aq (AFl false ls r (a:Nat) (i:Nat) _ _ _ c1 (BP c) q d f g)⟩
   ·have n:=AFm false ls r (a:Nat) (i:Nat) _ _ _ c1 (Bw c) q d f g;rw[wr1 (by omega)] at n;rcases u (i+1) (by omega) with ⟨x,b⟩ | ⟨x,j,b⟩
    ·refine .inl ⟨fun p hp => ?_,Bk n b⟩;rcases BW.1 hp with rfl | hp
     ·rw[s];omega
     ·exact x p hp
    ·exact .inr ⟨fun z=>x fun p hp=>z p (Bg _ hp),j,Bk n b⟩
 have ts:(∀ p∈Cf ls,0<Dl p (B r) a)↔∀ rs∈ls,0<Dl (Af (Al rs)) (B r) a:=by
  unfold Cf;simp only[DI];exact⟨fun h rs o=>h _ ⟨rs,o,rfl⟩,fun h p ⟨rs,o,e⟩=>by rw[<- e];exact h rs o⟩
 rcases t (F ls) 0 (by omega) with ⟨x,b⟩ | ⟨x,j,b⟩
 ·exact⟨true,⟨fun _=>ts.2 x,fun _=>rfl⟩,AFo _ _ _ _ b⟩
 ·exact⟨false,⟨fun e=>(by cases e),fun e=>absurd (ts.1 e) x⟩,A9s _ _ _ _ b⟩
end
section
variable {x y:Bool} {a b:Nu} (ha:Mop x a) (hb:Mop y b) (h1:x=true->y=true->Jd a b (-1)) (h2:x=true->y=false->sd a.1 a.2 1 0<0)
include ha hb h1 h2
theorem qX:∃ n,n<=1921/\apD x a y b n=true/\BC 300 (V (NY (QR x (q a n)) (Rp y (q b n))).1)/\(NY (QR x (q a n)) (Rp y (q b n))).2<=8192 /\
  T 176 [NZ a,W x,NZ b,W y] (A4 (V (NY (QR x (q a n)) (Rp y (q b n))).1) ((NY (QR x (q a n)) (Rp y (q b n))).2:Nat)):=by
 obtain⟨n,hn,A,d⟩:=Axf ha hb h1 h2;have z:∀ i,i<=1921->T 33 [if x then A4 (AJ (q a i)).t (AJ (q a i)).f else A4 (V 0) 0,if y then A4 (AJ (q b i)).r (AJ (q b i)).e else A4 (V 1) 0] (J X (BS (QR x (q a i)).1 (QR x (q a i)).2 (Rp y (q b i)).1 (Rp y (q b i)).2)):=by
  intro i hi;obtain⟨r,e,s,g,C,_,u⟩:=AAu ha hi;obtain⟨t,f,v,h,D,_,w⟩:=AAv hb hi;rw[<- u,<- w,s,v];exact G2 (g.mono (show 300<=600 by omega)) (h.mono (show 300<=600 by omega)) (by omega) (by omega)
 have hf:BC 300 (V (NY (QR x (q a n)) (Rp y (q b n))).1)/\(NY (QR x (q a n)) (Rp y (q b n))).2<=8192/\T 121 [if x then A4 (AJ (q a n)).t (AJ (q a n)).f else A4 (V 0) 0,if y then A4 (AJ (q b n)).r (AJ (q b n)).e else A4 (V 1) 0] (A4 (V (NY (QR x (q a n)) (Rp y (q b n))).1) ((NY (QR x (q a n)) (Rp y (q b n))).2:Nat)):=by
  obtain⟨r,e,s,g,C,E,u⟩:=AAu ha hn;obtain⟨t,f,v,h,D,F,w⟩:=AAv hb hn;rw[<- u,<- w,s,v];have me:KU (B r) e (B t) f<=max e f+1:=OJ;have G:=Tp E F;exact⟨BB (C8 (k:=0+KU (B r) e (B t) f) (by rw[Dw];exact G) (by omega)),by show KU (B r) e (B t) f<=8192;omega,UH (g.mono (show 300<=600 by omega)) (h.mono (show 300<=600 by omega)) (by omega) (by omega)⟩
 obtain⟨g,h,hf⟩:=hf;refine⟨n,hn,d,g,h,?_⟩;generalize NY (QR x (q a n)) (Rp y (q b n))=m at *
 have l:=Hl (prog:=DP) (c:=Ph) (ex := .ret) (fin:=HO (AJ (q a n)).fs (AJ (q a n)).r (AJ (q a n)).e (AJ (q a n)).t (AJ (q a n)).f x (AJ (q b n)).fs (AJ (q b n)).r (AJ (q b n)).e (AJ (q b n)).t (AJ (q b n)).f y (V m.1) (m.2:Nat)) (fun i=>HO (AJ (q a i)).fs (AJ (q a i)).r (AJ (q a i)).e (AJ (q a i)).t (AJ (q a i)).f x (AJ (q b i)).fs (AJ (q b i)).r (AJ (q b i)).e (AJ (q b i)).t (AJ (q b i)).f y (false,[]) 0) n (by nofun)
  (by
   have c:=z n hn;unfold apD at d;cases x <;> cases y
   ·exact AAa _ _ _ _ _ false _ _ _ _ _ false _ _ _ _ _ rfl rfl d Hs Ga c hf
   ·exact A9y _ _ _ _ _ false _ _ _ _ _ true _ _ _ _ _ rfl rfl d Hs Ga c hf
   ·exact A9w _ _ _ _ _ true _ _ _ _ _ false _ _ _ _ _ rfl rfl d Hs Ga c hf
   ·exact A9u _ _ _ _ _ true _ _ _ _ _ true _ _ _ _ _ rfl rfl d Hs Ga c hf) 0 (A_ _)
  (fun i _ hi=>by
   have c:=z i (by omega);have j:=A i hi;have o:=Alm ha (i:=i) (by omega);have p:=Alm hb (i:=i) (by omega);unfold apD at j;cases x <;> cases y
   ·exact AAb _ _ _ _ _ false _ _ _ _ _ false _ _ _ _ _ _ _ _ _ _ _ _ _ rfl rfl j Hs Ga c o p
   ·exact A9z _ _ _ _ _ false _ _ _ _ _ true _ _ _ _ _ _ _ _ _ _ _ _ _ rfl rfl j Hs Ga c o p
   ·exact A9x _ _ _ _ _ true _ _ _ _ _ false _ _ _ _ _ _ _ _ _ _ _ _ _ rfl rfl j Hs Ga c o p
   ·exact A9v _ _ _ _ _ true _ _ _ _ _ true _ _ _ _ _ _ _ _ _ _ _ _ _ rfl rfl j Hs Ga c o p)
 exact AAc _ _ _ _ _ _ _ _ _ _ _ _ _ _ _ _ _ _ _ _ x y _ _ l
end
theorem lF:AJ Mu=zR:=by
 show Iv.rt (O []) Mu.2=zR;rw[SG];rfl
theorem Axj:NZ Mu=nuN:=by
 show Bh (AJ Mu).fs (AJ Mu).r (AJ Mu).e (AJ Mu).t (AJ Mu).f=_;rw[lF];rfl
theorem AJi{k:Nat}{z:Nu}(hz:Mok k z)(d:k<=8000):T 27 [NZ z,A4 (V 1) 0] (J X (sd z.1 z.2 1 0)):=by
 have k:=To (Gg hz.en) hz.ok.gr hz.ok.gt (q:=V 1) (BB (C8 (k:=1) (by decide) (by decide))) (a:=z.2.a) (b:=z.2.b) (c:=0) (by have:=hz.ok.a;omega) (by have:=hz.ok.b;omega) (by decide) (C7 hz.en.ne).1 (by rw[Fe.2 hz.one.lt];decide);rw[AO] at k;exact k
def AHi(ls:List D)(L:List Nu)(i:Nat):Prop:=∀ t:Dy,¬ dl t (0,0)->¬ dl (1,0) t->Seg L i t t->¬ ∀ p∈Cf ls,0<Dl p t.1 t.2
abbrev fZ(o:Bool)(q:Rt)(ls:List D)(L:List Nu)(z:Rt)(i:Int):Az:=FN q.fs q.r q.e q.t q.f o ls (L.map AJ) z.fs z.r z.e z.t z.f i
abbrev ET(L:List Nu)(i:Nat):Rt:=AJ (LD L (E (0<i)) (i-1))
section
variable {ls:List D} (hf:Few ls) (hE:∀ rs∈ls,Enp (Al rs)) {L:List Nu} (h:Tms ls L) (hL:F L<=100)
include hf hE h hL
theorem yJ{i:Nat}(hi:i<=F L):(∃ h0:0<i,0<=sd (L[i-1]).1 (L[i-1]).2 1 0/\Z I9 (fZ false zR ls L (ET L i) (i:Nat)) xZ0 (fZ false zR ls L (ET L i) (i:Nat))) \/
  (TE (Cf ls)/\∃ q z,Z I9 (fZ false zR ls L (ET L i) (i:Nat)) .ret (fZ true q ls L z (i:Nat))) \/
  (AHi ls L i/\Z I9 (fZ false zR ls L (ET L i) (i:Nat)) .norm (fZ false zR ls L (if i<F L then ET L (i+1) else zR) ((i+1:Nat):Int))):=by
 have A:F (L.map AJ)=F L:=Ac ..;have G:=wr1 (i:=i) (by omega);have c1:decide ((i:Int)<=(F (L.map AJ):Int))=true:=by rw[A,AZ];omega
 have l:decide ((i:Int)>0)=decide (0<i):=by rw[decide_eq_decide];omega
 have d:decide ((i:Int)<(F (L.map AJ):Int))=decide (i<F L):=by rw[A,decide_eq_decide];omega
 have v:∀ h0:0<i,T 27 [Bh (ET L i).fs (ET L i).r (ET L i).e (ET L i).t (ET L i).f,A4 (V 1) 0] (J X (sd (L[i-1]).1 (L[i-1]).2 1 0)):=fun h0=>by
  obtain⟨k,hk,o⟩:=h.ok _ (AP (show i-1<F L by omega));have e:ET L i=AJ L[i-1]:=by unfold ET LD;rw[BP h0,Ar rfl,HN (by omega)]
  rw[e];exact AJi o (by omega)
 by_cases st:∃ h0:0<i,0<=sd (L[i-1]).1 (L[i-1]).2 1 0
 ·obtain⟨h0,st⟩:=st;have w:=v h0;have s:decide ((i:Int)>0)=true:=by rw[l];exact BP h0
  refine .inl ⟨h0,st,?_⟩;by_cases c:i<F L
  ·exact AAd _ _ _ _ _ _ ls (L.map AJ) _ _ _ _ _ (i:Nat) _ c1 (by rw[d];exact BP c) s (BP st) (by rw[A];omega) Ga w
  ·exact AAi _ _ _ _ _ _ ls (L.map AJ) _ _ _ _ _ (i:Nat) _ c1 (by rw[d];exact Bw c) s (BP st) Ga w
 have hs:∀ h0:0<i,sd (L[i-1]).1 (L[i-1]).2 1 0<0:=fun h0=>FI.1 fun g=>st ⟨h0,g⟩;have y:∀ h0:0<i,decide (sd (L[i-1]).1 (L[i-1]).2 1 0>=0)=false:=fun h0=>Bw (by have:=hs h0;omega);obtain⟨N,O,P,Q,R⟩:=h.bet hi fun h0 _=>hs h0;obtain⟨n,hn,S,U,g2,B⟩:=qX N O P Q;have j:=R n S hn;generalize NY _ _=m at *
 obtain⟨w,hw,u⟩:=Pi hf U g2;rw[AO] at hw;have C:∀ c:i<F L,T 176 [Bh (ET L i).fs (ET L i).r (ET L i).e (ET L i).t (ET L i).f,W (E ((i:Int)>0)),Bh (H (L.map AJ) (Y i) zR).fs (H (L.map AJ) (Y i) zR).r (H (L.map AJ) (Y i) zR).e (H (L.map AJ) (Y i) zR).t (H (L.map AJ) (Y i) zR).f,W (E ((i:Int)<(F (L.map AJ):Int)))] (A4 (V m.1) (m.2:Nat)):=fun c=>by
  rw[l,d,Aa,Ju c];have e:LD L (E (i<F L)) i=L[i]:=by unfold LD;rw[BP c,Ar rfl,HN c]
  rw[e] at B;exact B
 have D:¬ i<F L->T 176 [Bh (ET L i).fs (ET L i).r (ET L i).e (ET L i).t (ET L i).f,W (E ((i:Int)>0)),nuN,W (E ((i:Int)<(F (L.map AJ):Int)))] (A4 (V m.1) (m.2:Nat)):=fun c=>by
  rw[l,d];have e:LD L (E (i<F L)) i=Mu:=by unfold LD;rw[Bw c];rfl
  rw[e,Axj] at B;exact B
 cases w with
 | true =>
  refine .inr (.inl ⟨⟨m,CV j.u0 (le_of_lt j.um),le_of_lt j.m1,hw.1 rfl⟩,?_⟩);obtain⟨fs,r,t,a,b,I⟩:=kZ (k:=0) (e:=0) (by decide) (by decide);by_cases h0:0<i
  ·have s:decide ((i:Int)>0)=true:=by rw[l];exact BP h0
   have x:((i:Int)==0)=false:=by rw[C3];omega
   by_cases c:i<F L
   ·exact⟨ET L i,ET L i,AAe _ _ _ _ _ _ ls (L.map AJ) _ _ _ _ _ (i:Nat) _ _ _ true c1 (by rw[d];exact BP c) s (y h0) rfl x (by rw[A];omega) Ga (v h0) (C c) u⟩
   ·exact⟨ET L i,ET L i,Awq _ _ _ _ _ _ ls (L.map AJ) _ _ _ _ _ (i:Nat) _ _ _ true c1 (by rw[d];exact Bw c) s (y h0) rfl x Ga (v h0) (D c) u⟩
  ·have s:decide ((i:Int)>0)=false:=by rw[l];exact Bw h0
   have x:((i:Int)==0)=true:=by rw[BJ];omega
   by_cases c:i<F L
   ·exact⟨⟨fs,r,a,t,b⟩,ET L i,AAg _ _ _ _ _ _ ls (L.map AJ) _ _ _ _ _ (i:Nat) _ _ true _ _ _ _ _ c1 (by rw[d];exact BP c) s rfl x (by rw[A];omega) (C c) u Hs I⟩
   ·exact⟨⟨fs,r,a,t,b⟩,ET L i,Aws _ _ _ _ _ _ ls (L.map AJ) _ _ _ _ _ (i:Nat) _ _ true _ _ _ _ _ c1 (by rw[d];exact Bw c) s rfl x (D c) u Hs I⟩
 | false =>
  refine .inr (.inr ⟨fun t t0 t1 sg hp => ?_,?_⟩)
  ·have:false=true:=hw.2 fun p K=>by
    obtain⟨rs,M,rfl⟩:=DI.1 K;exact h.pos j sg t0 t1 M (hE rs M) (hp _ K)
   cases this
  ·by_cases c:i<F L
   ·rw[Ar c];have e:ET L (i+1)=H (L.map AJ) (Y i) zR:=by
     rw[Aa,Ju c];unfold ET LD;rw[BP (show 0<i+1 by omega),Ar rfl,HQ,HN c]
    rw[e,<- G];by_cases h0:0<i
    ·exact AAf _ _ _ _ _ _ ls (L.map AJ) _ _ _ _ _ (i:Nat) _ _ _ false c1 (by rw[d];exact BP c) (by rw[l];exact BP h0) (y h0) rfl (by rw[A];omega) Ga (v h0) (C c) u
    ·exact AAh _ _ _ _ _ _ ls (L.map AJ) _ _ _ _ _ (i:Nat) _ _ false c1 (by rw[d];exact BP c) (by rw[l];exact Bw h0) rfl (by rw[A];omega) (C c) u
   ·rw[Aw c,<- G];by_cases h0:0<i
    ·exact Awr _ _ _ _ _ _ ls (L.map AJ) _ _ _ _ _ (i:Nat) _ _ _ false c1 (by rw[d];exact Bw c) (by rw[l];exact BP h0) (y h0) rfl Ga (v h0) (D c) u
    ·exact Awt _ _ _ _ _ _ ls (L.map AJ) _ _ _ _ _ (i:Nat) _ _ false c1 (by rw[d];exact Bw c) (by rw[l];exact Bw h0) rfl (D c) u
theorem AAw:∀ r i:Nat,i+r=F L->(TE (Cf ls)/\∃ q z,∃ j:Int,Z (.loop I9) (fZ false zR ls L (ET L i) (i:Nat)) .ret (fZ true q ls L z j)) \/
  ((∀ j,i<=j->j<=F L->AHi ls L j)/\∃ z,∃ j:Int,Z (.loop I9) (fZ false zR ls L (ET L i) (i:Nat)) xZ0 (fZ false zR ls L z j)):=by
 intro r;induction r with
 | zero =>
  intro i hi;rcases yJ hf hE h hL (i:=i) (by omega) with ⟨h0,st,k⟩ | ⟨a,q,z,k⟩ | ⟨a,k⟩
  ·refine .inr ⟨fun j h1 h2 t t0 t1 sg _ => ?_,_,_,Aq k⟩;have:=QM (h.one _) (sg.lo (i-1) (by omega) (by omega)) t1;omega
  ·exact .inl ⟨a,q,z,_,Aq k⟩
  ·refine .inr ⟨fun j h1 h2=>by rw[show j=i by omega];exact a,_,_,Bk k (Aq (Awu _ _ _ _ _ _ _ _ _ _ _ _ _ _ (by rw[Ac,AW];omega)))⟩
 | succ r c =>
  intro i hi;rcases yJ hf hE h hL (i:=i) (by omega) with ⟨h0,st,k⟩ | ⟨a,q,z,k⟩ | ⟨a,k⟩
  ·refine .inr ⟨fun j h1 h2 t t0 t1 sg _ => ?_,_,_,Aq k⟩;have:=QM (h.one _) (sg.lo (i-1) (by omega) (by omega)) t1;omega
  ·exact .inl ⟨a,q,z,_,Aq k⟩
  ·rw[Ar (by omega)] at k;rcases c (i+1) (by omega) with ⟨b,q,z,j,l⟩ | ⟨b,z,j,l⟩
   ·exact .inl ⟨b,q,z,j,Bk k l⟩
   ·refine .inr ⟨fun j h1 h2 => ?_,z,j,Bk k l⟩;by_cases e:j=i
    ·rw[e];exact a
    ·exact b j (by omega) h2
end
def Ans(ls:List D)(w:Bool):Prop:=(w=true->TE (Cf ls))/\(w=false->∀ t:Dy,¬ dl t (0,0)->¬ dl (1,0) t->¬ ∀ p∈Cf ls,0<Dl p t.1 t.2)
section
variable {ls:List D} (hf:Few ls)
include hf
theorem yK(hE:∀ rs∈ls,Enp (Al rs)):∃ q:Rt,∃ w,Ans ls w/\T 142 [sL pp ls] (A3 [Bh q.fs q.r q.e q.t q.f,W w]):=by
 obtain⟨L,b,hL,c⟩:=yI hf hE;have e0:ET L 0=zR:=lF;rcases AAw hf hE b hL (F L) 0 (by omega) with ⟨a,q,z,j,l⟩ | ⟨a,z,j,l⟩
 ·rw[e0] at l;exact⟨q,true,⟨fun _=>a,fun e=>(by cases e)⟩,Awv ls (L.map AJ) q.fs z.fs q.r q.t z.r z.t q.e q.f z.e z.f j true c l⟩
 ·rw[e0] at l;refine⟨zR,false,⟨fun e=>(by cases e),fun _ t t0 t1 => ?_⟩,AAj ls (L.map AJ) z.fs z.r z.t z.e z.f j c l⟩;obtain⟨i,hi,sg⟩:=b.seg t;exact a i (A_ _) hi t t0 t1 sg
omit hf in
theorem Axk{p:G}(hb:∀ i,I (H p i 0)<=2^113)(hl:F p<=8):Berp p (Oj p) 0 0:=by
 have hlen:F (Oj p)=F p:=by unfold Oj;simp
 refine⟨hlen,fun h0=>⟨(GN (F p-1) (F p-1+1):Int),?_,fun u v => ?_⟩,fun i => ?_⟩
 ·have hp:=Av.2 h0
  have:=(qS (F p-1) (by omega) (F p-1+1) (by omega)).1
  omega
 ·have hp:=Av.2 h0
  have e:bv u v (F p-1) (fun i=>H (Oj p) i 0)=bv u v (F p-1) (dP p):=HL u v fun i hi=>by unfold Oj;rw[PL,Ar (by omega)]
  rw[e,AAt h0 (by omega)]
  congr 2 <;> simp
 ·unfold Oj
  rw[PL]
  split
  ·rename_i hi
   rw[<- kX hi]
   refine B6 (UT hb hl hi (i+1) (A2 _)) ?_
   refine B6 (Bf _ (Bf 70000 (show i+1<=8 by omega))) ?_
   decide
  ·exact A_ _
theorem yL:∃ q:Rt,∃ w,Ans ls w/\T 90 [sL pp ls] (A3 [Bh q.fs q.r q.e q.t q.f,W w]):=by
 have D:=hf.len;have hl:F (Cf ls)=F ls:=Ac ..;have v:F ((Cf ls).map Oj)=F ls:=by rw[Ac,hl]
 have y:∀ {i:Nat} (hi:i<F (Cf ls)),(Cf ls)[i]=Af (Al (ls[i]'(by omega))):=fun hi=>by simp[Cf]
 have loop:Z (.loop kW) (SF ls 0 ([]:AK) 0 ([]:AK) 0) xZ0 (SF ls (F (s ((Cf ls).map Oj))) (pp (s ((Cf ls).map Oj))) (F (s (Cf ls))) (pp (s (Cf ls))) (F ls:Nat)):=by
  have l:=Et (prog:=DP) (c:=kW) (ex := .exit 0) (fun i=>SF ls i (pp (s (((Cf ls).map Oj).take i))) i (pp (s ((Cf ls).take i))) (i:Nat)) (F ls) (by nofun)
   (fun i hi=>by
    have m:=AP hi;have h:i<F (Cf ls):=by omega
    have j:=dX hf m;have d:=hf.deg _ m;obtain⟨E,n,G,o⟩:=hf.ts (AP h);have z:=Axb o n (hf.good _ m) d (y h).symm;rw[<- Wt hi] at j z;rw[Wt hi,<- y h] at j;rw[<- Wt hi] at j;have k:=AFp ls i (pp (s (((Cf ls).map Oj).take i))) i (pp (s ((Cf ls).take i))) (i:Nat) _ _ (by rw[AZ];omega) (by omega) (by omega) (by omega) j z;rw[wr1 (by omega),<- PJ,<- PJ] at k;have t1:(Cf ls).take i++[(Cf ls)[i]]=(Cf ls).take (i+1):=(Dz h).symm;have B:((Cf ls).map Oj).take i++[Oj (Cf ls)[i]]=((Cf ls).map Oj).take (i+1):=by
     rw[Dz (by rw[v];exact hi),Aim]
    rw[t1,B] at k;exact k)
   (AFq _ _ _ _ _ _ (by rw[AW];omega)) 0 (A_ _)
  simp only[OQ] at l;rw[Dt (by omega),Dt (by omega)] at l;rw[Ee,Ee,hl,v];exact l
 obtain⟨fs,r,t,a,b,x,A,hx⟩:=Aig (ps:=Cf ls) (fun p hp=>by have:=(hf.ts hp).2.1;omega) (by omega) 10 0 0 ((Cf ls).map Oj) (by decide) (by decide) (by rw[Ac]) (fun i hi=>by
  obtain⟨_,n,_,o⟩:=hf.ts (AP hi);rw[Ad,Am hi,Ad,CC,Am hi];exact Axk o n)
 by_cases c:x=2
 ·have C:∀ p∈Cf ls,p ≠ []:=by
   rcases hx with ⟨e,_⟩ | ⟨e,_⟩ | ⟨_,g⟩
   ·omega
   ·omega
   ·exact g
  obtain⟨q,w,hw,k⟩:=yK hf fun rs u=>⟨C _ (DI.2 ⟨rs,u,rfl⟩),by rw[B1];exact hf.deg rs u,hf.co rs u⟩;exact⟨q,w,hw,Awx ls _ _ _ _ _ _ _ _ _ _ _ _ x _ _ (by rw[c];rfl) loop A k⟩
 ·have k:=Aww ls _ _ fs r t a b x _ (by rw[bne_iff_ne];exact c) loop A;rcases hx with ⟨e,g⟩ | ⟨e,g⟩ | ⟨e,_⟩
  ·refine⟨⟨fs,r,a,t,b⟩,false,⟨fun e=>(by cases e),fun _ t t0 t1=>g t ?_ ?_⟩,?_⟩
   ·have:¬ t.1*2^0<=0*2^t.2:=t0;omega
   ·have:¬ (1:Int)*2^t.2<=t.1*2^0:=t1;omega
   ·rw[e] at k;exact k
  ·refine⟨⟨fs,r,a,t,b⟩,true,⟨fun _=>g,fun e=>(by cases e)⟩,?_⟩;rw[e] at k;exact k
  ·exact absurd e c
end
theorem Axl{t:G}(b:Kb 5 t)(hb:∀ i,I (H t i 0)<=2^113)(hl:F t<=8)(ll:l)(i j:Int):Z (.loop dN) (QO false ll i j (t.map V) 0) xZ4 (QO false ll i j (t.map V) (F t:Nat)):=by
 refine Et (prog:=DP) (c:=dN) (ex := .exit 4) (fun k=>QO false ll i j (t.map V) (k:Nat)) (F t) (by nofun) ?_ ?_ 0 (A_ _)
 ·intro k d;have hx:=Cm (Bx b) k;have bits:=bZ (neg:=(H (t.map V) k z0).1) hx.1 (by have:=hx.2;omega);have hv:FY (I (B (H (t.map V) k z0)))<=114:=by rw[FZ];exact wU (hb k)
  have bits:T 51 [AB (H (t.map V) (Y k) z0)] (J X (FY (I (B (H (t.map V) k z0))))):=by rw[Aa];exact bits
  have a:=AAk false ll i j (t.map V) (k:Nat) _ (by rw[AW];omega) (by rw[Ac,AZ];omega) (by rw[Ac];omega) bits;rw[wr1 (by omega)] at a;exact a
 ·exact AAl _ _ _ _ _ _ (by rw[Ac,AW];omega)
section
variable {ll:l} (h:∀ ls∈ll,Few ls) (hn:F ll<=5)
include h hn
theorem qY:T 92 [P (F ll) (ER ll)] (W false):=by
 refine AFr ll (F ll:Nat) (by rw[AW];omega) ?_;refine Et (prog:=DP) (c:=qQ) (ex := .exit 0) (fun i=>UR false ll (i:Nat)) (F ll) (by nofun) ?_ ?_ 0 (A_ _)
 ·intro i hi;have hf:=h _ (AP hi);have a:H ll (Y i) []=ll[i]:=by rw[Aa,Ad,Am hi];rfl
  have l:=hf.len;have e:Z (.loop dO) (QP false ll (i:Nat) 0) xZ2 (QP false ll (i:Nat) (F ll[i]:Nat)):=by
   refine Et (prog:=DP) (c:=dO) (ex := .exit 2) (fun j=>QP false ll (i:Nat) (j:Nat)) (F ll[i]) (by nofun) ?_ ?_ 0 (A_ _)
   ·intro j hj;have d:=AP hj;have hd:=hf.deg _ d;obtain⟨f,g,_,k⟩:=hf.ts (t:=Af (Al ll[i][j])) (DI.2 ⟨_,d,rfl⟩);have b:=AAm false ll (i:Nat) (j:Nat) _ _ (by rw[Ac,AW];omega) (by rw[a,AZ];omega) (by omega) (by rw[a];omega) (by rw[a,Wt hj];exact dX hf d) (Axl f k g ll (i:Nat) (j:Nat));rw[wr1 (by omega)] at b;exact b
   ·exact AAn _ _ _ _ (by rw[a,AW];omega) (by omega)
  have b:=AAo false ll (i:Nat) _ (by rw[a,AW];omega) (by rw[AZ];omega) (by omega) e;rw[wr1 (by omega)] at b;exact b
 ·exact AAp _ _ _ (by rw[AW];omega)
omit h hn in
theorem AAx{ls:List D}{w x y:Bool}(hw:Ans ls w)(hx:x=true↔∀ p∈Cf ls,0<Dl p 0 0)(hy:y=true↔∀ p∈Cf ls,0<Dl p 1 0):TE (Cf ls)↔w=true\/x=true\/y=true:=by
 constructor
 ·rintro⟨t,t0,t1,g⟩
  by_cases c0:dl t (0,0)
  ·refine .inr (.inl (hx.2 fun p hp => ?_))
   have a:(0:Int)*2^t.2<=t.1*2^0:=t0
   have b:t.1*2^0<=0*2^t.2:=c0
   have k:=g p hp
   have e:=Jc p 0 0 t.2
   rw[show (0:Int)*2^t.2=t.1 by omega,Cv] at e
   omega
  by_cases c1:dl (1,0) t
  ·refine .inr (.inr (hy.2 fun p hp => ?_))
   have a:t.1*2^0<=1*2^t.2:=t1
   have b:(1:Int)*2^t.2<=t.1*2^0:=c1
   have k:=g p hp
   have e:=Jc p 1 0 t.2
   rw[show (1:Int)*2^t.2=t.1 by omega,Cv] at e
   omega
  cases w with
  | true=>exact .inl rfl
  | false=>exact absurd g (hw.2 rfl t c0 c1)
 ·rintro (e | e | e)
  ·exact hw.1 e
  ·exact⟨(0,0),GM _,by unfold dl;decide,hx.1 e⟩
  ·exact⟨(1,0),by unfold dl;decide,GM _,hy.1 e⟩
theorem qZ:∃ b:Bool,(b=true↔∃ ls∈ll,TE (Cf ls))/\T 43 [P (F ll) (ER ll)] (A3 [W b,J X 0]):=by
 have r:=qY h hn;have t:BC 300 (V 0):=BB (C8 (k:=1) (by decide) (by decide));have u:BC 300 (V 1):=BB (C8 (k:=1) (by decide) (by decide));have v:∀ k i,i+k=F ll->((∃ ls∈ll.drop i,TE (Cf ls))/\∃ j:Int,Z (.loop Ws) (Lg false 0 ll (i:Nat)) .ret (Lg true 0 ll j)) \/
   ((¬ ∃ ls∈ll.drop i,TE (Cf ls))/\Z (.loop Ws) (Lg false 0 ll (i:Nat)) xZ0 (Lg false 0 ll (F ll:Nat))):=by
  intro k;induction k with
  | zero =>
   intro i hi;have e:i=F ll:=by omega
   subst e;rw[DD];exact .inr ⟨fun ⟨_,hp,_⟩=>(by cases hp),Aq (AFw _ _ _ _ (by rw[AW];omega))⟩
  | succ k z =>
   intro i hi;have n:i<F ll:=by omega
   have hf:=h _ (AP n);have A:H ll (Y i) []=ll[i]:=by rw[Aa,Ad,Am n];rfl
   have c1:decide ((i:Int)<(F ll:Int))=true:=by rw[AZ];omega
   have f:0<=(i:Int)/\(i:Int)<(F ll:Int):=by omega
   obtain⟨q,w,hw,c⟩:=yL hf;obtain⟨x,hx,l⟩:=Pi hf t (a:=0) (by decide);obtain⟨y,hy,o⟩:=Pi hf u (a:=0) (by decide);rw[AO] at hx hy;have m:=AAx hw hx hy;rw[<- A] at c l o;rw[BL n];cases w with
   | true=>exact .inl ⟨⟨_,Ba ..,m.2 (.inl rfl)⟩,_,Aq (AFs false 0 ll (i:Nat) _ _ _ _ _ true c1 rfl f c)⟩
   | false =>
    cases x with
    | true=>exact .inl ⟨⟨_,Ba ..,m.2 (.inr (.inl rfl))⟩,_,Aq (AFt false 0 ll (i:Nat) _ _ _ _ _ false true c1 rfl rfl f c Hs l)⟩
    | false =>
     cases y with
     | true=>exact .inl ⟨⟨_,Ba ..,m.2 (.inr (.inr rfl))⟩,_,Aq (AFu false 0 ll (i:Nat) _ _ _ _ _ false false true c1 rfl rfl rfl f c Hs l Ga o)⟩
     | false =>
      have p:=AFv false 0 ll (i:Nat) _ _ _ _ _ false false false c1 rfl rfl rfl f c Hs l Ga o;rw[wr1 (by omega)] at p;rcases z (i+1) (by omega) with ⟨⟨ls,d,g⟩,j,b⟩ | ⟨g,b⟩
      ·exact .inl ⟨⟨ls,Bg _ d,g⟩,j,Bk p b⟩
      ·refine .inr ⟨fun ⟨ls,d,s⟩ => ?_,Bk p b⟩;rcases BW.1 d with rfl | d
       ·rcases m.1 s with e | e | e <;> cases e
       ·exact g ⟨ls,d,s⟩
 rcases v (F ll) 0 (by omega) with ⟨g,j,b⟩ | ⟨g,b⟩
 ·exact⟨true,⟨fun _=>g,fun _=>rfl⟩,AAq ll j r b⟩
 ·exact⟨false,⟨fun e=>(by cases e),fun e=>absurd e g⟩,AFx ll _ r b⟩
end
theorem X3(d:T 36 [] (W true)){ll:l}(f:∀ ls∈ll,∀ rs∈ls,∀ r∈rs,BC 35184372088832 r):T 9 [P (F ll) (ER ll)] (W true):=by
 obtain⟨b,hf,hb⟩:=Avk f;cases b with
 | false=>exact AAs ll false rfl d hf
 | true =>
  obtain⟨g,k⟩:=hb rfl;have h:∀ ls∈ll,Few ls:=fun ls i=>(AFj (f ls i) (k ls i)).1;obtain⟨a,ha,m⟩:=qN A8y h g;obtain⟨c,hc,j⟩:=qZ h g;have e:a=c:=by rw[W2,ha,hc]
  rw[<- e] at j;exact AAr ll a true (by cases a <;> rfl) rfl d hf m j
theorem av0:T 118 [P 2 [W true,P 1 [J U 1],W false,P 1 [J U 4]],P 1 [W false,P 1 [J U 1]]] (Ae 2 0 []):=Cy (c _) 400 _ _ _ (by kernel_rfl)
theorem av1:T 135 [P 2 [W true,P 1 [J U 1],W false,P 1 [J U 4]],P 1 [W false,P 1 [J U 4]]] (P 1 [W false,P 1 [J U 1]]):=Cy (k av0 (c _)) 400 _ _ _ (by kernel_rfl)
theorem av2:T 67 [P 2 [W true,P 1 [J U 1],W false,P 1 [J U 4]]] (Ae 1 2 [P 2 [W true,P 1 [J U 1],W false,P 1 [J U 4]],P 1 [W false,P 1 [J U 1]]]):=Cy (k av1 (k av0 (c _))) 400 _ _ _ (by kernel_rfl)
theorem av3:T 56 [P 2 [W true,P 1 [J U 1],W false,P 1 [J U 4]],Ao [W false,P 0 [],J X 0],Ao [W false,P 1 [J U 1],J X 0],J X 1073741824] (A3 [P 1 [P 2 [W true,P 1 [J U 1],W false,P 1 [J U 4]],W false,P 0 [],J X 0,W false,P 1 [J U 1],J X 0],W true]):=Cy (k av2 (c _)) 400 _ _ _ (by kernel_rfl)
theorem av4:T 76 [Ao [P 2 [W true,P 1 [J U 1],W false,P 1 [J U 4]],W false,P 0 [],J X 0,W false,P 1 [J U 1],J X 0],Ao [W false,P 1 [J U 1],J X 0]] (J X (-1)):=Cy (c _) 400 _ _ _ (by kernel_rfl)
theorem av5:T 76 [Ao [P 2 [W true,P 1 [J U 1],W false,P 1 [J U 4]],W false,P 0 [],J X 0,W false,P 1 [J U 1],J X 0],Ao [W false,P 1 [J U 1],J X 1]] (J X (-1)):=Cy (c _) 400 _ _ _ (by kernel_rfl)
theorem av6:T 168 [P 1 [P 2 [W true,P 1 [J U 1],W false,P 1 [J U 4]]]] (Ae 7 1 [P 2 [W true,P 1 [J U 1],W false,P 1 [J U 4]],W false,P 0 [],J X 0,W false,P 1 [J U 1],J X 1]):=Cy (k av5 (k av4 (k av3 (c _)))) 400 _ _ _ (by kernel_rfl)
theorem av7:T 139 [P 1 [P 2 [W true,P 1 [J U 1],W false,P 1 [J U 4]]]] (A3 [Ao [P 2 [W true,P 1 [J U 1],W false,P 1 [J U 4]],W false,P 0 [],J X 0,W false,P 1 [J U 1],J X 1],W true]):=Cy (k av6 (c _)) 400 _ _ _ (by kernel_rfl)
theorem av8:T 139 [P 2 [P 2 [W false,P 0 [],W false,P 1 [J U 1]],P 2 [W false,P 1 [J U 1],W true,P 1 [J U 2]]]] (A3 [Ao [P 2 [W false,P 0 [],W false,P 1 [J U 1]],W false,P 0 [],J X 0,W false,P 0 [],J X 0],W true]):=Cy (c _) 400 _ _ _ (by kernel_rfl)
theorem av9:T 166 [P 3 [W true,P 1 [J U 1],W false,P 1 [J U 4],W true,P 1 [J U 4]]] (A3 [W false,W false]):=Cy (c _) 400 _ _ _ (by kernel_rfl)
theorem av10:T 118 [P 3 [W false,P 1 [J U 1],W true,P 1 [J U 4],W false,P 1 [J U 4]],P 2 [W true,P 1 [J U 1],W false,P 1 [J U 2]]] (Ae 2 0 []):=Cy (c _) 400 _ _ _ (by kernel_rfl)
theorem av11:T 135 [P 3 [W false,P 1 [J U 1],W true,P 1 [J U 4],W false,P 1 [J U 4]],P 2 [W true,P 1 [J U 4],W false,P 1 [J U 8]]] (P 2 [W true,P 1 [J U 1],W false,P 1 [J U 2]]):=Cy (k av10 (c _)) 400 _ _ _ (by kernel_rfl)
theorem av12:T 156 [P 3 [W false,P 1 [J U 1],W true,P 1 [J U 4],W false,P 1 [J U 4]],P 2 [W true,P 1 [J U 1],W false,P 1 [J U 2]]] (Ae 2 2 [W true,P 1 [J U 1],W false,P 1 [J U 2]]):=Cy (c _) 400 _ _ _ (by kernel_rfl)
theorem av13:T 114 [P 3 [W true,P 1 [J U 1],W false,P 1 [J U 4],W true,P 1 [J U 4]]] (Ae 2 2 [W true,P 1 [J U 1],W false,P 1 [J U 2]]):=Cy (k av12 (k av11 (c _))) 400 _ _ _ (by kernel_rfl)
theorem AAy:T 118 [P 2 [W true,P 1 [J U 1],W false,P 1 [J U 2]],P 1 [W false,P 1 [J U 1]]] (Ae 2 0 []):=Cy (c _) 400 _ _ _ (by kernel_rfl)
theorem av15:T 56 [P 3 [W true,P 1 [J U 1],W false,P 1 [J U 4],W true,P 1 [J U 4]],Ao [W false,P 0 [],J X 0],Ao [W false,P 1 [J U 1],J X 0],J X 1073741824] (A3 [P 1 [P 2 [W true,P 1 [J U 1],W false,P 1 [J U 2]],W false,P 0 [],J X 0,W false,P 1 [J U 1],J X 0],W true]):=Cy (k AAy (k av13 (c _))) 400 _ _ _ (by kernel_rfl)
theorem AHj:T 76 [Ao [P 2 [W true,P 1 [J U 1],W false,P 1 [J U 2]],W false,P 0 [],J X 0,W false,P 1 [J U 1],J X 0],Ao [W false,P 1 [J U 1],J X 0]] (J X (-1)):=Cy (c _) 400 _ _ _ (by kernel_rfl)
theorem AHk:T 76 [Ao [P 2 [W true,P 1 [J U 1],W false,P 1 [J U 2]],W false,P 0 [],J X 0,W false,P 1 [J U 1],J X 0],Ao [W false,P 1 [J U 1],J X 1]] (J X 0):=Cy (c _) 400 _ _ _ (by kernel_rfl)
theorem av18:T 168 [P 1 [P 3 [W true,P 1 [J U 1],W false,P 1 [J U 4],W true,P 1 [J U 4]]]] (Ae 7 1 [P 2 [W true,P 1 [J U 1],W false,P 1 [J U 2]],W false,P 0 [],J X 0,W false,P 1 [J U 1],J X 1]):=Cy (k AHk (k AHj (k av15 (c _)))) 400 _ _ _ (by kernel_rfl)
theorem av19:T 139 [P 1 [P 3 [W true,P 1 [J U 1],W false,P 1 [J U 4],W true,P 1 [J U 4]]]] (A3 [Ao [P 0 [],W false,P 0 [],J X 0,W false,P 0 [],J X 0],W false]):=Cy (k av18 (k av9 (c _))) 400 _ _ _ (by kernel_rfl)
theorem av20:T 18 [Ao [P 2 [W true,P 1 [J U 1],W false,P 1 [J U 4]],W false,P 0 [],J X 0,W false,P 1 [J U 1],J X 1]] (W true):=Cy (k av2 (c _)) 400 _ _ _ (by kernel_rfl)
theorem av21:T 75 [Ao [P 2 [W true,P 1 [J U 1],W false,P 1 [J U 4]],W false,P 0 [],J X 0,W false,P 1 [J U 1],J X 1]] (Ao [P 2 [W true,P 1 [J U 1],W false,P 1 [J U 4]],W false,P 0 [],J X 0,W false,P 1 [J U 1],J X 1]):=Cy (k av1 (c _)) 400 _ _ _ (by kernel_rfl)
theorem av22:T 76 [Ao [P 2 [W true,P 1 [J U 1],W false,P 1 [J U 4]],W false,P 0 [],J X 0,W false,P 1 [J U 1],J X 1],Ao [W false,P 1 [J U 1],J X 2]] (J X 0):=Cy (c _) 400 _ _ _ (by kernel_rfl)
theorem av23:T 76 [Ao [P 2 [W true,P 1 [J U 1],W false,P 1 [J U 4]],W false,P 0 [],J X 0,W false,P 1 [J U 1],J X 2],Ao [W false,P 1 [J U 1],J X 3]] (J X 1):=Cy (c _) 400 _ _ _ (by kernel_rfl)
theorem av24:T 76 [Ao [P 2 [W true,P 1 [J U 1],W false,P 1 [J U 4]],W false,P 1 [J U 1],J X 3,W false,P 1 [J U 1],J X 2],Ao [W false,P 1 [J U 3],J X 4]] (J X 1):=Cy (c _) 400 _ _ _ (by kernel_rfl)
theorem av25:T 76 [Ao [P 2 [W true,P 1 [J U 1],W false,P 1 [J U 4]],W false,P 1 [J U 3],J X 4,W false,P 1 [J U 1],J X 2],Ao [W false,P 1 [J U 4],J X 4]] (J X 0):=Cy (c _) 400 _ _ _ (by kernel_rfl)
theorem av26:T 77 [Ao [P 2 [W true,P 1 [J U 1],W false,P 1 [J U 4]],W false,P 0 [],J X 0,W false,P 1 [J U 1],J X 1],J X 4] (Ao [W false,P 1 [J U 4]]):=Cy (k av25 (k av24 (k av23 (k av22 (c _))))) 400 _ _ _ (by kernel_rfl)
theorem av27:T 139 [P 1 [P 2 [W true,P 1 [J U 1],W false,P 1 [J U 1]]]] (A3 [Ao [P 0 [],W false,P 0 [],J X 0,W false,P 0 [],J X 0],W false]):=Cy (c _) 400 _ _ _ (by kernel_rfl)
theorem av28:T 135 [P 2 [W true,P 1 [J U 1],W false,P 1 [J U 2]],P 1 [W false,P 1 [J U 2]]] (P 1 [W false,P 1 [J U 1]]):=Cy (k AAy (c _)) 400 _ _ _ (by kernel_rfl)
theorem av29:T 67 [P 2 [W true,P 1 [J U 1],W false,P 1 [J U 2]]] (Ae 1 2 [P 2 [W true,P 1 [J U 1],W false,P 1 [J U 2]],P 1 [W false,P 1 [J U 1]]]):=Cy (k av28 (k AAy (c _))) 400 _ _ _ (by kernel_rfl)
theorem av30:T 56 [P 2 [W true,P 1 [J U 1],W false,P 1 [J U 2]],Ao [W false,P 0 [],J X 0],Ao [W false,P 1 [J U 1],J X 0],J X 1073741824] (A3 [P 1 [P 2 [W true,P 1 [J U 1],W false,P 1 [J U 2]],W false,P 0 [],J X 0,W false,P 1 [J U 1],J X 0],W true]):=Cy (k av29 (c _)) 400 _ _ _ (by kernel_rfl)
theorem av31:T 168 [P 1 [P 2 [W true,P 1 [J U 1],W false,P 1 [J U 2]]]] (Ae 7 1 [P 2 [W true,P 1 [J U 1],W false,P 1 [J U 2]],W false,P 0 [],J X 0,W false,P 1 [J U 1],J X 1]):=Cy (k av30 (k AHk (k AHj (c _)))) 400 _ _ _ (by kernel_rfl)
theorem av32:T 139 [P 1 [P 2 [W true,P 1 [J U 1],W false,P 1 [J U 2]]]] (A3 [Ao [P 2 [W true,P 1 [J U 1],W false,P 1 [J U 2]],W false,P 0 [],J X 0,W false,P 1 [J U 1],J X 1],W true]):=Cy (k av31 (c _)) 400 _ _ _ (by kernel_rfl)
theorem AHl:T 86 [P 2 [W true,P 1 [J U 1],W false,P 1 [J U 4]]] (Ae 2 2 [W true,P 1 [J U 1],W false,P 1 [J U 4]]):=Cy (c _) 400 _ _ _ (by kernel_rfl)
theorem av34:T 70 [P 2 [W true,P 1 [J U 1],W false,P 1 [J U 4]],P 1 [W false,P 1 [J U 4]]] (P 1 [W false,P 1 [J U 1]]):=Cy (k AHl (c _)) 400 _ _ _ (by kernel_rfl)
theorem av35:T 73 [P 2 [W true,P 1 [J U 1],W false,P 1 [J U 4]]] (P 2 [W true,P 1 [J U 1],W false,P 1 [J U 4]]):=Cy (k av34 (k AHl (c _))) 400 _ _ _ (by kernel_rfl)
theorem av36:T 27 [Ao [P 2 [W true,P 1 [J U 1],W false,P 1 [J U 4]],W false,P 0 [],J X 0,W false,P 1 [J U 1],J X 1],Ao [W false,P 1 [J U 1],J X 2]] (J X 0):=Cy (c _) 400 _ _ _ (by kernel_rfl)
theorem av37:T 119 [P 2 [W false,P 0 [],W false,P 1 [J U 1]],P 1 [W false,P 1 [J U 1]]] (P 0 []):=Cy (c _) 400 _ _ _ (by kernel_rfl)
theorem av38:T 70 [P 2 [W false,P 0 [],W false,P 1 [J U 1]],P 1 [W false,P 1 [J U 1]]] (P 1 [W false,P 1 [J U 1]]):=Cy (k av37 (c _)) 400 _ _ _ (by kernel_rfl)
theorem av39:T 123 [P 2 [W false,P 0 [],W false,P 1 [J U 1]],P 1 [W false,P 1 [J U 1]]] (P 2 [W false,P 0 [],W false,P 1 [J U 1]]):=Cy (c _) 400 _ _ _ (by kernel_rfl)
theorem av40:T 36 [] (W true):=Cy (k av39 (k av38 (k av36 (k av35 (k av32 (k av27 (k av26 (k av21 (k av20 (k av19 (k av8 (k av7 (c _))))))))))))) 400 _ _ _ (by kernel_rfl)
theorem AFz:T 36 [] (W true):=av40
end
end Go.Proofs.YtajompaehjkgkaaGreat
