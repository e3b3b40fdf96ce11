/- Texts of the proof of ContactStates: part 7 of 18. -/
import Derived.KernelRfl
import Derived.Test.YtenfgdobfjofkaaGreatCst6
namespace Go.Proofs.YtenfgdobfjofkaaGreat
open Go.Ai
set_option maxRecDepth 100000
open Bool renaming and_assoc->S',and_eq_true->U,and_false->Fe,and_self->E8,and_true->D5,eq_false_or_eq_true->Q,false_and->Ea,false_eq_true->AC,false_or->Aey,not_eq_true'->Bl,or_eq_true->CD,or_false->AAk,true_and->G8
open _root_.ByteArray renaming empty->Bw
open Decidable renaming decide->G
open Go.Ai.AV renaming agg->M,bool->I,fresh->P,int->A,sl->E,tup->Hm
open Go.Ai.Reg renaming box->T,own->Av,val->Ab
open Go.IntKind renaming bits->Co,i64->D,u32->Bd,u64->Ba,wrap->O
open Go.Proofs.Tryz renaming prog->g
open Int renaming emod->Bn,emod_add_mul_ediv->Aev,fdiv->BA,fdiv_eq_ediv_of_nonneg->Gh,lt_of_le_of_lt->Atf,lt_tmod_of_pos->iQ,mul_comm->Hc,mul_le_mul->J4,mul_le_mul_of_nonneg_left->C',mul_pos->Fq,natAbs->A6,neg_mul_neg->Aep,pow_succ->FL,pow_zero->vT,sub_self->AHk,tmod->Ch,tmod_lt_of_pos->O4,toNat->J,toNat_natCast->Aq,zero_add->AFo,zero_sub->N5
open List renaming all->BW,all_cons->F7,all_eq_true->AKf,all_nil->Oi,any_cons->Q3,any_eq_false->FB,any_nil->AFe,append_nil->Df,drop->R,drop_eq_getElem_cons->ET,drop_eq_nil_of_le->Mq,drop_zero->AL,eq_nil_of_length_eq_zero->Bb,filter_cons->Avo,getD->L,getD_eq_getElem?_getD->Z,getElem?_eq_getElem->Af,getElem?_eq_none->AX,getElem?_map->Fy,getElem?_range->AJb,getElem_mem->AF,length->C,length_append->Ah,length_cons->B1,length_drop->C5,length_map->Bz,length_range->DT,length_replicate->Abx,length_singleton->B4,length_take->Db,map_append->DU,map_congr_left->AJc,map_cons->Bg,mem_append->AK,mem_cons->Aw,mem_cons_of_mem->AJ,mem_cons_self->AKh,mem_flatMap->Q2,mem_of_mem_drop->Cv,mem_of_mem_take->BC,mem_singleton->AP,not_mem_nil->A3,range->AZ,replicate->BP,take->CN,take_append_drop->OZ,take_length->nI,take_of_length_le->E_,take_succ_cons->K3,take_succ_eq_append_getElem->Ald
open Nat renaming add_mul->EC,ble->Dq,le_of_ble_eq_true->Ap,le_refl->Ay,le_trans->AA,lt_or_ge->CH,zero_add->AH,zero_le->B_
noncomputable section
section
variable(neg:Bool)(xs:LI)
theorem Abl(c1:((C (l xs):Int)==0)=true)(a:RQ 211 [y lm xs] (P 1 (C (l xs)) (lm (l xs)))):RQ 153 [M [I neg,y lm xs]] (A D 0):=ALa (fn:=iF g oQ) C0 rfl [.r (P 1 (C (l xs)) (lm (l xs))),bT] (Gd a c1)
theorem Abm(c1:((C (l xs):Int)==0)=false)(c2:neg=true)(a:RQ 211 [y lm xs] (P 1 (C (l xs)) (lm (l xs)))):RQ 153 [M [I neg,y lm xs]] (A D (-1)):=ALa (fn:=iF g oQ) C0 rfl [.r (P 1 (C (l xs)) (lm (l xs))),Y,bT] (Fa a c1 c2)
theorem Abn(c1:((C (l xs):Int)==0)=false)(c2:neg=false)(a:RQ 211 [y lm xs] (P 1 (C (l xs)) (lm (l xs)))):RQ 153 [M [I neg,y lm xs]] (A D 1):=ALa (fn:=iF g oQ) C0 rfl [.r (P 1 (C (l xs)) (lm (l xs))),Y,Y] (Fa a c1 c2)
theorem A4c(v:Int)(a:RQ 108 [I (!neg),y lm xs] (IT v)):RQ 106 [M [I neg,y lm xs]] (BL v):=ALa (fn:=iF g Axv) C0 rfl [.r (IT v)] (Bc a)
theorem A4d(v:Int)(a:RQ 108 [I neg,y lm xs] (IT v)):RQ 209 [M [I neg,y lm xs]] (BL v):=ALa (fn:=iF g Ayi) C0 rfl [.r (IT v)] (Bc a)
end
def Qd:ICode:=Ca Age 92 244
section
variable(xs a:LI)(n:Nat)(cs:u)(c i:Int)
def HQ:H:=Ab (y lm xs)::Ab (y lm a)::V 3 (Av 1 n cs::Ab (A Ba c)::vi i::V 46 [])
theorem A4e(c1:G (i<C xs)=true)(c2:G (i<C a)=true)(b:0<=i/\i<C xs)(d:0<=i/\i<C a)(e:n+1<=35184372088832):Aa Qd (HQ xs a n cs c i) .norm (HQ xs a (n+1) (cs++([A Bd (O Bd (O Ba (O Ba (c+O Ba (L xs (J i) 0))+O Ba (L a (J i) 0))))]:u)) (BA (O Ba (O Ba (c+O Ba (L xs (J i) 0))+O Ba (L a (J i) 0))) (2^(min (J 32) (Co .u64)))) (O D (i+1))):=B C0 [bT,bT,bT,bT,.v (A Bd (L xs (J i) 0)),bT,.v (A Bd (L a (J i) 0))] RP (Em c1 EJ EJ c1 b (Ix b) c2 d (Ix d) (show C ([A Bd (O Bd (O Ba (O Ba (c+O Ba (L xs (J i) 0))+O Ba (L a (J i) 0))))]:u)=1*1 from rfl) e NO)
theorem A4f(c1:G (i<C xs)=true)(c2:G (i<C a)=false)(b:0<=i/\i<C xs)(d:n+1<=35184372088832):Aa Qd (HQ xs a n cs c i) .norm (HQ xs a (n+1) (cs++([A Bd (O Bd (O Ba (c+O Ba (L xs (J i) 0))))]:u)) (BA (O Ba (c+O Ba (L xs (J i) 0))) (2^(min (J 32) (Co .u64)))) (O D (i+1))):=B C0 [bT,bT,bT,bT,.v (A Bd (L xs (J i) 0)),Y] RP (Fm c1 EJ EJ c1 b (Ix b) c2 (show C ([A Bd (O Bd (O Ba (c+O Ba (L xs (J i) 0))))]:u)=1*1 from rfl) d NO)
theorem A4g(c1:G (i<C xs)=false)(c2:G (i<C a)=true)(b:0<=i/\i<C a)(d:n+1<=35184372088832):Aa Qd (HQ xs a n cs c i) .norm (HQ xs a (n+1) (cs++([A Bd (O Bd (O Ba (c+O Ba (L a (J i) 0))))]:u)) (BA (O Ba (c+O Ba (L a (J i) 0))) (2^(min (J 32) (Co .u64)))) (O D (i+1))):=B C0 [Y,bT,bT,Y,bT,.v (A Bd (L a (J i) 0))] RP (Fm c1 c2 EJ c1 c2 b (Ix b) (show C ([A Bd (O Bd (O Ba (c+O Ba (L a (J i) 0))))]:u)=1*1 from rfl) d NO)
theorem A4h(c1:G (i<C xs)=false)(c2:G (i<C a)=false)(c3:G (c>0)=true)(b:n+1<=35184372088832):Aa Qd (HQ xs a n cs c i) .norm (HQ xs a (n+1) (cs++([A Bd (O Bd c)]:u)) (BA c (2^(min (J 32) (Co .u64)))) (O D (i+1))):=B C0 [Y,Y,bT,Y,Y] RP (EQ c1 c2 c3 c1 c2 (show C ([A Bd (O Bd c)]:u)=1*1 from rfl) b NO)
theorem Abo(c1:G (i<C xs)=false)(c2:G (i<C a)=false)(c3:G (c>0)=false):Aa Qd (HQ xs a n cs c i) xZ0 (HQ xs a n cs c i):=B C0 [Y,Y,Y] RP (Fa c1 c2 c3)
end
theorem A4i(xs a:LI)(n:Nat)(cs:u)(c i:Int)(b:Aa (.loop Qd) (HQ xs a 0 ([]:u) 0 0) xZ0 (HQ xs a n cs c i)):RQ 289 [y lm xs,y lm a] (P 1 n cs):=K4 Age (V 1 (Ab (y lm a)::V 2 (Av 1 n cs::V 49 []))) (BU (BU (BS (N (B C0 [] RP a0) (N (A0 b) (B C0 [] [1,4] a0))))))
def Vn:ICode:=Ca Agf 92 244
section
variable(xs a:LI)(n:Nat)(cs:u)(c i:Int)
def Kh:H:=Ab (y lm xs)::Ab (y lm a)::V 3 (Av 1 n cs::Ab (A Ba c)::vi i::V 34 [])
theorem A4j(c1:G (i<C xs)=true)(c2:G (i<C a)=true)(b:0<=i/\i<C a)(d:0<=i/\i<C xs)(e:n+1<=35184372088832):Aa Vn (Kh xs a n cs c i) .norm (Kh xs a (n+1) (cs++([A Bd (O Bd (O Ba ((O Ba ((O Ba (L xs (J i) 0))-(O Ba (L a (J i) 0))))-c)))]:u)) (BA (O Ba ((O Ba ((O Ba (L xs (J i) 0))-(O Ba (L a (J i) 0))))-c)) (2^(min (J 63) (Co .u64)))) (O D (i+1))):=B C0 [bT,bT,.v (A Bd (L a (J i) 0)),.v (A Bd (L xs (J i) 0))] RP (K0 c1 c2 b (Ix b) d (Ix d) (show C ([A Bd (O Bd (O Ba ((O Ba ((O Ba (L xs (J i) 0))-(O Ba (L a (J i) 0))))-c)))]:u)=1*1 from rfl) e (show ¬ (63:Int)<0 from (by decide)))
theorem A4k(c1:G (i<C xs)=true)(c2:G (i<C a)=false)(b:0<=i/\i<C xs)(d:n+1<=35184372088832):Aa Vn (Kh xs a n cs c i) .norm (Kh xs a (n+1) (cs++([A Bd (O Bd (O Ba ((O Ba ((O Ba (L xs (J i) 0))-0))-c)))]:u)) (BA (O Ba ((O Ba ((O Ba (L xs (J i) 0))-0))-c)) (2^(min (J 63) (Co .u64)))) (O D (i+1))):=B C0 [bT,Y,.v (A Bd (L xs (J i) 0))] RP (Gs c1 c2 b (Ix b) (show C ([A Bd (O Bd (O Ba ((O Ba ((O Ba (L xs (J i) 0))-0))-c)))]:u)=1*1 from rfl) d (show ¬ (63:Int)<0 from (by decide)))
theorem A4l(c1:G (i<C xs)=false):Aa Vn (Kh xs a n cs c i) xZ0 (Kh xs a n cs c i):=B C0 [Y] RP (Bc c1)
end
theorem A4m(xs a:LI)(n:Nat)(cs:u)(c i:Int)(b:Aa (.loop Vn) (Kh xs a 0 ([]:u) 0 0) xZ0 (Kh xs a n cs c i)):RQ 290 [y lm xs,y lm a] (P 1 n cs):=K4 Agf (V 1 (Ab (y lm a)::V 2 (Av 1 n cs::V 37 []))) (BU (BU (BS (N (B C0 [] RP a0) (N (A0 b) (B C0 [] [1,4] a0))))))
theorem Np(xs:LI)(v:Int):lm xs++([A Bd v]:u)=lm (xs++[v]):=by simp [lm]
theorem Vo{xs:LI}(h:E5 xs){v:Int}(a:0<=v/\v<4294967296):E5 (xs++[v]):=by
 intro x b;rcases AK.1 b with g | g
 ·exact h x g
 ·rw[AP.1 g];exact a
theorem SB(xs:LI)(v:Int):AQ (xs++[v])=AQ xs+4294967296^C xs*v:=by rw [NR];simp [AQ]
theorem Anp{s:Int}:BA s (2^(min (J 32) (Co .u64)))=s / 4294967296:=by
 show BA s 4294967296=_;rw[Gh _ (by omega)]
theorem AEz{s:Int}:BA s (2^(min (J 63) (Co .u64)))=s / 9223372036854775808:=by
 show BA s 9223372036854775808=_;rw[Gh _ (by omega)]
theorem Atb{xs a:LI}(v:E5 xs)(w:E5 a)(h1:C xs<1048576)(h2:C a<1048576):∀ (r i:Nat) (b:LI) (c:Int),i+r=max (C xs) (C a)->C b=i->E5 b->0<=c/\c<=1 ->
  ∃ (zs:LI) (h j:Int),E5 zs/\C zs<=max (C xs) (C a)+1/\AQ zs=AQ b+4294967296^i*(c+AQ (xs.drop i)+AQ (a.drop i)) /\
   Aa (.loop Qd) (HQ xs a i (lm b) c (i:Nat)) xZ0 (HQ xs a (C zs) (lm zs) h j):=by
 intro r;induction r with
 | zero =>
  intro i b c hi hl hu hc;have q:AQ (xs.drop i)=0:=QE (by omega);have s:AQ (a.drop i)=0:=QE (by omega);have l:decide ((i:Int)<(C xs:Int))=false:=by simp;omega
  have n:decide ((i:Int)<(C a:Int))=false:=by simp;omega
  by_cases x:c=0
  ·refine⟨b,c,i,hu,by omega,by rw[q,s,x];simp,?_⟩;rw[hl];exact f (Abo xs a i (lm b) c (i:Nat) l n (by simp;omega))
  ·have y:c=1:=by omega
   subst y;refine⟨b++[1],0,O D (i+1),Vo hu (by omega),by simp;omega,by rw[SB,q,s,hl];simp,?_⟩;have k:=A4h xs a i (lm b) 1 (i:Nat) l n (by simp) (by omega);rw[Anp,RU,show (1:Int) % 4294967296=1 by decide,show (1:Int) / 4294967296=0 by decide,Np] at k;have e:O D (i+1)=((i+1:Nat):Int):=wrz
   rw[e] at k |-;have z:=Abo xs a (i+1) (lm (b++[1])) 0 ((i+1:Nat)) (by simp;omega) (by simp;omega) (by simp);have A:C (b++[1])=i+1:=by simp[hl]
   rw[A];exact AB k (f z)
 | succ r B =>
  intro i b c hi hl hu hc;have I:=GT v i;have J:=GT w i;have e:O D (i+1)=((i+1:Nat):Int):=wrz
  have step:Aa Qd (HQ xs a i (lm b) c (i:Nat)) .norm (HQ xs a (i+1) (lm (b++[(c+L xs i 0+L a i 0) % 4294967296])) ((c+L xs i 0+L a i 0) / 4294967296) ((i+1:Nat))):=by
   have t:O Ba (L xs i 0)=L xs i 0:=by rw[Fi];omega
   have u:O Ba (L a i 0)=L a i 0:=by rw[Fi];omega
   by_cases l:i<C xs <;> by_cases n:i<C a
   ·have k:=A4e xs a i (lm b) c (i:Nat) (by simp;omega) (by simp;omega) (by omega) (by omega) (by omega);have g:O Ba (O Ba (c+L xs i 0)+L a i 0)=c+L xs i 0+L a i 0:=by rw[Fi,Fi];omega
    simp only[Aq,t,u,g,Anp,RU,e,Np] at k;exact k
   ·have k:=A4f xs a i (lm b) c (i:Nat) (by simp;omega) (by simp;omega) (by omega) (by omega);have o:L a i 0=0:=Gt (by omega);have g:O Ba (c+L xs i 0)=c+L xs i 0+L a i 0:=by rw[Fi,o];omega
    simp only[Aq,t,g,Anp,RU,e,Np] at k;exact k
   ·have k:=A4g xs a i (lm b) c (i:Nat) (by simp;omega) (by simp;omega) (by omega) (by omega);have o:L xs i 0=0:=Gt (by omega);have g:O Ba (c+L a i 0)=c+L xs i 0+L a i 0:=by rw[Fi,o];omega
    simp only[Aq,u,g,Anp,RU,e,Np] at k;exact k
   ·omega
  obtain⟨zs,h,j,E,F,G,H⟩:=B (i+1) (b++[(c+L xs i 0+L a i 0) % 4294967296]) ((c+L xs i 0+L a i 0) / 4294967296) (by omega) (by simp[hl]) (Vo hu (by omega)) (by omega);refine⟨zs,h,j,E,F,?_,AB step H⟩;rw[G,SB,hl,MY xs i,MY a i,FL];have hd:=Aev (c+L xs i 0+L a i 0) 4294967296;generalize (c+L xs i 0+L a i 0) % 4294967296=m at *
  generalize (c+L xs i 0+L a i 0) / 4294967296=d at *
  generalize (4294967296:Int)^i=p at *
  generalize AQ (xs.drop (i+1))=X at *
  generalize AQ (a.drop (i+1))=Y at *
  have:c+(L xs i 0+4294967296*X)+(L a i 0+4294967296*Y)=m+4294967296*(d+X+Y):=by omega
  rw[this];grind
theorem Abp{xs a:LI}(b:E5 xs)(c:E5 a)(h1:C xs<1048576)(h2:C a<1048576):∃ zs,E5 zs/\AQ zs=AQ xs+AQ a/\C zs<=max (C xs) (C a)+1/\RQ 289 [y lm xs,y lm a] (P 1 (C zs) (lm zs)):=by
 obtain⟨zs,h,i,d,e,f,g⟩:=Atb b c h1 h2 (max (C xs) (C a)) 0 [] 0 (by omega) rfl (fun x b=>by cases b) (by omega);refine⟨zs,d,by rw[f];simp[AQ],e,?_⟩;exact A4i xs a _ _ _ _ g
theorem Atc{xs a:LI}(q:E5 xs)(s:E5 a)(F:C a<=C xs)(h1:C xs<=1048576):∀ (r i:Nat) (b:LI) (c:Int),i+r=C xs->C b=i->E5 b->0<=c/\c<=1 ->
  ∃ (zs:LI) (e g:Int),E5 zs/\C zs=C xs/\0<=e/\AQ zs-4294967296^C xs*e=AQ b+4294967296^i*(AQ (xs.drop i)-AQ (a.drop i)-c) /\
   Aa (.loop Vn) (Kh xs a i (lm b) c (i:Nat)) xZ0 (Kh xs a (C zs) (lm zs) e g):=by
 intro r;induction r with
 | zero =>
  intro i b c hi hl hu hc;have t:AQ (xs.drop i)=0:=QE (by omega);have u:AQ (a.drop i)=0:=QE (by omega);have v:C xs=i:=by omega
  refine⟨b,c,i,hu,by omega,hc.1,by rw[t,u,v];grind,?_⟩;rw[hl];exact f (A4l xs a i (lm b) c (i:Nat) (by simp;omega))
 | succ r w =>
  intro i b c hi hl hu hc;have G:=GT q i;have H:=GT s i;have l:O D (i+1)=((i+1:Nat):Int):=wrz
  have step:Aa Vn (Kh xs a i (lm b) c (i:Nat)) .norm (Kh xs a (i+1) (lm (b++[(L xs i 0-L a i 0-c) % 4294967296])) (-((L xs i 0-L a i 0-c) / 4294967296)) ((i+1:Nat))):=by
   have n:O Ba (L xs i 0)=L xs i 0:=by rw[Fi];omega
   have x:O Ba (L a i 0)=L a i 0:=by rw[Fi];omega
   by_cases I:i<C a
   ·have k:=A4j xs a i (lm b) c (i:Nat) (by simp;omega) (by simp;omega) (by omega) (by omega) (by omega);have h:O Ba (O Ba (L xs i 0-L a i 0)-c) % 4294967296=(L xs i 0-L a i 0-c) % 4294967296:=by rw[Fi,Fi];omega
    have j:O Ba (O Ba (L xs i 0-L a i 0)-c) / 9223372036854775808 = -((L xs i 0-L a i 0-c) / 4294967296):=by rw[Fi,Fi];omega
    simp only[Aq,n,x,AEz,RU,h,j,l,Np] at k;exact k
   ·have k:=A4k xs a i (lm b) c (i:Nat) (by simp;omega) (by simp;omega) (by omega) (by omega);have o:L a i 0=0:=Gt (by omega);have h:O Ba (O Ba (L xs i 0-0)-c) % 4294967296=(L xs i 0-L a i 0-c) % 4294967296:=by rw[Fi,Fi,o];omega
    have j:O Ba (O Ba (L xs i 0-0)-c) / 9223372036854775808 = -((L xs i 0-L a i 0-c) / 4294967296):=by rw[Fi,Fi,o];omega
    simp only[Aq,n,AEz,RU,h,j,l,Np] at k;exact k
  obtain⟨zs,e,g,y,z,A,B,E⟩:=w (i+1) (b++[(L xs i 0-L a i 0-c) % 4294967296]) (-((L xs i 0-L a i 0-c) / 4294967296)) (by omega) (by simp[hl]) (Vo hu (by omega)) (by omega);refine⟨zs,e,g,y,z,A,?_,AB step E⟩;rw[B,SB,hl,MY xs i,MY a i,FL];have hd:=Aev (L xs i 0-L a i 0-c) 4294967296;generalize (L xs i 0-L a i 0-c) % 4294967296=m at *
  generalize (L xs i 0-L a i 0-c) / 4294967296=d at *
  generalize (4294967296:Int)^i=p at *
  generalize AQ (xs.drop (i+1))=X at *
  generalize AQ (a.drop (i+1))=Y at *
  have:L xs i 0+4294967296*X-(L a i 0+4294967296*Y)-c=m+4294967296*(d+X-Y):=by omega
  rw[this];grind
theorem W7{xs a:LI}(b:E5 xs)(h:E5 a)(hl:C a<=C xs)(k:AQ a<=AQ xs)(h1:C xs<=1048576):∃ zs,E5 zs/\AQ zs=AQ xs-AQ a/\C zs=C xs/\RQ 290 [y lm xs,y lm a] (P 1 (C zs) (lm zs)):=by
 obtain⟨zs,c,l,d,e,m,f,i⟩:=Atc b h hl h1 (C xs) 0 [] 0 (by omega) rfl (fun x b=>by cases b) (by omega);simp only[AQ,vT,AL,Int.one_mul,AFo,Int.sub_zero] at f;have j:=KU d;rw[e] at j;have n:=YC (C xs);have hc:c=0:=by
  generalize (4294967296:Int)^C xs=p at *
  rcases Int.lt_or_le 0 c with g | g
  ·have:p*1<=p*c:=C' (by omega) (by omega);omega
  ·omega
 subst hc;refine⟨zs,d,by simpa using f,e,?_⟩;exact A4m xs a _ _ _ _ i
theorem Nq{neg:Bool}{xs:LI}(hu:E5 xs)(a:C xs<=1048576):RQ 108 [I neg,y lm xs] (IT (rv neg xs)):=Oe hu a
theorem dP{neg:Bool}{xs:LI}(hu:E5 xs)(b:C xs<=1048576):RQ 153 [M [I neg,y lm xs]] (A D (Gi (rv neg xs))):=by
 have a:=JS (AA b (by decide));have c:C (l xs)=0↔AQ xs=0:=by
  have:=FY hu;rw[UK hu,WV];omega
 have d:=FY hu;by_cases h0:AQ xs=0
 ·have h:=Abl neg xs (by rw[AM];omega) a;have e:Gi (rv neg xs)=0:=by unfold rv;rw[h0];cases neg <;> rfl
  rw[e];exact h
 ·cases neg with
  | true =>
   have h:=Abm true xs (by rw[z];omega) rfl a;have e:Gi (rv true xs) = -1:=by simp only[rv,if_true,Gi]; (repeat' split) <;> omega
   rw[e];exact h
  | false =>
   have h:=Abn false xs (by rw[z];omega) rfl a;have e:Gi (rv false xs)=1:=by simp only[rv,AC,if_false,Gi]; (repeat' split) <;> omega
   rw[e];exact h
theorem A4n(neg:Bool)(xs:LI):rv (!neg) xs = -(rv neg xs):=by unfold rv;cases neg <;> simp
theorem Atd{neg:Bool}{xs:LI}(hu:E5 xs)(a:C xs<=1048576):RQ 106 [M [I neg,y lm xs]] (BL (-(rv neg xs))):=by
 have h:=Nq (neg := !neg) hu a;rw[A4n] at h;exact A4c neg xs _ h
theorem Aib{neg:Bool}{xs:LI}(hu:E5 xs)(a:C xs<=1048576):RQ 209 [M [I neg,y lm xs]] (BL (rv neg xs)):=A4d neg xs _ (Nq hu a)
section
variable(na nb:Bool)(xs a zs:LI)
theorem Ate(v:Int)(b:RQ 211 [y lm xs] (P 1 (C (l xs)) (lm (l xs))))(d:RQ 211 [y lm a] (P 1 (C (l a)) (lm (l a))))(e:RQ 228 [y lm (l xs),y lm (l a)] (P 1 (C zs) (lm zs)))(f:RQ 108 [I (!(na==nb)),y lm zs] (IT v)):RQ 143 [M [I na,y lm xs],M [I nb,y lm a]] (BL v):=ALa (fn:=iF g Ayc) C0 rfl [.r (P 1 (C (l xs)) (lm (l xs))),.r (P 1 (C (l a)) (lm (l a))),.r (P 1 (C zs) (lm zs)),.r (IT v)] (Fk b d e f)
theorem Aic(v:Int)(c1:(na==nb)=true)(b:RQ 211 [y lm xs] (P 1 (C (l xs)) (lm (l xs))))(d:RQ 211 [y lm a] (P 1 (C (l a)) (lm (l a))))(e:RQ 289 [y lm (l xs),y lm (l a)] (P 1 (C zs) (lm zs)))(f:RQ 108 [I na,y lm zs] (IT v)):RQ 246 [M [I na,y lm xs],M [I nb,y lm a]] (BL v):=ALa (fn:=iF g oT) C0 rfl [.r (P 1 (C (l xs)) (lm (l xs))),.r (P 1 (C (l a)) (lm (l a))),bT,.r (P 1 (C zs) (lm zs)),.r (IT v)] (Fh b d c1 e f)
theorem Aid(v c:Int)(c1:(na==nb)=false)(c2:G (c>=0)=true)(b:RQ 211 [y lm xs] (P 1 (C (l xs)) (lm (l xs))))(d:RQ 211 [y lm a] (P 1 (C (l a)) (lm (l a))))(e:RQ 227 [y lm (l xs),y lm (l a)] (A D c))(f:RQ 290 [y lm (l xs),y lm (l a)] (P 1 (C zs) (lm zs)))(h:RQ 108 [I na,y lm zs] (IT v)):RQ 246 [M [I na,y lm xs],M [I nb,y lm a]] (BL v):=ALa (fn:=iF g oT) C0 rfl [.r (P 1 (C (l xs)) (lm (l xs))),.r (P 1 (C (l a)) (lm (l a))),Y,.r (A D c),bT,.r (P 1 (C zs) (lm zs)),.r (IT v)] (Gs b d c1 e c2 f h)
theorem Aie(v c:Int)(c1:(na==nb)=false)(c2:G (c>=0)=false)(b:RQ 211 [y lm xs] (P 1 (C (l xs)) (lm (l xs))))(d:RQ 211 [y lm a] (P 1 (C (l a)) (lm (l a))))(e:RQ 227 [y lm (l xs),y lm (l a)] (A D c))(f:RQ 290 [y lm (l a),y lm (l xs)] (P 1 (C zs) (lm zs)))(h:RQ 108 [I nb,y lm zs] (IT v)):RQ 246 [M [I na,y lm xs],M [I nb,y lm a]] (BL v):=ALa (fn:=iF g oT) C0 rfl [.r (P 1 (C (l xs)) (lm (l xs))),.r (P 1 (C (l a)) (lm (l a))),Y,.r (A D c),Y,.r (P 1 (C zs) (lm zs)),.r (IT v)] (Gs b d c1 e c2 f h)
end
theorem Abq(neg:Bool)(xs:LI):rv neg (l xs)=rv neg xs:=by unfold rv;rw [Hk]
theorem mL{xs:LI}(h:E5 xs):E5 (l xs):=(K1 h).1
theorem AAe(na nb:Bool)(xs a zs:LI)(h:AQ zs=AQ xs*AQ a):rv (!(na==nb)) zs=rv na xs*rv nb a:=by
 unfold rv;rw[h];generalize AQ xs=X;generalize AQ a=Y;cases na <;> cases nb <;> simp <;> grind
theorem Abr{na nb:Bool}{xs a:LI}(c:E5 xs)(d:E5 a)(h:C xs+C a<=1048576):RQ 143 [M [I na,y lm xs],M [I nb,y lm a]] (BL (rv na xs*rv nb a)):=by
 have i:=MX xs;have j:=MX a;obtain⟨zs,k,e,f,g⟩:=W5 (mL c) (mL d) (by omega);have b:=Nq (neg := !(na==nb)) e (by omega);rw[AAe na nb (l xs) (l a) zs f,Abq,Abq] at b;exact Ate na nb xs a zs _ (JS (by omega)) (JS (by omega)) g b
theorem dQ{na nb:Bool}{xs a:LI}(n:E5 xs)(o:E5 a)(h1:C xs<1048576)(h2:C a<1048576):RQ 246 [M [I na,y lm xs],M [I nb,y lm a]] (BL (rv na xs+rv nb a)):=by
 have p:=MX xs;have q:=MX a;have c1:=K1 n;have c2:=K1 o;have h:=JS (xs:=xs) (by omega);have i:=JS (xs:=a) (by omega);have k:=Qb c1 c2 (by omega);by_cases hn:na=nb
 ·subst hn;obtain⟨zs,c,d,m,f⟩:=Abp c1.1 c2.1 (by omega) (by omega);have b:=Nq (neg:=na) c (by omega);have e:rv na zs=rv na xs+rv na a:=by
   unfold rv;rw[d,Hk,Hk];cases na <;> simp;omega
  rw[e] at b;exact Aic na na xs a zs _ (by simp) h i f b
 ·have hb:nb = !na:=by cases na <;> cases nb <;> simp at hn |-
  by_cases hc:F5 (AQ (l xs)) (AQ (l a))>=0
  ·have g:AQ (l a)<=AQ (l xs):=by unfold F5 at hc;split at hc <;> (try split at hc) <;> omega
   have j:C (l a)<=C (l xs):=Sx c2 (Atf g (KU c1.1));obtain⟨zs,c,d,m,f⟩:=W7 c1.1 c2.1 j g (by omega);have b:=Nq (neg:=na) c (by omega);have e:rv na zs=rv na xs+rv nb a:=by
    unfold rv;rw[d,Hk,Hk,hb];cases na <;> simp <;> omega
   rw[e] at b;exact Aid na nb xs a zs _ _ (by rw[hb];cases na <;> rfl) (by simpa using hc) h i k f b
  ·have g:AQ (l xs)<=AQ (l a):=by unfold F5 at hc;split at hc <;> (try split at hc) <;> omega
   have j:C (l xs)<=C (l a):=Sx c1 (Atf g (KU c2.1));obtain⟨zs,c,d,m,f⟩:=W7 c2.1 c1.1 j g (by omega);have b:=Nq (neg:=nb) c (by omega);have e:rv nb zs=rv na xs+rv nb a:=by
    unfold rv;rw[d,Hk,Hk,hb];cases na <;> simp <;> omega
   rw[e] at b;exact Aie na nb xs a zs _ _ (by rw[hb];cases na <;> rfl) (by simpa using hc) h i k f b
def TBD:Bx:=TBC
theorem By:Be CQ TBD:=C0
def Ub:ICode:=Ca oP 94 56
section
variable(rs:Cx)(n:Int)
def JI:H:=Ab (y v rs)::V 2 (vi n::V 31 [])
theorem Atg(c1:G (n>0)=true)(c2:(Gi (t (L rs (J (O D (n-1))) z0))==0)=true)(a:0<=O D (n-1)/\O D (n-1)<(C rs:Int))(b:RQ 153 [Dh (L rs (J (O D (n-1))) z0)] (A D (Gi (t (L rs (J (O D (n-1))) z0))))):Aa Ub (JI rs n) .norm (JI rs (O D (n-1))):=B By [bT,.v (Dh (L rs (J (O D (n-1))) z0)),.r (A D (Gi (t (L rs (J (O D (n-1))) z0)))),bT] [0,3] (Fh c1 a (I8 a) b c2)
theorem Ath(c1:G (n>0)=true)(c2:(Gi (t (L rs (J (O D (n-1))) z0))==0)=false)(a:0<=O D (n-1)/\O D (n-1)<(C rs:Int))(b:RQ 153 [Dh (L rs (J (O D (n-1))) z0)] (A D (Gi (t (L rs (J (O D (n-1))) z0))))):Aa Ub (JI rs n) xZ0 (JI rs n):=B By [bT,.v (Dh (L rs (J (O D (n-1))) z0)),.r (A D (Gi (t (L rs (J (O D (n-1))) z0)))),Y] [0,3] (Fh c1 a (I8 a) b c2)
theorem Ati(c1:G (n>0)=false):Aa Ub (JI rs n) xZ0 (JI rs n):=B By [Y,Y] [0,3] (Gd c1 iY)
end
def X7:ICode:=Ca oP 91 500
section
variable(rs:Cx)(n:Int)(k:Nat)(cs:u)(i:Int)
def K9:H:=Ab (y v rs)::V 2 (vi n::Av 2 k cs::vi i::V 29 [])
theorem Atj(c1:G (i<n)=true)(a:0<=i/\i<C rs)(b:k+1<=1048576)(c:RQ 209 [Dh (L rs (J i) z0)] (BL (t (L rs (J i) z0)))):Aa X7 (K9 rs n k cs i) .norm (K9 rs n (k+1) (cs++([I (G (t (L rs (J i) z0)<0)),y lm (q (A6 (t (L rs (J i) z0))))]:u)) (O D (i+1))):=B By [bT,.v (Dh (L rs (J i) z0)),.r (BL (t (L rs (J i) z0)))] wY (EP c1 a (I8 a) c (show C ([I (G (t (L rs (J i) z0)<0)),y lm (q (A6 (t (L rs (J i) z0))))]:u)=1*2 from rfl) b)
theorem Atk(c1:G (i<n)=false):Aa X7 (K9 rs n k cs i) xZ2 (K9 rs n k cs i):=B By [Y] wY (Bc c1)
end
theorem A4o(rs:Cx)(n i:Int)(k:Nat)(cs:u)(a:Aa (.loop Ub) (JI rs (C rs)) xZ0 (JI rs n))(b:Aa (.loop X7) (K9 rs n 0 ([]:u) 0) xZ2 (K9 rs n k cs i)):RQ 152 [y v rs] (P 2 k cs):=K4 oP (V 2 (Av 2 k cs::V 32 [])) (BU (N (B By [] [0,3] a0) (N (A0 a) (BS (N (B By [] wY a0) (N (A0 b) (B By [] [2] a0)))))))
theorem Abs(rs:Cx)(r:Rn):v rs++([I r.1,E (C r.2) (lm r.2)]:u)=v (rs++[r]):=by rw [YE];rfl
theorem OF(g:Nat->Rn)(i:Nat):(AZ (i+1)).map g=(AZ i).map g++[g i]:=by rw [List.range_succ,DU];rfl
theorem Aif{rs:Cx}(b:∀ r∈rs,EB 1048576 r)(g:C rs<=1048576):∀ m,m<=C rs->Aa (.loop Ub) (JI rs (m:Nat)) xZ0 (JI rs (Cw (vals rs) m:Nat)):=by
 intro m;induction m with
 | zero=>intro _;exact f (Ati rs ((0:Nat)) (by simp))
 | succ m c =>
  intro h;have a:O D ((m+1:Nat)-1)=(m:Int):=wrz
  obtain⟨d,e⟩:=D7 b m;have hs:=dP (neg:=(L rs m z0).1) d e;simp only[Cw];rw[GE];by_cases h0:t (L rs m z0)=0
  ·rw[Ae h0];have k:=Atg rs ((m+1:Nat)) (by simp) (by rw[a,Aq,h0];rfl) (by rw[a];omega) (by simp only[a,Aq];exact hs);rw[a] at k;exact AB k (c (by omega))
  ·rw[Al h0];exact f (Ath rs ((m+1:Nat)) (by simp) (by rw[a,Aq,z];unfold Gi; (repeat' split) <;> omega) (by rw[a];omega) (by simp only[a,Aq];exact hs))
theorem Aig{rs:Cx}(a:∀ r∈rs,EB 1048576 r)(e:C rs<=1048576)(n:Nat)(hn:n<=C rs) :
  Aa (.loop X7) (K9 rs (n:Nat) 0 [] 0) xZ2 (K9 rs (n:Nat) n (v ((AZ n).map fun j=>cn (t (L rs j z0)))) (n:Nat)):=by
 refine S0 (fun i=>K9 rs (n:Nat) i (v ((AZ i).map fun j=>cn (t (L rs j z0)))) (i:Nat)) n (by nofun) ?_ ?_ 0 (B_ _)
 ·intro i hi;have b:O D (i+1)=((i+1:Nat):Int):=wrz
  obtain⟨c,d⟩:=D7 a i;have k:=Atj rs (n:Nat) i (v ((AZ i).map fun j=>cn (t (L rs j z0)))) (i:Nat) (by simp;omega) (by omega) (by omega) (by simp only[Aq];exact Aib c d);refine k.to rfl ?_;simp only[Aq,b];rw[OF,<- Abs];rfl
 ·exact Atk rs (n:Nat) n _ (n:Nat) (by simp)
theorem Lt{rs:Cx}(b:∀ r∈rs,EB 1048576 r)(c:C rs<=1048576):RQ 152 [y v rs] (P 2 (C (l (vals rs))) (pk (l (vals rs)))):=by
 have e:=Pu (vals rs) (C rs);have a:C (l (vals rs))=Cw (vals rs) (C rs):=by rw[oZ,GD]
 have h:=A4o rs _ _ _ _ (Aif b c (C rs) (Ay _)) (Aig b c _ e);have d:(AZ (Cw (vals rs) (C rs))).map (fun j=>cn (t (L rs j z0)))=(l (vals rs)).map cn:=by
  rw[<- Aqr,a];apply AJc;intro i _;rw[Iw,GE]
 (first|rw[d,<- a] at h|(rw[d] at h;unfold y at h;rw[<- a] at h));exact h
def rG:ICode:=Ca Afz 93 116
section
variable(rs:Cx)(k:Nat)(cs:u)(i:Int)
def Qe:H:=Ab (y v rs)::V 1 (Av 2 0 []::Av 2 k cs::vi i::V 16 [])
theorem A4p(c1:G (i<C rs)=true)(a:0<=i/\i<C rs)(b:k+1<=1048576)(c:RQ 106 [Dh (L rs (J i) z0)] (BL (-(t (L rs (J i) z0))))):Aa rG (Qe rs k cs i) .norm (Qe rs (k+1) (cs++([I (G ((-(t (L rs (J i) z0)))<0)),y lm (q (A6 (-(t (L rs (J i) z0)))))]:u)) (O D (i+1))):=B By [bT,.v (Dh (L rs (J i) z0)),.r (BL (-(t (L rs (J i) z0))))] lN (EP c1 a (I8 a) c (show C ([I (G ((-(t (L rs (J i) z0)))<0)),y lm (q (A6 (-(t (L rs (J i) z0)))))]:u)=1*2 from rfl) b)
theorem A4q(c1:G (i<C rs)=false):Aa rG (Qe rs k cs i) xZ0 (Qe rs k cs i):=B By [Y] lN (Bc c1)
end
theorem A4r(rs os a:Cx)(i:Int)(k:Nat)(b:Aa (.loop rG) (Qe rs 0 ([]:u) 0) xZ0 (Qe rs k (v os) i))(c:RQ 152 [E k (v os)] (P 2 (C a) (v a))):RQ 178 [y v rs] (P 2 (C a) (v a)):=K4 Afz (V 2 (Av 2 (C a) (v a)::V 18 [])) (BU (BS (N (B By [] lN a0) (N (A0 b) (B By [.r (P 2 (C a) (v a))] [2] (Bc c))))))
theorem Aih(rs:Cx)(i:Int)(c1:G (i<C rs)=true)(a:0<=i/\i<C rs):RQ 247 [y v rs,A D i] (Dh (L rs (J i) z0)):=ALa (fn:=iF g Agc) By rfl [bT,.v (Dh (L rs (J i) z0))] (Fa c1 a (I8 a))
theorem Aii(rs:Cx)(i:Int)(c1:G (i<C rs)=false):RQ 247 [y v rs,A D i] (M [I false,E 0 []]):=ALa (fn:=iF g Agc) By rfl [Y] (Bc c1)
def dR:ICode:=Ca Afx 93 116
section
variable(rs ss:Cx)(k:Nat)(cs:u)(i:Int)
def Ki:H:=Ab (y v rs)::Ab (y v ss)::V 2 (Av 2 0 []::Av 2 k cs::vi i::V 24 [])
theorem A4s(c1:G (i<C rs)=true)(a:k+1<=1048576)(b:RQ 247 [y v rs,A D i] (Dh (L rs (J i) z0)))(c:RQ 247 [y v ss,A D i] (Dh (L ss (J i) z0)))(d:RQ 246 [Dh (L rs (J i) z0),Dh (L ss (J i) z0)] (BL (t (L rs (J i) z0)+t (L ss (J i) z0)))):Aa dR (Ki rs ss k cs i) .norm (Ki rs ss (k+1) (cs++([I (G ((t (L rs (J i) z0)+t (L ss (J i) z0))<0)),y lm (q (A6 (t (L rs (J i) z0)+t (L ss (J i) z0))))]:u)) (O D (i+1))):=B By [bT,bT,.r (Dh (L rs (J i) z0)),.r (Dh (L ss (J i) z0)),.r (BL (t (L rs (J i) z0)+t (L ss (J i) z0)))] Yy (Gs c1 EJ b c d (show C ([I (G ((t (L rs (J i) z0)+t (L ss (J i) z0))<0)),y lm (q (A6 (t (L rs (J i) z0)+t (L ss (J i) z0))))]:u)=1*2 from rfl) a)
theorem A4t(c1:G (i<C rs)=false)(c2:G (i<C ss)=true)(a:k+1<=1048576)(b:RQ 247 [y v rs,A D i] (Dh (L rs (J i) z0)))(c:RQ 247 [y v ss,A D i] (Dh (L ss (J i) z0)))(d:RQ 246 [Dh (L rs (J i) z0),Dh (L ss (J i) z0)] (BL (t (L rs (J i) z0)+t (L ss (J i) z0)))):Aa dR (Ki rs ss k cs i) .norm (Ki rs ss (k+1) (cs++([I (G ((t (L rs (J i) z0)+t (L ss (J i) z0))<0)),y lm (q (A6 (t (L rs (J i) z0)+t (L ss (J i) z0))))]:u)) (O D (i+1))):=B By [Y,bT,.r (Dh (L rs (J i) z0)),.r (Dh (L ss (J i) z0)),.r (BL (t (L rs (J i) z0)+t (L ss (J i) z0)))] Yy (Gs c1 c2 b c d (show C ([I (G ((t (L rs (J i) z0)+t (L ss (J i) z0))<0)),y lm (q (A6 (t (L rs (J i) z0)+t (L ss (J i) z0))))]:u)=1*2 from rfl) a)
theorem A4u(c1:G (i<C rs)=false)(c2:G (i<C ss)=false):Aa dR (Ki rs ss k cs i) xZ0 (Ki rs ss k cs i):=B By [Y,Y] Yy (Gd c1 c2)
end
theorem A4v(rs ss os a:Cx)(i:Int)(k:Nat)(b:Aa (.loop dR) (Ki rs ss 0 ([]:u) 0) xZ0 (Ki rs ss k (v os) i))(c:RQ 152 [E k (v os)] (P 2 (C a) (v a))):RQ 170 [y v rs,y v ss] (P 2 (C a) (v a)):=K4 Afx (V 4 (Av 2 (C a) (v a)::V 26 [])) (BU (BS (N (B By [] Yy a0) (N (A0 b) (B By [.r (P 2 (C a) (v a))] [4] (Bc c))))))
theorem A4w(rs ss ns us:Cx)(a:RQ 178 [y v ss] (P 2 (C ns) (v ns)))(b:RQ 170 [y v rs,y v ns] (P 2 (C us) (v us))):RQ 172 [y v rs,y v ss] (P 2 (C us) (v us)):=ALa (fn:=iF g Ayg) By rfl [.r (P 2 (C ns) (v ns)),.r (P 2 (C us) (v us))] (Gd a b)
def X8:ICode:=Ca UG 86 15652
section
variable(rs ss:Cx)(k:Nat)(os:Cx)(i j:Int)
def LY:H:=Ab (y v rs)::Ab (y v ss)::V 2 (Av 2 0 []::Av 2 k (v os)::vi i::vi j::V 50 [])
theorem Atl(c1:G (j<C ss)=true)(a:0<=O D (i+j)/\O D (i+j)<(k:Int))(b:C os=k)(c:0<=i/\i<C rs)(d:0<=j/\j<C ss)(e:RQ 143 [Dh (L rs (J i) z0),Dh (L ss (J j) z0)] (BL (t (L rs (J i) z0)*t (L ss (J j) z0))))(f:RQ 246 [Dh (L os (J (O D (i+j))) z0),BL (t (L rs (J i) z0)*t (L ss (J j) z0))] (BL (t (L os (J (O D (i+j))) z0)+(t (L rs (J i) z0)*t (L ss (J j) z0))))):Aa X8 (LY rs ss k os i j) .norm (LY rs ss k (os.set (J (O D (i+j))) (cn (t (L os (J (O D (i+j))) z0)+(t (L rs (J i) z0)*t (L ss (J j) z0))))) i (O D (j+1))):=B By [bT,.v (Dh (L os (J (O D (i+j))) z0)),.v (Dh (L rs (J i) z0)),.v (Dh (L ss (J j) z0)),.r (BL (t (L rs (J i) z0)*t (L ss (J j) z0))),.r (BL (t (L os (J (O D (i+j))) z0)+(t (L rs (J i) z0)*t (L ss (J j) z0)))),.l (v (os.set (J (O D (i+j))) (cn (t (L os (J (O D (i+j))) z0)+(t (L rs (J i) z0)*t (L ss (J j) z0))))))] [0,1,4,5,6,7] (G3 c1 a (Ayy b a) c (I8 c) d (I8 d) e f a (Ayz (r:=cn (t (L os (J (O D (i+j))) z0)+(t (L rs (J i) z0)*t (L ss (J j) z0)))) b a))
theorem Atm(c1:G (j<C ss)=false):Aa X8 (LY rs ss k os i j) xZ2 (LY rs ss k os i j):=B By [Y] [0,1,4,5,6,7] (Bc c1)
end
def rH:ICode:=Ca UG 92 244
section
variable(rs ss:Cx)(k:Nat)(os:Cx)(i:Int)
def SC:H:=Ab (y v rs)::Ab (y v ss)::V 2 (Av 2 0 []::Av 2 k (v os)::vi i::V 51 [])
theorem A4x(a:Cx)(c1:G (i<C rs)=true)(b:Aa (.loop X8) (LY rs ss k os i 0) xZ2 (LY rs ss k a i (C ss))):Aa rH (SC rs ss k os i) .norm (SC rs ss k a (O D (i+1))):=N (B (t:=(vp rs::vp ss::V 2 (Av 2 0 []::Av 2 k (v os)::vi i::V 51 []))) By [bT] Yy (Bc c1)) (N (x (N (B By [] [0,1,4,5,6,7] a0) (A0 b))) (B By [] Yy a0))
theorem A4y(c1:G (i<C rs)=false):Aa rH (SC rs ss k os i) xZ0 (SC rs ss k os i):=m (B By [Y] Yy (Bc c1))
end
theorem Aij(rs ss:Cx)(c1:((C rs:Int)==0)=true):RQ 173 [y v rs,y v ss] (P 2 0 []):=K4 UG (V 4 (Av 2 0 []::V 53 [])) (BU (BU (BS (m (B By [bT,bT] [4] (Gd c1 EJ))))))
theorem Aik(rs ss:Cx)(c1:((C rs:Int)==0)=false)(c2:((C ss:Int)==0)=true):RQ 173 [y v rs,y v ss] (P 2 0 []):=K4 UG (V 4 (Av 2 0 []::V 53 [])) (BU (BU (BS (m (B By [Y,bT] [4] (Gd c1 c2))))))
theorem Ail(rs ss os a:Cx)(i:Int)(k:Nat)(c1:((C rs:Int)==0)=false)(c2:((C ss:Int)==0)=false)(b:0<=O D (O D (C rs+C ss)-1)/\O D (O D (C rs+C ss)-1)<=1048576)(c:Aa (.loop rH) ((Ab (y v rs)::Ab (y v ss)::V 2 (Av 2 0 []::Av 2 (J (O D (O D (C rs+C ss)-1))) (Gp [I false,E 0 []] (J (O D (O D (C rs+C ss)-1))))::vi 0::V 51 []))) xZ0 (SC rs ss k os i))(d:RQ 152 [E k (v os)] (P 2 (C a) (v a))):RQ 173 [y v rs,y v ss] (P 2 (C a) (v a)):=K4 UG (V 4 (Av 2 (C a) (v a)::V 53 [])) (BU (BU (BS (N (B By [Y,Y] Yy (Fa c1 c2 b)) (N (A0 c) (B By [.r (P 2 (C a) (v a))] [4] (Bc d)))))))
theorem Og(g:Nat->Int)(i:Nat):v ((AZ i).map fun j=>cn (g j))++([I (G (g i<0)),y lm (q (A6 (g i)))]:u)=v ((AZ (i+1)).map fun j=>cn (g j)):=by
 rw[OF (fun j=>cn (g j)),<- Abs];rfl
theorem Abt(f:Nat->Int)(n i:Nat):L ((AZ n).map f) i 0=if i<n then f i else 0:=by
 rw[Z,Fy];by_cases h:i<n
 ·rw[AJb h,Ae h];rfl
 ·rw[AX (by simpa using h),Al h];rfl
theorem mM{rs:Cx}(b:∀ r∈rs,EB 1048576 r)(g:C rs<=1048576):RQ 178 [y v rs] (P 2 (C (l (I7 (vals rs)))) (pk (l (I7 (vals rs))))):=by
 have h:=S0 (prog:=CQ) (c:=rG) (ex := .exit 0) (fin:=Qe rs (C rs) (v ((AZ (C rs)).map fun j=>cn (-t (L rs j z0)))) (C rs:Nat))
  (fun i=>Qe rs i (v ((AZ i).map fun j=>cn (-t (L rs j z0)))) (i:Nat)) (C rs) (by nofun) ?_ ?_ 0 (B_ _)
 ·have m:∀ r∈(AZ (C rs)).map (fun j=>cn (-t (L rs j z0))),EB 1048576 r:=Sy fun j _=>KV (D7 b j).fits.neg;have a:=Lt m (by rw[Bz,DT];exact g);have e:l (vals ((AZ (C rs)).map (fun j=>cn (-t (L rs j z0)))))=l (I7 (vals rs)):=by
   apply KL;intro i;rw[Px,MZ,YI,<- GE];split
   ·rfl
   ·rw[Gt (by rw[GD];omega)];rfl
  (first|rw[e,Bz,DT] at a|(rw[e] at a;unfold y at a;rw[Bz,DT] at a));have d:pk (l (I7 (vals rs)))=v ((l (I7 (vals rs))).map cn):=rfl;(first|rw[d,<- Bz (f:=cn)] at a |-|(rw[d] at a |-;unfold y at a;rw[<- Bz (f:=cn)] at a |-));exact A4r rs _ _ _ _ h a
 ·intro i hi;have n:O D (i+1)=((i+1:Nat):Int):=wrz
  obtain⟨o,p⟩:=D7 b i;have k:=A4p rs i (v ((AZ i).map fun j=>cn (-t (L rs j z0)))) (i:Nat) (by simp;omega) (by omega) (by omega) (by rw[Aq];exact Atd o p);refine k.to rfl ?_;rw[n,<- Og (fun j => -t (L rs j z0)) i,Aq]
 ·exact A4q rs _ _ _ (by simp)
theorem Aim{rs:Cx}{i:Nat}(h:C rs<=i):L rs i z0=z0:=by rw [Z,AX h];rfl
theorem Abu(rs:Cx)(i:Nat):RQ 247 [y v rs,A D (i:Nat)] (Dh (L rs i z0)):=by
 by_cases h:i<C rs
 ·have:=Aih rs (i:Nat) (by simp;omega) (by omega);rw[Aq] at this;exact this
 ·rw[Aim (by omega)];exact Aii rs (i:Nat) (by simp;omega)
theorem dT{K:Nat}{rs ss:Cx}(hr:∀ r∈rs,EB K r)(hs:∀ r∈ss,EB K r)(w:K<1048576)(x:C rs<=1048576)(z:C ss<=1048576) :
  RQ 170 [y v rs,y v ss] (P 2 (C (IU (vals rs) (vals ss))) (pk (IU (vals rs) (vals ss)))):=by
 have h:=S0 (prog:=CQ) (c:=dR) (ex := .exit 0) (fin:=Ki rs ss (max (C rs) (C ss)) (v ((AZ (max (C rs) (C ss))).map fun j=>cn (t (L rs j z0)+t (L ss j z0)))) ((max (C rs) (C ss):Nat)))
  (fun i=>Ki rs ss i (v ((AZ i).map fun j=>cn (t (L rs j z0)+t (L ss j z0)))) (i:Nat)) (max (C rs) (C ss)) (by nofun) ?_ ?_ 0 (B_ _)
 ·have m:∀ r∈(AZ (max (C rs) (C ss))).map (fun j=>cn (t (L rs j z0)+t (L ss j z0))),EB 1048576 r:=Sy fun j _=>(KV ((D7 hr j).fits.add (D7 hs j).fits)).mono (by omega);have a:=Lt m (by rw[Bz,DT];omega);have e:l (vals ((AZ (max (C rs) (C ss))).map (fun j=>cn (t (L rs j z0)+t (L ss j z0)))))=IU (vals rs) (vals ss):=by
   unfold IU;apply KL;intro i;rw[Px,Abt,MZ,GE,GE,GD,GD]
  (first|rw[e,Bz,DT] at a|(rw[e] at a;unfold y at a;rw[Bz,DT] at a));have b:pk (IU (vals rs) (vals ss))=v ((IU (vals rs) (vals ss)).map cn):=rfl;(first|rw[b,<- Bz (f:=cn)] at a |-|(rw[b] at a |-;unfold y at a;rw[<- Bz (f:=cn)] at a |-));exact A4v rs ss _ _ _ _ h a
 ·intro i hi;have n:O D (i+1)=((i+1:Nat):Int):=wrz
  obtain⟨o,A⟩:=D7 hr i;obtain⟨p,B⟩:=D7 hs i;have d:=dQ (na:=(L rs i z0).1) (nb:=(L ss i z0).1) o p (by omega) (by omega);have g:=Abu rs i;have k:=Abu ss i;have fin:∀ s',Ki rs ss (i+1) (v ((AZ i).map fun j=>cn (t (L rs j z0)+t (L ss j z0)))++([I (G (t (L rs (J i) z0)+t (L ss (J i) z0)<0)),y lm (q (A6 (t (L rs (J i) z0)+t (L ss (J i) z0))))]:u)) (O D (i+1))=s'->s'=Ki rs ss (i+1) (v ((AZ (i+1)).map fun j=>cn (t (L rs j z0)+t (L ss j z0)))) ((i+1:Nat)):=by
   intro s' s;rw[<- s,n,<- Og (fun j=>t (L rs j z0)+t (L ss j z0)) i,Aq]
  by_cases h1:i<C rs
  ·exact (A4s rs ss i (v ((AZ i).map fun j=>cn (t (L rs j z0)+t (L ss j z0)))) (i:Nat) (by simp;omega) (by omega) (by rw[Aq];exact g) (by rw[Aq];exact k) (by rw[Aq];exact d)).to rfl (fin _ rfl)
  ·exact (A4t rs ss i (v ((AZ i).map fun j=>cn (t (L rs j z0)+t (L ss j z0)))) (i:Nat) (by simp;omega) (by simp;omega) (by omega) (by rw[Aq];exact g) (by rw[Aq];exact k) (by rw[Aq];exact d)).to rfl (fin _ rfl)
 ·exact A4u rs ss _ _ _ (by simp;omega) (by simp;omega)
theorem Abv{K:Nat}{rs ss:Cx}(hr:∀ r∈rs,EB K r)(hs:∀ r∈ss,EB K r)(d:K<1048576)(g:C rs<=1048576)(j:C ss<=1048576) :
  RQ 172 [y v rs,y v ss] (P 2 (C (W1 (vals rs) (vals ss))) (pk (W1 (vals rs) (vals ss)))):=by
 have hn:=mM (fun r h=>(hs r h).mono (show K<=1048576 by omega)) j;have hf:∀ x∈l (I7 (vals ss)),CP K x:=YQ (YP (Agk hs));have hl:=MX (I7 (vals ss));rw[Aqu,GD] at hl;have c:=dT (ss:=(l (I7 (vals ss))).map cn) hr (lR hf) d g (by rw[Bz];omega);rw[xE] at c;have e:IU (vals rs) (l (I7 (vals ss)))=W1 (vals rs) (vals ss):=by
  have h1:l (IU (vals rs) (l (I7 (vals ss))))=l (W1 (vals rs) (vals ss)):=by
   apply KL;intro i;rw[NV,Iw,W1,NV]
  have h2:∀ a b:LI,l (IU a b)=IU a b:=fun a b=>NU _;rw[h2,W1,h2] at h1;exact h1
 rw[e] at c;have k:∀ p:LI,pk p=v (p.map cn):=fun _=>rfl;rw[k] at hn c |-;rw[<- Bz (f:=cn)] at hn c |-;exact A4w rs ss _ _ hn c
theorem Abw{K:Nat}{rs ss:Cx}(hr:∀ r∈rs,EB K r)(hs:∀ r∈ss,EB K r)(M:2*K+C rs<1048576)(N:C rs+C ss<=1048576) :
  RQ 173 [y v rs,y v ss] (P 2 (C (LJ (vals rs) (vals ss))) (pk (LJ (vals rs) (vals ss)))):=by
 have u:=fun x=>Agp rs ss (C ss) (C rs+C ss-1) x (C rs) (by omega);have o:∀ b:Cx,(vals b).take (C b)=vals b:=fun b=>by rw[E_ (by rw[GD];omega)]
 by_cases h1:C rs=0
 ·have d:rs=[]:=Bb h1;subst d;exact Aij [] ss (by simp)
 by_cases h2:C ss=0
 ·have d:ss=[]:=Bb h2;subst d;have e:LJ (vals rs) (vals ([]:Cx))=[]:=UO rfl;rw[e];exact Aik rs [] (by rw[z];omega) (by simp)
 have w:=YR (os:=BP (C rs+C ss-1) z0) hr hs (Wy _ _) (C ss) (C rs);have g:=NW rs ss (BP (C rs+C ss-1) z0) (C ss) (C rs);rw[Abx] at g;have hl:=S0 (prog:=CQ) (c:=rH) (ex := .exit 0) (fin:=SC rs ss (C rs+C ss-1) (LK rs ss (BP (C rs+C ss-1) z0) (C ss) (C rs)) (C rs:Nat))
  (fun i=>SC rs ss (C rs+C ss-1) (LK rs ss (BP (C rs+C ss-1) z0) (C ss) i) (i:Nat)) (C rs) (by nofun) ?_ ?_ 0 (B_ _)
 ·have p:O D (O D (C rs+C ss)-1)=((C rs+C ss-1:Nat):Int):=by
   rw[A' (n:=(C rs:Int)+(C ss:Int)) (by omega) (by omega),wqz];omega
  have a:=Lt (fun r h=>(w r h).mono (show 2*K+C rs<=1048576 by omega)) (by omega);have q:l (vals (LK rs ss (BP (C rs+C ss-1) z0) (C ss) (C rs)))=LJ (vals rs) (vals ss):=by
   rw[<- S4];exact S3 fun x=>by rw[u x,o,o,P2]
  (first|rw[q,g] at a|(rw[q] at a;unfold y at a;rw[g] at a));have s:pk (LJ (vals rs) (vals ss))=v ((LJ (vals rs) (vals ss)).map cn):=rfl;(first|rw[s,<- Bz (f:=cn)] at a |-|(rw[s] at a |-;unfold y at a;rw[<- Bz (f:=cn)] at a |-));exact Ail rs ss _ _ _ _ (by rw[z];omega) (by rw[z];omega) (by rw[p];omega) (by rw[p,Aq,Ayx];exact hl) a
 ·intro i hi;have A:O D (i+1)=((i+1:Nat):Int):=wrz
  have B:=YR (os:=BP (C rs+C ss-1) z0) hr hs (Wy _ _) (C ss) i;have E:=NW rs ss (BP (C rs+C ss-1) z0) (C ss) i;rw[Abx] at E;have k:=A4x rs ss (C rs+C ss-1) (LK rs ss (BP (C rs+C ss-1) z0) (C ss) i) (i:Nat) (LK rs ss (BP (C rs+C ss-1) z0) (C ss) (i+1)) (by simp;omega) ?_
  ·exact k.to rfl (by rw[A])
  ·rw[LK];generalize LK rs ss (BP (C rs+C ss-1) z0) (C ss) i=os at *
   have hin:=S0 (prog:=CQ) (c:=X8) (ex := .exit 2) (fin:=LY rs ss (C rs+C ss-1) (RB rs ss os i (C ss)) i (C ss))
    (fun j=>LY rs ss (C rs+C ss-1) (RB rs ss os i j) (i:Nat) (j:Nat)) (C ss) (by nofun) ?_ ?_ 0 (B_ _)
   ·exact hin
   ·intro j Q;have F:O D (j+1)=((j+1:Nat):Int):=wrz
    have m:O D (i+j)=((i+j:Nat):Int):=wrz
    have R:=P3 rs ss os i j;have G:=xQ rs ss os i j (i+j) (Ay _);obtain⟨H,S⟩:=D7 hr i;obtain⟨I,T⟩:=D7 hs j;obtain⟨J,U⟩:=D7 B (i+j);have V:=(CP.mul (D7 hr i).fits (D7 hs j).fits).len;have k:=Atl rs ss (C rs+C ss-1) (RB rs ss os i j) (i:Nat) (j:Nat) (by simp;omega) (by rw[m];omega) (by omega) (by omega) (by omega)
     (by simp only[Aq];exact Abr H I (by omega))
     (by
      simp only[Aq,m,G];have:=dQ (na:=(L os (i+j) z0).1) (nb:=decide (t (L rs i z0)*t (L ss j z0)<0)) J (xC (A6 (t (L rs i z0)*t (L ss j z0)))) (by omega) (by omega);rw[Alv] at this;exact this)
    refine k.to rfl ?_;simp only[Aq,m,F,RB]
   ·exact Atm rs ss _ _ (i:Nat) (C ss:Nat) (by simp)
 ·exact A4y rs ss _ _ (C rs:Nat) (by simp)
def rI:ICode:=Ca Afy 93 116
section
variable(xs:LI)(k:Nat)(cs:u)(i:Int)
def Qf:H:=Ab (E (C xs) (li xs))::V 1 (Av 2 0 []::Av 2 k cs::vi i::V 16 [])
theorem A4z(c1:G (i<C xs)=true)(a:0<=i/\i<C xs)(c:k+1<=1048576)(d:RQ 33 [A D (L xs (J i) 0)] (BL (L xs (J i) 0))):Aa rI (Qf xs k cs i) .norm (Qf xs (k+1) (cs++([I (G (L xs (J i) 0<0)),y lm (q (A6 (L xs (J i) 0)))]:u)) (O D (i+1))):=B By [bT,.v (A D (L xs (J i) 0)),.r (BL (L xs (J i) 0))] lN (EP c1 a (b a) d (show C ([I (G (L xs (J i) 0<0)),y lm (q (A6 (L xs (J i) 0)))]:u)=1*2 from rfl) c)
theorem A5a(c1:G (i<C xs)=false):Aa rI (Qf xs k cs i) xZ0 (Qf xs k cs i):=B By [Y] lN (Bc c1)
end
theorem A5b(xs:LI)(os a:Cx)(i:Int)(k:Nat)(b:Aa (.loop rI) (Qf xs 0 ([]:u) 0) xZ0 (Qf xs k (v os) i))(c:RQ 152 [E k (v os)] (P 2 (C a) (v a))):RQ 175 [E (C xs) (li xs)] (P 2 (C a) (v a)):=K4 Afy (V 2 (Av 2 (C a) (v a)::V 18 [])) (BU (BS (N (B By [] lN a0) (N (A0 b) (B By [.r (P 2 (C a) (v a))] [2] (Bc c))))))
theorem Atn{xs:LI}(hb:∀ x∈xs,-9223372036854775808<=x/\x<=9223372036854775807)(hn:C xs<=1000):RQ 175 [E (C xs) (li xs)] (P 2 (C ((l xs).map cn)) (v ((l xs).map cn))):=by
 have b:∀ i,-9223372036854775808<=L xs i 0/\L xs i 0<=9223372036854775807:=by
  intro i;rcases CH i (C xs) with h | h
  ·rw[Z,Af h];exact hb _ (AF h)
  ·rw[Gt h];decide
 have h:=S0 (prog:=CQ) (c:=rI) (ex := .exit 0) (fin:=Qf xs (C xs) (v ((AZ (C xs)).map fun j=>cn (L xs j 0))) (C xs:Nat))
  (fun i=>Qf xs i (v ((AZ i).map fun j=>cn (L xs j 0))) (i:Nat)) (C xs) (by nofun) ?_ ?_ 0 (B_ _)
 ·have d:∀ r∈(AZ (C xs)).map (fun j=>cn (L xs j 0)),EB 1048576 r:=Sy fun j _=>(KV (E2 (b j))).mono (by omega);have a:=Lt d (by rw[Bz,DT];omega);have e:l (vals ((AZ (C xs)).map (fun j=>cn (L xs j 0))))=l xs:=by
   apply KL;intro i;rw[Px,MZ];split
   ·rfl
   ·rw[Gt (by omega)]
  (first|rw[e,Bz,DT] at a|(rw[e] at a;unfold y at a;rw[Bz,DT] at a));have f:pk (l xs)=v ((l xs).map cn):=rfl;rw[f] at a;have g:C (l xs)=C ((l xs).map cn):=(Bz ..).symm;rw[g] at a;exact A5b xs _ _ _ _ h a
 ·intro i hi;have m:O D (i+1)=((i+1:Nat):Int):=wrz
  have k:=A4z xs i (v ((AZ i).map fun j=>cn (L xs j 0))) (i:Nat) (by simp;omega) (by omega) (by omega) (LV (b _));refine k.to rfl ?_;rw[m,<- Og (fun j=>L xs j 0) i,Aq]
 ·exact A5a xs _ _ _ (by simp)
def AFa:Bx:=TBD
theorem Bu:Be CQ AFa:=By
def KA(x y m:Int):Bool :=
 match decide (x>=O D (0-m)) with
 | true=>(match decide (x<=m) with
 | true=>(match decide (y>=O D (0-m)) with
 | true=>((G (y<=m)))
 | false=>false)
 | false=>false)
 | false=>false
theorem A5c(x y m:Int)  : RQ 192 [M [A D x,A D y],A D m] (I (KA x y m)):=by
 unfold KA;cases c1:(G (x>=O D (0-m)))
 ·exact ALa Bu rfl [Y,Y,Y] (Fa c1 Dx Dx)
 ·cases c2:(G (x<=m))
  ·exact ALa Bu rfl [bT,Y,Y] (Fa c1 c2 Dx)
  ·cases c3:(G (y>=O D (0-m)))
   ·exact ALa Bu rfl [bT,bT,Y] (Fa c1 c2 c3)
   ·exact ALa Bu rfl [bT,bT,bT] (Fa c1 c2 c3)
def AFb:u->Option (AV × List Prop)
 | [M [A D x,A D y],A D m]=>some (I (KA x y m),[])
 | _=>none
def TRR1:Bx:=(192,AFb)::AFa
theorem Qg:Be CQ TRR1:=Be.cons Bu (by
 intro args r ps h a;unfold AFb at h;split at h
 ·cases h;exact A5c _ _ _ 
 ·cases h)
section
variable(a b c d h1 h2:Int)
def Uc:Bool :=
 match KA a b 8388608 with
 | true=>(match KA c d 262144 with
 | true=>((KA h1 h2 4096))
 | false=>false)
 | false=>(false)
theorem AAf  : RQ 99 [M [A D a,A D b,A D c,A D d,A D h1,A D h2]] (I (Uc a b c d h1 h2)):=by
 unfold Uc;cases c1:(KA a b 8388608)
 ·exact ALa Qg rfl [Y,Y] (Gd c1 Dx)
 ·cases c2:(KA c d 262144)
  ·exact ALa Qg rfl [bT,Y] (Gd c1 c2)
  ·exact ALa Qg rfl [bT,bT] (Gd c1 c2)
end
theorem Ato(a b:Int)(c:RQ 99 [M [A D a,A D b,A D 0,A D 0,A D 0,A D 0]] (I true)):RQ 151 [M [A D a,A D b]] (M [A D a,A D b,A D 0,A D 0,A D 0,A D 0]):=ALa (fn:=iF g Ayd) Bu rfl [.r (I true),Y] (Gd c iY)
theorem Atp(c d:Int)(a b:Cx)(e:RQ 99 [M [A D c,A D d,A D 0,A D 0,A D 0,A D 0]] (I true))(f:RQ 175 [E 3 [A D c,A D 0,A D 0]] (P 2 (C a) (v a)))(h:RQ 175 [E 3 [A D d,A D 0,A D 0]] (P 2 (C b) (v b))):RQ 245 [M [A D c,A D d,A D 0,A D 0,A D 0,A D 0]] (Hm [y v a,y v b]):=ALa (fn:=iF g Ayj) Bu rfl [.r (I true),Y,.r (P 2 (C a) (v a)),.r (P 2 (C b) (v b))] (Fk e iY f h)
theorem Atq(f h c1 c2:Int)(fx e a b c d:Cx)(i:RQ 245 [M [A D f,A D h,A D 0,A D 0,A D 0,A D 0]] (Hm [y v fx,y v e]))(j:RQ 175 [E 1 [A D c1]] (P 2 (C a) (v a)))(k:RQ 172 [y v fx,y v a] (P 2 (C b) (v b)))(l:RQ 175 [E 1 [A D c2]] (P 2 (C c) (v c)))(m:RQ 172 [y v e,y v c] (P 2 (C d) (v d))):RQ 169 [M [A D f,A D h,A D 0,A D 0,A D 0,A D 0],M [A D c1,A D c2]] (Hm [y v b,y v d]):=ALa (fn:=iF g Aye) Bu rfl [.r (Hm [y v fx,y v e]),.r (P 2 (C a) (v a)),.r (P 2 (C b) (v b)),.r (P 2 (C c) (v c)),.r (P 2 (C d) (v d))] (Fh i j k l m)
theorem Atr(n:Int)(xs b a:Cx)(c:RQ 175 [E 1 [A D n]] (P 2 (C b) (v b)))(d:RQ 173 [y v xs,y v b] (P 2 (C a) (v a))):RQ 171 [y v xs,A D n] (P 2 (C a) (v a)):=ALa (fn:=iF g Ayf) Bu rfl [.r (P 2 (C b) (v b)),.r (P 2 (C a) (v a))] (Gd c d)
theorem Ats(xs d b c a:Cx)(e:RQ 173 [y v xs,y v xs] (P 2 (C b) (v b)))(f:RQ 173 [y v d,y v d] (P 2 (C c) (v c)))(h:RQ 170 [y v b,y v c] (P 2 (C a) (v a))):RQ 177 [y v xs,y v d] (P 2 (C a) (v a)):=ALa (fn:=iF g Ayh) Bu rfl [.r (P 2 (C b) (v b)),.r (P 2 (C c) (v c)),.r (P 2 (C a) (v a))] (Fa e f h)
section
variable(Q R:Int)(nm:ByteArray)(V px py ln lo hi W X mx rs Y co Z n c:Int)
theorem dU(fx s d h a o i e f t j k u p l m q w x z B F H J K L N S:Cx)(c1:G (c<1)=false)(c2:G (c>524288)=false)(n1:RQ 154 [M [.str nm,A D V,A D px,A D py,A D ln,I true,A D lo,A D hi,A D W,A D X,A D mx,A D rs,A D Y,A D co,A D Z]] (I true))(T:RQ 155 [A D n] (I true))(n3:RQ 99 [M [A D Q,A D R,A D 0,A D 0,A D 0,A D 0]] (I true))(n4:RQ 175 [E 2 [A D n,A D (O D (n-n))]] (P 2 (C d) (v d)))(n5:RQ 173 [y v d,y v d] (P 2 (C h) (v h)))(U:RQ 175 [E 1 [A D 65536]] (P 2 (C a) (v a)))(n7:RQ 172 [y v a,y v h] (P 2 (C o) (v o)))(n8:RQ 171 [y v d,A D 512] (P 2 (C i) (v i)))(n9:RQ 178 [y v o] (P 2 (C e) (v e)))(a1:RQ 170 [y v a,y v h] (P 2 (C f) (v f)))(a2:RQ 169 [M [A D Q,A D R,A D 0,A D 0,A D 0,A D 0],M [A D px,A D py]] (Hm [y v fx,y v s]))(a3:RQ 173 [y v fx,y v e] (P 2 (C t) (v t)))(a4:RQ 173 [y v s,y v i] (P 2 (C j) (v j)))(a5:RQ 170 [y v t,y v j] (P 2 (C k) (v k)))(a6:RQ 173 [y v s,y v e] (P 2 (C u) (v u)))(a7:RQ 173 [y v fx,y v i] (P 2 (C p) (v p)))(a8:RQ 172 [y v u,y v p] (P 2 (C l) (v l)))(a9:RQ 177 [y v fx,y v s] (P 2 (C m) (v m)))(b0:RQ 171 [y v f,A D c] (P 2 (C q) (v q)))(b1:RQ 171 [y v f,A D ln] (P 2 (C w) (v w)))(b2:RQ 175 [E 1 [A D (O D (c*c))]] (P 2 (C x) (v x)))(b3:RQ 172 [y v x,y v m] (P 2 (C z) (v z)))(b4:RQ 171 [y v f,A D (O D ((O D (c*c))-(O D (ln*ln))))] (P 2 (C B) (v B)))(b5:RQ 171 [y v k,A D (O D (2*ln))] (P 2 (C F) (v F)))(b6:RQ 170 [y v B,y v F] (P 2 (C H) (v H)))(b7:RQ 173 [y v m,y v f] (P 2 (C J) (v J)))(b8:RQ 172 [y v H,y v J] (P 2 (C K) (v K)))(b9:RQ 172 [y v w,y v k] (P 2 (C L) (v L)))(c0:RQ 172 [y v q,y v l] (P 2 (C N) (v N)))(c3:RQ 170 [y v q,y v l] (P 2 (C S) (v S))):RQ 79 [M [A D Q,A D R,A D 0,A D 0,A D 0,A D 0],M [.str nm,A D V,A D px,A D py,A D ln,I true,A D lo,A D hi,A D W,A D X,A D mx,A D rs,A D Y,A D co,A D Z],A D n,A D n,A D c] (P 1 3 [E 1 [y v z],E 1 [y v K],E 4 [y v k,y v L,y v N,y v S]]):=ALa (fn:=iF g wW) Bu rfl ((.r (I true))::(.b false)::(.r (I true))::(.b false)::(.r (I true))::(.b false)::(.r (I true))::(.b false)::(.b false)::(.b false)::(.r (P 2 (C d) (v d)))::(.r (P 2 (C h) (v h)))::(.r (P 2 (C a) (v a)))::(.r (P 2 (C o) (v o)))::(.r (P 2 (C i) (v i)))::(.b true)::(.r (P 2 (C e) (v e)))::(.r (P 2 (C a) (v a)))::(.r (P 2 (C f) (v f)))::(.r (Hm [y v fx,y v s]))::(.r (P 2 (C t) (v t)))::(.r (P 2 (C j) (v j)))::(.r (P 2 (C k) (v k)))::(.r (P 2 (C u) (v u)))::(.r (P 2 (C p) (v p)))::(.r (P 2 (C l) (v l)))::(.r (P 2 (C m) (v m)))::(.r (P 2 (C q) (v q)))::(.r (P 2 (C w) (v w)))::(.r (P 2 (C x) (v x)))::(.r (P 2 (C z) (v z)))::(.r (P 2 (C B) (v B)))::(.r (P 2 (C F) (v F)))::(.r (P 2 (C H) (v H)))::(.r (P 2 (C J) (v J)))::(.r (P 2 (C K) (v K)))::(.r (P 2 (C L) (v L)))::(.r (P 2 (C N) (v N)))::(.r (P 2 (C S) (v S)))::[]) (ac n1 (ac iY (ac T (ac iY (ac T (ac iY (ac n3 (ac iY (ac c1 (ac c2 (ac n4 (ac n5 (ac U (ac n7 (ac n8 (ac EJ (ac n9 (ac U (ac a1 (Ec a2 a3 a4 a5 a6 a7 a8 a9 (Em b0 b1 b2 b3 b4 b5 b6 b7 b8 b9 c0 c3)))))))))))))))))))))
theorem Xc(fx s d h a o i e f t j k u p l m q w x z B F H J K L N:Cx)(c1:G (c<1)=false)(c2:G (c>524288)=false)(n1:RQ 154 [M [.str nm,A D V,A D px,A D py,A D ln,I false,A D lo,A D hi,A D W,A D X,A D mx,A D rs,A D Y,A D co,A D Z]] (I true))(T:RQ 155 [A D n] (I true))(n3:RQ 99 [M [A D Q,A D R,A D 0,A D 0,A D 0,A D 0]] (I true))(n4:RQ 175 [E 2 [A D n,A D (O D (n-n))]] (P 2 (C d) (v d)))(n5:RQ 173 [y v d,y v d] (P 2 (C h) (v h)))(U:RQ 175 [E 1 [A D 65536]] (P 2 (C a) (v a)))(n7:RQ 172 [y v a,y v h] (P 2 (C o) (v o)))(n8:RQ 171 [y v d,A D 512] (P 2 (C i) (v i)))(n9:RQ 170 [y v a,y v h] (P 2 (C e) (v e)))(a1:RQ 169 [M [A D Q,A D R,A D 0,A D 0,A D 0,A D 0],M [A D px,A D py]] (Hm [y v fx,y v s]))(a2:RQ 173 [y v fx,y v o] (P 2 (C f) (v f)))(a3:RQ 173 [y v s,y v i] (P 2 (C t) (v t)))(a4:RQ 170 [y v f,y v t] (P 2 (C j) (v j)))(a5:RQ 173 [y v s,y v o] (P 2 (C k) (v k)))(a6:RQ 173 [y v fx,y v i] (P 2 (C u) (v u)))(a7:RQ 172 [y v k,y v u] (P 2 (C p) (v p)))(a8:RQ 177 [y v fx,y v s] (P 2 (C l) (v l)))(a9:RQ 171 [y v e,A D c] (P 2 (C m) (v m)))(b0:RQ 171 [y v e,A D ln] (P 2 (C q) (v q)))(b1:RQ 175 [E 1 [A D (O D (c*c))]] (P 2 (C w) (v w)))(b2:RQ 172 [y v w,y v l] (P 2 (C x) (v x)))(b3:RQ 171 [y v e,A D (O D ((O D (c*c))-(O D (ln*ln))))] (P 2 (C z) (v z)))(b4:RQ 171 [y v j,A D (O D (2*ln))] (P 2 (C B) (v B)))(b5:RQ 170 [y v z,y v B] (P 2 (C F) (v F)))(b6:RQ 173 [y v l,y v e] (P 2 (C H) (v H)))(b7:RQ 172 [y v F,y v H] (P 2 (C J) (v J)))(b8:RQ 172 [y v q,y v j] (P 2 (C K) (v K)))(b9:RQ 172 [y v m,y v p] (P 2 (C L) (v L)))(c0:RQ 170 [y v m,y v p] (P 2 (C N) (v N))):RQ 79 [M [A D Q,A D R,A D 0,A D 0,A D 0,A D 0],M [.str nm,A D V,A D px,A D py,A D ln,I false,A D lo,A D hi,A D W,A D X,A D mx,A D rs,A D Y,A D co,A D Z],A D n,A D n,A D c] (P 1 3 [E 1 [y v x],E 1 [y v J],E 4 [y v j,y v K,y v L,y v N]]):=ALa (fn:=iF g wW) Bu rfl ((.r (I true))::(.b false)::(.r (I true))::(.b false)::(.r (I true))::(.b false)::(.r (I true))::(.b false)::(.b false)::(.b false)::(.r (P 2 (C d) (v d)))::(.r (P 2 (C h) (v h)))::(.r (P 2 (C a) (v a)))::(.r (P 2 (C o) (v o)))::(.r (P 2 (C i) (v i)))::(.b false)::(.r (P 2 (C a) (v a)))::(.r (P 2 (C e) (v e)))::(.r (Hm [y v fx,y v s]))::(.r (P 2 (C f) (v f)))::(.r (P 2 (C t) (v t)))::(.r (P 2 (C j) (v j)))::(.r (P 2 (C k) (v k)))::(.r (P 2 (C u) (v u)))::(.r (P 2 (C p) (v p)))::(.r (P 2 (C l) (v l)))::(.r (P 2 (C m) (v m)))::(.r (P 2 (C q) (v q)))::(.r (P 2 (C w) (v w)))::(.r (P 2 (C x) (v x)))::(.r (P 2 (C z) (v z)))::(.r (P 2 (C B) (v B)))::(.r (P 2 (C F) (v F)))::(.r (P 2 (C H) (v H)))::(.r (P 2 (C J) (v J)))::(.r (P 2 (C K) (v K)))::(.r (P 2 (C L) (v L)))::(.r (P 2 (C N) (v N)))::[]) (ac n1 (ac iY (ac T (ac iY (ac T (ac iY (ac n3 (ac iY (ac c1 (ac c2 (ac n4 (ac n5 (ac U (ac n7 (ac n8 (ac iY (ac U (ac n9 (Ec a1 a2 a3 a4 a5 a6 a7 a8 (Em a9 b0 b1 b2 b3 b4 b5 b6 b7 b8 b9 c0))))))))))))))))))))
end
theorem Aby(j k:Int)(c fl a:Bool)(nm:ByteArray)(d px py ln lo hi e f mx rs h co i b l:Int)(c1:fl=true)(c2:a=false)(m:RQ 154 [M [.str nm,A D d,A D px,A D py,A D ln,I c,A D lo,A D hi,A D e,A D f,A D mx,A D rs,A D h,A D co,A D i]] (I fl))(n:RQ 155 [A D b] (I a)):RQ 79 [M [A D j,A D k,A D 0,A D 0,A D 0,A D 0],M [.str nm,A D d,A D px,A D py,A D ln,I c,A D lo,A D hi,A D e,A D f,A D mx,A D rs,A D h,A D co,A D i],A D b,A D b,A D l] (P 1 0 []):=ALa (fn:=iF g wW) Bu rfl [.r (I fl),Y,.r (I a),bT,bT,bT,bT,bT] (EQ m (AKg c1) n (AKj c2) EJ EJ EJ EJ)
theorem Abz(i j:Int)(a fl:Bool)(nm:ByteArray)(b px py ln lo hi c d mx rs e co f h k:Int)(c1:fl=false)(l:RQ 154 [M [.str nm,A D b,A D px,A D py,A D ln,I a,A D lo,A D hi,A D c,A D d,A D mx,A D rs,A D e,A D co,A D f]] (I fl)):RQ 79 [M [A D i,A D j,A D 0,A D 0,A D 0,A D 0],M [.str nm,A D b,A D px,A D py,A D ln,I a,A D lo,A D hi,A D c,A D d,A D mx,A D rs,A D e,A D co,A D f],A D h,A D h,A D k] (P 1 0 []):=ALa (fn:=iF g wW) Bu rfl [.r (I fl),bT,bT,bT,bT,bT,bT] (Gs l (AKj c1) EJ EJ EJ EJ EJ)
def Qh:ICode:=Ca Tx 84 62612
section
variable(l:S1)(i:Int)(o b:Bool)(k:Int)
def HT:H:=V 8 (Ab (I o)::Ab (E (C l) (T2 l))::vi i::Ab (I b)::vi k::V 63 [])
theorem A5d(a:Cx)(c1:G (k<(C (L l (J i) []):Int))=true)(c2:b=true)(c3:G ((C a:Int)>0)=true)(c:0<=i/\i<C l)(d:0<=k/\k<(C (L l (J i) []):Int))(e:0<=(0:Int)/\(0:Int)<(C a:Int))(f:RQ 152 [y v (L (L l (J i) []) (J k) [])] (P 2 (C a) (v a)))(g:RQ 153 [Dh (L a (J 0) z0)] (A D (Gi (t (L a (J 0) z0))))):Aa Qh (HT l i o b k) .norm (HT l i o (G (Gi (t (L a (J 0) z0))>0)) (O D (k+1))):=B Bu [.v (y pp (L l (J i) [])),bT,.v (y pp (L l (J i) [])),.v (y v (L (L l (J i) []) (J k) [])),.r (P 2 (C a) (v a)),bT,bT,.v (Dh (L a (J 0) z0)),.r (A D (Gi (t (L a (J 0) z0))))] Pt (Ec c (Iy c) c1 c (Iy c) d (UM d) f (Fh c2 c3 e (I8 e) g))
theorem A5e(a:Cx)(c1:G (k<(C (L l (J i) []):Int))=true)(c2:b=true)(c3:G ((C a:Int)>0)=false)(c:0<=i/\i<C l)(d:0<=k/\k<(C (L l (J i) []):Int))(e:RQ 152 [y v (L (L l (J i) []) (J k) [])] (P 2 (C a) (v a))):Aa Qh (HT l i o b k) .norm (HT l i o false (O D (k+1))):=B Bu [.v (y pp (L l (J i) [])),bT,.v (y pp (L l (J i) [])),.v (y v (L (L l (J i) []) (J k) [])),.r (P 2 (C a) (v a)),bT,Y] Pt (Fm c (Iy c) c1 c (Iy c) d (UM d) e c2 c3)
theorem A5f(a:Cx)(c1:G (k<(C (L l (J i) []):Int))=true)(c2:b=false)(c:0<=i/\i<C l)(d:0<=k/\k<(C (L l (J i) []):Int))(e:RQ 152 [y v (L (L l (J i) []) (J k) [])] (P 2 (C a) (v a))):Aa Qh (HT l i o b k) .norm (HT l i o false (O D (k+1))):=B Bu [.v (y pp (L l (J i) [])),bT,.v (y pp (L l (J i) [])),.v (y v (L (L l (J i) []) (J k) [])),.r (P 2 (C a) (v a)),Y,Y] Pt (Fm c (Iy c) c1 c (Iy c) d (UM d) e c2 iY)
theorem A5g(c1:G (k<(C (L l (J i) []):Int))=false)(c:0<=i/\i<C l):Aa Qh (HT l i o b k) xZ2 (HT l i o b k):=B Bu [.v (y pp (L l (J i) [])),Y] Pt (Fa c (Iy c) c1)
end
def dV:ICode:=Ca Tx 92 244
section
variable(l:S1)(i:Int)(o:Bool)
def LZ:H:=V 8 (Ab (I o)::Ab (E (C l) (T2 l))::vi i::V 65 [])
theorem AAg(b:Bool)(k:Int)(c1:G (i<C l)=true)(c2:b=true)(a:Aa (.loop Qh) (HT l i o true 0) xZ2 (HT l i o b k)):Aa dV (LZ l i o) .ret (LZ l i true):=N (B (t:=V 8 (Ab (I o)::Ab (E (C l) (T2 l))::vi i::V 65 [])) Bu [bT] AKn (Bc c1)) (m (AG (BS (N (B Bu [] Pt a0) (N (A0 a) (B Bu [bT] AKn (Bc c2)))))))
theorem AAh(b:Bool)(k:Int)(c1:G (i<C l)=true)(c2:b=false)(a:Aa (.loop Qh) (HT l i o true 0) xZ2 (HT l i o b k)):Aa dV (LZ l i o) .norm (LZ l (O D (i+1)) o):=N (B (t:=V 8 (Ab (I o)::Ab (E (C l) (T2 l))::vi i::V 65 [])) Bu [bT] AKn (Bc c1)) (N (x (BS (N (B Bu [] Pt a0) (N (A0 a) (B (t:=V 8 (Ab (I o)::Ab (E (C l) (T2 l))::vi i::V 65 [])) Bu [Y] AKn (Bc c2)))))) (B Bu [] AKn a0))
theorem AAi(c1:G (i<C l)=false):Aa dV (LZ l i o) xZ0 (LZ l i o):=m (B Bu [Y] AKn (Bc c1))
end
section
variable(a b:Int)(e:Bool)(nm:ByteArray)(f px py ln lo hi g h mx rs j co k d l:Int)
theorem Ain(c1:G (a<(-2097152))=true):RQ 67 [M [A D a,A D b],M [.str nm,A D f,A D px,A D py,A D ln,I e,A D lo,A D hi,A D g,A D h,A D mx,A D rs,A D j,A D co,A D k],A D d,A D l] (I false):=K4 Tx (V 8 (Ab (I false)::V 67 [])) (BU (BU (BS (m (B Bu [bT,bT,bT,bT] [8] (Fk c1 EJ EJ EJ))))))
theorem Aio(c1:G (a<(-2097152))=false)(c2:G (a>2097152)=true):RQ 67 [M [A D a,A D b],M [.str nm,A D f,A D px,A D py,A D ln,I e,A D lo,A D hi,A D g,A D h,A D mx,A D rs,A D j,A D co,A D k],A D d,A D l] (I false):=K4 Tx (V 8 (Ab (I false)::V 67 [])) (BU (BU (BS (m (B Bu [Y,bT,bT,bT] [8] (Fk c1 c2 EJ EJ))))))
theorem Aip(c1:G (a<(-2097152))=false)(c2:G (a>2097152)=false)(c3:G (b<(-2097152))=true):RQ 67 [M [A D a,A D b],M [.str nm,A D f,A D px,A D py,A D ln,I e,A D lo,A D hi,A D g,A D h,A D mx,A D rs,A D j,A D co,A D k],A D d,A D l] (I false):=K4 Tx (V 8 (Ab (I false)::V 67 [])) (BU (BU (BS (m (B Bu [Y,Y,bT,bT] [8] (Fk c1 c2 c3 EJ))))))
theorem Aiq(c1:G (a<(-2097152))=false)(c2:G (a>2097152)=false)(c3:G (b<(-2097152))=false)(c4:G (b>2097152)=true):RQ 67 [M [A D a,A D b],M [.str nm,A D f,A D px,A D py,A D ln,I e,A D lo,A D hi,A D g,A D h,A D mx,A D rs,A D j,A D co,A D k],A D d,A D l] (I false):=K4 Tx (V 8 (Ab (I false)::V 67 [])) (BU (BU (BS (m (B Bu [Y,Y,Y,bT] [8] (Fk c1 c2 c3 c4))))))
theorem Air(c:S1)(i:Int)(c1:G (a<(-2097152))=false)(c2:G (a>2097152)=false)(c3:G (b<(-2097152))=false)(c4:G (b>2097152)=false)(n:RQ 151 [M [A D a,A D b]] (M [A D a,A D b,A D 0,A D 0,A D 0,A D 0]))(o:RQ 79 [M [A D a,A D b,A D 0,A D 0,A D 0,A D 0],M [.str nm,A D f,A D px,A D py,A D ln,I e,A D lo,A D hi,A D g,A D h,A D mx,A D rs,A D j,A D co,A D k],A D d,A D d,A D l] (P 1 (C c) (T2 c)))(p:Aa (.loop dV) (LZ c 0 false) xZ0 (LZ c i false)):RQ 67 [M [A D a,A D b],M [.str nm,A D f,A D px,A D py,A D ln,I e,A D lo,A D hi,A D g,A D h,A D mx,A D rs,A D j,A D co,A D k],A D d,A D l] (I false):=K4 Tx (V 8 (Ab (I false)::V 67 [])) (BU (BU (BS (N (B Bu [Y,Y,Y,Y,.r (M [A D a,A D b,A D 0,A D 0,A D 0,A D 0]),.r (P 1 (C c) (T2 c))] AKn (EP c1 c2 c3 c4 n o)) (N (A0 p) (B Bu [] [8] a0))))))
theorem Ais(c:S1)(i:Int)(c1:G (a<(-2097152))=false)(c2:G (a>2097152)=false)(c3:G (b<(-2097152))=false)(c4:G (b>2097152)=false)(n:RQ 151 [M [A D a,A D b]] (M [A D a,A D b,A D 0,A D 0,A D 0,A D 0]))(o:RQ 79 [M [A D a,A D b,A D 0,A D 0,A D 0,A D 0],M [.str nm,A D f,A D px,A D py,A D ln,I e,A D lo,A D hi,A D g,A D h,A D mx,A D rs,A D j,A D co,A D k],A D d,A D d,A D l] (P 1 (C c) (T2 c)))(p:Aa (.loop dV) (LZ c 0 false) .ret (LZ c i true)):RQ 67 [M [A D a,A D b],M [.str nm,A D f,A D px,A D py,A D ln,I e,A D lo,A D hi,A D g,A D h,A D mx,A D rs,A D j,A D co,A D k],A D d,A D l] (I true):=K4 Tx (V 8 (Ab (I true)::Ab (E (C c) (T2 c))::vi i::V 65 [])) (BU (BU (BS (N (B Bu [Y,Y,Y,Y,.r (M [A D a,A D b,A D 0,A D 0,A D 0,A D 0]),.r (P 1 (C c) (T2 c))] AKn (EP c1 c2 c3 c4 n o)) (m (AG p))))))
end
def kp(c:Int):LI:=if c=0 then [] else [c]
def kR(c:Int):Cx:=(kp c).map cn
theorem JU(c x:Int):B0 (kp c) x=c:=by
 unfold kp;split
 next h=>rw[h];rfl
 ·simp[B0]
theorem Aca(c:Int):l (kp c)=kp c:=by
 unfold kp;split
 ·rfl
 next h=>show CN (if c=0 then Cw [c] 0 else 1) [c]=[c];rw[Al h];rfl
theorem dW{p:LI}{c:Int}(a:l p=p)(h:∀ x,B0 p x=c):p=kp c:=by
 rw[<- a,<- Aca c];exact S3 fun x=>by rw[h,JU]
theorem Jf(c:Int):vals (kR c)=kp c:=xE _
theorem JV{K:Nat}{c:Int}(h:CP K c):∀ r∈kR c,EB K r:=lR (fun x a=>by
 unfold kp at a;split at a
 ·cases a
 ·rw[AP.1 a];exact h)
theorem L'(c:Int):C (kR c)<=1:=by
 unfold kR kp;split <;> simp
theorem Acb{f:Nat}{xs:u}{p:LI}{c:Int}(h:RQ f xs (P 2 (C p) (pk p)))(e:p=kp c):RQ f xs (P 2 (C (kR c)) (v (kR c))):=by
 subst e;have a:C (kR c)=C (kp c):=Bz _;rw[a];exact h
section
variable{J K:Nat}{a b:Int}
theorem Oh(c:CP J a)(hb:CP K b)(h:J+K<1000):CP (J+K+1) (a+b)/\RQ 170 [y v (kR a),y v (kR b)] (P 2 (C (kR (a+b))) (v (kR (a+b)))):=by
 have d:=L' a;have e:=L' b;exact⟨(c.mono (k:=J+K) (by omega)).add (hb.mono (by omega)),Acb (dT (K:=J+K) (JV (c.mono (by omega))) (JV (hb.mono (by omega))) (by omega) (by omega) (by omega)) (dW (Sz _ _) fun x=>by rw[LH,Jf,Jf,JU,JU])⟩
theorem Ha(c:CP J a)(hb:CP K b)(h:J+K<1000):CP (J+K+1) (a-b)/\RQ 172 [y v (kR a),y v (kR b)] (P 2 (C (kR (a-b))) (v (kR (a-b)))):=by
 have d:=L' a;have e:=L' b;exact⟨Int.sub_eq_add_neg ▸ (c.mono (k:=J+K) (by omega)).add (hb.neg.mono (by omega)),Acb (Abv (K:=J+K) (JV (c.mono (by omega))) (JV (hb.mono (by omega))) (by omega) (by omega) (by omega)) (dW (Sz _ _) fun x=>by rw[xP,Jf,Jf,JU,JU])⟩
theorem GM(c:CP J a)(hb:CP K b)(h:J+K<1000):CP (J+K) (a*b)/\RQ 173 [y v (kR a),y v (kR b)] (P 2 (C (kR (a*b))) (v (kR (a*b)))):=by
 have d:=L' a;have e:=L' b;exact⟨c.mul hb,Acb (Abw (K:=J+K) (JV (c.mono (by omega))) (JV (hb.mono (by omega))) (by omega) (by omega)) (dW (S4 _ _) fun x=>by rw[P2,Jf,Jf,JU,JU])⟩
end
theorem kneg{J:Nat}{a:Int}(b:CP J a)(h:J<1000):CP J (-a)/\RQ 178 [y v (kR a)] (P 2 (C (kR (-a))) (v (kR (-a)))):=by
 have c:=L' a;exact⟨b.neg,Acb (mM (JV (b.mono (by omega))) (by omega)) (dW (NU _) fun x=>by rw[Pw,Pz,Jf,JU])⟩
theorem kof{xs:LI}{a:Int}(d : -9223372036854775808<=a/\a<=9223372036854775807)(b:xs=[a]\/xs=[a,0]\/xs=[a,0,0]):RQ 175 [E (C xs) (li xs)] (P 2 (C (kR a)) (v (kR a))):=by
 have hb:∀ x∈xs,-9223372036854775808<=x/\x<=9223372036854775807:=by
  intro x c;rcases b with rfl | rfl | rfl <;> simp only[Aw,A3,or_false] at c <;> omega
 have hl:C xs<=1000:=by rcases b with rfl | rfl | rfl <;> simp
 have e:l xs=kp a:=dW (NU _) fun x=>by
  rw[Pw];rcases b with rfl | rfl | rfl <;> simp[B0]
 have:=Atn hb hl;rw[e] at this;exact this
theorem dX{a:Int}(b : -9223372036854775808<=a/\a<=9223372036854775807):CP 2 a/\RQ 175 [E 1 [A D a]] (P 2 (C (kR a)) (v (kR a))):=⟨E2 b,kof (xs:=[a]) b (.inl rfl)⟩
theorem AFc{a:Int}(b : -9223372036854775808<=a/\a<=9223372036854775807):CP 2 a/\RQ 175 [E 2 [A D a,A D 0]] (P 2 (C (kR a)) (v (kR a))):=⟨E2 b,kof (xs:=[a,0]) b (.inr (.inl rfl))⟩
theorem AFd{a:Int}(b : -9223372036854775808<=a/\a<=9223372036854775807):CP 2 a/\RQ 175 [E 3 [A D a,A D 0,A D 0]] (P 2 (C (kR a)) (v (kR a))):=⟨E2 b,kof (xs:=[a,0,0]) b (.inr (.inr rfl))⟩
def Lu(p:Cx):Bool:=decide (0<L (vals p) 0 0)
theorem dY(c:Int):Lu (kR c)=decide (0<c):=by
 unfold Lu;rw[Jf];unfold kp;split
 next h=>rw[h];rfl
 ·rfl
theorem A5h(c:Int):decide (Gi c>0)=decide (0<c):=by
 rw[decide_eq_decide];unfold Gi; (repeat' split) <;> omega
theorem AAj{l:S1}{i:Nat}(hi:i<C l)(j:∀ p∈L l i [],∃ c,p=kR c/\CP 900 c)(hn:C (L l i [])<=1000)(o:Bool) :
  Aa (.loop Qh) (HT l (i:Nat) o true 0) xZ2 (HT l (i:Nat) o ((L l i []).all Lu) (C (L l i []):Nat)):=by
 have m:=S0 (prog:=CQ) (c:=Qh) (ex := .exit 2) (fin:=HT l (i:Nat) o ((L l i []).all Lu) (C (L l i []):Nat))
  (fun k=>HT l (i:Nat) o (((L l i []).take k).all Lu) (k:Nat)) (C (L l i [])) (by nofun) ?_ ?_ 0 (B_ _)
 ·exact m
 ·intro k d;have e:O D (k+1)=((k+1:Nat):Int):=wrz
  have n:L (L l i []) k []∈L l i []:=by
   rw[Z (l:=L l i []),Af d];exact AF _
  obtain⟨c,h,hf⟩:=j _ n;have q:((L l i []).take (k+1)).all Lu=(((L l i []).take k).all Lu&&decide (0<c)):=by
   rw[<- dY c,<- h,Ald d,List.all_append,Z (l:=L l i []),Af d];simp
  simp only[q];have s:=L' c;have f:RQ 152 [y v (L (L l (J i) []) (J k) [])] (P 2 (C (kR c)) (v (kR c))):=by
   simp only[Aq];rw[h];exact Acb (Lt (JV (hf.mono (by omega))) (by omega)) (by rw[Jf,Aca])
  have h1:decide ((k:Int)<(C (L l (J i) []):Int))=true:=by simp only[Aq,DI];omega
  have h2:0<=(i:Int)/\(i:Int)<(C l:Int):=by omega
  have g:0<=(k:Int)/\(k:Int)<(C (L l (J i) []):Int):=by simp only[Aq];omega
  cases hb:((L l i []).take k).all Lu with
  | true =>
   by_cases h0:c=0
   ·have a:=A5e l (i:Nat) o true (k:Nat) (kR c) h1 rfl (by rw[h0];rfl) h2 g f;rw[e] at a;rw[h0];exact a
   ·have b:kR c=[cn c]:=by unfold kR kp;rw[Al h0];rfl
    have hs:=dP (neg:=(cn c).1) (xs:=(cn c).2) (KV hf).1 (AA (KV hf).2 (by decide));have a:=A5d l (i:Nat) o true (k:Nat) (kR c) h1 rfl (by rw[b];rfl) h2 g (by rw[b];simp) f (by rw[b];exact hs);have r:t (L (kR c) (J 0) z0)=c:=by rw[b];exact MZ c
    rw[e,r,A5h] at a;exact a
  | false =>
   have a:=A5f l (i:Nat) o false (k:Nat) (kR c) h1 rfl h2 g f;rw[e] at a;exact a
 ·have a:=A5g l (i:Nat) o ((L l i []).all Lu) (C (L l i []):Nat) (by simp only[Aq];simp) (by omega);simp only[nI];exact a
theorem Att{l:S1}(g:∀ ps∈l,C ps<=1000/\∀ p∈ps,∃ c,p=kR c/\CP 900 c)(hn:C l<=1000):∀ (r i:Nat),i+r=C l ->
  ((l.drop i).any (fun ps=>ps.all Lu)=true/\∃ a:Int,Aa (.loop dV) (LZ l (i:Nat) false) .ret (LZ l a true)) \/
  ((l.drop i).any (fun ps=>ps.all Lu)=false/\∃ a:Int,Aa (.loop dV) (LZ l (i:Nat) false) xZ0 (LZ l a false)):=by
 intro r;induction r with
 | zero =>
  intro i hi;refine .inr ⟨by rw[Mq (by omega)];rfl,_,f (AAi l (i:Nat) false (by simp;omega))⟩
 | succ r j =>
  intro i hi;have b:i<C l:=by omega
  have hd:l.drop i=L l i []::l.drop (i+1):=by
   rw[ET b,Z,Af b];rfl
  have h:L l i []∈l:=by rw[Z,Af b];exact AF _
  have hin:=AAj b (g _ h).2 (g _ h).1 false;rw[hd,Q3];cases hb:(L l i []).all Lu with
  | true =>
   rw[hb] at hin;exact .inl ⟨rfl,_,f (AAg l (i:Nat) false true _ (by simp;omega) rfl hin)⟩
  | false =>
   rw[hb] at hin;have d:=AAh l (i:Nat) false false _ (by simp;omega) rfl hin;rw[show O D (i+1)=((i+1:Nat):Int) by rw[wqz];omega] at d;rcases j (i+1) (by omega) with ⟨e,a,q⟩ | ⟨e,a,q⟩
   ·exact .inl ⟨by rw[e];rfl,a,AB d q⟩
   ·exact .inr ⟨by rw[e];rfl,a,AB d q⟩
def mz(p1 p2:Int):AV := M [A D p1,A D p2,A D 0,A D 0,A D 0,A D 0]
theorem QW{p1 p2:Int}(h:In 2097152 p1 p2):RQ 99 [mz p1 p2] (I true):=by
 have a:=AAf p1 p2 0 0 0 0;have e:Uc p1 p2 0 0 0 0=true:=by
  unfold In at h;unfold Uc KA;rw[A' (n:=0-8388608) (by omega) (by omega)];rw[o (show p1>=0-8388608 by omega),o (show p1<=8388608 by omega),o (show p2>=0-8388608 by omega),o (show p2<=8388608 by omega)];rfl
 rw[e] at a;exact a
section
variable {p1 p2 px py:Int} (hp:In 2097152 p1 p2) (hc:In 1048576 px py)
include hp hc
theorem Acd:(CP 5 (p1-px)/\CP 5 (p2-py))/\RQ 169 [mz p1 p2,M [A D px,A D py]] (Hm [y v (kR (p1-px)),y v (kR (p2-py))]):=by
 have b:=QW hp;unfold In at hp hc;obtain⟨c,d⟩:=AFd (a:=p1) (by omega);obtain⟨e,f⟩:=AFd (a:=p2) (by omega);obtain⟨g,h⟩:=dX (a:=px) (by omega);obtain⟨i,j⟩:=dX (a:=py) (by omega);obtain⟨k,l⟩:=Ha c g (by decide);obtain⟨m,n⟩:=Ha e i (by decide);exact⟨⟨k,m⟩,Atq p1 p2 px py _ _ _ _ _ _ (Atp p1 p2 _ _ b d f) h l j n⟩
end
theorem Gg{K:Nat}{a n:Int}(b:CP K a)(hn : -9223372036854775808<=n/\n<=9223372036854775807)(h:K<900):CP (K+2) (a*n)/\RQ 171 [y v (kR a),A D n] (P 2 (C (kR (a*n))) (v (kR (a*n)))):=by
 obtain⟨c,d⟩:=dX (a:=n) hn;obtain⟨e,f⟩:=GM b c (by omega);exact⟨e,Atr n _ _ _ d f⟩
theorem dZ{J K:Nat}{a b:Int}(c:CP J a)(hb:CP K b)(h:J+K<400):CP (J+J+(K+K)+1) (a*a+b*b)/\RQ 177 [y v (kR a),y v (kR b)] (P 2 (C (kR (a*a+b*b))) (v (kR (a*a+b*b)))):=by
 obtain⟨d,e⟩:=GM c c (by omega);obtain⟨f,g⟩:=GM hb hb (by omega);obtain⟨i,j⟩:=Oh d f (by omega);exact⟨i,Ats _ _ _ _ _ e g j⟩
theorem Ait{b m:Int}(a:0<m)(h:b*b<m*m) : -m<b/\b<m:=by
 refine⟨Int.not_le.1 fun g => ?_,Int.not_le.1 fun g => ?_⟩
 ·have:=J4 (show m <= -b by omega) (show m <= -b by omega) (by omega) (by omega);rw[Aep] at this;omega
 ·have:=J4 g g (by omega) (by omega);omega
theorem Aiu{x y c s n L R:Int}(i:c*c+s*s=n*n)(hn:0<n)(l:1<=L)(m:1<=R) :
  (if x*c+y*s<=0 then decide (x*x+y*y<R*R) else if x*c+y*s>=L*n then decide (n*(x*x+y*y+L*L-R*R)<2*L*(x*c+y*s))
   else decide (max (c*y-s*x) (-(c*y-s*x))<R*n)) =
  (G (x*x+y*y<R*R) || (G (0<n*((R*R-L*L)-(x*x+y*y))+2*L*(x*c+y*s)) ||
   (G (0<x*c+y*s)&&(G (0<L*n-(x*c+y*s))&&(G (0<R*n-(c*y-s*x))&&decide (0<R*n+(c*y-s*x))))))):=by
 have o:(x*c+y*s)*(x*c+y*s)+(c*y-s*x)*(c*y-s*x)=(x*x+y*y)*(n*n):=by rw[<- i];grind
 generalize x*c+y*s=a at *
 generalize c*y-s*x=b at *
 generalize x*x+y*y=S at *
 rw[Bool.eq_iff_iff];split
 ·rename_i d;simp only[CD,U,DI];constructor
  ·intro h;exact Or.inl h
  ·rintro (h | h | h)
   ·exact h
   ·have h2:=C' d (show 0<=2*L by omega);have f:0<n*(R*R-L*L-S):=by omega
    have p:0<R*R-L*L-S:=Int.pos_of_mul_pos_right f (by omega);have q:=Fq (show 0<L by omega) (show 0<L by omega);omega
   ·omega
 ·split
  ·rename_i d hb;have r:n*(S+L*L-R*R) = -(n*(R*R-L*L-S)):=by grind
   simp only[CD,U,DI];constructor
   ·intro h;right;left;omega
   ·rintro (h | h | h)
    ·have h1:=Fq hn (show 0<R*R-S by omega);have h2:=C' hb (show 0<=2*L by omega);have f:=Fq (Fq (show 0<L by omega) (show 0<L by omega)) hn;have j:2*L*(L*n)=2*(L*L*n):=by grind
     have t:n*(S+L*L-R*R)=L*L*n-n*(R*R-S):=by grind
     omega
    ·omega
    ·omega
  ·rename_i d hb;have k:0<R*n:=Fq (by omega) hn;have g:b*b<(R*n)*(R*n)->max b (-b)<R*n:=fun h=>by
    have:=Ait k h;omega
   simp only[CD,U,DI];constructor
   ·intro h;right;right;omega
   ·rintro (h | h | h)
    ·apply g;have h1:=Fq (show 0<R*R-S by omega) (Fq hn hn);have h2:=Fq (show 0<a by omega) (show 0<a by omega);have e:(R*R-S)*(n*n)=R*n*(R*n)-S*(n*n):=by grind
     omega
    ·apply g;have h1:=Fq hn h;have h2:=Fq (show 0<L*n-a by omega) (show 0<L*n-a by omega);have e:n*(n*(R*R-L*L-S)+2*L*a)=R*n*(R*n)-S*(n*n)-(L*n*(L*n)-2*(L*n*a)):=by grind
     have j:(L*n-a)*(L*n-a)=L*n*(L*n)-2*(L*n*a)+a*a:=by grind
     omega
    ·omega
theorem sqnn(y:Int):0<=y*y:=dM y
theorem sqle{x n:Int}(h : -n<=x/\x<=n):x*x<=n*n:=dN h
theorem Nr{lo hi x:Int}(h:C8 lo hi x=true):lo<=x/\x<=hi:=by simpa [C8] using h
theorem QX{lo hi x:Int}(h:lo<=x/\x<=hi):C8 lo hi x=true:=by simpa [C8] using h
theorem eA(n a b:Int):BK n a b=C8 a b n:=by
 unfold BK C8;rw[Bool.eq_iff_iff];simp only[U,DI];repeat' split
 all_goals (simp_all <;> omega)
theorem Aiv(x y:Int):BH x y 1048576=(C8 (-1048576) 1048576 x&&C8 (-1048576) 1048576 y):=by
 unfold BH;rw[eA,eA,wqz];cases h:C8 (-1048576) 1048576 x <;> simp[h]
theorem Vp(px py ln lo hi a b mx:Int):Y_ px py ln lo hi a b mx=GX px py ln lo hi a b mx:=by
 unfold Y_ GX;simp only[Aiv,eA];repeat' split
 all_goals (simp_all <;> omega)
theorem Vq{px py ln lo hi a b mx:Int}(h:GX px py ln lo hi a b mx=true):In 1048576 px py/\1<=ln/\ln<=262144:=by
 unfold GX at h;simp only[U] at h;have h1:=Nr h.1.1.1.1.1.1.1.1.1;have h2:=Nr h.1.1.1.1.1.1.1.1.2;have c:=Nr h.1.1.1.1.1.1.1.2;unfold In;omega
theorem rJ{k:Int}(h : -256<=k/\k<=256):0<=k*k/\k*k<=65536:=⟨sqnn k,sqle (n:=256) h⟩
theorem A5i{k:Int}(a:Bool)(d : -256<=k/\k<=256):Cp a k 256=((if a then -(65536-k*k) else 65536-k*k),512*k,65536+k*k):=by
 have:=rJ d;unfold Cp;have b:O D (256*256)=65536:=rfl;have c:O D (2*256)=512:=rfl;cases a
 ·simp only[b,c,A' (n:=k*k) (by omega) (by omega),A' (n:=65536-k*k) (by omega) (by omega),A' (n:=512*k) (by omega) (by omega),A' (n:=65536+k*k) (by omega) (by omega)];rfl
 ·simp only[b,c,A' (n:=k*k) (by omega) (by omega),A' (n:=65536-k*k) (by omega) (by omega),A' (n:=512*k) (by omega) (by omega),A' (n:=65536+k*k) (by omega) (by omega),A' (n:=0-(65536-k*k)) (by omega) (by omega)];rw[N5];rfl
def QY(x y c s n L R:Int):Bool:=decide (x*x+y*y<R*R) || (G (0<n*((R*R-L*L)-(x*x+y*y))+2*L*(x*c+y*s)) ||
   (G (0<x*c+y*s)&&(G (0<L*n-(x*c+y*s))&&(G (0<R*n-(c*y-s*x))&&decide (0<R*n+(c*y-s*x))))))
def Ns(a:Bool)(k:Int):Int:=if a then -(65536-k*k) else 65536-k*k
theorem jW{e f px py ln lo hi r s mx k R:Int}(d:Bool)(t:GX px py ln lo hi r s mx=true)(j : -256<=k/\k<=256)(u:1<=R/\R<=524288)(l:In 2097152 e f) :
  JP e f px py ln d lo hi r s mx k R=QY (e-px) (f-py) (Ns d k) (512*k) (65536+k*k) ln R:=by
 have hb:=Vq t;have q:=rJ j;unfold JP;have h1:In 3145728 (e-px) (f-py):=In.sub l hb.1 (by decide);have w:=l;unfold In at w;rw[t,QX j,QX u,QX (lo := -2097152) (hi:=2097152) (x:=e) (by omega),QX (lo := -2097152) (hi:=2097152) (x:=f) (by omega),A5i d j,No (l.mono (by decide)) (hb.1.mono (by decide))];have z:Ns d k*Ns d k+512*k*(512*k)=(65536+k*k)*(65536+k*k):=by unfold Ns;split <;> grind
 unfold QY;rw[<- Aiu z (by omega) hb.2.1 u.1];have hc : -65536<=Ns d k/\Ns d k<=65536:=by unfold Ns;split <;> omega
 rw[show (if d=true then -(65536-k*k) else 65536-k*k)=Ns d k from rfl];generalize Ns d k=c at *
 generalize e-px=a at *
 generalize f-py=b at *
 have hn:65536<=65536+k*k/\65536+k*k<=131072:=by omega
 generalize 65536+k*k=n at *
 dsimp only [E8];have v:In 1073741824 c (512*k):=by unfold In;omega
 have g:=h1.mono (m:=1073741824) (by decide);rw[Lr g v,Lr g g,SA v g];unfold In at h1;have B:=Fc (x:=c) (y:=b) (p:=65536) (q:=3145728) (by omega) (by omega) (by omega) (by omega);have C:=Fc (x:=512*k) (y:=a) (p:=131072) (q:=3145728) (by omega) (by omega) (by omega) (by omega);have D:=Fc (x:=a) (y:=c) (p:=3145728) (q:=65536) (by omega) (by omega) (by omega) (by omega);have E:=Fc (x:=b) (y:=512*k) (p:=3145728) (q:=131072) (by omega) (by omega) (by omega) (by omega);have F:=Fc (x:=a) (y:=a) (p:=3145728) (q:=3145728) (by omega) (by omega) (by omega) (by omega);have G:=Fc (x:=b) (y:=b) (p:=3145728) (q:=3145728) (by omega) (by omega) (by omega) (by omega);have H:=Fc (x:=R) (y:=R) (p:=524288) (q:=524288) (by omega) (by omega) (by omega) (by omega);have I:=Fc (x:=ln) (y:=ln) (p:=262144) (q:=262144) (by omega) (by omega) (by omega) (by omega);have J:=Fc (x:=ln) (y:=n) (p:=262144) (q:=131072) (by omega) (by omega) (by omega) (by omega);have K:=Fc (x:=R) (y:=n) (p:=524288) (q:=131072) (by omega) (by omega) (by omega) (by omega);have L:=Fc (x:=n) (y:=a*a+b*b+ln*ln-R*R) (p:=131072) (q:=20134806683648) (by omega) (by omega) (by omega) (by omega);have M:=Fc (x:=2*ln) (y:=a*c+b*(512*k)) (p:=524288) (q:=618475290624) (by omega) (by omega) (by omega) (by omega);rw[A' (n:=R*R) (by omega) (by omega),A' (n:=ln*ln) (by omega) (by omega),A' (n:=ln*n) (by omega) (by omega),A' (n:=R*n) (by omega) (by omega),A' (n:=a*a+b*b+ln*ln) (by omega) (by omega),
  A' (n:=a*a+b*b+ln*ln-R*R) (by omega) (by omega),A' (n:=n*(a*a+b*b+ln*ln-R*R)) (by omega) (by omega),A' (n:=2*ln) (by omega) (by omega),A' (n:=2*ln*(a*c+b*(512*k))) (by omega) (by omega),A' (n:=0-(c*b-512*k*a)) (by omega) (by omega)]
 have A:(if 0-(c*b-512*k*a)>c*b-512*k*a then 0-(c*b-512*k*a) else c*b-512*k*a)=max (c*b-512*k*a) (-(c*b-512*k*a)):=by split <;> omega
 rw[A];simp only[E8];by_cases h:a*c+b*(512*k)<=0
 ·rw[Ae h,o h]
 ·rw[Al h,As h];by_cases i:a*c+b*(512*k)>=ln*n
  ·rw[Ae i,o i]
  ·rw[Al i,As i]
theorem mN(x y c k n L R:Int):(G (0<R*R-(x*x+y*y)) || (G (0<n*(R*R-L*L)+(x*c+y*(k*512))*(2*L)-(x*x+y*y)*n) || (G (0<x*c+y*(k*512))&&(G (0<n*L-(x*c+y*(k*512)))&&(G (0<n*R-(y*c-x*(k*512)))&&decide (0<n*R+(y*c-x*(k*512))))))))=QY x y c (512*k) n L R:=by
 unfold QY;rw[Hc k 512];have a:n*(R*R-L*L)+(x*c+y*(512*k))*(2*L)-(x*x+y*y)*n=n*((R*R-L*L)-(x*x+y*y))+2*L*(x*c+y*(512*k)):=by grind
 rw[a,Hc n L,Hc n R,Hc y c,Hc x (512*k)];congr 1;rw[decide_eq_decide];omega
theorem rK(k:Int):PA k=C8 (-256) 256 k:=by
 unfold PA C8;by_cases h1:k >= -256
 ·rw[o h1];rfl
 ·rw[As h1];rfl
theorem QZ{l:S1}(v:∀ ps∈l,C ps<=1000/\∀ p∈ps,∃ c,p=kR c/\CP 900 c)(hn:C l<=1000){a b:Int}{d:Bool}{nm:ByteArray}{f px py ln lo hi g j mx rs m co n k R:Int}(o:In 2097152 a b)
  (h:RQ 79 [mz a b,M [.str nm,A D f,A D px,A D py,A D ln,I d,A D lo,A D hi,A D g,A D j,A D mx,A D rs,A D m,A D co,A D n],A D k,A D k,A D R] (P 1 (C l) (T2 l))) :
  RQ 67 [M [A D a,A D b],M [.str nm,A D f,A D px,A D py,A D ln,I d,A D lo,A D hi,A D g,A D j,A D mx,A D rs,A D m,A D co,A D n],A D k,A D R] (I (l.any fun ps=>ps.all Lu)):=by
 have hs:RQ 151 [M [A D a,A D b]] (mz a b):=Ato a b (QW o);unfold In at o;have r:decide (a < -2097152)=false:=As (by omega);have s:decide (a>2097152)=false:=As (by omega);have t:decide (b < -2097152)=false:=As (by omega);have u:decide (b>2097152)=false:=As (by omega);rcases Att v hn (C l) 0 (by omega) with ⟨e,i,q⟩ | ⟨e,i,q⟩
 ·have e:(l.any fun ps=>ps.all Lu)=true:=e;rw[e];exact Ais a b d nm f px py ln lo hi g j mx rs m co n k R l i r s t u hs h q
 ·have e:(l.any fun ps=>ps.all Lu)=false:=e;rw[e];exact Air a b d nm f px py ln lo hi g j mx rs m co n k R l i r s t u hs h q
theorem Ace{b c:Int}{nm:ByteArray}{h px py ln lo hi f g mx rs i co j k R:Int}(m:In 2097152 b c)(d:GX px py ln lo hi f g mx=true)(t : -256<=k/\k<=256)(hR:1<=R/\R<=524288) :
  RQ 67 [M [A D b,A D c],M [.str nm,A D h,A D px,A D py,A D ln,I false,A D lo,A D hi,A D f,A D g,A D mx,A D rs,A D i,A D co,A D j],A D k,A D R] (I (QY (b-px) (c-py) (Ns false k) (512*k) (65536+k*k) ln R)):=by
 have hb:=Vq d;have q:=rJ t;have u:=P8 nm h px py ln false lo hi f g mx rs i co j;rw[Vp,d] at u;have v:=T9 k;rw[rK,QX t] at v;have b7:=Fc (x:=R) (y:=R) (p:=524288) (q:=524288) (by omega) (by omega) (by omega) (by omega);have b8:=Fc (x:=ln) (y:=ln) (p:=262144) (q:=262144) (by omega) (by omega) (by omega) (by omega);have w0:O D (k-k)=0:=by rw[AHk];rfl
 have w:O D (R*R)=R*R:=A' (by omega) (by omega);have K:O D (R*R-O D (ln*ln))=R*R-ln*ln:=by rw[A' (n:=ln*ln) (by omega) (by omega),wqz]
 have L:O D (2*ln)=2*ln:=A' (by omega) (by omega);obtain⟨o,N⟩:=AFc (a:=k) (by omega);obtain⟨z,P⟩:=GM o o (by decide);obtain⟨B,Q⟩:=dX (a:=65536) (by omega);obtain⟨C,S⟩:=Ha B z (by decide);obtain⟨E,u8⟩:=Gg (n:=512) o (by omega) (by decide);obtain⟨fn,T⟩:=Oh B z (by decide);obtain⟨⟨fx,r⟩,U⟩:=Acd m hb.1;obtain⟨V,W⟩:=GM fx C (by decide);obtain⟨X,Y⟩:=GM r E (by decide);obtain⟨s,Z⟩:=Oh V X (by decide);obtain⟨a1,a2⟩:=GM r C (by decide);obtain⟨a3,a4⟩:=GM fx E (by decide);obtain⟨F,u16⟩:=Ha a1 a3 (by decide);obtain⟨G,a5⟩:=dZ fx r (by decide);obtain⟨H,a6⟩:=Gg (n:=R) fn (by omega) (by decide);obtain⟨fl,a7⟩:=Gg (n:=ln) fn (by omega) (by decide);obtain⟨a8,a9⟩:=dX (a:=R*R) (by omega);obtain⟨b0,b1⟩:=Ha a8 G (by decide);obtain⟨b2,b3⟩:=Gg (n:=R*R-ln*ln) fn (by omega) (by decide);obtain⟨b4,b5⟩:=Gg (n:=2*ln) s (by omega) (by decide);obtain⟨b6,b9⟩:=Oh b2 b4 (by decide);obtain⟨c0,c1⟩:=GM G fn (by decide);obtain⟨c2,c3⟩:=Ha b6 c0 (by decide);obtain⟨c4,c5⟩:=Ha fl s (by decide);obtain⟨c6,c7⟩:=Ha H F (by decide);obtain⟨c8,c9⟩:=Oh H F (by decide);have hc:=Xc b c nm h px py ln lo hi f g mx rs i co j k R _ _ _ _ _ _ _ _ _ _ _ _ _ _ _ _ _ _ _ _ _ _ _ _ _ _ _ (As (by omega)) (As (by omega)) u v (QW m) (by rw[w0];exact N) P Q S u8 T U W Y Z a2 a4 u16 a5 a6 a7 (by rw[w];exact a9) b1 (by rw[w,K];exact b3) (by rw[L];exact b5) b9 c1 c3 c5 c7 c9;have hr:=QZ (l:=[[kR (R*R-((b-px)*(b-px)+(c-py)*(c-py)))],[kR ((65536+k*k)*(R*R-ln*ln)+((b-px)*(65536-k*k)+(c-py)*(k*512))*(2*ln)-((b-px)*(b-px)+(c-py)*(c-py))*(65536+k*k))],
  [kR ((b-px)*(65536-k*k)+(c-py)*(k*512)),kR ((65536+k*k)*ln-((b-px)*(65536-k*k)+(c-py)*(k*512))),kR ((65536+k*k)*R-((c-py)*(65536-k*k)-(b-px)*(k*512))),kR ((65536+k*k)*R+((c-py)*(65536-k*k)-(b-px)*(k*512)))]]) ?_ (by simp) m hc
 ·have e:Ns false k=(65536-k*k):=rfl;rw[e,<- mN];simp only[Q3,AFe,F7,Oi,dY,D5,AAk] at hr;exact hr
 ·intro ps J;simp only[Aw,A3,or_false] at J;rcases J with rfl | rfl | rfl
  ·exact⟨by simp,fun p d=>⟨_,AP.1 d,b0.mono (by decide)⟩⟩
  ·exact⟨by simp,fun p d=>⟨_,AP.1 d,c2.mono (by decide)⟩⟩
  ·refine⟨by simp,fun p d => ?_⟩;simp only[Aw,A3,or_false] at d;rcases d with rfl | rfl | rfl | rfl
   ·exact⟨_,rfl,s.mono (by decide)⟩
   ·exact⟨_,rfl,c4.mono (by decide)⟩
   ·exact⟨_,rfl,c6.mono (by decide)⟩
   ·exact⟨_,rfl,c8.mono (by decide)⟩
theorem Aiw{b c:Int}{nm:ByteArray}{h px py ln lo hi f g mx rs i co j k R:Int}(m:In 2097152 b c)(d:GX px py ln lo hi f g mx=true)(t : -256<=k/\k<=256)(hR:1<=R/\R<=524288) :
  RQ 67 [M [A D b,A D c],M [.str nm,A D h,A D px,A D py,A D ln,I true,A D lo,A D hi,A D f,A D g,A D mx,A D rs,A D i,A D co,A D j],A D k,A D R] (I (QY (b-px) (c-py) (Ns true k) (512*k) (65536+k*k) ln R)):=by
 have hb:=Vq d;have q:=rJ t;have u:=P8 nm h px py ln true lo hi f g mx rs i co j;rw[Vp,d] at u;have v:=T9 k;rw[rK,QX t] at v;have b7:=Fc (x:=R) (y:=R) (p:=524288) (q:=524288) (by omega) (by omega) (by omega) (by omega);have b8:=Fc (x:=ln) (y:=ln) (p:=262144) (q:=262144) (by omega) (by omega) (by omega) (by omega);have w0:O D (k-k)=0:=by rw[AHk];rfl
 have w:O D (R*R)=R*R:=A' (by omega) (by omega);have K:O D (R*R-O D (ln*ln))=R*R-ln*ln:=by rw[A' (n:=ln*ln) (by omega) (by omega),wqz]
 have L:O D (2*ln)=2*ln:=A' (by omega) (by omega);obtain⟨o,N⟩:=AFc (a:=k) (by omega);obtain⟨z,P⟩:=GM o o (by decide);obtain⟨B,Q⟩:=dX (a:=65536) (by omega);obtain⟨S,T⟩:=Ha B z (by decide);obtain⟨C,u8⟩:=Gg (n:=512) o (by omega) (by decide);obtain⟨E,un⟩:=kneg S (by decide);obtain⟨fn,U⟩:=Oh B z (by decide);obtain⟨⟨fx,r⟩,V⟩:=Acd m hb.1;obtain⟨W,X⟩:=GM fx E (by decide);obtain⟨Y,Z⟩:=GM r C (by decide);obtain⟨s,a1⟩:=Oh W Y (by decide);obtain⟨a2,a3⟩:=GM r E (by decide);obtain⟨a4,a5⟩:=GM fx C (by decide);obtain⟨F,u16⟩:=Ha a2 a4 (by decide);obtain⟨G,a6⟩:=dZ fx r (by decide);obtain⟨H,a7⟩:=Gg (n:=R) fn (by omega) (by decide);obtain⟨fl,a8⟩:=Gg (n:=ln) fn (by omega) (by decide);obtain⟨a9,b0⟩:=dX (a:=R*R) (by omega);obtain⟨b1,b2⟩:=Ha a9 G (by decide);obtain⟨b3,b4⟩:=Gg (n:=R*R-ln*ln) fn (by omega) (by decide);obtain⟨b5,b6⟩:=Gg (n:=2*ln) s (by omega) (by decide);obtain⟨b9,c0⟩:=Oh b3 b5 (by decide);obtain⟨c1,c2⟩:=GM G fn (by decide);obtain⟨c3,c4⟩:=Ha b9 c1 (by decide);obtain⟨c5,c6⟩:=Ha fl s (by decide);obtain⟨c7,c8⟩:=Ha H F (by decide);obtain⟨c9,d0⟩:=Oh H F (by decide);have hc:=dU b c nm h px py ln lo hi f g mx rs i co j k R _ _ _ _ _ _ _ _ _ _ _ _ _ _ _ _ _ _ _ _ _ _ _ _ _ _ _ _ (As (by omega)) (As (by omega)) u v (QW m) (by rw[w0];exact N) P Q T u8 un U V X Z a1 a3 a5 u16 a6 a7 a8 (by rw[w];exact b0) b2 (by rw[w,K];exact b4) (by rw[L];exact b6) c0 c2 c4 c6 c8 d0;have hr:=QZ (l:=[[kR (R*R-((b-px)*(b-px)+(c-py)*(c-py)))],[kR ((65536+k*k)*(R*R-ln*ln)+((b-px)*(-(65536-k*k))+(c-py)*(k*512))*(2*ln)-((b-px)*(b-px)+(c-py)*(c-py))*(65536+k*k))],
  [kR ((b-px)*(-(65536-k*k))+(c-py)*(k*512)),kR ((65536+k*k)*ln-((b-px)*(-(65536-k*k))+(c-py)*(k*512))),kR ((65536+k*k)*R-((c-py)*(-(65536-k*k))-(b-px)*(k*512))),kR ((65536+k*k)*R+((c-py)*(-(65536-k*k))-(b-px)*(k*512)))]]) ?_ (by simp) m hc
 ·have e:Ns true k=(-(65536-k*k)):=rfl;rw[e,<- mN];simp only[Q3,AFe,F7,Oi,dY,D5,AAk] at hr;exact hr
 ·intro ps J;simp only[Aw,A3,or_false] at J;rcases J with rfl | rfl | rfl
  ·exact⟨by simp,fun p d=>⟨_,AP.1 d,b1.mono (by decide)⟩⟩
  ·exact⟨by simp,fun p d=>⟨_,AP.1 d,c3.mono (by decide)⟩⟩
  ·refine⟨by simp,fun p d => ?_⟩;simp only[Aw,A3,or_false] at d;rcases d with rfl | rfl | rfl | rfl
   ·exact⟨_,rfl,s.mono (by decide)⟩
   ·exact⟨_,rfl,c5.mono (by decide)⟩
   ·exact⟨_,rfl,c7.mono (by decide)⟩
   ·exact⟨_,rfl,c9.mono (by decide)⟩
theorem Qi{c d px py ln:Int}{e:Bool}{lo hi a b mx k R:Int}(h:GX px py ln lo hi a b mx=false\/C8 (-256) 256 k=false\/(C8 (-2097152) 2097152 c&&C8 (-2097152) 2097152 d)=false):JP c d px py ln e lo hi a b mx k R=false:=by
 unfold JP;rcases h with h | h | h
 ·rw[h];rfl
 ·rw[h,Fe]
 ·rw[h];cases (GX px py ln lo hi a b mx&&C8 (-256) 256 k)
  ·rfl
  ·cases C8 1 524288 R <;> rfl
theorem Acf(a d:Int)(nm:ByteArray)(g px py ln:Int)(b:Bool)(lo hi e f mx rs i co j k:Int){R:Int}(s:1<=R/\R<=524288) :
  RQ 67 [M [A D a,A D d],M [.str nm,A D g,A D px,A D py,A D ln,I b,A D lo,A D hi,A D e,A D f,A D mx,A D rs,A D i,A D co,A D j],A D k,A D R] (I (JP a d px py ln b lo hi e f mx k R)):=by
 by_cases m:In 2097152 a d
 ·have x:∀ {ps:List Cx},ps∈([]:S1)->C ps<=1000/\∀ p∈ps,∃ c,p=kR c/\CP 900 c:=fun h=>by cases h
  have q:=P8 nm g px py ln b lo hi e f mx rs i co j;rw[Vp] at q;have t:=T9 k;rw[rK] at t;cases n:GX px py ln lo hi e f mx
  ·rw[Qi (.inl n)];rw[n] at q;exact QZ (l:=[]) (fun ps h=>x h) (by decide) m (Abz a d b false nm g px py ln lo hi e f mx rs i co j k R rfl q)
  ·rw[n] at q;cases u:C8 (-256) 256 k
   ·rw[Qi (.inr (.inl u))];rw[u] at t;exact QZ (l:=[]) (fun ps h=>x h) (by decide) m (Aby a d b true false nm g px py ln lo hi e f mx rs i co j k R rfl rfl q t)
   ·have v:=Nr u;rw[jW b n v s m];cases b
    ·exact Ace m n v s
    ·exact Aiw m n v s
 ·rw[Qi (.inr (.inr (by
   rw[Bool.eq_false_iff];intro h;rw[U] at h;have h1:=Nr h.1;have h2:=Nr h.2;exact m (by unfold In;omega))))]
  by_cases r:a < -2097152
  ·exact Ain a d b nm g px py ln lo hi e f mx rs i co j k R (o r)
  ·by_cases w:a>2097152
   ·exact Aio a d b nm g px py ln lo hi e f mx rs i co j k R (As r) (o w)
   ·by_cases y:d < -2097152
    ·exact Aip a d b nm g px py ln lo hi e f mx rs i co j k R (As r) (As w) (o y)
    ·exact Aiq a d b nm g px py ln lo hi e f mx rs i co j k R (As r) (As w) (As y) (o (by unfold In at m;omega))
theorem SD{t:Tbl}(a:TOk t)(s:St)(px py:Int):Alike t s px py:=by
 have hr:=a.r0;refine⟨fun e _=>Ahx px py (e.n 2) (e.n 3) (e.n 4) (e.n 5) t.r0,fun e _=>Aia px py e.s (e.n 0) (e.n 1) (e.n 2) (e.n 3) (e.n 4) (e.n 5) (e.n 6) (e.n 7) (e.n 8) (e.n 9) (e.n 10) t.r0,fun e _=>W6 px py (e.n 1) (e.n 2) _,
  fun e _ x _=>⟨_,Amf px py e.s (e.n 0) (e.n 1) (e.n 2) (e.n 3) e.b (e.n 4) (e.n 5) (e.n 6) (e.n 7) (e.n 8) (e.n 9) (e.n 10) (e.n 11) (e.n 12) x t.r0,Acf px py e.s (e.n 0) (e.n 1) (e.n 2) (e.n 3) e.b (e.n 4) (e.n 5) (e.n 6) (e.n 7) (e.n 8) (e.n 9) (e.n 10) (e.n 11) (e.n 12) x (by omega)⟩,fun e _ => ?_⟩
 rw[A' (n:=2*t.r0) (by omega) (by omega)];exact Abh (by omega) (by omega)
theorem a:Be CQ []:=Be.nil _
theorem ir49:CQ 49=some (iF g Pn):=by kernel_rfl
theorem GQ(lo hi:Int)(xs:LI)(h:Dq (C xs) 1000=true:=by rfl):RQ 49 [A D lo,A D hi,E (C xs) (F cI xs)] (I (r lo hi xs)):=Cr ir49 xs (Ap h)
section
variable(x lo hi:Int)
theorem Atx(c1:G (x>=lo)=true):RQ 52 [A D x,A D lo,A D hi] (I (G (x<=hi))):=ALa (fn:=iF g Axu) a rfl [bT] (Bc c1)
theorem Aty(c1:G (x>=lo)=false):RQ 52 [A D x,A D lo,A D hi] (I false):=ALa (fn:=iF g Axu) a rfl [Y] (Bc c1)
theorem I3:RQ 52 [A D x,A D lo,A D hi] (I (r lo hi [x])):=by
 have e:r lo hi [x]=(G (x>=lo)&&decide (x<=hi)):=by
  simp only[r,F7,Oi,D5];by_cases h1:x>=lo <;> by_cases h2:x<=hi <;> simp[h1,h2] <;> omega
 rw[e];cases c1:decide (x>=lo)
 ·exact Aty x lo hi c1
 ·exact Atx x lo hi c1
end
theorem Aiz(x y m:Int)(c1:r (O D (0-m)) m [x]=true):RQ 132 [M [A D x,A D y],A D m] (I (r (O D (0-m)) m [y])):=ALa (fn:=iF g Afw) a rfl [.r (I (r (O D (0-m)) m [x])),bT,.r (I (r (O D (0-m)) m [y]))] (Fa (I3 x (O D (0-m)) m) c1 (I3 y (O D (0-m)) m))
theorem Aja(x y m:Int)(c1:r (O D (0-m)) m [x]=false):RQ 132 [M [A D x,A D y],A D m] (I false):=ALa (fn:=iF g Afw) a rfl [.r (I (r (O D (0-m)) m [x])),Y] (Gd (I3 x (O D (0-m)) m) c1)
theorem Rl(x y m:Int)(a:0<=m/\m<=4611686018427387904):RQ 132 [M [A D x,A D y],A D m] (I (r (-m) m [x,y])):=by
 have e:r (-m) m [x,y]=(r (-m) m [x]&&r (-m) m [y]):=by simp only[r,F7,Oi,D5]
 have w:O D (0-m) = -m:=by rw[A' (n:=0-m) (by omega) (by omega)];omega
 rw[e];cases c1:r (-m) m [x]
 ·exact Aja x y m (by rw[w];exact c1)
 ·have h:=Aiz x y m (by rw[w];exact c1);rw[w] at h;exact h
section
variable(t:Tbl)
theorem Atz(e:El)(c1:(e.n 0==0)=true):RQ 51 [M t.cs,M (cB e)] (I (e.n 0==0&&(e.n 1==0&&(e.n 2==0&&(e.n 3==0&&(e.n 4==0&&(e.n 5==0&&(e.n 6==0&&true)))))))):=ALa (fn:=iF g Aeo) a rfl [bT] (Bc c1)
theorem Aua(e:El)(c1:(e.n 0==0)=false)(c2:r 0 3 [e.n 2]=true)(c3:r (-1048576) 1048576 [e.n 3,e.n 4]=true)(c4:r (-131072) 131072 [e.n 5,e.n 6]=true)(b:(e.n 0==1)=true):RQ 51 [M t.cs,M (cB e)] (I (e.n 1==0)):=ALa (fn:=iF g Aeo) a rfl [Y,.r (I (r 0 3 [e.n 2])),Y,.r (I (r (-1048576) 1048576 [e.n 3,e.n 4])),Y,.r (I (r (-131072) 131072 [e.n 5,e.n 6])),Y,bT] (EQ c1 (GQ 0 3 [e.n 2]) (AKg c2) (GQ (-1048576) 1048576 [e.n 3,e.n 4]) (AKg c3) (GQ (-131072) 131072 [e.n 5,e.n 6]) (AKg c4) b)
theorem Aub(e f:El)(h:Bool)(c1:(e.n 0==0)=false)(c2:r 0 3 [e.n 2]=true)(c3:r (-1048576) 1048576 [e.n 3,e.n 4]=true)(c4:r (-131072) 131072 [e.n 5,e.n 6]=true)(b:(e.n 0==1)=false)(c:(e.n 0==2)=true)(d:r 0 (O D (C t.sa-1)) [e.n 1]=true)(k:(e.n 5==0&&(e.n 6==0&&true))=true)(l:(f.n 0==e.n 2)=true)(i:0<=e.n 1/\e.n 1<(C t.sa:Int))(j:Ad (R (J (e.n 1)*10) (F AN t.sa)) 0 10 false=some (M (AN f)))(m:RQ 62 [M [A D (e.n 3),A D (e.n 4)],M [A D (f.n 1),A D (f.n 2)],A D (f.n 3)] (I h)):RQ 51 [M t.cs,M (cB e)] (I h):=ALa (fn:=iF g Aeo) a rfl [Y,.r (I (r 0 3 [e.n 2])),Y,.r (I (r (-1048576) 1048576 [e.n 3,e.n 4])),Y,.r (I (r (-131072) 131072 [e.n 5,e.n 6])),Y,Y,bT,.r (I (r 0 (O D (C t.sa-1)) [e.n 1])),Y,Y,.v (M (AN f)),bT,.r (I h)] (Ec c1 (GQ 0 3 [e.n 2]) (AKg c2) (GQ (-1048576) 1048576 [e.n 3,e.n 4]) (AKg c3) (GQ (-131072) 131072 [e.n 5,e.n 6]) (AKg c4) b (EQ c (GQ 0 (O D (C t.sa-1)) [e.n 1]) (AKg d) (AKg k) i j l m))
theorem Auc(e f:El)(c1:(e.n 0==0)=false)(c2:r 0 3 [e.n 2]=true)(c3:r (-1048576) 1048576 [e.n 3,e.n 4]=true)(c4:r (-131072) 131072 [e.n 5,e.n 6]=true)(b:(e.n 0==1)=false)(c:(e.n 0==2)=true)(d:r 0 (O D (C t.sa-1)) [e.n 1]=true)(k:(e.n 5==0&&(e.n 6==0&&true))=true)(l:(f.n 0==e.n 2)=false)(i:0<=e.n 1/\e.n 1<(C t.sa:Int))(j:Ad (R (J (e.n 1)*10) (F AN t.sa)) 0 10 false=some (M (AN f))):RQ 51 [M t.cs,M (cB e)] (I false):=ALa (fn:=iF g Aeo) a rfl [Y,.r (I (r 0 3 [e.n 2])),Y,.r (I (r (-1048576) 1048576 [e.n 3,e.n 4])),Y,.r (I (r (-131072) 131072 [e.n 5,e.n 6])),Y,Y,bT,.r (I (r 0 (O D (C t.sa-1)) [e.n 1])),Y,Y,.v (M (AN f)),Y] (Ec c1 (GQ 0 3 [e.n 2]) (AKg c2) (GQ (-1048576) 1048576 [e.n 3,e.n 4]) (AKg c3) (GQ (-131072) 131072 [e.n 5,e.n 6]) (AKg c4) b (Gs c (GQ 0 (O D (C t.sa-1)) [e.n 1]) (AKg d) (AKg k) i j l))
theorem mP(e:El)(c1:(e.n 0==0)=false)(c2:r 0 3 [e.n 2]=true)(c3:r (-1048576) 1048576 [e.n 3,e.n 4]=true)(c4:r (-131072) 131072 [e.n 5,e.n 6]=true)(b:(e.n 0==1)=false)(c:(e.n 0==2)=true)(d:r 0 (O D (C t.sa-1)) [e.n 1]=true)(k:(e.n 5==0&&(e.n 6==0&&true))=false):RQ 51 [M t.cs,M (cB e)] (I false):=ALa (fn:=iF g Aeo) a rfl [Y,.r (I (r 0 3 [e.n 2])),Y,.r (I (r (-1048576) 1048576 [e.n 3,e.n 4])),Y,.r (I (r (-131072) 131072 [e.n 5,e.n 6])),Y,Y,bT,.r (I (r 0 (O D (C t.sa-1)) [e.n 1])),Y,bT] (Em c1 (GQ 0 3 [e.n 2]) (AKg c2) (GQ (-1048576) 1048576 [e.n 3,e.n 4]) (AKg c3) (GQ (-131072) 131072 [e.n 5,e.n 6]) (AKg c4) b c (GQ 0 (O D (C t.sa-1)) [e.n 1]) (AKg d) (AKj k))
theorem Aud(e:El)(c1:(e.n 0==0)=false)(c2:r 0 3 [e.n 2]=true)(c3:r (-1048576) 1048576 [e.n 3,e.n 4]=true)(c4:r (-131072) 131072 [e.n 5,e.n 6]=true)(b:(e.n 0==1)=false)(c:(e.n 0==2)=true)(d:r 0 (O D (C t.sa-1)) [e.n 1]=false):RQ 51 [M t.cs,M (cB e)] (I false):=ALa (fn:=iF g Aeo) a rfl [Y,.r (I (r 0 3 [e.n 2])),Y,.r (I (r (-1048576) 1048576 [e.n 3,e.n 4])),Y,.r (I (r (-131072) 131072 [e.n 5,e.n 6])),Y,Y,bT,.r (I (r 0 (O D (C t.sa-1)) [e.n 1])),bT,bT] (Em c1 (GQ 0 3 [e.n 2]) (AKg c2) (GQ (-1048576) 1048576 [e.n 3,e.n 4]) (AKg c3) (GQ (-131072) 131072 [e.n 5,e.n 6]) (AKg c4) b c (GQ 0 (O D (C t.sa-1)) [e.n 1]) (AKj d) EJ)
theorem Aue(e:El)(c1:(e.n 0==0)=false)(c2:r 0 3 [e.n 2]=true)(c3:r (-1048576) 1048576 [e.n 3,e.n 4]=true)(c4:r (-131072) 131072 [e.n 5,e.n 6]=true)(b:(e.n 0==1)=false)(c:(e.n 0==2)=false):RQ 51 [M t.cs,M (cB e)] (I false):=ALa (fn:=iF g Aeo) a rfl [Y,.r (I (r 0 3 [e.n 2])),Y,.r (I (r (-1048576) 1048576 [e.n 3,e.n 4])),Y,.r (I (r (-131072) 131072 [e.n 5,e.n 6])),Y,Y,Y] (K0 c1 (GQ 0 3 [e.n 2]) (AKg c2) (GQ (-1048576) 1048576 [e.n 3,e.n 4]) (AKg c3) (GQ (-131072) 131072 [e.n 5,e.n 6]) (AKg c4) b c)
theorem Nw(e:El)(c1:(e.n 0==0)=false)(c2:r 0 3 [e.n 2]=true)(c3:r (-1048576) 1048576 [e.n 3,e.n 4]=true)(c4:r (-131072) 131072 [e.n 5,e.n 6]=false):RQ 51 [M t.cs,M (cB e)] (I false):=ALa (fn:=iF g Aeo) a rfl [Y,.r (I (r 0 3 [e.n 2])),Y,.r (I (r (-1048576) 1048576 [e.n 3,e.n 4])),Y,.r (I (r (-131072) 131072 [e.n 5,e.n 6])),bT] (Gs c1 (GQ 0 3 [e.n 2]) (AKg c2) (GQ (-1048576) 1048576 [e.n 3,e.n 4]) (AKg c3) (GQ (-131072) 131072 [e.n 5,e.n 6]) (AKj c4))
theorem Nx(e:El)(c1:(e.n 0==0)=false)(c2:r 0 3 [e.n 2]=true)(c3:r (-1048576) 1048576 [e.n 3,e.n 4]=false):RQ 51 [M t.cs,M (cB e)] (I false):=ALa (fn:=iF g Aeo) a rfl [Y,.r (I (r 0 3 [e.n 2])),Y,.r (I (r (-1048576) 1048576 [e.n 3,e.n 4])),bT,bT] (EP c1 (GQ 0 3 [e.n 2]) (AKg c2) (GQ (-1048576) 1048576 [e.n 3,e.n 4]) (AKj c3) EJ)
theorem Ol(e:El)(c1:(e.n 0==0)=false)(c2:r 0 3 [e.n 2]=false):RQ 51 [M t.cs,M (cB e)] (I false):=ALa (fn:=iF g Aeo) a rfl [Y,.r (I (r 0 3 [e.n 2])),bT,bT,bT] (Fh c1 (GQ 0 3 [e.n 2]) (AKj c2) EJ EJ)
theorem Auf(e:El)(c1:(e.n 0==0)=true):RQ 53 [M t.cs,M (cB e)] (I (e.n 0==0&&(e.n 1==0&&(e.n 2==0&&(e.n 3==0&&(e.n 4==0&&(e.n 5==0&&(e.n 6==0&&true)))))))):=ALa (fn:=iF g OA) a rfl [bT] (Bc c1)
theorem mQ(e:El)(c1:(e.n 0==0)=false)(c2:(e.n 0==1)=true)(c3:(e.n 1==0)=true)(c4:r 0 3 [e.n 2]=true)(b:r (-1048576) 1048576 [e.n 3,e.n 4]=true):RQ 53 [M t.cs,M (cB e)] (I (r (-131072) 131072 [e.n 5,e.n 6])):=ALa (fn:=iF g OA) a rfl [Y,bT,bT,.r (I (r 0 3 [e.n 2])),bT,.r (I (r (-1048576) 1048576 [e.n 3,e.n 4])),bT,.r (I (r (-131072) 131072 [e.n 5,e.n 6]))] (EQ c1 c2 c3 (I3 (e.n 2) 0 3) c4 (Rl (e.n 3) (e.n 4) 1048576 (by decide)) b (Rl (e.n 5) (e.n 6) 131072 (by decide)))
theorem Aug(e:El)(c1:(e.n 0==0)=false)(c2:(e.n 0==1)=true)(c3:(e.n 1==0)=true)(c4:r 0 3 [e.n 2]=true)(b:r (-1048576) 1048576 [e.n 3,e.n 4]=false):RQ 53 [M t.cs,M (cB e)] (I false):=ALa (fn:=iF g OA) a rfl [Y,bT,bT,.r (I (r 0 3 [e.n 2])),bT,.r (I (r (-1048576) 1048576 [e.n 3,e.n 4])),Y] (Gs c1 c2 c3 (I3 (e.n 2) 0 3) c4 (Rl (e.n 3) (e.n 4) 1048576 (by decide)) b)
theorem Auh(e:El)(c1:(e.n 0==0)=false)(c2:(e.n 0==1)=true)(c3:(e.n 1==0)=true)(c4:r 0 3 [e.n 2]=false):RQ 53 [M t.cs,M (cB e)] (I false):=ALa (fn:=iF g OA) a rfl [Y,bT,bT,.r (I (r 0 3 [e.n 2])),Y,Y] (EP c1 c2 c3 (I3 (e.n 2) 0 3) c4 iY)
theorem Rm(e:El)(c1:(e.n 0==0)=false)(c2:(e.n 0==1)=true)(c3:(e.n 1==0)=false):RQ 53 [M t.cs,M (cB e)] (I false):=ALa (fn:=iF g OA) a rfl [Y,bT,Y,Y,Y] (Fh c1 c2 c3 iY iY)
theorem Aui(e f:El)(h:Bool)(c1:(e.n 0==0)=false)(c2:(e.n 0==1)=false)(c3:(e.n 0==2)=true)(c4:r 0 (O D (C t.sa-1)) [e.n 1]=true)(b:(e.n 5==0&&(e.n 6==0&&true))=true)(c:r (-1048576) 1048576 [e.n 3,e.n 4]=true)(d:(f.n 0==e.n 2)=true)(i:0<=e.n 1/\e.n 1<(C t.sa:Int))(j:Ad (R (J (e.n 1)*10) (F AN t.sa)) 0 10 false=some (M (AN f)))(m:RQ 66 [M [A D (e.n 3),A D (e.n 4)],M [A D (f.n 1),A D (f.n 2)],A D (f.n 3)] (I h)):RQ 53 [M t.cs,M (cB e)] (I h):=ALa (fn:=iF g OA) a rfl [Y,Y,bT,.r (I (r 0 (O D (C t.sa-1)) [e.n 1])),Y,Y,.r (I (r (-1048576) 1048576 [e.n 3,e.n 4])),Y,.v (M (AN f)),bT,.r (I h)] (Em c1 c2 c3 (I3 (e.n 1) 0 (O D (C t.sa-1))) (AKg c4) (AKg b) (Rl (e.n 3) (e.n 4) 1048576 (by decide)) (AKg c) i j d m)
theorem Auj(e f:El)(c1:(e.n 0==0)=false)(c2:(e.n 0==1)=false)(c3:(e.n 0==2)=true)(c4:r 0 (O D (C t.sa-1)) [e.n 1]=true)(b:(e.n 5==0&&(e.n 6==0&&true))=true)(c:r (-1048576) 1048576 [e.n 3,e.n 4]=true)(d:(f.n 0==e.n 2)=false)(i:0<=e.n 1/\e.n 1<(C t.sa:Int))(j:Ad (R (J (e.n 1)*10) (F AN t.sa)) 0 10 false=some (M (AN f))):RQ 53 [M t.cs,M (cB e)] (I false):=ALa (fn:=iF g OA) a rfl [Y,Y,bT,.r (I (r 0 (O D (C t.sa-1)) [e.n 1])),Y,Y,.r (I (r (-1048576) 1048576 [e.n 3,e.n 4])),Y,.v (M (AN f)),Y] (G3 c1 c2 c3 (I3 (e.n 1) 0 (O D (C t.sa-1))) (AKg c4) (AKg b) (Rl (e.n 3) (e.n 4) 1048576 (by decide)) (AKg c) i j d)
theorem mR(e:El)(c1:(e.n 0==0)=false)(c2:(e.n 0==1)=false)(c3:(e.n 0==2)=true)(c4:r 0 (O D (C t.sa-1)) [e.n 1]=true)(b:(e.n 5==0&&(e.n 6==0&&true))=true)(c:r (-1048576) 1048576 [e.n 3,e.n 4]=false):RQ 53 [M t.cs,M (cB e)] (I false):=ALa (fn:=iF g OA) a rfl [Y,Y,bT,.r (I (r 0 (O D (C t.sa-1)) [e.n 1])),Y,Y,.r (I (r (-1048576) 1048576 [e.n 3,e.n 4])),bT] (EQ c1 c2 c3 (I3 (e.n 1) 0 (O D (C t.sa-1))) (AKg c4) (AKg b) (Rl (e.n 3) (e.n 4) 1048576 (by decide)) (AKj c))
theorem Vr(e:El)(c1:(e.n 0==0)=false)(c2:(e.n 0==1)=false)(c3:(e.n 0==2)=true)(c4:r 0 (O D (C t.sa-1)) [e.n 1]=true)(b:(e.n 5==0&&(e.n 6==0&&true))=false):RQ 53 [M t.cs,M (cB e)] (I false):=ALa (fn:=iF g OA) a rfl [Y,Y,bT,.r (I (r 0 (O D (C t.sa-1)) [e.n 1])),Y,bT,bT] (Gs c1 c2 c3 (I3 (e.n 1) 0 (O D (C t.sa-1))) (AKg c4) (AKj b) EJ)
theorem Ajb(e:El)(c1:(e.n 0==0)=false)(c2:(e.n 0==1)=false)(c3:(e.n 0==2)=true)(c4:r 0 (O D (C t.sa-1)) [e.n 1]=false):RQ 53 [M t.cs,M (cB e)] (I false):=ALa (fn:=iF g OA) a rfl [Y,Y,bT,.r (I (r 0 (O D (C t.sa-1)) [e.n 1])),bT,bT,bT] (Gs c1 c2 c3 (I3 (e.n 1) 0 (O D (C t.sa-1))) (AKj c4) EJ EJ)
theorem Ajc(e:El)(c1:(e.n 0==0)=false)(c2:(e.n 0==1)=false)(c3:(e.n 0==2)=false):RQ 53 [M t.cs,M (cB e)] (I false):=ALa (fn:=iF g OA) a rfl [Y,Y,Y] (Fa c1 c2 c3)
def sC(s:St):H:=V 2 (T t.cs::T s.cs::V 65 [])
end
def SE(z:Bool):H:=V 4 (Ab (I z)::V 64 [])
def A6e:ICode := .region false (i (Ca lM 98 2))
theorem Ajd(t:Tbl)(s:St)   : Aa A6e (CL (iF g lM) [M t.cs,M s.cs]) .norm (sC t s):=B a [] [2,3] a0
def JJ(t:Tbl)(s:St)(i:Int):H:=V 2 (T t.cs::T s.cs::V 6 (Ab (E (C t.fl) (F cF t.fl))::vi (C t.fl:Int)::vi i::V 56 []))
def Aoi:ICode := .region false (i (Ca lM 96 12))
theorem W8(t:Tbl)(s:St)   : Aa Aoi (sC t s) .norm (JJ t s 0):=B a [] [2,3,10,11,12] a0
def Ro:ICode:=Ca lM 94 52
section
variable(t:Tbl)(s:St)(i:Int)
theorem fN(e:El)(x y:Int)(c1:G (i<C t.fl)=true)(c2:r (e.n 4) (e.n 5) [x]=true)(c3:r (O D (0-(e.n 8))) (e.n 8) [y]=true)(b:0<=i/\i<C t.fl)(c:0<=i/\i<C s.ks)(d:0<=i/\i<C s.ss)(f:At cF 15 t.fl i e)(g:A1 cI s.ks i (A D x))(h:A1 cI s.ss i (A D y)):Aa Ro (JJ t s i) .norm (JJ t s (O D (i+1))):=B a [bT,.v (M (cF e)),.v (A D x),.r (I (r (e.n 4) (e.n 5) [x])),Y,.v (A D y),.r (I (r (O D (0-(e.n 8))) (e.n 8) [y])),Y] [2,3,10,11,12] (G3 c1 b f c g (GQ (e.n 4) (e.n 5) [x]) (AKg c2) d h (GQ (O D (0-(e.n 8))) (e.n 8) [y]) (AKg c3))
theorem fO(e:El)(x y:Int)(c1:G (i<C t.fl)=true)(c2:r (e.n 4) (e.n 5) [x]=true)(c3:r (O D (0-(e.n 8))) (e.n 8) [y]=false)(b:0<=i/\i<C t.fl)(c:0<=i/\i<C s.ks)(d:0<=i/\i<C s.ss)(f:At cF 15 t.fl i e)(g:A1 cI s.ks i (A D x))(h:A1 cI s.ss i (A D y)):Aa Ro (JJ t s i) .ret (SE false):=B a [bT,.v (M (cF e)),.v (A D x),.r (I (r (e.n 4) (e.n 5) [x])),Y,.v (A D y),.r (I (r (O D (0-(e.n 8))) (e.n 8) [y])),bT] [4] (G3 c1 b f c g (GQ (e.n 4) (e.n 5) [x]) (AKg c2) d h (GQ (O D (0-(e.n 8))) (e.n 8) [y]) (AKj c3))
theorem fP(e:El)(x:Int)(c1:G (i<C t.fl)=true)(c2:r (e.n 4) (e.n 5) [x]=false)(b:0<=i/\i<C t.fl)(c:0<=i/\i<C s.ks)(d:At cF 15 t.fl i e)(f:A1 cI s.ks i (A D x)):Aa Ro (JJ t s i) .ret (SE false):=B a [bT,.v (M (cF e)),.v (A D x),.r (I (r (e.n 4) (e.n 5) [x])),bT,bT] [4] (EQ c1 b d c f (GQ (e.n 4) (e.n 5) [x]) (AKj c2) EJ)
theorem fQ(c1:G (i<C t.fl)=false):Aa Ro (JJ t s i) xZ0 (JJ t s i):=B a [Y] [2,3,10,11,12] (Bc c1)
def HE:H:=V 2 (T t.cs::T s.cs::V 42 (Ab (E (C t.ws) (F cW t.ws))::vi (C t.ws:Int)::vi i::V 20 []))
end
def Aoj:ICode := .region false (i (Ca lM 95 28))
theorem W9(t:Tbl)(s:St)   : Aa Aoj (sC t s) .norm (HE t s 0):=B a [] Y2 a0
def Om:ICode:=Ca lM 93 116
section
variable(t:Tbl)(s:St)(i:Int)(av:Bool)(e:El)
theorem fR(c1:G (i<C t.ws)=true)(c2:av=true)(c3:((e.n 0) != 2)=true)(c4:((e.n 0) != 3)=true)(b:0<=i/\i<C t.ws)(c:0<=i/\i<C s.az)(d:At cW 13 t.ws i e)(f:A1 cO s.az i (I av)):Aa Om (HE t s i) .ret (SE false):=B a [bT,.v (M (cW e)),.v (I av),bT,bT,bT] [4] (EQ c1 b d c f c2 c3 c4)
theorem fS(c1:G (i<C t.ws)=true)(c2:av=true)(c3:((e.n 0) != 2)=true)(c4:((e.n 0) != 3)=false)(b:0<=i/\i<C t.ws)(c:0<=i/\i<C s.az)(d:At cW 13 t.ws i e)(f:A1 cO s.az i (I av)):Aa Om (HE t s i) .norm (HE t s (O D (i+1))):=B a [bT,.v (M (cW e)),.v (I av),bT,bT,Y] Y2 (EQ c1 b d c f c2 c3 c4)
theorem fT(c1:G (i<C t.ws)=true)(c2:av=true)(c3:((e.n 0) != 2)=false)(b:0<=i/\i<C t.ws)(c:0<=i/\i<C s.az)(d:At cW 13 t.ws i e)(f:A1 cO s.az i (I av)):Aa Om (HE t s i) .norm (HE t s (O D (i+1))):=B a [bT,.v (M (cW e)),.v (I av),bT,Y,Y] Y2 (EQ c1 b d c f c2 c3 iY)
theorem fU(c1:G (i<C t.ws)=true)(c2:av=false)(b:0<=i/\i<C t.ws)(c:0<=i/\i<C s.az)(d:At cW 13 t.ws i e)(f:A1 cO s.az i (I av)):Aa Om (HE t s i) .norm (HE t s (O D (i+1))):=B a [bT,.v (M (cW e)),.v (I av),Y,Y,Y] Y2 (EQ c1 b d c f c2 iY iY)
end
theorem fV(t:Tbl)(s:St)(i:Int)(c1:G (i<C t.ws)=false):Aa Om (HE t s i) xZ2 (HE t s i):=B a [Y] Y2 (Bc c1)
def A6f:ICode := .seq (.region false [o1 4 (.mov (.c (.bool true)))]) (.ret)
theorem Aje(t:Tbl)(s:St)   : Aa A6f (sC t s) .ret (SE true):=B a [] [4] a0
theorem A6g:(iF g lM).body = .seq A6e (.seq (.seq Aoi (.block 0 (.loop Ro))) (.seq (.seq Aoj (.block 2 (.loop Om))) A6f)):=by kernel_rfl
def Jh(t:Tbl)(s:St):H:=V 2 (T t.cs::T s.cs::V 108 [])
def Ji(x:Int):H:=V 4 (vi x::V 107 [])
def A6h:ICode := .region false (i (Ca Yv 98 2))
theorem Ajf(t:Tbl)(s:St)   : Aa A6h (CL (iF g Yv) [M t.cs,M s.cs]) .norm (Jh t s):=B a [] [2,3] a0
def On:ICode:=Ca Yv 97 6
section
variable(t:Tbl)(s:St)
theorem sD(c1:((C s.bs:Int) != t.r1)=true)(b:RQ 48 [M t.cs] (A D 0)):Aa On (Jh t s) .ret (Ji 10):=B a [.r (A D 0),Y,bT,bT,bT,bT] [4] (EP b iY c1 EJ EJ EJ)
theorem sE(c1:((C s.bs:Int) != t.r1)=false)(c2:((C s.ks:Int) != (C t.fl:Int))=true)(b:RQ 48 [M t.cs] (A D 0)):Aa On (Jh t s) .ret (Ji 10):=B a [.r (A D 0),Y,Y,bT,bT,bT] [4] (EP b iY c1 c2 EJ EJ)
theorem ALb(c1:((C s.bs:Int) != t.r1)=false)(c2:((C s.ks:Int) != (C t.fl:Int))=false)(c3:((C s.ss:Int) != (C t.fl:Int))=true)(b:RQ 48 [M t.cs] (A D 0)):Aa On (Jh t s) .ret (Ji 10):=B a [.r (A D 0),Y,Y,Y,bT,bT] [4] (EP b iY c1 c2 c3 EJ)
theorem sG(c1:((C s.bs:Int) != t.r1)=false)(c2:((C s.ks:Int) != (C t.fl:Int))=false)(c3:((C s.ss:Int) != (C t.fl:Int))=false)(c4:((C s.az:Int) != (C t.ws:Int))=true)(b:RQ 48 [M t.cs] (A D 0)):Aa On (Jh t s) .ret (Ji 10):=B a [.r (A D 0),Y,Y,Y,Y,bT] [4] (EP b iY c1 c2 c3 c4)
theorem sH(z:Bool)(c1:((C s.bs:Int) != t.r1)=false)(c2:((C s.ks:Int) != (C t.fl:Int))=false)(c3:((C s.ss:Int) != (C t.fl:Int))=false)(c4:((C s.az:Int) != (C t.ws:Int))=false)(c:r 0 1099511627776 [s.k]=true)(d:z=true)(b:RQ 48 [M t.cs] (A D 0))(e:RQ 50 [M t.cs,M s.cs] (I z)):Aa On (Jh t s) .norm (Jh t s):=B a [.r (A D 0),Y,Y,Y,Y,Y,.r (I (r 0 1099511627776 [s.k])),Y,.r (I z),Y] [2,3] (Fm b iY c1 c2 c3 c4 (GQ 0 1099511627776 [s.k]) (AKg c) e (AKg d))
theorem sI(z:Bool)(c1:((C s.bs:Int) != t.r1)=false)(c2:((C s.ks:Int) != (C t.fl:Int))=false)(c3:((C s.ss:Int) != (C t.fl:Int))=false)(c4:((C s.az:Int) != (C t.ws:Int))=false)(c:r 0 1099511627776 [s.k]=true)(d:z=false)(b:RQ 48 [M t.cs] (A D 0))(e:RQ 50 [M t.cs,M s.cs] (I z)):Aa On (Jh t s) .ret (Ji 5):=B a [.r (A D 0),Y,Y,Y,Y,Y,.r (I (r 0 1099511627776 [s.k])),Y,.r (I z),bT] [4] (Fm b iY c1 c2 c3 c4 (GQ 0 1099511627776 [s.k]) (AKg c) e (AKj d))
theorem sJ(c1:((C s.bs:Int) != t.r1)=false)(c2:((C s.ks:Int) != (C t.fl:Int))=false)(c3:((C s.ss:Int) != (C t.fl:Int))=false)(c4:((C s.az:Int) != (C t.ws:Int))=false)(c:r 0 1099511627776 [s.k]=false)(b:RQ 48 [M t.cs] (A D 0)):Aa On (Jh t s) .ret (Ji 5):=B a [.r (A D 0),Y,Y,Y,Y,Y,.r (I (r 0 1099511627776 [s.k])),bT,bT] [4] (K0 b iY c1 c2 c3 c4 (GQ 0 1099511627776 [s.k]) (AKj c) EJ)
def AHo(ks:u):H:=V 2 (T t.cs::T s.cs::V 1 (.mp ks::V 106 []))
def AHp:H:=V 2 (T t.cs::T s.cs::V 1 (.mp ([])::V 106 []))
end
def Ajg:ICode := .region false [o1 60 (.mkm),⟨some 5,.tra 60,none,[77,86]⟩]
theorem Ajh(t:Tbl)(s:St)   : Aa Ajg (Jh t s) .norm (AHp t s):=B a [] [2,3,5] a0
def J0(t:Tbl)(s:St)(ks:u)(i:Int):H:=V 2 (T t.cs::T s.cs::V 1 (.mp ks::V 56 (Ab (E (C s.bs) (F cB s.bs))::vi (C s.bs:Int)::vi i::V 47 [])))
def Aji:ICode := .region false (i (Ca Yv 94 60))
theorem Ajj(t:Tbl)(s:St)(ks:u)   : Aa Aji (AHo t s ks) .norm (J0 t s ks 0):=B a [] oW a0
def Qm:ICode:=Ca Yv 92 244
section
variable(t:Tbl)(s:St)(ks:u)(i:Int)
theorem sK(c bk:Bool)(e:El)(c1:G (i<C s.bs)=true)(c2:c=true)(c3:(e.n 0==2)=true)(c4:bk=true)(d:0<=i/\i<C s.bs)(f:At cB 7 s.bs i e)(g:RQ 51 [M t.cs,M (cB e)] (I c))(h:FT ks (A D (e.n 1))=some bk):Aa Qm (J0 t s ks i) .ret (Ji 5):=B a [bT,.v (M (cB e)),.r (I c),Y,bT,.b bk,Y,bT,bT] [4] (Fm c1 d f g (AKg c2) c3 h (AKg c2) c3 c4)
theorem sM(c bk:Bool)(e:El)(c1:G (i<C s.bs)=true)(c2:c=true)(c3:(e.n 0==2)=true)(c4:bk=false)(d:0<=i/\i<C s.bs)(f:At cB 7 s.bs i e)(g:RQ 51 [M t.cs,M (cB e)] (I c))(h:FT ks (A D (e.n 1))=some bk)(j:FT ks (A D (e.n 1))=some false):Aa Qm (J0 t s ks i) .norm (J0 t s (ks++[A D (e.n 1)]) (O D (i+1))):=B a [bT,.v (M (cB e)),.r (I c),Y,bT,.b bk,Y,bT,Y,bT] oW (Em c1 d f g (AKg c2) c3 h (AKg c2) c3 c4 c3 j)
theorem sN(c:Bool)(e:El)(c1:G (i<C s.bs)=true)(c2:c=true)(c3:(e.n 0==2)=false)(d:0<=i/\i<C s.bs)(f:At cB 7 s.bs i e)(g:RQ 51 [M t.cs,M (cB e)] (I c)):Aa Qm (J0 t s ks i) .norm (J0 t s ks (O D (i+1))):=B a [bT,.v (M (cB e)),.r (I c),Y,Y,Y,Y,Y,Y] oW (Fm c1 d f g (AKg c2) c3 (AKg c2) c3 iY c3)
theorem sO(c:Bool)(e:El)(c1:G (i<C s.bs)=true)(c2:c=false)(d:0<=i/\i<C s.bs)(f:At cB 7 s.bs i e)(g:RQ 51 [M t.cs,M (cB e)] (I c)):Aa Qm (J0 t s ks i) .ret (Ji 5):=B a [bT,.v (M (cB e)),.r (I c),bT,bT] [4] (EP c1 d f g (AKj c2) EJ)
theorem sP(c1:G (i<C s.bs)=false):Aa Qm (J0 t s ks i) xZ1 (J0 t s ks i):=B a [Y] oW (Bc c1)
end
def Lv(t:Tbl)(s:St)(i:Int):H:=V 2 (T t.cs::T s.cs::V 87 (Ab (E (C s.bs) (F cB s.bs))::vi (C s.bs:Int)::vi i::V 18 []))
def Ajk:ICode := .region false (i (Ca Yv 93 124))
theorem fW(t:Tbl)(s:St)   : Aa Ajk (Jh t s) .norm (Lv t s 0):=B a [] oX a0
def SF:ICode:=Ca Yv 91 500
section
variable(t:Tbl)(s:St)(i:Int)
theorem sQ(b:Bool)(e:El)(c1:G (i<C s.bs)=true)(c2:((e.n 0) != 0)=true)(c3:b=true)(c:0<=i/\i<C s.bs)(d:At cB 7 s.bs i e)(f:RQ 16 [M t.cs,M s.cs,A D (e.n 2),M [A D (e.n 3),A D (e.n 4)],A D i] (I b)):Aa SF (Lv t s i) .ret (Ji 11):=B a [bT,.v (M (cB e)),bT,.r (I b),bT] [4] (EP c1 c d c2 f c3)
theorem sR(b:Bool)(e:El)(c1:G (i<C s.bs)=true)(c2:((e.n 0) != 0)=true)(c3:b=false)(c:0<=i/\i<C s.bs)(d:At cB 7 s.bs i e)(f:RQ 16 [M t.cs,M s.cs,A D (e.n 2),M [A D (e.n 3),A D (e.n 4)],A D i] (I b)):Aa SF (Lv t s i) .norm (Lv t s (O D (i+1))):=B a [bT,.v (M (cB e)),bT,.r (I b),Y] oX (EP c1 c d c2 f c3)
theorem ALc(e:El)(c1:G (i<C s.bs)=true)(c2:((e.n 0) != 0)=false)(c:0<=i/\i<C s.bs)(d:At cB 7 s.bs i e):Aa SF (Lv t s i) .norm (Lv t s (O D (i+1))):=B a [bT,.v (M (cB e)),Y,Y] oX (Fh c1 c d c2 iY)
theorem sT(c1:G (i<C s.bs)=false):Aa SF (Lv t s i) xZ3 (Lv t s i):=B a [Y] oX (Bc c1)
end
def Ajl:ICode := .seq (.region false [o1 4 (.mov (.c (.int .i64 0)))]) (.ret)
theorem Ajm(t:Tbl)(s:St)   : Aa Ajl (Jh t s) .ret (Ji 0):=B a [] [4] a0
theorem A6i:(iF g Yv).body = .seq A6h (.seq On (.seq Ajg (.seq (.seq Aji (.block 1 (.loop Qm))) (.seq (.seq Ajk (.block 3 (.loop SF))) Ajl)))):=by kernel_rfl
def I4(t:Tbl)(s:St):H:=V 2 (T t.cs::T s.cs::V 209 [])
def J1(x:Int):H:=V 4 (vi x::V 208 [])
def Qn(t:Tbl)(s:St)(z:Bool):H:=V 2 (T t.cs::T s.cs::V 1 (Ab (I z)::V 207 []))
def A6j:ICode := .region false (i (Ca O8 98 2))
theorem Ajn(t:Tbl)(s:St)   : Aa A6j (CL (iF g O8) [M t.cs,M s.cs]) .norm (I4 t s):=B a [] [2,3] a0
def A6k:ICode:=Ca O8 97 6
theorem Ajo(t:Tbl)(s:St)(b:RQ 46 [M t.cs] (A D 0)):Aa A6k (I4 t s) .norm (I4 t s):=B a [.r (A D 0),Y] [2,3] (Gd b iY)
def Qo:ICode:=Ca O8 96 14
section
variable(t:Tbl)(s:St)
theorem ALd(c1:((C s.bs:Int) != t.r1)=true):Aa Qo (I4 t s) .ret (J1 10):=B a [bT,bT,bT,bT] [4] (Fk c1 EJ EJ EJ)
theorem sV(c1:((C s.bs:Int) != t.r1)=false)(c2:((C s.ks:Int) != (C t.fl:Int))=true):Aa Qo (I4 t s) .ret (J1 10):=B a [Y,bT,bT,bT] [4] (Fk c1 c2 EJ EJ)
theorem sW(c1:((C s.bs:Int) != t.r1)=false)(c2:((C s.ks:Int) != (C t.fl:Int))=false)(c3:((C s.ss:Int) != (C t.fl:Int))=true):Aa Qo (I4 t s) .ret (J1 10):=B a [Y,Y,bT,bT] [4] (Fk c1 c2 c3 EJ)
theorem sX(c1:((C s.bs:Int) != t.r1)=false)(c2:((C s.ks:Int) != (C t.fl:Int))=false)(c3:((C s.ss:Int) != (C t.fl:Int))=false)(c4:((C s.az:Int) != (C t.ws:Int))=true):Aa Qo (I4 t s) .ret (J1 10):=B a [Y,Y,Y,bT] [4] (Fk c1 c2 c3 c4)
theorem sY(c1:((C s.bs:Int) != t.r1)=false)(c2:((C s.ks:Int) != (C t.fl:Int))=false)(c3:((C s.ss:Int) != (C t.fl:Int))=false)(c4:((C s.az:Int) != (C t.ws:Int))=false):Aa Qo (I4 t s) .norm (I4 t s):=B a [Y,Y,Y,Y] [2,3] (Fk c1 c2 c3 c4)
end
def sZ:ICode := .region false (i (Ca O8 95 30))
theorem Ajp(t:Tbl)(s:St)   : Aa sZ (I4 t s) .norm (Qn t s (r 0 1099511627776 [s.k])):=B a [.r (I (r 0 1099511627776 [s.k]))] [2,3,5] (Bc (I3 s.k 0 1099511627776))
def Kj(t:Tbl)(s:St)(z:Bool)(i:Int):H:=V 2 (T t.cs::T s.cs::V 1 (Ab (I z)::vi i::V 206 []))
def XD:ICode := .region false [o1 6 (.mov (.c (.int .i64 0)))]
theorem Acy(t:Tbl)(s:St)(z:Bool)   : Aa XD (Qn t s z) .norm (Kj t s z 0):=B a [] Y3 a0
def Qp:ICode:=Ca O8 91 500
section
variable(t:Tbl)(s:St)(z:Bool)(i:Int)
theorem tA(e:El)(x y:Int)(c1:G (i<C t.fl)=true)(c2:z=true)(c3:r (e.n 4) (e.n 5) [x]=true)(b:0<=i/\i<C t.fl)(c:0<=i/\i<C s.ks)(d:0<=i/\i<C s.ss)(f:At cF 15 t.fl i e)(g:A1 cI s.ks i (A D x))(h:A1 cI s.ss i (A D y)):Aa Qp (Kj t s z i) .norm (Kj t s (r (O D (0-(e.n 8))) (e.n 8) [y]) (O D (i+1))):=B a [bT,.v (M (cF e)),bT,.v (A D x),.r (I (r (e.n 4) (e.n 5) [x])),bT,.v (A D y),.r (I (r (O D (0-(e.n 8))) (e.n 8) [y]))] Y3 (G3 c1 b f c2 c g (I3 x (e.n 4) (e.n 5)) c3 d h (I3 y (O D (0-(e.n 8))) (e.n 8)))
theorem tB(e:El)(x:Int)(c1:G (i<C t.fl)=true)(c2:z=true)(c3:r (e.n 4) (e.n 5) [x]=false)(b:0<=i/\i<C t.fl)(c:0<=i/\i<C s.ks)(d:At cF 15 t.fl i e)(f:A1 cI s.ks i (A D x)):Aa Qp (Kj t s z i) .norm (Kj t s false (O D (i+1))):=B a [bT,.v (M (cF e)),bT,.v (A D x),.r (I (r (e.n 4) (e.n 5) [x])),Y] Y3 (EQ c1 b d c2 c f (I3 x (e.n 4) (e.n 5)) c3)
theorem tC(e:El)(c1:G (i<C t.fl)=true)(c2:z=false)(b:0<=i/\i<C t.fl)(c:At cF 15 t.fl i e):Aa Qp (Kj t s z i) .norm (Kj t s false (O D (i+1))):=B a [bT,.v (M (cF e)),Y,Y] Y3 (Fh c1 b c c2 iY)
theorem tD(c1:G (i<C t.fl)=false):Aa Qp (Kj t s z i) xZ0 (Kj t s z i):=B a [Y] Y3 (Bc c1)
def Jj:H:=V 2 (T t.cs::T s.cs::V 1 (Ab (I z)::V 2 (vi i::V 204 [])))
end
def XE:ICode := .region false [o1 8 (.mov (.c (.int .i64 0)))]
theorem Acz(t:Tbl)(s:St)(z:Bool)   : Aa XE (Qn t s z) .norm (Jj t s z 0):=B a [] UH a0
def Oo:ICode:=Ca O8 90 1012
section
variable(t:Tbl)(s:St)(z:Bool)(i:Int)
theorem tE(av:Bool)(e:El)(c1:G (i<C t.ws)=true)(c2:z=true)(c3:av=true)(c4:(e.n 0==2)=true)(c:0<=i/\i<C s.az)(b:0<=i/\i<C t.ws)(f:A1 cO s.az i (I av))(d:A2 1 cW 13 t.ws i (A D (e.n 0))):Aa Oo (Jj t s z i) .norm (Jj t s true (O D (i+1))):=B a [bT,bT,.v (I av),Y,.v (A D (e.n 0)),bT,Y,bT,bT,bT] UH (Em c1 c2 c f (AKg c3) b d c2 (AKg c3) c4 c2 c4)
theorem tF(av:Bool)(e:El)(c1:G (i<C t.ws)=true)(c2:z=true)(c3:av=true)(c4:(e.n 0==2)=false)(c:0<=i/\i<C s.az)(b:0<=i/\i<C t.ws)(f:A1 cO s.az i (I av))(d:A2 1 cW 13 t.ws i (A D (e.n 0))):Aa Oo (Jj t s z i) .norm (Jj t s (e.n 0==3) (O D (i+1))):=B a [bT,bT,.v (I av),Y,.v (A D (e.n 0)),bT,Y,Y,.v (A D (e.n 0)),bT,Y] UH (Ec c1 c2 c f (AKg c3) b d c2 (EP (AKg c3) c4 b d c2 c4))
theorem tG(av:Bool)(c1:G (i<C t.ws)=true)(c2:z=true)(c3:av=false)(c:0<=i/\i<C s.az)(b:A1 cO s.az i (I av)):Aa Oo (Jj t s z i) .norm (Jj t s true (O D (i+1))):=B a [bT,bT,.v (I av),bT,bT,bT,bT,bT,bT] UH (Fm c1 c2 c b (AKj c3) c2 (AKj c3) EJ c2 EJ)
theorem tH(c1:G (i<C t.ws)=true)(c2:z=false):Aa Oo (Jj t s z i) .norm (Jj t s false (O D (i+1))):=B a [bT,Y] UH (Gd c1 c2)
theorem tI(c1:G (i<C t.ws)=false):Aa Oo (Jj t s z i) xZ2 (Jj t s z i):=B a [Y] UH (Bc c1)
def Hy(j:Int):H:=V 2 (T t.cs::T s.cs::V 1 (Ab (I z)::V 3 (vi i::vi j::V 202 [])))
end
def Oq:ICode:=Ca O8 82 260684
section
variable(t:Tbl)(s:St)(z:Bool)(i j:Int)
theorem tJ(e:El)(c1:G (j<i)=true)(c2:z=true)(c3:((e.n 0) != 2)=true)(b:0<=i/\i<C s.bs)(c:A2 0 cB 7 s.bs i (A D (e.n 0))):Aa Oq (Hy t s z i j) .norm (Hy t s true i (O D (j+1))):=B a [bT,bT,.v (A D (e.n 0)),bT,bT,bT,bT,bT,bT] So (Fm c1 c2 b c c3 c2 c3 EJ c2 EJ)
theorem tK(e f:El)(c1:G (j<i)=true)(c2:z=true)(c3:((e.n 0) != 2)=false)(c4:((f.n 0) != 2)=true)(b:0<=i/\i<C s.bs)(c:0<=j/\j<C s.bs)(d:A2 0 cB 7 s.bs i (A D (e.n 0)))(g:A2 0 cB 7 s.bs j (A D (f.n 0))):Aa Oq (Hy t s z i j) .norm (Hy t s true i (O D (j+1))):=B a [bT,bT,.v (A D (e.n 0)),Y,.v (A D (f.n 0)),bT,Y,bT,bT,bT] So (Em c1 c2 b d c3 c g c2 c3 c4 c2 c4)
theorem tL(e f:El)(c1:G (j<i)=true)(c2:z=true)(c3:((e.n 0) != 2)=false)(c4:((f.n 0) != 2)=false)(b:0<=i/\i<C s.bs)(c:0<=j/\j<C s.bs)(d:A2 0 cB 7 s.bs i (A D (e.n 0)))(g:A2 0 cB 7 s.bs j (A D (f.n 0)))(h:A2 1 cB 7 s.bs i (A D (e.n 1)))(k:A2 1 cB 7 s.bs j (A D (f.n 1))):Aa Oq (Hy t s z i j) .norm (Hy t s ((e.n 1) != (f.n 1)) i (O D (j+1))):=B a [bT,bT,.v (A D (e.n 0)),Y,.v (A D (f.n 0)),bT,Y,Y,.v (A D (e.n 1)),.v (A D (f.n 1)),bT,Y] So (Ec c1 c2 b d c3 c g c2 (EQ c3 c4 b h c k c2 c4))
theorem tM(c1:G (j<i)=true)(c2:z=false):Aa Oq (Hy t s z i j) .norm (Hy t s false i (O D (j+1))):=B a [bT,Y] So (Gd c1 c2)
theorem tN(c1:G (j<i)=false):Aa Oq (Hy t s z i j) xZ6 (Hy t s z i j):=B a [Y] So (Bc c1)
end
def MD(t:Tbl)(s:St)(z:Bool)(i:Int):H:=V 2 (T t.cs::T s.cs::V 1 (Ab (I z)::V 3 (vi i::V 203 [])))
def XF:ICode := .region false [o1 9 (.mov (.c (.int .i64 0)))]
theorem Ada(t:Tbl)(s:St)(z:Bool)   : Aa XF (Qn t s z) .norm (MD t s z 0):=B a [] UI a0
def SG:ICode:=Ca O8 89 2036
section
variable(t:Tbl)(s:St)(z:Bool)(i:Int)
theorem tO(c b:Bool)(e:El)(j:Int)(c1:G (i<C s.bs)=true)(c2:z=true)(d:0<=i/\i<C s.bs)(f:At cB 7 s.bs i e)(g:RQ 53 [M t.cs,M (cB e)] (I c))(h:Aa (.loop Oq) (Hy t s c i 0) xZ6 (Hy t s b i j)):Aa SG (MD t s z i) .norm (MD t s b (O D (i+1))):=N (B (t:=V 2 (T t.cs::T s.cs::V 1 (Ab (I z)::V 3 (vi i::V 203 [])))) a [bT] UI (Bc c1)) (N (x (BU (N (B a [bT,.v (M (cB e)),.r (I c)] So (Fk c2 d f g)) (A0 h)))) (B a [] UI a0))
theorem tP(b:Bool)(j:Int)(c1:G (i<C s.bs)=true)(c2:z=false)(k:Aa (.loop Oq) (Hy t s false i 0) xZ6 (Hy t s b i j)):Aa SG (MD t s z i) .norm (MD t s b (O D (i+1))):=N (B (t:=V 2 (T t.cs::T s.cs::V 1 (Ab (I z)::V 3 (vi i::V 203 [])))) a [bT] UI (Bc c1)) (N (x (BU (N (B a [Y] So (Bc c2)) (A0 k)))) (B a [] UI a0))
theorem tQ(c1:G (i<C s.bs)=false):Aa SG (MD t s z i) xZ4 (MD t s z i):=m (B a [Y] UI (Bc c1))
end
def SI:ICode:=Ca O8 91 510
section
variable(t:Tbl)(s:St)
theorem Uj(z:Bool)(c1:z=true):Aa SI (Qn t s z) .norm (I4 t s):=B a [Y] [2,3] (Bc (AKg c1))
theorem tR(z:Bool)(c1:z=false):Aa SI (Qn t s z) .ret (J1 5):=B a [bT] [4] (Bc (AKj c1))
def Lw(i:Int):H:=V 2 (T t.cs::T s.cs::V 7 (vi i::V 201 []))
end
def Rp:ICode := .region false [o1 11 (.mov (.c (.int .i64 0)))]
theorem WA(t:Tbl)(s:St)   : Aa Rp (I4 t s) .norm (Lw t s 0):=B a [] [2,3,11] a0
def ME:ICode:=Ca O8 87 8180
section
variable(t:Tbl)(s:St)(i:Int)
theorem tS(c:Bool)(e:El)(c1:G (i<C s.bs)=true)(c2:((e.n 0) != 0)=true)(c3:c=true)(b:0<=i/\i<C s.bs)(d:A2 0 cB 7 s.bs i (A D (e.n 0)))(f:A2 2 cB 7 s.bs i (A D (e.n 2)))(g:Ad (R 3 (R (J i*7) (F cB s.bs))) 0 2 false=some (M [A D (e.n 3),A D (e.n 4)]))(h:RQ 17 [M t.cs,M s.cs,A D (e.n 2),M [A D (e.n 3),A D (e.n 4)],A D i] (I c)):Aa ME (Lw t s i) .ret (J1 11):=B a [bT,.v (A D (e.n 0)),bT,.v (A D (e.n 2)),.v (M [A D (e.n 3),A D (e.n 4)]),.r (I c),bT] [4] (Fm c1 b d c2 b f b g h c3)
theorem tT(c:Bool)(e:El)(c1:G (i<C s.bs)=true)(c2:((e.n 0) != 0)=true)(c3:c=false)(b:0<=i/\i<C s.bs)(d:A2 0 cB 7 s.bs i (A D (e.n 0)))(f:A2 2 cB 7 s.bs i (A D (e.n 2)))(g:Ad (R 3 (R (J i*7) (F cB s.bs))) 0 2 false=some (M [A D (e.n 3),A D (e.n 4)]))(h:RQ 17 [M t.cs,M s.cs,A D (e.n 2),M [A D (e.n 3),A D (e.n 4)],A D i] (I c)):Aa ME (Lw t s i) .norm (Lw t s (O D (i+1))):=B a [bT,.v (A D (e.n 0)),bT,.v (A D (e.n 2)),.v (M [A D (e.n 3),A D (e.n 4)]),.r (I c),Y] [2,3,11] (Fm c1 b d c2 b f b g h c3)
theorem tU(e:El)(c1:G (i<C s.bs)=true)(c2:((e.n 0) != 0)=false)(b:0<=i/\i<C s.bs)(d:A2 0 cB 7 s.bs i (A D (e.n 0))):Aa ME (Lw t s i) .norm (Lw t s (O D (i+1))):=B a [bT,.v (A D (e.n 0)),Y,Y] [2,3,11] (Fh c1 b d c2 iY)
theorem tV(c1:G (i<C s.bs)=false):Aa ME (Lw t s i) xZ8 (Lw t s i):=B a [Y] [2,3,11] (Bc c1)
end
def Vs:ICode := .seq (.region false [o1 4 (.mov (.c (.int .i64 0)))]) (.ret)
theorem Ajq(t:Tbl)(s:St)   : Aa Vs (I4 t s) .ret (J1 0):=B a [] [4] a0
theorem A6l:(iF g O8).body = .seq A6j (.seq A6k (.seq Qo (.seq sZ (.seq (.seq XD (.block 0 (.loop Qp))) (.seq (.seq XE (.block 2 (.loop Oo))) (.seq (.seq XF (.block 4 (.loop SG))) (.seq SI (.seq (.seq Rp (.block 8 (.loop ME))) Vs)))))))):=by kernel_rfl
def Vt:El:=⟨Bw,[],false⟩
def Kl(g:Nat->Bool):Nat->Nat->Bool
 | 0,_=>true
 | d+1,i=>g i&&Kl g d (i+1)
theorem Vu{c:ICode}{bid:Nat}{S:Nat->H}{Z:H}{g:Nat->Bool}{n:Nat}
  (h:∀ i,i<n->Aa c (S i) (if g i then .norm else .ret) (if g i then S (i+1) else Z))
  (a:Aa c (S n) (.exit bid) (S n)):∀ (d i:Nat),i+d=n->Aa (.loop c) (S i) (if Kl g d i then .exit bid else .ret) (if Kl g d i then S n else Z)
 | 0,i,e=>by
  have e:i=n:=by omega
  subst e;exact f a
 | d+1,i,e=>by
  have h1:=h i (by omega);have h2:=Vu h a d (i+1) (by omega);unfold Kl;cases b:g i <;> rw[b] at h1
  ·exact f h1
  ·rw[G8];exact AB h1 h2
theorem fX{c:ICode}{bid:Nat}{S:Bool->Nat->H}{g:Nat->Bool}{n:Nat}
  (h:∀ i z,i<n->Aa c (S z i) .norm (S (z&&g i) (i+1)))
  (a:∀ z,Aa c (S z n) (.exit bid) (S z n)):∀ (d i:Nat) (z:Bool),i+d=n->Aa (.loop c) (S z i) (.exit bid) (S (z&&Kl g d i) n)
 | 0,i,z,e=>by
  have e:i=n:=by omega
  subst e;rw[show (z&&Kl g 0 i)=z from D5 z];exact f (a z)
 | d+1,i,z,e=>by
  have h2:=fX h a d (i+1) (z&&g i) (by omega);rw[S'] at h2;exact AB (h i z (by omega)) h2
theorem Uk{i n:Nat}(h:i<n)(hn:n<=1000):O D (i+1)=((i+1:Nat):Int):=A' (by omega) (by omega)
theorem gD{α:Type}{l:List α}{i:Nat}(h:i<C l)(d:α):L l i d=l[i]:=by
 rw[Z,Af h];rfl
theorem SJ{t:Tbl}(i:TOk t)(e:El):PY 51 53 [t.av,M (cB e)] [t.av,M (cB e)]:=by
 have hl:=i.l13;rcases Q (e.n 0==0) with c0 | c0
 ·exact⟨_,Atz t e c0,Auf t e c0⟩
 rcases Q (e.n 0==1) with c1 | c1
 ·rcases Q (r 0 3 [e.n 2]) with a | a
  ·rcases Q (r (-1048576) 1048576 [e.n 3,e.n 4]) with b | b
   ·rcases Q (r (-131072) 131072 [e.n 5,e.n 6]) with c | c
    ·have p:=Aua t e c0 a b c c1;rcases Q (e.n 1==0) with d | d
     ·have q:=mQ t e c0 c1 d a b;rw[d] at p;rw[c] at q;exact⟨_,p,q⟩
     ·rw[d] at p;exact⟨_,p,Rm t e c0 c1 d⟩
    ·have p:=Nw t e c0 a b c;rcases Q (e.n 1==0) with d | d
     ·have q:=mQ t e c0 c1 d a b;rw[c] at q;exact⟨_,p,q⟩
     ·exact⟨_,p,Rm t e c0 c1 d⟩
   ·refine⟨_,Nx t e c0 a b,?_⟩;rcases Q (e.n 1==0) with d | d
    ·exact Aug t e c0 c1 d a b
    ·exact Rm t e c0 c1 d
  ·refine⟨_,Ol t e c0 a,?_⟩;rcases Q (e.n 1==0) with d | d
   ·exact Auh t e c0 c1 d a
   ·exact Rm t e c0 c1 d
 rcases Q (e.n 0==2) with c2 | c2
 ·have o:∀ {x y:Int},r (-131072) 131072 [x,y]=false->(x==0&&(y==0&&true))=false:=by
   intro x y h;cases u:x==0
   ·rfl
   ·cases w:y==0
    ·rfl
    ·rw[AM.1 u,AM.1 w] at h;exact absurd h (by decide)
  rcases Q (r 0 (O D (C t.sa-1)) [e.n 1]) with s | s
  ·have z:O D (C t.sa-1)=(C t.sa:Int)-1:=A' (by omega) (by omega);have hs:=s;rw[z] at hs;simp only[r,F7,Oi,D5,U,Bl,J6] at hs;have hi:(e.n 1).toNat<C t.sa:=by omega
   have g:0<=e.n 1/\e.n 1<(C t.sa:Int):=by omega
   have hr:=B7 (c:=AN) (k:=10) (fun _=>rfl) hi;have j:=i.Sa.1 _ (AF hi);obtain⟨m,r1,r2⟩:=W6 (e.n 3) (e.n 4) (t.sa[(e.n 1).toNat].n 1) (t.sa[(e.n 1).toNat].n 2) (t.sa[(e.n 1).toNat].n 3);generalize t.sa[(e.n 1).toNat]=f at hr j r1 r2;rcases Q (f.n 0==e.n 2) with l | l
   ·have a:r 0 3 [e.n 2]=true:=by rw[<- AM.1 l,j.2.1];rfl
    rcases Q (r (-1048576) 1048576 [e.n 3,e.n 4]) with b | b
    ·rcases Q (e.n 5==0&&(e.n 6==0&&true)) with v | v
     ·have c:r (-131072) 131072 [e.n 5,e.n 6]=true:=by
       cases h:r (-131072) 131072 [e.n 5,e.n 6]
       ·rw[o h] at v;cases v
       ·rfl
      exact⟨_,Aub t e f m c0 a b c c1 c2 s v l g hr r1,Aui t e f m c0 c1 c2 s v b l g hr r2⟩
     ·refine⟨false,?_,Vr t e c0 c1 c2 s v⟩;rcases Q (r (-131072) 131072 [e.n 5,e.n 6]) with c | c
      ·exact mP t e c0 a b c c1 c2 s v
      ·exact Nw t e c0 a b c
    ·refine⟨_,Nx t e c0 a b,?_⟩;rcases Q (e.n 5==0&&(e.n 6==0&&true)) with v | v
     ·exact mR t e c0 c1 c2 s v b
     ·exact Vr t e c0 c1 c2 s v
   ·refine⟨false,?_,?_⟩
    ·rcases Q (r 0 3 [e.n 2]) with a | a
     ·rcases Q (r (-1048576) 1048576 [e.n 3,e.n 4]) with b | b
      ·rcases Q (r (-131072) 131072 [e.n 5,e.n 6]) with c | c
       ·rcases Q (e.n 5==0&&(e.n 6==0&&true)) with v | v
        ·exact Auc t e f c0 a b c c1 c2 s v l g hr
        ·exact mP t e c0 a b c c1 c2 s v
       ·exact Nw t e c0 a b c
      ·exact Nx t e c0 a b
     ·exact Ol t e c0 a
    ·rcases Q (e.n 5==0&&(e.n 6==0&&true)) with v | v
     ·rcases Q (r (-1048576) 1048576 [e.n 3,e.n 4]) with b | b
      ·exact Auj t e f c0 c1 c2 s v b l g hr
      ·exact mR t e c0 c1 c2 s v b
     ·exact Vr t e c0 c1 c2 s v
  ·refine⟨false,?_,Ajb t e c0 c1 c2 s⟩;rcases Q (r 0 3 [e.n 2]) with a | a
   ·rcases Q (r (-1048576) 1048576 [e.n 3,e.n 4]) with b | b
    ·rcases Q (r (-131072) 131072 [e.n 5,e.n 6]) with c | c
     ·exact Aud t e c0 a b c c1 c2 s
     ·exact Nw t e c0 a b c
    ·exact Nx t e c0 a b
   ·exact Ol t e c0 a
 ·refine⟨false,?_,Ajc t e c0 c1 c2⟩;rcases Q (r 0 3 [e.n 2]) with a | a
  ·rcases Q (r (-1048576) 1048576 [e.n 3,e.n 4]) with b | b
   ·rcases Q (r (-131072) 131072 [e.n 5,e.n 6]) with c | c
    ·exact Aue t e c0 a b c c1 c2
    ·exact Nw t e c0 a b c
   ·exact Nx t e c0 a b
  ·exact Ol t e c0 a
def gF(t:Tbl)(s:St)(i:Nat):Bool:=r ((L t.fl i Vt).n 4) ((L t.fl i Vt).n 5) [L s.ks i 0]&&r (O D (0-(L t.fl i Vt).n 8)) ((L t.fl i Vt).n 8) [L s.ss i 0]
def gW(t:Tbl)(s:St)(i:Nat):Bool := !(L s.az i false) || ((L t.ws i Vt).n 0==2 || (L t.ws i Vt).n 0==3)
def cg(e f:El):Bool:=e.n 0==2&&(f.n 0==2&&e.n 1==f.n 1)
def gP(s:St)(i j:Nat):Bool := !cg (L s.bs i Vt) (L s.bs j Vt)
def kb(l:List El):u:=(l.filter fun f=>f.n 0==2).map fun f => A D (f.n 1)
theorem tW(x:Int):∀ l:List El,FT (kb l) (A D x)=some (l.any fun f=>f.n 0==2&&x==f.n 1)
 | []=>rfl
 | f::l=>by
  unfold kb;rw[Avo,Q3];cases h:f.n 0==2
  ·rw[Al (by decide),Ea,Aey];exact tW x l
  ·rw[Ae rfl,Bg,G8];have hs:XX (A D x) (A D (f.n 1))=some (x==f.n 1):=by unfold XX;exact Ae rfl
   cases k:x==f.n 1
   ·rw[Aey,FT,hs,k];exact tW x l
   ·rw[Bool.true_or,FT,hs,k]
theorem A6m(l:List El)(e:El):kb (l++[e])=kb l++(if e.n 0==2 then [A D (e.n 1)] else []):=by
 unfold kb;rw[List.filter_append,DU,Avo];cases e.n 0==2 <;> rfl
theorem Adb{l:List El}(q:El->Bool):∀ (d i:Nat),i+d<=C l->Kl (fun j => !q (L l j Vt)) d i = !((l.drop i).take d).any q
 | 0,_,_=>rfl
 | d+1,i,h=>by
  have hi:i<C l:=by omega
  rw[ET hi,K3,Q3,Bool.not_or,<- Adb q d (i+1) (by omega),<- gD hi Vt];rfl
section
variable {t:Tbl} {s:St}
theorem AHq(f:TOk t)(hs:s.sh t.r1.toNat (C t.fl) (C t.ws))(i:Nat)(hi:i<C t.fl):Aa Ro (JJ t s i) (if gF t s i then .norm else .ret) (if gF t s i then JJ t s ((i+1:Nat)) else SE false):=by
 obtain⟨_,g,j,_⟩:=hs;have hl:=f.l11;have d:0<=(i:Int)/\(i:Int)<(C t.fl:Int):=by omega
 have hr:=B7 (c:=cF) (k:=15) (fun _=>rfl) hi;have h1:=Aaz (xs:=s.ks) (i:=(i:Int)) (by omega) (by omega);have h2:=Aaz (xs:=s.ss) (i:=(i:Int)) (by omega) (by omega);unfold gF;rw[gD hi,gD (l:=s.ks) (by omega),gD (l:=s.ss) (by omega)];have e:decide ((i:Int)<(C t.fl:Int))=true:=o (by omega);rcases Q (r (t.fl[i].n 4) (t.fl[i].n 5) [s.ks[i]'(by omega)]) with a | a <;> rw[a]
 ·rw[G8];rcases Q (r (O D (0-t.fl[i].n 8)) (t.fl[i].n 8) [s.ss[i]'(by omega)]) with b | b <;> rw[b]
  ·have h:=fN t s i t.fl[i] (s.ks[i]'(by omega)) (s.ss[i]'(by omega)) e a b d (by omega) (by omega) hr h1 h2;rw[Uk hi (by omega)] at h;exact h
  ·exact fO t s i t.fl[i] (s.ks[i]'(by omega)) (s.ss[i]'(by omega)) e a b d (by omega) (by omega) hr h1 h2
 ·exact fP t s i t.fl[i] (s.ks[i]'(by omega)) e a d (by omega) hr h1
theorem AHr(e:TOk t)(hs:s.sh t.r1.toNat (C t.fl) (C t.ws))(i:Nat)(z:Bool)(hi:i<C t.fl):Aa Qp (Kj t s z i) .norm (Kj t s (z&&gF t s i) ((i+1:Nat))):=by
 obtain⟨_,f,g,_⟩:=hs;have hl:=e.l11;have b:0<=(i:Int)/\(i:Int)<(C t.fl:Int):=by omega
 have hr:=B7 (c:=cF) (k:=15) (fun _=>rfl) hi;have h1:=Aaz (xs:=s.ks) (i:=(i:Int)) (by omega) (by omega);have h2:=Aaz (xs:=s.ss) (i:=(i:Int)) (by omega) (by omega);unfold gF;rw[gD hi,gD (l:=s.ks) (by omega),gD (l:=s.ss) (by omega),<- Uk hi (by omega)];have d:decide ((i:Int)<(C t.fl:Int))=true:=o (by omega);cases z
 ·exact tC t s false i t.fl[i] d rfl b hr
 rcases Q (r (t.fl[i].n 4) (t.fl[i].n 5) [s.ks[i]'(by omega)]) with a | a <;> rw[a]
 ·exact tA t s true i t.fl[i] (s.ks[i]'(by omega)) (s.ss[i]'(by omega)) d rfl a b (by omega) (by omega) hr h1 h2
 ·exact tB t s true i t.fl[i] (s.ks[i]'(by omega)) d rfl a b (by omega) hr h1
theorem AHs(g:TOk t)(hs:s.sh t.r1.toNat (C t.fl) (C t.ws))(i:Nat)(hi:i<C t.ws):Aa Om (HE t s i) (if gW t s i then .norm else .ret) (if gW t s i then HE t s ((i+1:Nat)) else SE false):=by
 obtain⟨_,_,_,h⟩:=hs;have hl:=g.l8;have d:0<=(i:Int)/\(i:Int)<(C t.ws:Int):=by omega
 have hr:=B7 (c:=cW) (k:=13) (fun _=>rfl) hi;have e:=A3j (xs:=s.az) (i:=(i:Int)) (by omega) (by omega);unfold gW;rw[gD hi,gD (l:=s.az) (by omega),<- Uk hi (by omega)];have f:decide ((i:Int)<(C t.ws:Int))=true:=o (by omega);rcases Q (s.az[i]'(by omega)) with a | a <;> rw[a]
 ·rcases Q (t.ws[i].n 0==2) with b | b <;> rw[b]
  ·exact fT t s i _ t.ws[i] f a (by rw[bne,b];rfl) d (by omega) hr e
  ·rcases Q (t.ws[i].n 0==3) with c | c <;> rw[c]
   ·exact fS t s i _ t.ws[i] f a (by rw[bne,b];rfl) (by rw[bne,c];rfl) d (by omega) hr e
   ·exact fR t s i _ t.ws[i] f a (by rw[bne,b];rfl) (by rw[bne,c];rfl) d (by omega) hr e
 ·exact fU t s i _ t.ws[i] f a d (by omega) hr e
theorem AHt(g:TOk t)(hs:s.sh t.r1.toNat (C t.fl) (C t.ws))(i:Nat)(z:Bool)(hi:i<C t.ws):Aa Oo (Jj t s z i) .norm (Jj t s (z&&gW t s i) ((i+1:Nat))):=by
 obtain⟨_,_,_,h⟩:=hs;have hl:=g.l8;have f:0<=(i:Int)/\(i:Int)<(C t.ws:Int):=by omega
 have hr:Ad (R 1 (R (i*13) (F cW t.ws))) 0 1 true=some (A D (t.ws[i].n 0)):=Eo (c:=cW) (k:=13) (fun _=>rfl) hi (by omega);have e:=A3j (xs:=s.az) (i:=(i:Int)) (by omega) (by omega);unfold gW;rw[gD hi,gD (l:=s.az) (by omega),<- Uk hi (by omega)];have d:decide ((i:Int)<(C t.ws:Int))=true:=o (by omega);cases z
 ·exact tH t s false i d rfl
 rcases Q (s.az[i]'(by omega)) with a | a <;> rw[a]
 ·rcases Q (t.ws[i].n 0==2) with b | b <;> rw[b]
  ·exact tE t s true i _ t.ws[i] d rfl a b (by omega) f e hr
  ·exact tF t s true i _ t.ws[i] d rfl a b (by omega) f e hr
 ·exact tG t s true i _ d rfl a (by omega) e
theorem AHu(hb:C s.bs<=100){i:Nat}(hi:i<C s.bs)(j:Nat)(z:Bool)(p:j<i):Aa Oq (Hy t s z i j) .norm (Hy t s (z&&gP s i j) i ((j+1:Nat))):=by
 have f:0<=(i:Int)/\(i:Int)<(C s.bs:Int):=by omega
 have m:0<=(j:Int)/\(j:Int)<(C s.bs:Int):=by omega
 have d:∀ (i:Nat) (h:i<C s.bs) (k:Nat),k<7->Ad (R k (R (i*7) (F cB s.bs))) 0 1 true=(cB s.bs[i])[k]? := fun i h k q=>Eo (c:=cB) (k:=7) (fun _=>rfl) h q;have e:decide ((j:Int)<(i:Int))=true:=o (by omega);unfold gP cg;rw[gD hi,gD (l:=s.bs) (i:=j) (by omega),<- Uk p (by omega)];have g:j<C s.bs:=by omega
 cases z
 ·exact tM t s false _ _ e rfl
 rcases Q (s.bs[i].n 0==2) with a | a <;> rw[a]
 ·rcases Q (s.bs[j].n 0==2) with b | b <;> rw[b]
  ·exact tL t s true _ _ s.bs[i] s.bs[j] e rfl (by rw[bne,a];rfl) (by rw[bne,b];rfl) f m (d i hi 0 (by omega)) (d j g 0 (by omega)) (d i hi 1 (by omega)) (d j g 1 (by omega))
  ·exact tK t s true _ _ s.bs[i] s.bs[j] e rfl (by rw[bne,a];rfl) (by rw[bne,b];rfl) f m (d i hi 0 (by omega)) (d j g 0 (by omega))
 ·exact tJ t s true _ _ s.bs[i] e rfl (by rw[bne,a];rfl) f (d i hi 0 (by omega))
def gB(a:El->Bool)(s:St)(i:Nat):Bool:=a (L s.bs i Vt)&&Kl (gP s i) i 0
theorem AAx{i:Nat}(hi:i<C s.bs):Kl (gP s i) i 0 = !(s.bs.take i).any (cg s.bs[i]):=by
 have h:=Adb (l:=s.bs) (cg s.bs[i]) i 0 (by omega);rw[AL] at h;rw[<- h];unfold gP;rw[gD hi]
theorem AHv{a:El->Bool}(d:∀ e,RQ 53 [t.av,M (cB e)] (I (a e)))(hb:C s.bs<=100)(i:Nat)(z:Bool)(hi:i<C s.bs):Aa SG (MD t s z i) .norm (MD t s (z&&gB a s i) ((i+1:Nat))):=by
 have f:0<=(i:Int)/\(i:Int)<(C s.bs:Int):=by omega
 have b:decide ((i:Int)<(C s.bs:Int))=true:=o (by omega);have hr:=B7 (c:=cB) (k:=7) (fun _=>rfl) hi;have hl:=fun z=>fX (bid:=6) (c:=Oq) (S:=fun z j=>Hy t s z i j) (g:=gP s i) (n:=i) (fun j z h=>AHu hb hi j z h) (fun z=>tN t s z _ _ (As (by omega))) i 0 z (by omega);unfold gB;rw[gD hi,<- Uk hi (by omega)];cases z
 ·exact tP t s false _ _ _ b rfl (hl false)
 ·exact tO t s true _ (a s.bs[i]) _ s.bs[i] _ b rfl f hr (d _) (hl _)
theorem AHw{d:El->Bool}(m:∀ e,RQ 51 [t.av,M (cB e)] (I (d e)))(hb:C s.bs<=100)(i:Nat)(hi:i<C s.bs) :
  Aa Qm (J0 t s (kb (s.bs.take i)) i) (if gB d s i then .norm else .ret) (if gB d s i then J0 t s (kb (s.bs.take (i+1))) ((i+1:Nat)) else Ji 5):=by
 have g:0<=(i:Int)/\(i:Int)<(C s.bs:Int):=by omega
 have j:decide ((i:Int)<(C s.bs:Int))=true:=o (by omega);have hr:=B7 (c:=cB) (k:=7) (fun _=>rfl) hi;have l:=tW (s.bs[i].n 1) (s.bs.take i);unfold gB;rw[AAx hi,gD hi,Ald hi,A6m,<- Uk hi (by omega)];rcases Q (d s.bs[i]) with a | a <;> rw[a]
 ·have hc:=m s.bs[i];rw[a] at hc;rcases Q (s.bs[i].n 0==2) with b | b
  ·have e:(s.bs.take i).any (cg s.bs[i])=(s.bs.take i).any fun f=>f.n 0==2&&s.bs[i].n 1==f.n 1:=by
    congr 1;funext f;unfold cg;rw[b,G8]
   rw[e,b];rcases Q ((s.bs.take i).any fun f=>f.n 0==2&&s.bs[i].n 1==f.n 1) with k | k <;> rw[k] at l |-
   ·exact sK t s _ _ true true s.bs[i] j rfl b rfl g hr hc l
   ·exact sM t s _ _ true false s.bs[i] j rfl b rfl g hr hc l l
  ·have e:(s.bs.take i).any (cg s.bs[i])=false:=by
    rw[FB];intro f _;unfold cg;rw[b,Ea];decide
   rw[e,b];have h:=sN t s (kb (s.bs.take i)) _ true s.bs[i] j rfl b g hr hc;rw[<- Df (kb (s.bs.take i))] at h;rw[Df] at h;show BR _ _ _ .norm (J0 t s (kb (s.bs.take i)++[]) _);rw[Df];exact h
 ·have hc:=m s.bs[i];rw[a] at hc;exact sO t s _ _ false s.bs[i] j rfl g hr hc
def gO(a:El->Nat->Bool)(s:St)(i:Nat):Bool := !((L s.bs i Vt).n 0 != 0&&a (L s.bs i Vt) i)
def ovA(t:Tbl)(s:St)(e:El)(i:Nat):u:=[t.av,M s.cs,A D (e.n 2),M [A D (e.n 3),A D (e.n 4)],A D i]
theorem AHx{d:El->Nat->Bool}(ho:∀ e i,RQ 16 (ovA t s e i) (I (d e i)))(hb:C s.bs<=100)(i:Nat)(hi:i<C s.bs) :
  Aa SF (Lv t s i) (if gO d s i then .norm else .ret) (if gO d s i then Lv t s ((i+1:Nat)) else Ji 11):=by
 have f:0<=(i:Int)/\(i:Int)<(C s.bs:Int):=by omega
 have g:decide ((i:Int)<(C s.bs:Int))=true:=o (by omega);have hr:=B7 (c:=cB) (k:=7) (fun _=>rfl) hi;unfold gO;rw[gD hi,<- Uk hi (by omega)];rcases Q (s.bs[i].n 0 != 0) with a | a <;> rw[a]
 ·have hc:=ho s.bs[i] i;rcases Q (d s.bs[i] i) with b | b <;> rw[b] at hc |-
  ·exact sQ t s _ true s.bs[i] g a rfl f hr hc
  ·exact sR t s _ false s.bs[i] g a rfl f hr hc
 ·exact ALc t s _ s.bs[i] g a f hr
theorem AHy{f:El->Nat->Bool}(ho:∀ e i,RQ 17 (ovA t s e i) (I (f e i)))(hb:C s.bs<=100)(i:Nat)(hi:i<C s.bs) :
  Aa ME (Lw t s i) (if gO f s i then .norm else .ret) (if gO f s i then Lw t s ((i+1:Nat)) else J1 11):=by
 have g:0<=(i:Int)/\(i:Int)<(C s.bs:Int):=by omega
 have h:decide ((i:Int)<(C s.bs:Int))=true:=o (by omega);have d:∀ k,k<7->Ad (R k (R (i*7) (F cB s.bs))) 0 1 true=(cB s.bs[i])[k]? := fun k m=>Eo (c:=cB) (k:=7) (fun _=>rfl) hi m;have l:=Nm (c:=cB) (k:=7) (fun _=>rfl) hi (j:=3) (n:=2) (by omega);unfold gO;rw[gD hi,<- Uk hi (by omega)];rcases Q (s.bs[i].n 0 != 0) with a | a <;> rw[a]
 ·have hc:=ho s.bs[i] i;rcases Q (f s.bs[i] i) with b | b <;> rw[b] at hc |-
  ·exact tS t s _ true s.bs[i] h a rfl g (d 0 (by omega)) (d 2 (by omega)) l hc
  ·exact tT t s _ false s.bs[i] h a rfl g (d 0 (by omega)) (d 2 (by omega)) l hc
 ·exact tU t s _ s.bs[i] h a g (d 0 (by omega))
theorem Ajr(c:TOk t)(hs:s.sh t.r1.toNat (C t.fl) (C t.ws)):RQ 50 [t.av,M s.cs] (I (Kl (gF t s) (C t.fl) 0&&Kl (gW t s) (C t.ws) 0)):=by
 have h1:=Vu (bid:=0) (S:=fun i=>JJ t s i) (AHq c hs) (fQ t s _ (As (by omega))) (C t.fl) 0 (by omega);have h2:=Vu (bid:=2) (S:=fun i=>HE t s i) (AHs c hs) (fV t s _ (As (by omega))) (C t.ws) 0 (by omega);refine B6 (fn:=iF g lM) (s:=SE (Kl (gF t s) (C t.fl) 0&&Kl (gW t s) (C t.ws) 0)) (ex := .ret) rfl rfl ?_ (by nofun) rfl;rw[A6g];refine N (Ajd t s) ?_;rcases Q (Kl (gF t s) (C t.fl) 0) with a | a <;> rw[a] at h1 |- <;> simp only[if_true,AC,if_false] at h1
 ·refine N (N (W8 t s) (w [2,3] (A0 h1) (by kernel_rfl:_=sC t s))) ?_;rcases Q (Kl (gW t s) (C t.ws) 0) with b | b <;> rw[b] at h2 |- <;> simp only[if_true,AC,if_false] at h2
  ·exact N (N (W9 t s) (w [2,3] (A0 h2) (by kernel_rfl:_=sC t s))) (Aje t s)
  ·exact m (N (W9 t s) (AG h2))
 ·exact m (N (W8 t s) (AG h1))
theorem WB(f:TOk t)(L:RQ 46 [t.av] (A D 0)):∃ x,RQ 12 [t.av,M s.cs] (A D x)/\RQ 13 [t.av,M s.cs] (A D x):=by
 have j:=A6d f;suffices h:∃ x,Aa (.seq On (.seq Ajg (.seq (.seq Aji (.block 1 (.loop Qm))) (.seq (.seq Ajk (.block 3 (.loop SF))) Ajl)))) (Jh t s) .ret (Ji x) /\
   Aa (.seq Qo (.seq sZ (.seq (.seq XD (.block 0 (.loop Qp))) (.seq (.seq XE (.block 2 (.loop Oo))) (.seq (.seq XF (.block 4 (.loop SG))) (.seq SI (.seq (.seq Rp (.block 8 (.loop ME))) Vs))))))) (I4 t s) .ret (J1 x) by
  obtain⟨x,p,q⟩:=h;refine⟨x,B6 (fn:=iF g Yv) (s:=Ji x) (ex := .ret) rfl rfl ?_ (by nofun) rfl,B6 (fn:=iF g O8) (s:=J1 x) (ex := .ret) rfl rfl ?_ (by nofun) rfl⟩
  ·rw[A6i];exact N (Ajf t s) p
  ·rw[A6l];exact N (Ajn t s) (N (Ajo t s L) q)
 rcases Q ((C s.bs:Int) != t.r1) with c1 | c1
 ·exact⟨10,m (sD t s c1 j),m (ALd t s c1)⟩
 rcases Q ((C s.ks:Int) != (C t.fl:Int)) with c2 | c2
 ·exact⟨10,m (sE t s c1 c2 j),m (sV t s c1 c2)⟩
 rcases Q ((C s.ss:Int) != (C t.fl:Int)) with c3 | c3
 ·exact⟨10,m (ALb t s c1 c2 c3 j),m (sW t s c1 c2 c3)⟩
 rcases Q ((C s.az:Int) != (C t.ws:Int)) with c4 | c4
 ·exact⟨10,m (sG t s c1 c2 c3 c4 j),m (sX t s c1 c2 c3 c4)⟩
 have V:=bne_eq_false_iff_eq.1 c1;have W:=bne_eq_false_iff_eq.1 c2;have X:=bne_eq_false_iff_eq.1 c3;have Y:=bne_eq_false_iff_eq.1 c4;have Z:=f.r1;have hs:s.sh t.r1.toNat (C t.fl) (C t.ws):=⟨by omega,by omega,by omega,by omega⟩;have hb:C s.bs<=100:=by omega
 obtain⟨n,O,P⟩:∃ n:El->Bool,(∀ e,RQ 51 [t.av,M (cB e)] (I (n e)))/\∀ e,RQ 53 [t.av,M (cB e)] (I (n e)) :=
  ⟨fun e=>(SJ f e).choose,fun e=>(SJ f e).choose_spec.1,fun e=>(SJ f e).choose_spec.2⟩
 obtain⟨o,h16,h17⟩:∃ o:El->Nat->Bool,(∀ e i,RQ 16 (ovA t s e i) (I (o e i)))/\∀ e i,RQ 17 (ovA t s e i) (I (o e i)) :=
  have h:∀ (e:El) (i:Nat),∃ b,RQ 16 (ovA t s e i) (I b)/\RQ 17 (ovA t s e i) (I b):=fun e i=>Asp f hs (SD f s _ _);⟨fun e i=>(h e i).choose,fun e i=>(h e i).choose_spec.1,fun e i=>(h e i).choose_spec.2⟩
 have B:=Ajr f hs;have R:=fX (bid:=0) (S:=fun z i=>Kj t s z i) (AHr f hs) (fun z=>tD t s z _ (As (by omega))) (C t.fl) 0 (r 0 1099511627776 [s.k]) (by omega);have T:=fX (bid:=2) (S:=fun z i=>Jj t s z i) (AHt f hs) (fun z=>tI t s z _ (As (by omega))) (C t.ws) 0 (r 0 1099511627776 [s.k]&&Kl (gF t s) (C t.fl) 0) (by omega);have U:=fX (bid:=4) (S:=fun z i=>MD t s z i) (AHv P hb) (fun z=>tQ t s z _ (As (by omega))) (C s.bs) 0 (r 0 1099511627776 [s.k]&&Kl (gF t s) (C t.fl) 0&&Kl (gW t s) (C t.ws) 0) (by omega);have u:=Vu (bid:=1) (S:=fun i=>J0 t s (kb (s.bs.take i)) i) (AHw O hb) (sP t s _ _ (As (by omega))) (C s.bs) 0 (by omega);have v:=Vu (bid:=3) (S:=fun i=>Lv t s i) (AHx h16 hb) (sT t s _ (As (by omega))) (C s.bs) 0 (by omega);have y:=Vu (bid:=8) (S:=fun i=>Lw t s i) (AHy h17 hb) (tV t s _ (As (by omega))) (C s.bs) 0 (by omega);have l:∀ {x:Int} {H:Bool},(r 0 1099511627776 [s.k]&&Kl (gF t s) (C t.fl) 0&&Kl (gW t s) (C t.ws) 0&&Kl (gB n s) (C s.bs) 0)=H ->
   Aa (.seq SI (.seq (.seq Rp (.block 8 (.loop ME))) Vs)) (Qn t s H) .ret (J1 x) ->
   Aa (.seq Qo (.seq sZ (.seq (.seq XD (.block 0 (.loop Qp))) (.seq (.seq XE (.block 2 (.loop Oo))) (.seq (.seq XF (.block 4 (.loop SG))) (.seq SI (.seq (.seq Rp (.block 8 (.loop ME))) Vs))))))) (I4 t s) .ret (J1 x):=fun e h=>by
  subst e;exact N (sY t s c1 c2 c3 c4) (N (Ajp t s) (N (N (Acy t s _) (w [2,3,5] (A0 R) (by kernel_rfl:_=Qn t s (r 0 1099511627776 [s.k]&&Kl (gF t s) (C t.fl) 0)))) (N (N (Acz t s _) (w [2,3,5] (A0 T) (by kernel_rfl:_=Qn t s (r 0 1099511627776 [s.k]&&Kl (gF t s) (C t.fl) 0&&Kl (gW t s) (C t.ws) 0)))) (N (N (Ada t s _) (w [2,3,5] (A0 U) (by kernel_rfl:_=Qn t s (r 0 1099511627776 [s.k]&&Kl (gF t s) (C t.fl) 0&&Kl (gW t s) (C t.ws) 0&&Kl (gB n s) (C s.bs) 0)))) h))))
 have E:Aa (.seq SI (.seq (.seq Rp (.block 8 (.loop ME))) Vs)) (Qn t s false) .ret (J1 5):=m (tR t s false rfl);rcases Q (r 0 1099511627776 [s.k]) with a | a
 ·rcases Q (Kl (gF t s) (C t.fl) 0&&Kl (gW t s) (C t.ws) 0) with b | b <;> rw[b] at B
  ·have F:=sH t s true c1 c2 c3 c4 a rfl j B;have G:=Ajh t s;have J:=Ajj t s [];rw[S' (r _ _ _),a,b,G8] at l;rcases Q (Kl (gB n s) (C s.bs) 0) with c | c <;> rw[c] at u l <;> simp only[if_true,AC,if_false] at u
   ·have K:=N J (w [2,3] (A0 u) (by kernel_rfl:_=Jh t s));rcases Q (Kl (gO o s) (C s.bs) 0) with d | d <;> rw[d] at v y <;> simp only[if_true,AC,if_false] at v y
    ·exact⟨0,N F (N G (N K (N (N (fW t s) (w [2,3] (A0 v) (by kernel_rfl:_=Jh t s))) (Ajm t s)))),
      l rfl (N (Uj t s true rfl) (N (N (WA t s) (w [2,3] (A0 y) (by kernel_rfl:_=I4 t s))) (Ajq t s)))⟩
    ·exact⟨11,N F (N G (N K (m (N (fW t s) (AG v))))),
      l rfl (N (Uj t s true rfl) (m (N (WA t s) (AG y))))⟩
   ·exact⟨5,N F (N G (m (N J (AG u)))),l rfl E⟩
  ·refine⟨5,m (sI t s false c1 c2 c3 c4 a rfl j B),l ?_ E⟩;rw[S' (r _ _ _),b,Fe,Ea]
 ·refine⟨5,m (sJ t s c1 c2 c3 c4 a j),l ?_ E⟩;rw[a,Ea,Ea,Ea]
end
theorem s:Be CQ []:=Be.nil _
section
variable(k:Int)(nb:Nat)(cb:u)(nk:Nat)(ck:u)(ns:Nat)(cs:u)(na:Nat)(ca:u)(co:Int)
def sS:u:=[A D k,E nb cb,E nk ck,  E ns cs,E na ca,A Bd co]
def sF:u:=[A D k,P 7 nb cb,P 1 nk ck,  P 1 ns cs,P 1 na ca,A Bd co]
end
def sU(k:Int)(nk:Nat)(ck:u)(ns:Nat)(cs:u)(na:Nat)(ca:u)(co:Int):u:=[A D k,.undef,E nk ck,  E ns cs,E na ca,A Bd co]
theorem mS(x n:Int)(c1:G (Ch x n<0)=true)(a:¬ n=0):RQ 47 [A D x,A D n] (A D (O D (Ch x n+n))):=ALa (fn:=iF g Axt) s rfl [bT] (Gd a c1)
theorem mT(x n:Int)(c1:G (Ch x n<0)=false)(a:¬ n=0):RQ 47 [A D x,A D n] (A D (Ch x n)):=ALa (fn:=iF g Axt) s rfl [Y] (Gd a c1)
section
variable(k:Int)(nb:Nat)(cb:u)(nk:Nat)(ck:u)(ns:Nat)(cs:u)(na:Nat)(ca:u)(co:Int)
theorem AAy(b:C cb=nb*7)(c:nb<=1048576)(d:C ck=nk*1)(e:nk<=1048576)(f:C cs=ns*1)(h:ns<=1048576)(i:C ca=na*1)(j:na<=1048576):RQ 25 [M (sS k nb cb nk ck ns cs na ca co)] (.frh (sF k nb cb nk ck ns cs na ca co)):=ALa (fn:=iF g ACh) s rfl [] (EQ b c d e f h i j)
def tX(a:LI):H:=V 1 (Ab (E (C a) (li a))::T (sS k nb cb nk ck ns cs na ca co)::V 1 (T [A D 0,.nil,.nil,.nil,.nil,A Bd 0]::V 170 []))
end
def Ajs:ICode := .region false (i (Ca O7 98 2))
section
variable(k:Int)(nb:Nat)(cb:u)(nk:Nat)(ck:u)(ns:Nat)(cs:u)(na:Nat)(ca:u)(co:Int)
theorem Ajt(a:LI)   : Aa Ajs (CL (iF g O7) [M (sS k nb cb nk ck ns cs na ca co),E (C a) (li a)]) .norm (tX k nb cb nk ck ns cs na ca co a):=B s [] [1,2,4] a0
def CG:H:=V 4 (T (sS k nb cb nk ck ns cs na ca co)::V 170 [])
end
def tY:ICode:=Ca O7 97 6
section
variable(k:Int)(nb:Nat)(cb:u)(nk:Nat)(ck:u)(ns:Nat)(cs:u)(na:Nat)(ca:u)(co:Int)
theorem tZ(a:LI)(c1:G ((C a:Int)<3)=true):Aa tY (tX k nb cb nk ck ns cs na ca co a) .ret (CG k nb cb nk ck ns cs na ca co):=B s [bT] [4] (Bc c1)
theorem uA(a:LI)(c1:G ((C a:Int)<3)=false):Aa tY (tX k nb cb nk ck ns cs na ca co a) .norm (tX k nb cb nk ck ns cs na ca co a):=B s [Y] [1,2,4] (Bc c1)
def AHz(d0 d1 d2:Int)(dr:LI):H:=V 1 (Ab (y li (d0::d1::d2::dr))::T (sS k nb cb nk ck ns cs na ca co)::V 1 (T [A D 0,.nil,.nil,.nil,.nil,A Bd 0]::V 170 []))
def A6n(d0 d1 d2:Int)(dr:LI):H:=V 1 (Ab (y li (d0::d1::d2::dr))::.bxf (sF k nb cb nk ck ns cs na ca co) [(1,y li (d0::d1::d2::dr))]::V 1 (T [A D 0,.nil,.nil,.nil,.nil,A Bd 0]::V 170 []))
end
def Aju:ICode := .region false (i (Ca O7 96 14))
section
variable(k:Int)(nb:Nat)(cb:u)(nk:Nat)(ck:u)(ns:Nat)(cs:u)(na:Nat)(ca:u)(co a b c:Int)(dr:LI)
theorem Ajv(d:RQ 25 [M (sS k nb cb nk ck ns cs na ca co)] (.frh (sF k nb cb nk ck ns cs na ca co))):Aa Aju (AHz k nb cb nk ck ns cs na ca co a b c dr) .norm (A6n k nb cb nk ck ns cs na ca co a b c dr):=B s [.r (.frh (sF k nb cb nk ck ns cs na ca co))] [1,2,4] (Bc d)
def BV(i n:Int):H:=V 1 (Ab (y li (a::b::c::dr))::.bxf (sF k nb cb nk ck ns cs na ca co) [(1,y li (a::b::c::dr))]::V 1 (T [A D 0,.nil,.nil,.nil,.nil,A Bd 0]::vi i::vi n::V 168 []))
end
def Ajw:ICode := .region true (i (Ca O7 95 30))
section
variable(k:Int)(nb:Nat)(cb:u)(nk:Nat)(ck:u)(ns:Nat)(cs:u)(na:Nat)(ca:u)(co d a c:Int)(dr:LI)
theorem Ajx(e:0<=(1:Int)/\(1:Int)<(C (d::a::c::dr):Int))(f:0<=(2:Int)/\(2:Int)<(C (d::a::c::dr):Int)):Aa Ajw (A6n k nb cb nk ck ns cs na ca co d a c dr) .norm (BV k nb cb nk ck ns cs na ca co d a c dr a c):=B s [.v (A D a),.v (A D c)] [1,2,4,5,6] (Fk e (b e) f (b f))
def Km(i n:Int):H:=V 1 (Ab (y li (d::a::c::dr))::.bxh (sU k nk ck ns cs na ca co) [(1,23)]::V 1 (T [A D 0,.nil,.nil,.nil,.nil,A Bd 0]::vi i::vi n::V 16 (Av 7 nb cb::V 151 [])))
def Rq(i n:Int):H:=V 1 (Ab (y li (d::a::c::dr))::.bxh (sU k nk ck ns cs na ca co) [(1,88)]::V 1 (T [A D 0,.nil,.nil,.nil,.nil,A Bd 0]::vi i::vi n::V 81 (Av 7 nb cb::V 86 [])))
end
def HU:ICode:=Ca O7 94 62
section
variable(k:Int)(nb:Nat)(cb:u)(nk:Nat)(ck:u)(ns:Nat)(cs:u)(na:Nat)(ca:u)(co a d f:Int)(dr:LI)(i n:Int)
theorem uB(c1:G (Bn a 20<=6)=false)(c2:G ((nb:Int)>0)=false):Aa HU (BV k nb cb nk ck ns cs na ca co a d f dr i n) .norm (BV k nb cb nk ck ns cs na ca co a d f dr i n):=B s [Y,Y] [1,2,4,5,6] (Gd c1 c2)
theorem uC(c1:G (Bn a 20<=6)=true)(c2:G ((nb:Int)>0)=false)(j:BW ((sF k nb cb nk ck ns cs na ca co):u) CC=true):Aa HU (BV k nb cb nk ck ns cs na ca co a d f dr i n) .norm (Km k nb cb nk ck ns cs na ca co a d f dr i n):=B s [bT,Y] Yz (Fa c1 j c2)
theorem uD(m c:Int)(c1:G (Bn a 20<=6)=false)(c2:G ((nb:Int)>0)=true)(c3:(m==0)=false)(c4:(m==1)=false)(x:(m==2)=false)(y:(m==3)=false)(z:(m==4)=false)(E:(m==5)=false)(H:(m==6)=false)(j:0<=c/\c<nb)(g:0<=(0:Int)/\(0:Int)<(C (a::d::f::dr):Int))(o:RQ 47 [A D i,A D nb] (A D c))(p:RQ 47 [A D a,A D 20] (A D m)):Aa HU (BV k nb cb nk ck ns cs na ca co a d f dr i n) .norm (BV k nb cb nk ck ns cs na ca co a d f dr i n):=B s [Y,bT,.r (A D c),.v (A D a),.r (A D m),Y,Y,Y,Y,Y,Y,Y] [1,2,4,5,6] (Ec c1 c2 o j g (b g) p c3 (EP c4 x y z E H))
theorem kA(m c:Int)(h:u)(c1:G (Bn a 20<=6)=true)(c2:G ((nb:Int)>0)=true)(c3:(m==0)=true)(j:0<=c/\c<nb)(g:0<=(0:Int)/\(0:Int)<(C (a::d::f::dr):Int))(o:BW ((sF k nb cb nk ck ns cs na ca co):u) CC=true)(p:RQ 47 [A D i,A D nb] (A D c))(q:RQ 47 [A D a,A D 20] (A D m))(t:Cg cb ((J c*7+3)+0) [A D n]=some h):Aa HU (BV k nb cb nk ck ns cs na ca co a d f dr i n) .norm (Km k nb h nk ck ns cs na ca co a d f dr i n):=B s [bT,bT,.r (A D c),.v (A D a),.r (A D m),bT,.l h] Yz (Fm c1 o c2 p j g (b g) q c3 t)
theorem kB(m c:Int)(h:u)(c1:G (Bn a 20<=6)=true)(c2:G ((nb:Int)>0)=true)(c3:(m==0)=false)(c4:(m==1)=true)(j:0<=c/\c<nb)(g:0<=(0:Int)/\(0:Int)<(C (a::d::f::dr):Int))(o:BW ((sF k nb cb nk ck ns cs na ca co):u) CC=true)(p:RQ 47 [A D i,A D nb] (A D c))(q:RQ 47 [A D a,A D 20] (A D m))(t:Cg cb ((J c*7+5)+1) [A D n]=some h):Aa HU (BV k nb cb nk ck ns cs na ca co a d f dr i n) .norm (Km k nb h nk ck ns cs na ca co a d f dr i n):=B s [bT,bT,.r (A D c),.v (A D a),.r (A D m),Y,bT,.l h] Yz (G3 c1 o c2 p j g (b g) q c3 c4 t)
theorem kC(m c:Int)(h:u)(c1:G (Bn a 20<=6)=true)(c2:G ((nb:Int)>0)=true)(c3:(m==0)=false)(c4:(m==1)=false)(x:(m==2)=true)(j:0<=c/\c<nb)(g:0<=(0:Int)/\(0:Int)<(C (a::d::f::dr):Int))(o:BW ((sF k nb cb nk ck ns cs na ca co):u) CC=true)(p:RQ 47 [A D i,A D nb] (A D c))(q:RQ 47 [A D a,A D 20] (A D m))(t:Cg cb (J c*7+2) [A D n]=some h):Aa HU (BV k nb cb nk ck ns cs na ca co a d f dr i n) .norm (Km k nb h nk ck ns cs na ca co a d f dr i n):=B s [bT,bT,.r (A D c),.v (A D a),.r (A D m),Y,Y,bT,.l h] Yz (Em c1 o c2 p j g (b g) q c3 c4 x t)
theorem kD(m w c:Int)(h:u)(c1:G (Bn a 20<=6)=true)(c2:G ((nb:Int)>0)=true)(c3:(m==0)=false)(c4:(m==1)=false)(x:(m==2)=false)(y:(m==3)=true)(j:0<=c/\c<nb)(g:0<=(0:Int)/\(0:Int)<(C (a::d::f::dr):Int))(o:BW ((sF k nb cb nk ck ns cs na ca co):u) CC=true)(p:RQ 47 [A D i,A D nb] (A D c))(q:RQ 47 [A D a,A D 20] (A D m))(t:RQ 47 [A D n,A D 4] (A D w))(F:Cg cb (J c*7+0) [A D w]=some h):Aa HU (BV k nb cb nk ck ns cs na ca co a d f dr i n) .norm (Km k nb h nk ck ns cs na ca co a d f dr i n):=B s [bT,bT,.r (A D c),.v (A D a),.r (A D m),Y,Y,Y,bT,.r (A D w),.l h] Yz (Ec c1 o c2 p j g (b g) q (EP c3 c4 x y t F))
theorem kE(m c:Int)(h:u)(c1:G (Bn a 20<=6)=true)(c2:G ((nb:Int)>0)=true)(c3:(m==0)=false)(c4:(m==1)=false)(x:(m==2)=false)(y:(m==3)=false)(z:(m==4)=true)(j:0<=c/\c<nb)(g:0<=(0:Int)/\(0:Int)<(C (a::d::f::dr):Int))(o:BW ((sF k nb cb nk ck ns cs na ca co):u) CC=true)(p:RQ 47 [A D i,A D nb] (A D c))(q:RQ 47 [A D a,A D 20] (A D m))(t:Cg cb (J c*7+1) [A D n]=some h):Aa HU (BV k nb cb nk ck ns cs na ca co a d f dr i n) .norm (Km k nb h nk ck ns cs na ca co a d f dr i n):=B s [bT,bT,.r (A D c),.v (A D a),.r (A D m),Y,Y,Y,Y,bT,.l h] Yz (Ec c1 o c2 p j g (b g) q (EP c3 c4 x y z t))
theorem kF(m c:Int)(h I:u)(c1:G (Bn a 20<=6)=true)(c2:G ((nb:Int)>0)=true)(c3:(m==0)=false)(c4:(m==1)=false)(x:(m==2)=false)(y:(m==3)=false)(z:(m==4)=false)(E:(m==5)=true)(j:0<=c/\c<nb)(g:0<=(0:Int)/\(0:Int)<(C (a::d::f::dr):Int))(o:BW ((sF k nb cb nk ck ns cs na ca co):u) CC=true)(p:RQ 47 [A D i,A D nb] (A D c))(q:RQ 47 [A D a,A D 20] (A D m))(t:Cg cb (J c*7+0) [A D 2]=some h)(F:Cg h (J c*7+5) [A D 0,A D 0]=some I):Aa HU (BV k nb cb nk ck ns cs na ca co a d f dr i n) .norm (Km k nb I nk ck ns cs na ca co a d f dr i n):=B s [bT,bT,.r (A D c),.v (A D a),.r (A D m),Y,Y,Y,Y,Y,bT,.l h,.l I] Yz (Ec c1 o c2 p j g (b g) q (EQ c3 c4 x y z E t F))
theorem kG(m c:Int)(e:El)(c1:G (Bn a 20<=6)=true)(c2:G ((nb:Int)>0)=true)(c3:(m==0)=false)(c4:(m==1)=false)(x:(m==2)=false)(y:(m==3)=false)(z:(m==4)=false)(E:(m==5)=false)(H:(m==6)=true)(j:0<=c/\c<nb)(g:0<=(0:Int)/\(0:Int)<(C (a::d::f::dr):Int))(o:nb+1<=1048576)(p:BW ((sF k nb cb nk ck ns cs na ca co):u) CC=true)(q:RQ 47 [A D i,A D nb] (A D c))(t:RQ 47 [A D a,A D 20] (A D m))(F:Ad cb (J c*7) 7 false=some (M (cB e))):Aa HU (BV k nb cb nk ck ns cs na ca co a d f dr i n) .norm (Rq k (nb+1) (cb++((cB e):u)) nk ck ns cs na ca co a d f dr i n):=B s [bT,bT,.r (A D c),.v (A D a),.r (A D m),Y,Y,Y,Y,Y,Y,bT,.v (M (cB e))] [1,2,4,5,6,88] (Ec c1 p c2 q j g (b g) t (Fm c3 c4 x y z E H F (show C ((cB e):u)=1*7 from rfl) o))
end
def CJ:ICode := .seq (Ca O7 93 126) (.seq (Ca O7 92 254) (.seq (Ca O7 91 510) (.seq (.region false (i (Ca O7 90 1022))) (.ret))))
section
variable(k:Int)(nb:Nat)(cb:u)(nk:Nat)(ck:u)(ns:Nat)(cs:u)(na:Nat)(ca:u)(co a f g:Int)(dr:LI)(i n:Int)
theorem fY(m:Int)(c1:(m==7)=false)(c2:(m==8)=false)(c3:(m==9)=false)(c4:(m==10)=false)(h:G ((nk:Int)>0)=false)(j:G ((na:Int)>0)=false)(c:0<=(0:Int)/\(0:Int)<(C (a::f::g::dr):Int))(d:RQ 47 [A D a,A D 20] (A D m)):Aa CJ (Km k nb cb nk ck ns cs na ca co a f g dr i n) .ret (CG k nb cb nk ck ns cs na ca co):=B s [.v (A D a),.r (A D m),Y,Y,Y,Y,Y,Y,Y] [4] (Fm c (b c) d c1 c2 c3 c4 h j iY)
theorem fZ(m:Int)(c1:(m==7)=false)(c2:(m==8)=false)(c3:(m==9)=false)(c4:(m==10)=false)(h:G ((nk:Int)>0)=false)(j:G ((na:Int)>0)=true)(o:(m==13)=false)(c:0<=(0:Int)/\(0:Int)<(C (a::f::g::dr):Int))(d:RQ 47 [A D a,A D 20] (A D m)):Aa CJ (Km k nb cb nk ck ns cs na ca co a f g dr i n) .ret (CG k nb cb nk ck ns cs na ca co):=B s [.v (A D a),.r (A D m),Y,Y,Y,Y,Y,bT,.v (A D a),.r (A D m),Y] [4] (Ec c (b c) d c1 c2 c3 c4 h (Fh j c (b c) d o))
theorem gA(m pk:Int)(c1:(m==7)=false)(c2:(m==8)=false)(c3:(m==9)=false)(c4:(m==10)=false)(h:G ((nk:Int)>0)=true)(j:(m==11)=false)(o:(m==12)=false)(p:G ((na:Int)>0)=false)(c:0<=(0:Int)/\(0:Int)<(C (a::f::g::dr):Int))(d:RQ 47 [A D a,A D 20] (A D m))(e:RQ 47 [A D i,A D nk] (A D pk)):Aa CJ (Km k nb cb nk ck ns cs na ca co a f g dr i n) .ret (CG k nb cb nk ck ns cs na ca co):=B s [.v (A D a),.r (A D m),Y,Y,Y,Y,bT,.r (A D pk),.v (A D a),.r (A D m),Y,Y,Y,Y] [4] (Ec c (b c) d c1 c2 c3 c4 h (EQ e c (b c) d j o p iY))
theorem gC(m pk:Int)(c1:(m==7)=false)(c2:(m==8)=false)(c3:(m==9)=false)(c4:(m==10)=false)(h:G ((nk:Int)>0)=true)(j:(m==11)=false)(o:(m==12)=false)(p:G ((na:Int)>0)=true)(q:(m==13)=false)(c:0<=(0:Int)/\(0:Int)<(C (a::f::g::dr):Int))(d:RQ 47 [A D a,A D 20] (A D m))(e:RQ 47 [A D i,A D nk] (A D pk)):Aa CJ (Km k nb cb nk ck ns cs na ca co a f g dr i n) .ret (CG k nb cb nk ck ns cs na ca co):=B s [.v (A D a),.r (A D m),Y,Y,Y,Y,bT,.r (A D pk),.v (A D a),.r (A D m),Y,Y,bT,.v (A D a),.r (A D m),Y] [4] (Ec c (b c) d c1 c2 c3 c4 h (G3 e c (b c) d j o p c (b c) d q))
theorem Vv(m:Int)(c1:(m==7)=false)(c2:(m==8)=false)(c3:(m==9)=false)(c4:(m==10)=false)(h:G ((nk:Int)>0)=false)(j:G ((na:Int)>0)=false)(c:0<=(0:Int)/\(0:Int)<(C (a::f::g::dr):Int))(d:RQ 47 [A D a,A D 20] (A D m)):Aa CJ (Rq k nb cb nk ck ns cs na ca co a f g dr i n) .ret (CG k nb cb nk ck ns cs na ca co):=B s [.v (A D a),.r (A D m),Y,Y,Y,Y,Y,Y,Y] [4] (Fm c (b c) d c1 c2 c3 c4 h j iY)
theorem Vw(m:Int)(c1:(m==7)=false)(c2:(m==8)=false)(c3:(m==9)=false)(c4:(m==10)=false)(h:G ((nk:Int)>0)=false)(j:G ((na:Int)>0)=true)(o:(m==13)=false)(c:0<=(0:Int)/\(0:Int)<(C (a::f::g::dr):Int))(d:RQ 47 [A D a,A D 20] (A D m)):Aa CJ (Rq k nb cb nk ck ns cs na ca co a f g dr i n) .ret (CG k nb cb nk ck ns cs na ca co):=B s [.v (A D a),.r (A D m),Y,Y,Y,Y,Y,bT,.v (A D a),.r (A D m),Y] [4] (Ec c (b c) d c1 c2 c3 c4 h (Fh j c (b c) d o))
theorem Vx(m pk:Int)(c1:(m==7)=false)(c2:(m==8)=false)(c3:(m==9)=false)(c4:(m==10)=false)(h:G ((nk:Int)>0)=true)(j:(m==11)=false)(o:(m==12)=false)(p:G ((na:Int)>0)=false)(c:0<=(0:Int)/\(0:Int)<(C (a::f::g::dr):Int))(d:RQ 47 [A D a,A D 20] (A D m))(e:RQ 47 [A D i,A D nk] (A D pk)):Aa CJ (Rq k nb cb nk ck ns cs na ca co a f g dr i n) .ret (CG k nb cb nk ck ns cs na ca co):=B s [.v (A D a),.r (A D m),Y,Y,Y,Y,bT,.r (A D pk),.v (A D a),.r (A D m),Y,Y,Y,Y] [4] (Ec c (b c) d c1 c2 c3 c4 h (EQ e c (b c) d j o p iY))
theorem Vy(m pk:Int)(c1:(m==7)=false)(c2:(m==8)=false)(c3:(m==9)=false)(c4:(m==10)=false)(h:G ((nk:Int)>0)=true)(j:(m==11)=false)(o:(m==12)=false)(p:G ((na:Int)>0)=true)(q:(m==13)=false)(c:0<=(0:Int)/\(0:Int)<(C (a::f::g::dr):Int))(d:RQ 47 [A D a,A D 20] (A D m))(e:RQ 47 [A D i,A D nk] (A D pk)):Aa CJ (Rq k nb cb nk ck ns cs na ca co a f g dr i n) .ret (CG k nb cb nk ck ns cs na ca co):=B s [.v (A D a),.r (A D m),Y,Y,Y,Y,bT,.r (A D pk),.v (A D a),.r (A D m),Y,Y,bT,.v (A D a),.r (A D m),Y] [4] (Ec c (b c) d c1 c2 c3 c4 h (G3 e c (b c) d j o p c (b c) d q))
theorem Xd(m:Int)(c1:(m==7)=true)(c2:G (Bn a 20<=11)=true)(c3:G ((nk:Int)>0)=false)(c4:G ((na:Int)>0)=false)(c:0<=(0:Int)/\(0:Int)<(C (a::f::g::dr):Int))(d:RQ 47 [A D a,A D 20] (A D m))(e:BW ([A D n,P 7 nb cb,P 1 nk ck,P 1 ns cs,P 1 na ca,A Bd co]:u) CC=true):Aa CJ (BV k nb cb nk ck ns cs na ca co a f g dr i n) .ret (CG n nb cb nk ck ns cs na ca co):=B s [.v (A D a),.r (A D m),bT,bT,Y,Y,Y] [4] (K0 c (b c) d c1 c2 e c3 c4 iY)
theorem Xe(m:Int)(c1:(m==7)=true)(c2:G (Bn a 20<=11)=true)(c3:G ((nk:Int)>0)=false)(c4:G ((na:Int)>0)=true)(h:(m==13)=false)(c:0<=(0:Int)/\(0:Int)<(C (a::f::g::dr):Int))(d:RQ 47 [A D a,A D 20] (A D m))(e:BW ([A D n,P 7 nb cb,P 1 nk ck,P 1 ns cs,P 1 na ca,A Bd co]:u) CC=true):Aa CJ (BV k nb cb nk ck ns cs na ca co a f g dr i n) .ret (CG n nb cb nk ck ns cs na ca co):=B s [.v (A D a),.r (A D m),bT,bT,Y,bT,.v (A D a),.r (A D m),Y] [4] (Em c (b c) d c1 c2 e c3 c4 c (b c) d h)
theorem Xf(m pk:Int)(c1:(m==7)=true)(c2:G (Bn a 20<=11)=true)(c3:G ((nk:Int)>0)=true)(c4:(m==11)=false)(h:(m==12)=false)(j:G ((na:Int)>0)=false)(c:0<=(0:Int)/\(0:Int)<(C (a::f::g::dr):Int))(d:RQ 47 [A D a,A D 20] (A D m))(e:BW ([A D n,P 7 nb cb,P 1 nk ck,P 1 ns cs,P 1 na ca,A Bd co]:u) CC=true)(t:RQ 47 [A D i,A D nk] (A D pk)):Aa CJ (BV k nb cb nk ck ns cs na ca co a f g dr i n) .ret (CG n nb cb nk ck ns cs na ca co):=B s [.v (A D a),.r (A D m),bT,bT,bT,.r (A D pk),.v (A D a),.r (A D m),Y,Y,Y,Y] [4] (Ec c (b c) d c1 c2 e c3 t (Gs c (b c) d c4 h j iY))
theorem Xg(m pk:Int)(c1:(m==7)=true)(c2:G (Bn a 20<=11)=true)(c3:G ((nk:Int)>0)=true)(c4:(m==11)=false)(h:(m==12)=false)(j:G ((na:Int)>0)=true)(o:(m==13)=false)(c:0<=(0:Int)/\(0:Int)<(C (a::f::g::dr):Int))(d:RQ 47 [A D a,A D 20] (A D m))(e:BW ([A D n,P 7 nb cb,P 1 nk ck,P 1 ns cs,P 1 na ca,A Bd co]:u) CC=true)(t:RQ 47 [A D i,A D nk] (A D pk)):Aa CJ (BV k nb cb nk ck ns cs na ca co a f g dr i n) .ret (CG n nb cb nk ck ns cs na ca co):=B s [.v (A D a),.r (A D m),bT,bT,bT,.r (A D pk),.v (A D a),.r (A D m),Y,Y,bT,.v (A D a),.r (A D m),Y] [4] (Ec c (b c) d c1 c2 e c3 t (Fm c (b c) d c4 h j c (b c) d o))
theorem Xh(m pk:Int)(c1:(m==7)=false)(c2:(m==8)=true)(c3:G (Bn a 20<=19)=true)(c4:G ((((nk+1):Nat):Int)>0)=true)(h:(m==11)=false)(j:(m==12)=false)(o:G ((na:Int)>0)=false)(c:0<=(0:Int)/\(0:Int)<(C (a::f::g::dr):Int))(d:nk+1<=1048576)(e:RQ 47 [A D a,A D 20] (A D m))(t:BW ((sF k nb cb nk ck ns cs na ca co):u) CC=true)(w:RQ 47 [A D i,A D (((nk+1):Nat))] (A D pk)):Aa CJ (BV k nb cb nk ck ns cs na ca co a f g dr i n) .ret (CG k nb cb (nk+1) (ck++([A D n]:u)) ns cs na ca co):=B s [.v (A D a),.r (A D m),Y,bT,bT,bT,.r (A D pk),.v (A D a),.r (A D m),Y,Y,Y,Y] [4] (Ec c (b c) e c1 c2 c3 t (show C ([A D n]:u)=1*1 from rfl) (Fm d c4 w c (b c) e h j o iY))
theorem Xi(m pk:Int)(c1:(m==7)=false)(c2:(m==8)=true)(c3:G (Bn a 20<=19)=true)(c4:G ((((nk+1):Nat):Int)>0)=true)(h:(m==11)=false)(j:(m==12)=false)(o:G ((na:Int)>0)=true)(p:(m==13)=false)(c:0<=(0:Int)/\(0:Int)<(C (a::f::g::dr):Int))(d:nk+1<=1048576)(e:RQ 47 [A D a,A D 20] (A D m))(t:BW ((sF k nb cb nk ck ns cs na ca co):u) CC=true)(w:RQ 47 [A D i,A D (((nk+1):Nat))] (A D pk)):Aa CJ (BV k nb cb nk ck ns cs na ca co a f g dr i n) .ret (CG k nb cb (nk+1) (ck++([A D n]:u)) ns cs na ca co):=B s [.v (A D a),.r (A D m),Y,bT,bT,bT,.r (A D pk),.v (A D a),.r (A D m),Y,Y,bT,.v (A D a),.r (A D m),Y] [4] (ac c (Ec (b c) e c1 c2 c3 t (show C ([A D n]:u)=1*1 from rfl) d (Em c4 w c (b c) e h j o c (b c) e p)))
theorem Xj(m:Int)(c1:(m==7)=false)(c2:(m==8)=false)(c3:(m==9)=true)(c4:G (Bn a 20<=19)=true)(h:G ((nk:Int)>0)=false)(j:G ((((na+1):Nat):Int)>0)=true)(o:(m==13)=false)(c:0<=(0:Int)/\(0:Int)<(C (a::f::g::dr):Int))(d:na+1<=1048576)(e:RQ 47 [A D a,A D 20] (A D m))(t:BW ((sF k nb cb nk ck ns cs na ca co):u) CC=true):Aa CJ (BV k nb cb nk ck ns cs na ca co a f g dr i n) .ret (CG k nb cb nk ck ns cs (na+1) (ca++([I false]:u)) co):=B s [.v (A D a),.r (A D m),Y,Y,bT,bT,Y,bT,.v (A D a),.r (A D m),Y] [4] (Ec c (b c) e c1 c2 c3 c4 t (EQ (show C ([I false]:u)=1*1 from rfl) d h j c (b c) e o))
theorem Xk(m pk:Int)(c1:(m==7)=false)(c2:(m==8)=false)(c3:(m==9)=true)(c4:G (Bn a 20<=19)=true)(h:G ((nk:Int)>0)=true)(j:(m==11)=false)(o:(m==12)=false)(p:G ((((na+1):Nat):Int)>0)=true)(q:(m==13)=false)(c:0<=(0:Int)/\(0:Int)<(C (a::f::g::dr):Int))(d:na+1<=1048576)(e:RQ 47 [A D a,A D 20] (A D m))(t:BW ((sF k nb cb nk ck ns cs na ca co):u) CC=true)(w:RQ 47 [A D i,A D nk] (A D pk)):Aa CJ (BV k nb cb nk ck ns cs na ca co a f g dr i n) .ret (CG k nb cb nk ck ns cs (na+1) (ca++([I false]:u)) co):=B s [.v (A D a),.r (A D m),Y,Y,bT,bT,bT,.r (A D pk),.v (A D a),.r (A D m),Y,Y,bT,.v (A D a),.r (A D m),Y] [4] (ac c (ac (b c) (Ec e c1 c2 c3 c4 t (show C ([I false]:u)=1*1 from rfl) d (Em h w c (b c) e j o p c (b c) e q))))
theorem Vz(m:Int)(c1:(m==7)=false)(c2:(m==8)=false)(c3:(m==9)=false)(c4:(m==10)=true)(h:G (Bn a 20<=11)=true)(j:G ((nk:Int)>0)=false)(o:G ((na:Int)>0)=false)(c:0<=(0:Int)/\(0:Int)<(C (a::f::g::dr):Int))(d:RQ 47 [A D a,A D 20] (A D m))(e:BW ([A D k,.nil,P 1 nk ck,P 1 ns cs,P 1 na ca,A Bd co]:u) CC=true):Aa CJ (BV k nb cb nk ck ns cs na ca co a f g dr i n) .ret (CG k 0 ([]:u) nk ck ns cs na ca co):=B s [.v (A D a),.r (A D m),Y,Y,Y,bT,bT,Y,Y,Y] [4] (Em c (b c) d c1 c2 c3 c4 h e j o iY)
theorem V0(m:Int)(c1:(m==7)=false)(c2:(m==8)=false)(c3:(m==9)=false)(c4:(m==10)=true)(h:G (Bn a 20<=11)=true)(j:G ((nk:Int)>0)=false)(o:G ((na:Int)>0)=true)(p:(m==13)=false)(c:0<=(0:Int)/\(0:Int)<(C (a::f::g::dr):Int))(d:RQ 47 [A D a,A D 20] (A D m))(e:BW ([A D k,.nil,P 1 nk ck,P 1 ns cs,P 1 na ca,A Bd co]:u) CC=true):Aa CJ (BV k nb cb nk ck ns cs na ca co a f g dr i n) .ret (CG k 0 ([]:u) nk ck ns cs na ca co):=B s [.v (A D a),.r (A D m),Y,Y,Y,bT,bT,Y,bT,.v (A D a),.r (A D m),Y] [4] (Ec c (b c) d c1 c2 c3 c4 h (Gs e j o c (b c) d p))
theorem V1(m pk:Int)(c1:(m==7)=false)(c2:(m==8)=false)(c3:(m==9)=false)(c4:(m==10)=true)(h:G (Bn a 20<=11)=true)(j:G ((nk:Int)>0)=true)(o:(m==11)=false)(p:(m==12)=false)(q:G ((na:Int)>0)=false)(c:0<=(0:Int)/\(0:Int)<(C (a::f::g::dr):Int))(d:RQ 47 [A D a,A D 20] (A D m))(e:BW ([A D k,.nil,P 1 nk ck,P 1 ns cs,P 1 na ca,A Bd co]:u) CC=true)(t:RQ 47 [A D i,A D nk] (A D pk)):Aa CJ (BV k nb cb nk ck ns cs na ca co a f g dr i n) .ret (CG k 0 ([]:u) nk ck ns cs na ca co):=B s [.v (A D a),.r (A D m),Y,Y,Y,bT,bT,bT,.r (A D pk),.v (A D a),.r (A D m),Y,Y,Y,Y] [4] (Ec c (b c) d c1 c2 c3 c4 h (Fm e j t c (b c) d o p q iY))
theorem V2(m pk:Int)(c1:(m==7)=false)(c2:(m==8)=false)(c3:(m==9)=false)(c4:(m==10)=true)(h:G (Bn a 20<=11)=true)(j:G ((nk:Int)>0)=true)(o:(m==11)=false)(p:(m==12)=false)(q:G ((na:Int)>0)=true)(x:(m==13)=false)(c:0<=(0:Int)/\(0:Int)<(C (a::f::g::dr):Int))(d:RQ 47 [A D a,A D 20] (A D m))(e:BW ([A D k,.nil,P 1 nk ck,P 1 ns cs,P 1 na ca,A Bd co]:u) CC=true)(t:RQ 47 [A D i,A D nk] (A D pk)):Aa CJ (BV k nb cb nk ck ns cs na ca co a f g dr i n) .ret (CG k 0 ([]:u) nk ck ns cs na ca co):=B s [.v (A D a),.r (A D m),Y,Y,Y,bT,bT,bT,.r (A D pk),.v (A D a),.r (A D m),Y,Y,bT,.v (A D a),.r (A D m),Y] [4] (ac c (Ec (b c) d c1 c2 c3 c4 h e (Em j t c (b c) d o p q c (b c) d x)))
theorem V3(m:Int)(c1:(m==7)=false)(c2:(m==8)=false)(c3:(m==9)=false)(c4:(m==10)=false)(h:G (Bn a 20<=11)=true)(j:G ((nk:Int)>0)=false)(o:G ((na:Int)>0)=false)(c:0<=(0:Int)/\(0:Int)<(C (a::f::g::dr):Int))(d:RQ 47 [A D a,A D 20] (A D m))(e:BW ((sF k nb cb nk ck ns cs na ca co):u) CC=true):Aa CJ (BV k nb cb nk ck ns cs na ca co a f g dr i n) .ret (CG k nb cb nk ck ns cs na ca co):=B s [.v (A D a),.r (A D m),Y,Y,Y,Y,bT,Y,Y,Y] [4] (Em c (b c) d c1 c2 c3 c4 h e j o iY)
theorem V4(m:Int)(c1:(m==7)=false)(c2:(m==8)=false)(c3:(m==9)=false)(c4:(m==10)=false)(h:G (Bn a 20<=11)=true)(j:G ((nk:Int)>0)=false)(o:G ((na:Int)>0)=true)(p:(m==13)=false)(c:0<=(0:Int)/\(0:Int)<(C (a::f::g::dr):Int))(d:RQ 47 [A D a,A D 20] (A D m))(e:BW ((sF k nb cb nk ck ns cs na ca co):u) CC=true):Aa CJ (BV k nb cb nk ck ns cs na ca co a f g dr i n) .ret (CG k nb cb nk ck ns cs na ca co):=B s [.v (A D a),.r (A D m),Y,Y,Y,Y,bT,Y,bT,.v (A D a),.r (A D m),Y] [4] (Ec c (b c) d c1 c2 c3 c4 h (Gs e j o c (b c) d p))
theorem V5(m pk:Int)(E:u)(c1:(m==7)=false)(c2:(m==8)=false)(c3:(m==9)=false)(c4:(m==10)=false)(h:G (Bn a 20<=11)=true)(j:G ((nk:Int)>0)=true)(o:(m==11)=true)(p:G ((na:Int)>0)=false)(c:0<=(0:Int)/\(0:Int)<(C (a::f::g::dr):Int))(d:0<=pk/\pk<nk)(e:RQ 47 [A D a,A D 20] (A D m))(t:BW ((sF k nb cb nk ck ns cs na ca co):u) CC=true)(w:RQ 47 [A D i,A D nk] (A D pk))(z:Cg ck (J pk*1) [A D n]=some E):Aa CJ (BV k nb cb nk ck ns cs na ca co a f g dr i n) .ret (CG k nb cb nk E ns cs na ca co):=B s [.v (A D a),.r (A D m),Y,Y,Y,Y,bT,bT,.r (A D pk),.v (A D a),.r (A D m),bT,.l E,Y,Y] [4] (Ec c (b c) e c1 c2 c3 c4 h (G3 t j w c (b c) e o d z p iY))
theorem V6(m pk:Int)(E:u)(c1:(m==7)=false)(c2:(m==8)=false)(c3:(m==9)=false)(c4:(m==10)=false)(h:G (Bn a 20<=11)=true)(j:G ((nk:Int)>0)=true)(o:(m==11)=true)(p:G ((na:Int)>0)=true)(q:(m==13)=false)(c:0<=(0:Int)/\(0:Int)<(C (a::f::g::dr):Int))(d:0<=pk/\pk<nk)(e:RQ 47 [A D a,A D 20] (A D m))(t:BW ((sF k nb cb nk ck ns cs na ca co):u) CC=true)(w:RQ 47 [A D i,A D nk] (A D pk))(z:Cg ck (J pk*1) [A D n]=some E):Aa CJ (BV k nb cb nk ck ns cs na ca co a f g dr i n) .ret (CG k nb cb nk E ns cs na ca co):=B s [.v (A D a),.r (A D m),Y,Y,Y,Y,bT,bT,.r (A D pk),.v (A D a),.r (A D m),bT,.l E,bT,.v (A D a),.r (A D m),Y] [4] (ac c (ac (b c) (Ec e c1 c2 c3 c4 h t j (Em w c (b c) e o d z p c (b c) e q))))
theorem V7(m:Int)(c1:(m==7)=false)(c2:(m==8)=false)(c3:(m==9)=false)(c4:(m==10)=false)(h:G (Bn a 20<=11)=false)(j:G ((nk:Int)>0)=false)(o:G (Bn a 20<=13)=true)(p:G ((na:Int)>0)=false)(c:0<=(0:Int)/\(0:Int)<(C (a::f::g::dr):Int))(d:RQ 47 [A D a,A D 20] (A D m))(e:BW ((sF k nb cb nk ck ns cs na ca co):u) CC=true):Aa CJ (BV k nb cb nk ck ns cs na ca co a f g dr i n) .ret (CG k nb cb nk ck ns cs na ca co):=B s [.v (A D a),.r (A D m),Y,Y,Y,Y,Y,Y,bT,Y,Y] [4] (Ec c (b c) d c1 c2 c3 c4 h (Fh j o e p iY))
theorem V8(m:Int)(c1:(m==7)=false)(c2:(m==8)=false)(c3:(m==9)=false)(c4:(m==10)=false)(h:G (Bn a 20<=11)=false)(j:G ((nk:Int)>0)=false)(o:G (Bn a 20<=13)=true)(p:G ((na:Int)>0)=true)(q:(m==13)=false)(c:0<=(0:Int)/\(0:Int)<(C (a::f::g::dr):Int))(d:RQ 47 [A D a,A D 20] (A D m))(e:BW ((sF k nb cb nk ck ns cs na ca co):u) CC=true):Aa CJ (BV k nb cb nk ck ns cs na ca co a f g dr i n) .ret (CG k nb cb nk ck ns cs na ca co):=B s [.v (A D a),.r (A D m),Y,Y,Y,Y,Y,Y,bT,bT,.v (A D a),.r (A D m),Y] [4] (Ec c (b c) d c1 c2 c3 c4 h (EQ j o e p c (b c) d q))
theorem V9(m pk:Int)(F:u)(c1:(m==7)=false)(c2:(m==8)=false)(c3:(m==9)=false)(c4:(m==10)=false)(h:G (Bn a 20<=11)=false)(j:G ((nk:Int)>0)=true)(o:(m==11)=false)(p:(m==12)=true)(q:G (Bn a 20<=19)=true)(x:G ((na:Int)>0)=false)(c:0<=(0:Int)/\(0:Int)<(C (a::f::g::dr):Int))(d:0<=(if (O D (ns-1))<pk then (O D (ns-1)) else pk)/\(if (O D (ns-1))<pk then (O D (ns-1)) else pk)<(ns:Int))(e:RQ 47 [A D a,A D 20] (A D m))(t:RQ 47 [A D i,A D nk] (A D pk))(w:BW ((sF k nb cb nk ck ns cs na ca co):u) CC=true)(z:Cg cs (J (if (O D (ns-1))<pk then (O D (ns-1)) else pk)*1) [A D n]=some F):Aa CJ (BV k nb cb nk ck ns cs na ca co a f g dr i n) .ret (CG k nb cb nk ck ns F na ca co):=B s [.v (A D a),.r (A D m),Y,Y,Y,Y,Y,bT,.r (A D pk),.v (A D a),.r (A D m),Y,bT,bT,.l F,Y,Y] [4] (ac c (Ec (b c) e c1 c2 c3 c4 h j (Em t c (b c) e o p q w d z x iY)))
theorem VA(m pk:Int)(F:u)(c1:(m==7)=false)(c2:(m==8)=false)(c3:(m==9)=false)(c4:(m==10)=false)(h:G (Bn a 20<=11)=false)(j:G ((nk:Int)>0)=true)(o:(m==11)=false)(p:(m==12)=true)(q:G (Bn a 20<=19)=true)(x:G ((na:Int)>0)=true)(K:(m==13)=false)(c:0<=(0:Int)/\(0:Int)<(C (a::f::g::dr):Int))(d:0<=(if (O D (ns-1))<pk then (O D (ns-1)) else pk)/\(if (O D (ns-1))<pk then (O D (ns-1)) else pk)<(ns:Int))(e:RQ 47 [A D a,A D 20] (A D m))(t:RQ 47 [A D i,A D nk] (A D pk))(w:BW ((sF k nb cb nk ck ns cs na ca co):u) CC=true)(z:Cg cs (J (if (O D (ns-1))<pk then (O D (ns-1)) else pk)*1) [A D n]=some F):Aa CJ (BV k nb cb nk ck ns cs na ca co a f g dr i n) .ret (CG k nb cb nk ck ns F na ca co):=B s [.v (A D a),.r (A D m),Y,Y,Y,Y,Y,bT,.r (A D pk),.v (A D a),.r (A D m),Y,bT,bT,.l F,bT,.v (A D a),.r (A D m),Y] [4] (ac c (ac (b c) (ac e (ac c1 (Ec c2 c3 c4 h j t c (b c) (Em e o p q w d z x c (b c) e K))))))
theorem VB(m:Int)(c1:(m==7)=false)(c2:(m==8)=false)(c3:(m==9)=false)(c4:(m==10)=false)(h:G (Bn a 20<=11)=false)(j:G ((nk:Int)>0)=false)(o:G (Bn a 20<=13)=true)(p:G ((na:Int)>0)=false)(c:0<=(0:Int)/\(0:Int)<(C (a::f::g::dr):Int))(d:RQ 47 [A D a,A D 20] (A D m))(e:BW ((sF k nb cb nk ck ns cs na ca co):u) CC=true):Aa CJ (BV k nb cb nk ck ns cs na ca co a f g dr i n) .ret (CG k nb cb nk ck ns cs na ca co):=B s [.v (A D a),.r (A D m),Y,Y,Y,Y,Y,Y,bT,Y,Y] [4] (Ec c (b c) d c1 c2 c3 c4 h (Fh j o e p iY))
theorem VC(m y:Int)(H:u)(av:Bool)(c1:(m==7)=false)(c2:(m==8)=false)(c3:(m==9)=false)(c4:(m==10)=false)(h:G (Bn a 20<=11)=false)(j:G ((nk:Int)>0)=false)(o:G (Bn a 20<=13)=true)(p:G ((na:Int)>0)=true)(q:(m==13)=true)(c:0<=(0:Int)/\(0:Int)<(C (a::f::g::dr):Int))(d:0<=y/\y<na)(e:RQ 47 [A D a,A D 20] (A D m))(t:BW ((sF k nb cb nk ck ns cs na ca co):u) CC=true)(w:RQ 47 [A D i,A D na] (A D y))(z:Ad ca (J y*1) 1 true=some (I av))(L:Cg ca (J y*1) [I (!av)]=some H):Aa CJ (BV k nb cb nk ck ns cs na ca co a f g dr i n) .ret (CG k nb cb nk ck ns cs na H co):=B s [.v (A D a),.r (A D m),Y,Y,Y,Y,Y,Y,bT,bT,.v (A D a),.r (A D m),bT,.r (A D y),.v (I av),.l H] [4] (ac c (Ec (b c) e c1 c2 c3 c4 h j (Em o t p c (b c) e q w d z d L)))
theorem VD(m pk:Int)(c1:(m==7)=false)(c2:(m==8)=false)(c3:(m==9)=false)(c4:(m==10)=false)(h:G (Bn a 20<=11)=false)(j:G ((nk:Int)>0)=true)(o:(m==11)=false)(p:(m==12)=false)(q:G (Bn a 20<=13)=true)(x:G ((na:Int)>0)=false)(c:0<=(0:Int)/\(0:Int)<(C (a::f::g::dr):Int))(d:RQ 47 [A D a,A D 20] (A D m))(e:RQ 47 [A D i,A D nk] (A D pk))(t:BW ((sF k nb cb nk ck ns cs na ca co):u) CC=true):Aa CJ (BV k nb cb nk ck ns cs na ca co a f g dr i n) .ret (CG k nb cb nk ck ns cs na ca co):=B s [.v (A D a),.r (A D m),Y,Y,Y,Y,Y,bT,.r (A D pk),.v (A D a),.r (A D m),Y,Y,bT,Y,Y] [4] (Ec c (b c) d c1 c2 c3 c4 h (G3 j e c (b c) d o p q t x iY))
theorem VE(m pk y:Int)(H:u)(av:Bool)(c1:(m==7)=false)(c2:(m==8)=false)(c3:(m==9)=false)(c4:(m==10)=false)(h:G (Bn a 20<=11)=false)(j:G ((nk:Int)>0)=true)(o:(m==11)=false)(p:(m==12)=false)(q:G (Bn a 20<=13)=true)(x:G ((na:Int)>0)=true)(K:(m==13)=true)(c:0<=(0:Int)/\(0:Int)<(C (a::f::g::dr):Int))(d:0<=y/\y<na)(e:RQ 47 [A D a,A D 20] (A D m))(t:RQ 47 [A D i,A D nk] (A D pk))(w:BW ((sF k nb cb nk ck ns cs na ca co):u) CC=true)(z:RQ 47 [A D i,A D na] (A D y))(L:Ad ca (J y*1) 1 true=some (I av))(M:Cg ca (J y*1) [I (!av)]=some H):Aa CJ (BV k nb cb nk ck ns cs na ca co a f g dr i n) .ret (CG k nb cb nk ck ns cs na H co):=B s [.v (A D a),.r (A D m),Y,Y,Y,Y,Y,bT,.r (A D pk),.v (A D a),.r (A D m),Y,Y,bT,bT,.v (A D a),.r (A D m),bT,.r (A D y),.v (I av),.l H] [4] (ac c (ac (b c) (ac e (ac c1 (ac c2 (ac c3 (ac c4 (Ec h j t c (b c) e o p (Em q w x c (b c) e K z d L d M)))))))))
theorem VF(m:Int)(c1:(m==7)=false)(c2:(m==8)=false)(c3:(m==9)=false)(c4:(m==10)=false)(h:G (Bn a 20<=11)=false)(j:G ((nk:Int)>0)=false)(o:G (Bn a 20<=13)=false)(p:G ((na:Int)>0)=false)(c:0<=(0:Int)/\(0:Int)<(C (a::f::g::dr):Int))(d:RQ 47 [A D a,A D 20] (A D m)):Aa CJ (BV k nb cb nk ck ns cs na ca co a f g dr i n) .ret (CG k nb cb nk ck ns cs na ca co):=B s [.v (A D a),.r (A D m),Y,Y,Y,Y,Y,Y,Y,Y,Y] [4] (Em c (b c) d c1 c2 c3 c4 h j o p iY)
theorem VG(m:Int)(c1:(m==7)=false)(c2:(m==8)=false)(c3:(m==9)=false)(c4:(m==10)=false)(h:G (Bn a 20<=11)=false)(j:G ((nk:Int)>0)=false)(o:G (Bn a 20<=13)=false)(p:G ((na:Int)>0)=true)(q:(m==13)=false)(c:0<=(0:Int)/\(0:Int)<(C (a::f::g::dr):Int))(d:RQ 47 [A D a,A D 20] (A D m)):Aa CJ (BV k nb cb nk ck ns cs na ca co a f g dr i n) .ret (CG k nb cb nk ck ns cs na ca co):=B s [.v (A D a),.r (A D m),Y,Y,Y,Y,Y,Y,Y,bT,.v (A D a),.r (A D m),Y] [4] (Ec c (b c) d c1 c2 c3 c4 h (Gs j o p c (b c) d q))
theorem VH(m pk:Int)(c1:(m==7)=false)(c2:(m==8)=false)(c3:(m==9)=false)(c4:(m==10)=false)(h:G (Bn a 20<=11)=false)(j:G ((nk:Int)>0)=true)(o:(m==11)=false)(p:(m==12)=false)(q:G (Bn a 20<=13)=false)(x:G ((na:Int)>0)=false)(c:0<=(0:Int)/\(0:Int)<(C (a::f::g::dr):Int))(d:RQ 47 [A D a,A D 20] (A D m))(e:RQ 47 [A D i,A D nk] (A D pk)):Aa CJ (BV k nb cb nk ck ns cs na ca co a f g dr i n) .ret (CG k nb cb nk ck ns cs na ca co):=B s [.v (A D a),.r (A D m),Y,Y,Y,Y,Y,bT,.r (A D pk),.v (A D a),.r (A D m),Y,Y,Y,Y,Y] [4] (Ec c (b c) d c1 c2 c3 c4 h (Fm j e c (b c) d o p q x iY))
theorem VI(m pk:Int)(c1:(m==7)=false)(c2:(m==8)=false)(c3:(m==9)=false)(c4:(m==10)=false)(h:G (Bn a 20<=11)=false)(j:G ((nk:Int)>0)=true)(o:(m==11)=false)(p:(m==12)=false)(q:G (Bn a 20<=13)=false)(x:G ((na:Int)>0)=true)(K:(m==13)=false)(c:0<=(0:Int)/\(0:Int)<(C (a::f::g::dr):Int))(d:RQ 47 [A D a,A D 20] (A D m))(e:RQ 47 [A D i,A D nk] (A D pk)):Aa CJ (BV k nb cb nk ck ns cs na ca co a f g dr i n) .ret (CG k nb cb nk ck ns cs na ca co):=B s [.v (A D a),.r (A D m),Y,Y,Y,Y,Y,bT,.r (A D pk),.v (A D a),.r (A D m),Y,Y,Y,bT,.v (A D a),.r (A D m),Y] [4] (ac c (Ec (b c) d c1 c2 c3 c4 h j (Em e c (b c) d o p q x c (b c) d K)))
end
theorem A6o:(iF g O7).body = .seq Ajs (.seq tY (.seq Aju (.seq Ajw (.seq HU CJ)))):=by kernel_rfl
def R9(c:AV):Prop:=∃ x,c = A D x
def isO(c:AV):Prop:=∃ b,c = I b
def Ls(p:AV->Prop)(w n:Nat)(cs:u):Prop:=C cs=n*w/\∀ c∈cs,p c
theorem Ls.app{p:AV->Prop}{w n:Nat}{cs a:u}(h:Ls p w n cs)(g:Ls p w 1 a):Ls p w (n+1) (cs++a) :=
 ⟨by rw[Ah,h.1,g.1,EC],fun c hc=>(AK.1 hc).elim (h.2 c) (g.2 c)⟩
theorem Ls.lay{p:AV->Prop}{w n:Nat}{cs:u}(h:Ls p w n cs){off:Nat}(a:u)(d:∀ c∈a,p c)(ho:off+C a<=n*w):∃ b,Cg cs off a=some b/\Ls p w n b:=by
 unfold Cg;rw[Ae (by rw[h.1];exact ho)];refine⟨_,rfl,?_,fun c hc => ?_⟩
 ·rw[Ah,Ah,Db,C5,h.1];omega
 ·rcases AK.1 hc with hc | hc
  ·rcases AK.1 hc with hc | hc
   ·exact h.2 c (BC hc)
   ·exact d c hc
  ·exact h.2 c (Cv hc)
theorem Kn(x:Int):∀ c∈[A .i64 x],R9 c:=fun _ hc=>⟨x,AP.1 hc⟩
theorem uE(b:Bool):∀ c∈[I b],isO c:=fun _ hc=>⟨b,AP.1 hc⟩
theorem Ls.memI{w n:Nat}{cs:u}(h:Ls R9 w n cs){m:Nat}:CC (P w m cs)=true:=AKf.2 fun c hc=>by obtain ⟨x,rfl⟩:=h.2 c hc;rfl
theorem Ls.memO{w n:Nat}{cs:u}(h:Ls isO w n cs){m:Nat}:CC (P w m cs)=true:=AKf.2 fun c hc=>by obtain ⟨x,rfl⟩:=h.2 c hc;rfl
theorem DG{x a b c d y:AV}(h1:CC x=true)(h2:CC a=true)(e:CC b=true)(f:CC c=true)(g:CC d=true)(h:CC y=true):BW [x,a,b,c,d,y] CC=true:=by
 simp only[F7,Oi,h1,h2,e,f,g,h,E8]
theorem Ls.ints:∀ {n:Nat} {cs:u},Ls R9 1 n cs->∃ xs:LI,C xs=n/\cs=F cI xs
 | 0,[],_=>⟨[],rfl,rfl⟩
 | 0,_::_,h=>absurd h.1 (by simp)
 | _+1,[],h=>absurd h.1 (by simp)
 | n+1,c::cs,h=>by
  obtain⟨x,rfl⟩:=h.2 c (AKh ..);obtain⟨xs,e,rfl⟩:=Ls.ints (n:=n) (cs:=cs) ⟨by have:=h.1;simp at this |-;omega,fun c hc=>h.2 c (AJ _ hc)⟩;exact⟨x::xs,by rw[B1,e],rfl⟩
theorem Ls.bools:∀ {n:Nat} {cs:u},Ls isO 1 n cs->∃ xs:List Bool,C xs=n/\cs=F cO xs
 | 0,[],_=>⟨[],rfl,rfl⟩
 | 0,_::_,h=>absurd h.1 (by simp)
 | _+1,[],h=>absurd h.1 (by simp)
 | n+1,c::cs,h=>by
  obtain⟨x,rfl⟩:=h.2 c (AKh ..);obtain⟨xs,e,rfl⟩:=Ls.bools (n:=n) (cs:=cs) ⟨by have:=h.1;simp at this |-;omega,fun c hc=>h.2 c (AJ _ hc)⟩;exact⟨x::xs,by rw[B1,e],rfl⟩
theorem Ls.balls:∀ {n:Nat} {cs:u},Ls R9 7 n cs->∃ es:List El,C es=n/\cs=F cB es
 | 0,cs,h=>⟨[],rfl,Bb (by have:=h.1;omega)⟩
 | n+1,cs,h=>by
  have hl:C (cs.take 7)=7:=by rw[Db,h.1];omega
  obtain⟨es,e,a⟩:=Ls.balls (n:=n) (cs:=cs.drop 7) ⟨by rw[C5,h.1];omega,fun c hc=>h.2 c (Cv hc)⟩;obtain⟨xs,ex,b⟩:=Ls.ints (n:=7) (cs:=cs.take 7) ⟨hl,fun c hc=>h.2 c (BC hc)⟩;refine⟨⟨Bw,xs,false⟩::es,by rw[B1,e],?_⟩;rw[<- OZ 7 cs,b,a];match xs,ex with
  | [_,_,_,_,_,_,_],_=>rfl
structure Raw (nb:Nat) (cb:u) (nk:Nat) (ck:u) (ns:Nat) (cs:u) (na:Nat) (ca:u):Prop where
 b:Ls R9 7 nb cb
 k:Ls R9 1 nk ck
 s:Ls R9 1 ns cs
 a:Ls isO 1 na ca
theorem I5(x n:Int)(h:0<n/\n<=1000000):∃ p,(0<=p/\p<n)/\RQ 47 [A D x,A D n] (A D p):=by
 have a:Ch x n<n:=O4 _ h.1;have b : -n<Ch x n:=by
  have:=iQ x h.1;omega
 cases c:decide (Ch x n<0)
 ·exact⟨_,⟨by have:=of_decide_eq_false c;omega,a⟩,mT x n c (by omega)⟩
 ·have hc:=of_decide_eq_true c;have g:=mS x n c (by omega);rw[A' (n:=Ch x n+n) (by omega) (by omega)] at g;exact⟨_,⟨by omega,by omega⟩,g⟩
theorem DB(x:Int):RQ 47 [A D x,A D 20] (A D (x % 20)):=by
 have d:x.tmod 20=x-20*x.tdiv 20:=Int.tmod_def x 20;have a:Ch x 20<20:=O4 _ (by omega);have b : -20<Ch x 20:=by
  have:=iQ x (show (0:Int)<20 by omega);omega
 cases c:decide (Ch x 20<0)
 ·have hc:=of_decide_eq_false c;rw[show x % 20=Ch x 20 by omega];exact mT x 20 c (by omega)
 ·have hc:=of_decide_eq_true c;have g:=mS x 20 c (by omega);rw[A' (n:=Ch x 20+20) (by omega) (by omega),show Ch x 20+20=x % 20 by omega] at g;exact g
section
variable {k co d0 d1 d2 i n:Int} {nb nk ns na:Nat} {cb ck cs ca:u} {dr:LI}
def gE(co:Int)(st:H):Prop:=∃ k nb cb nk ck ns cs na ca,Raw nb cb nk ck ns cs na ca/\Aa CJ st .ret (CG k nb cb nk ck ns cs na ca co)
theorem dl(d0 d1 d2:Int)(dr:LI):(0:Int)<=0/\(0:Int)<(C (d0::d1::d2::dr):Int):=⟨by omega,by simp only [B1];omega⟩
theorem gG(a:Raw nb cb nk ck ns cs na ca)(hb:nk<=1000/\na<=1000/\ns=nk)(c:d0 % 20<=6):gE co (Km k nb cb nk ck ns cs na ca co d0 d1 d2 dr i n):=by
 by_cases d:nk=0
 ·by_cases h0:na=0
  ·exact⟨_,_,_,_,_,_,_,_,_,a,fY k nb cb nk ck ns cs na ca co d0 d1 d2 dr i n (d0 % 20) (z.2 (by omega)) (z.2 (by omega)) (z.2 (by omega)) (z.2 (by omega)) (As (by omega)) (As (by omega)) (dl d0 d1 d2 dr) (DB d0)⟩
  ·exact⟨_,_,_,_,_,_,_,_,_,a,fZ k nb cb nk ck ns cs na ca co d0 d1 d2 dr i n (d0 % 20) (z.2 (by omega)) (z.2 (by omega)) (z.2 (by omega)) (z.2 (by omega)) (As (by omega)) (o (by omega)) (z.2 (by omega)) (dl d0 d1 d2 dr) (DB d0)⟩
 ·obtain⟨pk,e,b⟩:=I5 i (nk) (by omega);by_cases h0:na=0
  ·exact⟨_,_,_,_,_,_,_,_,_,a,gA k nb cb nk ck ns cs na ca co d0 d1 d2 dr i n (d0 % 20) pk (z.2 (by omega)) (z.2 (by omega)) (z.2 (by omega)) (z.2 (by omega)) (o (by omega)) (z.2 (by omega)) (z.2 (by omega)) (As (by omega)) (dl d0 d1 d2 dr) (DB d0) b⟩
  ·exact⟨_,_,_,_,_,_,_,_,_,a,gC k nb cb nk ck ns cs na ca co d0 d1 d2 dr i n (d0 % 20) pk (z.2 (by omega)) (z.2 (by omega)) (z.2 (by omega)) (z.2 (by omega)) (o (by omega)) (z.2 (by omega)) (z.2 (by omega)) (o (by omega)) (z.2 (by omega)) (dl d0 d1 d2 dr) (DB d0) b⟩
theorem AIa(a:Raw nb cb nk ck ns cs na ca)(hb:nk<=1000/\na<=1000/\ns=nk)(c:d0 % 20<=6):gE co (Rq k nb cb nk ck ns cs na ca co d0 d1 d2 dr i n):=by
 by_cases d:nk=0
 ·by_cases h0:na=0
  ·exact⟨_,_,_,_,_,_,_,_,_,a,Vv k nb cb nk ck ns cs na ca co d0 d1 d2 dr i n (d0 % 20) (z.2 (by omega)) (z.2 (by omega)) (z.2 (by omega)) (z.2 (by omega)) (As (by omega)) (As (by omega)) (dl d0 d1 d2 dr) (DB d0)⟩
  ·exact⟨_,_,_,_,_,_,_,_,_,a,Vw k nb cb nk ck ns cs na ca co d0 d1 d2 dr i n (d0 % 20) (z.2 (by omega)) (z.2 (by omega)) (z.2 (by omega)) (z.2 (by omega)) (As (by omega)) (o (by omega)) (z.2 (by omega)) (dl d0 d1 d2 dr) (DB d0)⟩
 ·obtain⟨pk,e,b⟩:=I5 i (nk) (by omega);by_cases h0:na=0
  ·exact⟨_,_,_,_,_,_,_,_,_,a,Vx k nb cb nk ck ns cs na ca co d0 d1 d2 dr i n (d0 % 20) pk (z.2 (by omega)) (z.2 (by omega)) (z.2 (by omega)) (z.2 (by omega)) (o (by omega)) (z.2 (by omega)) (z.2 (by omega)) (As (by omega)) (dl d0 d1 d2 dr) (DB d0) b⟩
  ·exact⟨_,_,_,_,_,_,_,_,_,a,Vy k nb cb nk ck ns cs na ca co d0 d1 d2 dr i n (d0 % 20) pk (z.2 (by omega)) (z.2 (by omega)) (z.2 (by omega)) (z.2 (by omega)) (o (by omega)) (z.2 (by omega)) (z.2 (by omega)) (o (by omega)) (z.2 (by omega)) (dl d0 d1 d2 dr) (DB d0) b⟩
theorem AIb(c:Raw nb cb nk ck ns cs na ca)(hb:nk<=1000/\na<=1000/\ns=nk)(e:d0 % 20=7):gE co (BV k nb cb nk ck ns cs na ca co d0 d1 d2 dr i n):=by
 by_cases f:nk=0
 ·by_cases h0:na=0
  ·exact⟨_,_,_,_,_,_,_,_,_,c,Xd k nb cb nk ck ns cs na ca co d0 d1 d2 dr i n (d0 % 20) (AM.2 (by omega)) (o (show d0 % 20<=11 by omega)) (As (by omega)) (As (by omega)) (dl d0 d1 d2 dr) (DB d0) (DG rfl c.b.memI c.k.memI c.s.memI c.a.memO rfl)⟩
  ·exact⟨_,_,_,_,_,_,_,_,_,c,Xe k nb cb nk ck ns cs na ca co d0 d1 d2 dr i n (d0 % 20) (AM.2 (by omega)) (o (show d0 % 20<=11 by omega)) (As (by omega)) (o (by omega)) (z.2 (by omega)) (dl d0 d1 d2 dr) (DB d0) (DG rfl c.b.memI c.k.memI c.s.memI c.a.memO rfl)⟩
 ·obtain⟨pk,g,d⟩:=I5 i (nk) (by omega);by_cases h0:na=0
  ·exact⟨_,_,_,_,_,_,_,_,_,c,Xf k nb cb nk ck ns cs na ca co d0 d1 d2 dr i n (d0 % 20) pk (AM.2 (by omega)) (o (show d0 % 20<=11 by omega)) (o (by omega)) (z.2 (by omega)) (z.2 (by omega)) (As (by omega)) (dl d0 d1 d2 dr) (DB d0) (DG rfl c.b.memI c.k.memI c.s.memI c.a.memO rfl) d⟩
  ·exact⟨_,_,_,_,_,_,_,_,_,c,Xg k nb cb nk ck ns cs na ca co d0 d1 d2 dr i n (d0 % 20) pk (AM.2 (by omega)) (o (show d0 % 20<=11 by omega)) (o (by omega)) (z.2 (by omega)) (z.2 (by omega)) (o (by omega)) (z.2 (by omega)) (dl d0 d1 d2 dr) (DB d0) (DG rfl c.b.memI c.k.memI c.s.memI c.a.memO rfl) d⟩
theorem AIc(c:Raw nb cb nk ck ns cs na ca)(hb:nk<=1000/\na<=1000/\ns=nk)(e:d0 % 20=8):gE co (BV k nb cb nk ck ns cs na ca co d0 d1 d2 dr i n):=by
 obtain⟨pk,f,d⟩:=I5 i (((nk+1:Nat))) (by omega);by_cases h0:na=0
 ·exact⟨_,_,_,_,_,_,_,_,_,⟨c.b,c.k.app ⟨rfl,Kn n⟩,c.s,c.a⟩,Xh k nb cb nk ck ns cs na ca co d0 d1 d2 dr i n (d0 % 20) pk (z.2 (by omega)) (AM.2 (by omega)) (o (show d0 % 20<=19 by omega)) (o (by omega)) (z.2 (by omega)) (z.2 (by omega)) (As (by omega)) (dl d0 d1 d2 dr) (by omega) (DB d0) (DG rfl c.b.memI c.k.memI c.s.memI c.a.memO rfl) d⟩
 ·exact⟨_,_,_,_,_,_,_,_,_,⟨c.b,c.k.app ⟨rfl,Kn n⟩,c.s,c.a⟩,Xi k nb cb nk ck ns cs na ca co d0 d1 d2 dr i n (d0 % 20) pk (z.2 (by omega)) (AM.2 (by omega)) (o (show d0 % 20<=19 by omega)) (o (by omega)) (z.2 (by omega)) (z.2 (by omega)) (o (by omega)) (z.2 (by omega)) (dl d0 d1 d2 dr) (by omega) (DB d0) (DG rfl c.b.memI c.k.memI c.s.memI c.a.memO rfl) d⟩
theorem AId(c:Raw nb cb nk ck ns cs na ca)(hb:nk<=1000/\na<=1000/\ns=nk)(e:d0 % 20=9):gE co (BV k nb cb nk ck ns cs na ca co d0 d1 d2 dr i n):=by
 by_cases f:nk=0
 ·exact⟨_,_,_,_,_,_,_,_,_,⟨c.b,c.k,c.s,c.a.app ⟨rfl,uE false⟩⟩,Xj k nb cb nk ck ns cs na ca co d0 d1 d2 dr i n (d0 % 20) (z.2 (by omega)) (z.2 (by omega)) (AM.2 (by omega)) (o (show d0 % 20<=19 by omega)) (As (by omega)) (o (by omega)) (z.2 (by omega)) (dl d0 d1 d2 dr) (by omega) (DB d0) (DG rfl c.b.memI c.k.memI c.s.memI c.a.memO rfl)⟩
 ·obtain⟨pk,g,d⟩:=I5 i (nk) (by omega);exact⟨_,_,_,_,_,_,_,_,_,⟨c.b,c.k,c.s,c.a.app ⟨rfl,uE false⟩⟩,Xk k nb cb nk ck ns cs na ca co d0 d1 d2 dr i n (d0 % 20) pk (z.2 (by omega)) (z.2 (by omega)) (AM.2 (by omega)) (o (show d0 % 20<=19 by omega)) (o (by omega)) (z.2 (by omega)) (z.2 (by omega)) (o (by omega)) (z.2 (by omega)) (dl d0 d1 d2 dr) (by omega) (DB d0) (DG rfl c.b.memI c.k.memI c.s.memI c.a.memO rfl) d⟩
theorem AAz(b:Raw nb cb nk ck ns cs na ca)(hb:nk<=1000/\na<=1000/\ns=nk)(e:d0 % 20=10):gE co (BV k nb cb nk ck ns cs na ca co d0 d1 d2 dr i n):=by
 by_cases f:nk=0
 ·by_cases h0:na=0
  ·exact⟨_,_,_,_,_,_,_,_,_,⟨⟨rfl,fun c hc=>(by cases hc)⟩,b.k,b.s,b.a⟩,Vz k nb cb nk ck ns cs na ca co d0 d1 d2 dr i n (d0 % 20) (z.2 (by omega)) (z.2 (by omega)) (z.2 (by omega)) (AM.2 (by omega)) (o (show d0 % 20<=11 by omega)) (As (by omega)) (As (by omega)) (dl d0 d1 d2 dr) (DB d0) (DG rfl rfl b.k.memI b.s.memI b.a.memO rfl)⟩
  ·exact⟨_,_,_,_,_,_,_,_,_,⟨⟨rfl,fun c hc=>(by cases hc)⟩,b.k,b.s,b.a⟩,V0 k nb cb nk ck ns cs na ca co d0 d1 d2 dr i n (d0 % 20) (z.2 (by omega)) (z.2 (by omega)) (z.2 (by omega)) (AM.2 (by omega)) (o (show d0 % 20<=11 by omega)) (As (by omega)) (o (by omega)) (z.2 (by omega)) (dl d0 d1 d2 dr) (DB d0) (DG rfl rfl b.k.memI b.s.memI b.a.memO rfl)⟩
 ·obtain⟨pk,g,d⟩:=I5 i (nk) (by omega);by_cases h0:na=0
  ·exact⟨_,_,_,_,_,_,_,_,_,⟨⟨rfl,fun c hc=>(by cases hc)⟩,b.k,b.s,b.a⟩,V1 k nb cb nk ck ns cs na ca co d0 d1 d2 dr i n (d0 % 20) pk (z.2 (by omega)) (z.2 (by omega)) (z.2 (by omega)) (AM.2 (by omega)) (o (show d0 % 20<=11 by omega)) (o (by omega)) (z.2 (by omega)) (z.2 (by omega)) (As (by omega)) (dl d0 d1 d2 dr) (DB d0) (DG rfl rfl b.k.memI b.s.memI b.a.memO rfl) d⟩
  ·exact⟨_,_,_,_,_,_,_,_,_,⟨⟨rfl,fun c hc=>(by cases hc)⟩,b.k,b.s,b.a⟩,V2 k nb cb nk ck ns cs na ca co d0 d1 d2 dr i n (d0 % 20) pk (z.2 (by omega)) (z.2 (by omega)) (z.2 (by omega)) (AM.2 (by omega)) (o (show d0 % 20<=11 by omega)) (o (by omega)) (z.2 (by omega)) (z.2 (by omega)) (o (by omega)) (z.2 (by omega)) (dl d0 d1 d2 dr) (DB d0) (DG rfl rfl b.k.memI b.s.memI b.a.memO rfl) d⟩
theorem ABa(c:Raw nb cb nk ck ns cs na ca)(hb:nk<=1000/\na<=1000/\ns=nk)(h:d0 % 20=11):gE co (BV k nb cb nk ck ns cs na ca co d0 d1 d2 dr i n):=by
 by_cases j:nk=0
 ·by_cases h0:na=0
  ·exact⟨_,_,_,_,_,_,_,_,_,c,V3 k nb cb nk ck ns cs na ca co d0 d1 d2 dr i n (d0 % 20) (z.2 (by omega)) (z.2 (by omega)) (z.2 (by omega)) (z.2 (by omega)) (o (show d0 % 20<=11 by omega)) (As (by omega)) (As (by omega)) (dl d0 d1 d2 dr) (DB d0) (DG rfl c.b.memI c.k.memI c.s.memI c.a.memO rfl)⟩
  ·exact⟨_,_,_,_,_,_,_,_,_,c,V4 k nb cb nk ck ns cs na ca co d0 d1 d2 dr i n (d0 % 20) (z.2 (by omega)) (z.2 (by omega)) (z.2 (by omega)) (z.2 (by omega)) (o (show d0 % 20<=11 by omega)) (As (by omega)) (o (by omega)) (z.2 (by omega)) (dl d0 d1 d2 dr) (DB d0) (DG rfl c.b.memI c.k.memI c.s.memI c.a.memO rfl)⟩
 ·obtain⟨pk,f,g⟩:=I5 i (nk) (by omega);by_cases h0:na=0
  ·obtain⟨d,e,r1⟩:=c.k.lay (off:=J pk*1) [A D n] (Kn n) (by rw[B4];omega);exact⟨_,_,_,_,_,_,_,_,_,⟨c.b,r1,c.s,c.a⟩,V5 k nb cb nk ck ns cs na ca co d0 d1 d2 dr i n (d0 % 20) pk d (z.2 (by omega)) (z.2 (by omega)) (z.2 (by omega)) (z.2 (by omega)) (o (show d0 % 20<=11 by omega)) (o (by omega)) (AM.2 (by omega)) (As (by omega)) (dl d0 d1 d2 dr) f (DB d0) (DG rfl c.b.memI c.k.memI c.s.memI c.a.memO rfl) g e⟩
  ·obtain⟨d,e,r1⟩:=c.k.lay (off:=J pk*1) [A D n] (Kn n) (by rw[B4];omega);exact⟨_,_,_,_,_,_,_,_,_,⟨c.b,r1,c.s,c.a⟩,V6 k nb cb nk ck ns cs na ca co d0 d1 d2 dr i n (d0 % 20) pk d (z.2 (by omega)) (z.2 (by omega)) (z.2 (by omega)) (z.2 (by omega)) (o (show d0 % 20<=11 by omega)) (o (by omega)) (AM.2 (by omega)) (o (by omega)) (z.2 (by omega)) (dl d0 d1 d2 dr) f (DB d0) (DG rfl c.b.memI c.k.memI c.s.memI c.a.memO rfl) g e⟩
theorem ABb(c:Raw nb cb nk ck ns cs na ca)(hb:nk<=1000/\na<=1000/\ns=nk)(h:d0 % 20=12):gE co (BV k nb cb nk ck ns cs na ca co d0 d1 d2 dr i n):=by
 by_cases j:nk=0
 ·by_cases h0:na=0
  ·exact⟨_,_,_,_,_,_,_,_,_,c,V7 k nb cb nk ck ns cs na ca co d0 d1 d2 dr i n (d0 % 20) (z.2 (by omega)) (z.2 (by omega)) (z.2 (by omega)) (z.2 (by omega)) (As (show ¬ d0 % 20<=11 by omega)) (As (by omega)) (o (show d0 % 20<=13 by omega)) (As (by omega)) (dl d0 d1 d2 dr) (DB d0) (DG rfl c.b.memI c.k.memI c.s.memI c.a.memO rfl)⟩
  ·exact⟨_,_,_,_,_,_,_,_,_,c,V8 k nb cb nk ck ns cs na ca co d0 d1 d2 dr i n (d0 % 20) (z.2 (by omega)) (z.2 (by omega)) (z.2 (by omega)) (z.2 (by omega)) (As (show ¬ d0 % 20<=11 by omega)) (As (by omega)) (o (show d0 % 20<=13 by omega)) (o (by omega)) (z.2 (by omega)) (dl d0 d1 d2 dr) (DB d0) (DG rfl c.b.memI c.k.memI c.s.memI c.a.memO rfl)⟩
 ·obtain⟨pk,l,g⟩:=I5 i (nk) (by omega);by_cases h0:na=0
  ·obtain⟨e,f,r1⟩:=c.s.lay (off:=J pk*1) [A D n] (Kn n) (by rw[B4];omega);have d:(if O D (ns-1)<pk then O D (ns-1) else pk)=pk:=by rw[A' (n:=(ns:Int)-1) (by omega) (by omega),Al (by omega)]
   exact⟨_,_,_,_,_,_,_,_,_,⟨c.b,c.k,r1,c.a⟩,V9 k nb cb nk ck ns cs na ca co d0 d1 d2 dr i n (d0 % 20) pk e (z.2 (by omega)) (z.2 (by omega)) (z.2 (by omega)) (z.2 (by omega)) (As (show ¬ d0 % 20<=11 by omega)) (o (by omega)) (z.2 (by omega)) (AM.2 (by omega)) (o (show d0 % 20<=19 by omega)) (As (by omega)) (dl d0 d1 d2 dr) (by rw[d];omega) (DB d0) g (DG rfl c.b.memI c.k.memI c.s.memI c.a.memO rfl) (by rw[d];exact f)⟩
  ·obtain⟨e,f,r1⟩:=c.s.lay (off:=J pk*1) [A D n] (Kn n) (by rw[B4];omega);have d:(if O D (ns-1)<pk then O D (ns-1) else pk)=pk:=by rw[A' (n:=(ns:Int)-1) (by omega) (by omega),Al (by omega)]
   exact⟨_,_,_,_,_,_,_,_,_,⟨c.b,c.k,r1,c.a⟩,VA k nb cb nk ck ns cs na ca co d0 d1 d2 dr i n (d0 % 20) pk e (z.2 (by omega)) (z.2 (by omega)) (z.2 (by omega)) (z.2 (by omega)) (As (show ¬ d0 % 20<=11 by omega)) (o (by omega)) (z.2 (by omega)) (AM.2 (by omega)) (o (show d0 % 20<=19 by omega)) (o (by omega)) (z.2 (by omega)) (dl d0 d1 d2 dr) (by rw[d];omega) (DB d0) g (DG rfl c.b.memI c.k.memI c.s.memI c.a.memO rfl) (by rw[d];exact f)⟩
theorem ABc(c:Raw nb cb nk ck ns cs na ca)(hb:nk<=1000/\na<=1000/\ns=nk)(p:d0 % 20=13):gE co (BV k nb cb nk ck ns cs na ca co d0 d1 d2 dr i n):=by
 by_cases q:nk=0
 ·by_cases h0:na=0
  ·exact⟨_,_,_,_,_,_,_,_,_,c,VB k nb cb nk ck ns cs na ca co d0 d1 d2 dr i n (d0 % 20) (z.2 (by omega)) (z.2 (by omega)) (z.2 (by omega)) (z.2 (by omega)) (As (show ¬ d0 % 20<=11 by omega)) (As (by omega)) (o (show d0 % 20<=13 by omega)) (As (by omega)) (dl d0 d1 d2 dr) (DB d0) (DG rfl c.b.memI c.k.memI c.s.memI c.a.memO rfl)⟩
  ·obtain⟨d,g,ra⟩:=I5 i na (by omega);obtain⟨av,h⟩:∃ av,Ad ca (J d*1) 1 true=some (I av):=by
    have f:J d*1<C ca:=by rw[c.a.1];omega
    obtain⟨av,e⟩:=c.a.2 _ (AF f);exact⟨av,by simp only[Ad,if_true];rw[Af f,e]⟩
   obtain⟨j,l,r1⟩:=c.a.lay (off:=J d*1) [I (!av)] (uE _) (by rw[B4];omega);exact⟨_,_,_,_,_,_,_,_,_,⟨c.b,c.k,c.s,r1⟩,VC k nb cb nk ck ns cs na ca co d0 d1 d2 dr i n (d0 % 20) d j av (z.2 (by omega)) (z.2 (by omega)) (z.2 (by omega)) (z.2 (by omega)) (As (show ¬ d0 % 20<=11 by omega)) (As (by omega)) (o (show d0 % 20<=13 by omega)) (o (by omega)) (AM.2 (by omega)) (dl d0 d1 d2 dr) g (DB d0) (DG rfl c.b.memI c.k.memI c.s.memI c.a.memO rfl) ra h l⟩
 ·obtain⟨pk,r,m⟩:=I5 i (nk) (by omega);by_cases h0:na=0
  ·exact⟨_,_,_,_,_,_,_,_,_,c,VD k nb cb nk ck ns cs na ca co d0 d1 d2 dr i n (d0 % 20) pk (z.2 (by omega)) (z.2 (by omega)) (z.2 (by omega)) (z.2 (by omega)) (As (show ¬ d0 % 20<=11 by omega)) (o (by omega)) (z.2 (by omega)) (z.2 (by omega)) (o (show d0 % 20<=13 by omega)) (As (by omega)) (dl d0 d1 d2 dr) (DB d0) m (DG rfl c.b.memI c.k.memI c.s.memI c.a.memO rfl)⟩
  ·obtain⟨d,g,ra⟩:=I5 i na (by omega);obtain⟨av,h⟩:∃ av,Ad ca (J d*1) 1 true=some (I av):=by
    have f:J d*1<C ca:=by rw[c.a.1];omega
    obtain⟨av,e⟩:=c.a.2 _ (AF f);exact⟨av,by simp only[Ad,if_true];rw[Af f,e]⟩
   obtain⟨j,l,r1⟩:=c.a.lay (off:=J d*1) [I (!av)] (uE _) (by rw[B4];omega);exact⟨_,_,_,_,_,_,_,_,_,⟨c.b,c.k,c.s,r1⟩,VE k nb cb nk ck ns cs na ca co d0 d1 d2 dr i n (d0 % 20) pk d j av (z.2 (by omega)) (z.2 (by omega)) (z.2 (by omega)) (z.2 (by omega)) (As (show ¬ d0 % 20<=11 by omega)) (o (by omega)) (z.2 (by omega)) (z.2 (by omega)) (o (show d0 % 20<=13 by omega)) (o (by omega)) (AM.2 (by omega)) (dl d0 d1 d2 dr) g (DB d0) m (DG rfl c.b.memI c.k.memI c.s.memI c.a.memO rfl) ra h l⟩
theorem ABd(a:Raw nb cb nk ck ns cs na ca)(hb:nk<=1000/\na<=1000/\ns=nk)(c:14<=d0 % 20):gE co (BV k nb cb nk ck ns cs na ca co d0 d1 d2 dr i n):=by
 by_cases d:nk=0
 ·by_cases h0:na=0
  ·exact⟨_,_,_,_,_,_,_,_,_,a,VF k nb cb nk ck ns cs na ca co d0 d1 d2 dr i n (d0 % 20) (z.2 (by omega)) (z.2 (by omega)) (z.2 (by omega)) (z.2 (by omega)) (As (show ¬ d0 % 20<=11 by omega)) (As (by omega)) (As (show ¬ d0 % 20<=13 by omega)) (As (by omega)) (dl d0 d1 d2 dr) (DB d0)⟩
  ·exact⟨_,_,_,_,_,_,_,_,_,a,VG k nb cb nk ck ns cs na ca co d0 d1 d2 dr i n (d0 % 20) (z.2 (by omega)) (z.2 (by omega)) (z.2 (by omega)) (z.2 (by omega)) (As (show ¬ d0 % 20<=11 by omega)) (As (by omega)) (As (show ¬ d0 % 20<=13 by omega)) (o (by omega)) (z.2 (by omega)) (dl d0 d1 d2 dr) (DB d0)⟩
 ·obtain⟨pk,e,b⟩:=I5 i (nk) (by omega);by_cases h0:na=0
  ·exact⟨_,_,_,_,_,_,_,_,_,a,VH k nb cb nk ck ns cs na ca co d0 d1 d2 dr i n (d0 % 20) pk (z.2 (by omega)) (z.2 (by omega)) (z.2 (by omega)) (z.2 (by omega)) (As (show ¬ d0 % 20<=11 by omega)) (o (by omega)) (z.2 (by omega)) (z.2 (by omega)) (As (show ¬ d0 % 20<=13 by omega)) (As (by omega)) (dl d0 d1 d2 dr) (DB d0) b⟩
  ·exact⟨_,_,_,_,_,_,_,_,_,a,VI k nb cb nk ck ns cs na ca co d0 d1 d2 dr i n (d0 % 20) pk (z.2 (by omega)) (z.2 (by omega)) (z.2 (by omega)) (z.2 (by omega)) (As (show ¬ d0 % 20<=11 by omega)) (o (by omega)) (z.2 (by omega)) (z.2 (by omega)) (As (show ¬ d0 % 20<=13 by omega)) (o (by omega)) (z.2 (by omega)) (dl d0 d1 d2 dr) (DB d0) b⟩
theorem ABe(d:Raw nb cb nk ck ns cs na ca)(hb:nb<=1000/\nk<=1000/\na<=1000/\ns=nk):∃ G r t u v x y B E,Raw r t u v x y B E/\Aa (.seq HU CJ) (BV k nb cb nk ck ns cs na ca co d0 d1 d2 dr i n) .ret (CG G r t u v x y B E co):=by
 have f:∀ {st:H},Aa HU (BV k nb cb nk ck ns cs na ca co d0 d1 d2 dr i n) .norm st->gE co st->∃ G r t u v x y B E,Raw r t u v x y B E/\Aa (.seq HU CJ) (BV k nb cb nk ck ns cs na ca co d0 d1 d2 dr i n) .ret (CG G r t u v x y B E co):=by
  rintro st h1 ⟨G,r,t,u,v,x,y,B,E,h2,I⟩;exact⟨G,r,t,u,v,x,y,B,E,h2,N h1 I⟩
 by_cases p:d0 % 20<=6
 ·by_cases h0:nb=0
  ·exact f (uC k nb cb nk ck ns cs na ca co d0 d1 d2 dr i n (o (show d0 % 20<=6 by omega)) (As (by omega)) (DG rfl d.b.memI d.k.memI d.s.memI d.a.memO rfl)) (gG d hb.2 p)
  ·obtain⟨e,l,m⟩:=I5 i nb (by omega);have Z:=l;by_cases m0:d0 % 20=0
   ·obtain⟨g,j,r1⟩:=d.b.lay (off:=J e*7+3+0) [A D n] (Kn n) (by rw[B4];omega);exact f (kA k nb cb nk ck ns cs na ca co d0 d1 d2 dr i n (d0 % 20) e g (o (show d0 % 20<=6 by omega)) (o (by omega)) (AM.2 (by omega)) l (dl d0 d1 d2 dr) (DG rfl d.b.memI d.k.memI d.s.memI d.a.memO rfl) m (DB d0) j) (gG ⟨r1,d.k,d.s,d.a⟩ hb.2 p)
   by_cases m1:d0 % 20=1
   ·obtain⟨g,j,r1⟩:=d.b.lay (off:=J e*7+5+1) [A D n] (Kn n) (by rw[B4];omega);exact f (kB k nb cb nk ck ns cs na ca co d0 d1 d2 dr i n (d0 % 20) e g (o (show d0 % 20<=6 by omega)) (o (by omega)) (z.2 (by omega)) (AM.2 (by omega)) l (dl d0 d1 d2 dr) (DG rfl d.b.memI d.k.memI d.s.memI d.a.memO rfl) m (DB d0) j) (gG ⟨r1,d.k,d.s,d.a⟩ hb.2 p)
   by_cases m2:d0 % 20=2
   ·obtain⟨g,j,r1⟩:=d.b.lay (off:=J e*7+2) [A D n] (Kn n) (by rw[B4];omega);exact f (kC k nb cb nk ck ns cs na ca co d0 d1 d2 dr i n (d0 % 20) e g (o (show d0 % 20<=6 by omega)) (o (by omega)) (z.2 (by omega)) (z.2 (by omega)) (AM.2 (by omega)) l (dl d0 d1 d2 dr) (DG rfl d.b.memI d.k.memI d.s.memI d.a.memO rfl) m (DB d0) j) (gG ⟨r1,d.k,d.s,d.a⟩ hb.2 p)
   by_cases m3:d0 % 20=3
   ·obtain⟨w,_,K⟩:=I5 n 4 (by omega);obtain⟨g,j,r1⟩:=d.b.lay (off:=J e*7+0) [A D w] (Kn w) (by rw[B4];omega);exact f (kD k nb cb nk ck ns cs na ca co d0 d1 d2 dr i n (d0 % 20) w e g (o (show d0 % 20<=6 by omega)) (o (by omega)) (z.2 (by omega)) (z.2 (by omega)) (z.2 (by omega)) (AM.2 (by omega)) l (dl d0 d1 d2 dr) (DG rfl d.b.memI d.k.memI d.s.memI d.a.memO rfl) m (DB d0) K j) (gG ⟨r1,d.k,d.s,d.a⟩ hb.2 p)
   by_cases m4:d0 % 20=4
   ·obtain⟨g,j,r1⟩:=d.b.lay (off:=J e*7+1) [A D n] (Kn n) (by rw[B4];omega);exact f (kE k nb cb nk ck ns cs na ca co d0 d1 d2 dr i n (d0 % 20) e g (o (show d0 % 20<=6 by omega)) (o (by omega)) (z.2 (by omega)) (z.2 (by omega)) (z.2 (by omega)) (z.2 (by omega)) (AM.2 (by omega)) l (dl d0 d1 d2 dr) (DG rfl d.b.memI d.k.memI d.s.memI d.a.memO rfl) m (DB d0) j) (gG ⟨r1,d.k,d.s,d.a⟩ hb.2 p)
   by_cases m5:d0 % 20=5
   ·obtain⟨g,j,r1⟩:=d.b.lay (off:=J e*7+0) [A D 2] (Kn 2) (by rw[B4];omega);obtain⟨L,O,r2⟩:=r1.lay (off:=J e*7+5) [A D 0,A D 0] (fun c hc=>⟨0,by simp at hc;exact hc⟩) (by show _+2<=_;omega);exact f (kF k nb cb nk ck ns cs na ca co d0 d1 d2 dr i n (d0 % 20) e g L (o (show d0 % 20<=6 by omega)) (o (by omega)) (z.2 (by omega)) (z.2 (by omega)) (z.2 (by omega)) (z.2 (by omega)) (z.2 (by omega)) (AM.2 (by omega)) l (dl d0 d1 d2 dr) (DG rfl d.b.memI d.k.memI d.s.memI d.a.memO rfl) m (DB d0) j O) (gG ⟨r2,d.k,d.s,d.a⟩ hb.2 p)
   obtain⟨es,e1,P⟩:=d.b.balls;subst P;have Q:J e<C es:=by omega
   have R:Ad (F cB es) (J e*7) 7 false=some (M (cB es[J e])):=by
    have h:=B7 (c:=cB) (k:=7) (fun _=>rfl) Q;simp only[Ad,AC,if_false,AH,AL,C5] at h |-;split at h
    ·rw[Ae (by omega)];exact h
    ·cases h
   exact f (kG k nb (F cB es) nk ck ns cs na ca co d0 d1 d2 dr i n (d0 % 20) e es[J e] (o (show d0 % 20<=6 by omega)) (o (by omega)) (z.2 (by omega)) (z.2 (by omega)) (z.2 (by omega)) (z.2 (by omega)) (z.2 (by omega)) (z.2 (by omega)) (AM.2 (by omega)) l (dl d0 d1 d2 dr) (by omega) (DG rfl d.b.memI d.k.memI d.s.memI d.a.memO rfl) m (DB d0) R) (AIa ⟨d.b.app ⟨rfl,fun c hc=>(by simp only[cB,Aw,A3,or_false] at hc;rcases hc with h | h | h | h | h | h | h <;> exact⟨_,h⟩)⟩,d.k,d.s,d.a⟩ hb.2 p)
 ·have q:Aa HU (BV k nb cb nk ck ns cs na ca co d0 d1 d2 dr i n) .norm (BV k nb cb nk ck ns cs na ca co d0 d1 d2 dr i n):=by
   by_cases h0:nb=0
   ·exact uB k nb cb nk ck ns cs na ca co d0 d1 d2 dr i n (As (show ¬ d0 % 20<=6 by omega)) (As (by omega))
   ·obtain⟨e,l,m⟩:=I5 i nb (by omega);exact uD k nb cb nk ck ns cs na ca co d0 d1 d2 dr i n (d0 % 20) e (As (show ¬ d0 % 20<=6 by omega)) (o (by omega)) (z.2 (by omega)) (z.2 (by omega)) (z.2 (by omega)) (z.2 (by omega)) (z.2 (by omega)) (z.2 (by omega)) (z.2 (by omega)) l (dl d0 d1 d2 dr) m (DB d0)
  by_cases S:d0 % 20=7
  ·exact f q (AIb d hb.2 S)
  by_cases T:d0 % 20=8
  ·exact f q (AIc d hb.2 T)
  by_cases U:d0 % 20=9
  ·exact f q (AId d hb.2 U)
  by_cases V:d0 % 20=10
  ·exact f q (AAz d hb.2 V)
  by_cases W:d0 % 20=11
  ·exact f q (ABa d hb.2 W)
  by_cases X:d0 % 20=12
  ·exact f q (ABb d hb.2 X)
  by_cases Y:d0 % 20=13
  ·exact f q (ABc d hb.2 Y)
  exact f q (ABd d hb.2 (by omega))
end
theorem Aok:∀ xs:LI,Ls R9 1 (C xs) (F cI xs):=fun xs=>⟨KT (c:=cI) (k:=1) (fun _=>rfl) xs,fun c hc=>by
 obtain⟨x,_,a⟩:=Q2.1 hc;exact⟨x,AP.1 a⟩⟩
theorem ABf:∀ xs:List Bool,Ls isO 1 (C xs) (F cO xs):=fun xs=>⟨KT (c:=cO) (k:=1) (fun _=>rfl) xs,fun c hc=>by
 obtain⟨x,_,a⟩:=Q2.1 hc;exact⟨x,AP.1 a⟩⟩
theorem ABg:∀ es:List El,Ls R9 7 (C es) (F cB es):=fun es=>⟨KT (c:=cB) (k:=7) (fun _=>rfl) es,fun c hc=>by
 obtain⟨e,_,a⟩:=Q2.1 hc;simp only[cB,Aw,A3,or_false] at a;rcases a with h | h | h | h | h | h | h <;> exact⟨_,h⟩⟩
theorem WC{s:St}(hb:C s.bs<=1000/\C s.ks<=1000/\C s.az<=1000/\C s.ss=C s.ks)(d:LI):∃ s':St,RQ 10 [M s.cs,E (C d) (li d)] (M s'.cs):=by
 suffices h:∃ k nb cb nk ck ns cs na ca,Raw nb cb nk ck ns cs na ca/\Aa (iF g O7).body (CL (iF g O7) [M s.cs,E (C d) (li d)]) .ret (CG k nb cb nk ck ns cs na ca s.co) by
  obtain⟨k,nb,cb,nk,ck,ns,cs,na,ca,c,h⟩:=h;obtain⟨bs,f,rfl⟩:=c.b.balls;obtain⟨ks,j,rfl⟩:=c.k.ints;obtain⟨ss,l,rfl⟩:=c.s.ints;obtain⟨az,p,rfl⟩:=c.a.bools;subst f j l p;exact⟨⟨k,bs,ks,ss,az,s.co⟩,B6 (fn:=iF g O7) (ex := .ret) rfl rfl h (by nofun) rfl⟩
 have c:Raw (C s.bs) (F cB s.bs) (C s.ks) (F cI s.ks) (C s.ss) (F cI s.ss) (C s.az) (F cO s.az):=⟨ABg _,Aok _,Aok _,ABf _⟩;rw[A6o];have e0:=Ajt s.k (C s.bs) (F cB s.bs) (C s.ks) (F cI s.ks) (C s.ss) (F cI s.ss) (C s.az) (F cO s.az) s.co d;have e:C d<3->∃ k nb cb nk ck ns cs na ca,Raw nb cb nk ck ns cs na ca/\Aa (.seq Ajs (.seq tY (.seq Aju (.seq Ajw (.seq HU CJ))))) (CL (iF g O7) [M s.cs,E (C d) (li d)]) .ret (CG k nb cb nk ck ns cs na ca s.co):=fun h =>
  ⟨_,_,_,_,_,_,_,_,_,c,N e0 (m (tZ s.k (C s.bs) (F cB s.bs) (C s.ks) (F cI s.ks) (C s.ss) (F cI s.ss) (C s.az) (F cO s.az) s.co d (o (by omega))))⟩
 match d,e0,e with
 | [],_,e=>exact e (by decide)
 | [_],_,e=>exact e (by simp)
 | [_,_],_,e=>exact e (by simp)
 | d0::d1::d2::dr,e0,_ =>
  obtain⟨k,nb,cb,nk,ck,ns,cs,na,ca,h1,h2⟩:=ABe (k:=s.k) (co:=s.co) (d0:=d0) (d1:=d1) (d2:=d2) (dr:=dr) (i:=d1) (n:=d2) c (by omega);have q:(3:Int)<=(C (d0::d1::d2::dr):Int):=by simp only[B1];omega
  exact⟨k,nb,cb,nk,ck,ns,cs,na,ca,h1,N e0 (N (uA s.k (C s.bs) (F cB s.bs) (C s.ks) (F cI s.ks) (C s.ss) (F cI s.ss) (C s.az) (F cO s.az) s.co _ (As (by omega)))
   (N (Ajv s.k (C s.bs) (F cB s.bs) (C s.ks) (F cI s.ks) (C s.ss) (F cI s.ss) (C s.az) (F cO s.az) s.co d0 d1 d2 dr (AAy s.k (C s.bs) (F cB s.bs) (C s.ks) (F cI s.ks) (C s.ss) (F cI s.ss) (C s.az) (F cO s.az) s.co c.b.1 (by omega) c.k.1 (by omega) c.s.1 (by omega) c.a.1 (by omega)))
    (N (Ajx s.k (C s.bs) (F cB s.bs) (C s.ks) (F cI s.ks) (C s.ss) (F cI s.ss) (C s.az) (F cO s.az) s.co d0 d1 d2 dr ⟨by omega,by omega⟩ ⟨by omega,by omega⟩) h2)))⟩
theorem AKy{s:St}{nb a b:Nat}(h:s.ok nb a b):s.av nb a b = M s.cs:=by
 obtain⟨_,h1,h2,c,d,_⟩:=h;unfold St.av St.cs;rw[h1,h2,c,d]
theorem AKp{t:Tbl}{l:LI}(a:TOk t)(hl:C l<4611686018427387904)(c:∀ (s:St) (px py:Int),Alike t s px py) :
  ∃ s:St,s.ok t.r1.toNat (C t.fl) (C t.ws)/\RQ 11 [t.av,E (C l) (li l)] (M s.cs):=by
 have h1:=a.r1;have d:=a.l8;have e:=a.l11;obtain⟨s,hs,hr⟩:=AKq (l:=l) hl (r0:=t.r0) (r1:=t.r1) (r2:=t.r2) (r3:=t.r3) (r4:=t.r4) (r5:=t.r5) (r6:=t.r6) (fs:=t.fl) (ws:=t.ws) (m7:=C t.tr) (m9:=C t.ar) (m10:=C t.po) (m12:=C t.zo) (m13:=C t.sa) (m14:=C t.la) (m15:=C t.ra) (m16:=C t.dr) (m17:=C t.ln)
  (d7:=F cI t.tr) (d9:=F AD t.ar) (d10:=F cPo t.po) (d12:=F cZ t.zo) (d13:=F AN t.sa) (d14:=F cL t.la) (d15:=F cR t.ra) (d16:=F cD t.dr) (d17:=F cK t.ln)
  (by omega) a.Fl.1 (by omega) (by omega) (fun s x y r i h _ _ _ _ _=>by
   obtain⟨b,_,hb⟩:=Asp (lv:=r) (xc:=(i:Int)) a h.sh (c s x y);rw[<- AKy h] at hb;exact⟨b,hb⟩)
 rw[AKy hs] at hr;exact⟨s,hs,hr⟩
theorem A9l:Be CQ []:=Be.nil _
theorem AKb(a b c:LI)(t:Tbl)(s r:St)(x:Int)(d:RQ 8 [] (I true))(e:RQ 9 [E (C a) (li a)] (M t.cs))(f:RQ 11 [M t.cs,E (C b) (li b)] (M s.cs))(h:RQ 10 [M s.cs,E (C c) (li c)] (M r.cs))(i:RQ 12 [M t.cs,M r.cs] (A D x))(j:RQ 13 [M t.cs,M r.cs] (A D x)):RQ 3 [E (C a) (li a),E (C b) (li b),E (C c) (li c)] (I (x==x)):=ALa (fn:=iF g Yx3) A9l rfl [.r (I true),Y,.r (M t.cs),.r (M s.cs),.r (M r.cs),.r (A D x),.r (A D x)] (Gs d iY e f h i j)
theorem Aqb{b c l3:LI}(h1:C b<4611686018427387904)(h2:C c<4611686018427387904)(d:RQ 8 [] (I true)) :
  RQ 3 [E (C b) (li b),E (C c) (li c),E (C l3) (li l3)] (I true):=by
 obtain⟨t,⟨a,e⟩,f⟩:=aR h1;have g:=fun s px py=>SD a s px py;obtain⟨s,hs,rs⟩:=AKp a h2 g;have l:=a.r1;have m:=a.l8;have n:=a.l11;obtain⟨o,p,q,u⟩:=hs.sh;obtain⟨r,i⟩:=WC (s:=s) (by omega) l3;obtain⟨x,j,k⟩:=WB (s:=r) a e;have h:=AKb b c l3 t s r x d f rs i j k;rw[beq_self_eq_true] at h;exact h
end
end Go.Proofs.YtenfgdobfjofkaaGreat
