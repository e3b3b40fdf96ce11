/- Texts of the proof of EntryOrder: part 10 of 14. -/
import Derived.KernelRfl
import Derived.Test.YtajompaehjkgkaaGreatEor9
namespace Go.Proofs.YtajompaehjkgkaaGreat
open Go.Ai
set_option maxRecDepth 100000
open Bool renaming eq_iff_iff->UY
open Go.Ai.AV renaming agg->o,bool->B,fresh->P,int->F,sl->H,tup->Ar
open Go.IntKind renaming i64->O,u32->Ae,wrap->I
open Int renaming mul_comm->AE,natAbs_mul->BS,neg_tmod->jO,tmod->AB,tmod_lt_of_pos->Anm,toNat->D,toNat_natCast->R
open List renaming all_eq_true->Cf,drop_eq_getElem_cons->B2,drop_length->Ev,drop_zero->Da,eq_nil_of_length_eq_zero->A5,getD_eq_getElem?_getD->Z,getElem?_eq_getElem->Ad,getElem?_map->Cs,getElem_mem->AM,getElem_of_mem->Hq,length_append->AY,length_map->Q,length_range->BE,length_replicate->Ew,length_reverse->Sn,length_take->AD,map_append->Ez,map_cons->Cx,map_nil->FW,mem_append->Bn,mem_cons->BD,mem_filter->ES,mem_map->Cn,mem_reverse->L8,mem_singleton->C3,range->Aq,replicate->l,take->Bx,take_of_length_le->CS,take_succ_eq_append_getElem->EV,take_zero->R5
open Nat renaming le_of_lt->uY,le_refl->Ao,le_trans->Bm,log2_lt->Sk,lt_or_ge->Ct,mod->F7,mod_eq_of_lt->EK,mod_lt->GO,mul_le_mul->BG,pow_add->De,pow_le_pow_right->BM,zero_le->AN
theorem Ank{xs:LI}(hb:∀ x∈xs,-9223372036854775808<=x/\x<=9223372036854775807)(hn:xs.length<=1000):RQ 47 [H xs.length (li xs)] (P 2 ((Y xs).map cn).length (pc ((Y xs).map cn))):=by
 have hx:∀ i,-9223372036854775808<=xs.getD i 0/\xs.getD i 0<=9223372036854775807:=by
  intro i;rcases Ct i xs.length with h | h
  ·rw[Z,Ad h];exact hb _ (AM h)
  ·rw[B3 h];decide
 have h:=CE.up (prog:=DK) (c:=kX) (ex := .exit 0) (fin:=WT xs xs.length (pc ((Aq xs.length).map fun j=>cn (xs.getD j 0))) (xs.length:Nat))
  (fun i=>WT xs i (pc ((Aq i).map fun j=>cn (xs.getD j 0))) (i:Nat)) xs.length (by nofun) ?_ ?_ 0 (AN _)
 ·have hgo:∀ r∈(Aq xs.length).map (fun j=>cn (xs.getD j 0)),AU 1048576 r:=Pc fun j _=>(B4 (Ob (hx j))).mono (by omega);have ht:=EX hgo (by rw[Q,BE];omega);have e:Y (N ((Aq xs.length).map (fun j=>cn (xs.getD j 0))))=Y xs:=by
   apply Gb;intro i;rw[KP,A6];split
   ·rfl
   ·rw[B3 (by omega)]
  (first|rw[e,Q,BE] at ht|(rw[e] at ht;unfold sL at ht;rw[Q,BE] at ht));have hpk:pk (Y xs)=pc ((Y xs).map cn):=rfl;rw[hpk] at ht;have el:(Y xs).length=((Y xs).map cn).length:=(Q ..).symm;rw[el] at ht;exact A7s xs _ _ _ _ h ht
 ·intro i hi;have ei:I O ((i:Int)+1)=((i+1:Nat):Int):=by rw[Bg (by omega) (by omega)];omega
  have k:=A7q xs i (pc ((Aq i).map fun j=>cn (xs.getD j 0))) (i:Nat) (by simp;omega) (by omega) (by omega) (gP (hx _));refine k.to rfl ?_;rw[ei,<- Gh (fun j=>xs.getD j 0) i,R]
 ·exact A7r xs _ _ _ (by simp)
theorem rM{K:Nat}{rs ss:List Rn}(hr:∀ r∈rs,AU K r)(hs:∀ r∈ss,AU K r)(hK:2*K+rs.length<1048576)(hM:rs.length+ss.length<=1048576) :
  RQ 45 [sL pc rs,sL pc ss] (P 2 (Bs (N rs) (N ss)).length (pk (Bs (N rs) (N ss)))):=by
 have hev:=fun x=>uN rs ss ss.length (rs.length+ss.length-1) x rs.length (by omega);have htk:∀ ts:List Rn,(N ts).take ts.length=N ts:=fun ts=>by rw[CS (by rw[AW];omega)]
 by_cases h1:rs.length=0
 ·have hz:rs=[]:=A5 h1;subst hz;exact Amh [] ss (by simp)
 by_cases h2:ss.length=0
 ·have hz:ss=[]:=A5 h2;subst hz;have e:Bs (N rs) (N ([]:List Rn))=[]:=Vu rfl;rw[e];exact Ami rs [] (by rw[beq_eq_false_iff_ne];omega) (by simp)
 have hgood:=Y8 (os:=l (rs.length+ss.length-1) z0) hr hs (Wu _ _) ss.length rs.length;have hlen:=Pe rs ss (l (rs.length+ss.length-1) z0) ss.length rs.length;rw[Ew] at hlen;have hl:=CE.up (prog:=DK) (c:=kW) (ex := .exit 0) (fin:=Z8 rs ss (rs.length+ss.length-1) (Nh rs ss (l (rs.length+ss.length-1) z0) ss.length rs.length) (rs.length:Nat))
  (fun i=>Z8 rs ss (rs.length+ss.length-1) (Nh rs ss (l (rs.length+ss.length-1) z0) ss.length i) (i:Nat)) rs.length (by nofun) ?_ ?_ 0 (AN _)
 ·have e3:I O ((I O ((rs.length:Int)+(ss.length:Int)))-1)=((rs.length+ss.length-1:Nat):Int):=by
   rw[Bg (n:=(rs.length:Int)+(ss.length:Int)) (by omega) (by omega),Bg (by omega) (by omega)];omega
  have ht:=EX (fun r h=>(hgood r h).mono (show 2*K+rs.length<=1048576 by omega)) (by omega);have hmul:Y (N (Nh rs ss (l (rs.length+ss.length-1) z0) ss.length rs.length))=Bs (N rs) (N ss):=by
   rw[<- M0];exact Ft fun x=>by rw[hev x,htk,htk,AX]
  (first|rw[hmul,hlen] at ht|(rw[hmul] at ht;unfold sL at ht;rw[hlen] at ht));have hpk:pk (Bs (N rs) (N ss))=pc ((Bs (N rs) (N ss)).map cn):=rfl;(first|rw[hpk,<- Q (f:=cn)] at ht |-|(rw[hpk] at ht |-;unfold sL at ht;rw[<- Q (f:=cn)] at ht |-));exact Amj rs ss _ _ _ _ (by rw[beq_eq_false_iff_ne];omega) (by rw[beq_eq_false_iff_ne];omega) (by rw[e3];omega) (by rw[e3,R,QO];exact hl) ht
 ·intro i hi;have ei:I O ((i:Int)+1)=((i+1:Nat):Int):=by rw[Bg (by omega) (by omega)];omega
  have hgo:=Y8 (os:=l (rs.length+ss.length-1) z0) hr hs (Wu _ _) ss.length i;have hlo:=Pe rs ss (l (rs.length+ss.length-1) z0) ss.length i;rw[Ew] at hlo;have k:=A7o rs ss (rs.length+ss.length-1) (Nh rs ss (l (rs.length+ss.length-1) z0) ss.length i) (i:Nat) (Nh rs ss (l (rs.length+ss.length-1) z0) ss.length (i+1)) (by simp;omega) ?_
  ·exact k.to rfl (by rw[ei])
  ·rw[Nh];generalize Nh rs ss (l (rs.length+ss.length-1) z0) ss.length i=os at *
   have hin:=CE.up (prog:=DK) (c:=XO) (ex := .exit 2) (fin:=Ru rs ss (rs.length+ss.length-1) (Sj rs ss os i ss.length) i ss.length)
    (fun j=>Ru rs ss (rs.length+ss.length-1) (Sj rs ss os i j) (i:Nat) (j:Nat)) ss.length (by nofun) ?_ ?_ 0 (AN _)
   ·exact hin
   ·intro j hj;have ej:I O ((j:Int)+1)=((j+1:Nat):Int):=by rw[Bg (by omega) (by omega)];omega
    have eij:I O ((i:Int)+(j:Int))=((i+j:Nat):Int):=by rw[Bg (by omega) (by omega)];omega
    have hli:=QR rs ss os i j;have hfar:=mJ rs ss os i j (i+j) (Ao _);obtain⟨gr1,gr2⟩:=Bo hr i;obtain⟨gs1,gs2⟩:=Bo hs j;obtain⟨go1,go2⟩:=Bo hgo (i+j);have hp:=(Bv.mul (Bo hr i).fits (Bo hs j).fits).len;have k:=A2h rs ss (rs.length+ss.length-1) (Sj rs ss os i j) (i:Nat) (j:Nat) (by simp;omega) (by rw[eij];omega) (by omega) (by omega) (by omega)
     (by simp only[R];exact Ni gr1 gs1 (by omega))
     (by
      simp only[R,eij,hfar];have:=Pf (na:=(os.getD (i+j) z0).1) (nb:=decide (L (rs.getD i z0)*L (ss.getD j z0)<0)) go1 (BV (L (rs.getD i z0)*L (ss.getD j z0)).natAbs) (by omega) (by omega);rw[FB] at this;exact this)
    refine k.to rfl ?_;simp only[R,eij,ej,Sj]
   ·exact A2i rs ss _ _ (i:Nat) (ss.length:Nat) (by simp)
 ·exact A7p rs ss _ _ (rs.length:Nat) (by simp)
def OKc(r:Rn):Prop:=F3 (L r).natAbs<=110/\r.2.length<=5
def OKp(rs:List Rn):Prop:=rs.length<=8/\∀ r∈rs,OKc r
def OKl(ls:List (List Rn)):Prop:=ls.length<=5/\∀ rs∈ls,OKp rs
theorem MI{α:Type}{l:List α}{d:α}{i:Nat}(h:i<l.length):l.getD (D (i:Int)) d=l[i]:=by
 rw[R,Z,Ad h];rfl
theorem PC{i:Nat}(h:i<100000000000000):I O ((i:Int)+1)=((i+1:Nat):Int):=by rw [Bg (by omega) (by omega)];omega
section
variable {ll:L3} {i:Nat} (hi:i<ll.length)
include hi
theorem ADz{j:Nat}(hj:j<ll[i].length)(hg:∀ r∈ll[i][j],AU 35184372088832 r)(hl:ll[i][j].length<=8):∀ m k:Nat,k+m=ll[i][j].length ->
  ((∀ r∈ll[i][j].drop k,OKc r)/\Ap (.loop OK) (I4 false ll (i:Nat) (j:Nat) (k:Nat)) (.exit 4) (I4 false ll (i:Nat) (j:Nat) ((ll[i][j].length:Nat):Int))) \/
  ∃ k':Int,Ap (.loop OK) (I4 false ll (i:Nat) (j:Nat) (k:Nat)) .ret (I4 false ll (i:Nat) (j:Nat) k'):=by
 have e1:=MI (d:=[]) hi;have e2:=MI (d:=[]) hj;have n1:0<=(i:Int)/\(i:Int)<(ll.length:Int):=by omega
 have n2:0<=(j:Int)/\(j:Int)<(((ll.getD (D (i:Int)) []).length:Nat):Int):=by rw[e1];omega
 have el:((ll.getD (D (i:Int)) []).getD (D (j:Int)) []).length=ll[i][j].length:=by rw[e1,e2]
 intro m;induction m with
 | zero =>
  intro k hk;have e:k=ll[i][j].length:=by omega
  subst e;rw[Ev];exact .inl ⟨fun r hr=>(by cases hr),Ah (A2m _ _ _ _ _ (by rw[el,decide_eq_false_iff_not];omega) n1 n2)⟩
 | succ m ih =>
  intro k hk;have hkl:k<ll[i][j].length:=by omega
  have e3:=MI (d:=z0) hkl;have n3:0<=(k:Int)/\(k:Int)<((((ll.getD (D (i:Int)) []).getD (D (j:Int)) []).length:Nat):Int):=by rw[el];omega
  have c1:decide ((k:Int)<((((ll.getD (D (i:Int)) []).getD (D (j:Int)) []).length:Nat):Int))=true:=by rw[el,decide_eq_true_eq];omega
  have gk:=hg _ (AM hkl);have bits:=yJ (neg:=(ll[i][j][k]).1) gk.1 (by have:=gk.2;omega);have bits:RQ 51 [Az (((ll.getD (D (i:Int)) []).getD (D (j:Int)) []).getD (D (k:Int)) z0)] (F O ((F3 (L ll[i][j][k]).natAbs:Nat):Int)):=by rw[e1,e2,e3];exact bits
  by_cases c2:F3 (L ll[i][j][k]).natAbs<=110
  ·by_cases c3:(ll[i][j][k]).2.length<=5
   ·have kk:=A2l false ll (i:Nat) (j:Nat) (k:Nat) _ c1 (by rw[decide_eq_false_iff_not];omega) (by rw[e1,e2,e3,decide_eq_false_iff_not];omega) n1 n2 n3 bits;rw[PC (by omega)] at kk;rcases ih (k+1) (by omega) with ⟨a,b⟩ | ⟨k',b⟩
    ·refine .inl ⟨fun r hr => ?_,CE.loop kk b⟩;rw[B2 hkl] at hr;rcases BD.1 hr with rfl | hr
     ·exact⟨c2,c3⟩
     ·exact a r hr
    ·exact .inr ⟨k',CE.loop kk b⟩
   ·exact .inr ⟨_,Ah (A2k false ll (i:Nat) (j:Nat) (k:Nat) _ c1 (by rw[decide_eq_false_iff_not];omega) (by rw[e1,e2,e3,decide_eq_true_eq];omega) n1 n2 n3 bits)⟩
  ·exact .inr ⟨_,Ah (A2j false ll (i:Nat) (j:Nat) (k:Nat) _ c1 (by rw[decide_eq_true_eq];omega) n1 n2 n3 bits)⟩
theorem AEa(hg:∀ rs∈ll[i],∀ r∈rs,AU 35184372088832 r)(hl:ll[i].length<=5):∀ m j:Nat,j+m=ll[i].length ->
  ((∀ rs∈ll[i].drop j,OKp rs)/\Ap (.loop OL) (I5 false ll (i:Nat) (j:Nat)) (.exit 2) (I5 false ll (i:Nat) ((ll[i].length:Nat):Int))) \/
  ∃ k':Int,Ap (.loop OL) (I5 false ll (i:Nat) (j:Nat)) .ret (I5 false ll (i:Nat) k'):=by
 have e1:=MI (d:=[]) hi;have n1:0<=(i:Int)/\(i:Int)<(ll.length:Int):=by omega
 intro m;induction m with
 | zero =>
  intro j hj;have e:j=ll[i].length:=by omega
  subst e;rw[Ev];exact .inl ⟨fun r hr=>(by cases hr),Ah (A2p _ _ _ _ (by rw[e1,decide_eq_false_iff_not];omega) n1)⟩
 | succ m ih =>
  intro j hj;have hjl:j<ll[i].length:=by omega
  have e2:=MI (d:=[]) hjl;have n2:0<=(j:Int)/\(j:Int)<(((ll.getD (D (i:Int)) []).length:Nat):Int):=by rw[e1];omega
  have c1:decide ((j:Int)<(((ll.getD (D (i:Int)) []).length:Nat):Int))=true:=by rw[e1,decide_eq_true_eq];omega
  by_cases c2:ll[i][j].length<=8
  ·have d2:decide (((((ll.getD (D (i:Int)) []).getD (D (j:Int)) []).length:Nat):Int)>8)=false:=by rw[e1,e2,decide_eq_false_iff_not];omega
   rcases ADz hi hjl (hg _ (AM hjl)) c2 ll[i][j].length 0 (by omega) with ⟨a,b⟩ | ⟨k',b⟩
   ·have kk:=A2o false ll (i:Nat) (j:Nat) _ c1 d2 n1 n2 b;rw[PC (by omega)] at kk;rcases ih (j+1) (by omega) with ⟨a',b'⟩ | ⟨k'',b'⟩
    ·refine .inl ⟨fun rs hrs => ?_,CE.loop kk b'⟩;rw[B2 hjl] at hrs;rcases BD.1 hrs with rfl | hrs
     ·exact⟨c2,by rw[Da] at a;exact a⟩
     ·exact a' rs hrs
    ·exact .inr ⟨k'',CE.loop kk b'⟩
   ·exact .inr ⟨_,Ah (Amm false ll (i:Nat) (j:Nat) _ c1 d2 n1 n2 b)⟩
  ·exact .inr ⟨_,Ah (A2n false ll (i:Nat) (j:Nat) c1 (by rw[e1,e2,decide_eq_true_eq];omega) n1 n2)⟩
end
theorem AEb{ll:L3}(hg:∀ ls∈ll,∀ rs∈ls,∀ r∈rs,AU 35184372088832 r)(hl:ll.length<=5):∀ m i:Nat,i+m=ll.length ->
  ((∀ ls∈ll.drop i,OKl ls)/\Ap (.loop OM) (I6 false ll (i:Nat)) (.exit 0) (I6 false ll (ll.length:Int))) \/
  ∃ k':Int,Ap (.loop OM) (I6 false ll (i:Nat)) .ret (I6 false ll k'):=by
 intro m;induction m with
 | zero =>
  intro i hi;have e:i=ll.length:=by omega
  subst e;rw[Ev];exact .inl ⟨fun r hr=>(by cases hr),Ah (A2s _ _ _ (by rw[decide_eq_false_iff_not];omega))⟩
 | succ m ih =>
  intro i hi;have hil:i<ll.length:=by omega
  have e1:=MI (d:=[]) hil;have n1:0<=(i:Int)/\(i:Int)<(ll.length:Int):=by omega
  have c1:decide ((i:Int)<(ll.length:Int))=true:=by rw[decide_eq_true_eq];omega
  by_cases c2:ll[i].length<=5
  ·have d2:decide ((((ll.getD (D (i:Int)) []).length:Nat):Int)>5)=false:=by rw[e1,decide_eq_false_iff_not];omega
   rcases AEa hil (hg _ (AM hil)) c2 ll[i].length 0 (by omega) with ⟨a,b⟩ | ⟨k',b⟩
   ·have kk:=A2r false ll (i:Nat) _ c1 d2 n1 b;rw[PC (by omega)] at kk;rcases ih (i+1) (by omega) with ⟨a',b'⟩ | ⟨k'',b'⟩
    ·refine .inl ⟨fun ls hls => ?_,CE.loop kk b'⟩;rw[B2 hil] at hls;rcases BD.1 hls with rfl | hls
     ·exact⟨c2,by rw[Da] at a;exact a⟩
     ·exact a' ls hls
    ·exact .inr ⟨k'',CE.loop kk b'⟩
   ·exact .inr ⟨_,Ah (Amn false ll (i:Nat) _ c1 d2 n1 b)⟩
  ·exact .inr ⟨_,Ah (A2q false ll (i:Nat) c1 (by rw[e1,decide_eq_true_eq];omega) n1)⟩
theorem Anl{ll:L3}(hg:∀ ls∈ll,∀ rs∈ls,∀ r∈rs,AU 35184372088832 r):∃ b,RQ 37 [H ll.length (DB ll)] (B b)/\(b=true->ll.length<=5/\∀ ls∈ll,OKl ls):=by
 by_cases c:ll.length<=5
 ·have d:decide ((ll.length:Int)>5)=false:=by rw[decide_eq_false_iff_not];omega
  rcases AEb hg c ll.length 0 (by omega) with ⟨a,b⟩ | ⟨k',b⟩
  ·exact⟨true,Amp ll _ d b,fun _=>⟨c,by rw[Da] at a;exact a⟩⟩
  ·exact⟨false,Aad ll _ d b,fun e=>by cases e⟩
 ·exact⟨false,Amo ll (by rw[decide_eq_true_eq];omega),fun e=>by cases e⟩
theorem ZD(x:Int){n:Int}(hn:0<n)(hn2:n<=1000000):∃ v:Int,0<=v/\v<n/\RQ 44 [F O x,F O n] (F O v):=by
 have h1:AB x n<n:=Anm x hn;have h2 : -n<AB x n:=by
  have h:=Anm (-x) hn;rw[jO] at h;omega
 by_cases c:AB x n<0
 ·have k:=Amk x n (decide_eq_true c) (by omega);rw[Bg (by omega) (by omega)] at k;exact⟨_,by omega,by omega,k⟩
 ·exact⟨_,by omega,h1,Aml x n (decide_eq_false c) (by omega)⟩
def R0(c:Int)(rs:List Rn):List Rn:=(Bs (Y (N rs)) [c]).map cn
def PD(c:Int)(ls:List (List Rn)):List (List Rn):=ls.reverse.map (R0 c)
theorem UP{c:Int}(hc:c ≠ 0)(rs:List Rn):Y (N (R0 c rs))=As c (Y (N rs)):=by
 unfold R0;rw[s];have e:Y (Bs (Y (N rs)) [c])=Y (As c (Y (N rs))):=Ft fun x=>by
  rw[AX,A0];simp[Aa,AE]
 rw[e,Jg hc,Fs]
theorem Adf{ls:List (List Rn)}(hg:∀ rs∈ls,∀ r∈rs,AU 35184372088832 r)(h:OKl ls):Few ls/\∀ rs∈ls,∀ i,((N rs).getD i 0).natAbs<=2^110:=by
 have hco:∀ rs∈ls,∀ i,((N rs).getD i 0).natAbs<=2^110:=by
  intro rs hrs i;by_cases hi:i<rs.length
  ·have e:(N rs).getD i 0=L (rs[i]):=by
    rw[Z,N,Cs,Ad hi];rfl
   rw[e];have hb:=((h.2 rs hrs).2 _ (AM hi)).1;unfold F3 at hb;split at hb
   ·rename_i g;rw[g];exact AN _
   ·rename_i g;exact uY ((Sk g).1 (by omega))
  ·rw[B3 (by rw[AW];omega)];exact AN _
 exact⟨⟨h.1,fun rs hrs r hr=>⟨(hg rs hrs r hr).1,((h.2 rs hrs).2 r hr).2⟩,fun rs hrs=>(h.2 rs hrs).1,fun rs hrs i=>Bm (hco rs hrs i) (BM (by decide) (by decide))⟩,hco⟩
theorem A3b{c:Int}(hc:1<=c/\c<=7){ls:List (List Rn)}(h:Few ls)(hco:∀ rs∈ls,∀ i,((N rs).getD i 0).natAbs<=2^110):Few (PD c ls):=by
 have key:∀ rs∈ls,∀ i,((Bs (Y (N rs)) [c]).getD i 0).natAbs<=2^113:=by
  intro rs hrs i;have e:=UP (show c ≠ 0 by omega) rs;unfold R0 at e;rw[s] at e;rw[<- Dl,e,m,Dl,BS];have h1:=hco rs hrs i;have h2:c.natAbs<=2^3:=by omega
  exact Bm (BG h2 h1) (by rw[<- De];exact BM (by decide) (by decide))
 refine⟨by unfold PD;rw[Q,Sn];exact h.len,?_,?_,?_⟩
 ·intro ss hss;obtain⟨rs,hrs,rfl⟩:=Cn.1 hss;rw[L8] at hrs;exact AR fun i=>C_ (key rs hrs i) (by decide)
 ·intro ss hss;obtain⟨rs,hrs,rfl⟩:=Cn.1 hss;rw[L8] at hrs;unfold R0;rw[Q];have hd:=h.deg rs hrs;have ht:=BA (N rs);rw[AW] at ht;have e:=UP (show c ≠ 0 by omega) rs;unfold R0 at e;rw[s,M0] at e;rw[e,y];omega
 ·intro ss hss i;obtain⟨rs,hrs,rfl⟩:=Cn.1 hss;rw[L8] at hrs;unfold R0;rw[s];exact key rs hrs i
theorem AEc{c:Int}(hc:c ≠ 0):Y [c]=[c]:=by
 have h:b [c] 1=1:=by simp[b,hc]
 show Bx (b [c] 1) [c]=[c];rw[h];rfl
theorem rN{ll:L3}{x n:Int}{k:Nat}{cs:List AV}{i:Int}{ls:List (List Rn)}{v:Int}(hv:0<=v/\v<7)(hpl:RQ 44 [F O x,F O 7] (F O v))(h:Few ls)(o:Bool) :
  ∀ r j:Nat,j+r=ls.length->Ap (.loop XK) (Rv o ll x n k cs i ls ((ls.reverse.take j).map (R0 (1+v))).length (pp ((ls.reverse.take j).map (R0 (1+v)))) ((r:Int)-1)) (.exit 2) (Rv o ll x n k cs i ls (PD (1+v) ls).length (pp (PD (1+v) ls)) (-1)):=by
 have hlen:=h.len;intro r;induction r with
 | zero =>
  intro j hj;rw[show ls.reverse.take j=ls.reverse from CS (by rw[Sn];omega)];exact Ah (A2u _ _ _ _ _ _ _ _ _ _ _ (by rw[decide_eq_false_iff_not];omega))
 | succ r ih =>
  intro j hj;have hr:r<ls.length:=by omega
  have hjr:j<ls.reverse.length:=by rw[Sn];omega
  have ex:ls.reverse[j]=ls[r]:=by rw[List.getElem_reverse];congr 1;omega
  have ej:(((r+1:Nat):Int)-1)=(r:Int):=by omega
  have eg:=MI (d:=[]) hr;have hm:=AM hr;have hgd:=h.good _ hm;have hdg:=h.deg _ hm;have ew:I O ((r:Int)-1)=(r:Int)-1:=Bg (by omega) (by omega);have e1:I O (1+v)=1+v:=Bg (by omega) (by omega);have tr:=EN (EX (rs:=ls[r]) (fun r hr=>(hgd r hr).mono (by decide)) (by omega));have of:=Ank (xs:=[1+v]) (fun y hy=>by rw[C3.1 hy];omega) (by simp);have etr:Y [1+v]=[1+v]:=AEc (by omega);rw[etr] at of;have kb:Kb 5 (Y (N ls[r])):=(J8 (Dk hgd)).trim;have tl:=BA (N ls[r]);rw[AW] at tl;have ti:=rM (K:=5) (rs:=(Y (N ls[r])).map cn) (ss:=[1+v].map cn) (AR kb) (fun y hy=>by
   simp at hy;subst hy;exact B4 (C_ (k:=3) (by omega) (by decide))) (by rw[Q];omega) (by rw[Q,Q];simp;omega)
  rw[s,s] at ti;have ti:=EN ti;have kk:=A2t o ll x n k cs i ls ((ls.reverse.take j).map (R0 (1+v))).length (pp ((ls.reverse.take j).map (R0 (1+v)))) (r:Int) _ _ _ v (by rw[decide_eq_true_eq];omega) (by omega) (by rw[Q,AD];omega) (by rw[eg];exact tr) hpl (by rw[e1];exact of) ti;rw[ew] at kk;rw[ej];refine CE.loop kk ?_;have ih:=ih (j+1) (by omega);rw[EV hjr,ex,Ez,Cx,FW] at ih;have ep:pp ((ls.reverse.take j).map (R0 (1+v))++[R0 (1+v) ls[r]])=pp ((ls.reverse.take j).map (R0 (1+v)))++[H (R0 (1+v) ls[r]).length (pc (R0 (1+v) ls[r]))]:=by simp[pp]
  rw[ep,AY] at ih;exact ih
def Iu(c:Int)(ll:L3)(n:Nat):Nat->L3
 | 0=>[]
 | i+1=>Iu c ll n i++[PD c (ll.getD (F7 (i+n) ll.length) [])]
theorem O4(c:Int)(ll:L3)(n:Nat):∀ i,(Iu c ll n i).length=i
 | 0=>rfl
 | i+1=>by rw[Iu,AY,O4 c ll n i];rfl
theorem eY{c:Int}{ll:L3}{n:Nat}:∀ {i:Nat} {x:List (List Rn)},x∈Iu c ll n i↔∃ j,j<i/\x=PD c (ll.getD (F7 (j+n) ll.length) [])
 | 0,x=>by simp[Iu]
 | i+1,x=>by
  rw[Iu,Bn,eY,C3];constructor
  ·rintro (⟨j,hj,e⟩ | e)
   ·exact⟨j,by omega,e⟩
   ·exact⟨i,by omega,e⟩
  ·rintro⟨j,hj,e⟩;by_cases c:j=i
   ·subst c;exact .inr e
   ·exact .inl ⟨j,by omega,e⟩
theorem A3c{c:Int}{ll:L3}{n:Nat}(hn:n<ll.length){x:List (List Rn)}:x∈Iu c ll n ll.length↔∃ ls∈ll,x=PD c ls:=by
 have hpos:0<ll.length:=by omega
 rw[eY];constructor
 ·rintro⟨j,hj,e⟩;have hm:F7 (j+n) ll.length<ll.length:=GO _ hpos;refine⟨ll[F7 (j+n) ll.length],AM hm,?_⟩;rw[e,Z,Ad hm];rfl
 ·rintro⟨ls,hls,e⟩;obtain⟨q,hq,rfl⟩:=Hq hls;have key:∀ j,j<ll.length->F7 (j+n) ll.length=q->∃ j,j<ll.length/\x=PD c (ll.getD (F7 (j+n) ll.length) []):=by
   intro j hj hm;refine⟨j,hj,?_⟩;rw[e,hm,Z,Ad hq];rfl
  by_cases c1:n<=q
  ·exact key (q-n) (by omega) (by rw[show q-n+n=q by omega];exact EK hq)
  ·refine key (q+ll.length-n) (by omega) ?_;rw[show q+ll.length-n+n=q+ll.length by omega];show (q+ll.length) % ll.length=q;rw[Nat.add_mod_right];exact EK hq
theorem rO{ll:L3}{x:Int}{n:Nat}(hn:n<ll.length)(hl:ll.length<=5)(h:∀ ls∈ll,Few ls){v:Int}(hv:0<=v/\v<7)(hpl:RQ 44 [F O x,F O 7] (F O v)) :
  Ap (.loop XL) (Rw false ll x (n:Nat) 0 ([]:List AV) 0) (.exit 0) (Rw false ll x (n:Nat) (Iu (1+v) ll n ll.length).length (DB (Iu (1+v) ll n ll.length)) (ll.length:Int)):=by
 refine CE.up (prog:=DK) (c:=XL) (ex := .exit 0) (fun i=>Rw false ll x (n:Nat) (Iu (1+v) ll n i).length (DB (Iu (1+v) ll n i)) (i:Nat)) ll.length (by nofun) ?_ ?_ 0 (AN _)
 ·intro i hi;have hm:F7 (i+n) ll.length<ll.length:=GO _ (by omega);have e1:I O ((i:Int)+(n:Int))=((i+n:Nat):Int):=by rw[Bg (by omega) (by omega)];omega
  have e2:AB (I O ((i:Int)+(n:Int))) (ll.length:Int)=((F7 (i+n) ll.length:Nat):Int):=by
   rw[e1];rfl
  have eg:ll.getD (D (AB (I O ((i:Int)+(n:Int))) (ll.length:Int))) []=ll.getD (F7 (i+n) ll.length) []:=by rw[e2,R]
  have hmem:ll.getD (F7 (i+n) ll.length) []∈ll:=by
   rw[Z,Ad hm];exact AM hm
  have hf:=h _ hmem;have hfl:=hf.len;have rl:=O4 (1+v) ll n i;have inn:=rN (ll:=ll) (x:=x) (n:=(n:Int)) (k:=(Iu (1+v) ll n i).length) (cs:=DB (Iu (1+v) ll n i)) (i:=(i:Nat)) hv hpl hf false (ll.getD (F7 (i+n) ll.length) []).length 0 (by omega);rw[R5] at inn;rw[<- eg] at inn;have ew:I O ((((ll.getD (D (AB (I O ((i:Int)+(n:Int))) (ll.length:Int))) []).length:Nat):Int)-1)=(((ll.getD (D (AB (I O ((i:Int)+(n:Int))) (ll.length:Int))) []).length:Nat):Int)-1:=by
   rw[eg];exact Bg (by omega) (by omega)
  have kk:=A7t false ll x (n:Int) (Iu (1+v) ll n i).length (DB (Iu (1+v) ll n i)) (i:Nat) (PD (1+v) (ll.getD (D (AB (I O ((i:Int)+(n:Int))) (ll.length:Int))) [])) (-1) (by rw[decide_eq_true_eq];omega) (by omega) (by rw[e2];omega) (by rw[ew];exact inn) (by omega);rw[PC (by omega)] at kk;have ep:DB (Iu (1+v) ll n (i+1))=DB (Iu (1+v) ll n i)++[H (PD (1+v) (ll.getD (F7 (i+n) ll.length) [])).length (pp (PD (1+v) (ll.getD (F7 (i+n) ll.length) [])))]:=by simp[DB,Iu]
  rw[ep,show (Iu (1+v) ll n (i+1)).length=(Iu (1+v) ll n i).length+1 by rw[O4,O4]];rw[eg] at kk;exact kk
 ·exact A7u _ _ _ _ _ _ _ (by rw[decide_eq_false_iff_not];omega)
theorem az0:RQ 81 [o [B false,H 0 [],F O 0]] (o [H 2 [B false,H 0 [],B false,H 1 [F Ae 1]],B false,H 0 [],F O 0,B false,H 0 [],F O 0]):=B9 (k _) 400 _ _ _ (by kernel_rfl)
theorem az1:RQ 19 [o [H 2 [B false,H 0 [],B false,H 1 [F Ae 1]],B false,H 0 [],F O 0,B false,H 0 [],F O 0],o [H 2 [B false,H 0 [],B false,H 1 [F Ae 1]],B false,H 0 [],F O 0,B false,H 0 [],F O 0]] (F O 0):=B9 (k _) 400 _ _ _ (by kernel_rfl)
theorem Adg:Sm=(o [H 2 [B false,H 0 [],B false,H 1 [F Ae 1]],B false,H 0 [],F O 0,B false,H 0 [],F O 0]):=by rfl
theorem rP:RQ 81 [A2 z0 0] Sm:=by rw [Adg];exact az0
theorem aQ:RQ 19 [Sm,Sm] (F O 0):=by rw [Adg];exact az1
section
variable {c:Int} (hc:0<c) (p:LI)
include hc
theorem UQ:S (As c p)=S p:=by unfold S;rw [Np hc]
theorem PE:BR (As c p)=BR p:=by unfold BR;rw [UQ hc]
theorem Sf(u:Dy):VD (As c p) u=VD p u:=by unfold VD Vd;rw [PE hc]
theorem VU(y:Iv)(m:Int)(k:Nat):sd (As c p) y m k=sd p y m k:=by unfold sd;rw [UQ hc]
theorem rQ:∀ (n:Nat) (x:Iv),Fk (As c p) n x=Fk p n x:=by
 have hd:∀ x:Iv,x.d (As c p)=x.d p:=fun x=>by unfold Iv.d Vd;rw[PE hc]
 intro n;induction n with
 | zero=>intro x;simp only[Fk,hd]
 | succ n ih=>intro x;simp only[Fk,hd,ih]
theorem UR:EG (As c p)=EG p:=by unfold EG N1;rw [PE hc,rQ hc]
theorem ZE(x:Int)(a:Nat):DG (As c p) x a=DG p x a:=by
 have h:∀ (p:LI) (x q:Int),hv (As c p) x q=c*hv p x q:=by
  intro p x q;induction p with
  | nil=>simp[As,hv]
  | cons t ts ih =>
   have e:As c (t::ts)=(c*t)::As c ts:=rfl;rw[e];simp only[hv];rw[ih,y];grind
 unfold DG;rw[h,KV hc]
end
theorem Aas{c:Int}(hc:0<c){ps qs:List (LI)}(h:∀ q,q∈qs↔∃ p∈ps,q=As c p){C:Dy->Prop}:Beg qs C↔Beg ps C:=by
 have nl:∀ p y u,Eu (As c p,y) u↔Eu (p,y) u:=fun p y u=>by unfold Eu;rw[VU hc]
 constructor
 ·rintro⟨⟨q,hq,y,hy,hlt,e⟩,t,t1,t2,t3⟩;obtain⟨p,hp,rfl⟩:=(h q).1 hq;rw[UR hc] at hy;rw[VU hc] at hlt;refine⟨⟨p,hp,y,hy,hlt,fun u=>(e u).trans (nl p y u)⟩,t,t1,t2,fun p hp => ?_⟩;obtain⟨a,b⟩:=t3 (As c p) ((h _).2 ⟨p,hp,rfl⟩);rw[ZE hc] at b;exact⟨fun u hu hut=>by have:=a u hu hut;rwa [Sf hc,Sf hc] at this,b⟩
 ·rintro⟨⟨p,hp,y,hy,hlt,e⟩,t,t1,t2,t3⟩;refine⟨⟨As c p,(h _).2 ⟨p,hp,rfl⟩,y,by rw[UR hc];exact hy,by rw[VU hc];exact hlt,fun u=>(e u).trans (nl p y u).symm⟩,t,t1,t2,fun q hq => ?_⟩;obtain⟨p,hp,rfl⟩:=(h q).1 hq;obtain⟨a,b⟩:=t3 p hp;refine⟨fun u hu hut => ?_,by rw[ZE hc];exact b⟩;rw[Sf hc,Sf hc];exact a u hu hut
section
variable {c:Int} (hc:0<c) (ls:List (List Rn))
include hc
theorem VV(t:LI):t∈Ca (PD c ls)↔∃ s∈Ca ls,t=As c s:=by
 unfold Ca PD;constructor
 ·intro h;obtain⟨rs,hrs,rfl⟩:=Cn.1 h;obtain⟨r0,hr0,rfl⟩:=Cn.1 hrs;exact⟨Y (N r0),Cn.2 ⟨r0,L8.1 hr0,rfl⟩,UP (by omega) r0⟩
 ·rintro⟨s,hs,rfl⟩;obtain⟨r0,hr0,rfl⟩:=Cn.1 hs;exact Cn.2 ⟨R0 c r0,Cn.2 ⟨r0,L8.2 hr0,rfl⟩,UP (by omega) r0⟩
theorem TH(t:LI):t∈FI (Ca (PD c ls))↔∃ s∈FI (Ca ls),t=As c s:=by
 unfold FI;rw[ES,VV hc];constructor
 ·rintro⟨⟨s,hs,rfl⟩,h⟩;rw[(PA s hc).2] at h;exact⟨s,ES.2 ⟨hs,h⟩,rfl⟩
 ·rintro⟨s,hs,rfl⟩;obtain⟨a,b⟩:=ES.1 hs;exact⟨⟨s,a,rfl⟩,by rw[(PA s hc).2];exact b⟩
theorem VW:MM (Ca (PD c ls))=MM (Ca ls):=by
 rw[UY];unfold MM;simp only[Cf,decide_eq_true_eq];constructor
 ·intro h s hs;have:=h (As c s) ((TH hc ls _).2 ⟨s,hs,rfl⟩);rwa [TG hc] at this
 ·intro h t ht;obtain⟨s,hs,rfl⟩:=(TH hc ls t).1 ht;rw[TG hc];exact h s hs
theorem TI:(∀ t∈Ca (PD c ls),JF t=false)↔∀ t∈Ca ls,JF t=false:=by
 constructor
 ·intro h s hs;have:=h (As c s) ((VV hc ls _).2 ⟨s,hs,rfl⟩);rwa [(PA s hc).1] at this
 ·intro h t ht;obtain⟨s,hs,rfl⟩:=(VV hc ls t).1 ht;rw[(PA s hc).1];exact h s hs
theorem N2:Ib (Ca (PD c ls))↔Ib (Ca ls):=by
 unfold Ib;rw[TI hc,VW hc]
theorem N3(C:Dy->Prop):RootS (Ca (PD c ls)) C↔RootS (Ca ls) C:=by
 have b:=fun C=>Aas (C:=C) hc (TH hc ls);constructor
 ·rintro⟨a1,a2,a3,a4⟩;exact⟨(TI hc ls).1 a1,by rw[<- VW hc ls];exact a2,(b C).1 a3,fun C' h u hu=>a4 C' ((b C').2 h) u hu⟩
 ·rintro⟨a1,a2,a3,a4⟩;exact⟨(TI hc ls).2 a1,by rw[VW hc ls];exact a2,(b C).2 a3,fun C' h u hu=>a4 C' ((b C').1 h) u hu⟩
end
theorem WV:RQ 20 [Sm] Sm:=by
 have k:=Zm (rs:=([0,1]:LI).map cn) (AR (rG)) (by decide) (cn 0) (cn 0) 0 0;rw[s,show S [0,1]=[0,1] by decide +kernel] at k;exact k
theorem Xi(haw:RQ 36 [] (B true)){ll:L3}(hg:∀ ls∈ll,∀ rs∈ls,∀ r∈rs,AU 35184372088832 r)(x:Int) :
  RQ 10 [H ll.length (DB ll),F O x] (B true):=by
 obtain⟨b,hf,hb⟩:=Anl hg;cases b with
 | false=>exact Ams ll x false rfl haw hf
 | true =>
  obtain⟨h5,hok⟩:=hb rfl;by_cases h0:ll.length=0
  ·exact Amq ll x true rfl (by rw[beq_iff_eq];omega) haw hf
  have d0:((ll.length:Int)==0)=false:=by rw[beq_eq_false_iff_ne];omega
  obtain⟨w,w1,w2,pn⟩:=ZD x (n:=(ll.length:Int)) (by omega) (by omega);obtain⟨v,v1,v2,pv⟩:=ZD x (n:=7) (by decide) (by decide);obtain⟨n,rfl⟩:∃ n:Nat,w=(n:Nat):=⟨w.toNat,by omega⟩;have hn:n<ll.length:=by omega
  have hfew:∀ ls∈ll,Few ls:=fun ls hls=>(Adf (hg ls hls) (hok ls hls)).1;have lp:=rO hn h5 hfew ⟨v1,v2⟩ pv;have mem:=fun y=>A3c (c:=1+v) (x:=y) hn;have hm5:(Iu (1+v) ll n ll.length).length<=5:=by rw[O4];exact h5
  generalize Iu (1+v) ll n ll.length=mm at *
  have hc:0<1+v:=by omega
  have hmf:∀ ls∈mm,Few ls:=by
   intro y hy;obtain⟨ls,hls,rfl⟩:=(mem y).1 hy;obtain⟨a,b⟩:=Adf (hg ls hls) (hok ls hls);exact A3b ⟨by omega,by omega⟩ a b
  have back:∀ ls∈ll,PD (1+v) ls∈mm:=fun ls hls=>(mem _).2 ⟨ls,hls,rfl⟩;have bb:(true==true)=true/\(false==false)=true:=⟨rfl,rfl⟩;rcases ZC rP hfew h5 with ⟨a1,a2⟩ | ⟨a1,a2,a3⟩ | ⟨a1,ka,za,hka,oa,a2,a3,a4⟩ <;> rcases ZC rP hmf hm5 with ⟨b1,b2⟩ | ⟨b1,b2,b3⟩ | ⟨b1,kb,zb,hkb,ob,b2,b3,b4⟩
  ·exact eO ll mm x _ _ true true _ _ _ _ _ _ _ _ _ _ _ _ _ _ _ _ _ _ _ _ rfl d0 bb.1 rfl haw hf pn lp a2 b2 (Se ll _ _ _ _ _ _ _ a2) (Se mm _ _ _ _ _ _ _ b2) WV WV aQ
  ·obtain⟨ls,hls,z⟩:=a1;exact absurd ((N2 hc ls).2 z) (b1 _ (back ls hls))
  ·obtain⟨ls,hls,z⟩:=a1;exact absurd ((N2 hc ls).2 z) (b1 _ (back ls hls))
  ·obtain⟨y,hy,z⟩:=b1;obtain⟨ls,hls,rfl⟩:=(mem y).1 hy;exact absurd ((N2 hc ls).1 z) (a1 ls hls)
  ·exact Amr ll mm x _ _ false true _ _ _ _ _ _ _ _ _ _ rfl d0 bb.2 rfl haw hf pn lp a3 b3 (Se ll _ _ _ _ _ _ _ a3) (Se mm _ _ _ _ _ _ _ b3)
  ·obtain⟨y,hy,r⟩:=b2;obtain⟨ls,hls,rfl⟩:=(mem y).1 hy;exact absurd ((N3 hc ls _).1 r) (a2 ls hls _)
  ·obtain⟨y,hy,z⟩:=b1;obtain⟨ls,hls,rfl⟩:=(mem y).1 hy;exact absurd ((N2 hc ls).1 z) (a1 ls hls)
  ·obtain⟨ls,hls,r⟩:=a2;exact absurd ((N3 hc ls _).2 r) (b2 _ (back ls hls) _)
  ·have e:∀ u,Eu za u↔Eu zb u:=by
    intro u;constructor
    ·intro hu;obtain⟨ls,hls,r⟩:=a2;exact b3 _ (back ls hls) _ ((N3 hc ls _).2 r) u hu
    ·intro hu;obtain⟨y,hy,r⟩:=b2;obtain⟨ls,hls,rfl⟩:=(mem y).1 hy;exact a3 ls hls _ ((N3 hc ls _).1 r) u hu
   exact eO ll mm x _ _ true true _ _ _ _ _ _ _ _ _ _ _ _ _ _ _ _ _ _ _ _ rfl d0 bb.1 rfl haw hf pn lp a4 b4 (Se ll _ _ _ _ _ _ _ a4) (Se mm _ _ _ _ _ _ _ b4) (rL oa) (rL ob) (Anj oa ob (by omega) (by omega) e)
theorem av0:RQ 118 [H 2 [B true,H 1 [F Ae 1],B false,H 1 [F Ae 4]],H 1 [B false,H 1 [F Ae 1]]] (P 2 0 []):=B9 (k _) 400 _ _ _ (by kernel_rfl)
theorem av1:RQ 135 [H 2 [B true,H 1 [F Ae 1],B false,H 1 [F Ae 4]],H 1 [B false,H 1 [F Ae 4]]] (H 1 [B false,H 1 [F Ae 1]]):=B9 (n av0 (k _)) 400 _ _ _ (by kernel_rfl)
theorem av2:RQ 67 [H 2 [B true,H 1 [F Ae 1],B false,H 1 [F Ae 4]]] (P 1 2 [H 2 [B true,H 1 [F Ae 1],B false,H 1 [F Ae 4]],H 1 [B false,H 1 [F Ae 1]]]):=B9 (n av1 (n av0 (k _))) 400 _ _ _ (by kernel_rfl)
theorem av3:RQ 56 [H 2 [B true,H 1 [F Ae 1],B false,H 1 [F Ae 4]],o [B false,H 0 [],F O 0],o [B false,H 1 [F Ae 1],F O 0],F O 1073741824] (Ar [H 1 [H 2 [B true,H 1 [F Ae 1],B false,H 1 [F Ae 4]],B false,H 0 [],F O 0,B false,H 1 [F Ae 1],F O 0],B true]):=B9 (n av2 (k _)) 400 _ _ _ (by kernel_rfl)
theorem av4:RQ 76 [o [H 2 [B true,H 1 [F Ae 1],B false,H 1 [F Ae 4]],B false,H 0 [],F O 0,B false,H 1 [F Ae 1],F O 0],o [B false,H 1 [F Ae 1],F O 0]] (F O (-1)):=B9 (k _) 400 _ _ _ (by kernel_rfl)
theorem av5:RQ 76 [o [H 2 [B true,H 1 [F Ae 1],B false,H 1 [F Ae 4]],B false,H 0 [],F O 0,B false,H 1 [F Ae 1],F O 0],o [B false,H 1 [F Ae 1],F O 1]] (F O (-1)):=B9 (k _) 400 _ _ _ (by kernel_rfl)
theorem av6:RQ 168 [H 1 [H 2 [B true,H 1 [F Ae 1],B false,H 1 [F Ae 4]]]] (P 7 1 [H 2 [B true,H 1 [F Ae 1],B false,H 1 [F Ae 4]],B false,H 0 [],F O 0,B false,H 1 [F Ae 1],F O 1]):=B9 (n av5 (n av4 (n av3 (k _)))) 400 _ _ _ (by kernel_rfl)
theorem av7:RQ 139 [H 1 [H 2 [B true,H 1 [F Ae 1],B false,H 1 [F Ae 4]]]] (Ar [o [H 2 [B true,H 1 [F Ae 1],B false,H 1 [F Ae 4]],B false,H 0 [],F O 0,B false,H 1 [F Ae 1],F O 1],B true]):=B9 (n av6 (k _)) 400 _ _ _ (by kernel_rfl)
theorem av8:RQ 139 [H 2 [H 2 [B false,H 0 [],B false,H 1 [F Ae 1]],H 2 [B false,H 1 [F Ae 1],B true,H 1 [F Ae 2]]]] (Ar [o [H 2 [B false,H 0 [],B false,H 1 [F Ae 1]],B false,H 0 [],F O 0,B false,H 0 [],F O 0],B true]):=B9 (k _) 400 _ _ _ (by kernel_rfl)
theorem av9:RQ 166 [H 3 [B true,H 1 [F Ae 1],B false,H 1 [F Ae 4],B true,H 1 [F Ae 4]]] (Ar [B false,B false]):=B9 (k _) 400 _ _ _ (by kernel_rfl)
theorem av10:RQ 118 [H 3 [B false,H 1 [F Ae 1],B true,H 1 [F Ae 4],B false,H 1 [F Ae 4]],H 2 [B true,H 1 [F Ae 1],B false,H 1 [F Ae 2]]] (P 2 0 []):=B9 (k _) 400 _ _ _ (by kernel_rfl)
theorem av11:RQ 135 [H 3 [B false,H 1 [F Ae 1],B true,H 1 [F Ae 4],B false,H 1 [F Ae 4]],H 2 [B true,H 1 [F Ae 4],B false,H 1 [F Ae 8]]] (H 2 [B true,H 1 [F Ae 1],B false,H 1 [F Ae 2]]):=B9 (n av10 (k _)) 400 _ _ _ (by kernel_rfl)
theorem av12:RQ 156 [H 3 [B false,H 1 [F Ae 1],B true,H 1 [F Ae 4],B false,H 1 [F Ae 4]],H 2 [B true,H 1 [F Ae 1],B false,H 1 [F Ae 2]]] (P 2 2 [B true,H 1 [F Ae 1],B false,H 1 [F Ae 2]]):=B9 (k _) 400 _ _ _ (by kernel_rfl)
theorem av13:RQ 114 [H 3 [B true,H 1 [F Ae 1],B false,H 1 [F Ae 4],B true,H 1 [F Ae 4]]] (P 2 2 [B true,H 1 [F Ae 1],B false,H 1 [F Ae 2]]):=B9 (n av12 (n av11 (k _))) 400 _ _ _ (by kernel_rfl)
theorem A3d:RQ 118 [H 2 [B true,H 1 [F Ae 1],B false,H 1 [F Ae 2]],H 1 [B false,H 1 [F Ae 1]]] (P 2 0 []):=B9 (k _) 400 _ _ _ (by kernel_rfl)
theorem av15:RQ 56 [H 3 [B true,H 1 [F Ae 1],B false,H 1 [F Ae 4],B true,H 1 [F Ae 4]],o [B false,H 0 [],F O 0],o [B false,H 1 [F Ae 1],F O 0],F O 1073741824] (Ar [H 1 [H 2 [B true,H 1 [F Ae 1],B false,H 1 [F Ae 2]],B false,H 0 [],F O 0,B false,H 1 [F Ae 1],F O 0],B true]):=B9 (n A3d (n av13 (k _))) 400 _ _ _ (by kernel_rfl)
theorem ACd:RQ 76 [o [H 2 [B true,H 1 [F Ae 1],B false,H 1 [F Ae 2]],B false,H 0 [],F O 0,B false,H 1 [F Ae 1],F O 0],o [B false,H 1 [F Ae 1],F O 0]] (F O (-1)):=B9 (k _) 400 _ _ _ (by kernel_rfl)
theorem ACe:RQ 76 [o [H 2 [B true,H 1 [F Ae 1],B false,H 1 [F Ae 2]],B false,H 0 [],F O 0,B false,H 1 [F Ae 1],F O 0],o [B false,H 1 [F Ae 1],F O 1]] (F O 0):=B9 (k _) 400 _ _ _ (by kernel_rfl)
theorem av18:RQ 168 [H 1 [H 3 [B true,H 1 [F Ae 1],B false,H 1 [F Ae 4],B true,H 1 [F Ae 4]]]] (P 7 1 [H 2 [B true,H 1 [F Ae 1],B false,H 1 [F Ae 2]],B false,H 0 [],F O 0,B false,H 1 [F Ae 1],F O 1]):=B9 (n ACe (n ACd (n av15 (k _)))) 400 _ _ _ (by kernel_rfl)
theorem av19:RQ 139 [H 1 [H 3 [B true,H 1 [F Ae 1],B false,H 1 [F Ae 4],B true,H 1 [F Ae 4]]]] (Ar [o [H 0 [],B false,H 0 [],F O 0,B false,H 0 [],F O 0],B false]):=B9 (n av18 (n av9 (k _))) 400 _ _ _ (by kernel_rfl)
theorem av20:RQ 18 [o [H 2 [B true,H 1 [F Ae 1],B false,H 1 [F Ae 4]],B false,H 0 [],F O 0,B false,H 1 [F Ae 1],F O 1]] (B true):=B9 (n av2 (k _)) 400 _ _ _ (by kernel_rfl)
theorem av21:RQ 75 [o [H 2 [B true,H 1 [F Ae 1],B false,H 1 [F Ae 4]],B false,H 0 [],F O 0,B false,H 1 [F Ae 1],F O 1]] (o [H 2 [B true,H 1 [F Ae 1],B false,H 1 [F Ae 4]],B false,H 0 [],F O 0,B false,H 1 [F Ae 1],F O 1]):=B9 (n av1 (k _)) 400 _ _ _ (by kernel_rfl)
theorem av22:RQ 76 [o [H 2 [B true,H 1 [F Ae 1],B false,H 1 [F Ae 4]],B false,H 0 [],F O 0,B false,H 1 [F Ae 1],F O 1],o [B false,H 1 [F Ae 1],F O 2]] (F O 0):=B9 (k _) 400 _ _ _ (by kernel_rfl)
theorem av23:RQ 76 [o [H 2 [B true,H 1 [F Ae 1],B false,H 1 [F Ae 4]],B false,H 0 [],F O 0,B false,H 1 [F Ae 1],F O 2],o [B false,H 1 [F Ae 1],F O 3]] (F O 1):=B9 (k _) 400 _ _ _ (by kernel_rfl)
theorem av24:RQ 76 [o [H 2 [B true,H 1 [F Ae 1],B false,H 1 [F Ae 4]],B false,H 1 [F Ae 1],F O 3,B false,H 1 [F Ae 1],F O 2],o [B false,H 1 [F Ae 3],F O 4]] (F O 1):=B9 (k _) 400 _ _ _ (by kernel_rfl)
theorem av25:RQ 76 [o [H 2 [B true,H 1 [F Ae 1],B false,H 1 [F Ae 4]],B false,H 1 [F Ae 3],F O 4,B false,H 1 [F Ae 1],F O 2],o [B false,H 1 [F Ae 4],F O 4]] (F O 0):=B9 (k _) 400 _ _ _ (by kernel_rfl)
theorem av26:RQ 77 [o [H 2 [B true,H 1 [F Ae 1],B false,H 1 [F Ae 4]],B false,H 0 [],F O 0,B false,H 1 [F Ae 1],F O 1],F O 4] (o [B false,H 1 [F Ae 4]]):=B9 (n av25 (n av24 (n av23 (n av22 (k _))))) 400 _ _ _ (by kernel_rfl)
theorem av27:RQ 139 [H 1 [H 2 [B true,H 1 [F Ae 1],B false,H 1 [F Ae 1]]]] (Ar [o [H 0 [],B false,H 0 [],F O 0,B false,H 0 [],F O 0],B false]):=B9 (k _) 400 _ _ _ (by kernel_rfl)
theorem av28:RQ 135 [H 2 [B true,H 1 [F Ae 1],B false,H 1 [F Ae 2]],H 1 [B false,H 1 [F Ae 2]]] (H 1 [B false,H 1 [F Ae 1]]):=B9 (n A3d (k _)) 400 _ _ _ (by kernel_rfl)
theorem av29:RQ 67 [H 2 [B true,H 1 [F Ae 1],B false,H 1 [F Ae 2]]] (P 1 2 [H 2 [B true,H 1 [F Ae 1],B false,H 1 [F Ae 2]],H 1 [B false,H 1 [F Ae 1]]]):=B9 (n av28 (n A3d (k _))) 400 _ _ _ (by kernel_rfl)
theorem av30:RQ 56 [H 2 [B true,H 1 [F Ae 1],B false,H 1 [F Ae 2]],o [B false,H 0 [],F O 0],o [B false,H 1 [F Ae 1],F O 0],F O 1073741824] (Ar [H 1 [H 2 [B true,H 1 [F Ae 1],B false,H 1 [F Ae 2]],B false,H 0 [],F O 0,B false,H 1 [F Ae 1],F O 0],B true]):=B9 (n av29 (k _)) 400 _ _ _ (by kernel_rfl)
theorem av31:RQ 168 [H 1 [H 2 [B true,H 1 [F Ae 1],B false,H 1 [F Ae 2]]]] (P 7 1 [H 2 [B true,H 1 [F Ae 1],B false,H 1 [F Ae 2]],B false,H 0 [],F O 0,B false,H 1 [F Ae 1],F O 1]):=B9 (n av30 (n ACe (n ACd (k _)))) 400 _ _ _ (by kernel_rfl)
theorem av32:RQ 139 [H 1 [H 2 [B true,H 1 [F Ae 1],B false,H 1 [F Ae 2]]]] (Ar [o [H 2 [B true,H 1 [F Ae 1],B false,H 1 [F Ae 2]],B false,H 0 [],F O 0,B false,H 1 [F Ae 1],F O 1],B true]):=B9 (n av31 (k _)) 400 _ _ _ (by kernel_rfl)
theorem ACf:RQ 86 [H 2 [B true,H 1 [F Ae 1],B false,H 1 [F Ae 4]]] (P 2 2 [B true,H 1 [F Ae 1],B false,H 1 [F Ae 4]]):=B9 (k _) 400 _ _ _ (by kernel_rfl)
theorem av34:RQ 70 [H 2 [B true,H 1 [F Ae 1],B false,H 1 [F Ae 4]],H 1 [B false,H 1 [F Ae 4]]] (H 1 [B false,H 1 [F Ae 1]]):=B9 (n ACf (k _)) 400 _ _ _ (by kernel_rfl)
theorem av35:RQ 73 [H 2 [B true,H 1 [F Ae 1],B false,H 1 [F Ae 4]]] (H 2 [B true,H 1 [F Ae 1],B false,H 1 [F Ae 4]]):=B9 (n av34 (n ACf (k _))) 400 _ _ _ (by kernel_rfl)
theorem av36:RQ 27 [o [H 2 [B true,H 1 [F Ae 1],B false,H 1 [F Ae 4]],B false,H 0 [],F O 0,B false,H 1 [F Ae 1],F O 1],o [B false,H 1 [F Ae 1],F O 2]] (F O 0):=B9 (k _) 400 _ _ _ (by kernel_rfl)
theorem av37:RQ 119 [H 2 [B false,H 0 [],B false,H 1 [F Ae 1]],H 1 [B false,H 1 [F Ae 1]]] (H 0 []):=B9 (k _) 400 _ _ _ (by kernel_rfl)
theorem av38:RQ 70 [H 2 [B false,H 0 [],B false,H 1 [F Ae 1]],H 1 [B false,H 1 [F Ae 1]]] (H 1 [B false,H 1 [F Ae 1]]):=B9 (n av37 (k _)) 400 _ _ _ (by kernel_rfl)
theorem av39:RQ 123 [H 2 [B false,H 0 [],B false,H 1 [F Ae 1]],H 1 [B false,H 1 [F Ae 1]]] (H 2 [B false,H 0 [],B false,H 1 [F Ae 1]]):=B9 (k _) 400 _ _ _ (by kernel_rfl)
theorem av40:RQ 36 [] (B true):=B9 (n av39 (n av38 (n av36 (n av35 (n av32 (n av27 (n av26 (n av21 (n av20 (n av19 (n av8 (n av7 (k _))))))))))))) 400 _ _ _ (by kernel_rfl)
theorem A7x:RQ 36 [] (B true):=av40
end Go.Proofs.YtajompaehjkgkaaGreat
