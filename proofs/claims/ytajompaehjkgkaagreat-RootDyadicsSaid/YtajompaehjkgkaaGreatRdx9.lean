/- Texts of the proof of RootDyadics: part 9 of 13. -/
import Derived.KernelRfl
import Derived.Test.YtajompaehjkgkaaGreatRdx8
namespace Go.Proofs.YtajompaehjkgkaaGreat
open Go.Ai
set_option maxRecDepth 100000
open Bool renaming and_eq_true->Ac
open Decidable renaming decide->B
open Go.IntKind renaming i64->R,wrap->D
open Int renaming lt_trichotomy->pL,mul_comm->AD,mul_ediv_cancel_left->BN,mul_neg_of_pos_of_neg->LD,mul_pos->BE,mul_pow->Qh,mul_zero->AG,natAbs_mul->BA,natAbs_pow->Kx,pow_pos->EX,pow_succ->Ay,toNat_natCast->F
open List renaming length_map->N,mem_cons->CH
open Nat renaming le_refl->Am,lt_of_le_of_lt->Dh,mul_assoc->EA,mul_le_mul->Bx,pow_add->C_,pow_lt_pow_right->PF,pow_mul->A5c,pow_pos->Cn,pow_succ->F8,zero_le->Bf
theorem Wa(r:Rn)(hN:r.2.length<=1048576):H I 28 [.agg [.bool r.1,.sl r.2.length (lm r.2)],.agg [.bool r.1,.sl r.2.length (lm r.2)]] (.bool true):=by
 refine Abp r (r.2.length:Nat) (by simp) (by simp) ?_;exact EN (prog:=I) (c:=aF) (ex := .exit 0) (fun t=>V_ false r (t:Nat)) r.2.length (by nofun) (Azv false r _ (by simp)) 0 (Bf _) (fun t _ h=>by
  have ei:D R ((t:Int)+1)=((t+1:Nat):Int):=by rw[AW (by omega) (by omega)];omega
  have k:=Azu false r (t:Nat) (by simp;omega) (by simp) (by omega);rwa [ei] at k)
def Hm(r:Rn)(e:Int):Bool:=decide (e>=0)&&decide (e<=1024)&&decide (C9 (O r).natAbs<=1024)
theorem QX{r:Rn}{e:Int}(h:Hm r e=true):∃ a:Nat,e=(a:Nat)/\a<=1024/\C9 (O r).natAbs<=1024:=by
 unfold Hm at h;simp only[Ac,decide_eq_true_eq] at h;exact⟨e.toNat,by omega,by omega,h.2⟩
theorem J5{r:Rn}{e:Int}(hr:u 100 r):H I 64 [A5 r e] (.bool (Hm r e)):=by
 have hb:=Kc (neg:=r.1) hr.1 (by have:=hr.2;omega);unfold Hm;by_cases c1:e>=0
 ·by_cases c2:e<=1024
  ·have k:=Aac r e _ (decide_eq_true c1) (decide_eq_true c2) hb;have ez:decide (((C9 (O r).natAbs:Nat):Int)<=1024)=decide (C9 (O r).natAbs<=1024):=decide_eq_decide.2 (by omega);rw[decide_eq_true c1,decide_eq_true c2];show H _ _ _ (.bool (B (C9 (O r).natAbs<=1024)));rw[<- ez];exact k
  ·rw[decide_eq_true c1,decide_eq_false c2];exact Aad r e (decide_eq_true c1) (decide_eq_false c2)
 ·rw[decide_eq_false c1];exact Aae r e (decide_eq_false c1)
theorem Tk{r:Rn}{e:Int}(hr:u 100 r):H I 61 [A5 r e] (.bool (Hm r e)):=by
 have hb:=PQ (neg:=r.1) hr.1 (by have:=hr.2;omega);unfold Hm;by_cases c1:e>=0
 ·by_cases c2:e<=1024
  ·have k:=Aaz r e _ (decide_eq_true c1) (decide_eq_true c2) hb;have ez:decide (((C9 (O r).natAbs:Nat):Int)<=1024)=decide (C9 (O r).natAbs<=1024):=decide_eq_decide.2 (by omega);rw[decide_eq_true c1,decide_eq_true c2];show H _ _ _ (.bool (B (C9 (O r).natAbs<=1024)));rw[<- ez];exact k
  ·rw[decide_eq_true c1,decide_eq_false c2];exact Aba r e (decide_eq_true c1) (decide_eq_false c2)
 ·rw[decide_eq_false c1];exact Abb r e (decide_eq_false c1)
theorem Zx(p:List Int):C' (Y p)=C' p:=by
 unfold C';rw[Hv]
theorem nP:C' []=false:=by decide
theorem NW{rs:List Rn}{K:Nat}(hg:∀ r∈rs,u K r)(hK:K<=1000)(hN:rs.length<=1000):H I 52 [sL pc rs] (.bool (!C' (M rs))):=by
 have h1:=Th (ps:=[rs,[]]) (fun p hp=>by
  rcases CH.1 hp with rfl | hp
  ·exact⟨fun r h=>(hg r h).mono (by omega),by omega⟩
  ·rcases CH.1 hp with rfl | hp
   ·exact⟨fun r h=>(by cases h),by decide⟩
   ·cases hp) (by simp)
 have e1:([rs,[]].any fun p=>C' (M p))=C' (M rs):=by
  have:M ([]:List Rn)=[]:=rfl;simp[this,nP]
 rw[e1] at h1;cases c:C' (M rs) with
 | true =>
  rw[c] at h1;exact rA rs [] 2 (nM rs [] true rfl h1)
 | false =>
  rw[c] at h1;have h2:=nJ (rs:=rs) (ss:=[]) hg (fun r h=>by cases h) (by omega) (by omega) (by decide);have ep:DQ (M rs) (M ([]:List Rn))=Y (M rs):=by
   rw[<- PA];apply FL;intro i;rw[CY];have:(M ([]:List Rn)).getD i 0=0:=by simp[M]
   omega
  rw[ep] at h2;have hl:=Bn (M rs);rw[s] at hl;have hgt:∀ r∈(Y (M rs)).map cn,u K r:=JE (FN (C4 hg));have h3:=Th (ps:=[(Y (M rs)).map cn]) (fun p hp=>by
   rcases CH.1 hp with rfl | hp
   ·exact⟨fun r h=>(hgt r h).mono (by omega),by rw[N];omega⟩
   ·cases hp) (by simp)
  have e3:([(Y (M rs)).map cn].any fun p=>C' (M p))=false:=by
   rw[List.any_cons,List.any_nil,Bool.or_false,AH,Zx];exact c
  rw[e3] at h3;have h4:=nL _ false rfl h3;exact rA rs _ _ (nN rs [] _ false 0 rfl h1 (Eg h2) h4)
theorem Tl{l:List (List Int)}(hl:l.length<=100)(x:Int)(e:Nat)(y:Int)(f:Nat):D R ((BO l x e l.length).1-(BO l y f l.length).1)=(BO l x e l.length).1-(BO l y f l.length).1:=by
 have b1:=JK l x e l.length;have b2:=JK l y f l.length;exact AW (by omega) (by omega)
def Pe(p:List Int)(x:Int)(a:Nat)(y:Int)(b:Nat):Int:=(BO (BH p) x a (BH p).length).1-(BO (BH p) y b (BH p).length).1
def J6(rs:List Rn)(r:Rn)(e:Int)(t:Rn)(f:Int):Bool :=
 !C' (M rs)&&decide (2<=(Y (M rs)).length)&&Hm r e&&Hm t f &&
  (if CF (O r) e.toNat (O t) f.toNat=0 then decide (B8 (hv (Y (M rs)) (O r) (2^e.toNat))=0)
  else decide (CF (O r) e.toNat (O t) f.toNat = -1/\Pe (M rs) (O r) e.toNat (O t) f.toNat=1))
section
variable {rs:List Rn} {r t:Rn} (hg:∀ r∈rs,u 5 r) (hn:rs.length<=9) (hr:u 100 r) (ht:u 100 t) (e f:Int)
include hg hn hr ht
theorem MB:H I 18 [.agg [sL pc rs,.bool r.1,.sl r.2.length (lm r.2),.int .i64 e,.bool t.1,.sl t.2.length (lm t.2),.int .i64 f]] (.bool (J6 rs r e t f)):=by
 have h1:=NW hg (by omega) (by omega);have h2:=GB (fun r h=>(hg r h).mono (by omega)) (show rs.length<=1048576 by omega);have h3:=J5 (e:=e) hr;have h4:=J5 (e:=f) ht;have htl:=Fs (M rs);rw[s] at htl;unfold J6;cases c1:C' (M rs) with
 | true =>
  rw[c1] at h1;exact Aal rs r t e f false rfl h1
 | false =>
  rw[c1] at h1;by_cases c2:2<=(Y (M rs)).length
  ·have d2:decide (((l (M rs) rs.length:Nat):Int)-1<1)=false:=by rw[decide_eq_false_iff_not];omega
   cases c3:Hm r e with
   | false =>
    rw[c3] at h3;rw[decide_eq_true c2];exact Aak rs r t e f _ true false rfl d2 rfl h1 h2 h3
   | true =>
    rw[c3] at h3;cases c4:Hm t f with
    | false =>
     rw[c4] at h4;rw[decide_eq_true c2];exact Aaj rs r t e f _ true true false rfl d2 rfl rfl h1 h2 h3 h4
    | true =>
     rw[c4] at h4;obtain⟨a,rfl,ha,_⟩:=QX c3;obtain⟨b,rfl,hb,_⟩:=QX c4;rw[F,F,decide_eq_true c2];have h5:=JL (hr.mono (show 100<=200 by omega)) (ht.mono (show 100<=200 by omega)) (a:=a) (b:=b) (by omega) (by omega);by_cases c5:CF (O r) a (O t) b=0
     ·rw[c5] at h5;rw[if_pos c5];have h6:=Hx (fun r h=>(hg r h).mono (by omega)) (show rs.length<=1048576 by omega);have hk:∀ r∈(Y (M rs)).map cn,u 5 r:=JE (FN (C4 hg));have hl:=Bn (M rs);rw[s] at hl;have h7:=M0 (rs:=(Y (M rs)).map cn) hk hr a (by
       rw[N];have:((Y (M rs)).length+1)*(100+(a / 32+1)+1)<=10*230:=Bx (by omega) (by omega);omega) (by omega)
      rw[AH] at h7;have k:=Aag rs r t (a:Nat) (b:Nat) _ _ 0 _ true true true rfl d2 rfl rfl rfl h1 h2 h3 h4 h5 (Eg h6) h7;refine k
     ·rw[if_neg c5];have hbd:=QU (O r*2^b) (O t*2^a);by_cases c6:CF (O r) a (O t) b=1
      ·rw[c6] at h5;rw[decide_eq_false (show ¬ (CF (O r) a (O t) b = -1/\_) by rw[c6];exact fun g=>absurd g.1 (by decide))];exact Aah rs r t (a:Nat) (b:Nat) _ 1 true true true rfl d2 rfl rfl rfl rfl h1 h2 h3 h4 h5
      ·have c7:CF (O r) a (O t) b = -1:=by
        have h0:CF (O r) a (O t) b=Cw (O r*2^b) (O t*2^a):=rfl;omega
       rw[c7] at h5;have hch:=Tf hg hn;have hnice:=M8 hg hn;have hlen:=IU hg hn;have x1:=HV hnice hr a (by omega) (by omega);have x2:=HV hnice ht b (by omega) (by omega);have k:=Aai rs r t (a:Nat) (b:Nat) _ _ (-1) _ _ true true true rfl d2 rfl rfl rfl rfl h1 h2 h3 h4 h5 hch x1 x2;rw[Tl (by omega)] at k;have ee:decide (CF (O r) a (O t) b = -1/\Pe (M rs) (O r) a (O t) b=1)=(Pe (M rs) (O r) a (O t) b==1):=by
        rw[c7];cases hq:(Pe (M rs) (O r) a (O t) b==1) with
        | true=>rw[decide_eq_true_eq];exact⟨rfl,by simpa using hq⟩
        | false=>rw[decide_eq_false_iff_not];exact fun g=>by rw[beq_eq_false_iff_ne] at hq;exact hq g.2
       rw[ee];exact k
  ·have d2:decide (((l (M rs) rs.length:Nat):Int)-1<1)=true:=by rw[decide_eq_true_eq];omega
   rw[decide_eq_false c2];exact Aaf rs r t e f _ true rfl d2 h1 h2
end
def MO(p:List Int):Prop:=Kb 500000 p/\p.length<=9
theorem Ye{p:List Int}(hl:p.length<=9){a:Nat}(ha:a<=4096):500000+2+(p.length+1)*(100+(a / 32+1)+1)<=1048576:=by
 have:(p.length+1)*(100+(a / 32+1)+1)<=10*230:=Bx (by omega) (by omega);omega
def FR(p:List Int)(x:Int)(a:Nat):Int:=B8 (hv p x (2^a))
theorem QY{p:List Int}(hp:MO p){r:Rn}(hr:u 100 r){a:Nat}(ha:a<=4096):H I 65 [.sl (p.map cn).length (pc (p.map cn)),A5 r (a:Nat)] (.int .i64 (FR p (O r) a)):=by
 have h:=M0 (rs:=p.map cn) (AP hp.1) hr a (by rw[N];exact Ye hp.2 ha) (by omega);rw[AH] at h;exact h
theorem NX{rs:List Rn}(hg:∀ r∈rs,u 500000 r)(hl:rs.length<=9){r:Rn}(hr:u 100 r){a:Nat}(ha:a<=4096) :
  H I 80 [sL pc rs,.agg [.bool r.1,.sl r.2.length (lm r.2)],.int .i64 (a:Nat)] (Ab (hv (Y (M rs)) (O r) (2^a))) /\
  H I 79 [Ab (hv (Y (M rs)) (O r) (2^a))] (.int .i64 (FR (Y (M rs)) (O r) a)):=by
 have hz:=Ye (p:=M rs) (by rw[s];exact hl) ha;rw[s] at hz;have h:=SW hg hr a hz (by omega);have hf:=V7 (K:=500000) hr.fits a (ts:=Y (M rs)) (FN (C4 hg));have ht:=Bn (M rs);rw[s] at ht;have hlen:(Y (M rs)).length*(100+(a / 32+1)+1)<=9*230:=Bx (by omega) (by omega);exact⟨h,X4 (by have:=hf.len;omega)⟩
section
variable {rs:List Rn} {r t:Rn} (hg:∀ r∈rs,u 5 r) (hn:rs.length<=9) (hr:u 100 r) (ht:u 100 t) (e f:Int)
include hg hn hr ht
theorem QZ:H I 17 [.agg [sL pc rs,.bool r.1,.sl r.2.length (lm r.2),.int .i64 e,.bool t.1,.sl t.2.length (lm t.2),.int .i64 f]] (.bool (J6 rs r e t f)):=by
 have h1:=Zw (fun r h=>(hg r h).mono (by omega)) (show rs.length<=1048576 by omega);have h2:=Pd (fun r h=>(hg r h).mono (by omega)) (show rs.length<=1048576 by omega);have h3:=Tk (e:=e) hr;have h4:=Tk (e:=f) ht;unfold J6;cases c1:C' (M rs) with
 | true =>
  rw[c1] at h1;exact Abc rs r t e f true rfl h1
 | false =>
  rw[c1] at h1;by_cases c2:2<=(Y (M rs)).length
  ·have d2:decide (((Y (M rs)).length:Nat)-1<(1:Int))=false:=by rw[decide_eq_false_iff_not];omega
   cases c3:Hm r e with
   | false =>
    rw[c3] at h3;rw[decide_eq_true c2];exact Abi rs r t e f _ false false rfl d2 rfl h1 h2 h3
   | true =>
    rw[c3] at h3;cases c4:Hm t f with
    | false =>
     rw[c4] at h4;rw[decide_eq_true c2];exact Abh rs r t e f _ false true false rfl d2 rfl rfl h1 h2 h3 h4
    | true =>
     rw[c4] at h4;obtain⟨a,rfl,ha,_⟩:=QX c3;obtain⟨b,rfl,hb,_⟩:=QX c4;rw[F,F,decide_eq_true c2];have h5:=II (hr.mono (show 100<=200 by omega)) (ht.mono (show 100<=200 by omega)) (a:=a) (b:=b) (by omega) (by omega);by_cases c5:CF (O r) a (O t) b=0
     ·rw[c5] at h5;rw[if_pos c5];obtain⟨x1,x2⟩:=NX (fun r h=>(hg r h).mono (show 5<=500000 by omega)) hn hr (a:=a) (by omega);have h6:=Azn rs r (a:Nat) _ _ x1 x2;exact Abe rs r t (a:Nat) (b:Nat) _ 0 false true true _ rfl d2 rfl rfl rfl h1 h2 h3 h4 h5 h6
     ·rw[if_neg c5];by_cases c7:CF (O r) a (O t) b = -1
      ·rw[c7] at h5;have hch:=eM hg hn;have hnice:=M8 hg hn;have hlen:=IU hg hn;have x1:=XZ hnice hr a (by omega) (by omega);have x2:=XZ hnice ht b (by omega) (by omega);have hro:=Azo rs _ r t (a:Nat) (b:Nat) _ _ hch x1 x2;rw[Tl (by omega)] at hro;have k:=Abf rs r t (a:Nat) (b:Nat) _ (-1) _ false true true rfl d2 rfl rfl rfl rfl h1 h2 h3 h4 h5 hro;have ee:decide (CF (O r) a (O t) b = -1/\Pe (M rs) (O r) a (O t) b=1)=(Pe (M rs) (O r) a (O t) b==1):=by
        rw[c7];cases hq:(Pe (M rs) (O r) a (O t) b==1) with
        | true=>rw[decide_eq_true_eq];exact⟨rfl,by simpa using hq⟩
        | false=>rw[decide_eq_false_iff_not];exact fun g=>by rw[beq_eq_false_iff_ne] at hq;exact hq g.2
       rw[ee];exact k
      ·rw[decide_eq_false (fun g=>c7 g.1)];exact Abg rs r t (a:Nat) (b:Nat) _ _ false true true rfl d2 rfl rfl (by rw[beq_eq_false_iff_ne];exact c5) (by rw[beq_eq_false_iff_ne];exact c7) h1 h2 h3 h4 h5
  ·have d2:decide (((Y (M rs)).length:Nat)-1<(1:Int))=true:=by rw[decide_eq_true_eq];omega
   rw[decide_eq_false c2];exact Abd rs r t e f _ false rfl d2 h1 h2
end
def TXB:Cp:=TXA
theorem nQ:B_ I TXB:=nO
theorem Sk(c x q:Int):∀ p:List Int,hv p (c*x) (c*q)=c^(p.length-1)*hv p x q
 | []=>by simp[hv]
 | [a]=>by simp[hv]
 | a::b::p=>by
  have ih:=Sk c x q (b::p);have e:∀ y d,hv (a::b::p) y d=a*d^(p.length+1)+y*hv (b::p) y d:=fun _ _=>rfl;have e1:(b::p).length-1=p.length:=rfl;have e2:(a::b::p).length-1=p.length+1:=rfl;rw[e1] at ih;rw[e,e,ih,e2,Qh,Ay c p.length];generalize hv (b::p) x q=H;generalize c^p.length=C;generalize q^(p.length+1)=Q;grind
theorem Tm{c:Int}(hc:0<c)(v:Int):B8 (c*v)=B8 v:=by
 unfold B8;rcases pL v 0 with h | h | h
 ·have:=LD hc h;rw[if_pos this,if_pos h]
 ·subst h;rw[AG]
 ·have:=BE hc h;rw[if_neg (by omega),if_pos this,if_neg (by omega),if_pos h]
theorem Sl{p:List Int}{x y:Int}{a b:Nat}(h:x*2^b=y*2^a):FR p x a=FR p y b:=by
 unfold FR;have pa:(0:Int)<2^a:=EX (by decide);have pb:(0:Int)<2^b:=EX (by decide);have qa:(0:Int)<(2^a)^(p.length-1):=EX pa;have qb:(0:Int)<(2^b)^(p.length-1):=EX pb;rw[<- Tm qb (hv p x (2^a)),<- Sk,<- Tm qa (hv p y (2^b)),<- Sk];rw[AD (2^b) x,h,AD (2^b) (2^a),AD (2^a) y]
def EF(p:List Int)(lo:Int)(a:Nat)(hi:Int)(b:Nat)(x:Int)(c:Nat):Int :=
 if CF x c lo a<=0 then 1 else if CF x c hi b>0 then -1 else if FR p x c=0 then 0 else if FR p x c=FR p hi b then -1 else 1
section
variable {p:List Int} (hp:MO p) {r t q:Rn} (hr:u 100 r) (ht:u 100 t) (hq:u 100 q) {a b c:Nat} (ha:a<=4096) (hb:b<=4096) (hc:c<=4096)
include hr ht ha hb
theorem PR:H I 125 [.agg [.sl (p.map cn).length (pc (p.map cn)),.bool r.1,.sl r.2.length (lm r.2),.int .i64 (a:Nat),.bool t.1,.sl t.2.length (lm t.2),.int .i64 (b:Nat)]] (.bool (CF (O r) a (O t) b==0)) :=
 Ash _ r t _ _ _ (JL (hr.mono (by omega)) (ht.mono (by omega)) ha hb)
include hp hq hc
theorem Sm(hne:CF (O r) a (O t) b ≠ 0):H I 76 [.agg [.sl (p.map cn).length (pc (p.map cn)),.bool r.1,.sl r.2.length (lm r.2),.int .i64 (a:Nat),.bool t.1,.sl t.2.length (lm t.2),.int .i64 (b:Nat)],A5 q (c:Nat)]
  (.int .i64 (EF p (O r) a (O t) b (O q) c)):=by
 have h1:=PR (p:=p) hr ht ha hb;rw[beq_eq_false_iff_ne.2 hne] at h1;have h2:=JL (hq.mono (show 100<=200 by omega)) (hr.mono (show 100<=200 by omega)) hc ha;have h3:=JL (hq.mono (show 100<=200 by omega)) (ht.mono (show 100<=200 by omega)) hc hb;have s1:=QY hp ht hb;have s2:=QY hp hq hc;unfold EF;by_cases c1:CF (O q) c (O r) a<=0
 ·rw[if_pos c1];exact Aan _ r t _ _ q _ _ false rfl (decide_eq_true c1) h1 h2
 rw[if_neg c1];by_cases c2:CF (O q) c (O t) b>0
 ·rw[if_pos c2];exact Aao _ r t _ _ q _ _ _ false rfl (decide_eq_false c1) (decide_eq_true c2) h1 h2 h3
 rw[if_neg c2];by_cases c3:CF (O q) c (O t) b=0
 ·have hs:FR p (O q) c=FR p (O t) b:=by
   apply Sl;unfold CF Cw at c3;split at c3
   ·exact absurd c3 (by decide)
   ·split at c3
    ·exact absurd c3 (by decide)
    ·omega
  rw[hs];by_cases c4:FR p (O t) b=0
  ·rw[if_pos c4];exact Aap _ r t _ _ q _ _ _ _ false rfl (decide_eq_false c1) (decide_eq_false c2) (by rw[beq_iff_eq];exact c3) (by rw[beq_iff_eq];exact c4) h1 h2 h3 s1
  ·rw[if_neg c4,if_pos rfl];exact Aaq _ r t _ _ q _ _ _ _ false rfl (decide_eq_false c1) (decide_eq_false c2) (by rw[beq_iff_eq];exact c3) (by rw[beq_eq_false_iff_ne];exact c4) h1 h2 h3 s1
 ·have d3:(CF (O q) c (O t) b==0)=false:=beq_eq_false_iff_ne.2 c3;by_cases c4:FR p (O q) c=0
  ·rw[if_pos c4];exact Aar _ r t _ _ q _ _ _ _ _ false rfl (decide_eq_false c1) (decide_eq_false c2) d3 (by rw[beq_iff_eq];exact c4) h1 h2 h3 s1 s2
  rw[if_neg c4];by_cases c5:FR p (O q) c=FR p (O t) b
  ·rw[if_pos c5];exact Aas _ r t _ _ q _ _ _ _ _ false rfl (decide_eq_false c1) (decide_eq_false c2) d3 (by rw[beq_eq_false_iff_ne];exact c4) (by rw[beq_iff_eq];exact c5) h1 h2 h3 s1 s2
  ·rw[if_neg c5];exact Aat _ r t _ _ q _ _ _ _ _ false rfl (decide_eq_false c1) (decide_eq_false c2) d3 (by rw[beq_eq_false_iff_ne];exact c4) (by rw[beq_eq_false_iff_ne];exact c5) h1 h2 h3 s1 s2
theorem Yf(hL:BU p)(hne:CF (O r) a (O t) b ≠ 0):H I 27 [.agg [.sl (p.map cn).length (pc (p.map cn)),.bool r.1,.sl r.2.length (lm r.2),.int .i64 (a:Nat),.bool t.1,.sl t.2.length (lm t.2),.int .i64 (b:Nat)],A5 q (c:Nat)]
  (.int .i64 (EF p (O r) a (O t) b (O q) c)):=by
 have h1:=II (hr.mono (show 100<=200 by omega)) (ht.mono (show 100<=200 by omega)) ha hb;have d1:(CF (O r) a (O t) b==0)=false:=beq_eq_false_iff_ne.2 hne;have h2:=II (hq.mono (show 100<=200 by omega)) (hr.mono (show 100<=200 by omega)) hc ha;have h3:=II (hq.mono (show 100<=200 by omega)) (ht.mono (show 100<=200 by omega)) hc hb;obtain⟨s1,s2⟩:=NX (rs:=p.map cn) (AP hp.1) (by rw[N];exact hp.2) ht hb;obtain⟨s3,s4⟩:=NX (rs:=p.map cn) (AP hp.1) (by rw[N];exact hp.2) hq hc;rw[AH,hL] at s1 s2 s3 s4;unfold EF;by_cases c1:CF (O q) c (O r) a<=0
 ·rw[if_pos c1];exact Abj _ r t _ _ q _ _ _ _ d1 (decide_eq_true c1) h2 h3 h1
 rw[if_neg c1];by_cases c2:CF (O q) c (O t) b>0
 ·rw[if_pos c2];exact Abk _ r t _ _ q _ _ _ _ d1 (decide_eq_false c1) (decide_eq_true c2) h2 h3 h1
 rw[if_neg c2];by_cases c4:FR p (O q) c=0
 ·rw[if_pos c4];exact Abl _ r t _ _ q _ _ _ _ _ _ _ _ d1 (decide_eq_false c1) (decide_eq_false c2) (by rw[beq_iff_eq];exact c4) h2 h3 h1 s3 s4 s1 s2
 rw[if_neg c4];have d4:(FR p (O q) c==0)=false:=beq_eq_false_iff_ne.2 c4;by_cases c6:FR p (O t) b=0
 ·rw[if_neg (by omega)];exact Abm _ r t _ _ q _ _ _ _ _ _ _ _ d1 (decide_eq_false c1) (decide_eq_false c2) d4 (by rw[beq_iff_eq];exact c6) h2 h3 h1 s3 s4 s1 s2
 by_cases c5:FR p (O q) c=FR p (O t) b
 ·rw[if_pos c5];exact Abn _ r t _ _ q _ _ _ _ _ _ _ _ d1 (decide_eq_false c1) (decide_eq_false c2) d4 (by rw[beq_eq_false_iff_ne];exact c6) (by rw[beq_iff_eq];exact c5) h2 h3 h1 s3 s4 s1 s2
 ·rw[if_neg c5];exact Abo _ r t _ _ q _ _ _ _ _ _ _ _ d1 (decide_eq_false c1) (decide_eq_false c2) d4 (by rw[beq_eq_false_iff_ne];exact c6) (by rw[beq_eq_false_iff_ne];exact c5) h2 h3 h1 s3 s4 s1 s2
end
structure Iv where
 r:Rn
 a:Nat
 t:Rn
 b:Nat
def Iv.mn(x:Iv):Int:=QV (O x.r) x.a (O x.t) x.b
def Iv.me(x:Iv):Nat:=NV (O x.r) x.a (O x.t) x.b
def stp(p:List Int)(x:Iv):Iv :=
 if CF (O x.r) x.a (O x.t) x.b=0 then x
 else if EF p (O x.r) x.a (O x.t) x.b x.mn x.me<=0 then ⟨x.r,x.a,cn x.mn,x.me⟩ else ⟨cn x.mn,x.me,x.t,x.b⟩
def Iv.av(p:List Int)(x:Iv):AV := .agg [.sl (p.map cn).length (pc (p.map cn)),.bool x.r.1,.sl x.r.2.length (lm x.r.2),.int .i64 (x.a:Nat),.bool x.t.1,.sl x.t.2.length (lm x.t.2),.int .i64 (x.b:Nat)]
structure IvOk (C m:Nat) (x:Iv):Prop where
 gr:u 100 x.r
 gt:u 100 x.t
 a:x.a<=m
 b:x.b<=m
 vr:(O x.r).natAbs<=2^C*2^x.a
 vt:(O x.t).natAbs<=2^C*2^x.b
theorem Q'{x a y b}:NV x a y b<=max a b+1:=by unfold NV;omega
theorem Zy{x:Int}{a:Nat}{y:Int}{b C:Nat}(hx:x.natAbs<=2^C*2^a)(hy:y.natAbs<=2^C*2^b):(QV x a y b).natAbs<=2^C*2^NV x a y b:=by
 have hz:=Kj (max a b+1) (If x a y b);have hd:=I0 (max a b+1) (If x a y b);have h1:(If x a y b).natAbs<=2^C*2^(max a b+1):=by
  unfold If;have e1:(x*2^(max a b-a)).natAbs<=2^C*2^max a b:=by
   rw[BA,Kx];have:2^C*2^max a b=2^C*2^a*2^(max a b-a):=by rw[EA,<- C_ 2 a];congr 2;omega
   rw[this];exact Bx hx (Am _)
  have e2:(y*2^(max a b-b)).natAbs<=2^C*2^max a b:=by
   rw[BA,Kx];have:2^C*2^max a b=2^C*2^b*2^(max a b-b):=by rw[EA,<- C_ 2 b];congr 2;omega
   rw[this];exact Bx hy (Am _)
  have e3:2^C*2^(max a b+1)=2^C*2^max a b+2^C*2^max a b:=by rw[F8,<- EA];omega
  omega
 unfold QV NV;generalize If x a y b=S at *
 generalize Fe S (max a b+1)=z at *
 obtain⟨N,rfl⟩:=hd;have pz:(0:Int)<2^z:=EX (by decide);rw[BN _ (by omega)];rw[BA,Kx] at h1;have e4:2^C*2^(max a b+1)=2^z*(2^C*2^(max a b+1-z)):=by
  rw[Nat.mul_left_comm,<- C_ 2 z];congr 2;omega
 rw[e4] at h1;exact Nat.le_of_mul_le_mul_left h1 (Cn (by decide))
theorem CG{n:Int}{k:Nat}(h:n.natAbs<=2^k){K:Nat}(hk:k<32*K):AY K n:=by
 unfold AY;have:(4294967296:Nat)^K=2^(32*K):=by rw[A5c]
 rw[this];exact Dh h (PF (by decide) hk)
theorem Azw{p:List Int}{C m:Nat}{x:Iv}(h:IvOk C m x)(hC:C+m+1<3000):IvOk C (m+1) (stp p x):=by
 obtain⟨gr,gt,ha,hb,vr,vt⟩:=h;have e1:=Zy vr vt;have e2:x.me<=max x.a x.b+1:=Q';have e3:x.mn.natAbs<=2^C*2^x.me:=e1;have hf:u 100 (cn x.mn):=AZ (CG (k:=C+x.me) (by rw[C_];exact e3) (by omega));unfold stp;split
 ·exact⟨gr,gt,by omega,by omega,vr,vt⟩
 ·split
  ·exact⟨gr,hf,by show x.a<=_;omega,by show x.me<=_;omega,vr,by show (O (cn x.mn)).natAbs<=_;rw[At];exact e3⟩
  ·exact⟨hf,gt,by show x.me<=_;omega,by show x.b<=_;omega,by show (O (cn x.mn)).natAbs<=_;rw[At];exact e3,vt⟩
section
variable {p:List Int} (hp:MO p) {C m:Nat} {x:Iv} (h:IvOk C m x) (hC:C+m+1<3000)
include hp h hC
theorem Abq:H I 82 [x.av p] ((stp p x).av p):=by
 obtain⟨gr,gt,ha,hb,vr,vt⟩:=h;have h1:=PR (p:=p) gr gt (a:=x.a) (b:=x.b) (by omega) (by omega);unfold stp;by_cases c1:CF (O x.r) x.a (O x.t) x.b=0
 ·rw[if_pos c1];rw[beq_iff_eq.2 c1] at h1;exact Aau _ x.r x.t _ _ true rfl h1
 ·rw[if_neg c1];rw[beq_eq_false_iff_ne.2 c1] at h1;have e3:x.mn.natAbs<=2^C*2^x.me:=Zy vr vt;have e2:x.me<=max x.a x.b+1:=Q';have hf:u 100 (cn x.mn):=AZ (CG (k:=C+x.me) (by rw[C_];exact e3) (by omega));have h2:=QW (gr.mono (show 100<=200 by omega)) (gt.mono (show 100<=200 by omega)) (a:=x.a) (b:=x.b) (by omega) (by omega);have h3:=Sm hp gr gt hf (a:=x.a) (b:=x.b) (c:=x.me) (by omega) (by omega) (by omega) c1;rw[At] at h3;by_cases c2:EF p (O x.r) x.a (O x.t) x.b x.mn x.me<=0
  ·rw[if_pos c2];exact Aav _ x.r x.t _ _ _ _ _ false rfl (decide_eq_true c2) h1 h2 h3
  ·rw[if_neg c2];exact Aaw _ x.r x.t _ _ _ _ _ false rfl (decide_eq_false c2) h1 h2 h3
end
def TXC:Cp:=TXB
theorem BF:B_ I TXC:=nQ
end Go.Proofs.YtajompaehjkgkaaGreat
namespace Go.Ai
open Int renaming toNat->A
open List renaming append_assoc->MF,cons_append->H5,drop->g,drop_eq_getElem_cons->CU,drop_succ_cons->nR,getD_eq_getElem?_getD->Z,getElem?_eq_getElem->Ae,length_append->AU,length_cons->Bo
open Nat renaming add_mul->DK
structure Rt where
 fs:List Rn
 r:Rn
 e:Int
 t:Rn
 f:Int
def Rt.cs(x:Rt):List AV:=[.sl x.fs.length (pc x.fs),.bool x.r.1,.sl x.r.2.length (lm x.r.2),.int .i64 x.e,.bool x.t.1,.sl x.t.2.length (lm x.t.2),.int .i64 x.f]
def zR:Rt:=⟨[],z0,0,z0,0⟩
def Gv:List Rt->List AV
 | []=>[]
 | x::l=>x.cs++Gv l
theorem Tn:∀ l:List Rt,(Gv l).length=l.length*7
 | []=>rfl
 | x::l=>by
  have h:=Tn l;have e:x.cs.length=7:=rfl;simp only[Gv,AU,Bo,DK];omega
theorem NY:∀ l k:List Rt,Gv (l++k)=Gv l++Gv k
 | [],_=>rfl
 | x::l,k=>by rw[H5,Gv,Gv,NY l k,MF]
theorem Yg:∀ (l:List Rt) (i:Nat),(Gv l).drop (i*7)=Gv (l.drop i)
 | [],i=>by simp[Gv]
 | x::l,0=>rfl
 | x::l,i+1=>by
  rw[nR,<- Yg l i];have e:Gv (x::l) = .sl x.fs.length (pc x.fs) :: .bool x.r.1 :: .sl x.r.2.length (lm x.r.2) :: .int .i64 x.e :: .bool x.t.1 :: .sl x.t.2.length (lm x.t.2) :: .int .i64 x.f::Gv l:=rfl;rw[e,show (i+1)*7=i*7+1+1+1+1+1+1+1 by omega];simp only[nR]
theorem Kk{l:List Rt}{X:Int}(h:0<=X/\X<(l.length:Int)):Bl (g (A X*7) (Gv l)) 0 7 false=some (.agg (l.getD (A X) zR).cs):=by
 have hl:=Gr h;rw[Yg,CU hl];have e:l.getD (A X) zR=l[A X]:=by rw[Z,Ae hl];rfl
 rw[e];rfl
end Go.Ai
namespace Go.Proofs.YtajompaehjkgkaaGreat
open Go.Ai
set_option maxRecDepth 100000
open BitVec renaming ofInt->T,or_comm->Of
open Bool renaming and_eq_true->Ac,false_and->JX,not_eq_true'->El,or_eq_false_iff->MG,true_and->Og
open Decidable renaming decide->B
open Go.IntKind renaming bits->Aj,i64->R,u32->A4,u64->U,wrap->D
open Int renaming add_comm->Ij,add_mul_ediv_left->HH,ediv_eq_zero_of_lt->DN,emod_lt_of_pos->DU,emod_nonneg->EK,fdiv_eq_ediv_of_nonneg->t,le_of_lt->Aw,mul_add->C1,mul_ediv_cancel_left->BN,mul_eq_zero->GI,mul_le_mul_of_nonneg_left->Ah,mul_neg->DY,mul_nonneg->A1,mul_one->Dp,mul_zero->AG,natAbs->E,one_mul->CR,tdiv->o,tdiv_eq_ediv_of_nonneg->B0,tmod->f,tmod_eq_emod_of_nonneg->Bc,toNat->A,toNat_natCast->F,zero_add->Db,zero_mul->DF
open List renaming all_eq_true->Cb,drop->g,getD_eq_getElem?_getD->Z,getElem?_drop->AX,getElem?_eq_getElem->Ae,getElem_mem->Dc,length->Bj,length_take->A7,map_append->DR,map_cons->Cz,map_nil->FF,mem_cons->CH,mem_iff_getElem->Hf,mem_of_mem_take->Cg,range->Ao,range_succ->FX,take->Br,take_length->Ee
open Nat renaming add_assoc->CO,le_of_lt->Qe,le_refl->Am,mod_lt->G5,zero_add->BR,zero_le->Bf
theorem Abr(r:Rn)(e z:Int)(c1:B (e>=0)=true)(c2:B (e<=64)=true)(n1:H I 102 [Ap r] (.int .i64 z)):H I 54 [A5 r e] (.bool (B (z<=128))):=i (fn:=Ul) BF rfl 400 rfl [.b true,.b true,.r (.int .i64 z)] (L c1 (L c2 (L n1 a0)))
theorem Abs(r:Rn)(e:Int)(c1:B (e>=0)=true)(c2:B (e<=64)=false):H I 54 [A5 r e] (.bool false):=i (fn:=Ul) BF rfl 400 rfl [.b true,.b false] (L c1 (L c2 a0))
theorem Abt(r:Rn)(e:Int)(c1:B (e>=0)=false):H I 54 [A5 r e] (.bool false):=i (fn:=Ul) BF rfl 400 rfl [.b false,.b false] (L c1 (L Ff a0))
theorem Wb(ls:List (List Rn))(r t:Rn)(e f x y m:Int)(c1:((D R (x-y))==0)=true):H I 105 [sL pp ls,A5 r e,A5 t f,.int .i64 x,.int .i64 y,.int .i64 m] (.frs (.tp true) 7 0 []):=i (fn:=Pu) BF rfl 400 rfl [.b true] (L c1 a0)
theorem Wc(ls:List (List Rn))(r t:Rn)(e f x y m:Int)(c1:((D R (x-y))==0)=false)(c2:((D R (x-y))==1)=true)(n1:0<=(0:Int)/\(0:Int)<(ls.length:Int)):H I 105 [sL pp ls,A5 r e,A5 t f,.int .i64 x,.int .i64 y,.int .i64 m] (.frs (.tp true) 7 1 [.sl ((ls.getD (A 0) []).length) (pc (ls.getD (A 0) [])),.bool r.1,.sl r.2.length (lm r.2),.int .i64 e,.bool t.1,.sl t.2.length (lm t.2),.int .i64 f]):=i (fn:=Pu) BF rfl 400 rfl [.b false,.b true,.v (.sl ((ls.getD (A 0) []).length) (pc (ls.getD (A 0) [])))] (L c1 (L c2 (L n1 (L (Fh n1) a0))))
theorem nS(ls:List (List Rn))(r t:Rn)(e f x y m n g v:Int)(b1 b2:Bool)(k1 k2:Nat)(cs1 cs2:List AV)(c1:((D R (x-y))==0)=false)(c2:((D R (x-y))==1)=false)(c3:B (g>m)=false)(c4:(b1)=true)(n1:Bj cs2=k2*7)(n2:k1+k2<=1048576)(n3:H I 133 [A5 r e,A5 t f] (A5 (cn n) g))(n4:H I 68 [sL pp ls,A5 (cn n) g] (.int .i64 v))(n5:H I 105 [sL pp ls,A5 r e,A5 (cn n) g,.int .i64 x,.int .i64 v,.int .i64 m] (.frs (.tp b1) 7 k1 cs1))(n6:H I 105 [sL pp ls,A5 (cn n) g,A5 t f,.int .i64 v,.int .i64 y,.int .i64 m] (.frs (.tp b2) 7 k2 cs2)):H I 105 [sL pp ls,A5 r e,A5 t f,.int .i64 x,.int .i64 y,.int .i64 m] (.frs (.tp b2) 7 (k1+k2) (cs1++cs2)):=i (fn:=Pu) BF rfl 400 rfl [.b false,.b false,.r (A5 (cn n) g),.b false,.r (.int .i64 v),.r (.frs (.tp b1) 7 k1 cs1),.b false,.r (.frs (.tp b2) 7 k2 cs2)] (L c1 (L c2 (L n3 (L c3 (L n4 (L n5 (L (Fb c4) (L n6 (L n1 (L n2 a0))))))))))
theorem Abu(rs:List Rn)(ls:List (List Rn))(r t:Rn)(e f m:Int)(c1:B ((ls.length:Int)<2)=true)(n1:H I 67 [sL pc rs] (.fresh 1 ls.length (pp ls))):H I 56 [sL pc rs,A5 r e,A5 t f,.int .i64 m] (.frs (.tp true) 7 0 []):=i (fn:=Xn) BF rfl 400 rfl [.r (.fresh 1 ls.length (pp ls)),.b true] (L n1 (L c1 a0))
theorem Abv(rs:List Rn)(ls:List (List Rn))(r t:Rn)(e f x y m:Int)(b:Bool)(n:Nat)(cs:List AV)(c1:B ((ls.length:Int)<2)=false)(n1:H I 67 [sL pc rs] (.fresh 1 ls.length (pp ls)))(n2:H I 68 [sL pp ls,A5 r e] (.int .i64 x))(n3:H I 68 [sL pp ls,A5 t f] (.int .i64 y))(n4:H I 105 [sL pp ls,A5 r e,A5 t f,.int .i64 x,.int .i64 y,.int .i64 m] (.frs (.tp b) 7 n cs)):H I 56 [sL pc rs,A5 r e,A5 t f,.int .i64 m] (.tup [.sl n cs,.bool b]):=i (fn:=Xn) BF rfl 400 rfl [.r (.fresh 1 ls.length (pp ls)),.b false,.r (.int .i64 x),.r (.int .i64 y),.r (.frs (.tp b) 7 n cs)] (L n1 (L c1 (L n2 (L n3 (L n4 a0)))))
def MP(rs:List Rn)(l:List Rt)(k:Nat)(cs:List AV)(N:Int)(i:Int):Ak:=(.val (sL pc rs)::(Q 9 (.own 7 k cs::(Q 34 (.val (.sl l.length (Gv l))::(.val (.int .i64 N)::(.val (.int .i64 i)::(Q 16 []))))))))
theorem Azx(rs:List Rn)(l:List Rt)(k:Nat)(cs:List AV)(N:Int)(i:Int)(ts:List Rn)(n m u v:Int)(sm:Bool)(c1:B (i<N)=true)(c2:(sm)=true)(n1:0<=i/\i<(l.length:Int))(n2:k+1<=1048576)(n3:H I 52 [.sl (((l.getD (A i) zR).fs).length) (pc ((l.getD (A i) zR).fs))] (.bool sm))(n4:H I 57 [BD ((l.getD (A i) zR).fs) ((l.getD (A i) zR).r) ((l.getD (A i) zR).e) ((l.getD (A i) zR).t) ((l.getD (A i) zR).f)] (BD ts (cn n) m (cn u) v)):W I Uj (MP rs l k cs N i) .norm (MP rs l (k+1) (cs++([sL pc ts,.bool ((cn n).1),.sl ((cn n).2.length) (lm (cn n).2),.int .i64 m,.bool ((cn u).1),.sl ((cn u).2.length) (lm (cn u).2),.int .i64 v]:List AV)) N (D R (i+1))):=(C BF 400 [.b true,.v (BD ((l.getD (A i) zR).fs) ((l.getD (A i) zR).r) ((l.getD (A i) zR).e) ((l.getD (A i) zR).t) ((l.getD (A i) zR).f)),.r (.bool sm),.b false,.r (BD ts (cn n) m (cn u) v)] [0,10,45,46,47] (L c1 (L n1 (L (Kk n1) (L n3 (L (Fb c2) (L n4 (L (show Bj ([sL pc ts,.bool ((cn n).1),.sl ((cn n).2.length) (lm (cn n).2),.int .i64 m,.bool ((cn u).1),.sl ((cn u).2.length) (lm (cn u).2),.int .i64 v]:List AV)=1*7 from rfl) (L n2 a0)))))))))
theorem Azy(rs:List Rn)(l:List Rt)(k:Nat)(cs:List AV)(N:Int)(i:Int)(c1:B (i<N)=false):W I Uj (MP rs l k cs N i) (.exit 1) (MP rs l k cs N i):=(C BF 400 [.b false] [0,10,45,46,47] (L c1 a0))
theorem fE(rs:List Rn)(r t:Rn)(e f d c i:Int)(b v1 v2 ok:Bool)(l:List Rt)(k:Nat)(cs:List AV)(c1:(b)=true)(c2:B (d<0)=false)(c3:(v1)=true)(c4:(v2)=true)(c5:B (c>0)=false)(c6:(ok)=true)(n1:H I 52 [sL pc rs] (.bool b))(n2:H I 53 [sL pc rs] (.int .i64 d))(n3:H I 54 [A5 r e] (.bool v1))(n4:H I 54 [A5 t f] (.bool v2))(n5:H I 55 [A5 r e,A5 t f] (.int .i64 c))(n6:H I 56 [sL pc rs,A5 r e,A5 t f,.int .i64 896] (.frs (.tp ok) 7 l.length (Gv l)))(hl7:W I (.loop Uj) (MP rs l 0 ([]:List AV) (l.length:Int) 0) (.exit 1) (MP rs l k cs (l.length:Int) i)):H I 15 [sL pc rs,A5 r e,A5 t f] (.tup [.sl k cs,.int .i64 0]):=p (fn:=Xi) (s:=(Q 6 (.own 7 k cs::(.val (.int .i64 0)::(Q 56 []))))) (ex := .ret) rfl rfl (P (P (P (P (Ar (W.seq (C BF 400 [.r (.bool b),.b false,.r (.int .i64 d),.b false,.r (.bool v1),.b false,.r (.bool v2),.b false,.r (.int .i64 c),.b false,.r (.frs (.tp ok) 7 l.length (Gv l)),.b false] [0,10,45,46,47] (L n1 (L (Fb c1) (L n2 (L c2 (L n3 (L (Fb c3) (L n4 (L (Fb c4) (L n5 (L c5 (L n6 (L (Fb c6) a0))))))))))))) (W.seq (W.block hl7) (C BF 400 [] [6,7] a0)))))))) (by nofun) rfl
theorem fG(rs:List Rn)(r t:Rn)(e f d c i:Int)(b v1 v2 ok:Bool)(l:List Rt)(k:Nat)(cs:List AV)(c1:(b)=true)(c2:B (d<0)=false)(c3:(v1)=true)(c4:(v2)=true)(c5:B (c>0)=false)(c6:(ok)=true)(n1:H I 52 [sL pc rs] (.bool b))(n2:H I 53 [sL pc rs] (.int .i64 d))(n3:H I 54 [A5 r e] (.bool v1))(n4:H I 54 [A5 t f] (.bool v2))(n5:H I 55 [A5 r e,A5 t f] (.int .i64 c))(n6:H I 56 [sL pc rs,A5 r e,A5 t f,.int .i64 896] (.tup [.sl l.length (Gv l),.bool ok]))(hl7:W I (.loop Uj) (MP rs l 0 ([]:List AV) (l.length:Int) 0) (.exit 1) (MP rs l k cs (l.length:Int) i)):H I 15 [sL pc rs,A5 r e,A5 t f] (.tup [.sl k cs,.int .i64 0]):=p (fn:=Xi) (s:=(Q 6 (.own 7 k cs::(.val (.int .i64 0)::(Q 56 []))))) (ex := .ret) rfl rfl (P (P (P (P (Ar (W.seq (C BF 400 [.r (.bool b),.b false,.r (.int .i64 d),.b false,.r (.bool v1),.b false,.r (.bool v2),.b false,.r (.int .i64 c),.b false,.r (.tup [.sl l.length (Gv l),.bool ok]),.b false] [0,10,45,46,47] (L n1 (L (Fb c1) (L n2 (L c2 (L n3 (L (Fb c3) (L n4 (L (Fb c4) (L n5 (L c5 (L n6 (L (Fb c6) a0))))))))))))) (W.seq (W.block hl7) (C BF 400 [] [6,7] a0)))))))) (by nofun) rfl
theorem Yh(fs:List Rn)(r t:Rn)(e f:Int)(q:Rn)(d s:Int)(fs1:List Rn)(v1 v2:Bool)(c1:(v1)=true)(c2:(v2)=true)(n1:H I 18 [BD fs r e t f] (.bool v1))(n2:H I 64 [A5 q d] (.bool v2))(n3:H I 75 [BD fs r e t f] (BD fs1 r e t f))(n4:H I 76 [BD fs1 r e t f,A5 q d] (.int .i64 s)):H I 24 [BD fs r e t f,A5 q d] (.tup [.int .i64 s,.int .i64 0]):=i (fn:=aE) BF rfl 400 rfl [.r (.bool v1),.b false,.r (.bool v2),.b false,.r (BD fs1 r e t f),.r (.int .i64 s)] (L n1 (L (Fb c1) (L n2 (L (Fb c2) (L n3 (L n4 a0))))))
def Ln(xs:List Int)(n:Int):Ak:=(.val (sL lm xs)::(Q 2 (.val (.int .i64 n)::(Q 17 []))))
theorem Asi(xs:List Int)(n:Int)(c1:B (n>0)=true)(c2:((xs.getD (A (D R (n-1))) 0)==0)=true)(n1:0<=(D R (n-1))/\(D R (n-1))<(xs.length:Int)):W I Rw (Ln xs n) .norm (Ln xs (D R (n-1))):=(C BF 400 [.b true,.v (.int .u32 (xs.getD (A (D R (n-1))) 0)),.b true] [0,3] (L c1 (L n1 (L (y n1) (L c2 a0)))))
theorem Asj(xs:List Int)(n:Int)(c1:B (n>0)=true)(c2:((xs.getD (A (D R (n-1))) 0)==0)=false)(n1:0<=(D R (n-1))/\(D R (n-1))<(xs.length:Int)):W I Rw (Ln xs n) (.exit 0) (Ln xs n):=(C BF 400 [.b true,.v (.int .u32 (xs.getD (A (D R (n-1))) 0)),.b false] [0,3] (L c1 (L n1 (L (y n1) (L c2 a0)))))
theorem Asl(xs:List Int)(n:Int)(c1:B (n>0)=false):W I Rw (Ln xs n) (.exit 0) (Ln xs n):=(C BF 400 [.b false,.b false] [0,3] (L c1 (L Ff a0)))
theorem Asm(xs:List Int)(n:Int)(hl1:W I (.loop Rw) (Ln xs (xs.length:Int)) (.exit 0) (Ln xs n))(n2:0<=n)(n3:0<=(A n)/\(A n)<=xs.length/\xs.length<=xs.length/\(false=true->true=true)):H I 184 [sL lm xs] (.sl ((A n)-0) (Br (((A n)-0)*1) (g (0*1) (lm xs)))):=p (fn:=U') (s:=(Q 2 (.val (.sl ((A n)-0) (Br (((A n)-0)*1) (g (0*1) (lm xs))))::(Q 18 [])))) (ex := .ret) rfl rfl (P (W.seq (C BF 400 [] [0,3] a0) (W.seq (W.block hl1) (C BF 400 [] [2] (L n2 (L n3 a0)))))) (by nofun) rfl
theorem nT(r:Rn)(e k z:Int)(c1:B (k>=e)=true)(n1:H I 104 [Ap r,.int .i64 (D R (k-e))] (Ab z)):H I 126 [A5 r e,.int .i64 k] (Ab z):=i (fn:=R4) BF rfl 400 rfl [.b true,.r (Ab z)] (L c1 (L n1 a0))
theorem nU(r:Rn)(e k z:Int)(c1:B (k>=e)=false)(n1:H I 163 [Ap r,.int .i64 (D R (e-k))] (Ab z)):H I 126 [A5 r e,.int .i64 k] (Ab z):=i (fn:=R4) BF rfl 400 rfl [.b false,.r (Ab z)] (L c1 (L n1 a0))
def Kl(o:Rn)(fs:List Rn)(r:Rn)(e:Int)(t:Rn)(f:Int)(k:Int):Ak:=(Q 1 (.val (.int .i64 k)::(rtB fs r e t f::(Q 1 (.box [.bool o.1,.sl o.2.length (lm o.2)]::(Q 31 []))))))
theorem Azz(o:Rn)(fs:List Rn)(r:Rn)(e:Int)(t:Rn)(f:Int)(k:Int)(lo hi s:Int)(c1:(s==0)=true)(n1:H I 126 [A5 r e,.int .i64 k] (Ab lo))(n2:H I 126 [A5 t f,.int .i64 k] (Ab hi))(n3:H I 127 [Ab hi,Ab lo] (Ab (hi-lo)))(n4:H I 101 [Ab (hi-lo)] (.int .i64 s)):W I Qt (Kl o fs r e t f k) .ret (Kl (cn lo) fs r e t f k):=(C BF 400 [.r (Ab lo),.r (Ab hi),.r (Ab (hi-lo)),.r (.int .i64 s),.b true] [1,2,4] (L n1 (L n2 (L n3 (L n4 (L c1 a0))))))
theorem A0a(o:Rn)(fs:List Rn)(r:Rn)(e:Int)(t:Rn)(f:Int)(k:Int)(lo hi s z y:Int)(c1:(s==0)=false)(c2:(z==1)=true)(c3:B (y>=0)=true)(n1:H I 126 [A5 r e,.int .i64 k] (Ab lo))(n2:H I 126 [A5 t f,.int .i64 k] (Ab hi))(n3:H I 127 [Ab hi,Ab lo] (Ab (hi-lo)))(n4:H I 101 [Ab (hi-lo)] (.int .i64 s))(n5:H I 102 [Ab (hi-lo)] (.int .i64 z))(n6:H I 76 [BD fs r e t f,A5 (cn hi) k] (.int .i64 y)):W I Qt (Kl o fs r e t f k) .ret (Kl (cn hi) fs r e t f k):=(C BF 400 [.r (Ab lo),.r (Ab hi),.r (Ab (hi-lo)),.r (.int .i64 s),.b false,.r (.int .i64 z),.b true,.r (.int .i64 y),.b true] [1,2,4] (L n1 (L n2 (L n3 (L n4 (L c1 (L n5 (L c2 (L n6 (L c3 a0))))))))))
theorem A0b(o:Rn)(fs:List Rn)(r:Rn)(e:Int)(t:Rn)(f:Int)(k:Int)(lo hi s z y:Int)(c1:(s==0)=false)(c2:(z==1)=true)(c3:B (y>=0)=false)(n1:H I 126 [A5 r e,.int .i64 k] (Ab lo))(n2:H I 126 [A5 t f,.int .i64 k] (Ab hi))(n3:H I 127 [Ab hi,Ab lo] (Ab (hi-lo)))(n4:H I 101 [Ab (hi-lo)] (.int .i64 s))(n5:H I 102 [Ab (hi-lo)] (.int .i64 z))(n6:H I 76 [BD fs r e t f,A5 (cn hi) k] (.int .i64 y)):W I Qt (Kl o fs r e t f k) .ret (Kl (cn lo) fs r e t f k):=(C BF 400 [.r (Ab lo),.r (Ab hi),.r (Ab (hi-lo)),.r (.int .i64 s),.b false,.r (.int .i64 z),.b true,.r (.int .i64 y),.b false] [1,2,4] (L n1 (L n2 (L n3 (L n4 (L c1 (L n5 (L c2 (L n6 (L c3 a0))))))))))
theorem A0c(o:Rn)(fs:List Rn)(r:Rn)(e:Int)(t:Rn)(f:Int)(k:Int)(lo hi s z:Int)(fs1:List Rn)(r1 t1:Rn)(e1 f1:Int)(c1:(s==0)=false)(c2:(z==1)=false)(n1:H I 126 [A5 r e,.int .i64 k] (Ab lo))(n2:H I 126 [A5 t f,.int .i64 k] (Ab hi))(n3:H I 127 [Ab hi,Ab lo] (Ab (hi-lo)))(n4:H I 101 [Ab (hi-lo)] (.int .i64 s))(n5:H I 102 [Ab (hi-lo)] (.int .i64 z))(n6:H I 82 [BD fs r e t f] (BD fs1 r1 e1 t1 f1)):W I Qt (Kl o fs r e t f k) .norm (Kl o fs1 r1 e1 t1 f1 k):=(C BF 400 [.r (Ab lo),.r (Ab hi),.r (Ab (hi-lo)),.r (.int .i64 s),.b false,.r (.int .i64 z),.b false,.r (BD fs1 r1 e1 t1 f1)] [1,2,4] (L n1 (L n2 (L n3 (L n4 (L c1 (L n5 (L c2 (L n6 a0)))))))))
theorem A0d(fs:List Rn)(r t:Rn)(e f:Int)(k n:Int)(fs1:List Rn)(r1 t1:Rn)(e1 f1:Int)(hl1:W I (.loop Qt) (Kl (false,[]) fs r e t f k) .ret (Kl (cn n) fs1 r1 e1 t1 f1 k)):H I 77 [BD fs r e t f,.int .i64 k] (Ap (cn n)):=p (fn:=aX) (s:=(Q 1 (.val (.int .i64 k)::(rtB fs1 r1 e1 t1 f1::(Q 1 (.box [.bool ((cn n).1),.sl ((cn n).2.length) (lm (cn n).2)]::(Q 31 []))))))) (ex := .ret) rfl rfl (W.seq (C BF 400 [] [1,2,4] a0) (De hl1)) (by nofun) rfl
theorem Abw(fs:List Rn)(r t:Rn)(e f:Int)(k:Int)(v1:Bool)(c1:(v1)=true)(c2:B (k<0)=true)(n1:H I 18 [BD fs r e t f] (.bool v1)):H I 25 [BD fs r e t f,.int .i64 k] (.tup [.agg [.bool false,.sl 0 []],.int .i64 1]):=i (fn:=Xj) BF rfl 400 rfl [.r (.bool v1),.b false,.b true,.b true] (L n1 (L (Fb c1) (L c2 (L G0 a0))))
theorem Abx(fs:List Rn)(r t:Rn)(e f:Int)(k n:Int)(fs1:List Rn)(v1:Bool)(c1:(v1)=true)(c2:B (k<0)=false)(c3:B (k>64)=false)(n1:H I 18 [BD fs r e t f] (.bool v1))(n2:H I 75 [BD fs r e t f] (BD fs1 r e t f))(n3:H I 77 [BD fs1 r e t f,.int .i64 k] (Ab n)):H I 25 [BD fs r e t f,.int .i64 k] (.tup [Ab n,.int .i64 0]):=i (fn:=Xj) BF rfl 400 rfl [.r (.bool v1),.b false,.b false,.b false,.r (BD fs1 r e t f),.r (Ab n)] (L n1 (L (Fb c1) (L c2 (L c3 (L n2 (L n3 a0))))))
def TXRA:Cp:=TXC
theorem Cf:B_ I TXRA:=BF
def Pf(fs:List Rn)(r:Rn)(e:Int)(t:Rn)(f:Int)(k:Int)(u:Rn)(o:Rn)(lo:Rn)(hi:Rn):Ak:=(Q 1 (.val (.int .i64 k)::(rtB fs r e t f::(Q 1 (.box [.bool u.1,.sl u.2.length (lm u.2)]::(.box [.bool o.1,.sl o.2.length (lm o.2)]::(.box [.bool lo.1,.sl lo.2.length (lm lo.2)]::(.box [.bool hi.1,.sl hi.2.length (lm hi.2)]::(Q 41 [])))))))))
theorem A0e(fs:List Rn)(r:Rn)(e:Int)(t:Rn)(f:Int)(k:Int)(u:Rn)(o:Rn)(lo:Rn)(hi:Rn)(c S T m y:Int)(c1:B (c<0)=true)(c2:B (y>=0)=true)(n1:H I 83 [Ap lo,Ap hi] (.int .i64 c))(n2:H I 95 [Ap lo,Ap hi] (Ab S))(n3:H I 95 [Ab S,Ap o] (Ab T))(n4:H I 128 [Ab T,.int .i64 1] (Ab m))(n5:H I 27 [BD fs r e t f,A5 (cn m) k] (.int .i64 y)):W I Xr (Pf fs r e t f k u o lo hi) .norm (Pf fs r e t f k u o (cn m) hi):=(C Cf 400 [.r (.int .i64 c),.b true,.r (Ab S),.r (Ab T),.r (Ab m),.r (.int .i64 y),.b true] [1,2,4,5,6,7] (L n1 (L c1 (L n2 (L n3 (L n4 (L n5 (L c2 a0))))))))
theorem A0f(fs:List Rn)(r:Rn)(e:Int)(t:Rn)(f:Int)(k:Int)(u:Rn)(o:Rn)(lo:Rn)(hi:Rn)(c S T m y m1:Int)(c1:B (c<0)=true)(c2:B (y>=0)=false)(n1:H I 83 [Ap lo,Ap hi] (.int .i64 c))(n2:H I 95 [Ap lo,Ap hi] (Ab S))(n3:H I 95 [Ab S,Ap o] (Ab T))(n4:H I 128 [Ab T,.int .i64 1] (Ab m))(n5:H I 27 [BD fs r e t f,A5 (cn m) k] (.int .i64 y))(n6:H I 129 [Ab m,Ap o] (Ab m1)):W I Xr (Pf fs r e t f k u o lo hi) .norm (Pf fs r e t f k u o lo (cn m1)):=(C Cf 400 [.r (.int .i64 c),.b true,.r (Ab S),.r (Ab T),.r (Ab m),.r (.int .i64 y),.b false,.r (Ab m1)] [1,2,4,5,6,7] (L n1 (L c1 (L n2 (L n3 (L n4 (L n5 (L c2 (L n6 a0)))))))))
theorem rC(fs:List Rn)(r:Rn)(e:Int)(t:Rn)(f:Int)(k:Int)(u:Rn)(o:Rn)(lo:Rn)(hi:Rn)(c:Int)(c1:B (c<0)=false)(n1:H I 83 [Ap lo,Ap hi] (.int .i64 c)):W I Xr (Pf fs r e t f k u o lo hi) (.exit 0) (Pf fs r e t f k u o lo hi):=(C Cf 400 [.r (.int .i64 c),.b false] [1,2,4,5,6,7] (L n1 (L c1 a0)))
theorem A0g(fs:List Rn)(r t:Rn)(e f:Int)(k a b lo hi:Int)(z z1:Rn)(n1:H I 49 [.int .i64 1] (Ab 1))(n2:H I 84 [Ap r,.int .i64 k] (C8 a))(n3:H I 128 [Ab a,.int .i64 e] (Ab lo))(n4:H I 84 [Ap t,.int .i64 k] (C8 b))(n5:H I 128 [Ab b,.int .i64 f] (Ab hi))(hl6:W I (.loop Xr) (Pf fs r e t f k (false,[]) (cn 1) (cn lo) (cn hi)) (.exit 0) (Pf fs r e t f k (false,[]) (cn 1) z z1)):H I 78 [BD fs r e t f,.int .i64 k] (Ap z):=p (fn:=aY) (s:=(Q 4 (.box [.bool z.1,.sl z.2.length (lm z.2)]::(Q 44 [])))) (ex := .ret) rfl rfl (P (P (W.seq (C Cf 400 [.r (Ab 1),.r (C8 a),.r (Ab lo),.r (C8 b),.r (Ab hi)] [1,2,4,5,6,7] (L n1 (L n2 (L n3 (L n4 (L n5 a0)))))) (W.seq (W.block hl6) (C Cf 400 [] [4] a0))))) (by nofun) rfl
theorem Aby(fs:List Rn)(r t:Rn)(e f:Int)(k:Int)(v1:Bool)(c1:(v1)=true)(c2:B (k<0)=true)(n1:H I 17 [BD fs r e t f] (.bool v1)):H I 26 [BD fs r e t f,.int .i64 k] (.tup [.agg [.bool false,.sl 0 []],.int .i64 1]):=i (fn:=Xk) Cf rfl 400 rfl [.r (.bool v1),.b false,.b true,.b true] (L n1 (L (Fb c1) (L c2 (L G0 a0))))
theorem Abz(fs:List Rn)(r t:Rn)(e f:Int)(k n:Int)(fs1:List Rn)(v1:Bool)(c1:(v1)=true)(c2:B (k<0)=false)(c3:B (k>64)=false)(n1:H I 17 [BD fs r e t f] (.bool v1))(n2:H I 20 [BD fs r e t f] (BD fs1 r e t f))(n3:H I 78 [BD fs1 r e t f,.int .i64 k] (Ab n)):H I 26 [BD fs r e t f,.int .i64 k] (.tup [Ab n,.int .i64 0]):=i (fn:=Xk) Cf rfl 400 rfl [.r (.bool v1),.b false,.b false,.b false,.r (BD fs1 r e t f),.r (Ab n)] (L n1 (L (Fb c1) (L c2 (L c3 (L n2 (L n3 a0))))))
theorem A0h(r:Rn)(e n m:Int)(u v w_:Int)(n1:H I 130 [Ap r,.int .i64 e] (A5 (cn n) m))(n2:H I 131 [Ab n] (Ab u))(n3:H I 132 [.int .i64 1] (Ab v))(n4:H I 104 [Ab v,.int .i64 m] (Ab w_)):H I 81 [A5 r e] (.agg [.sl 2 [.bool (B (u<0)),.sl ((G (E u)).length) (lm (G (E u))),.bool (B (w_<0)),.sl ((G (E w_)).length) (lm (G (E w_)))],.bool (B (n<0)),.sl ((G (E n)).length) (lm (G (E n))),.int .i64 m,.bool (B (n<0)),.sl ((G (E n)).length) (lm (G (E n))),.int .i64 m]):=i (fn:=bB) Cf rfl 400 rfl [.r (A5 (cn n) m),.r (Ab u),.r (Ab v),.r (Ab w_)] (L n1 (L n2 (L n3 (L n4 a0))))
theorem Aca(r:Rn)(e:Int)(fs gs:List Rn)(p q p1 q1:Rn)(c d c_ d_:Int)(b:Bool)(c1:(b)=true)(n1:H I 64 [A5 r e] (.bool b))(n2:H I 81 [A5 r e] (BD fs p c q d))(n3:H I 57 [BD fs p c q d] (BD gs p1 c_ q1 d_)):H I 29 [A5 r e] (.tup [BD gs p1 c_ q1 d_,.int .i64 0]):=i (fn:=aH) Cf rfl 400 rfl [.r (.bool b),.b false,.r (BD fs p c q d),.r (BD gs p1 c_ q1 d_)] (L n1 (L (Fb c1) (L n2 (L n3 a0))))
theorem rD(n e:Int)(n1:H I 49 [.int .i64 n] (Ab n)):H I 50 [.int .i64 n,.int .i64 e] (A5 (cn n) e):=i (fn:=aK) Cf rfl 400 rfl [.r (Ab n)] (L n1 a0)
theorem A0i(rs:List Rn)(l:List Rt)(e:Int)(n1:H I 50 [.int .i64 (-40),.int .i64 0] (A5 (cn (-40)) 0))(n2:H I 50 [.int .i64 40,.int .i64 0] (A5 (cn 40) 0))(n3:H I 15 [sL pc rs,A5 (cn (-40)) 0,A5 (cn 40) 0] (.tup [.sl l.length (Gv l),.int .i64 e])):H I 22 [sL pc rs] (.tup [.sl l.length (Gv l),.bool (e==0)]):=i (fn:=aD) Cf rfl 400 rfl [.r (A5 (cn (-40)) 0),.r (A5 (cn 40) 0),.r (.tup [.sl l.length (Gv l),.int .i64 e])] (L n1 (L n2 (L n3 a0)))
theorem Acb(q:Rn)(g z:Int)(c1:B (g>=0)=true)(c2:B (g<=10)=true)(c3:B ((q.2.length:Int)<=1)=true)(n1:H I 51 [Ap q] (.int .i64 z)):H I 14 [A5 q g] (.bool (B (z<=20))):=i (fn:=SB) Cf rfl 400 rfl [.b true,.b true,.b true,.r (.int .i64 z)] (L c1 (L c2 (L c3 (L n1 a0))))
theorem Acd(q:Rn)(g:Int)(c1:B (g>=0)=true)(c2:B (g<=10)=true)(c3:B ((q.2.length:Int)<=1)=false):H I 14 [A5 q g] (.bool false):=i (fn:=SB) Cf rfl 400 rfl [.b true,.b true,.b false] (L c1 (L c2 (L c3 a0)))
theorem Ace(q:Rn)(g:Int)(c1:B (g>=0)=true)(c2:B (g<=10)=false):H I 14 [A5 q g] (.bool false):=i (fn:=SB) Cf rfl 400 rfl [.b true,.b false,.b false] (L c1 (L c2 (L Ff a0)))
theorem Acf(q:Rn)(g:Int)(c1:B (g>=0)=false):H I 14 [A5 q g] (.bool false):=i (fn:=SB) Cf rfl 400 rfl [.b false,.b false,.b false] (L c1 (L Ff (L Ff a0)))
def WV(o:Bool)(l:List Rt)(q:Rn)(g:Int)(k:Int)(i:Int):Ak:=(Q 2 (.val (.int .i64 k)::(Q 1 (.box [.bool q.1,.sl q.2.length (lm q.2),.int .i64 g]::(Q 1 (.val (.bool o)::(.val (.sl l.length (Gv l))::(Q 1 (.val (.int .i64 i)::(Q 121 []))))))))))
theorem Asn(o:Bool)(l:List Rt)(q:Rn)(g:Int)(k:Int)(i:Int)(gs:List Rn)(p q1 n:Rn)(c d a h:Int)(c3:B (i<(l.length:Int))=true)(c4:(a != a)=false)(c5:(h != h)=false)(n1:0<=i/\i<(l.length:Int))(n2:H I 20 [BD ((l.getD (A i) zR).fs) ((l.getD (A i) zR).r) ((l.getD (A i) zR).e) ((l.getD (A i) zR).t) ((l.getD (A i) zR).f)] (BD gs p c q1 d))(n3:H I 24 [BD ((l.getD (A i) zR).fs) ((l.getD (A i) zR).r) ((l.getD (A i) zR).e) ((l.getD (A i) zR).t) ((l.getD (A i) zR).f),A5 q g] (.tup [.int .i64 a,.int .i64 0]))(n4:H I 25 [BD ((l.getD (A i) zR).fs) ((l.getD (A i) zR).r) ((l.getD (A i) zR).e) ((l.getD (A i) zR).t) ((l.getD (A i) zR).f),.int .i64 k] (.tup [Ap n,.int .i64 h]))(n5:H I 26 [BD ((l.getD (A i) zR).fs) ((l.getD (A i) zR).r) ((l.getD (A i) zR).e) ((l.getD (A i) zR).t) ((l.getD (A i) zR).f),.int .i64 k] (.tup [Ap n,.int .i64 h]))(n6:H I 27 [BD gs p c q1 d,A5 q g] (.int .i64 a))(n7:H I 28 [Ap n,Ap n] (.bool true)):W I sC (WV o l q g k i) .norm (WV o l q g k (D R (i+1))):=(C Cf 400 [.b true,.v (BD ((l.getD (A i) zR).fs) ((l.getD (A i) zR).r) ((l.getD (A i) zR).e) ((l.getD (A i) zR).t) ((l.getD (A i) zR).f)),.r (BD gs p c q1 d),.v (BD ((l.getD (A i) zR).fs) ((l.getD (A i) zR).r) ((l.getD (A i) zR).e) ((l.getD (A i) zR).t) ((l.getD (A i) zR).f)),.r (.tup [.int .i64 a,.int .i64 0]),.v (BD ((l.getD (A i) zR).fs) ((l.getD (A i) zR).r) ((l.getD (A i) zR).e) ((l.getD (A i) zR).t) ((l.getD (A i) zR).f)),.r (.tup [Ap n,.int .i64 h]),.v (BD ((l.getD (A i) zR).fs) ((l.getD (A i) zR).r) ((l.getD (A i) zR).e) ((l.getD (A i) zR).t) ((l.getD (A i) zR).f)),.r (.tup [Ap n,.int .i64 h]),.b false,.r (.int .i64 a),.b false,.b false,.r (.bool true),.b false] [2,4,6,7,9] (L c3 (L n1 (L (Kk n1) (L n2 (L n1 (L (Kk n1) (L n3 (L n1 (L (Kk n1) (L n4 (L n1 (L (Kk n1) (L n5 (L Ff (L n6 (L c4 (L c5 (L n7 (L Ff a0))))))))))))))))))))
theorem A4q(o:Bool)(l:List Rt)(q:Rn)(g:Int)(k:Int)(i:Int)(c3:B (i<(l.length:Int))=false):W I sC (WV o l q g k i) (.exit 0) (WV o l q g k i):=(C Cf 400 [.b false] [2,4,6,7,9] (L c3 a0))
theorem Aso(rs:List Rn)(q:Rn)(g k d:Int)(b1 b2:Bool)(c1:(b1)=true)(c2:(b2)=true)(c3:B (d<1)=true)(n1:H I 12 [] (.bool true))(n2:H I 13 [sL pc rs] (.bool b1))(n3:H I 14 [A5 q g] (.bool b2))(n4:H I 21 [sL pc rs] (.int .i64 d)):H I 5 [sL pc rs,A5 q g,.int .i64 k] (.bool true):=p (fn:=YC) (s:=(Q 6 (.val (.bool true)::(Q 124 [])))) (ex := .ret) rfl rfl (P (P (P (P (Ar (AQ (C Cf 400 [.r (.bool true),.b false,.r (.bool b1),.b false,.r (.bool b2),.b false,.r (.int .i64 d),.b true,.b true,.r (.bool true)] [6] (L n1 (L Ff (L n2 (L (Fb c1) (L n3 (L (Fb c2) (L n4 (L c3 (L G0 (L n1 a0))))))))))) (by nofun))))))) (by nofun) rfl
theorem Asp(rs:List Rn)(q:Rn)(g k d:Int)(b1 b2:Bool)(c1:(b1)=true)(c2:(b2)=true)(c3:B (d<1)=false)(c4:B (k>20)=true)(n1:H I 12 [] (.bool true))(n2:H I 13 [sL pc rs] (.bool b1))(n3:H I 14 [A5 q g] (.bool b2))(n4:H I 21 [sL pc rs] (.int .i64 d)):H I 5 [sL pc rs,A5 q g,.int .i64 k] (.bool true):=p (fn:=YC) (s:=(Q 6 (.val (.bool true)::(Q 124 [])))) (ex := .ret) rfl rfl (P (P (P (P (Ar (AQ (C Cf 400 [.r (.bool true),.b false,.r (.bool b1),.b false,.r (.bool b2),.b false,.r (.int .i64 d),.b false,.b true,.r (.bool true)] [6] (L n1 (L Ff (L n2 (L (Fb c1) (L n3 (L (Fb c2) (L n4 (L c3 (L c4 (L n1 a0))))))))))) (by nofun))))))) (by nofun) rfl
theorem Asq(rs:List Rn)(q:Rn)(g k d i:Int)(l:List Rt)(fs:List Rn)(r t:Rn)(e f:Int)(b1 b2 v:Bool)(c1:(b1)=true)(c2:(b2)=true)(c3:B (d<1)=false)(c4:B (k>20)=false)(n1:H I 12 [] (.bool true))(n2:H I 13 [sL pc rs] (.bool b1))(n3:H I 14 [A5 q g] (.bool b2))(n4:H I 21 [sL pc rs] (.int .i64 d))(n5:H I 22 [sL pc rs] (.tup [.sl l.length (Gv l),.bool true]))(hl6:W I (.loop sC) (WV false l q g k 0) (.exit 0) (WV false l q g k i))(n7:H I 29 [A5 q g] (.tup [BD fs r e t f,.int .i64 0]))(n8:H I 24 [BD fs r e t f,A5 q g] (.tup [.int .i64 0,.int .i64 0]))(n9:H I 18 [BD fs r e t f] (.bool v)):H I 5 [sL pc rs,A5 q g,.int .i64 k] (.bool v):=p (fn:=YC) (s:=(Q 6 (.val (.bool v)::(Q 124 [])))) (ex := .ret) rfl rfl (P (P (P (P (Ar (W.seq (C Cf 400 [.r (.bool true),.b false,.r (.bool b1),.b false,.r (.bool b2),.b false,.r (.int .i64 d),.b false,.b false,.r (.tup [.sl l.length (Gv l),.bool true]),.b false] [2,4,6,7,9] (L n1 (L Ff (L n2 (L (Fb c1) (L n3 (L (Fb c2) (L n4 (L c3 (L c4 (L n5 (L Ff a0)))))))))))) (W.seq (W.block hl6) (C Cf 400 [.r (.tup [BD fs r e t f,.int .i64 0]),.r (.tup [.int .i64 0,.int .i64 0]),.b true,.b true,.b true,.r (.bool v)] [6] (L n7 (L n8 (L G0 (L G0 (L G0 (L n9 a0)))))))))))))) (by nofun) rfl
theorem Asr(rs:List Rn)(q:Rn)(g k:Int)(b1 b2:Bool)(c1:(b1)=true)(c2:(b2)=false)(n1:H I 12 [] (.bool true))(n2:H I 13 [sL pc rs] (.bool b1))(n3:H I 14 [A5 q g] (.bool b2)):H I 5 [sL pc rs,A5 q g,.int .i64 k] (.bool true):=p (fn:=YC) (s:=(Q 6 (.val (.bool true)::(Q 124 [])))) (ex := .ret) rfl rfl (P (P (P (P (Ar (AQ (C Cf 400 [.r (.bool true),.b false,.r (.bool b1),.b false,.r (.bool b2),.b true,.b true,.b true,.r (.bool true)] [6] (L n1 (L Ff (L n2 (L (Fb c1) (L n3 (L (YO c2) (L G0 (L G0 (L n1 a0)))))))))) (by nofun))))))) (by nofun) rfl
theorem Ass(rs:List Rn)(q:Rn)(g k:Int)(b1:Bool)(c1:(b1)=false)(n1:H I 12 [] (.bool true))(n2:H I 13 [sL pc rs] (.bool b1)):H I 5 [sL pc rs,A5 q g,.int .i64 k] (.bool true):=p (fn:=YC) (s:=(Q 6 (.val (.bool true)::(Q 124 [])))) (ex := .ret) rfl rfl (P (P (P (P (Ar (AQ (C Cf 400 [.r (.bool true),.b false,.r (.bool b1),.b true,.b true,.b true,.b true,.r (.bool true)] [6] (L n1 (L Ff (L n2 (L (YO c1) (L G0 (L G0 (L G0 (L n1 a0))))))))) (by nofun))))))) (by nofun) rfl
theorem Q_{xs:List Int}(hN:xs.length<=1048576):H I 184 [sL lm xs] (.sl (Y xs).length (lm (Y xs))):=by
 have hl:∀ m,m<=xs.length->W I (.loop Rw) (Ln xs (m:Int)) (.exit 0) (Ln xs ((l xs m:Nat):Int)):=by
  intro m;induction m with
  | zero =>
   intro _;exact Al (Asl xs ((0:Nat):Int) (by simp)) (by nofun)
  | succ m ih =>
   intro hm;have e1:D R (((m+1:Nat):Int)-1)=(m:Int):=by rw[AW (by omega) (by omega)];omega
   simp only[l];by_cases h0:xs.getD m 0=0
   ·rw[if_pos h0];have h1:=Asi xs ((m+1:Nat):Int) (by simp) (by rw[e1,F,h0];rfl) (by rw[e1];omega);rw[e1] at h1;exact W.loop h1 (ih (by omega))
   ·rw[if_neg h0];exact Al (Asj xs ((m+1:Nat):Int) (by simp) (by rw[e1,F];simpa using h0) (by rw[e1];omega)) (by nofun)
 obtain⟨e1,e2,e3⟩:=Vv xs;have h:=Asm xs _ (hl xs.length (Am _)) (by omega) e3;rw[e2,e1] at h;exact h
def Eh(ms:List Int):Nat->Bool
 | 0=>false
 | i+1=>Eh ms i || (ms.getD i 0 != 0)
theorem PS{ms:List Int}(hu:AI ms):∀ i,i<=ms.length->(Eh ms i=false↔Aa (ms.take i)=0)
 | 0,_=>by simp[Eh,Aa]
 | i+1,h=>by
  have ih:=PS hu i (by omega);have ht:=Du ms i (by omega);have hp:=Cc i;have hm:=AA hu i;have h0:=AK (Dm hu i);simp only[Eh,MG,ih,bne_eq_false_iff_eq];rw[ht];have hm2:=A1 (Aw hp) hm.1;constructor
  ·intro ⟨a,b⟩;rw[a,b];simp
  ·intro g;have g1:Aa (ms.take i)=0:=by omega
   have g2:4294967296^i*ms.getD i 0=0:=by omega
   refine⟨g1,?_⟩;rcases GI.1 g2 with z | z
   ·omega
   ·exact z
theorem rE{m:Bool}{ms:List Int}{s:Int}{kk e:Nat}(he:e<=ms.length)(hk:e<=kk)(hN:ms.length<=1048576)(hx:e=kk\/e=ms.length) :
  W I (.loop EM) (CC m (kk:Nat) s ms false 0) (.exit 0) (CC m (kk:Nat) s ms (Eh ms e) (e:Nat)):=by
 refine W.up (prog:=I) (c:=EM) (ex := .exit 0) (fin:=CC m (kk:Nat) s ms (Eh ms e) (e:Nat)) (fun i=>CC m (kk:Nat) s ms (Eh ms i) (i:Nat)) e (by nofun) ?_ ?_ 0 (Bf _)
 ·intro i hi;have ei:D R ((i:Int)+1)=((i+1:Nat):Int):=by rw[AW (by omega) (by omega)];omega
  cases hl:Eh ms i with
  | true =>
   have k1:=zL m (kk:Nat) s ms true (i:Nat) (by simp;omega) (by simp;omega) rfl;rw[ei] at k1;have:Eh ms (i+1)=true:=by simp only[Eh];rw[hl];rfl
   rw[this];exact k1
  | false =>
   have k1:=X_ m (kk:Nat) s ms false (i:Nat) (by simp;omega) (by simp;omega) rfl (by omega);rw[ei,F] at k1;have:Eh ms (i+1)=(ms.getD i 0 != 0):=by simp only[Eh];rw[hl];rfl
   rw[this];exact k1
 ·rcases hx with h | h
  ·exact Sh m _ s ms _ _ (by simp;omega)
  ·by_cases g:e<kk
   ·exact zM m _ s ms _ _ (by simp;omega) (by simp;omega)
   ·exact Sh m _ s ms _ _ (by simp;omega)
theorem A0j{m lost:Bool}{ms:List Int}{kk:Int}{s k:Nat}(hu:AI ms)(hs:s<32)(hN:ms.length<=1048576)(hk:k<=ms.length):∀ (r i:Nat),i+r=ms.length-k ->
  W I (.loop E') (CM m kk (s:Nat) ms lost i (lm ((Ao i).map (Cy (ms.drop k) s))) ((k+i:Nat):Int)) (.exit 2) (CM m kk (s:Nat) ms lost (ms.length-k) (lm ((Ao (ms.length-k)).map (Cy (ms.drop k) s))) (ms.length:Nat)):=by
 intro r;induction r with
 | zero =>
  intro i hi;have hi':i=ms.length-k:=by omega
  subst hi';have e0:((k+(ms.length-k):Nat):Int)=(ms.length:Nat):=by omega
  rw[e0];exact Al (Si m kk _ ms lost _ _ _ (by simp)) (by nofun)
 | succ r ih =>
  intro i hi;have ei:D R (((k+i:Nat):Int)+1)=((k+(i+1):Nat):Int):=by rw[AW (by omega) (by omega)];omega
  have hx:=AA hu (k+i);have hy:=AA hu (k+i+1);have gx:(ms.drop k).getD i 0=ms.getD (k+i) 0:=by simp[Z,AX]
  have gy:(ms.drop k).getD (i+1) 0=ms.getD (k+i+1) 0:=by simp[Z,AX,CO]
  have em:min (A (s:Int)) (Aj .u64)=s:=by rw[F];show min s 64=s;omega
  have hR:Cy (ms.drop k) s i=(ms.getD (k+i+1) 0*4294967296+ms.getD (k+i) 0) / 2^s % 4294967296:=by
   rw[V5 hx hs];unfold Cy;rw[gx,gy]
  have hstep:W I E' (CM m kk (s:Nat) ms lost i (lm ((Ao i).map (Cy (ms.drop k) s))) ((k+i:Nat):Int)) .norm (CM m kk (s:Nat) ms lost (i+1) (lm ((Ao (i+1)).map (Cy (ms.drop k) s))) ((k+(i+1):Nat):Int)):=by
   have el:lm ((Ao (i+1)).map (Cy (ms.drop k) s))=lm ((Ao i).map (Cy (ms.drop k) s))++([.int .u32 (Cy (ms.drop k) s i)]:List AV):=by
    rw[FX,DR,Cz,FF,G8]
   rw[el,hR];by_cases h1:k+i+1<ms.length
   ·have kk1:=Ya m kk (s:Nat) ms lost i (lm ((Ao i).map (Cy (ms.drop k) s))) ((k+i:Nat):Int) (by simp;omega) (by rw[ei];simp;omega) (by omega) (by rw[ei];omega) (by omega) (by omega);rw[ei,F,F,em] at kk1;have w1:D U ((T (Aj .u64) (D U (ms.getD (k+i) 0)) ||| T (Aj .u64) (D U ((D U (ms.getD (k+(i+1)) 0))*2^(min (A 32) (Aj .u64))))).toNat)=ms.getD (k+i+1) 0*4294967296+ms.getD (k+i) 0:=by
     rw[Of,Cx (n:=ms.getD (k+(i+1)) 0) (by rw[<- CO];omega),<- CO];exact Li hy hx
    have hpos:0<=ms.getD (k+i+1) 0*4294967296+ms.getD (k+i) 0:=by omega
    rw[w1,t _ (by have:=B7 s;omega),Ds] at kk1;exact kk1
   ·have hz:ms.getD (k+i+1) 0=0:=Bv (by omega);have kk1:=Yb m kk (s:Nat) ms lost i (lm ((Ao i).map (Cy (ms.drop k) s))) ((k+i:Nat):Int) (by simp;omega) (by rw[ei];simp;omega) (by omega) (by omega) (by omega);rw[ei,F,em,Cx (n:=ms.getD (k+i) 0) (by omega),t _ (by have:=B7 s;omega),Ds] at kk1;rw[hz,DF,Db];exact kk1
  exact W.loop hstep (ih (i+1) (by omega))
theorem We{V L P:Int}(hP:0<P)(h0:0<L)(h1:L<P) : -(P*V+L) / P = -(V+1):=by
 have e : -(P*V+L)=(P-L)+P*(-(V+1)):=by rw[DY,C1];omega
 rw[e,HH _ _ (by omega),DN (by omega) (by omega)];omega
theorem nV{V L P:Int}(hP:0<P)(h0:0<=L)(h1:L<P):(P*V+L) / P=V:=by
 rw[Ij,HH _ _ (by omega),DN h0 h1];omega
theorem Acg{r:Rn}(hr:AI r.2)(hN:r.2.length<1048576){n:Nat}(hn:(n:Int)<=9223372036854775807):H I 163 [Ap r,.int .i64 (n:Nat)] (Ab (O r / 2^n)):=by
 have hlb:=CZ (neg:=r.1) hr (Qe hN);have hv:rv r.1 r.2=O r:=rfl;have hlen:=Es (neg:=r.1) hr;rw[hv] at hlb hlen;have tu:AI (G (O r).natAbs):=BC _;have hval:=Cs (O r).natAbs;generalize O r=N at *
 have e1:D R (o (n:Int) 32)=((n / 32:Nat):Int):=by
  rw[B0 (by omega),AW (by omega) (by omega)];omega
 have e2:D U (f (n:Int) 32)=((n % 32:Nat):Int):=by
  rw[Bc (by omega),B1];omega
 have hs:n % 32<32:=G5 _ (by decide);have hp:=G9 n;have hP:=Cc (n / 32);have hS:=B7 (n % 32);have hpn:=B7 n;generalize hms:G N.natAbs=ms at *
 have emask:D A4 ((D A4 (1*2^(min (A (D U (f (n:Int) 32))) (Aj .u32))))-1)=2^(n % 32)-1:=by
  have:min (A ((n % 32:Nat):Int)) (Aj .u32)=n % 32:=by rw[F];show min (n % 32) 32=n % 32;omega
  have h31:(2:Int)^(n % 32)<=2147483648:=FP (show n % 32<=31 by omega);rw[e2,this,CR,Ds,Ds];omega
 by_cases hin:n / 32<ms.length
 ·have hall:=V6 (ms:=ms) hs (show n / 32<=ms.length by omega);have ux:AI ((Ao (ms.length-n / 32)).map (Cy (ms.drop (n / 32)) (n % 32))):=Mv fun i=>(NE (E7 tu _) hs i).2.2.2;have hQl:((Ao (ms.length-n / 32)).map (Cy (ms.drop (n / 32)) (n % 32))).length=ms.length-n / 32:=by simp
  have hb:=A0j (lost:=Eh ms (n / 32)) (m:=decide (N<0)) (ms:=ms) (kk:=((n / 32:Nat):Int)) (s:=n % 32) (k:=n / 32) tu hs (by omega) (by omega) (ms.length-n / 32) 0 (by omega);have hmk:=DD (neg:=decide (N<0)) ux (by omega);generalize hQ:(Ao (ms.length-n / 32)).map (Cy (ms.drop (n / 32)) (n % 32))=Q at *
  rw[<- hQl] at hb;have hm0:=EK (ms.getD (n / 32) 0) (show (2:Int)^(n % 32) ≠ 0 by omega);have hm1:=DU (ms.getD (n / 32) 0) hS;have ht0:=AK (Dm tu (n / 32));have ht1:=Fv tu (n / 32);have hQ0:=AK ux;have hl:0<=4294967296^(n / 32)*(ms.getD (n / 32) 0 % 2^(n % 32))+Aa (ms.take (n / 32))/\4294967296^(n / 32)*(ms.getD (n / 32) 0 % 2^(n % 32))+Aa (ms.take (n / 32))<2^n:=by
   rw[hp];generalize (4294967296:Int)^(n / 32)=P at *
   generalize ms.getD (n / 32) 0 % 2^(n % 32)=z at *
   generalize (2:Int)^(n % 32)=S at *
   have a:=A1 (Aw hP) hm0;have b:=Ah (show z+1<=S by omega) (Aw hP);rw[C1,Dp] at b;omega
  have hv2:(N.natAbs:Int)=2^n*Aa Q+(4294967296^(n / 32)*(ms.getD (n / 32) 0 % 2^(n % 32))+Aa (ms.take (n / 32))):=by rw[<- hval,hall,hp];grind
  have hz:(4294967296^(n / 32)*(ms.getD (n / 32) 0 % 2^(n % 32))+Aa (ms.take (n / 32))=0)↔(ms.getD (n / 32) 0 % 2^(n % 32)=0/\Aa (ms.take (n / 32))=0):=by
   have a:=A1 (Aw hP) hm0;constructor
   ·intro g;have b:4294967296^(n / 32)*(ms.getD (n / 32) 0 % 2^(n % 32))=0:=by omega
    rcases GI.1 b with z | z
    ·omega
    ·exact⟨z,by omega⟩
   ·intro ⟨g1,g2⟩;rw[g1,g2];simp
  have hlo:=PS tu (n / 32) (by omega);generalize hL:4294967296^(n / 32)*(ms.getD (n / 32) 0 % 2^(n % 32))+Aa (ms.take (n / 32))=Lo at *
  have ha:=rE (m:=decide (N<0)) (ms:=ms) (s:=((n % 32:Nat):Int)) (kk:=n / 32) (e:=n / 32) (by omega) (Am _) (by omega) (.inl rfl);have ec2:D A4 ((T (Aj .u32) (ms.getD (A (D R (o (n:Int) 32))) 0) &&& T (Aj .u32) (D A4 ((D A4 (1*2^(min (A (D U (f (n:Int) 32))) (Aj .u32))))-1))).toNat)=ms.getD (n / 32) 0 % 2^(n % 32):=by
   rw[emask,e1,F,Y_ (AA tu _) (by omega)]
  have c1:decide ((D R (o (n:Int) 32))<(ms.length:Int))=true:=by rw[e1];simp;omega
  have hb2:W I (.loop E') (CM (B (N<0)) (D R (o (n:Int) 32)) (D U (f (n:Int) 32)) ms (Eh ms (n / 32)) 0 [] (D R (o (n:Int) 32))) (.exit 2) (CM (B (N<0)) (D R (o (n:Int) 32)) (D U (f (n:Int) 32)) ms (Eh ms (n / 32)) Q.length (lm Q) (ms.length:Nat)):=by
   rw[e1,e2];exact hb
  have ha2:W I (.loop EM) (CC (B (N<0)) (D R (o (n:Int) 32)) (D U (f (n:Int) 32)) ms false 0) (.exit 0) (CC (B (N<0)) (D R (o (n:Int) 32)) (D U (f (n:Int) 32)) ms (Eh ms (n / 32)) ((n / 32:Nat):Int)):=by
   rw[e1,e2];exact ha
  have i1:0<=D R (o (n:Int) 32)/\D R (o (n:Int) 32)<(ms.length:Int):=by rw[e1];omega
  have i2:¬ D U (f (n:Int) 32)<0:=by rw[e2];omega
  by_cases hneg:N<0
  ·rw[decide_eq_true hneg] at hlb ha2 hb2 hmk;by_cases h0:Lo=0
   ·obtain⟨z1,z2⟩:=hz.1 h0;have e:rv true Q=N / 2^n:=by
     have:N=2^n*(-Aa Q):=by rw[DY];omega
     show -Aa Q=_;conv=>rhs;rw[this]
     rw[BN _ (by omega)]
    rw[e] at hmk;exact VV r.1 true (Eh ms (n / 32)) r.2 ms Q (n:Nat) _ _ _ c1 (by rw[ec2,z1];rfl) rfl (hlo.2 z2) hlb ha2 hb2 i1 i2 hmk
   ·have tl:=Q_ (xs:=Q) (by omega);have tlen:=Gn Q Q.length;obtain⟨ws,w1,w2,w3,w4⟩:=Lh (xs:=Y Q) (ys:=[1]) (fun x hx=>ux x (Cg hx)) (fun x hx=>by
     rcases CH.1 hx with rfl | hx
     ·decide
     ·cases hx) (by unfold Y;rw[A7];omega) (by decide)
    rw[DS] at w2;have mk:=DD (neg:=true) w1 w3;have e:rv true ws=N / 2^n:=by
     have h:=We (V:=Aa Q) (L:=Lo) hpn (by omega) hl.2;have:N = -(2^n*Aa Q+Lo):=by omega
     show -Aa ws=_;rw[w2,this,h];rfl
    rw[e] at mk;by_cases z1:ms.getD (n / 32) 0 % 2^(n % 32)=0
    ·have hlost:Eh ms (n / 32)=true:=by
      cases hq:Eh ms (n / 32) with
      | true=>rfl
      | false=>exact absurd (hz.2 ⟨z1,hlo.1 hq⟩) h0
     exact mZ r.1 true (Eh ms (n / 32)) r.2 ms Q _ ws (n:Nat) _ _ _ c1 (by rw[ec2,z1];rfl) rfl hlost hlb ha2 hb2 i1 i2 tl w4 mk
    ·exact mX r.1 true (Eh ms (n / 32)) r.2 ms Q _ ws (n:Nat) _ _ _ c1 (by rw[ec2];simpa using z1) rfl hlb ha2 hb2 i1 i2 tl w4 mk
  ·rw[decide_eq_false hneg] at hlb ha2 hb2 hmk;have e:rv false Q=N / 2^n:=by
    have h:=nV (V:=Aa Q) (L:=Lo) hpn hl.1 hl.2;have:N=2^n*Aa Q+Lo:=by omega
    show Aa Q=_;rw[this,h]
   rw[e] at hmk;by_cases z1:ms.getD (n / 32) 0 % 2^(n % 32)=0
   ·exact VW r.1 false (Eh ms (n / 32)) r.2 ms Q (n:Nat) _ _ _ c1 (by rw[ec2,z1];rfl) rfl hlb ha2 hb2 i1 i2 hmk
   ·exact mY r.1 false (Eh ms (n / 32)) r.2 ms Q (n:Nat) _ _ _ c1 (by rw[ec2];simpa using z1) rfl hlb ha2 hb2 i1 i2 hmk
 ·have hlt:(N.natAbs:Int)<2^n:=by
   have h1:=D4 tu;rw[hval] at h1;have h2:=Fq (show ms.length<=n / 32 by omega);have h5:=Ah (show (1:Int)<=2^(n % 32) by omega) (Aw hP);rw[Dp,<- hp] at h5;omega
  have hlo:=PS tu ms.length (Am _);rw[Ee,hval] at hlo;have ha:=rE (m:=decide (N<0)) (ms:=ms) (s:=((n % 32:Nat):Int)) (kk:=n / 32) (e:=ms.length) (Am _) (by omega) (by omega) (.inr rfl);have hb2:∀ l:Bool,W I (.loop E') (CM (B (N<0)) (D R (o (n:Int) 32)) (D U (f (n:Int) 32)) ms l 0 [] (D R (o (n:Int) 32))) (.exit 2) (CM (B (N<0)) (D R (o (n:Int) 32)) (D U (f (n:Int) 32)) ms l ([]:List Int).length (lm []) ((n / 32:Nat):Int)):=by
   intro l;rw[e1];exact Al (Si _ _ _ ms l _ _ _ (by simp;omega)) (by nofun)
  have ha2:W I (.loop EM) (CC (B (N<0)) (D R (o (n:Int) 32)) (D U (f (n:Int) 32)) ms false 0) (.exit 0) (CC (B (N<0)) (D R (o (n:Int) 32)) (D U (f (n:Int) 32)) ms (Eh ms ms.length) (ms.length:Int)):=by
   rw[e1,e2];exact ha
  have c1:decide ((D R (o (n:Int) 32))<(ms.length:Int))=false:=by rw[e1];simp;omega
  have u0:AI ([]:List Int):=fun x hx=>by cases hx
  by_cases hneg:N<0
  ·rw[decide_eq_true hneg] at hlb ha2 hb2;have hlost:Eh ms ms.length=true:=by
    cases hq:Eh ms ms.length with
    | true=>rfl
    | false=>have:=hlo.1 hq;omega
   have tl:=Q_ (xs:=[]) (by decide);obtain⟨ws,w1,w2,w3,w4⟩:=Lh (xs:=Y []) (ys:=[1]) u0 (fun x hx=>by
     rcases CH.1 hx with rfl | hx
     ·decide
     ·cases hx) (by decide) (by decide)
   have mk:=DD (neg:=true) w1 w3;have e:rv true ws=N / 2^n:=by
    have h:=We (V:=0) (L := -N) hpn (by omega) (by omega);rw[AG,Db,Int.neg_neg] at h;show -Aa ws=_;rw[w2,h];rfl
   rw[e] at mk;exact nA r.1 true (Eh ms ms.length) r.2 ms [] _ ws (n:Nat) _ _ _ c1 rfl hlost hlb ha2 (hb2 _) tl w4 mk
  ·rw[decide_eq_false hneg] at hlb ha2 hb2;have mk:=DD (neg:=false) u0 (by decide);have e:rv false []=N / 2^n:=by
    rw[DN (by omega) (by omega)];rfl
   rw[e] at mk;exact nB r.1 false (Eh ms ms.length) r.2 ms [] (n:Nat) _ _ _ c1 rfl hlb ha2 (hb2 _) mk
def MQ(rs:List Rn):Bool:=decide (rs.length<=9)&&rs.all fun r=>decide (C9 (O r).natAbs<=100)&&decide (r.2.length<=5)
theorem Ast{rs:List Rn}(hg:∀ r∈rs,u 35184372088832 r):H I 13 [sL pc rs] (.bool (MQ rs)):=by
 by_cases c9:rs.length<=9
 ·have d9:decide ((rs.length:Int)>9)=false:=by rw[decide_eq_false_iff_not];omega
  have hb:∀ t:Nat,H I 51 [Ap (rs.getD t z0)] (.int .i64 ((C9 (O (rs.getD t z0)).natAbs:Nat):Int)):=fun t=>PQ (A' hg t).1 (A' hg t).2;have step:∀ t:Nat,t<rs.length->(!(decide (C9 (O (rs.getD t z0)).natAbs<=100)&&decide ((rs.getD t z0).2.length<=5)))=false->W I Ns (Ig false rs (t:Nat)) .norm (Ig false rs ((t+1:Nat):Int)):=by
   intro t ht hk;simp only[Bool.not_eq_false',Ac,decide_eq_true_eq] at hk;have ei:D R ((t:Int)+1)=((t+1:Nat):Int):=by rw[AW (by omega) (by omega)];omega
   have k:=Azs false rs (t:Nat) ((C9 (O (rs.getD t z0)).natAbs:Nat):Int) (by simp;omega) (by rw[decide_eq_false_iff_not];omega) (by rw[F,decide_eq_false_iff_not];omega) (by omega) (by rw[F];exact hb t);rwa [ei] at k
  rcases H8 (fun j => !(decide (C9 (O (rs.getD j z0)).natAbs<=100)&&decide ((rs.getD j z0).2.length<=5))) rs.length _ 0 (by rw[BR]) with h | ⟨j,_,h2,h3,h4⟩
  ·have e:MQ rs=true:=by
    unfold MQ;rw[decide_eq_true c9,Og,Cb];intro r hr;obtain⟨i,hi,rfl⟩:=Hf.1 hr;have:=h i (by omega) hi;rw[Z,Ae hi] at this;simpa using this
   rw[e];exact fD rs _ d9 (EN (prog:=I) (c:=Ns) (ex := .exit 0) (fun t=>Ig false rs (t:Nat)) rs.length (by nofun) (Azt false rs _ (by simp)) 0 (Bf _) (fun t _ h6=>step t h6 (h t (by omega) h6)))
  ·have e:MQ rs=false:=by
    unfold MQ;rw[decide_eq_true c9,Og,List.all_eq_false];refine⟨rs.getD j z0,?_,?_⟩
    ·rw[Z,Ae h2];exact Dc h2
    ·intro g;rw[g] at h3;cases h3
   rw[e];have out:W I Ns (Ig false rs (j:Nat)) .ret (Ig false rs (j:Nat)):=by
    by_cases c:C9 (O (rs.getD j z0)).natAbs<=100
    ·rw[decide_eq_true c,Og] at h3;simp only[El,decide_eq_false_iff_not] at h3;exact Azr false rs (j:Nat) ((C9 (O (rs.getD j z0)).natAbs:Nat):Int) (by simp;omega) (by rw[decide_eq_false_iff_not];omega) (by rw[F,decide_eq_true_eq];omega) (by omega) (by rw[F];exact hb j)
    ·exact Azq false rs (j:Nat) ((C9 (O (rs.getD j z0)).natAbs:Nat):Int) (by simp;omega) (by rw[decide_eq_true_eq];omega) (by omega) (by rw[F];exact hb j)
   exact fB rs _ d9 (EN (prog:=I) (c:=Ns) (ex := .ret) (fun t=>Ig false rs (t:Nat)) j (by nofun) out 0 (Bf _) (fun t _ h6=>step t (by omega) (h4 t (by omega) h6)))
 ·have e:MQ rs=false:=by unfold MQ;rw[decide_eq_false c9,JX]
  rw[e];exact fA rs (by rw[decide_eq_true_eq];omega)
theorem Asu{rs:List Rn}(hg:∀ r∈rs,u 35184372088832 r)(h:MQ rs=true):(∀ r∈rs,u 5 r)/\rs.length<=9:=by
 unfold MQ at h;simp only[Ac,decide_eq_true_eq,Cb] at h;exact⟨fun r hr=>⟨(hg r hr).1,(h.2 r hr).2⟩,h.1⟩
def stpN(p:List Int)(x:Iv):Nat->Iv
 | 0=>x
 | n+1=>stp p (stpN p x n)
theorem Wf{p:List Int}{C m:Nat}{x:Iv}(h:IvOk C m x):∀ n,C+m+n<3000->IvOk C (m+n) (stpN p x n)
 | 0,_=>h
 | n+1,hc=>Azw (m:=m+n) (Wf h n (by omega)) (by omega)
section
variable {p:List Int} (hp:MO p) {x:Iv} (h:IvOk 128 200 x) {fs:List Rn} {r0:Rn} {e0:Int} {t0:Rn} {f0:Int}
include hp h
end
section
variable {rs:List Rn} (hg:∀ r∈rs,u 5 r) (hn:rs.length<=9)
include hg hn
theorem Sn(r t:Rn)(e f:Int):H I 75 [.agg [sL pc rs,.bool r.1,.sl r.2.length (lm r.2),.int .i64 e,.bool t.1,.sl t.2.length (lm t.2),.int .i64 f]]
  (.agg [.sl ((Af (M rs)).map cn).length (pc ((Af (M rs)).map cn)),.bool r.1,.sl r.2.length (lm r.2),.int .i64 e,.bool t.1,.sl t.2.length (lm t.2),.int .i64 f]):=by
 rcases VR (K:=5) (c:=9) hg hn (Am _) (by decide) with h | h
 ·exact Aay rs r t e f _ h
 ·exact Aax rs r t e f _ h
theorem nW(r t:Rn)(e f:Int):H I 20 [.agg [sL pc rs,.bool r.1,.sl r.2.length (lm r.2),.int .i64 e,.bool t.1,.sl t.2.length (lm t.2),.int .i64 f]]
  (.agg [.sl ((Af (M rs)).map cn).length (pc ((Af (M rs)).map cn)),.bool r.1,.sl r.2.length (lm r.2),.int .i64 e,.bool t.1,.sl t.2.length (lm t.2),.int .i64 f]) :=
 Azp rs r t e f _ (QT (K:=5) (c:=9) hg hn (Am _) (by decide))
end
theorem Wg(x:Int)(a:Nat):CF x a x a=0:=by
 unfold CF Cw;rw[if_neg (by omega),if_neg (by omega)]
end Go.Proofs.YtajompaehjkgkaaGreat
namespace Go.Ai
open Classical renaming byContradiction->AE
open Int renaming add_mul->GH,add_zero->B2,le_of_eq->JN,le_of_lt->Aw,le_of_mul_le_mul_left->EH,le_of_mul_le_mul_right->CJ,le_refl->DL,le_trans->Fy,mul_add->C1,mul_assoc->AB,mul_comm->AD,mul_le_mul->Ei,mul_le_mul_of_nonneg_left->Ah,mul_le_mul_of_nonneg_right->Ad,mul_ne_zero->BK,mul_neg->DY,mul_neg_of_pos_of_neg->LD,mul_nonneg->A1,mul_one->Dp,mul_pos->BE,mul_pow->Qh,mul_sub->HG,natAbs_mul->BA,natAbs_of_nonneg->Ky,natCast_add->J7,natCast_mul->Dj,neg_mul->Qf,not_le->H7,one_mul->CR,pow_add->B4,pow_nonneg->MZ,pow_pos->EX,pow_succ->Ay,pow_zero->Da,zero_add->Db,zero_mul->DF
open List renaming eq_nil_of_length_eq_zero->A3,length_map->N,length_pos_iff->An,length_range->BY,map_congr_left->FV,map_cons->Cz,map_nil->FF,range->Ao
open Nat renaming add_assoc->CO,add_sub_cancel->Ib,le_refl->Am,mul_le_mul->Bx,succ_mul->Kz,zero_add->BR
def hs(c:Nat->Int)(x q:Int):Nat->Int
 | 0=>c 0
 | T+1=>q*hs c x q T+c (T+1)*x^(T+1)
theorem O9{c d:Nat->Int}{x q:Int}:∀ {T:Nat},(∀ i,i<=T->c i=d i)->hs c x q T=hs d x q T
 | 0,h=>h 0 (Am _)
 | T+1,h=>by
  simp only[hs];rw[O9 (T:=T) fun i hi=>h i (by omega),h (T+1) (Am _)]
theorem OA(a b:Int)(c d:Nat->Int)(x q:Int):∀ T:Nat,hs (fun i=>a*c i+b*d i) x q T=a*hs c x q T+b*hs d x q T
 | 0=>rfl
 | T+1=>by
  simp only[hs];rw[OA a b c d x q T];grind
theorem fH{c:Nat->Int}{T:Nat}(h:∀ i,T<i->c i=0)(x q:Int):∀ k:Nat,hs c x q (T+k)=q^k*hs c x q T
 | 0=>by simp
 | k+1=>by
  rw[<- CO];simp only[hs];rw[fH h x q k,h _ (by omega),Ay];grind
theorem OB(c:Nat->Int)(x q:Int):∀ T:Nat,hs c x q (T+1)=c 0*q^(T+1)+x*hs (fun i=>c (i+1)) x q T
 | 0=>by simp only[hs];grind
 | T+1=>by
  have h:=OB c x q T;have e1:hs c x q (T+1+1)=q*hs c x q (T+1)+c (T+1+1)*x^(T+1+1):=rfl;have e2:hs (fun i=>c (i+1)) x q (T+1)=q*hs (fun i=>c (i+1)) x q T+c (T+1+1)*x^(T+1):=rfl;rw[e1,h,e2,Ay q (T+1),Ay x (T+1)];grind
theorem Ach(c:Nat->Int)(x q:Int)(T:Nat):hs (fun i=>if i=0 then 0 else c (i-1)) x q (T+1)=x*hs c x q T:=by
 rw[OB];simp only[if_pos,DF,Db];rw[O9 (d:=c) fun i _=>by rw[if_neg (by omega),Ib]]
def hp(p:List Int)(x q:Int)(T:Nat):Int:=hs (fun i=>p.getD i 0) x q T
theorem Zz:∀ (p:List Int) (x q:Int),hv p x q=hp p x q (p.length-1)
 | [],_,_=>rfl
 | [a],x,q=>by simp[hv,hp,hs]
 | a::b::p,x,q=>by
  have ih:=Zz (b::p) x q;have e:hp (a::b::p) x q ((a::b::p).length-1)=a*q^(b::p).length+x*hp (b::p) x q ((b::p).length-1):=by
   unfold hp;show hs _ x q ((b::p).length-1+1)=_;rw[OB];rfl
  rw[e,<- ih];rfl
theorem Ra{p:List Int}{T:Nat}(h:p.length<=T+1)(x q:Int)(k:Nat):hp p x q (T+k)=q^k*hp p x q T :=
 fH (fun i hi=>Bv (by omega)) x q k
theorem TK(x q:Int):∀ T:Nat,hp [] x q T=0
 | 0=>rfl
 | T+1=>by
  have:=TK x q T;unfold hp at *
  simp only[hs];rw[this];simp
theorem Z0{r:List Int}{tr:Nat}(hr:r.length<=tr+1)(x q:Int):∀ (p:List Int) (tp:Nat),p.length<=tp+1->hp (BL p r) x q (tp+tr)=hp p x q tp*hp r x q tr
 | [],tp,_=>by rw[TK,DF];exact TK x q _
 | a::p,tp,h=>by
  have hc:∀ i,(BL (a::p) r).getD i 0=a*r.getD i 0+1*(if i=0 then 0 else (BL p r).getD (i-1) 0):=by
   intro i;rw[EE,Cu];by_cases h0:i=0
   ·subst h0;rw[if_neg (by omega),if_pos rfl];omega
   ·rw[if_pos (by omega),if_neg h0];omega
  cases tp with
  | zero =>
   have hp0:p=[]:=A3 (by have h':p.length+1<=0+1:=h;omega);subst hp0;have h0:∀ i,(BL [] r).getD i 0=0:=fun i=>rfl;unfold hp;rw[O9 (d:=fun i=>a*r.getD i 0+0*r.getD i 0) fun i _=>by rw[hc,h0];split <;> simp,OA,BR];simp[hs]
  | succ tp =>
   have ih:=Z0 hr x q p tp (by have h':p.length+1<=tp+1+1:=h;omega);have hm:=Ra hr x q (tp+1);have ha:hp (a::p) x q (tp+1)=a*q^(tp+1)+x*hp p x q tp:=by unfold hp;rw[OB];rfl
   have hsh:=Ach (fun i=>(BL p r).getD i 0) x q (tp+tr);have e:hp (BL (a::p) r) x q (tp+1+tr)=a*hp r x q (tp+1+tr)+1*(x*hp (BL p r) x q (tp+tr)):=by
    unfold hp;rw[O9 fun i _=>hc i,OA,show tp+1+tr=tp+tr+1 by omega];rw[hsh]
   rw[e,ih,show tp+1+tr=tr+(tp+1) by omega,hm,ha];grind
theorem Asv{r d e Q:List Int}{c c':Int}(h:∀ x,c*V r x=V Q x*V d x+c'*V e x)(x q:Int){tq td:Nat}(hQ:Q.length<=tq+1)(hd:d.length<=td+1) :
  c*hp r x q (tq+td)=hp Q x q tq*hp d x q td+c'*hp e x q (tq+td):=by
 have hi:=D7 (p:=Ax c r) (q:=DQ (BL Q d) (Ax c' e)) (fun x=>by rw[A0,BW,Bk,A0];exact h x);have hc:∀ i,c*r.getD i 0+0*r.getD i 0=1*(BL Q d).getD i 0+c'*e.getD i 0:=by
  intro i;have:=hi i;rw[AO,CY,AO] at this;omega
 rw[<- Z0 hd x q Q tq hQ];unfold hp;have h1:=OA c 0 (fun i=>r.getD i 0) (fun i=>r.getD i 0) x q (tq+td);have h2:=OA 1 c' (fun i=>(BL Q d).getD i 0) (fun i=>e.getD i 0) x q (tq+td);rw[O9 fun i _=>hc i,h2] at h1;omega
theorem Dz{a b A B:Int}(ha:(a.natAbs:Int)<=A)(hb:(b.natAbs:Int)<=B):((a*b).natAbs:Int)<=A*B:=by
 rw[BA,Dj];exact Ei ha hb (by omega) (by omega)
theorem HD{a b A B:Int}(ha:(a.natAbs:Int)<=A)(hb:(b.natAbs:Int)<=B):((a+b).natAbs:Int)<=A+B:=by omega
theorem KV{a A:Int}(ha:(a.natAbs:Int)<=A):∀ n:Nat,((a^n).natAbs:Int)<=A^n
 | 0=>by simp
 | n+1=>by rw[Ay,Ay];exact Dz (KV ha n) ha
theorem OC(c:Nat->Int)(R:Int)(hR:0<=R):∀ T:Nat,∃ K:Int,0<=K/\∀ q x:Int,0<q->(x.natAbs:Int)<=R*q->((hs c x q T).natAbs:Int)<=K*q^T
 | 0=>⟨((c 0).natAbs:Int),by omega,fun q x _ _=>by simp[hs]⟩
 | T+1=>by
  obtain⟨K,hK,h⟩:=OC c R hR T;refine⟨K+((c (T+1)).natAbs:Int)*R^(T+1),?_,fun q x hq hx => ?_⟩
  ·have:=A1 (show (0:Int)<=((c (T+1)).natAbs:Int) by omega) (MZ (m:=T+1) hR);omega
  ·simp only[hs];have h1:=Dz (a:=q) (A:=q) (by omega) (h q x hq hx);have h2:=Dz (a:=c (T+1)) (A:=((c (T+1)).natAbs:Int)) (by omega) (KV hx (T+1));have h3:=HD h1 h2;have e:(R*q)^(T+1)=R^(T+1)*q^(T+1):=Qh ..;rw[e] at h3;refine Fy h3 (JN ?_);rw[Ay q T];grind
theorem Yi{x A:Int}(hx:(x.natAbs:Int)<=A)(hx1:((x+1).natAbs:Int)<=A):∀ n:Nat,(((x+1)^(n+1)-x^(n+1)).natAbs:Int)<=((n+1:Nat):Int)*A^n
 | 0=>by
  have e:(x+1)^(0+1)-x^(0+1)=1:=by rw[Ay,Da,Ay,Da];omega
  rw[e];simp
 | n+1=>by
  have ih:=Yi hx hx1 n;have e:(x+1)^(n+1+1)-x^(n+1+1)=(x+1)*((x+1)^(n+1)-x^(n+1))+x^(n+1):=by rw[Ay (x+1) (n+1),Ay x (n+1)];grind
  rw[e];have h:=HD (Dz hx1 ih) (KV hx (n+1));refine Fy h (JN ?_);rw[Ay A n,J7,J7,J7];grind
theorem rF(c:Nat->Int)(R:Int)(hR:0<=R):∀ T:Nat,∃ K:Int,0<=K/\∀ q x:Int,0<q->(x.natAbs:Int)<=R*q->((x+1).natAbs:Int)<=R*q->((hs c (x+1) q (T+1)-hs c x q (T+1)).natAbs:Int)<=K*q^T
 | 0=>⟨((c 1).natAbs:Int),by omega,fun q x _ _ _=>by
   simp only[hs];have:q*c 0+c (0+1)*(x+1)^(0+1)-(q*c 0+c (0+1)*x^(0+1))=c 1:=by simp;grind
   rw[this];simp⟩
 | T+1=>by
  obtain⟨K,hK,h⟩:=rF c R hR T;refine⟨K+((c (T+2)).natAbs:Int)*(((T+1+1:Nat):Int)*R^(T+1)),?_,fun q x hq hx hx1 => ?_⟩
  ·have:=A1 (show (0:Int)<=((c (T+2)).natAbs:Int) by omega) (A1 (show (0:Int)<=((T+1+1:Nat):Int) by omega) (MZ (m:=T+1) hR));omega
  ·have e:hs c (x+1) q (T+1+1)-hs c x q (T+1+1)=q*(hs c (x+1) q (T+1)-hs c x q (T+1))+c (T+2)*((x+1)^(T+1+1)-x^(T+1+1)):=by
    show (q*hs c (x+1) q (T+1)+c (T+1+1)*(x+1)^(T+1+1))-(q*hs c x q (T+1)+c (T+1+1)*x^(T+1+1))=_;grind
   rw[e];have h1:=Dz (a:=q) (A:=q) (by omega) (h q x hq hx hx1);have h2:=Dz (a:=c (T+2)) (A:=((c (T+2)).natAbs:Int)) (by omega) (Yi hx hx1 (T+1));have h3:=HD h1 h2;have e2:(R*q)^(T+1)=R^(T+1)*q^(T+1):=Qh ..;rw[e2] at h3;refine Fy h3 (JN ?_);rw[Ay q T];grind
theorem fI{x A:Int}(hA:0<=A)(hx:(x.natAbs:Int)<=A)(hx1:((x+1).natAbs:Int)<=A):∀ n:Nat,(((x+1)^(n+2)-x^(n+2)-((n+2:Nat):Int)*x^(n+1)).natAbs:Int)<=(((n+1)*(n+2):Nat):Int)*A^n
 | 0=>by
  have e:(x+1)^(0+2)-x^(0+2)-((0+2:Nat):Int)*x^(0+1)=1:=by
   rw[show (x+1)^(0+2)=(x+1)*(x+1) by rw[Ay,Ay,Da,CR],show x^(0+2)=x*x by rw[Ay,Ay,Da,CR],show x^(0+1)=x by rw[Ay,Da,CR]];grind
  rw[e];simp
 | n+1=>by
  have ih:=fI hA hx hx1 n;have e:(x+1)^(n+1+2)-x^(n+1+2)-((n+1+2:Nat):Int)*x^(n+1+1)=(x+1)*((x+1)^(n+2)-x^(n+2)-((n+2:Nat):Int)*x^(n+1))+((n+2:Nat):Int)*x^(n+1):=by
   rw[show n+1+2=n+2+1 by omega,Ay (x+1) (n+2),Ay x (n+2),show n+1+1=n+2 by omega,show x^(n+2)=x^(n+1)*x from Ay ..];have:((n+2+1:Nat):Int)=((n+2:Nat):Int)+1:=by omega
   rw[this];grind
  rw[e];have h:=HD (Dz hx1 ih) (Dz (a:=((n+2:Nat):Int)) (A:=((n+2:Nat):Int)) (by omega) (KV hx (n+1)));refine Fy h ?_;rw[show A^(n+1)=A^n*A from Ay ..];have hAn:0<=A^n*A:=A1 (MZ hA) hA;have e2:A*((((n+1)*(n+2):Nat):Int)*A^n)+((n+2:Nat):Int)*(A^n*A)=((((n+1)*(n+2)+(n+2):Nat)):Int)*(A^n*A):=by
   rw[J7];grind
  rw[e2];apply Ad _ hAn;have:(n+1)*(n+2)+(n+2)<=(n+1+1)*(n+1+2):=by
   have:(n+1)*(n+2)+(n+2)=(n+2)*(n+2):=by rw[<- Kz]
   rw[this];exact Bx (by omega) (by omega)
  omega
def To(c:Nat->Int)(i:Nat):Int:=((i+1:Nat):Int)*c (i+1)
theorem rG(c:Nat->Int)(R:Int)(hR:0<=R):∀ T:Nat,∃ K:Int,0<=K/\∀ q x:Int,0<q->(x.natAbs:Int)<=R*q->((x+1).natAbs:Int)<=R*q ->
  ((hs c (x+1) q (T+2)-hs c x q (T+2)-hs (To c) x q (T+1)).natAbs:Int)<=K*q^T
 | 0=>⟨((c 2).natAbs:Int),by omega,fun q x _ _ _=>by
   have e:hs c (x+1) q (0+2)-hs c x q (0+2)-hs (To c) x q (0+1)=c 2:=by
    have p1:∀ y:Int,y^(0+1)=y:=fun y=>by rw[Ay,Da,CR]
    have p2:∀ y:Int,y^(0+1+1)=y*y:=fun y=>by rw[Ay,p1]
    show (q*(q*c 0+c (0+1)*(x+1)^(0+1))+c (0+1+1)*(x+1)^(0+1+1))-(q*(q*c 0+c (0+1)*x^(0+1))+c (0+1+1)*x^(0+1+1))-(q*(((0+1:Nat):Int)*c (0+1))+((0+1+1:Nat):Int)*c (0+1+1)*x^(0+1))=_;rw[p1,p1,p2,p2];have h1:((0+1:Nat):Int)=1:=rfl;have h2:((0+1+1:Nat):Int)=2:=rfl;rw[h1,h2];grind
   rw[e];simp⟩
 | T+1=>by
  obtain⟨K,hK,h⟩:=rG c R hR T;refine⟨K+((c (T+3)).natAbs:Int)*((((T+2)*(T+3):Nat):Int)*R^(T+1)),?_,fun q x hq hx hx1 => ?_⟩
  ·have:=A1 (show (0:Int)<=((c (T+3)).natAbs:Int) by omega) (A1 (show (0:Int)<=(((T+2)*(T+3):Nat):Int) by omega) (MZ (m:=T+1) hR));omega
  ·have e:hs c (x+1) q (T+1+2)-hs c x q (T+1+2)-hs (To c) x q (T+1+1)=q*(hs c (x+1) q (T+2)-hs c x q (T+2)-hs (To c) x q (T+1))+c (T+3)*((x+1)^(T+1+2)-x^(T+1+2)-((T+1+2:Nat):Int)*x^(T+1+1)):=by
    show (q*hs c (x+1) q (T+2)+c (T+3)*(x+1)^(T+1+2))-(q*hs c x q (T+2)+c (T+3)*x^(T+1+2))-(q*hs (To c) x q (T+1)+((T+1+1+1:Nat):Int)*c (T+3)*x^(T+1+1))=_;have:((T+1+1+1:Nat):Int)=((T+1+2:Nat):Int):=rfl;rw[this];grind
   rw[e];have hRq:0<=R*q:=A1 hR (by omega);have h1:=Dz (a:=q) (A:=q) (by omega) (h q x hq hx hx1);have h2:=Dz (a:=c (T+3)) (A:=((c (T+3)).natAbs:Int)) (by omega) (fI hRq hx hx1 (T+1));have h3:=HD h1 h2;have e2:(R*q)^(T+1)=R^(T+1)*q^(T+1):=Qh ..;rw[e2] at h3;refine Fy h3 (JN ?_);rw[Ay q T];grind
def wv(last:Int):List Int->Int
 | []=>0
 | s::ss=>if s=0 then wv last ss else (if last ≠ 0/\s ≠ last then 1 else 0)+wv s ss
inductive Mid:Int->List Int->List Int->Prop
 | nil (σ:Int):Mid σ [] []
 | st (σ s:Int) {ss tt:List Int}:(s=1\/s = -1)->Mid s ss tt->Mid σ (s::ss) (s::tt)
 | un (σ a b:Int) {ss tt:List Int}:(-1<=a/\a<=1)->(-1<=b/\b<=1)->Mid (-σ) ss tt->Mid σ (a :: -σ::ss) (b :: -σ::tt)
theorem fJ{σ a:Int}(hσ:σ=1\/σ = -1)(ha : -1<=a/\a<=1)(ss:List Int):wv σ (a :: -σ::ss)=1+wv (-σ) ss:=by
 simp only[wv];rcases hσ with rfl | rfl
 ·rcases show a = -1\/a=0\/a=1 by omega with rfl | rfl | rfl <;> simp
 ·rcases show a = -1\/a=0\/a=1 by omega with rfl | rfl | rfl <;> simp
theorem rH{σ:Int}{s t:List Int}(h:Mid σ s t):(σ=1\/σ = -1)->wv σ s=wv σ t:=by
 induction h with
 | nil σ=>intro _;rfl
 | st σ s hs _ ih =>
  intro _;have h0:s ≠ 0:=by omega
  simp only[wv,if_neg h0];rw[ih hs]
 | un σ a b ha hb _ ih =>
  intro hσ;rw[fJ hσ ha,fJ hσ hb,ih (by omega)]
inductive Top:List Int->List Int->Int->Prop
 | st (s:Int) {ss tt:List Int}:(s=1\/s = -1)->Mid s ss tt->Top (s::ss) (s::tt) 0
 | un (σ a b:Int) {ss tt:List Int}:(σ=1\/σ = -1)->(a = -σ\/a=0)->(b=0\/b=σ)->Mid σ ss tt->Top (a::σ::ss) (b::σ::tt) (if a=0 then 0 else 1)
theorem rI{s t:List Int}{d:Int}(h:Top s t d):wv 0 s=wv 0 t+d:=by
 cases h with
 | st s hs hm =>
  have h0:s ≠ 0:=by omega
  simp only[wv,if_neg h0];rw[rH hm hs];omega
 | un σ a b hσ ha hb hm =>
  have e:=rH hm hσ;simp only[wv];rcases hσ with rfl | rfl
  ·rcases ha with rfl | rfl <;> rcases hb with rfl | rfl <;> simp <;> omega
  ·rcases ha with rfl | rfl <;> rcases hb with rfl | rfl <;> simp <;> omega
theorem fK(p:List Int)(x:Int):V p x=(AL p:Int)*V (prim p) x:=by
 rw[<- A0];exact Gd (fun i=>by rw[AO,O3]) x
theorem Km(k:Nat)(p:List Int):(Di k p).length=k+p.length:=by
 unfold Di;simp
theorem nX{r d:List Int}(hd:BU d)(hd0:d ≠ [])(hl:d.length<=r.length):∃ (c c':Int) (Q:List Int),0<c/\0<c'/\∀ x,c*V r x=V Q x*V d x+c'*V (D2 r d) x:=by
 have ht:w d ≠ 0:=E8 hd hd0;have he:=PI hl ((w d).natAbs:Int) (sg (w d)*w r);have hp:∀ x,V (C5 r d ((w d).natAbs:Int) (sg (w d)*w r) r.length) x=(AL (C5 r d ((w d).natAbs:Int) (sg (w d)*w r) r.length):Int)*V (D2 r d) x:=fun x=>fK _ x;by_cases h0:AL (C5 r d ((w d).natAbs:Int) (sg (w d)*w r) r.length)=0
 ·have hz:D2 r d=[]:=DX.2 (Iw.1 h0);refine⟨((w d).natAbs:Int),1,Di (r.length-d.length) [sg (w d)*w r],by omega,by decide,fun x => ?_⟩;have h1:=he x;have h2:=hp x;rw[h0] at h2;rw[DJ,hz];simp only[V];have h3:(((0:Nat):Int))*V (D2 r d) x=0:=by simp
  rw[h3] at h2;rw[h2] at h1;grind
 ·refine⟨((w d).natAbs:Int),(AL (C5 r d ((w d).natAbs:Int) (sg (w d)*w r) r.length):Int),Di (r.length-d.length) [sg (w d)*w r],by omega,by omega,fun x => ?_⟩;have h1:=he x;have h2:=hp x;rw[DJ];simp only[V];rw[<- h2,h1];grind
theorem Wh{d:List Int}(hd:BU d)(hd0:d ≠ []):∀ (f:Nat) (r:List Int),∃ (c c':Int) (Q:List Int),0<c/\0<c'/\∀ x,c*V r x=V Q x*V d x+c'*V (DT f r d) x
 | 0,r=>⟨1,1,[],by decide,by decide,fun x=>by simp[V,DT]⟩
 | f+1,r=>by
  simp only[DT];split
  ·rename_i hl;obtain⟨c,c',Q,h1,h2,h3⟩:=nX hd hd0 hl;obtain⟨e,e',S,g1,g2,g3⟩:=Wh hd hd0 f (D2 r d);refine⟨e*c,c'*e',DQ (Ax e Q) (Ax c' S),BE g1 h1,BE h2 g2,fun x => ?_⟩;have a:=h3 x;have b:=g3 x;rw[BW,A0,A0,AB e c,a,C1,AD e (c'*_),AB c',AD _ e,b];grind
  ·exact⟨1,1,[],by decide,by decide,fun x=>by simp[V]⟩
theorem Wi{a b:List Int}(hb:BU b)(hb0:b ≠ []):∃ (c c':Int) (Q:List Int),0<c/\0<c'/\∀ x,c*V a x=V Q x*V b x+(-c')*V (BV (Bz a b)) x:=by
 obtain⟨c,c',Q,h1,h2,h3⟩:=Wh hb hb0 a.length a;refine⟨c,c',Q,h1,h2,fun x => ?_⟩;rw[h3 x,IS];unfold Bz;grind
theorem PT{a b:List Int}(hb:BU b)(hb0:b ≠ [])(h:GO [1] a b):GO [1] b (BV (Bz a b)):=by
 obtain⟨c,c',Q,h1,h2,h3⟩:=Wi (a:=a) hb hb0;have h4:GO [1] (BV (Bz a b)) b:=GO.step (r:=BV (Bz a b)) (d:=b) (e:=a) (q:=Q) (a:=c') (m := -c) (by omega) (by omega) (fun x=>by
  have:=h3 x;grind) h.comm
 exact h4.comm
def Hh(p:List Int)(x q:Int):Int:=hp p x q (p.length-1)
def Lp(p:List Int)(x q:Int):Prop:=(0<Hh p x q/\0<Hh p (x+1) q)\/(Hh p x q<0/\Hh p (x+1) q<0)
def Z1(R q x:Int):Prop:=0<q/\(x.natAbs:Int)<=R*q/\((x+1).natAbs:Int)<=R*q
theorem Gt{q:Int}(h:0<q)(n:Nat):0<q^n:=EX h
theorem small(p:List Int)(R:Int)(hR:0<=R):∃ K:Int,0<=K/\∀ q x:Int,Z1 R q x->¬ Lp p x q->((Hh p x q).natAbs:Int)*q<=K*q^(p.length-1)/\((Hh p (x+1) q).natAbs:Int)*q<=K*q^(p.length-1):=by
 cases hn:p.length-1 with
 | zero =>
  refine⟨0,DL _,fun q x _ hst => ?_⟩;have e:∀ y,Hh p y q=p.getD 0 0:=fun y=>by unfold Hh hp;rw[hn];rfl
  unfold Lp at hst;rw[e,e] at hst |-;have:p.getD 0 0=0:=by omega
  rw[this];simp
 | succ T =>
  obtain⟨K,hK,h⟩:=rF (fun i=>p.getD i 0) R hR T;refine⟨K,hK,fun q x hr hst => ?_⟩;have h1:=h q x hr.1 hr.2.1 hr.2.2;have e:∀ y,Hh p y q=hs (fun i=>p.getD i 0) y q (T+1):=fun y=>by unfold Hh hp;rw[hn]
  unfold Lp at hst;rw[e,e] at hst;rw[e,e];generalize hs (fun i=>p.getD i 0) x q (T+1)=a at *
  generalize hs (fun i=>p.getD i 0) (x+1) q (T+1)=b at *
  have ha:(a.natAbs:Int)<=((b-a).natAbs:Int):=by omega
  have hb:(b.natAbs:Int)<=((b-a).natAbs:Int):=by omega
  have hq:=hr.1;rw[Ay,<- AB];exact⟨Ad (Fy ha h1) (by omega),Ad (Fy hb h1) (by omega)⟩
theorem A0k(x q:Int)(T:Nat):hp [1] x q T=q^T:=by
 have:=Ra (p:=[1]) (T:=0) (by simp) x q T;rw[BR] at this;rw[this];show q^T*1=_;omega
theorem So{f g:List Int}(R:Int)(hR:0<=R)(h:GO [1] f g):∃ L Q0:Int,0<L/\0<Q0/\∀ q x:Int,Z1 R q x->Q0<=q->¬ Lp f x q->q^(g.length-1)<=L*((Hh g x q).natAbs:Int):=by
 obtain⟨_,_,c,u,v,hc,hid⟩:=h;obtain⟨K,hK,hsm⟩:=small f R hR;obtain⟨Ku,hKu,hu⟩:=OC (fun i=>u.getD i 0) R hR (max u.length v.length+(g.length-1));obtain⟨Kv,hKv,hv⟩:=OC (fun i=>v.getD i 0) R hR (max u.length v.length+(f.length-1));refine⟨2*Kv+1,2*(Ku*K)+1,by omega,by have:=A1 hKu hK;omega,fun q x hr hq hst => ?_⟩;obtain⟨hq0,hx,hx1⟩:=hr;have h1:=(hsm q x ⟨hq0,hx,hx1⟩ hst).1;have h2:=hu q x hq0 hx;have h3:=hv q x hq0 hx;have e1:=Asv (r:=[1]) (d:=f) (e:=BL v g) (Q:=u) (c:=c) (c':=1) (fun y=>by rw[Bk,hid y];omega) x q (tq:=max u.length v.length+(g.length-1)) (td:=f.length-1) (by omega) (by omega);have e2:=Z0 (r:=g) (tr:=g.length-1) (by omega) x q v (max u.length v.length+(f.length-1)) (by omega);have eT:max u.length v.length+(f.length-1)+(g.length-1)=max u.length v.length+(g.length-1)+(f.length-1):=by omega
 rw[eT] at e2;rw[e2,A0k,CR] at e1;change c*q^(max u.length v.length+(g.length-1)+(f.length-1))=hs (fun i=>u.getD i 0) x q (max u.length v.length+(g.length-1))*Hh f x q+hs (fun i=>v.getD i 0) x q (max u.length v.length+(f.length-1))*Hh g x q at e1;have ep:q^(max u.length v.length+(g.length-1)+(f.length-1))=q^(max u.length v.length+(f.length-1))*q^(g.length-1):=by rw[<- B4,<- eT]
 have ep2:q^(max u.length v.length+(g.length-1))*q^(f.length-1)=q^(max u.length v.length+(f.length-1))*q^(g.length-1):=by rw[<- B4,<- ep]
 have pa:=Gt hq0 (max u.length v.length+(f.length-1));have pb:=Gt hq0 (max u.length v.length+(g.length-1));have pm:=Gt hq0 (g.length-1);have pn:=Gt hq0 (f.length-1);rw[ep] at e1;generalize hs (fun i=>u.getD i 0) x q (max u.length v.length+(g.length-1))=U at *
 generalize hs (fun i=>v.getD i 0) x q (max u.length v.length+(f.length-1))=V at *
 generalize q^(max u.length v.length+(f.length-1))=A at *
 generalize q^(max u.length v.length+(g.length-1))=B at *
 generalize q^(g.length-1)=M at *
 generalize q^(f.length-1)=N at *
 generalize Hh f x q=F at *
 generalize Hh g x q=G at *
 have n1:((c*(A*M)).natAbs:Int)<=(U.natAbs:Int)*(F.natAbs:Int)+(V.natAbs:Int)*(G.natAbs:Int):=by
  rw[e1];exact HD (Dz (DL _) (DL _)) (Dz (DL _) (DL _))
 have n2:A*M<=((c*(A*M)).natAbs:Int):=by
  rw[BA,Dj];have hAM:=BE pa pm;have:((A*M).natAbs:Int)=A*M:=Ky (by omega);rw[this];have:=Ad (show (1:Int)<=(c.natAbs:Int) by omega) (show 0<=A*M by omega);omega
 have n3:(U.natAbs:Int)*(F.natAbs:Int)*q<=A*(Ku*K*M):=by
  have h5:(U.natAbs:Int)*((F.natAbs:Int)*q)<=Ku*B*(K*N):=Ei h2 h1 (A1 (by omega) (by omega)) (A1 hKu (by omega));have e5:Ku*B*(K*N)=A*(Ku*K*M):=by
   have:Ku*B*(K*N)=Ku*K*(B*N):=by grind
   rw[this,ep2];grind
  rw[AB];omega
 have n4:(V.natAbs:Int)*(G.natAbs:Int)*q<=A*(Kv*((G.natAbs:Int)*q)):=by
  have h5:=Ad h3 (A1 (show (0:Int)<=(G.natAbs:Int) by omega) (show 0<=q by omega));rw[AB];refine Fy h5 (JN ?_);grind
 have n5:A*(M*q)<=A*(Ku*K*M+Kv*((G.natAbs:Int)*q)):=by
  have h6:=Ad (Fy n2 n1) (show 0<=q by omega);rw[GH] at h6;rw[C1];have:A*M*q=A*(M*q):=AB ..;omega
 have n6:=EH n5 pa;have n7:2*(Ku*K*M)<=M*q:=by
  have h7:=Ah (show 2*(Ku*K)<=q by omega) (show 0<=M by omega);have:M*(2*(Ku*K))=2*(Ku*K*M):=by grind
  omega
 have n8:M*q<=2*Kv*(G.natAbs:Int)*q:=by
  have:2*Kv*(G.natAbs:Int)*q=2*(Kv*((G.natAbs:Int)*q)):=by grind
  omega
 have n9:M<=2*Kv*(G.natAbs:Int):=CJ n8 hq0;have:(2*Kv+1)*(G.natAbs:Int)=2*Kv*(G.natAbs:Int)+(G.natAbs:Int):=by rw[GH,CR]
 omega
theorem Asw(g:List Int)(R L:Int)(hR:0<=R)(hL:0<L):∃ Q0:Int,0<Q0/\∀ q x:Int,Z1 R q x->Q0<=q->q^(g.length-1)<=L*((Hh g x q).natAbs:Int)->Lp g x q:=by
 obtain⟨K,hK,hsm⟩:=small g R hR;refine⟨L*K+1,by have:=A1 (show 0<=L by omega) hK;omega,fun q x hr hq hf => ?_⟩;apply AE;intro hst;have h1:=(hsm q x hr hst).1;have hq0:=hr.1;have pm:=Gt hq0 (g.length-1);generalize q^(g.length-1)=M at *
 generalize ((Hh g x q).natAbs:Int)=G at *
 have h2:=Ad hf (show 0<=q by omega);have h3:=Ah h1 (show 0<=L by omega);have e1:L*(G*q)=L*G*q:=by grind
 have e2:L*(K*M)=M*(L*K):=by grind
 have h4:M*q<=M*(L*K):=by omega
 have h5:=EH h4 pm;omega
theorem Sp{f g:List Int}(R:Int)(hR:0<=R)(h:GO [1] f g):∃ L Q0:Int,0<L/\0<Q0/\∀ q x:Int,Z1 R q x->Q0<=q->¬ Lp f x q->Lp g x q/\q^(g.length-1)<=L*((Hh g x q).natAbs:Int):=by
 obtain⟨L,Q1,hL,hQ1,h1⟩:=So R hR h;obtain⟨Q2,hQ2,h2⟩:=Asw g R L hR hL;refine⟨L,Q1+Q2,hL,by omega,fun q x hr hq hst => ?_⟩;have h3:=h1 q x hr (by omega) hst;exact⟨h2 q x hr (by omega) h3,h3⟩
theorem Aci{a b e Q:List Int}{c c':Int}(R:Int)(hR:0<=R)(hc:0<c)(hc':0<c')(hid:∀ x,c*V a x=V Q x*V b x+(-c')*V e x)(h:GO [1] b e) :
  ∃ Q0:Int,0<Q0/\∀ q x:Int,Z1 R q x->Q0<=q->¬ Lp b x q->(0<Hh e x q->Hh a x q<0)/\(Hh e x q<0->0<Hh a x q):=by
 obtain⟨K,hK,hsm⟩:=small b R hR;obtain⟨L,Q1,hL,hQ1,hf⟩:=So R hR h;obtain⟨KQ,hKQ,hq⟩:=OC (fun i=>Q.getD i 0) R hR (Q.length+a.length+e.length);have hLK:=A1 (show 0<=L by omega) (A1 hKQ hK);refine⟨Q1+L*(KQ*K)+1,by omega,fun q x hr hqq hst => ?_⟩;have h1:=(hsm q x hr hst).1;have h2:=hf q x hr (by omega) hst;have hq0:=hr.1;have h3:=hq q x hq0 hr.2.1;have e1:=Asv hid x q (tq:=Q.length+a.length+e.length) (td:=b.length-1) (by omega) (by omega);have ea:=Ra (p:=a) (T:=a.length-1) (by omega) x q (Q.length+a.length+e.length+(b.length-1)-(a.length-1));have ee:=Ra (p:=e) (T:=e.length-1) (by omega) x q (Q.length+a.length+e.length+(b.length-1)-(e.length-1));rw[show a.length-1+(Q.length+a.length+e.length+(b.length-1)-(a.length-1))=Q.length+a.length+e.length+(b.length-1) by omega] at ea;rw[show e.length-1+(Q.length+a.length+e.length+(b.length-1)-(e.length-1))=Q.length+a.length+e.length+(b.length-1) by omega] at ee;rw[ea,ee] at e1;change c*(q^_*Hh a x q)=hs (fun i=>Q.getD i 0) x q (Q.length+a.length+e.length)*Hh b x q+(-c')*(q^_*Hh e x q) at e1;have pA:=Gt hq0 (Q.length+a.length+e.length+(b.length-1)-(a.length-1));have pE:=Gt hq0 (Q.length+a.length+e.length+(b.length-1)-(e.length-1));have pT:=Gt hq0 (Q.length+a.length+e.length);have pB:=Gt hq0 (b.length-1);have eP:q^(Q.length+a.length+e.length+(b.length-1)-(e.length-1))*q^(e.length-1)=q^(Q.length+a.length+e.length)*q^(b.length-1):=by
  rw[<- B4,<- B4];congr 1;omega
 generalize q^(Q.length+a.length+e.length+(b.length-1)-(a.length-1))=A at *
 generalize q^(Q.length+a.length+e.length+(b.length-1)-(e.length-1))=E at *
 generalize q^(Q.length+a.length+e.length)=T at *
 generalize q^(b.length-1)=B at *
 generalize q^(e.length-1)=M at *
 generalize hs (fun i=>Q.getD i 0) x q (Q.length+a.length+e.length)=U at *
 generalize Hh a x q=Ha at *
 generalize Hh b x q=Hb at *
 generalize Hh e x q=He at *
 have pP:=BE pT pB;have n1:((U*Hb).natAbs:Int)*q<=KQ*K*(T*B):=by
  have h5:(U.natAbs:Int)*((Hb.natAbs:Int)*q)<=KQ*T*(K*B):=Ei h3 h1 (A1 (by omega) (by omega)) (A1 hKQ (by omega));have e5:((U*Hb).natAbs:Int)*q=(U.natAbs:Int)*((Hb.natAbs:Int)*q):=by rw[BA,Dj];grind
  have e6:KQ*T*(K*B)=KQ*K*(T*B):=by grind
  omega
 have n2:T*B<=L*(E*(He.natAbs:Int)):=by
  have h6:=Ah h2 (show 0<=E by omega);have e7:E*(L*(He.natAbs:Int))=L*(E*(He.natAbs:Int)):=by grind
  omega
 have n3:((U*Hb).natAbs:Int)<E*(He.natAbs:Int):=by
  apply H7.1;intro hle;have h7:=Ad (Ah hle (show 0<=L by omega)) (show 0<=q by omega);have h8:=Ad n2 (show 0<=q by omega);have h9:=Ah n1 (show 0<=L by omega);have e8:L*((U*Hb).natAbs:Int)*q=L*(((U*Hb).natAbs:Int)*q):=AB ..;have e9:L*(KQ*K*(T*B))=T*B*(L*(KQ*K)):=by grind
  have h10:T*B*q<=T*B*(L*(KQ*K)):=by omega
  have h11:=EH h10 pP;omega
 have n4:E*(He.natAbs:Int)<=c'*(E*(He.natAbs:Int)):=by
  have:=Ad (show (1:Int)<=c' by omega) (A1 (show 0<=E by omega) (show (0:Int)<=(He.natAbs:Int) by omega));omega
 generalize U*Hb=W at *
 refine⟨fun hp => ?_,fun hn => ?_⟩
 ·have e10:(He.natAbs:Int)=He:=by omega
  rw[e10] at n3 n4;apply H7.1;intro hge;have h12:=A1 (show 0<=c by omega) (A1 (show 0<=A by omega) hge);rw[e1,Qf] at h12;omega
 ·have e10:(He.natAbs:Int) = -He:=by omega
  rw[e10,DY] at n3;rw[e10,DY,DY] at n4;apply H7.1;intro hle;have h12:=A1 (show 0<=c by omega) (A1 (show 0<=A by omega) (show 0 <= -Ha by omega));rw[DY,DY,e1,Qf] at h12;omega
theorem fL(f:List Int)(x q:Int)(m:Nat):hs (To fun i=>f.getD i 0) x q m=(AL (As f):Int)*hs (fun i=>(prim (As f)).getD i 0) x q m:=by
 have h:=OA (AL (As f):Int) 0 (fun i=>(prim (As f)).getD i 0) (fun i=>(prim (As f)).getD i 0) x q m;rw[DF,B2] at h;rw[<- h];apply O9;intro i _;have h1:=O3 (As f) i;have h2:=Dx f i;unfold To;rw[h1,h2];grind
theorem Tp{f:List Int}(R:Int)(hR:0<=R)(hl:2<=f.length)(hl1:(prim (As f)).length=f.length-1)(h:GO [1] f (prim (As f)))(hc:0<AL (As f)) :
  ∃ Q0:Int,0<Q0/\∀ q x:Int,Z1 R q x->Q0<=q->¬ Lp f x q->(0<Hh (prim (As f)) x q->Hh f x q<Hh f (x+1) q)/\(Hh (prim (As f)) x q<0->Hh f (x+1) q<Hh f x q):=by
 obtain⟨L,Q1,hL,hQ1,hf⟩:=So R hR h;cases hm:f.length-2 with
 | zero =>
  refine⟨Q1,hQ1,fun q x hr hq hst => ?_⟩;have hd:=fL f x q 0;have e1:∀ y,Hh f y q=hs (fun i=>f.getD i 0) y q 1:=fun y=>by unfold Hh hp;rw[show f.length-1=1 by omega]
  have e2:Hh (prim (As f)) x q=hs (fun i=>(prim (As f)).getD i 0) x q 0:=by unfold Hh hp;rw[hl1,show f.length-1-1=0 by omega]
  have e3:hs (fun i=>f.getD i 0) (x+1) q 1-hs (fun i=>f.getD i 0) x q 1=hs (To fun i=>f.getD i 0) x q 0:=by
   show (q*f.getD 0 0+f.getD (0+1) 0*(x+1)^(0+1))-(q*f.getD 0 0+f.getD (0+1) 0*x^(0+1))=((0+1:Nat):Int)*f.getD (0+1) 0;have p1:∀ y:Int,y^(0+1)=y:=fun y=>by rw[Ay,Da,CR]
   rw[p1,p1];have h1:((0+1:Nat):Int)=1:=rfl;rw[h1];grind
  rw[e1,e1,e2];rw[hd] at e3;generalize hs (fun i=>(prim (As f)).getD i 0) x q 0=D at *
  refine⟨fun hp => ?_,fun hn => ?_⟩
  ·have:=BE (show (0:Int)<(AL (As f):Int) by omega) hp;omega
  ·have:=BE (show (0:Int)<(AL (As f):Int) by omega) (show 0 < -D by omega);rw[DY] at this;omega
 | succ T =>
  obtain⟨K,hK,hder⟩:=rG (fun i=>f.getD i 0) R hR T;have hLK:=A1 (show 0<=L by omega) hK;refine⟨Q1+L*K+1,by omega,fun q x hr hq hst => ?_⟩;have hq0:=hr.1;have h2:=hf q x hr (by omega) hst;have h3:=hder q x hq0 hr.2.1 hr.2.2;have hd:=fL f x q (T+1);have e1:∀ y,Hh f y q=hs (fun i=>f.getD i 0) y q (T+2):=fun y=>by unfold Hh hp;rw[show f.length-1=T+2 by omega]
  have e2:Hh (prim (As f)) x q=hs (fun i=>(prim (As f)).getD i 0) x q (T+1):=by unfold Hh hp;rw[hl1,show f.length-1-1=T+1 by omega]
  rw[hl1,show f.length-1-1=T+1 by omega,Ay,e2] at h2;rw[e1,e1,e2];rw[hd] at h3;have pT:=Gt hq0 T;generalize q^T=M at *
  generalize hs (fun i=>f.getD i 0) (x+1) q (T+2)=b at *
  generalize hs (fun i=>f.getD i 0) x q (T+2)=a at *
  generalize hs (fun i=>(prim (As f)).getD i 0) x q (T+1)=D at *
  have n1:K*M<(D.natAbs:Int):=by
   apply H7.1;intro hle;have h5:=Ah hle (show 0<=L by omega);have e5:L*(K*M)=M*(L*K):=by grind
   have h6:M*q<=M*(L*K):=by omega
   have:=EH h6 pT;omega
  have n2:=Ad (show (1:Int)<=(AL (As f):Int) by omega) (show (0:Int)<=(D.natAbs:Int) by omega);refine⟨fun hp => ?_,fun hn => ?_⟩
  ·have e6:(D.natAbs:Int)=D:=by omega
   rw[e6] at n1 n2;omega
  ·have e6:(D.natAbs:Int) = -D:=by omega
   rw[e6,CR,DY] at n2;omega
def CB(n:Int):Int:=if n<0 then -1 else if 0<n then 1 else 0
theorem Z2(n:Int) : -1<=CB n/\CB n<=1:=by unfold CB; (repeat' split) <;> omega
def H4:Nat->List Int->List Int->List (List Int)
 | 0,_,_=>[]
 | f+1,a,b=>if b=[] then [] else b::H4 f b (BV (Bz a b))
def D9(l:List (List Int))(x q:Int):List Int:=l.map fun p=>CB (Hh p x q)
theorem Kn{p:List Int}{x q:Int}(h:Lp p x q):CB (Hh p (x+1) q)=CB (Hh p x q)/\(CB (Hh p x q)=1\/CB (Hh p x q) = -1):=by
 unfold Lp at h;unfold CB;rcases h with ⟨h1,h2⟩ | ⟨h1,h2⟩
 ·rw[if_neg (by omega),if_pos h2,if_neg (by omega),if_pos h1];exact⟨rfl,.inl rfl⟩
 ·rw[if_pos h2,if_pos h1];exact⟨rfl,.inr rfl⟩
theorem A0l(x q:Int):Hh [] x q=0:=TK x q _
theorem NZ{a b:List Int}(ha:BU a):BU (Bz a b):=by
 unfold Bz;generalize a.length=f;induction f generalizing a with
 | zero=>exact ha
 | succ f ih =>
  simp only[DT];split
  ·exact ih (Ta a b)
  ·exact ha
theorem Acj{d:List Int}(hd0:d ≠ []):∀ (f:Nat) (r:List Int),r.length<=f->(DT f r d).length<d.length:=by
 have hdl:=An.2 hd0;intro f;induction f with
 | zero=>intro r h;simp only[DT];omega
 | succ f ih =>
  intro r h;simp only[DT];split
  ·rename_i hl;have:=ID hd0 hl;exact ih _ (by omega)
  ·omega
theorem Sq{a b:List Int}(hb0:b ≠ []):(Bz a b).length<b.length:=Acj hb0 _ _ (Am _)
theorem fM(R:Int)(hR:0<=R):∀ (n f:Nat),f<=n->∀ (a b:List Int),b.length<=f->BU a->BU b->GO [1] a b ->
  ∃ Q0:Int,0<Q0/\∀ q x:Int,Z1 R q x->Q0<=q->Lp a x q->Mid (CB (Hh a x q)) (D9 (H4 f a b) x q) (D9 (H4 f a b) (x+1) q):=by
 intro n;induction n with
 | zero =>
  intro f hf a b hb _ _ _;have:f=0:=by omega
  subst this;exact⟨1,by decide,fun q x _ _ _=>Mid.nil _⟩
 | succ n ih =>
  intro f hf a b hb ha lb h;by_cases hb0:b=[]
  ·have e:H4 f a b=[]:=by
    cases f with
    | zero=>rfl
    | succ f=>simp only[H4];rw[if_pos hb0]
   rw[e];exact⟨1,by decide,fun q x _ _ _=>Mid.nil _⟩
  ·have hbl:=An.2 hb0;obtain⟨f,rfl⟩:∃ k,f=k+1:=⟨f-1,by omega⟩;have hpl:=Sq (a:=a) hb0;have he:=PT lb hb0 h;have le:BU (BV (Bz a b)):=H2 (NZ ha);obtain⟨Q1,hQ1,h1⟩:=ih f (by omega) b (BV (Bz a b)) (by rw[DC];omega) lb le he;obtain⟨L,Q2,hL,hQ2,h2⟩:=Sp R hR he;obtain⟨c,c',Q,hc,hc',hid⟩:=Wi (a:=a) lb hb0;obtain⟨Q3,hQ3,h3⟩:=Aci R hR hc hc' hid he;have e1:H4 (f+1) a b=b::H4 f b (BV (Bz a b)):=by simp only[H4];rw[if_neg hb0]
   rw[e1];by_cases he0:BV (Bz a b)=[]
   ·refine⟨Q1+Q2,by omega,fun q x hr hq hst => ?_⟩;have hsb:Lp b x q:=by
     apply AE;intro hn;have:=(h2 q x hr (by omega) hn).2;rw[he0,A0l] at this;simp at this
    obtain⟨g1,g2⟩:=Kn hsb;have hm:=h1 q x hr (by omega) hsb;show Mid _ (CB (Hh b x q)::_) (CB (Hh b (x+1) q)::_);rw[g1];exact Mid.st _ _ g2 hm
   ·have hel:=An.2 he0;rw[DC] at hel;obtain⟨f,rfl⟩:∃ k,f=k+1:=⟨f-1,by omega⟩;have he2:=PT le he0 he;have hpl2:=Sq (a:=b) he0;rw[DC] at hpl2;obtain⟨Q4,hQ4,h4⟩:=ih f (by omega) (BV (Bz a b)) (BV (Bz b (BV (Bz a b)))) (by rw[DC];omega) le (H2 (NZ lb)) he2;refine⟨Q1+Q2+Q3+Q4,by omega,fun q x hr hq hst => ?_⟩;by_cases hsb:Lp b x q
    ·obtain⟨g1,g2⟩:=Kn hsb;have hm:=h1 q x hr (by omega) hsb;show Mid _ (CB (Hh b x q)::_) (CB (Hh b (x+1) q)::_);rw[g1];exact Mid.st _ _ g2 hm
    ·obtain⟨hse,_⟩:=h2 q x hr (by omega) hsb;obtain⟨r1,r2⟩:=h3 q x hr (by omega) hsb;obtain⟨g1,g2⟩:=Kn hse;have hm:=h4 q x hr (by omega) hse;have hsg:CB (Hh (BV (Bz a b)) x q) = -CB (Hh a x q):=by
      unfold Lp at hse;unfold CB;rcases hse with ⟨k1,_⟩ | ⟨k1,_⟩
      ·have:=r1 k1;rw[if_neg (by omega),if_pos k1,if_pos this];rfl
      ·have:=r2 k1;rw[if_pos k1,if_neg (by omega),if_pos this]
     have e2:H4 (f+1) b (BV (Bz a b))=BV (Bz a b)::H4 f (BV (Bz a b)) (BV (Bz b (BV (Bz a b)))):=by simp only[H4];rw[if_neg he0]
     rw[e2];show Mid _ (CB (Hh b x q)::CB (Hh (BV (Bz a b)) x q)::_) (CB (Hh b (x+1) q)::CB (Hh (BV (Bz a b)) (x+1) q)::_);rw[g1];rw[hsg] at hm |-;exact Mid.un _ _ _ (Z2 _) (Z2 _) hm
theorem A0m{a:Int}(h:a=1\/a = -1)(n:Int)(h2:CB n=a):(a=1/\0<n)\/(a = -1/\n<0):=by
 unfold CB at h2;split at h2
 ·right;omega
 ·split at h2
  ·left;omega
  ·omega
theorem Yj{f:List Int}(R:Int)(hR:0<=R)(lf:BU f)(hl:2<=f.length)(hl1:(prim (As f)).length=f.length-1)(h:GO [1] f (prim (As f)))(hc:0<AL (As f))(n:Nat)(hn:f.length-1<=n) :
  ∃ Q0:Int,0<Q0/\∀ q x:Int,Z1 R q x->Q0<=q->∃ d:Int,Top (D9 (f::H4 n f (prim (As f))) x q) (D9 (f::H4 n f (prim (As f))) (x+1) q) d/\(d=0\/d=1)/\(d=1->¬ Lp f x q/\Hh f x q ≠ 0)/\(d=0->Lp f x q\/Hh f x q=0):=by
 have l1:BU (prim (As f)):=Ce _;have h10:prim (As f) ≠ []:=by intro h0;rw[h0] at hl1;simp at hl1;omega
 obtain⟨Q1,hQ1,m1⟩:=fM R hR n n (Am _) f (prim (As f)) (by omega) lf l1 h;obtain⟨L,Q2,hL,hQ2,p2⟩:=Sp R hR h;obtain⟨Q3,hQ3,p3⟩:=Tp R hR hl hl1 h hc;obtain⟨n,rfl⟩:∃ k,n=k+1:=⟨n-1,by omega⟩;have e1:H4 (n+1) f (prim (As f))=prim (As f)::H4 n (prim (As f)) (BV (Bz f (prim (As f)))):=by simp only[H4];rw[if_neg h10]
 have he:=PT l1 h10 h;have hpl:=Sq (a:=f) h10;obtain⟨Q4,hQ4,m4⟩:=fM R hR n n (Am _) (prim (As f)) (BV (Bz f (prim (As f)))) (by rw[DC];omega) l1 (H2 (NZ lf)) he;refine⟨Q1+Q2+Q3+Q4,by omega,fun q x hr hq => ?_⟩;by_cases hst:Lp f x q
 ·obtain⟨g1,g2⟩:=Kn hst;have hm:=m1 q x hr (by omega) hst;refine⟨0,?_,.inl rfl,fun h=>absurd h (by decide),fun _ => .inl hst⟩;show Top (CB (Hh f x q)::_) (CB (Hh f (x+1) q)::_) 0;rw[g1];exact Top.st _ g2 hm
 ·obtain⟨hs1,_⟩:=p2 q x hr (by omega) hst;obtain⟨g1,g2⟩:=Kn hs1;obtain⟨r1,r2⟩:=p3 q x hr (by omega) hst;have hm:=m4 q x hr (by omega) hs1;rw[e1];refine⟨if CB (Hh f x q)=0 then 0 else 1,?_,by split;exact .inl rfl;exact .inr rfl,?_,?_⟩
  ·show Top (CB (Hh f x q)::CB (Hh (prim (As f)) x q)::_) (CB (Hh f (x+1) q)::CB (Hh (prim (As f)) (x+1) q)::_) _;rw[g1];unfold Lp at hst;rcases A0m g2 _ rfl with ⟨k1,k2⟩ | ⟨k1,k2⟩
   ·have hd:=r1 k2;refine Top.un _ _ _ g2 ?_ ?_ hm
    ·rw[k1];unfold CB; (repeat' split) <;> omega
    ·rw[k1];unfold CB; (repeat' split) <;> omega
   ·have hd:=r2 k2;refine Top.un _ _ _ g2 ?_ ?_ hm
    ·rw[k1];unfold CB; (repeat' split) <;> omega
    ·rw[k1];unfold CB; (repeat' split) <;> omega
  ·intro hd;refine⟨hst,fun h0 => ?_⟩;rw[h0] at hd;exact absurd hd (by decide)
  ·intro hd;right;apply AE;intro h0;rw[if_neg (by unfold CB; (repeat' split) <;> omega)] at hd
   exact absurd hd (by decide)
theorem fN{f:List Int}(R:Int)(hR:0<=R)(lf:BU f)(hl:2<=f.length)(hl1:(prim (As f)).length=f.length-1)(h:GO [1] f (prim (As f)))(hc:0<AL (As f))(n:Nat)(hn:f.length-1<=n) :
  ∃ Q0:Int,0<Q0/\∀ q u:Int,0<q->Q0<=q->∀ k:Nat,(u.natAbs:Int)<=R*q->((u+(k:Int)).natAbs:Int)<=R*q ->
   wv 0 (D9 (f::H4 n f (prim (As f))) (u+(k:Int)) q)<=wv 0 (D9 (f::H4 n f (prim (As f))) u q):=by
 obtain⟨Q0,hQ0,ht⟩:=Yj R hR lf hl hl1 h hc n hn;refine⟨Q0,hQ0,fun q u hq0 hq k => ?_⟩;induction k with
 | zero=>intro _ _;simp
 | succ k ih =>
  intro h1 h2;have h3:((u+(k:Int)).natAbs:Int)<=R*q:=by omega
  have h4:=ih h1 h3;have h6:((u+(k:Int)+1).natAbs:Int)<=R*q:=by omega
  obtain⟨d,hd,hd2,_,_⟩:=ht q (u+(k:Int)) ⟨hq0,h3,h6⟩ hq;have h5:=rI hd;have e:u+((k+1:Nat):Int)=u+(k:Int)+1:=by omega
  rw[e];omega
theorem Sr(p:List Int)(x q c:Int)(hc:0<c):CB (Hh p (c*x) (c*q))=CB (Hh p x q):=by
 have e:∀ T,hs (fun i=>p.getD i 0) (c*x) (c*q) T=c^T*hs (fun i=>p.getD i 0) x q T:=by
  intro T;induction T with
  | zero=>simp[hs]
  | succ T ih =>
   simp only[hs];rw[ih,Qh,Ay c T];grind
 have hp:0<c^(p.length-1):=EX hc;unfold Hh Go.Ai.hp;rw[e];generalize hs (fun i=>p.getD i 0) x q (p.length-1)=H;generalize c^(p.length-1)=C at *
 unfold CB;by_cases h1:H<0
 ·have:=LD hp h1;rw[if_pos this,if_pos h1]
 ·by_cases h2:0<H
  ·have:=BE hp h2;rw[if_neg (by omega),if_neg h1,if_pos this,if_pos h2]
  ·have:H=0:=by omega
   rw[this];simp
theorem I2(l:List (List Int))(x q c:Int)(hc:0<c):D9 l (c*x) (c*q)=D9 l x q:=by
 unfold D9;exact FV fun p _=>Sr p x q c hc
theorem Z3{f:List Int}(lf:BU f)(hl:2<=f.length):(As f).length=f.length-1:=by
 have ht:=E8 lf (by intro h;rw[h] at hl;simp at hl);unfold As;have hL:BU ((Ao (f.length-1)).map fun j=>f.getD (j+1) 0*((j+1:Nat):Int)):=by
  refine NP (.inr ?_);rw[N,BY,GC,if_pos (by omega),show f.length-1-1+1=f.length-1 by omega];exact BK ht (by omega)
 rw[hL,N,BY]
theorem KW{p:List Int}(hp:Y p ≠ [])(hl:2<=(Af p).length):BU (Af p)/\(prim (As (Af p))).length=(Af p).length-1/\GO [1] (Af p) (prim (As (Af p)))/\0<AL (As (Af p)):=by
 obtain⟨lf,cf,tf,f0,_,_,_,h1⟩:=Fi hp;generalize Af p=f at *
 have hd:=Z3 lf hl;have ld:BU (As f):=Hv _;have hd0:Y (As f) ≠ []:=by rw[ld];intro h;rw[h] at hd;simp at hd;omega
 have hG:=JJ f (As f);obtain⟨c,hc⟩:=QR h1;have tG:=Se (t:=As f) (F4 lf f0);rw[hc] at hG tG;have hc0:0<c:=tG;refine⟨lf,by rw[BS,ld,hd],?_,Ix hd0⟩;have h2:GO [1] f (As f):=hG.gscaled (m:=c) (n:=1) (by omega) (by decide) (fun x=>by simp[V]);obtain⟨m,hm,hm2⟩:=H1 (As f);exact h2.scaled (m:=1) (n:=1) (k:=m) (l:=1) (by decide) (by decide) hm (by decide) (fun x=>rfl) (fun x=>by rw[<- hm2 x];omega)
def CN(p:List Int):List (List Int):=if Af p=[] then [] else Af p::H4 (Af p).length (Af p) (prim (As (Af p)))
theorem N'(p:List Int){x y q:Int}(hq:0<q)(hxy:x<=y):wv 0 (D9 (CN p) y q)<=wv 0 (D9 (CN p) x q):=by
 unfold CN;by_cases h0:Af p=[]
 ·rw[if_pos h0];exact DL _
 ·rw[if_neg h0];have hp:Y p ≠ []:=by
   intro h;have hz:prim p=[]:=by rw[DX,<- CW];exact h
   apply h0;unfold Af;rw[hz];rfl
  have hpos:=An.2 h0;by_cases hl:2<=(Af p).length
  ·obtain⟨lf,hl1,hG,hc⟩:=KW hp hl;obtain⟨Q0,hQ0,hm⟩:=fN ((x.natAbs:Int)+(y.natAbs:Int)) (by omega) lf hl hl1 hG hc (Af p).length (by omega);have h1:(0:Int)<Q0*q:=BE hQ0 hq;have hQq:Q0<=Q0*q:=by
    have:=Ah (show (1:Int)<=q by omega) (show 0<=Q0 by omega);omega
   have hb:∀ z:Int,(z.natAbs:Int)<=(x.natAbs:Int)+(y.natAbs:Int)->((Q0*z).natAbs:Int)<=((x.natAbs:Int)+(y.natAbs:Int))*(Q0*q):=by
    intro z hz;have h2:=Dz (a:=Q0) (A:=Q0*q) (by omega) hz;have e:Q0*q*((x.natAbs:Int)+(y.natAbs:Int))=((x.natAbs:Int)+(y.natAbs:Int))*(Q0*q):=AD ..;omega
   have hd:0<=Q0*(y-x):=A1 (by omega) (by omega);have e1:Q0*x+((Q0*(y-x)).toNat:Int)=Q0*y:=by rw[Int.toNat_of_nonneg hd,HG];omega
   have h3:=hm (Q0*q) (Q0*x) h1 hQq (Q0*(y-x)).toNat (hb x (by omega)) (by rw[e1];exact hb y (by omega));rw[e1,I2 _ _ _ _ hQ0,I2 _ _ _ _ hQ0] at h3;exact h3
  ·have hl1:(Af p).length=1:=by omega
   have hz:prim (As (Af p))=[]:=by
    rw[DX];intro i;rw[Dx,Bv (by omega),DF]
   have e:H4 (Af p).length (Af p) (prim (As (Af p)))=[]:=by rw[hl1,hz];rfl
   rw[e];have eh:∀ z,Hh (Af p) z q=(Af p).getD 0 0:=fun z=>by unfold Hh Go.Ai.hp;rw[hl1];rfl
   unfold D9;simp only[Cz,FF];rw[eh,eh];exact DL _
theorem DE{n:Int}:CB n=0↔n=0:=by unfold CB; (repeat' split) <;> omega
theorem Ko{n:Int}:CB n=1↔0<n:=by unfold CB; (repeat' split) <;> omega
theorem Kp{n:Int}:CB n = -1↔n<0:=by unfold CB; (repeat' split) <;> omega
def MR(f g:List Int)(W:Int->Int)(q x:Int):Prop :=
 (CB (Hh f (x+1) q)=CB (Hh f x q)/\Hh f x q ≠ 0/\W x=W (x+1)) \/
 ((CB (Hh g x q)=1\/CB (Hh g x q) = -1)/\CB (Hh g (x+1) q)=CB (Hh g x q) /\
  ((Hh f x q=0/\CB (Hh f (x+1) q)=CB (Hh g x q)/\W x=W (x+1)) \/
  (CB (Hh f x q) = -CB (Hh g x q)/\(Hh f (x+1) q=0\/CB (Hh f (x+1) q)=CB (Hh g x q))/\W x=W (x+1)+1)))
theorem cell{f:List Int}(R:Int)(hR:0<=R)(lf:BU f)(hl:2<=f.length)(hl1:(prim (As f)).length=f.length-1)(h:GO [1] f (prim (As f)))(hc:0<AL (As f))(n:Nat)(hn:f.length-1<=n) :
  ∃ Q0:Int,0<Q0/\∀ q x:Int,Z1 R q x->Q0<=q->MR f (prim (As f)) (fun y=>wv 0 (D9 (f::H4 n f (prim (As f))) y q)) q x:=by
 obtain⟨Q1,hQ1,t1⟩:=Yj R hR lf hl hl1 h hc n hn;obtain⟨L,Q2,hL,hQ2,p2⟩:=Sp R hR h;obtain⟨Q3,hQ3,p3⟩:=Tp R hR hl hl1 h hc;refine⟨Q1+Q2+Q3,by omega,fun q x hr hq => ?_⟩;obtain⟨d,hd,hd2,hd3,hd4⟩:=t1 q x hr (by omega);have hw:=rI hd;unfold MR;by_cases hst:Lp f x q
 ·left;obtain⟨g1,g2⟩:=Kn hst;have hd0:d=0:=by
   rcases hd2 with e | e
   ·exact e
   ·exact absurd hst (hd3 e).1
  refine⟨g1,fun h0 => ?_,by show wv 0 _=wv 0 _;omega⟩;rw[h0] at g2;exact absurd g2 (by decide)
 ·right;obtain⟨hs1,_⟩:=p2 q x hr (by omega) hst;obtain⟨g1,g2⟩:=Kn hs1;obtain⟨r1,r2⟩:=p3 q x hr (by omega) hst;refine⟨g2,g1,?_⟩;by_cases h0:Hh f x q=0
  ·left;have hd0:d=0:=by
    rcases hd2 with e | e
    ·exact e
    ·exact absurd h0 (hd3 e).2
   refine⟨h0,?_,by show wv 0 _=wv 0 _;omega⟩;rcases g2 with k | k
   ·have:=r1 (Ko.1 k);rw[k,Ko];omega
   ·have:=r2 (Kp.1 k);rw[k,Kp];omega
  ·right;have hd1:d=1:=by
    rcases hd2 with e | e
    ·rcases hd4 e with k | k
     ·exact absurd k hst
     ·exact absurd k h0
    ·exact e
   unfold Lp at hst;rcases g2 with k | k
   ·have:=r1 (Ko.1 k);refine⟨by rw[k,Kp];omega,?_,by show wv 0 _=wv 0 _+1;omega⟩;by_cases hz:Hh f (x+1) q=0
    ·exact .inl hz
    ·right;rw[k,Ko];omega
   ·have:=r2 (Kp.1 k);refine⟨by rw[k];show _=1;rw[Ko];omega,?_,by show wv 0 _=wv 0 _+1;omega⟩;by_cases hz:Hh f (x+1) q=0
    ·exact .inl hz
    ·right;rw[k,Kp];omega
theorem MR.mono{f g:List Int}{W:Int->Int}{q x:Int}(h:MR f g W q x):W (x+1)<=W x:=by
 rcases h with ⟨_,_,h⟩ | ⟨_,_,⟨_,_,h⟩ | ⟨_,_,h⟩⟩ <;> omega
theorem MR.root{f g:List Int}{W:Int->Int}{q x:Int}(h:MR f g W q x)(h0:Hh f (x+1) q=0):W x=W (x+1)+1:=by
 have e:CB (Hh f (x+1) q)=0:=DE.2 h0;rcases h with ⟨h1,h2,_⟩ | ⟨h1,_,⟨_,h3,_⟩ | ⟨_,_,h⟩⟩
 ·rw[e] at h1;exact absurd (DE.1 h1.symm) h2
 ·omega
 ·exact h
def Par(f g:List Int)(W:Int->Int)(q u v:Int):Prop :=
 (Hh f v q ≠ 0/\CB (Hh f v q)=(if (W u-W v) % 2=0 then 1 else -1)*CB (Hh f u q)) \/
 (Hh f v q=0/\CB (Hh g v q)=(if (W u-W v) % 2=0 then 1 else -1)*CB (Hh f u q))
theorem Wj{f g:List Int}{W:Int->Int}{q u:Int}(h0:Hh f u q ≠ 0):∀ k:Nat,(∀ j:Nat,j<k->MR f g W q (u+(j:Int)))->Par f g W q u (u+(k:Int))
 | 0,_=>by
  left;rw[show u+((0:Nat):Int)=u by omega];exact⟨h0,by rw[if_pos (by omega),CR]⟩
 | k+1,hc=>by
  have ih:=Wj h0 k (fun j hj=>hc j (by omega));have c:=hc k (by omega);have e:u+((k+1:Nat):Int)=u+(k:Int)+1:=by omega
  rw[e];have hu:CB (Hh f u q)=1\/CB (Hh f u q) = -1:=by
   have:=Z2 (Hh f u q);have:CB (Hh f u q) ≠ 0:=fun hh=>h0 (DE.1 hh);omega
  generalize u+(k:Int)=v at *
  unfold Par at ih |-;rcases c with ⟨c1,c2,c3⟩ | ⟨c1,c2,⟨c3,c4,c5⟩ | ⟨c3,c4,c5⟩⟩
  ·rw[<- c3];rcases ih with ⟨i1,i2⟩ | ⟨i1,_⟩
   ·left;refine⟨fun hz => ?_,by rw[c1];exact i2⟩;rw[hz] at c1;exact i1 (DE.1 c1.symm)
   ·exact absurd i1 c2
  ·rw[<- c5];rcases ih with ⟨i1,_⟩ | ⟨_,i2⟩
   ·exact absurd c3 i1
   ·left;refine⟨fun hz => ?_,by rw[c4];exact i2⟩;rw[hz] at c4;have:CB 0=0:=rfl;omega
  ·have i2:CB (Hh f v q)=(if (W u-W v) % 2=0 then 1 else -1)*CB (Hh f u q):=by
    rcases ih with ⟨_,i2⟩ | ⟨i1,_⟩
    ·exact i2
    ·rw[i1] at c3;have:CB 0=0:=rfl;omega
   have flip:CB (Hh g v q)=(if (W u-W (v+1)) % 2=0 then 1 else -1)*CB (Hh f u q):=by
    by_cases hp:(W u-W v) % 2=0
    ·rw[if_pos hp] at i2;rw[if_neg (by omega)];omega
    ·rw[if_neg hp] at i2;rw[if_pos (by omega)];omega
   rcases c4 with c4 | c4
   ·right;exact⟨c4,by rw[c2];exact flip⟩
   ·left;refine⟨fun hz => ?_,by rw[c4];exact flip⟩;rw[hz] at c4;have:CB 0=0:=rfl;omega
theorem N_{f g:List Int}{W:Int->Int}{q u:Int}:∀ k:Nat,(∀ j:Nat,j<k->MR f g W q (u+(j:Int)))->W (u+(k:Int))<=W u
 | 0,_=>by simp
 | k+1,hc=>by
  have ih:=N_ k (fun j hj=>hc j (by omega));have:=(hc k (by omega)).mono;have e:u+((k+1:Nat):Int)=u+(k:Int)+1:=by omega
  rw[e];omega
theorem A3m(p:List Int)(hp:Y p ≠ [])(hl:2<=(Af p).length){x y q:Int}(hq:0<q):∃ c:Int,0<c/\∀ z:Int,c*x<=z->z<c*y->MR (Af p) (prim (As (Af p))) (fun z=>wv 0 (D9 (CN p) z (c*q))) (c*q) z:=by
 obtain⟨lf,hl1,hG,hc⟩:=KW hp hl;have h0:Af p ≠ []:=by intro h;rw[h] at hl;simp at hl
 obtain⟨Q0,hQ0,hm⟩:=cell ((x.natAbs:Int)+(y.natAbs:Int)) (by omega) lf hl hl1 hG hc (Af p).length (by omega);refine⟨Q0,hQ0,fun z h1 h2 => ?_⟩;have hQq:Q0<=Q0*q:=by
  have:=Ah (show (1:Int)<=q by omega) (show 0<=Q0 by omega);omega
 have hb:∀ z:Int,(z.natAbs:Int)<=(x.natAbs:Int)+(y.natAbs:Int)->((Q0*z).natAbs:Int)<=((x.natAbs:Int)+(y.natAbs:Int))*(Q0*q):=by
  intro z hz;have h2:=Dz (a:=Q0) (A:=Q0*q) (by omega) hz;have e:Q0*q*((x.natAbs:Int)+(y.natAbs:Int))=((x.natAbs:Int)+(y.natAbs:Int))*(Q0*q):=AD ..;omega
 have bx:=hb x (by omega);have by':=hb y (by omega);have e:CN p=Af p::H4 (Af p).length (Af p) (prim (As (Af p))):=by unfold CN;rw[if_neg h0]
 rw[e];exact hm (Q0*q) z ⟨BE hQ0 hq,by omega,by omega⟩ hQq
theorem fO(p:List Int)(hp:Y p ≠ [])(hl:2<=(Af p).length){x m y q:Int}(hq:0<q)(hxm:x<m)(hmy:m<y)(h1:wv 0 (D9 (CN p) x q)-wv 0 (D9 (CN p) y q)=1) :
  (Hh (Af p) m q=0->wv 0 (D9 (CN p) m q)=wv 0 (D9 (CN p) y q)) /\
  (Hh (Af p) m q ≠ 0->Hh (Af p) y q=0->wv 0 (D9 (CN p) m q)=wv 0 (D9 (CN p) y q)+1) /\
  (Hh (Af p) m q ≠ 0->Hh (Af p) y q ≠ 0->(CB (Hh (Af p) m q)=CB (Hh (Af p) y q)↔wv 0 (D9 (CN p) m q)=wv 0 (D9 (CN p) y q))):=by
 obtain⟨c,hc,hg⟩:=A3m p hp hl (x:=x) (y:=y) hq;have m1:=N' p hq (Aw hxm);have m2:=N' p hq (Aw hmy);have sc:∀ z,wv 0 (D9 (CN p) (c*z) (c*q))=wv 0 (D9 (CN p) z q):=fun z=>by rw[I2 _ _ _ _ hc]
 have hs:∀ z,CB (Hh (Af p) (c*z) (c*q))=CB (Hh (Af p) z q):=fun z=>Sr _ _ _ _ hc;have d1:c*x+c<=c*m:=by
  have:=Ah (show x+1<=m by omega) (show 0<=c by omega);rw[C1,Dp] at this;exact this
 have d2:c*m+c<=c*y:=by
  have:=Ah (show m+1<=y by omega) (show 0<=c by omega);rw[C1,Dp] at this;exact this
 have back:∀ a b:Int,c*x<=a->a<b->b<=c*y->Hh (Af p) b (c*q)=0->wv 0 (D9 (CN p) b (c*q))+1<=wv 0 (D9 (CN p) a (c*q)):=by
  intro a b ha hab hb hz;have hcell:=hg (b-1) (by omega) (by omega);have h2:=hcell.root (by rw[show b-1+1=b by omega];exact hz);simp only[show b-1+1=b by omega] at h2;have h3:=N_ (u:=a) (b-1-a).toNat (fun j hj=>hg (a+(j:Int)) (by omega) (by omega));simp only[show a+((b-1-a).toNat:Int)=b-1 by omega] at h3;omega
 refine⟨fun hz => ?_,fun _ hz => ?_,fun hm0 hy0 => ?_⟩
 ·have hz':Hh (Af p) (c*m) (c*q)=0:=by rw[<- DE,hs,DE];exact hz
  have:=back (c*x) (c*m) (DL _) (by omega) (by omega) hz';rw[sc,sc] at this;omega
 ·have hz':Hh (Af p) (c*y) (c*q)=0:=by rw[<- DE,hs,DE];exact hz
  have:=back (c*m) (c*y) (by omega) (by omega) (DL _) hz';rw[sc,sc] at this;omega
 ·have hm':Hh (Af p) (c*m) (c*q) ≠ 0:=fun g=>hm0 (by rw[<- DE,<- hs,DE];exact g);have hy':Hh (Af p) (c*y) (c*q) ≠ 0:=fun g=>hy0 (by rw[<- DE,<- hs,DE];exact g);have hpar:=Wj (g:=prim (As (Af p))) (W:=fun z=>wv 0 (D9 (CN p) z (c*q))) hm' (c*y-c*m).toNat (fun j hj=>hg (c*m+(j:Int)) (by omega) (by omega));rw[show c*m+((c*y-c*m).toNat:Int)=c*y by omega] at hpar;rcases hpar with ⟨_,e⟩ | ⟨e,_⟩
  ·simp only[sc,hs] at e;have hb:CB (Hh (Af p) m q) ≠ 0:=fun g=>hm0 (DE.1 g);constructor
   ·intro heq;apply AE;intro hne;rw[if_neg (by omega)] at e;omega
   ·intro heq;rw[if_pos (by omega)] at e;omega
  ·exact absurd e hy'
end Go.Ai
namespace Go.Proofs.YtajompaehjkgkaaGreat
open Go.Ai
set_option maxRecDepth 100000
open Bool renaming false_or->Wu
open Classical renaming byContradiction->AE
open Decidable renaming decide->B
open Go.IntKind renaming i64->R,wrap->D
open Int renaming add_mul->GH,eq_of_mul_eq_mul_left->HY,le_of_eq->JN,le_of_lt->Aw,le_refl->DL,lt_of_mul_lt_mul_left->ER,lt_of_mul_lt_mul_right->BP,mul_assoc->AB,mul_comm->AD,mul_ediv_cancel_left->BN,mul_ediv_mul_of_pos->A3x,mul_lt_mul_of_pos_right->A9,mul_pos->BE,pow_add->B4,pow_pos->EX,pow_succ->Ay,toNat->A,toNat_natCast->F,zero_mul->DF
open List renaming any_eq_false->Ph,drop_eq_getElem_cons->CU,drop_length->Jo,getD_eq_getElem?_getD->Z,getElem?_eq_getElem->Ae,getElem?_map->CA,getElem_mem->Dc,length_append->AU,length_map->N,length_pos_iff->An,map_append->DR,mem_append->BJ,mem_cons->CH,take_length->Ee,take_succ_eq_append_getElem->pI
open Nat renaming add_comm->H',le_refl->Am,log2_lt->Jv,pow_add->C_,zero_le->Bf
theorem Tq:∀ (f:Nat) (a b:List Int),D8 f a b=H4 f a b
 | 0,_,_=>rfl
 | f+1,a,b=>by simp only[D8,H4];rw[Tq f]
theorem Rb(p:List Int):BH p=CN p:=by unfold BH CN;rw [Tq]
theorem A4r(l:List (List Int))(N:Int)(e i:Nat):HC l N e i=CB (Hh (l.getD i []) N (2^e)):=by
 unfold HC Hh;rw[Zz];rfl
theorem Ack(l:List (List Int))(N:Int)(e:Nat):∀ i,i<=l.length->(BO l N e i).1+wv (BO l N e i).2 (D9 (l.drop i) N (2^e))=wv 0 (D9 l N (2^e)):=by
 intro i;induction i with
 | zero=>intro _;simp[BO]
 | succ i ih =>
  intro hi;rw[<- ih (by omega)];rw[CU (show i<l.length by omega)];have hg:l.getD i []=l[i]:=by rw[Z,Ae (by omega)];rfl
  have hs:=A4r l N e i;rw[hg] at hs;show (PO (BO l N e i) (HC l N e i)).1+wv (PO (BO l N e i) (HC l N e i)).2 _=(BO l N e i).1+wv (BO l N e i).2 (CB (Hh l[i] N (2^e))::_);rw[<- hs];generalize BO l N e i=x;generalize HC l N e i=s;obtain⟨n,last⟩:=x;simp only[PO,wv];by_cases h0:s=0
  ·rw[if_neg (fun h=>h.1 h0),if_neg (fun h=>h h0),if_pos h0];rfl
  ·rw[if_neg h0,if_pos h0];by_cases h1:last ≠ 0/\s ≠ last
   ·rw[if_pos ⟨h0,h1⟩,if_pos h1];show n+1+wv s (D9 (l.drop (i+1)) N (2^e))=n+(1+wv s (D9 (l.drop (i+1)) N (2^e)));omega
   ·rw[if_neg (fun h=>h1 h.2),if_neg h1];show n+wv s (D9 (l.drop (i+1)) N (2^e))=n+(0+wv s (D9 (l.drop (i+1)) N (2^e)));omega
def Vd(p:List Int)(x:Int)(a:Nat):Int:=(BO (BH p) x a (BH p).length).1
theorem HW(p:List Int)(x:Int)(a:Nat):Vd p x a=wv 0 (D9 (CN p) x (2^a)):=by
 have h:=Ack (BH p) x a (BH p).length (Am _);rw[Jo,Rb] at h;unfold Vd;rw[Rb];have:wv (BO (CN p) x a (CN p).length).2 (D9 [] x (2^a))=0:=rfl;omega
theorem Bg(n:Nat):(0:Int)<2^n:=EX (by decide)
theorem GQ(p:List Int)(x:Int)(a c:Nat):Vd p (x*2^c) (a+c)=Vd p x a:=by
 rw[HW,HW,AD x,show (2:Int)^(a+c)=2^c*2^a by rw[B4,AD],I2 _ _ _ _ (Bg c)]
theorem PU{p:List Int}{x y:Int}{a b:Nat}(h:x*2^b<=y*2^a):Vd p y b<=Vd p x a:=by
 rw[<- GQ p x a b,<- GQ p y b a,H' b a,HW,HW];exact N' p (Bg _) h
theorem fP{p:List Int}{x y:Int}{a b:Nat}(h:x*2^b=y*2^a):Vd p x a=Vd p y b :=
 Int.le_antisymm (PU (JN h.symm)) (PU (JN h))
theorem Z4(p:List Int)(x:Int)(a:Nat):FR p x a=CB (Hh p x (2^a)):=by unfold FR Hh;rw [Zz];rfl
theorem PV(p:List Int)(x:Int)(a c:Nat):FR p (x*2^c) (a+c)=FR p x a:=Sl (by rw [B4];grind)
theorem Yk{p:List Int}(h:(Af p).length<2)(x y:Int)(a b:Nat):Vd p x a=Vd p y b:=by
 have e:∀ x a,Vd p x a=0:=by
  intro x a;rw[HW];unfold CN;by_cases h0:Af p=[]
  ·rw[if_pos h0];rfl
  ·rw[if_neg h0];have hz:prim (As (Af p))=[]:=by
    rw[DX];intro i;rw[Dx,Bv (by omega),DF]
   have hl1:(Af p).length=1:=by have:=An.2 h0;omega
   have e:H4 (Af p).length (Af p) (prim (As (Af p)))=[]:=by rw[hl1,hz];rfl
   rw[e];show wv 0 [_]=0;simp only[wv];split
   ·rfl
   ·rw[if_neg (fun h=>h.1 rfl)];rfl
 rw[e,e]
theorem half{p:List Int}{x m y:Int}{a c b:Nat}(h1:x*2^c<m*2^a)(h2:m*2^b<y*2^c)(hV:Vd p x a-Vd p y b=1) :
  (FR (Af p) m c=0->Vd p m c=Vd p y b)/\(FR (Af p) m c ≠ 0->FR (Af p) y b=0->Vd p m c=Vd p y b+1) /\
  (FR (Af p) m c ≠ 0->FR (Af p) y b ≠ 0->(FR (Af p) m c=FR (Af p) y b↔Vd p m c=Vd p y b)):=by
 have hl:2<=(Af p).length:=by
  apply AE;intro g;have:=Yk (p:=p) (by omega) x y a b;omega
 have hp:Y p ≠ []:=by
  intro h;have hz:prim p=[]:=by rw[DX,<- CW];exact h
  have h0:Af p=[]:=by unfold Af;rw[hz];rfl
  rw[h0] at hl;simp at hl
 have e1:=GQ p x a (c+b);have e2:=GQ p m c (a+b);have e3:=GQ p y b (a+c);have g2:=PV (Af p) m c (a+b);have g3:=PV (Af p) y b (a+c);rw[show a+(c+b)=a+b+c by omega,HW] at e1;rw[show c+(a+b)=a+b+c by omega,HW] at e2;rw[show b+(a+c)=a+b+c by omega,HW] at e3;rw[show c+(a+b)=a+b+c by omega,Z4] at g2;rw[show b+(a+c)=a+b+c by omega,Z4] at g3;have i1:x*2^(c+b)<m*2^(a+b):=by
  have:=A9 h1 (Bg b);rw[B4,B4,<- AB,<- AB];exact this
 have i2:m*2^(a+b)<y*2^(a+c):=by
  have:=A9 h2 (Bg a);rw[B4,B4,AD (2^a) (2^b),AD (2^a) (2^c),<- AB,<- AB];exact this
 obtain⟨s1,s2,s3⟩:=fO p hp hl (Bg (a+b+c)) i1 i2 (by rw[e1,e3];exact hV);rw[e2,e3] at s1 s2 s3;rw[g2,g3] at s3;have z2:Hh (Af p) (m*2^(a+b)) (2^(a+b+c))=0↔FR (Af p) m c=0:=by rw[<- g2,DE]
 have z3:Hh (Af p) (y*2^(a+c)) (2^(a+b+c))=0↔FR (Af p) y b=0:=by rw[<- g3,DE]
 exact⟨fun h=>s1 (z2.2 h),fun h h'=>s2 (fun g=>h (z2.1 g)) (z3.2 h'),fun h h'=>s3 (fun g=>h (z2.1 g)) (fun g=>h' (z3.1 g))⟩
theorem MC{x y:Int}{a b:Nat}(h:x*2^b<y*2^a):x*2^NV x a y b<QV x a y b*2^a/\QV x a y b*2^b<y*2^NV x a y b:=by
 have hz:=Kj (max a b+1) (If x a y b);obtain⟨N,hN⟩:=I0 (max a b+1) (If x a y b);have hS:If x a y b=x*2^(max a b-a)+y*2^(max a b-b):=rfl;unfold QV NV;generalize If x a y b=S at *
 generalize Fe S (max a b+1)=z at *
 have pz:=Bg z;have e:S / 2^z=N:=by rw[hN];exact BN _ (by omega)
 rw[e];obtain⟨k,hk⟩:∃ k,max a b+1=z+k:=⟨max a b+1-z,by omega⟩;rw[show max a b+1-z=k by omega];have hz2:(2:Int)^z*2^k=2*2^max a b:=by rw[<- B4,<- hk,Ay,AD]
 have ea:(2:Int)^max a b=2^(max a b-a)*2^a:=by rw[<- B4];congr 1;omega
 have eb:(2:Int)^max a b=2^(max a b-b)*2^b:=by rw[<- B4];congr 1;omega
 have pa:=Bg (max a b-a);have pb:=Bg (max a b-b);have pA:=Bg a;have pB:=Bg b;have pk:=Bg k;generalize (2:Int)^max a b=M at *
 generalize (2:Int)^(max a b-a)=u at *
 generalize (2:Int)^(max a b-b)=v at *
 generalize (2:Int)^a=A at *
 generalize (2:Int)^b=B at *
 generalize (2:Int)^z=Z at *
 generalize (2:Int)^k=K at *
 have huv:x*u<y*v:=by
  have h3:x*B*(u*v)<y*A*(u*v):=A9 h (BE pa pb);have e3:x*B*(u*v)=x*u*M:=by rw[eb];grind
  have e4:y*A*(u*v)=y*v*M:=by rw[ea];grind
  rw[e3,e4] at h3;exact BP h3 (by rw[ea];exact Aw (BE pa pA))
 constructor
 ·have h4:Z*(x*K)<Z*(N*A):=by
   have e5:Z*(x*K)=x*u*(2*A):=by
    have:Z*(x*K)=x*(Z*K):=by grind
    rw[this,hz2,ea];grind
   have e6:Z*(N*A)=(x*u+y*v)*A:=by rw[<- hS,hN];grind
   have h5:=A9 (show x*u+x*u<x*u+y*v by omega) pA;rw[e5,e6];have:x*u*(2*A)=(x*u+x*u)*A:=by grind
   rw[this];exact h5
  exact ER h4 (Aw pz)
 ·have h4:Z*(N*B)<Z*(y*K):=by
   have e5:Z*(y*K)=y*v*(2*B):=by
    have:Z*(y*K)=y*(Z*K):=by grind
    rw[this,hz2,eb];grind
   have e6:Z*(N*B)=(x*u+y*v)*B:=by rw[<- hS,hN];grind
   have h5:=A9 (show x*u+y*v<y*v+y*v by omega) pB;rw[e5,e6];have:y*v*(2*B)=(y*v+y*v)*B:=by grind
   rw[this];exact h5
  exact ER h4 (Aw pz)
theorem Hn{x y:Int}{a b:Nat}:CF x a y b = -1↔x*2^b<y*2^a:=by unfold CF Cw; (repeat' split) <;> omega
theorem Asx{x y:Int}{a b:Nat}:CF x a y b=0↔x*2^b=y*2^a:=by unfold CF Cw; (repeat' split) <;> omega
theorem LN{x y:Int}{a b:Nat}:CF x a y b=1↔y*2^a<x*2^b:=by unfold CF Cw; (repeat' split) <;> omega
structure One (p:List Int) (x:Iv):Prop where
 lt:O x.r*2^x.b<O x.t*2^x.a
 v:Vd p (O x.r) x.a-Vd p (O x.t) x.b=1
theorem fQ{p:List Int}{x:Iv}(h:One p x){m:Int}{c:Nat}(h1:O x.r*2^c<m*2^x.a)(h2:m*2^x.b<O x.t*2^c) :
  (EF (Af p) (O x.r) x.a (O x.t) x.b m c<=0↔Vd p m c=Vd p (O x.t) x.b)/\(¬ EF (Af p) (O x.r) x.a (O x.t) x.b m c<=0↔Vd p m c=Vd p (O x.t) x.b+1):=by
 obtain⟨k1,k2,k3⟩:=half h1 h2 h.v;have m1:Vd p m c<=Vd p (O x.r) x.a:=PU (Aw h1);have m2:Vd p (O x.t) x.b<=Vd p m c:=PU (Aw h2);have hv:=h.v;have e1:¬ CF m c (O x.r) x.a<=0:=by
  rw[LN.2 h1];decide
 have e2:¬ CF m c (O x.t) x.b>0:=by
  rw[Hn.2 h2];decide
 have key:EF (Af p) (O x.r) x.a (O x.t) x.b m c<=0↔Vd p m c=Vd p (O x.t) x.b:=by
  unfold EF;rw[if_neg e1,if_neg e2];by_cases c1:FR (Af p) m c=0
  ·rw[if_pos c1];exact⟨fun _=>k1 c1,fun _=>DL _⟩
  ·rw[if_neg c1];by_cases c2:FR (Af p) (O x.t) x.b=0
   ·have:=k2 c1 c2;rw[if_neg (by rw[c2];exact c1)];constructor <;> intro g <;> omega
   ·have:=k3 c1 c2;by_cases c3:FR (Af p) m c=FR (Af p) (O x.t) x.b
    ·rw[if_pos c3];exact⟨fun _=>this.1 c3,fun _=>by decide⟩
    ·rw[if_neg c3];exact⟨fun g=>absurd g (by decide),fun g=>absurd (this.2 g) c3⟩
 refine⟨key,?_⟩;rw[key];omega
theorem One.half{p:List Int}{x:Iv}(h:One p x):One p (stp (Af p) x):=by
 obtain⟨b1,b2⟩:=MC h.lt;have hne:CF (O x.r) x.a (O x.t) x.b ≠ 0:=by rw[Hn.2 h.lt];decide
 obtain⟨s1,s2⟩:=fQ h b1 b2;have hv:=h.v;unfold stp;rw[if_neg hne];split
 ·rename_i g;have e:=s1.1 g;refine⟨?_,?_⟩
  ·show O x.r*2^x.me<O (cn x.mn)*2^x.a;rw[At];exact b1
  ·show Vd p (O x.r) x.a-Vd p (O (cn x.mn)) x.me=1;rw[At];have:Vd p x.mn x.me=Vd p (O x.t) x.b:=e;omega
 ·rename_i g;have e:=s2.1 g;refine⟨?_,?_⟩
  ·show O (cn x.mn)*2^x.b<O x.t*2^x.me;rw[At];exact b2
  ·show Vd p (O (cn x.mn)) x.me-Vd p (O x.t) x.b=1;rw[At];have:Vd p x.mn x.me=Vd p (O x.t) x.b+1:=e;omega
theorem One.halves{p:List Int}{x:Iv}(h:One p x):∀ n,One p (stpN (Af p) x n)
 | 0=>h
 | n+1=>(One.halves h n).half
def sc(x:Int)(a k:Nat):Int:=x*2^k / 2^a
theorem A4s{x:Int}{a k:Nat}(h:a<=k):sc x a k=x*2^(k-a):=by
 unfold sc;have e:x*2^k=x*2^(k-a)*2^a:=by rw[AB,<- B4];congr 2;omega
 rw[e,Int.mul_ediv_cancel _ (by have:=Bg a;omega)]
theorem A4t{x:Int}{a k:Nat}(h:k<=a):sc x a k=x / 2^(a-k):=by
 unfold sc;have e:(2:Int)^a=2^k*2^(a-k):=by rw[<- B4];congr 1;omega
 rw[e,AD x,A3x _ _ (Bg k)]
theorem PW(x:Int)(a k:Nat):sc x a k*2^a<=x*2^k/\x*2^k<(sc x a k+1)*2^a:=by
 unfold sc;have h:=Bg a;constructor
 ·exact Int.ediv_mul_le _ (by omega)
 ·exact Int.lt_ediv_add_one_mul_self _ h
theorem Ts{r:Rn}(hr:u 100 r){a k:Nat}(ha:a<=4096)(hk:k<=64):H I 126 [A5 r (a:Nat),.int .i64 (k:Nat)] (Ab (sc (O r) a k)):=by
 have hl:=hr.2;by_cases c:a<=k
 ·rw[A4s c];have ew:D R ((k:Int)-(a:Int))=((k-a:Nat):Int):=by rw[AW (by omega) (by omega)];omega
  exact nT r (a:Nat) (k:Nat) _ (by rw[decide_eq_true_eq];omega) (by rw[ew];exact O1 hr.1 (k-a) (by omega) (by omega))
 ·rw[A4t (by omega)];have ew:D R ((a:Int)-(k:Int))=((a-k:Nat):Int):=by rw[AW (by omega) (by omega)];omega
  exact nU r (a:Nat) (k:Nat) _ (by rw[decide_eq_false_iff_not];omega) (by rw[ew];exact Acg hr.1 (by omega) (by omega))
theorem fR{r:Rn}(hr:u 100 r)(a:Nat){k:Nat}(hk:k<=64):AY 103 (sc (O r) a k):=by
 have h1:=hr.fits.mul (MA (n:=k) (k:=3) (by omega));unfold sc;generalize O r*2^k=N at h1;have h2:=Bg a;unfold AY at *
 have h3:(N / 2^a).natAbs<=N.natAbs:=Int.natAbs_ediv_le_natAbs _ _;omega
theorem Yl{n:Nat}:C9 n=1↔n=1:=by
 unfold C9;constructor
 ·intro h;by_cases h0:n=0
  ·rw[if_pos h0] at h;omega
  ·rw[if_neg h0] at h;have h1:n.log2=0:=by omega
   have:=(Jv h0).1 (show n.log2<1 by omega);omega
 ·intro h;subst h;decide
def Iv.lo(x:Iv)(k:Nat):Int:=sc (O x.r) x.a k
def Iv.hi(x:Iv)(k:Nat):Int:=sc (O x.t) x.b k
def Z5(p:List Int)(x:Iv)(k:Nat):Int:=if x.hi k=x.lo k then x.lo k else if EF p (O x.r) x.a (O x.t) x.b (x.hi k) k>=0 then x.hi k else x.lo k
section
variable {p:List Int} (hp:MO p) {C m:Nat} {x:Iv} (h:IvOk C m x) {k:Nat} (hk:k<=64)
include hp h hk
omit hp in
theorem fS(hm:m<=4096):H I 126 [A5 x.r (x.a:Nat),.int .i64 (k:Nat)] (Ab (x.lo k))/\H I 126 [A5 x.t (x.b:Nat),.int .i64 (k:Nat)] (Ab (x.hi k)) /\
  H I 127 [Ab (x.hi k),Ab (x.lo k)] (Ab (x.hi k-x.lo k))/\H I 101 [Ab (x.hi k-x.lo k)] (.int .i64 (B8 (x.hi k-x.lo k))) /\
  H I 102 [Ab (x.hi k-x.lo k)] (.int .i64 ((C9 (x.hi k-x.lo k).natAbs:Nat):Int))/\u 104 (cn (x.hi k)):=by
 obtain⟨gr,gt,ha,hb,vr,vt⟩:=h;have f1:=fR gr x.a hk;have f2:=fR gt x.b hk;have f3:=f2.add f1.neg;have e3:sc (O x.t) x.b k + -(sc (O x.r) x.a k)=x.hi k-x.lo k:=rfl;have f3':AY 104 (x.hi k-x.lo k):=by
  have:=f2.add f1.neg;exact this
 have g1:u 103 (cn (x.lo k)):=AZ f1;have g2:u 103 (cn (x.hi k)):=AZ f2;have g3:=AZ f3';have s:=VM g2 g1 (by decide) (by decide);rw[At,At] at s;have s1:=J_ (neg:=(cn (x.hi k-x.lo k)).1) g3.1 (by have:=g3.2;omega);have s2:=Kc (neg:=(cn (x.hi k-x.lo k)).1) g3.1 (by have:=g3.2;omega);rw[show ∀ n,rv (cn n).1 (cn n).2=n from At] at s1 s2;exact⟨Ts gr (by omega) hk,Ts gt (by omega) hk,s,s1,s2,g2.mono (by omega)⟩
theorem Acl(hC:C+m+1<3000)(o:Rn)(h0:2<=x.hi k-x.lo k):W I Qt (Kl o (p.map cn) x.r (x.a:Nat) x.t (x.b:Nat) (k:Nat)) .norm (Kl o (p.map cn) (stp p x).r ((stp p x).a:Nat) (stp p x).t ((stp p x).b:Nat) (k:Nat)):=by
 obtain⟨a1,a2,a3,a4,a5,_⟩:=fS h hk (by omega);have st:=Abq hp h hC;have h1:B8 (x.hi k-x.lo k)=1:=by unfold B8;rw[if_neg (by omega),if_pos (by omega)]
 have h2:¬ C9 (x.hi k-x.lo k).natAbs=1:=by rw[Yl];omega
 exact A0c o (p.map cn) x.r (x.a:Nat) x.t (x.b:Nat) (k:Nat) _ _ _ _ _ _ _ _ _ (by rw[h1];rfl) (by rw[beq_eq_false_iff_ne];omega) a1 a2 a3 a4 a5 st
theorem Asy(hC:C+m+1<3000)(o:Rn)(hne:CF (O x.r) x.a (O x.t) x.b ≠ 0\/x.hi k=x.lo k)(h0:x.hi k-x.lo k=0\/x.hi k-x.lo k=1)(hG:u 100 (cn (x.hi k))):W I Qt (Kl o (p.map cn) x.r (x.a:Nat) x.t (x.b:Nat) (k:Nat)) .ret (Kl (cn (Z5 p x k)) (p.map cn) x.r (x.a:Nat) x.t (x.b:Nat) (k:Nat)):=by
 obtain⟨a1,a2,a3,a4,a5,_⟩:=fS h hk (by omega);obtain⟨gr,gt,ha,hb,vr,vt⟩:=h;unfold Z5;rcases h0 with h0 | h0
 ·rw[if_pos (by omega)];have h1:B8 (x.hi k-x.lo k)=0:=by rw[h0];rfl
  exact Azz o (p.map cn) x.r (x.a:Nat) x.t (x.b:Nat) (k:Nat) _ _ _ (by rw[h1];rfl) a1 a2 a3 a4
 ·rw[if_neg (by omega)];have h1:B8 (x.hi k-x.lo k)=1:=by rw[h0];rfl
  have h2:C9 (x.hi k-x.lo k).natAbs=1:=by rw[Yl];omega
  have hne':CF (O x.r) x.a (O x.t) x.b ≠ 0:=by
   rcases hne with g | g
   ·exact g
   ·omega
  have sd:=Sm hp gr gt hG (a:=x.a) (b:=x.b) (c:=k) (by omega) (by omega) (by omega) hne';rw[At] at sd;by_cases c:EF p (O x.r) x.a (O x.t) x.b (x.hi k) k>=0
  ·rw[if_pos c];exact A0a o (p.map cn) x.r (x.a:Nat) x.t (x.b:Nat) (k:Nat) _ _ _ _ _ (by rw[h1];rfl) (by rw[h2];rfl) (decide_eq_true c) a1 a2 a3 a4 a5 sd
  ·rw[if_neg c];exact A0b o (p.map cn) x.r (x.a:Nat) x.t (x.b:Nat) (k:Nat) _ _ _ _ _ (by rw[h1];rfl) (by rw[h2];rfl) (decide_eq_false c) a1 a2 a3 a4 a5 sd
theorem nY{n:Nat}(hC:C+m+n+1<3000)(hs:∀ i,i<n->2<=(stpN p x i).hi k-(stpN p x i).lo k)(hne:CF (O (stpN p x n).r) (stpN p x n).a (O (stpN p x n).t) (stpN p x n).b ≠ 0\/(stpN p x n).hi k=(stpN p x n).lo k)
  (h0:(stpN p x n).hi k-(stpN p x n).lo k=0\/(stpN p x n).hi k-(stpN p x n).lo k=1) (hG:u 100 (cn ((stpN p x n).hi k))) :
  H I 77 [x.av p,.int .i64 (k:Nat)] (Ab (Z5 p (stpN p x n) k)):=by
 have out:=Asy hp (Wf (p:=p) h n (by omega)) hk (by omega) (false,[]) hne h0 hG;have l:=EN (prog:=I) (c:=Qt) (ex := .ret) (fun i=>Kl (false,[]) (p.map cn) (stpN p x i).r ((stpN p x i).a:Nat) (stpN p x i).t ((stpN p x i).b:Nat) (k:Nat)) n (by nofun) out 0 (Bf _) (fun t _ ht=>Acl hp (Wf (p:=p) h t (by omega)) hk (by omega) (false,[]) (hs t ht));exact A0d (p.map cn) x.r x.t (x.a:Nat) (x.b:Nat) (k:Nat) _ _ _ _ _ _ l
end
section
variable {p q:List Int} (hp:MO p) (hq:MO q) {C m:Nat} {x y:Iv} (hx:IvOk C m x) (hy:IvOk C m y)
include hp hq hx hy
omit hp hq in
end
structure Apart (p q:List Int) (x y:Iv) (n:Nat) (z:Int):Prop where
 no:∀ i,i<n->¬ CF (O (stpN p x i).t) (stpN p x i).b (O (stpN q y i).r) (stpN q y i).a<=0/\¬ CF (O (stpN q y i).t) (stpN q y i).b (O (stpN p x i).r) (stpN p x i).a<=0
 yes:(z = -1/\CF (O (stpN p x n).t) (stpN p x n).b (O (stpN q y n).r) (stpN q y n).a<=0)\/(z=1/\¬ CF (O (stpN p x n).t) (stpN p x n).b (O (stpN q y n).r) (stpN q y n).a<=0/\CF (O (stpN q y n).t) (stpN q y n).b (O (stpN p x n).r) (stpN p x n).a<=0)
section
variable {p q:List Int} (hp:MO p) (hq:MO q) {C m:Nat} {x y:Iv} (hx:IvOk C m x) (hy:IvOk C m y)
include hp hq hx hy
end
def Ym(r:Rn)(e:Int):Bool:=decide (e>=0)&&decide (e<=64)&&decide (C9 (O r).natAbs<=128)
theorem fT{r:Rn}{e:Int}(hr:u 100 r):H I 54 [A5 r e] (.bool (Ym r e)):=by
 have hb:=Kc (neg:=r.1) hr.1 (by have:=hr.2;omega);unfold Ym;by_cases c1:e>=0
 ·by_cases c2:e<=64
  ·have k:=Abr r e _ (decide_eq_true c1) (decide_eq_true c2) hb;have ez:decide (((C9 (O r).natAbs:Nat):Int)<=128)=decide (C9 (O r).natAbs<=128):=decide_eq_decide.2 (by omega);rw[decide_eq_true c1,decide_eq_true c2];show H _ _ _ (.bool (B (C9 (O r).natAbs<=128)));rw[<- ez];exact k
  ·rw[decide_eq_true c1,decide_eq_false c2];exact Abs r e (decide_eq_true c1) (decide_eq_false c2)
 ·rw[decide_eq_false c1];exact Abt r e (decide_eq_false c1)
def Iv.d(p:List Int)(x:Iv):Int:=Vd p (O x.r) x.a-Vd p (O x.t) x.b
def Iv.lf(x:Iv):Iv:=⟨x.r,x.a,cn x.mn,x.me⟩
def Iv.rg(x:Iv):Iv:=⟨cn x.mn,x.me,x.t,x.b⟩
def HX(p:List Int):Nat->Iv->List Iv
 | 0,x=>if x.d p=0 then [] else [x]
 | n+1,x=>if x.d p=0 then [] else if x.d p=1 then [x] else HX p n x.lf++HX p n x.rg
def Deep(p:List Int)(E:Nat):Nat->Iv->Prop
 | 0,x=>x.d p=0\/x.d p=1
 | n+1,x=>x.d p=0\/x.d p=1\/(x.me<=E/\Deep p E n x.lf/\Deep p E n x.rg)
def Gi(p:List Int)(x:Iv):Rt:=⟨p.map cn,x.r,(x.a:Nat),x.t,(x.b:Nat)⟩
theorem Asz{C m:Nat}{x:Iv}(h:IvOk C m x)(hC:C+m+1<3000):IvOk C (m+1) x.lf/\IvOk C (m+1) x.rg/\u 100 (cn x.mn)/\x.me<=m+1:=by
 obtain⟨gr,gt,ha,hb,vr,vt⟩:=h;have e2:x.me<=max x.a x.b+1:=Q';have e3:x.mn.natAbs<=2^C*2^x.me:=Zy vr vt;have hf:u 100 (cn x.mn):=AZ (CG (k:=C+x.me) (by rw[C_];exact e3) (by omega));refine⟨⟨gr,hf,by show x.a<=_;omega,by show x.me<=_;omega,vr,by show (O (cn x.mn)).natAbs<=_;rw[At];exact e3⟩,⟨hf,gt,by show x.me<=_;omega,by show x.b<=_;omega,by show (O (cn x.mn)).natAbs<=_;rw[At];exact e3,vt⟩,hf,by omega⟩
theorem Oa{p:List Int}(hl:(BH p).length<=10)(x:Int)(a:Nat):0<=Vd p x a/\Vd p x a<=10:=by
 have:=JK (BH p) x a (BH p).length;unfold Vd;omega
section
variable {p:List Int} (hnice:∀ q∈BH p,qX q) (hlen:(BH p).length<=10) (h1:0<(BH p).length) (hfr:(BH p).getD 0 []=Af p) {E:Nat} (hE:E<=1000000)
include hnice hlen h1 hfr hE
theorem nZ:∀ (n:Nat) (x:Iv) (C m:Nat),IvOk C m x->C+m+n+1<3000->Deep p E n x->(HX p n x).length<=1000*1000 ->
  H I 105 [.sl (D6 (BH p)).length (pp (D6 (BH p))),A5 x.r (x.a:Nat),A5 x.t (x.b:Nat),.int .i64 (Vd p (O x.r) x.a),.int .i64 (Vd p (O x.t) x.b),.int .i64 (E:Nat)]
   (.frs (.tp true) 7 (HX p n x).length (Gv ((HX p n x).map (Gi (Af p))))):=by
 intro n;induction n with
 | zero =>
  intro x C m hx hC hd _;have b1:=Oa hlen (O x.r) x.a;have b2:=Oa hlen (O x.t) x.b;have ew:D R (Vd p (O x.r) x.a-Vd p (O x.t) x.b)=Iv.d p x:=AW (by omega) (by omega);simp only[HX];rcases hd with hd | hd
  ·rw[if_pos hd];exact Wb _ x.r x.t _ _ _ _ _ (by rw[ew,hd];rfl)
  ·rw[if_neg (by omega)];have k:=Wc (D6 (BH p)) x.r x.t (x.a:Nat) (x.b:Nat) _ _ (E:Nat) (by rw[ew,hd];rfl) (by rw[ew,hd];rfl) (by rw[LL];omega);rw[show A 0=0 from rfl,O8 h1,hfr] at k;exact k
 | succ n ih =>
  intro x C m hx hC hd hL;have b1:=Oa hlen (O x.r) x.a;have b2:=Oa hlen (O x.t) x.b;have ew:D R (Vd p (O x.r) x.a-Vd p (O x.t) x.b)=Iv.d p x:=AW (by omega) (by omega);simp only[HX] at hL |-;by_cases c0:x.d p=0
  ·rw[if_pos c0];exact Wb _ x.r x.t _ _ _ _ _ (by rw[ew,c0];rfl)
  ·rw[if_neg c0] at hL |-;by_cases c1:x.d p=1
   ·rw[if_pos c1];have k:=Wc (D6 (BH p)) x.r x.t (x.a:Nat) (x.b:Nat) _ _ (E:Nat) (by rw[ew,c1];rfl) (by rw[ew,c1];rfl) (by rw[LL];omega);rw[show A 0=0 from rfl,O8 h1,hfr] at k;exact k
   ·rw[if_neg c1] at hL |-;rcases hd with hd | hd | ⟨d1,d2,d3⟩
    ·exact absurd hd c0
    ·exact absurd hd c1
    ·obtain⟨S,o2,o3,o4⟩:=Asz hx (by omega);obtain⟨gr,gt,ha,hb,vr,vt⟩:=hx;rw[AU] at hL;have k1:=ih x.lf C (m+1) S (by omega) d2 (by omega);have k2:=ih x.rg C (m+1) o2 (by omega) d3 (by omega);have hm:=QW (gr.mono (show 100<=200 by omega)) (gt.mono (show 100<=200 by omega)) (a:=x.a) (b:=x.b) (by omega) (by omega);have hv:=HV hnice o3 x.me (by omega) (by omega);rw[At] at hv;have e1:Vd p (O (cn x.mn)) x.me=Vd p x.mn x.me:=by rw[At]
     have f1:(x.lf).t=cn x.mn:=rfl;have f2:(x.rg).r=cn x.mn:=rfl;rw[f1,show x.lf.b=x.me from rfl,show x.lf.r=x.r from rfl,show x.lf.a=x.a from rfl,e1] at k1;rw[f2,show x.rg.a=x.me from rfl,show x.rg.t=x.t from rfl,show x.rg.b=x.b from rfl,e1] at k2;have k:=nS (D6 (BH p)) x.r x.t (x.a:Nat) (x.b:Nat) _ _ (E:Nat) x.mn (x.me:Nat) _ true true _ _ _ _ (by rw[ew,beq_eq_false_iff_ne];exact c0) (by rw[ew,beq_eq_false_iff_ne];exact c1) (by rw[decide_eq_false_iff_not];omega) rfl (by rw[Tn,N]) (by omega) hm hv k1 k2;rw[AU,DR,NY];exact k
end
theorem fU{p:List Int}{C:Nat}:∀ (n:Nat) (x:Iv) (m:Nat),IvOk C m x->C+m+n+1<3000->∀ y∈HX p n x,IvOk C (m+n) y:=by
 intro n;induction n with
 | zero =>
  intro x m hx _ y hy;simp only[HX] at hy;split at hy
  ·cases hy
  ·rcases CH.1 hy with rfl | hy
   ·exact hx
   ·cases hy
 | succ n ih =>
  intro x m hx hC y hy;have up:IvOk C (m+(n+1)) x:=⟨hx.gr,hx.gt,by have:=hx.a;omega,by have:=hx.b;omega,hx.vr,hx.vt⟩;simp only[HX] at hy;split at hy
  ·cases hy
  ·split at hy
   ·rcases CH.1 hy with rfl | hy
    ·exact up
    ·cases hy
   ·obtain⟨S,o2,_,_⟩:=Asz hx (by omega);rcases BJ.1 hy with hy | hy
    ·have:=ih x.lf (m+1) S (by omega) y hy;rwa [show m+1+n=m+(n+1) by omega] at this
    ·have:=ih x.rg (m+1) o2 (by omega) y hy;rwa [show m+1+n=m+(n+1) by omega] at this
theorem MD{p:List Int}{K:Nat}(h:Kb K p)(hK:K<=256)(hl:p.length<=17):C' p=false:=by
 have ht:=Bn p;unfold C';rw[decide_eq_false (by omega),Wu,Ph];intro x hx;have:=(h.trim.mem x hx).len;unfold NU;simp only[decide_eq_true_eq];omega
def Ju(p:List Int)(n:Nat)(x:Iv):List Iv:=if (BH p).length<2 then [] else HX p n x
def Iv.out(p:List Int)(x:Iv):Rt:=⟨p.map cn,cn (O x.r),(x.a:Nat),cn (O x.t),(x.b:Nat)⟩
theorem Z6{p:List Int}(h:0<(BH p).length):(BH p).getD 0 []=Af p:=by
 unfold BH at h |-;split at h
 ·simp at h
 ·rename_i g;rw[if_neg g];rfl
section
variable {rs:List Rn} (hg:∀ r∈rs,u 5 r) (hn:rs.length<=9)
include hg hn
theorem Acm{n:Nat}{x:Iv}{C m:Nat}(hx:IvOk C m x)(hC:C+m+n+1<3000){E:Nat}(hE:E<=1000000)(hd:Deep (M rs) E n x)(hL:(HX (M rs) n x).length<=1000*1000) :
  H I 56 [sL pc rs,A5 x.r (x.a:Nat),A5 x.t (x.b:Nat),.int .i64 (E:Nat)] (.frs (.tp true) 7 ((Ju (M rs) n x).map (Gi (Af (M rs)))).length (Gv ((Ju (M rs) n x).map (Gi (Af (M rs)))))) \/
  H I 56 [sL pc rs,A5 x.r (x.a:Nat),A5 x.t (x.b:Nat),.int .i64 (E:Nat)] (.tup [.sl ((Ju (M rs) n x).map (Gi (Af (M rs)))).length (Gv ((Ju (M rs) n x).map (Gi (Af (M rs))))),.bool true]):=by
 have hch:=Tf hg hn;have hnice:=M8 hg hn;have hlen:=IU hg hn;unfold Ju;by_cases c:(BH (M rs)).length<2
 ·rw[if_pos c];exact .inl (Abu rs _ x.r x.t _ _ _ (by rw[decide_eq_true_eq,LL];omega) hch)
 ·rw[if_neg c];have x1:=HV hnice hx.gr x.a (by have:=hx.a;omega) (by omega);have x2:=HV hnice hx.gt x.b (by have:=hx.b;omega) (by omega);have sp:=nZ hnice hlen (by omega) (Z6 (by omega)) hE n x C m hx hC hd hL;rw[N];exact .inr (Abv rs _ x.r x.t _ _ _ _ _ true _ _ (by rw[decide_eq_false_iff_not,LL];omega) hch x1 x2 sp)
theorem Ata(h0:Y (M rs) ≠ [])(hl:C' (M rs)=false){n:Nat}{x:Iv}{C m:Nat}(hx:IvOk C m x)(hC:C+m+n+1<3000)(hd:Deep (M rs) 896 n x)(hL:(HX (M rs) n x).length<=1000*1000)
  (e1:Ym x.r (x.a:Nat)=true) (e2:Ym x.t (x.b:Nat)=true) (hle:¬ CF (O x.r) x.a (O x.t) x.b>0) :
  H I 15 [sL pc rs,A5 x.r (x.a:Nat),A5 x.t (x.b:Nat)] (.tup [.sl (Ju (M rs) n x).length (Gv ((Ju (M rs) n x).map (Iv.out (Af (M rs))))),.int .i64 0]):=by
 have s1:=NW hg (by omega) (by omega);rw[hl] at s1;have dg:=GB (fun r h=>(hg r h).mono (by omega)) (show rs.length<=1048576 by omega);have htl:=Fs (M rs);rw[s] at htl;have hpos:=An.2 h0;have y1:=fT (e:=(x.a:Nat)) hx.gr;have y2:=fT (e:=(x.b:Nat)) hx.gt;rw[e1] at y1;rw[e2] at y2;have cm:=JL (hx.gr.mono (show 100<=200 by omega)) (hx.gt.mono (show 100<=200 by omega)) (a:=x.a) (b:=x.b) (by have:=hx.a;omega) (by have:=hx.b;omega);have ri:=Acm hg hn hx hC (E:=896) (by omega) hd hL;obtain⟨k1,k2⟩:=XY h0 (by rw[s];exact hn) (HU (C4 hg));have lf:=(Fi h0).1;have htl2:=Bn (M rs);rw[s] at htl2;have hsm:=NW (rs:=(Af (M rs)).map cn) (K:=8) (AP k1) (by omega) (by rw[N];omega);rw[AH,MD k1 (by omega) (by omega)] at hsm;have htr:=Hx (rs:=(Af (M rs)).map cn) (fun r h=>(AP k1 r h).mono (show 8<=1048576 by omega)) (by rw[N];omega);rw[AH,lf] at htr;have hok:∀ y∈Ju (M rs) n x,IvOk C (m+n) y:=by
  unfold Ju;split
  ·intro y hy;cases hy
  ·exact fU n x m hx hC
 have hlen:(Ju (M rs) n x).length<=1000*1000:=by unfold Ju;split <;> simp <;> omega
 generalize Ju (M rs) n x=L at *
 generalize hq:Af (M rs)=q at *
 have step:∀ i,i<L.length->W I Uj (MP rs (L.map (Gi q)) i (Gv ((L.take i).map (Iv.out q))) ((L.map (Gi q)).length:Nat) (i:Nat)) .norm (MP rs (L.map (Gi q)) (i+1) (Gv ((L.take (i+1)).map (Iv.out q))) ((L.map (Gi q)).length:Nat) ((i+1:Nat):Int)):=by
  intro i hi;have ei:D R ((i:Int)+1)=((i+1:Nat):Int):=by rw[AW (by omega) (by omega)];omega
  have hy:=hok L[i] (Dc hi);have eg:(L.map (Gi q)).getD (A (i:Int)) zR=Gi q L[i]:=by
   rw[F,Z,CA,Ae hi];rfl
  have gr:=hy.gr;have gt:=hy.gt;have c1:=V' L[i].r (L[i].a:Nat) _ (Is (neg:=L[i].r.1) gr.1 (by have:=gr.2;omega));have c2:=V' L[i].t (L[i].b:Nat) _ (Is (neg:=L[i].t.1) gt.1 (by have:=gt.2;omega));have ro:=rB (q.map cn) L[i].r L[i].t (L[i].a:Nat) (L[i].b:Nat) _ _ _ _ _ (Eg htr) c1 c2;have k:=Azx rs (L.map (Gi q)) i (Gv ((L.take i).map (Iv.out q))) ((L.map (Gi q)).length:Nat) (i:Nat) (q.map cn) (O L[i].r) (L[i].a:Nat) (O L[i].t) (L[i].b:Nat) true (by rw[decide_eq_true_eq,N];omega) rfl (by rw[N];omega) (by omega) (by rw[eg];exact hsm) (by rw[eg];exact ro);have et:Gv ((L.take (i+1)).map (Iv.out q))=Gv ((L.take i).map (Iv.out q))++([.sl (q.map cn).length (pc (q.map cn)),.bool ((cn (O L[i].r)).1),.sl ((cn (O L[i].r)).2.length) (lm (cn (O L[i].r)).2),.int .i64 (L[i].a:Nat),.bool ((cn (O L[i].t)).1),.sl ((cn (O L[i].t)).2.length) (lm (cn (O L[i].t)).2),.int .i64 (L[i].b:Nat)]:List AV):=by
   rw[pI hi,DR,NY];rfl
  rw[ei] at k;rw[et];exact k
 have lp:=W.up (prog:=I) (c:=Uj) (ex := .exit 1) (fin:=MP rs (L.map (Gi q)) L.length (Gv ((L.take L.length).map (Iv.out q))) ((L.map (Gi q)).length:Nat) (L.length:Int))
  (fun i=>MP rs (L.map (Gi q)) i (Gv ((L.take i).map (Iv.out q))) ((L.map (Gi q)).length:Nat) (i:Nat)) L.length (by nofun) step (Azy _ _ _ _ _ _ (by rw[decide_eq_false_iff_not,N];omega)) 0 (Bf _)
 rw[Ee] at lp;rcases ri with ri | ri
 ·exact fE rs x.r x.t _ _ _ _ _ true true true true (L.map (Gi q)) _ _ rfl (by rw[decide_eq_false_iff_not];omega) rfl rfl (decide_eq_false hle) rfl s1 dg y1 y2 cm ri lp
 ·exact fG rs x.r x.t _ _ _ _ _ true true true true (L.map (Gi q)) _ _ rfl (by rw[decide_eq_false_iff_not];omega) rfl rfl (decide_eq_false hle) rfl s1 dg y1 y2 cm ri lp
end
section
variable {rs ss:List Rn} (hg:∀ r∈rs,u 5 r) (hn:rs.length<=9) {x y:Iv} {C m:Nat} (hx:IvOk C m x)
include hg hn hx
theorem fV(v1:J6 rs x.r (x.a:Nat) x.t (x.b:Nat)=true){k:Int}(hk:0<=k/\k<=64){z:Int}
  (h:H I 77 [x.av (Af (M rs)),.int .i64 k] (Ab z)) :
  H I 25 [BD rs x.r (x.a:Nat) x.t (x.b:Nat),.int .i64 k] (.tup [Ab z,.int .i64 0]):=by
 have g1:=MB hg hn hx.gr hx.gt (x.a:Nat) (x.b:Nat);rw[v1] at g1;exact Abx rs x.r x.t _ _ k z _ true rfl (by rw[decide_eq_false_iff_not];omega) (by rw[decide_eq_false_iff_not];omega) g1 (Sn hg hn x.r x.t _ _) h
end
theorem Atb(x:Int)(a:Nat)(y:Int)(b:Nat):QV x a y b*(2*(2^a*2^b))=(x*2^b+y*2^a)*2^NV x a y b:=by
 have hz:=Kj (max a b+1) (If x a y b);obtain⟨N,hN⟩:=I0 (max a b+1) (If x a y b);have hS:If x a y b=x*2^(max a b-a)+y*2^(max a b-b):=rfl;unfold QV NV;generalize If x a y b=S at *
 generalize Fe S (max a b+1)=z at *
 have pz:=Bg z;have e:S / 2^z=N:=by rw[hN];exact BN _ (by omega)
 rw[e];obtain⟨k,hk⟩:∃ k,max a b+1=z+k:=⟨max a b+1-z,by omega⟩;rw[show max a b+1-z=k by omega];have hz2:(2:Int)^z*2^k=2*2^max a b:=by rw[<- B4,<- hk,Ay,AD]
 have ea:(2:Int)^max a b=2^(max a b-a)*2^a:=by rw[<- B4];congr 1;omega
 have eb:(2:Int)^max a b=2^(max a b-b)*2^b:=by rw[<- B4];congr 1;omega
 generalize (2:Int)^max a b=M at *
 generalize (2:Int)^(max a b-a)=u at *
 generalize (2:Int)^(max a b-b)=v at *
 generalize (2:Int)^a=A at *
 generalize (2:Int)^b=B at *
 generalize (2:Int)^z=Z at *
 generalize (2:Int)^k=K at *
 apply HY (show Z ≠ 0 by omega);have e1:Z*(N*(2*(A*B)))=(x*u+y*v)*(2*(A*B)):=by rw[<- hS,hN];grind
 have e2:Z*((x*B+y*A)*K)=(x*B+y*A)*(2*M):=by rw[<- hz2];grind
 have e3:x*B*(2*M)=x*u*(2*(A*B)):=by rw[ea];grind
 have e4:y*A*(2*M)=y*v*(2*(A*B)):=by rw[eb];grind
 rw[e1,e2,GH,GH,e3,e4]
theorem Atc{a b:Int}:Cw a b = -1↔a<b:=by unfold Cw; (repeat' split) <;> omega
theorem fW{a b:Int}:Cw a b=0↔a=b:=by unfold Cw; (repeat' split) <;> omega
end Go.Proofs.YtajompaehjkgkaaGreat
namespace Go.Ai
open Classical renaming byContradiction->AE
open Decidable renaming decide->B
open Int renaming add_mul->GH,add_zero->B2,le_of_eq->JN,le_of_lt->Aw,le_of_mul_le_mul_left->EH,le_refl->DL,le_trans->Fy,lt_of_lt_of_le->RV,lt_trichotomy->pL,mul_add->C1,mul_assoc->AB,mul_comm->AD,mul_le_mul->Ei,mul_le_mul_of_nonneg_left->Ah,mul_le_mul_of_nonneg_right->Ad,mul_ne_zero->BK,mul_neg_of_pos_of_neg->LD,mul_nonneg->A1,mul_one->Dp,mul_pos->BE,mul_pow->Qh,mul_sub->HG,mul_zero->AG,natAbs->E,natAbs_mul->BA,natAbs_natCast->B9,natCast_add->J7,natCast_mul->Dj,natCast_nonneg->Hd,natCast_pow->Cr,ofNat_le->MY,one_mul->CR,pow_pos->EX,pow_succ->Ay,pow_zero->Da,sub_self->SU,zero_mul->DF
open List renaming cons_append->H5,countP_eq_length_filter->Hg,eq_nil_of_length_eq_zero->A3,getD_eq_getElem?_getD->Z,getElem?_eq_getElem->Ae,length_cons->Bo,length_eq_countP_add_countP->pJ,length_map->N,length_pos_iff->An,length_range->BY,length_tail->St,length_take->A7,map_append->DR,map_cons->Cz,map_nil->FF,mem_cons->CH,mem_cons_of_mem->A_,mem_cons_self->Bs,mem_filter->Ik,mem_iff_getElem->Hf,mem_of_mem_take->Cg,range->Ao,range_succ->FX,take_sublist->A5l
open Nat renaming add_assoc->CO,add_sub_cancel->Ib,div_add_mod->gM,div_div_eq_div_mul->fY,div_lt_of_lt_mul->oD,eq_zero_or_pos->F6,le_mul_of_pos_left->WY,le_mul_of_pos_right->BQ,le_of_not_lt->MH,le_refl->Am,le_trans->Bq,mod_eq_of_lt->Fj,mod_lt->G5,mul_add->A5h,mul_add_mod->Aui,mul_assoc->EA,mul_comm->CP,mul_le_mul->Bx,mul_le_mul_left->z,mul_le_mul_right->A8,mul_one->Ia,mul_pos->Eu,mul_zero->ZF,not_lt_zero->Qc,pow_le_pow_right->Bm,pow_pos->Cn,pow_succ->F8,succ_mul->Kz,zero_le->Bf
open Rat renaming div_def->A5i,intCast_add->Tz,intCast_le_intCast->Dk,intCast_mul->Eo,intCast_natCast->Gl,inv_pos->A5k,le_of_lt->LQ,mul_le_mul_of_nonneg_left->TL,mul_le_mul_of_nonneg_right->IJ,mul_lt_mul_of_pos_right->JO,mul_nonneg->H6,mul_pos->Jr,natCast_add->Auj,natCast_le_natCast->gH,natCast_mul->Auk,one_mul->A5j,pow_succ->A4u
theorem Z7:∀ (M N:Nat) (φ:Nat->Nat),(∀ i,i<N->φ i<M)->M<N->∃ i j,i<j/\j<N/\φ i=φ j
 | 0,N,φ,h,hN=>absurd (h 0 hN) (Qc _)
 | M+1,N,φ,h,hN=>by
  by_cases h0:∃ i,i<N/\φ i=M
  ·obtain⟨i,hi,ei⟩:=h0;by_cases h1:∃ j,j<N/\j ≠ i/\φ j=M
   ·obtain⟨j,hj,hne,ej⟩:=h1;rcases Nat.lt_or_gt_of_ne hne with g | g
    ·exact⟨j,i,g,hi,by omega⟩
    ·exact⟨i,j,g,hj,by omega⟩
   ·have other:∀ j,j<N->j ≠ i->φ j<M:=fun j hj hne=>by
     have:=h j hj;have:φ j ≠ M:=fun e=>h1 ⟨j,hj,hne,e⟩;omega
    obtain⟨a,b,hab,hb,e⟩:=Z7 M (N-1) (fun k=>φ (if k<i then k else k+1)) (fun k hk=>other _ (by split <;> omega) (by split <;> omega)) (by omega);refine⟨if a<i then a else a+1,if b<i then b else b+1,by split <;> split <;> omega,by split <;> omega,e⟩
  ·obtain⟨a,b,hab,hb,e⟩:=Z7 M N φ (fun i hi=>by
    have:=h i hi;have:φ i ≠ M:=fun e=>h0 ⟨i,hi,e⟩;omega) (by omega)
   exact⟨a,b,hab,hb,e⟩
def J8(B v i:Nat):Nat:=v / (B+1)^i % (B+1)
theorem Z8(B v i:Nat):J8 B v i<=B:=by
 have:=G5 (v / (B+1)^i) (show 0<B+1 by omega);unfold J8;omega
theorem fX(B:Nat):∀ (k v w:Nat),v<(B+1)^k->w<(B+1)^k->(∀ i,i<k->J8 B v i=J8 B w i)->v=w
 | 0,v,w,hv,hw,_=>by simp at hv hw;omega
 | k+1,v,w,hv,hw,h=>by
  have h0:=h 0 (by omega);simp only[J8,Nat.pow_zero,Nat.div_one] at h0;have hd:v / (B+1)=w / (B+1):=by
   apply fX B k
   ·rw[F8] at hv;exact oD (by rw[CP];exact hv)
   ·rw[F8] at hw;exact oD (by rw[CP];exact hw)
   ·intro i hi;have:=h (i+1) (by omega);simp only[J8] at this |-;rw[fY,fY,CP (B+1),<- F8];exact this
  have e1:=gM v (B+1);have e2:=gM w (B+1);rw[hd] at e1;omega
def D_(f:Nat->Int):Nat->Int
 | 0=>0
 | n+1=>D_ f n+f n
theorem Yn(f g:Nat->Int):∀ n,D_ (fun i=>f i-g i) n=D_ f n-D_ g n
 | 0=>rfl
 | n+1=>by simp only[D_];rw[Yn f g n];omega
theorem OD{f g:Nat->Int}:∀ {n},(∀ i,i<n->f i=g i)->D_ f n=D_ g n
 | 0,_=>rfl
 | n+1,h=>by simp only[D_];rw[OD fun i hi=>h i (by omega),h n (by omega)]
theorem Yo{f:Nat->Int}{A:Nat}:∀ n,(∀ i,i<n->(f i).natAbs<=A)->(D_ f n).natAbs<=n*A
 | 0,_=>by simp[D_]
 | n+1,h=>by
  have h1:=Yo n fun i hi=>h i (by omega);have h2:=h n (by omega);simp only[D_,Kz];omega
def IL(t:Nat->Nat)(Q:Nat):Nat->Nat
 | 0=>0
 | m+1=>IL t Q m*Q+t m
theorem fZ{t:Nat->Nat}{Q:Nat}:∀ m,(∀ j,j<m->t j<Q)->IL t Q m<Q^m
 | 0,_=>by simp[IL]
 | m+1,h=>by
  have h1:=fZ m fun j hj=>h j (by omega);have h2:=h m (by omega);simp only[IL,F8];have:(IL t Q m+1)*Q<=Q^m*Q:=A8 _ h1;rw[Kz] at this;omega
theorem Yp{t u:Nat->Nat}{Q:Nat}:∀ m,(∀ j,j<m->t j<Q)->(∀ j,j<m->u j<Q)->IL t Q m=IL u Q m->∀ j,j<m->t j=u j
 | 0,_,_,_,j,hj=>absurd hj (Qc _)
 | m+1,ht,hu,h,j,hj=>by
  have h1:=ht m (by omega);have h2:=hu m (by omega);simp only[IL] at h;have e1:(IL t Q m*Q+t m) % Q=(IL u Q m*Q+u m) % Q:=by rw[h]
  rw[CP,Aui,Fj h1,CP,Aui,Fj h2] at e1;have e2:IL t Q m=IL u Q m:=Nat.eq_of_mul_eq_mul_right (show 0<Q by omega) (by omega);by_cases hjm:j=m
  ·rw[hjm];exact e1
  ·exact Yp m (fun j hj=>ht j (by omega)) (fun j hj=>hu j (by omega)) e2 j (by omega)
theorem A0n(k C:Nat)(a:Nat->Nat->Int)(ha:∀ j i,(a j i).natAbs<=C)(hC:0<C)(hk:1<=k) :
  ∃ d:Nat->Int,(∀ i,(d i).natAbs<=(2*(k*C))^(k-1))/\(∃ i,i<k/\d i ≠ 0)/\∀ j,j<k-1->D_ (fun i=>a j i*d i) k=0:=by
 have hS:0<k*C:=Eu hk hC;generalize hB:(2*(k*C))^(k-1)=B;have hval:∀ v j,(D_ (fun i=>a j i*(J8 B v i:Int)) k).natAbs<=k*C*B:=by
  intro v j;have:=Yo (f:=fun i=>a j i*(J8 B v i:Int)) (A:=C*B) k (fun i _=>by
   rw[BA,B9];exact Bx (ha j i) (Z8 B v i))
  rwa [<- EA] at this
 have ht:∀ v j,(D_ (fun i=>a j i*(J8 B v i:Int)) k+(k*C*B:Nat)).toNat<2*(k*C*B)+1:=by
  intro v j;have:=hval v j;omega
 have hlt:(2*(k*C*B)+1)^(k-1)<(B+1)^k:=by
  have h1:(2*(k*C*B)+1)^(k-1)<=(2*(k*C)*(B+1))^(k-1):=by
   apply Nat.pow_le_pow_left;have:2*(k*C)*(B+1)=2*(k*C*B)+2*(k*C):=by rw[A5h,Ia,EA 2]
   omega
  rw[Nat.mul_pow,hB] at h1;have h2:(B+1)^k=(B+1)^(k-1)*(B+1):=by rw[<- F8];congr 1;omega
  have h3:0<(B+1)^(k-1):=Cn (by omega);have h4:(B+1)^(k-1)*B=B*(B+1)^(k-1):=CP ..;rw[h2,A5h,Ia];omega
 obtain⟨v,w,hvw,hw,e⟩:=Z7 _ _ (fun v=>IL (fun j=>(D_ (fun i=>a j i*(J8 B v i:Int)) k+(k*C*B:Nat)).toNat) (2*(k*C*B)+1) (k-1)) (fun v _=>fZ _ (fun j _=>ht v j)) hlt;have he:=Yp (k-1) (fun j _=>ht v j) (fun j _=>ht w j) e;refine⟨fun i=>(J8 B w i:Int)-(J8 B v i:Int),fun i => ?_,?_,fun j hj => ?_⟩
 ·have h1:=Z8 B v i;have h2:=Z8 B w i;show ((J8 B w i:Int)-(J8 B v i:Int)).natAbs<=B;omega
 ·apply AE;intro hn;have:=fX B k v w (by omega) hw (fun i hi=>by
   apply AE;intro g;exact hn ⟨i,hi,by show (J8 B w i:Int)-(J8 B v i:Int) ≠ 0;omega⟩)
  omega
 ·have h1:(D_ (fun i=>a j i*(J8 B v i:Int)) k+(k*C*B:Nat)).toNat=(D_ (fun i=>a j i*(J8 B w i:Int)) k+(k*C*B:Nat)).toNat:=he j hj;have h2:=hval v j;have h3:=hval w j;have h4:=Yn (fun i=>a j i*(J8 B w i:Int)) (fun i=>a j i*(J8 B v i:Int)) k;have h5:D_ (fun i=>a j i*((J8 B w i:Int)-(J8 B v i:Int))) k=D_ (fun i=>a j i*(J8 B w i:Int)-a j i*(J8 B v i:Int)) k:=OD fun i _=>HG ..;rw[h5,h4];omega
def comb(d:Nat->Int)(b:Nat->List Int):Nat->List Int
 | 0=>[]
 | n+1=>DQ (comb d b n) (Ax (d n) (b n))
theorem Wk(d:Nat->Int)(b:Nat->List Int)(j:Nat):∀ n,(comb d b n).getD j 0=D_ (fun i=>(b i).getD j 0*d i) n
 | 0=>by simp[comb,D_]
 | n+1=>by
  simp only[comb,D_];rw[CY,AO,Wk d b j n,AD (d n)]
theorem Tt(d:Nat->Int)(b:Nat->List Int)(x:Int):∀ n,V (comb d b n) x=D_ (fun i=>d i*V (b i) x) n
 | 0=>by simp[comb,D_,V]
 | n+1=>by
  simp only[comb,D_];rw[BW,A0,Tt d b x n]
theorem Wl{f:Nat->Int}:∀ {n},(∀ i,i<n->f i=0)->D_ f n=0
 | 0,_=>rfl
 | n+1,h=>by simp only[D_];rw[Wl fun i hi=>h i (by omega),h n (by omega)];rfl
theorem gA(b:Nat->List Int)(k C:Nat)(hb:∀ i j,((b i).getD j 0).natAbs<=C)(hC:0<C)(hk:1<=k)(hl:∀ i,i<k->(b i).length<=k) :
  ∃ (d:Nat->Int) (R:Int),(∀ i,(d i).natAbs<=(2*(k*C))^(k-1))/\(∃ i,i<k/\d i ≠ 0)/\∀ x,D_ (fun i=>d i*V (b i) x) k=R:=by
 obtain⟨d,h1,h2,h3⟩:=A0n k C (fun j i=>(b i).getD (j+1) 0) (fun j i=>hb i (j+1)) hC hk;refine⟨d,(comb d b k).getD 0 0,h1,h2,fun x => ?_⟩;rw[<- Tt];have hz:∀ j,(comb d b k).getD j 0=[(comb d b k).getD 0 0].getD j 0:=by
  intro j;cases j with
  | zero=>rfl
  | succ j =>
   show _=0;rw[Wk];by_cases hj:j<k-1
   ·exact h3 j hj
   ·exact Wl fun i hi=>by rw[Bv (by have:=hl i hi;omega),DF]
 have e:Y (comb d b k)=Y [(comb d b k).getD 0 0]:=FL hz;rw[<- E1 (comb d b k),e,E1];simp[V]
def Ru(f:List Int):List Int:=DQ (Ax ((f.length-1:Nat):Int) f) (Ax (-1) (Di 1 (As f)))
theorem oF(f:List Int)(x:Int):V (Ru f) x=((f.length-1:Nat):Int)*V f x-x*V (As f) x:=by
 unfold Ru;rw[BW,A0,A0,DJ,Ay,Da,CR];omega
theorem Yq(f:List Int)(i:Nat):(Ru f).getD i 0=(((f.length-1:Nat):Int)-(i:Int))*f.getD i 0:=by
 unfold Ru;rw[CY,AO,AO,Cu];cases i with
 | zero=>simp
 | succ i =>
  rw[if_pos (by omega),Dx,Ib];rw[Int.sub_mul];have:f.getD (i+1) 0*((i+1:Nat):Int)=((i+1:Nat):Int)*f.getD (i+1) 0:=AD ..;omega
theorem gB(f:List Int):(Ru f).length<=f.length-1:=by
 have h:∀ i,f.length-1<=i->(Ru f).getD i 0=0:=by
  intro i hi;rw[Yq];by_cases e:i=f.length-1
  ·rw[e,SU,DF]
  ·rw[Bv (show f.length<=i by omega),AG]
 apply AE;intro hn;have hl:BU (Ru f):=by
  show Y _=_;unfold Ru DQ;rw[Hv]
 exact E8 hl (fun e=>by rw[e] at hn;simp at hn) (h _ (by omega))
def oH(f:List Int)(m i:Nat):List Int:=if i<m then Di i (Ru f) else Di (i-m) (As f)
theorem Yr(f:Nat->Int)(m:Nat):∀ k,D_ f (m+k)=D_ f m+D_ (fun i=>f (m+i)) k
 | 0=>by simp[D_]
 | k+1=>by
  rw[<- CO];simp only[D_];rw[Yr f m k];omega
theorem Ob(d:Nat->Int)(x:Int):∀ m,D_ (fun i=>d i*x^i) m=V ((Ao m).map d) x
 | 0=>rfl
 | m+1=>by
  simp only[D_];rw[Ob d x m,FX,DR];have:∀ (l:List Int) (a:Int),V (l++[a]) x=V l x+a*x^l.length:=by
   intro l a;induction l with
   | nil=>simp[V]
   | cons b l ih =>
    simp only[H5,V,Bo];rw[ih,Ay];grind
  rw[Cz,FF,this,N,BY]
theorem Ss(f:Nat->Int)(c:Int):∀ m,D_ (fun i=>f i*c) m=D_ f m*c
 | 0=>by simp[D_]
 | m+1=>by simp only[D_];rw[Ss f c m,GH]
theorem Atd{f:List Int}{n:Nat}(hn:f.length=n+1)(h2:2<=n)(hp:(As f).length=n){i:Nat}(hi:i<(n-1)+(n-1)):(oH f (n-1) i).length<=(n-1)+(n-1):=by
 have:=gB f;unfold oH;split
 ·rw[Km];omega
 ·rw[Km];omega
theorem oJ{f:List Int}{n A:Nat}(hn:f.length=n+1)(hA:∀ i,(f.getD i 0).natAbs<=A)(i j:Nat):((oH f (n-1) i).getD j 0).natAbs<=n*A:=by
 have hh:∀ j,((Ru f).getD j 0).natAbs<=n*A:=by
  intro j;rw[Yq,hn,BA];by_cases hj:j<=n
  ·exact Bx (by omega) (hA j)
  ·rw[Bv (by omega)];simp
 have hd:∀ j,((As f).getD j 0).natAbs<=n*A:=by
  intro j;rw[Dx,BA,CP];by_cases hj:j<n
  ·exact Bx (by omega) (hA (j+1))
  ·rw[Bv (by omega)];simp
 unfold oH;split
 ·rw[Cu];split
  ·exact hh _
  ·simp
 ·rw[Cu];split
  ·exact hd _
  ·simp
theorem gC{f:List Int}{n A:Nat}(hn:f.length=n+1)(h2:2<=n)(hp:(As f).length=n)(hA:∀ i,(f.getD i 0).natAbs<=A)(hA0:0<A) :
  ∃ (d:Nat->Int) (R:Int),(∀ i,(d i).natAbs<=(2*(((n-1)+(n-1))*(n*A)))^((n-1)+(n-1)-1))/\(∃ i,i<(n-1)+(n-1)/\d i ≠ 0) /\
   ∀ x,V ((Ao (n-1)).map d) x*V (Ru f) x+V ((Ao (n-1)).map fun i=>d (n-1+i)) x*V (As f) x=R:=by
 obtain⟨d,R,h1,h3,h4⟩:=gA (oH f (n-1)) ((n-1)+(n-1)) (n*A) (oJ hn hA) (Eu (by omega) hA0) (by omega) (fun i hi=>Atd hn h2 hp hi);refine⟨d,R,h1,h3,fun x => ?_⟩;rw[<- h4 x,Yr,<- Ob,<- Ob,<- Ss,<- Ss];congr 1
 ·apply OD;intro i hi;unfold oH;rw[if_pos hi,DJ,AB]
 ·apply OD;intro i hi;unfold oH;rw[if_neg (by omega),DJ,show n-1+i-(n-1)=i by omega,AB]
def pq:List Int->Rat->Rat
 | [],_=>0
 | a::p,x=>(a:Rat)+x*pq p x
def pd:List Int->Rat->Rat
 | [],_=>0
 | _::p,x=>pq p x+x*pd p x
def dD:List Int->Rat->Rat->Rat
 | [],_,_=>0
 | _::p,a,b=>pq p a+b*dD p a b
def dE:List Int->Rat->Rat->Rat
 | [],_,_=>0
 | _::p,a,b=>dD p a b+b*dE p a b+pd p a
def dT:List Int->Rat->Rat->Rat
 | [],_,_=>0
 | _::p,a,b=>b*dT p a b+pd p a
def dS:List Int->Rat->Rat->Rat
 | [],_,_=>0
 | _::p,a,b=>a*dS p a b-dT p a b+dE p a b
theorem Oc(a b:Rat):∀ f,pq f b=pq f a+(b-a)*dD f a b
 | []=>by simp[pq,dD];grind
 | c::p=>by
  have:=Oc a b p;simp only[pq,dD];grind
theorem gD(a b:Rat):∀ f,pd f b=pd f a+(b-a)*dE f a b
 | []=>by simp[pd,dE];grind
 | c::p=>by
  have h1:=gD a b p;have h2:=Oc a b p;simp only[pd,dE];grind
theorem Z9(a b:Rat):∀ f,pq f b=pq f a+(b-a)*pd f a+(b-a)*(b-a)*dT f a b
 | []=>by simp[pq,pd,dT];grind
 | c::p=>by
  have:=Z9 a b p;simp only[pq,pd,dT];grind
theorem gF(a b:Rat):∀ f,dT f b a=dT f a b+(b-a)*dS f a b
 | []=>by simp[dT,dS];grind
 | c::p=>by
  have h1:=gF a b p;have h2:=gD a b p;simp only[dT,dS];grind
def Bd(x c:Rat):Prop := -c<=x/\x<=c
theorem Bd.add{x y c d:Rat}(h:Bd x c)(g:Bd y d):Bd (x+y) (c+d):=by
 unfold Bd at *
 constructor <;> grind
theorem Bd.sub{x y c d:Rat}(h:Bd x c)(g:Bd y d):Bd (x-y) (c+d):=by
 unfold Bd at *
 constructor <;> grind
theorem Bd.mul{x y c d:Rat}(h:Bd x c)(g:Bd y d):Bd (x*y) (c*d):=by
 unfold Bd at *
 have h1:=H6 (show 0<=c-x by grind) (show 0<=d+y by grind);have h2:=H6 (show 0<=c+x by grind) (show 0<=d-y by grind);have h3:=H6 (show 0<=c-x by grind) (show 0<=d-y by grind);have h4:=H6 (show 0<=c+x by grind) (show 0<=d+y by grind);constructor <;> grind
theorem Bd.pos{x c:Rat}(h:Bd x c):0<=c:=by unfold Bd at h;grind
theorem Bd.zero:Bd 0 0:=by unfold Bd;constructor <;> grind
theorem Bd.mono{x c d:Rat}(h:Bd x c)(g:c<=d):Bd x d:=by unfold Bd at *;constructor <;> grind
theorem A0o{n:Int}{A:Nat}(h:n.natAbs<=A):Bd (n:Rat) (A:Rat):=by
 have h1:((-(A:Int):Int):Rat)<=(n:Rat):=Dk.2 (by omega);have h2:(n:Rat)<=((A:Int):Rat):=Dk.2 (by omega);unfold Bd;constructor
 ·rwa [Rat.intCast_neg,Gl] at h1
 ·rwa [Gl] at h2
def zV(X:Nat):Nat->Nat
 | 0=>0
 | n+1=>1+X*zV X n
def zD(X:Nat):Nat->Nat
 | 0=>0
 | n+1=>zV X n+X*zD X n
def zE(X:Nat):Nat->Nat
 | 0=>0
 | n+1=>zD X n+X*zE X n+zD X n
def zT(X:Nat):Nat->Nat
 | 0=>0
 | n+1=>X*zT X n+zD X n
def zS(X:Nat):Nat->Nat
 | 0=>0
 | n+1=>X*zS X n+zT X n+zE X n
section
variable {A X:Nat} {a b:Rat} (ha:Bd a X) (hb:Bd b X)
include ha
theorem PX:∀ f:List Int,(∀ c∈f,c.natAbs<=A)->Bd (pq f a) (A*zV X f.length)
 | [],_=>by simpa [pq,zV] using Bd.zero
 | c::p,h=>by
  have ih:=PX p fun c hc=>h c (A_ _ hc);have h1:=A0o (h c (Bs ..));have:=h1.add (ha.mul ih);simp only[pq,zV,Bo];refine this.mono ?_;simp;grind
theorem oK:∀ f:List Int,(∀ c∈f,c.natAbs<=A)->Bd (pd f a) (A*zD X f.length)
 | [],_=>by simpa [pd,zD] using Bd.zero
 | c::p,h=>by
  have hp:∀ c∈p,c.natAbs<=A:=fun c hc=>h c (A_ _ hc);have:=(PX ha p hp).add (ha.mul (oK p hp));simp only[pd,zD,Bo];refine this.mono ?_;simp;grind
include hb
theorem Wm:∀ f:List Int,(∀ c∈f,c.natAbs<=A)->Bd (dD f a b) (A*zD X f.length)
 | [],_=>by simpa [dD,zD] using Bd.zero
 | c::p,h=>by
  have hp:∀ c∈p,c.natAbs<=A:=fun c hc=>h c (A_ _ hc);have:=(PX ha p hp).add (hb.mul (Wm p hp));simp only[dD,zD,Bo];refine this.mono ?_;simp;grind
theorem Ate:∀ f:List Int,(∀ c∈f,c.natAbs<=A)->Bd (dE f a b) (A*zE X f.length)
 | [],_=>by simpa [dE,zE] using Bd.zero
 | c::p,h=>by
  have hp:∀ c∈p,c.natAbs<=A:=fun c hc=>h c (A_ _ hc);have:=((Wm ha hb p hp).add (hb.mul (Ate p hp))).add (oK ha p hp);simp only[dE,zE,Bo];refine this.mono ?_;simp;grind
theorem oO:∀ f:List Int,(∀ c∈f,c.natAbs<=A)->Bd (dT f a b) (A*zT X f.length)
 | [],_=>by simpa [dT,zT] using Bd.zero
 | c::p,h=>by
  have hp:∀ c∈p,c.natAbs<=A:=fun c hc=>h c (A_ _ hc);have:=(hb.mul (oO p hp)).add (oK ha p hp);simp only[dT,zT,Bo];refine this.mono ?_;simp;grind
theorem Atf:∀ f:List Int,(∀ c∈f,c.natAbs<=A)->Bd (dS f a b) (A*zS X f.length)
 | [],_=>by simpa [dS,zS] using Bd.zero
 | c::p,h=>by
  have hp:∀ c∈p,c.natAbs<=A:=fun c hc=>h c (A_ _ hc);have:=((ha.mul (Atf p hp)).sub (oO ha hb p hp)).add (Ate ha hb p hp);simp only[dS,zS,Bo];refine this.mono ?_;simp;grind
end
theorem far{f U W:List Int}{R:Int}{A B X:Nat}{a b e u:Rat}(hR:R ≠ 0)(hid:∀ x,pq U x*pq f x+pq W x*pd f x=(R:Rat))
  (hA:∀ c∈f,c.natAbs<=A) (hB:∀ c∈W,c.natAbs<=B) (ha:Bd a X) (hb:Bd b X) (hab:a<b)
  (hfa:Bd (pq f a) e) (hfb:Bd (pq f b) e) (hUa:Bd (pq U a) u) (hUb:Bd (pq U b) u)
  (he:(b-a)*(u*e+u*e)+(B*zV X W.length+B*zV X W.length)*(e+e)<=b-a) :
  1<=(b-a)*(b-a)*((B*zD X W.length)*(A*zT X f.length)+(B*zV X W.length)*(A*zS X f.length)):=by
 have i1:=hid a;have i2:=hid b;have t1:=Z9 a b f;have t2:=Z9 b a f;have t3:=gF a b f;have t4:=Oc a b W;have hd:0<b-a:=by grind
 generalize hD:b-a=d at *
 have hba:a-b = -d:=by grind
 rw[hba] at t2;have key:2*(R:Rat)*d=d*(pq U a*pq f a+pq U b*pq f b)+(pq W a+pq W b)*(pq f b-pq f a)+d*(d*d*(dD W a b*dT f b a+pq W a*dS f a b)):=by
  have s1:d*pd f a=pq f b-pq f a-d*d*dT f a b:=by grind
  have s2:d*pd f b=pq f b-pq f a+d*d*dT f b a:=by grind
  have e1:2*(R:Rat)*d=d*(pq U a*pq f a+pq U b*pq f b)+pq W a*(d*pd f a)+pq W b*(d*pd f b):=by grind
  rw[e1,s1,s2];have e2:pq W b=pq W a+d*dD W a b:=t4;have e3:pq W b*dT f b a-pq W a*dT f a b=d*(dD W a b*dT f b a+pq W a*dS f a b):=by rw[e2,t3];grind
  grind
 have b1:=Wm ha hb W hB;have b2:=oO hb ha f hA;have b3:=PX ha W hB;have b4:=Atf ha hb f hA;have b5:=PX hb W hB;have bM:=(b1.mul b2).add (b3.mul b4);have bd1:Bd d d:=by unfold Bd;constructor <;> grind
 have berr:=(bd1.mul ((hUa.mul hfa).add (hUb.mul hfb))).add ((b3.add b5).mul (hfb.sub hfa));generalize hM:(B:Rat)*zD X W.length*(A*zT X f.length)+B*zV X W.length*(A*zS X f.length)=M at *
 generalize dD W a b*dT f b a+pq W a*dS f a b=m at *
 generalize d*(pq U a*pq f a+pq U b*pq f b)+(pq W a+pq W b)*(pq f b-pq f a)=err at *
 have berr2:=berr.mono he;have bdd:Bd (d*(d*d*m)) (d*(d*d*M)):=bd1.mul ((bd1.mul bd1).mul bM);apply AE;intro hn;have hlt:d*(d*d*M)<d:=by
  have h1:d*d*M<1:=by grind
  have h2:=Rat.mul_lt_mul_of_pos_left h1 hd;grind
 unfold Bd at berr2 bdd;rcases pL R 0 with g | g | g
 ·have h1:(R:Rat)<=((-1:Int):Rat):=Dk.2 (by omega);have h2:(R:Rat) <= -1:=by simpa using h1
  have h3:=TL h2 (LQ hd);grind
 ·exact hR g
 ·have h1:((1:Int):Rat)<=(R:Rat):=Dk.2 (by omega);have h2:1<=(R:Rat):=by simpa using h1
  have h3:=TL h2 (LQ hd);grind
theorem Wn(p:List Int)(x:Rat):pq p x=(p.getD 0 0:Int)+x*pq p.tail x:=by
 cases p with
 | nil=>simp[pq];grind
 | cons a p=>simp[pq]
theorem PY(p:List Int)(i:Nat):p.tail.getD i 0=p.getD (i+1) 0:=by
 cases p <;> simp
theorem rJ(c d:Int)(x:Rat):∀ (n:Nat) (p q r:List Int),p.length<=n->q.length<=n->r.length<=n->(∀ i,r.getD i 0=c*p.getD i 0+d*q.getD i 0)->pq r x=(c:Rat)*pq p x+(d:Rat)*pq q x
 | 0,p,q,r,hp,hq,hr,_=>by
  have e1:=A3 (show p.length=0 by omega);have e2:=A3 (show q.length=0 by omega);have e3:=A3 (show r.length=0 by omega);subst e1 e2 e3;simp[pq];grind
 | n+1,p,q,r,hp,hq,hr,h=>by
  have ih:=rJ c d x n p.tail q.tail r.tail (by rw[St];omega) (by rw[St];omega) (by rw[St];omega) (fun i=>by rw[PY,PY,PY];exact h (i+1));rw[Wn p,Wn q,Wn r,ih,h 0,Tz,Eo,Eo];grind
theorem Rc(c d:Int)(x:Rat){p q r:List Int}(h:∀ i,r.getD i 0=c*p.getD i 0+d*q.getD i 0):pq r x=(c:Rat)*pq p x+(d:Rat)*pq q x :=
 rJ c d x (p.length+q.length+r.length) p q r (by omega) (by omega) (by omega) h
theorem A0p{p q:List Int}(h:∀ i,p.getD i 0=q.getD i 0)(x:Rat):pq p x=pq q x:=by
 have:=Rc 1 0 x (p:=q) (q:=q) (r:=p) (fun i=>by rw[h i];omega);rw[this];simp;grind
theorem Atg(p q:List Int)(x:Rat):pq (DQ p q) x=pq p x+pq q x:=by
 have:=Rc 1 1 x (p:=p) (q:=q) (r:=DQ p q) (fun i=>by rw[CY];omega);rw[this];simp
theorem Wo(q:List Int)(x:Rat):∀ p,pq (BL p q) x=pq p x*pq q x
 | []=>by simp[BL,pq]
 | a::p=>by
  have ih:=Wo q x p;have:=Rc a 1 x (p:=q) (q:=0::BL p q) (r:=BL (a::p) q) (fun i=>by simp only[BL];rw[CY,AO];omega);rw[this];simp only[pq,ih];simp;grind
theorem Ath{p q:List Int}(h:∀ x,V p x=V q x)(x:Rat):pq p x=pq q x:=A0p (D7 h) x
theorem gG(x:Rat):∀ p,pq (As p) x=pd p x
 | []=>rfl
 | a::p=>by
  have ih:=gG x p;have:=Rc 1 1 x (p:=p) (q:=0::As p) (r:=As (a::p)) (fun i=>by
   rw[Dx];cases i with
   | zero=>simp
   | succ i =>
    show p.getD (i+1) 0*_=1*p.getD (i+1) 0+1*(As p).getD i 0;rw[Dx];have:p.getD (i+1) 0*((i+1+1:Nat):Int)=p.getD (i+1) 0*((i+1:Nat):Int)+p.getD (i+1) 0:=by rw[show ((i+1+1:Nat):Int)=((i+1:Nat):Int)+1 by omega,C1,Dp]
    omega)
  rw[this];simp only[pq,pd,ih];simp;grind
theorem ZA{U f W g:List Int}{R:Int}(h:∀ x,V U x*V f x+V W x*V g x=R)(x:Rat):pq U x*pq f x+pq W x*pq g x=(R:Rat):=by
 have e:=Ath (p:=DQ (BL U f) (BL W g)) (q:=[R]) (fun x=>by rw[BW,Bk,Bk,h x];simp[V]) x;rw[Atg,Wo,Wo] at e;rw[e];simp[pq];grind
theorem Ys{l:List Int}{c:Int}(h:c∈l):∃ i,c=l.getD i 0:=by
 obtain⟨i,hi,rfl⟩:=Hf.1 h;exact⟨i,by rw[Z,Ae hi];rfl⟩
theorem MS(d:Nat->Int)(n i:Nat):((Ao n).map d).getD i 0=if i<n then d i else 0:=GC d n i
def oP(n A:Nat):Nat:=(2*(((n-1)+(n-1))*(n*A)))^((n-1)+(n-1)-1)
theorem A0q{f:List Int}{n A:Nat}(hn:f.length=n+1)(h2:2<=n)(hp:(As f).length=n)(hG:GO [1] f (As f))(hA:∀ i,(f.getD i 0).natAbs<=A)(hA0:0<A) :
  ∃ (U W:List Int) (R:Int),R ≠ 0/\(∀ x,pq U x*pq f x+pq W x*pd f x=(R:Rat))/\W.length<=n/\∀ c∈W,c.natAbs<=2*oP n A:=by
 obtain⟨d,R,hd,⟨i0,hi0,hne⟩,hid⟩:=gC hn h2 hp hA hA0;generalize hUd:(Ao (n-1)).map d=Ud at *
 generalize hVd:((Ao (n-1)).map fun i=>d (n-1+i))=Vd at *
 have gU:∀ i,Ud.getD i 0=if i<n-1 then d i else 0:=fun i=>by rw[<- hUd];exact MS d (n-1) i
 have gV:∀ i,Vd.getD i 0=if i<n-1 then d (n-1+i) else 0:=fun i=>by rw[<- hVd];exact MS (fun i=>d (n-1+i)) (n-1) i
 have lU:Ud.length=n-1:=by rw[<- hUd];simp
 have lV:Vd.length=n-1:=by rw[<- hVd];simp
 have hB:∀ i,(d i).natAbs<=oP n A:=hd;have hid2:∀ x,V (Ax (n:Nat) Ud) x*V f x+V (DQ Vd (Ax (-1) (Di 1 Ud))) x*V (As f) x=R:=by
  intro x;rw[A0,BW,A0,DJ,<- hid x,oF,hn,Ib,Ay,Da];grind
 refine⟨Ax (n:Nat) Ud,DQ Vd (Ax (-1) (Di 1 Ud)),R,?_,fun x => ?_,?_,?_⟩
 ·intro hR;rw[hR] at hid hid2;obtain⟨_,_,c,u,v,hc,huv⟩:=hG;have hlead:Y (As f)=As f:=by unfold As;rw[Hv]
  have hD:Dv (As f) Ud:=by
   refine⟨c*(n:Nat),DQ (BL v (Ax (n:Nat) Ud)) (Ax (-1) (BL u (DQ Vd (Ax (-1) (Di 1 Ud))))),BK hc (by omega),fun x => ?_⟩;have h1:=huv x;have h3:=hid2 x;rw[A0] at h3;rw[BW,Bk,A0,A0,Bk];have e1:V [1] x=1:=by simp[V]
   rw[e1,Dp] at h1;rw[h1];generalize V u x=a at *
   generalize V v x=b at *
   generalize V (DQ Vd (Ax (-1) (Di 1 Ud))) x=w at *
   generalize V Ud x=y at *
   generalize V f x=z at *
   generalize V (As f) x=t at *
   have e2:(n:Nat)*y*z = -(w*t):=by omega
   have e3:(a*z+b*t)*(n:Nat)*y=a*((n:Nat)*y*z)+b*t*((n:Nat)*y):=by grind
   rw[e3,e2];grind
  have hU0:Y Ud=[]:=by
   apply AE;intro hz;have:=(hD.length hz).1;rw[hlead,hp] at this;have:=Bn Ud;omega
  have hUz:=CW.1 hU0;have hUe:∀ x,V Ud x=0:=fun x=>by rw[<- E1,hU0];rfl
  have hVe:=QP (p:=As f) (q:=Vd) (by rw[hlead];intro e;rw[e] at hp;simp at hp;omega) (fun x=>by
   have:=hid x;rw[hUe x] at this;rw[AD];omega)
  have hVz:∀ i,Vd.getD i 0=0:=fun i=>by
   have:=D7 (p:=Vd) (q:=[]) (fun x=>by rw[hVe x];rfl) i;rw[this];rfl
  by_cases hlt:i0<n-1
  ·have:=gU i0;rw[hUz i0,if_pos hlt] at this;exact hne this.symm
  ·have:=gV (i0-(n-1));rw[hVz,if_pos (by omega),show n-1+(i0-(n-1))=i0 by omega] at this;exact hne this.symm
 ·rw[<- gG];exact ZA hid2 x
 ·have h1:=X9 Vd (Ax (-1) (Di 1 Ud));have h3:(Ax (-1) (Di 1 Ud)).length=1+Ud.length:=by rw[<- Km];simp[Ax]
  omega
 ·intro c hc;obtain⟨i,rfl⟩:=Ys hc;rw[CY,AO,Cu,gV];have b1:(if i<n-1 then d (n-1+i) else 0).natAbs<=oP n A:=by
   split
   ·exact hB _
   ·simp
  have b2:(if 1<=i then Ud.getD (i-1) 0 else 0).natAbs<=oP n A:=by
   split
   ·rw[gU];split
    ·exact hB _
    ·simp
   ·simp
  omega
theorem oQ(x d:Int)(hd:0<d):∀ p:List Int,pq p ((x:Rat) / (d:Rat))*(d:Rat)^p.length=((hv p x d:Int):Rat)*(d:Rat)
 | []=>by simp[pq,hv]
 | t::ts=>by
  have ih:=oQ x d hd ts;have h0:(d:Rat) ≠ 0:=by
   intro h;have:=Rat.intCast_inj.1 (show (d:Rat)=((0:Int):Rat) by simpa using h);omega
  simp only[pq,hv,Bo];rw[Tz,Eo,Eo,Rat.intCast_pow,A4u];have e:(x:Rat) / (d:Rat)*(d:Rat)=(x:Rat):=by grind
  generalize pq ts ((x:Rat) / (d:Rat))=y at *
  generalize (d:Rat)^ts.length=z at *
  generalize ((hv ts x d:Int):Rat)=w at *
  generalize (x:Rat) / (d:Rat)=r at *
  grind
theorem A4v(p:List Int)(x q:Int):hv p x q=Hh p x q:=by unfold Hh;rw [Zz]
theorem Re{d:Rat}(h:0<d):∀ n:Nat,0<d^n
 | 0=>by simp;decide
 | n+1=>by rw[A4u];exact Jr (Re h n) h
theorem Rf{d:Int}(h:0<d):0<(d:Rat):=by
 have:=Rat.intCast_lt_intCast.2 h;simpa using this
theorem Yt{u v h:Rat}(hu:u*v<=0)(hd:Bd (v-u) h):Bd u h:=by
 have h0:=hd.pos;unfold Bd at *
 apply AE;intro hn;have:h<u\/u < -h:=by grind
 rcases this with g | g
 ·have hu0:0<u:=by grind
  have hv0:0<v:=by grind
  have:=Jr hu0 hv0;grind
 ·have hu0:0 < -u:=by grind
  have hv0:0 < -v:=by grind
  have:=Jr hu0 hv0;grind
theorem Rg{f:List Int}{z d:Int}(hd:0<d)(h:Hh f z d*Hh f (z+1) d<=0):pq f ((z:Rat) / (d:Rat))*pq f (((z+1:Int):Rat) / (d:Rat))<=0:=by
 have e1:=oQ z d hd f;have e2:=oQ (z+1) d hd f;rw[A4v] at e1 e2;have hd0:=Rf hd;have hp:=Re hd0 f.length;have hR:((Hh f z d:Int):Rat)*((Hh f (z+1) d:Int):Rat)<=0:=by
  have:=Dk.2 h;rw[Eo] at this;simpa using this
 generalize pq f ((z:Rat) / (d:Rat))=u at *
 generalize pq f (((z+1:Int):Rat) / (d:Rat))=v at *
 generalize (d:Rat)^f.length=P at *
 generalize ((Hh f z d:Int):Rat)=a at *
 generalize ((Hh f (z+1) d:Int):Rat)=b at *
 generalize (d:Rat)=D at *
 apply AE;intro hn;have huv:0<u*v:=by grind
 have h1:=Jr huv (Jr hp hp);have e3:u*v*(P*P)=a*b*(D*D):=by
  have:u*v*(P*P)=(u*P)*(v*P):=by grind
  rw[this,e1,e2];grind
 have h2:=H6 (show 0 <= -(a*b) by grind) (LQ (Jr hd0 hd0));grind
theorem A4w(p:List Int)(hp:Y p ≠ [])(hl:2<=(Af p).length){x y q:Int}(hq:0<q):∃ c0:Int,0<c0/\∀ c:Int,c0<=c->∀ z:Int,c*x<=z->z<c*y->MR (Af p) (prim (As (Af p))) (fun z=>wv 0 (D9 (CN p) z (c*q))) (c*q) z:=by
 obtain⟨lf,hl1,hG,hc⟩:=KW hp hl;have h0:Af p ≠ []:=by intro h;rw[h] at hl;simp at hl
 obtain⟨Q0,hQ0,hm⟩:=cell ((x.natAbs:Int)+(y.natAbs:Int)) (by omega) lf hl hl1 hG hc (Af p).length (by omega);refine⟨Q0,hQ0,fun c hcc z h1 h2 => ?_⟩;have hc0:0<c:=by omega
 have hQq:Q0<=c*q:=by
  have:=Ah (show (1:Int)<=q by omega) (show 0<=c by omega);omega
 have hb:∀ z:Int,(z.natAbs:Int)<=(x.natAbs:Int)+(y.natAbs:Int)->((c*z).natAbs:Int)<=((x.natAbs:Int)+(y.natAbs:Int))*(c*q):=by
  intro z hz;have hcq:c<=c*q:=by
   have:=Ah (show (1:Int)<=q by omega) (show 0<=c by omega);omega
  have h2:=Dz (a:=c) (A:=c*q) (by omega) hz;have e:c*q*((x.natAbs:Int)+(y.natAbs:Int))=((x.natAbs:Int)+(y.natAbs:Int))*(c*q):=AD ..;omega
 have bx:=hb x (by omega);have by':=hb y (by omega);have e:CN p=Af p::H4 (Af p).length (Af p) (prim (As (Af p))):=by unfold CN;rw[if_neg h0]
 rw[e];exact hm (c*q) z ⟨BE hc0 hq,by omega,by omega⟩ hQq
theorem PZ{f g:List Int}{W:Int->Int}{q u:Int}(n:Nat)(hc:∀ j:Nat,j<n->MR f g W q (u+(j:Int)))(h:W (u+(n:Int))<W u):∃ j:Nat,j<n/\W (u+(j:Int)+1)<W (u+(j:Int))/\W (u+(j:Int))=W u:=by
 rcases H8 (fun j=>decide (W (u+(j:Int)+1)<W (u+(j:Int)))) n n 0 (by omega) with g1 | ⟨j,_,h2,h3,h4⟩
 ·exfalso;have key:∀ m:Nat,m<=n->W (u+(m:Int))=W u:=by
   intro m;induction m with
   | zero=>intro _;simp
   | succ m ih =>
    intro hm;have i1:=ih (by omega);have i2:=of_decide_eq_false (g1 m (by omega) (by omega));have i3:=(hc m (by omega)).mono;have e:u+((m+1:Nat):Int)=u+(m:Int)+1:=by omega
    rw[e];omega
  have:=key n (Am _);omega
 ·refine⟨j,h2,of_decide_eq_true h3,?_⟩;have key:∀ m:Nat,m<=j->W (u+(m:Int))=W u:=by
   intro m;induction m with
   | zero=>intro _;simp
   | succ m ih =>
    intro hm;have i1:=ih (by omega);have i2:=of_decide_eq_false (h4 m (by omega) (by omega));have i3:=(hc m (by omega)).mono;have e:u+((m+1:Nat):Int)=u+(m:Int)+1:=by omega
    rw[e];omega
  exact key j (Am _)
theorem MR.drop{f g:List Int}{W:Int->Int}{q x:Int}(h:MR f g W q x)(hd:W (x+1)<W x) :
  W x=W (x+1)+1/\(CB (Hh g x q)=1\/CB (Hh g x q) = -1)/\CB (Hh g (x+1) q)=CB (Hh g x q)/\CB (Hh f x q) = -CB (Hh g x q)/\(Hh f (x+1) q=0\/CB (Hh f (x+1) q)=CB (Hh g x q)):=by
 rcases h with ⟨_,_,h⟩ | ⟨h1,h2,⟨_,_,h⟩ | ⟨h3,h4,h5⟩⟩
 ·omega
 ·omega
 ·exact⟨h5,h1,h2,h3,h4⟩
theorem MR.change{f g:List Int}{W:Int->Int}{q x:Int}(h:MR f g W q x)(hd:W (x+1)<W x):Hh f x q*Hh f (x+1) q<=0:=by
 obtain⟨_,h1,_,h3,h4⟩:=h.drop hd;rcases h4 with h4 | h4
 ·rw[h4];simp
 ·rcases h1 with e | e
  ·rw[e] at h3 h4;have a:=Kp.1 h3;have b:=Ko.1 h4;have:=Int.mul_neg_of_neg_of_pos a b;omega
  ·rw[e] at h3 h4;have a:=Ko.1 (show CB (Hh f x q)=1 by omega);have b:=Kp.1 h4;have:=LD a b;omega
theorem oR(p:List Int)(hp:Y p ≠ [])(hl:2<=(Af p).length){x y q:Int}(hq:0<q)(hxy:x<=y)(hV:2<=wv 0 (D9 (CN p) x q)-wv 0 (D9 (CN p) y q)) :
  ∃ c:Int,0<c/\∀ k:Int,0<k->∃ z w:Int,k*c*x<=z/\z+1<=k*c*y/\k*c*x<=w/\w+1<=k*c*y/\z+k<=w /\
   Hh (Af p) z (k*c*q)*Hh (Af p) (z+1) (k*c*q)<=0/\Hh (Af p) w (k*c*q)*Hh (Af p) (w+1) (k*c*q)<=0:=by
 obtain⟨c,hc,hg⟩:=A4w p hp hl (x:=x) (y:=y) hq;have sc:∀ c:Int,0<c->∀ z Q,wv 0 (D9 (CN p) (c*z) (c*Q))=wv 0 (D9 (CN p) z Q):=fun c hc z Q=>by rw[I2 _ _ _ _ hc]
 have g1:=hg c (DL _);have hcx:=Ah hxy (Aw hc);have V1:=sc c hc x q;have V2:=sc c hc y q;obtain⟨j1,hj1,d1,e1⟩:=PZ (W:=fun z=>wv 0 (D9 (CN p) z (c*q))) (u:=c*x) (c*y-c*x).toNat (fun j hj=>g1 (c*x+(j:Int)) (by omega) (by omega)) (by
  show wv 0 (D9 (CN p) (c*x+((c*y-c*x).toNat:Int)) (c*q))<wv 0 (D9 (CN p) (c*x) (c*q));rw[show c*x+((c*y-c*x).toNat:Int)=c*y by omega];omega)
 obtain⟨D1,_,D3,_,D5⟩:=(g1 (c*x+(j1:Int)) (by omega) (by omega)).drop d1;generalize hz1:c*x+(j1:Int)=z1 at *
 obtain⟨j2,hj2,d2,e2⟩:=PZ (W:=fun z=>wv 0 (D9 (CN p) z (c*q))) (u:=z1+1) (c*y-(z1+1)).toNat (fun j hj=>g1 (z1+1+(j:Int)) (by omega) (by omega)) (by
  show wv 0 (D9 (CN p) (z1+1+((c*y-(z1+1)).toNat:Int)) (c*q))<wv 0 (D9 (CN p) (z1+1) (c*q));rw[show z1+1+((c*y-(z1+1)).toNat:Int)=c*y by omega];omega)
 obtain⟨_,E2,_,E4,_⟩:=(g1 (z1+1+(j2:Int)) (by omega) (by omega)).drop d2;have hj20:0<j2:=by
  apply AE;intro hn;have:j2=0:=by omega
  subst this;simp only[Int.natCast_zero,B2] at E2 E4 hz1;have:((0:Nat):Int)=0:=rfl;rcases D5 with k | k
  ·rw[show z1+1+((0:Nat):Int)=z1+1 by omega] at *
   rw[k] at E4;have:CB 0=0:=rfl;omega
  ·rw[show z1+1+((0:Nat):Int)=z1+1 by omega] at *
   omega
 generalize hz2:z1+1+(j2:Int)=z2 at *
 refine⟨c,hc,fun k hk => ?_⟩;have hkc:=BE hk hc;have gk:=hg (k*c) (by
  have:=Ad (show (1:Int)<=k by omega) (Aw hc);omega)
 have scz:∀ z,wv 0 (D9 (CN p) (k*z) (k*c*q))=wv 0 (D9 (CN p) z (c*q)):=fun z=>by rw[AB];exact sc k hk z (c*q)
 have one:∀ z0,c*x<=z0->z0+1<=c*y->wv 0 (D9 (CN p) (z0+1) (c*q))<wv 0 (D9 (CN p) z0 (c*q))->∃ z,k*z0<=z/\z+1<=k*z0+k/\Hh (Af p) z (k*c*q)*Hh (Af p) (z+1) (k*c*q)<=0:=by
  intro z0 h1 h2 h3;have b1:=Ah h1 (Aw hk);have b2:=Ah h2 (Aw hk);rw[<- AB] at b1 b2;rw[C1,Dp] at b2;have hcell:∀ j:Nat,j<k.toNat->MR (Af p) (prim (As (Af p))) (fun z=>wv 0 (D9 (CN p) z (k*c*q))) (k*c*q) (k*z0+(j:Int)):=fun j hj=>gk _ (by omega) (by omega);obtain⟨j,hj,d,_⟩:=PZ (W:=fun z=>wv 0 (D9 (CN p) z (k*c*q))) (u:=k*z0) k.toNat hcell (by
   show wv 0 (D9 (CN p) (k*z0+(k.toNat:Int)) (k*c*q))<wv 0 (D9 (CN p) (k*z0) (k*c*q));rw[show k*z0+(k.toNat:Int)=k*(z0+1) by rw[C1,Dp];omega,scz,scz];exact h3)
  exact⟨k*z0+(j:Int),by omega,by omega,(hcell j hj).change d⟩
 obtain⟨z,a1,a2,a3⟩:=one z1 (by omega) (by omega) d1;obtain⟨w,b1,b2,b3⟩:=one z2 (by omega) (by omega) d2;have c1:=Ah (show c*x<=z1 by omega) (Aw hk);have c2:=Ah (show z2+1<=c*y by omega) (Aw hk);have c3:=Ah (show z1+2<=z2 by omega) (Aw hk);rw[<- AB] at c1 c2;rw[C1] at c2 c3;exact⟨z,w,by omega,by omega,by omega,by omega,by omega,a3,b3⟩
theorem Ati:∀ l:List Int,∃ A:Nat,∀ c∈l,c.natAbs<=A
 | []=>⟨0,fun c hc=>by cases hc⟩
 | a::l=>by
  obtain⟨A,h⟩:=Ati l;refine⟨A+a.natAbs,fun c hc => ?_⟩;rcases CH.1 hc with rfl | hc
  ·omega
  ·have:=h c hc;omega
theorem Atj{X:Nat}(hX:1<=X):∀ {m n:Nat},m<=n->zV X m<=zV X n/\zD X m<=zD X n:=by
 intro m n h;induction h with
 | refl=>exact⟨Am _,Am _⟩
 | step _ ih =>
  rename_i n _;have h1:=A8 (zV X n) hX;have h2:=A8 (zD X n) hX;simp only[zV,zD];omega
theorem Rh{z D:Int}{X:Nat}(hD:0<D)(h1 : -(X*D)<=z)(h2:z<=X*D):Bd ((z:Rat) / (D:Rat)) X:=by
 have hD0:=Rf hD;have g1:=Dk.2 h1;have g2:=Dk.2 h2;rw[Rat.intCast_neg,Eo,Gl] at g1;rw[Eo,Gl] at g2;have e:(z:Rat) / (D:Rat)*(D:Rat)=(z:Rat):=by grind
 generalize (z:Rat) / (D:Rat)=r at *
 rw[<- e] at g1 g2;generalize (D:Rat)=d at *
 unfold Bd;constructor
 ·apply AE;intro hn;have:=JO (show r < -(X:Rat) by grind) hD0;grind
 ·apply AE;intro hn;have:=JO (show (X:Rat)<r by grind) hD0;grind
def Mz(n A X:Nat):Nat:=(2*oP n A*zD X n)*(A*zT X (n+1))+(2*oP n A*zV X n)*(A*zS X (n+1))
theorem oT{p:List Int}(hp:Y p ≠ []){n A X:Nat}(hn:(Af p).length=n+1)(h2:2<=n)(hA:∀ i,((Af p).getD i 0).natAbs<=A)(hA0:0<A)(hX:1<=X)
  {x y q:Int} (hq:0<q) (hxy:x<=y) (hx : -(X*q)<=x) (hy:y<=X*q) (hV:2<=wv 0 (D9 (CN p) x q)-wv 0 (D9 (CN p) y q)):q*q<=(y-x)*(y-x)*(Mz n A X:Nat):=by
 have hl:2<=(Af p).length:=by omega
 obtain⟨_,hl1,hG,_⟩:=KW hp hl;obtain⟨c,hc,hk⟩:=oR p hp hl hq hxy hV;generalize Af p=f at *
 have hlead:Y (As f)=As f:=by unfold As;rw[Hv]
 have hpl:(As f).length=n:=by rw[BS,hlead] at hl1;omega
 obtain⟨m,hm,hme⟩:=H1 (As f);have hG2:GO [1] f (As f):=GO.scaled (m:=1) (n:=1) (k:=1) (l:=m) (by decide) (by decide) (by decide) hm (fun _=>rfl) (fun x=>by rw[hme x];omega) hG;obtain⟨U,W,R,hR,hid,hWl,hW⟩:=A0q hn h2 hpl hG2 hA hA0;obtain⟨Au,hAu⟩:=Ati U;have hAf:∀ c∈f,c.natAbs<=A:=fun c hc=>by
  obtain⟨i,rfl⟩:=Ys hc;exact hA i
 have mono:=Atj hX hWl;generalize hS:2*oP n A=B at *
 generalize hE:A*zD X f.length=E0;generalize hC:4*X*(Au*zV X U.length)+4*(B*zV X W.length)=C0;obtain⟨z,w,z1,z2,w1,w2,hzw,fz,fw⟩:=hk ((E0*C0+1:Nat):Int) (by omega);generalize hkk:((E0*C0+1:Nat):Int)=k at *
 have hk0:0<k:=by omega
 have hkc:=BE hk0 hc;have hD:0<k*c*q:=BE hkc hq;have sx:=Ah hx (Aw hkc);have sy:=Ah hy (Aw hkc);have ex:k*c * -(X*q) = -(X*(k*c*q)):=by grind
 have ey:k*c*(X*q)=X*(k*c*q):=by grind
 rw[ex] at sx;rw[ey] at sy;have hsub:(w-z)<=k*c*(y-x):=by rw[HG];omega
 have eD:k*c*q=k*(c*q):=AB ..;generalize hDD:k*c*q=D at *
 have ba:=Rh (X:=X) hD (z:=z) (by omega) (by omega);have bb:=Rh (X:=X) hD (z:=w) (by omega) (by omega);have ba1:=Rh (X:=X) hD (z:=z+1) (by omega) (by omega);have bb1:=Rh (X:=X) hD (z:=w+1) (by omega) (by omega);have ca:=Rg hD fz;have cb:=Rg hD fw;have hD0:=Rf hD;have d1:=Oc ((z:Rat) / (D:Rat)) (((z+1:Int):Rat) / (D:Rat)) f;have d2:=Oc ((w:Rat) / (D:Rat)) (((w+1:Int):Rat) / (D:Rat)) f;have b1:=Wm ba ba1 f hAf;have b2:=Wm bb bb1 f hAf;have bUa:=PX ba U hAu;have bUb:=PX bb U hAu;have eN:(A:Rat)*(zD X f.length:Nat)=(E0:Nat):=by rw[<- hE];simp
 rw[eN] at b1 b2;have step:∀ s:Int,((s+1:Int):Rat) / (D:Rat)-(s:Rat) / (D:Rat)=1 / (D:Rat):=by
  intro s;rw[Tz];simp;grind
 have bone:Bd (1 / (D:Rat)) (1 / (D:Rat)):=by
  have:0<1 / (D:Rat):=by
   rw[A5i,A5j];exact A5k.2 hD0
  unfold Bd;constructor <;> grind
 have hfa:Bd (pq f ((z:Rat) / (D:Rat))) (1 / (D:Rat)*(E0:Nat)):=Yt ca (by
  have e:pq f (((z+1:Int):Rat) / (D:Rat))-pq f ((z:Rat) / (D:Rat))=1 / (D:Rat)*dD f ((z:Rat) / (D:Rat)) (((z+1:Int):Rat) / (D:Rat)):=by rw[d1,step];grind
  rw[e];exact bone.mul b1)
 have hfb:Bd (pq f ((w:Rat) / (D:Rat))) (1 / (D:Rat)*(E0:Nat)):=Yt cb (by
  have e:pq f (((w+1:Int):Rat) / (D:Rat))-pq f ((w:Rat) / (D:Rat))=1 / (D:Rat)*dD f ((w:Rat) / (D:Rat)) (((w+1:Int):Rat) / (D:Rat)):=by rw[d2,step];grind
  rw[e];exact bone.mul b2)
 have hzw':=Dk.2 hzw;rw[Tz] at hzw';have hkR:(k:Rat)=(E0:Nat)*(C0:Nat)+1:=by rw[<- hkk,Gl,Auj,Auk];simp
 have hk1:(0:Rat)<(k:Rat):=Rf hk0;have eC:(C0:Rat)=4*(X:Nat)*((Au:Nat)*(zV X U.length:Nat))+4*((B:Nat)*(zV X W.length:Nat)):=by rw[<- hC];simp
 have ea:(z:Rat) / (D:Rat)*(D:Rat)=(z:Rat):=by grind
 have eb:(w:Rat) / (D:Rat)*(D:Rat)=(w:Rat):=by grind
 have eo:1 / (D:Rat)*(D:Rat)=1:=by grind
 have ho:0<1 / (D:Rat):=by
  rw[A5i,A5j];exact A5k.2 hD0
 have key:1<=((w:Rat) / (D:Rat)-(z:Rat) / (D:Rat))*((w:Rat) / (D:Rat)-(z:Rat) / (D:Rat))*(((B:Nat)*(zD X W.length:Nat))*((A:Nat)*(zT X f.length:Nat))+((B:Nat)*(zV X W.length:Nat))*((A:Nat)*(zS X f.length:Nat))):=by
  refine far hR hid hAf hW ba bb ?_ hfa hfb bUa bUb ?_
  ·have h1:=JO (show (z:Rat)<(w:Rat) by grind) ho;have e1:(z:Rat)*(1 / (D:Rat))=(z:Rat) / (D:Rat):=by grind
   have e2:(w:Rat)*(1 / (D:Rat))=(w:Rat) / (D:Rat):=by grind
   rw[e1,e2] at h1;exact h1
  ·-- the error
   have hkb:(k:Rat)*(1 / (D:Rat))<=(w:Rat) / (D:Rat)-(z:Rat) / (D:Rat):=by
    have h1:=IJ (show (k:Rat)<=(w:Rat)-(z:Rat) by grind) (LQ ho);grind
   have hle2:(w:Rat) / (D:Rat)-(z:Rat) / (D:Rat)<=2*(X:Nat):=by
    unfold Bd at ba bb;grind
   generalize (w:Rat) / (D:Rat)-(z:Rat) / (D:Rat)=t at *
   generalize 1 / (D:Rat)=o at *
   have hE0:(0:Rat)<=(E0:Nat):=by
    have h:=(gH (a:=0) (b:=E0)).2 (Bf _);simpa using h
   have hu0:=bUa.pos;have hv0:(0:Rat)<=(B:Nat)*(zV X W.length:Nat):=by
    have:=Bf (B*zV X W.length);have h:=(gH (a:=0) (b:=B*zV X W.length)).2 this;simpa using h
   generalize (Au:Rat)*(zV X U.length:Nat)=u at *
   generalize (B:Rat)*(zV X W.length:Nat)=v at *
   have hoE:=H6 (LQ ho) hE0;have h1:=IJ hle2 (H6 hu0 hoE);rw[hkR,eC] at hkb;generalize (E0:Rat)=e0 at *
   generalize (X:Rat)=xx at *
   grind
 have hDR:(D:Rat)*(D:Rat)<=((w:Rat)-(z:Rat))*((w:Rat)-(z:Rat))*(((B:Nat)*(zD X W.length:Nat))*((A:Nat)*(zT X f.length:Nat))+((B:Nat)*(zV X W.length:Nat))*((A:Nat)*(zS X f.length:Nat))):=by
  have h1:=IJ key (LQ (Jr hD0 hD0));have e:(w:Rat)-(z:Rat)=((w:Rat) / (D:Rat)-(z:Rat) / (D:Rat))*(D:Rat):=by grind
  rw[e];grind
 have hInt:D*D<=(w-z)*(w-z)*(((B*zD X W.length)*(A*zT X f.length)+(B*zV X W.length)*(A*zS X f.length):Nat):Int):=by
  apply Dk.1;rw[Eo,Eo,Eo,Rat.intCast_sub,Gl];simp only[Auj,Auk];exact hDR
 have hM:(B*zD X W.length)*(A*zT X f.length)+(B*zV X W.length)*(A*zS X f.length)<=Mz n A X:=by
  unfold Mz;rw[hS,hn];exact Nat.add_le_add (Bx (Bx (Am _) mono.2) (Am _)) (Bx (Bx (Am _) mono.1) (Am _))
 have hwz:0<=w-z:=by omega
 have s1:=Ei hsub hsub hwz (Fy hwz hsub);have s2:=Ad s1 (Hd (Mz n A X));have s3:=Ah (MY.2 hM) (A1 hwz hwz);apply EH (a:=k*c*(k*c)) _ (BE hkc hkc);have e1:k*c*(k*c)*(q*q)=D*D:=by rw[<- hDD];grind
 have e2:k*c*(k*c)*((y-x)*(y-x)*(Mz n A X:Nat))=k*c*(y-x)*(k*c*(y-x))*(Mz n A X:Nat):=by grind
 rw[e1,e2];omega
theorem oU{t:List Int}(ht:Y t ≠ [])(hl:t.length<=9):∃ l:List Int,l.Nodup/\l.length=7/\∀ x∈l,x.natAbs<=7/\V t x ≠ 0:=by
 obtain⟨L,hnd,hmem,hlen⟩:∃ L:List Int,L.Nodup/\(∀ x∈L,x.natAbs<=7)/\L.length=15:=⟨[-7,-6,-5,-4,-3,-2,-1,0,1,2,3,4,5,6,7],by decide,by decide,rfl⟩;have hsum:=pJ (fun x=>decide (V t x=0)) (l:=L);rw[Hg,Hg] at hsum;have hA:(L.filter fun x=>decide (V t x=0)).length<=8:=by
  apply MH;intro h;apply ht;rw[CW];exact VE 9 t (L.filter fun x=>decide (V t x=0)) hl (hnd.filter _) (fun x hx=>by simpa using (Ik.1 hx).2) (by omega)
 refine⟨(L.filter fun x=>decide ¬ (B (V t x=0))=true).take 7,(hnd.filter _).sublist (A5l _ _),?_,?_⟩
 ·rw[A7];omega
 ·intro x hx;obtain⟨h1,h2⟩:=Ik.1 (Cg hx);exact⟨hmem x h1,by simpa using h2⟩
theorem A0r{t g k:List Int}{P:Nat}(ht:Y t ≠ [])(hl:t.length<=9)(hg:g.length<=7)(hP:∀ i,(t.getD i 0).natAbs<=P)(h:∀ x,V t x=V g x*V k x):∀ i,(g.getD i 0).natAbs<=P*8^9*17^6:=by
 obtain⟨l,l1,l2,l3⟩:=oU ht hl;exact Tc (R:=7) 6 g l (P*8^9) hg l1 l2 (fun x hx=>by
  obtain⟨a,b⟩:=l3 x hx;refine⟨a,?_⟩;have h2:=Sd (R:=7) t x hP a;have h3:=congrArg E (h x);rw[BA] at h3;have h4:1<=(V k x).natAbs:=by
   rcases F6 (V k x).natAbs with g | g
   ·rw[g,ZF] at h3;omega
   ·exact g
  have h5:=BQ (V g x).natAbs h4;have h6:P*8^t.length<=P*8^9:=z _ (Bm (by decide) hl);exact Bq (Bq h5 (Nat.le_of_eq h3.symm)) (Bq h2 h6)) (fun x _ y _ hne=>by omega)
theorem Su{u a b P Q:Int}{v:Int}(hu:u ≠ 0)(hv:v.natAbs<=u.natAbs)(h:u*a=b-v*P)(hb:(b.natAbs:Int)<=Q):(a.natAbs:Int)<=Q+(P.natAbs:Int):=by
 have h1:(u.natAbs:Int)*(a.natAbs:Int)<=(b.natAbs:Int)+(v.natAbs:Int)*(P.natAbs:Int):=by
  have e1:(u.natAbs:Int)*(a.natAbs:Int)=((u*a).natAbs:Int):=by rw[BA];rfl
  have e2:(v.natAbs:Int)*(P.natAbs:Int)=((v*P).natAbs:Int):=by rw[BA];rfl
  rw[e1,e2,h];omega
 have hu1:(1:Int)<=(u.natAbs:Int):=by omega
 have h2:(v.natAbs:Int)*(P.natAbs:Int)<=(u.natAbs:Int)*(P.natAbs:Int):=Ad (by omega) (by omega);have h3:(b.natAbs:Int)<=(u.natAbs:Int)*(b.natAbs:Int):=by
  have:=Ad hu1 (show (0:Int)<=(b.natAbs:Int) by omega);omega
 have h4:(u.natAbs:Int)*(a.natAbs:Int)<=(u.natAbs:Int)*((b.natAbs:Int)+(P.natAbs:Int)):=by rw[C1];omega
 have:=EH h4 (by omega);omega
theorem oV{t f:List Int}{v u:Int}{P N:Nat}(hu:u ≠ 0)(hN:f.length<=N)(hP:∀ i,(t.getD i 0).natAbs<=P)(h:∀ x,V t x=V f x*V [v,u] x):∀ i,(f.getD i 0).natAbs<=(N+1)*P:=by
 have hc:=D7 (p:=t) (q:=DQ (Ax v f) (Ax u (Di 1 f))) (fun x=>by
  rw[h x,BW,A0,A0,DJ,Ay,Da];simp only[V];grind)
 have hi:∀ i,t.getD i 0=v*f.getD i 0+u*(if 1<=i then f.getD (i-1) 0 else 0):=by
  intro i;rw[hc i,CY,AO,AO,Cu]
 by_cases hvu:v.natAbs<=u.natAbs
 ·-- from the w
  have key:∀ j i:Nat,i+j=N->((f.getD i 0).natAbs:Int)<=(j:Int)*P:=by
   intro j;induction j with
   | zero=>intro i e;rw[Bv (by omega)];simp
   | succ j ih =>
    intro i e;have h1:=ih (i+1) (by omega);have h2:=hi (i+1);rw[if_pos (by omega),Ib] at h2;have h3:=Su (a:=f.getD i 0) (b:=t.getD (i+1) 0) (P:=f.getD (i+1) 0) (Q:=P) hu hvu (by omega) (by have:=hP (i+1);omega);have:((j+1:Nat):Int)*(P:Int)=(j:Int)*P+P:=by rw[J7];grind
    omega
  intro i;by_cases hiN:i<=N
  ·have:=key (N-i) i (by omega);have h2:((N-i:Nat):Int)*(P:Int)<=((N+1:Nat):Int)*(P:Int):=Ad (by omega) (by omega);have h3:(((N+1)*P:Nat):Int)=((N+1:Nat):Int)*(P:Int):=by simp
   omega
  ·rw[Bv (by omega)];simp
 ·have hv:v ≠ 0:=by omega
  have key:∀ i:Nat,((f.getD i 0).natAbs:Int)<=((i+1:Nat):Int)*P:=by
   intro i;induction i with
   | zero =>
    have h2:=hi 0;rw[if_neg (by omega),AG] at h2;have h3:=Su (u:=v) (v:=0) (a:=f.getD 0 0) (b:=t.getD 0 0) (P:=0) (Q:=P) hv (by simp) (by omega) (by have:=hP 0;omega);simp at h3 |-;omega
   | succ i ih =>
    have h2:=hi (i+1);rw[if_pos (by omega),Ib] at h2;have h3:=Su (u:=v) (v:=u) (a:=f.getD (i+1) 0) (b:=t.getD (i+1) 0) (P:=f.getD i 0) (Q:=P) hv (by omega) (by omega) (by have:=hP (i+1);omega);have:((i+1+1:Nat):Int)*(P:Int)=((i+1:Nat):Int)*P+P:=by
     rw[show ((i+1+1:Nat):Int)=((i+1:Nat):Int)+1 by omega,GH,CR]
    omega
  intro i;by_cases hiN:i<N
  ·have:=key i;have h2:((i+1:Nat):Int)*(P:Int)<=((N+1:Nat):Int)*(P:Int):=Ad (by omega) (by omega);have h3:(((N+1)*P:Nat):Int)=((N+1:Nat):Int)*(P:Int):=by simp
   omega
  ·rw[Bv (by omega)];simp
def Tu(n P:Nat):Nat:=if 7<=n then 10*P else P*8^9*17^6
theorem Tv{p:List Int}(hp:Y p ≠ [])(hl:p.length<=9){P:Nat}(hP:∀ i,(p.getD i 0).natAbs<=P){n:Nat}(hn:(Af p).length=n+1):∀ i,((Af p).getD i 0).natAbs<=if n=8 then P else Tu n P:=by
 obtain⟨lf,cf,tf,f0,⟨c,k,hc,hk⟩,_,_,_⟩:=Fi hp;generalize Af p=f at *
 obtain⟨k',hk'⟩:=Td hc cf hk;have hft:Y f ≠ []:=by rw[lf];exact f0
 have hk0:Y k' ≠ []:=by
  intro z;have:Y p=[]:=by
   rw[CW];have:=D7 (p:=p) (q:=[]) (fun x=>by rw[hk' x,<- E1 k',z];simp[V]);intro i;rw[this i];rfl
  exact hp this
 have hlen:=NT hft hk0;have e:=Hw (p:=p) (q:=BL f k') (fun x=>by rw[hk' x,Bk]);rw[<- e,lf] at hlen;have htl:=Bn p;have hkp:=An.2 hk0;have hk2:∀ x,V p x=V f x*V (Y k') x:=fun x=>by rw[hk' x,E1]
 have hP0:P<=P*8^9*17^6:=by
  rw[EA];exact BQ _ (by decide)
 by_cases h1:(Y k').length=1
 ·obtain⟨d,hd⟩:=QR h1;have hd0:d ≠ 0:=by
   intro z;have:=E8 (Hy k') hk0;rw[hd,z] at this;exact this rfl
  have hc2:=D7 (p:=p) (q:=Ax d f) (fun x=>by rw[hk2 x,hd,A0];simp only[V];grind);have key:∀ i,(f.getD i 0).natAbs<=P:=by
   intro i;have h3:=hP i;rw[hc2 i,AO,BA] at h3;exact Bq (WY _ (by omega)) h3
  intro i;have:=key i;unfold Tu;split
  ·exact this
  ·split <;> omega
 ·have hn8:n ≠ 8:=by omega
  rw[if_neg hn8];unfold Tu;by_cases h7:7<=n
  ·rw[if_pos h7];have h2:(Y k').length=2:=by omega
   obtain⟨v,u,hvu⟩:∃ v u,Y k'=[v,u]:=by
    match hm:Y k',h2 with
    | [v,u],_=>exact⟨v,u,rfl⟩
   have hu:u ≠ 0:=by
    have:=E8 (Hy k') hk0;rw[hvu] at this;exact this
   have:=oV (f:=f) (t:=p) (N:=8) hu (by omega) hP (fun x=>by rw[hk2 x,hvu]);intro i;have:=this i;omega
  ·rw[if_neg h7];exact A0r hp hl (by omega) hP hk'
theorem A0s:∀ e,e=895->∀ n,2<=n->n<=8->6400*Mz n (if n=8 then 2^100 else Tu n (2^100)) 40<4^e:=by
 intro e he n h2 h8;subst he;match n,h2,h8 with
 | 2,_,_=>exact of_decide_eq_true (by kernel_rfl)
 | 3,_,_=>exact of_decide_eq_true (by kernel_rfl)
 | 4,_,_=>exact of_decide_eq_true (by kernel_rfl)
 | 5,_,_=>exact of_decide_eq_true (by kernel_rfl)
 | 6,_,_=>exact of_decide_eq_true (by kernel_rfl)
 | 7,_,_=>exact of_decide_eq_true (by kernel_rfl)
 | 8,_,_=>exact of_decide_eq_true (by kernel_rfl)
theorem Acn{n k:Nat}(h:n<=k):(4:Int)^n<=2^k*2^k:=by
 have e:(4:Int)^n=2^n*2^n:=by
  rw[<- Qh];rfl
 rw[e];have hp:(2:Int)^n<=2^k:=by
  have:=Bm (n:=2) (by decide) h;have h:=MY.2 this;rwa [Cr,Cr] at h
 exact Ei hp hp (Aw (EX (by decide))) (Aw (EX (by decide)))
theorem Aco{p:List Int}(hp:Y p ≠ [])(hl:p.length<=9)(hP:∀ i,(p.getD i 0).natAbs<=2^100)(h2:3<=(Af p).length){x y q:Int}(hq:0<q)(hxy:x<=y)(hx : -(40*q)<=x)(hy:y<=40*q)
  {k:Nat} (hk:895<=k) (hw:(y-x)*2^k<=80*q):wv 0 (D9 (CN p) x q)-wv 0 (D9 (CN p) y q)<=1:=by
 apply AE;intro hn;obtain⟨n,hn1⟩:∃ n,(Af p).length=n+1:=⟨(Af p).length-1,by omega⟩;have hpl:(Af p).length<=9:=by
  obtain⟨lf,cf,_,_,hd,_⟩:=Fi hp;have h:=(hd.length hp).1;rw[lf] at h;have:=Bn p;omega
 have hb:=Tv hp hl hP hn1;have hs:=oT hp hn1 (by omega) hb (by
  split
  ·exact Cn (by decide)
  ·unfold Tu;split
   ·exact Eu (by decide) (Cn (by decide))
   ·exact Eu (Eu (Cn (by decide)) (Cn (by decide))) (Cn (by decide))) (X:=40) (by decide) hq hxy hx hy (by omega)
 obtain⟨e,he,hm⟩:∃ e,e<=k/\6400*Mz n (if n=8 then 2^100 else Tu n (2^100)) 40<4^e:=⟨895,hk,A0s _ rfl n (by omega) (by omega)⟩;generalize Mz n (if n=8 then 2^100 else Tu n (2^100)) 40=M at *
 have hK:(0:Int)<2^k:=EX (by decide);have h1:=Ad hs (Aw (BE hK hK));have e1:(y-x)*(y-x)*(M:Int)*(2^k*2^k)=((y-x)*2^k)*((y-x)*2^k)*(M:Int):=by grind
 have hD0:0<=(y-x)*2^k:=A1 (by omega) (Aw hK);have hsq:=Ei hw hw hD0 (show 0<=80*q by omega);have h1:=Fy h1 (JN e1);have h1:=Fy h1 (Ad hsq (show (0:Int)<=(M:Nat) by omega));have e2:80*q*(80*q)*(M:Int)=q*q*(6400*(M:Int)):=by grind
 rw[e2] at h1;have h3:=EH h1 (BE hq hq);have h4:=Acn he;have h5:=Int.ofNat_lt.2 hm;rw[Dj,Cr] at h5;have:((4:Nat):Int)=4:=rfl;rw[this] at h5;have:((6400:Nat):Int)=6400:=rfl;rw[this] at h5;exact absurd (RV h5 (Fy h4 h3)) (Int.lt_irrefl _)
theorem oW(p:List Int)(hp:Y p ≠ [])(hl:2<=(Af p).length){x y q:Int}(hq:0<q)(hxy:x<y)(hz:Hh (Af p) y q=0):wv 0 (D9 (CN p) y q)+1<=wv 0 (D9 (CN p) x q):=by
 obtain⟨c,hc,hg⟩:=A3m p hp hl (x:=x) (y:=y) hq;have sc:∀ z,wv 0 (D9 (CN p) (c*z) (c*q))=wv 0 (D9 (CN p) z q):=fun z=>by rw[I2 _ _ _ _ hc]
 have hs:CB (Hh (Af p) (c*y) (c*q))=CB (Hh (Af p) y q):=Sr _ _ _ _ hc;have d1:c*x+c<=c*y:=by
  have:=Ah (show x+1<=y by omega) (show 0<=c by omega);rw[C1,Dp] at this;exact this
 have hz':Hh (Af p) (c*y) (c*q)=0:=by rw[<- DE,hs,DE];exact hz
 have hcell:=hg (c*y-1) (by omega) (by omega);have h2:=hcell.root (by rw[show c*y-1+1=c*y by omega];exact hz');simp only[show c*y-1+1=c*y by omega] at h2;have h3:=N_ (u:=c*x) (c*y-1-c*x).toNat (fun j hj=>hg (c*x+(j:Int)) (by omega) (by omega));simp only[show c*x+((c*y-1-c*x).toNat:Int)=c*y-1 by omega] at h3;rw[sc] at h2 h3;omega
theorem TM:∀ (l:List Int) (last:Int),wv last l<=(l.length:Int)
 | [],_=>by simp[wv]
 | s::ss,last=>by
  simp only[wv,Bo];have h1:=TM ss last;have h2:=TM ss s;split
  ·omega
  ·split <;> omega
theorem Atk(s:Int)(ss:List Int):wv 0 (s::ss)<=(ss.length:Int):=by
 simp only[wv];have h1:=TM ss 0;have h2:=TM ss s;split
 ·omega
 ·rw[if_neg (fun h=>h.1 rfl)];omega
theorem P_:∀ (l:List Int) (last:Int),0<=wv last l
 | [],_=>by simp[wv]
 | s::ss,last=>by
  simp only[wv];have h1:=P_ ss last;have h2:=P_ ss s;split
  ·exact h1
  ·split <;> omega
theorem Acp{p:List Int}(h:(Af p).length<=2)(x q:Int):wv 0 (D9 (CN p) x q)<=1:=by
 unfold CN;split
 ·simp[D9,wv]
 ·rename_i h0;have hpos:=An.2 h0;have hb:(prim (As (Af p))).length<=1:=by
   rw[BS];have:=Bn (As (Af p));have:=Sf (Af p);omega
  have hc:(H4 (Af p).length (Af p) (prim (As (Af p)))).length<=1:=by
   generalize prim (As (Af p))=g at *
   obtain⟨n,hn⟩:∃ n,(Af p).length=n+1:=⟨(Af p).length-1,by omega⟩;rw[hn];simp only[H4];split
   ·simp
   ·rename_i hg;have hgp:=An.2 hg;have hn1:n<=1:=by omega
    have:(H4 n g (BV (Bz (Af p) g))).length=0:=by
     match n,hn1 with
     | 0,_=>rfl
     | 1,_ =>
      simp only[H4];split
      ·rfl
      ·rename_i hz;exfalso;apply hz;have e:Bz (Af p) g=[]:=by
        apply AE;intro he;have hle:(Bz (Af p) g).length<g.length:=by
         have:=(dY (x:=Af p) (y:=g) ?_ hg).2
         ·exact this
         ·have h0':Y p ≠ []:=by
           intro h;apply h0;have hz:prim p=[]:=by rw[DX,<- CW];exact h
           unfold Af;rw[hz];rfl
          exact (Fi h0').1
        have:=An.2 he;omega
       rw[e];rfl
    simp only[Bo];omega
  unfold D9;rw[Cz];have:=Atk (CB (Hh (Af p) x q)) ((H4 (Af p).length (Af p) (prim (As (Af p)))).map fun p=>CB (Hh p x q));(first|rw[N] at this|(unfold sL at this;rw[N] at this));omega
end Go.Ai
namespace Go.Proofs.YtajompaehjkgkaaGreat
open Go.Ai
set_option maxRecDepth 100000
open Bool renaming and_eq_true->Ac,not_eq_true->Adj
open Classical renaming byContradiction->AE
open Decidable renaming decide->B
open Go.IntKind renaming i64->R,wrap->D
open Int renaming eq_of_mul_eq_mul_right->WW,le_of_eq->JN,le_of_lt->Aw,le_of_mul_le_mul_right->CJ,lt_of_mul_lt_mul_right->BP,mul_assoc->AB,mul_comm->AD,mul_ediv_cancel_left->BN,mul_le_mul_of_nonneg_left->Ah,mul_le_mul_of_nonneg_right->Ad,mul_lt_mul_of_pos_right->A9,mul_pos->BE,mul_right_comm->n,natAbs_mul->BA,natAbs_neg->Aue,natAbs_pow->Kx,natCast_add->J7,natCast_pow->Cr,not_le->H7,ofNat_le->MY,one_mul->CR,pow_add->B4,pow_succ->Ay,pow_zero->Da,toNat->A,toNat_natCast->F,zero_ediv->Auu
open List renaming all_eq_true->Cb,getD_eq_getElem?_getD->Z,getElem?_eq_getElem->Ae,getElem?_map->CA,getElem_mem->Dc,length_append->AU,length_map->N,length_pos_iff->An,mem_append->BJ,mem_cons->CH,not_mem_nil->M'
open Nat renaming add_comm->H',le_of_lt->Qe,le_refl->Am,le_trans->Bq,log2_lt->Jv,lt_of_le_of_lt->Dh,mul_le_mul->Bx,mul_le_mul_left->z,mul_le_mul_right->A8,pow_add->C_,pow_le_pow_right->Bm,pow_lt_pow_right->PF,pow_pos->Cn,sub_self->Lt,zero_add->BR,zero_le->Bf
structure Wd (k:Nat) (x:Iv):Prop where
 w:(O x.t*2^x.a-O x.r*2^x.b)*2^k=80*(2^x.a*2^x.b)
 lo : -(40*2^x.a)<=O x.r
 hi:O x.t<=40*2^x.b
 a:x.a<=k
 b:x.b<=k
theorem Wd.lt{k x}(h:Wd k x):O x.r*2^x.b<O x.t*2^x.a:=by
 have hA:=Bg x.a;have hB:=Bg x.b;have hK:=Bg k;have h1:=h.w;have h2:=BE hA hB;have:0<(O x.t*2^x.a-O x.r*2^x.b)*2^k:=by omega
 have:=Int.pos_of_mul_pos_left this hK;omega
theorem Wd.halves{k x}(h:Wd k x):Wd (k+1) x.lf/\Wd (k+1) x.rg:=by
 have hA:=Bg x.a;have hB:=Bg x.b;have hK:=Bg k;have hE:=Bg x.me;have hw:=h.w;have hlo:=h.lo;have hhi:=h.hi;have ha:=h.a;have hb:=h.b;obtain⟨m1,m2⟩:=MC h.lt;have m1:O x.r*2^x.me<x.mn*2^x.a:=m1;have m2:x.mn*2^x.b<O x.t*2^x.me:=m2;have hv:x.mn*(2*(2^x.a*2^x.b))=(O x.r*2^x.b+O x.t*2^x.a)*2^x.me:=Atb (O x.r) x.a (O x.t) x.b;have hme:x.me<=max x.a x.b+1:=Q';have eK:(2:Int)^(k+1)=2*2^k:=by rw[Ay,AD]
 constructor
 ·refine⟨?_,hlo,?_,by show x.a<=_;omega,by show x.me<=_;omega⟩
  ·show (O (cn x.mn)*2^x.a-O x.r*2^x.me)*2^(k+1)=80*(2^x.a*2^x.me);rw[At,eK];generalize (2:Int)^k=K at *
   generalize (2:Int)^x.a=A at *
   generalize (2:Int)^x.b=B at *
   generalize (2:Int)^x.me=E at *
   apply WW (show B ≠ 0 by omega);have e1:(x.mn*A-O x.r*E)*(2*K)*B=(x.mn*(2*(A*B))-2*(O x.r*B*E))*K:=by grind
   rw[e1,hv];have e2:((O x.r*B+O x.t*A)*E-2*(O x.r*B*E))*K=(O x.t*A-O x.r*B)*K*E:=by grind
   rw[e2,hw];grind
  ·show O (cn x.mn)<=40*2^x.me;rw[At];apply CJ (a:=2^x.b) _ hB;have e1:=Ad hhi (Aw hE);have e2:(40:Int)*2^x.b*2^x.me=40*2^x.me*2^x.b:=by grind
   omega
 ·refine⟨?_,?_,hhi,by show x.me<=_;omega,by show x.b<=_;omega⟩
  ·show (O x.t*2^x.me-O (cn x.mn)*2^x.b)*2^(k+1)=80*(2^x.me*2^x.b);rw[At,eK];generalize (2:Int)^k=K at *
   generalize (2:Int)^x.a=A at *
   generalize (2:Int)^x.b=B at *
   generalize (2:Int)^x.me=E at *
   apply WW (show A ≠ 0 by omega);have e1:(O x.t*E-x.mn*B)*(2*K)*A=(2*(O x.t*A*E)-x.mn*(2*(A*B)))*K:=by grind
   rw[e1,hv];have e2:(2*(O x.t*A*E)-(O x.r*B+O x.t*A)*E)*K=(O x.t*A-O x.r*B)*K*E:=by grind
   rw[e2,hw];grind
  ·show -(40*2^x.me)<=O (cn x.mn);rw[At];apply CJ (a:=2^x.a) _ hA;have e1:=Ad hlo (Aw hE);have e2 : -((40:Int)*2^x.a)*2^x.me = -(40*2^x.me)*2^x.a:=by grind
   omega
structure Fewp (p:List Int):Prop where
 ne:Y p ≠ []
 len:p.length<=9
 co:∀ i,(p.getD i 0).natAbs<=2^100
theorem Fewp.d1{p}(hp:Fewp p){k x}(h:Wd k x)(hk:895<=k):x.d p=0\/x.d p=1:=by
 have hA:=Bg x.a;have hB:=Bg x.b;have h0:0<=x.d p:=by
  have:=PU (p:=p) (Aw h.lt);unfold Iv.d;omega
 have h1:x.d p<=1:=by
  unfold Iv.d;by_cases hl:3<=(Af p).length
  ·have e1:=GQ p (O x.r) x.a x.b;have e2:=GQ p (O x.t) x.b x.a;rw[H' x.b x.a] at e2;rw[<- e1,<- e2,HW,HW];have hq:(2:Int)^(x.a+x.b)=2^x.a*2^x.b:=B4 ..;refine Aco hp.ne hp.len hp.co hl (Bg _) (Aw h.lt) ?_ ?_ hk ?_
   ·rw[hq];have:=Ad h.lo (Aw hB);have e : -((40:Int)*2^x.a)*2^x.b = -(40*(2^x.a*2^x.b)):=by grind
    omega
   ·rw[hq];have:=Ad h.hi (Aw hA);have e:(40:Int)*2^x.b*2^x.a=40*(2^x.a*2^x.b):=by grind
    omega
   ·rw[hq];exact JN h.w
  ·rw[HW,HW];have a1:=Acp (p:=p) (by omega) (O x.r) (2^x.a);have a2:=P_ (D9 (CN p) (O x.t) (2^x.b)) 0;omega
 omega
theorem Fewp.deep{p}(hp:Fewp p):∀ (n k:Nat) (x:Iv),k+n=895->Wd k x->Deep p 896 n x:=by
 intro n;induction n with
 | zero=>intro k x hk h;exact hp.d1 h (by omega)
 | succ n ih =>
  intro k x hk h;obtain⟨h1,h2⟩:=h.halves;have hme:x.me<=max x.a x.b+1:=Q';have ha:=h.a;have hb:=h.b;exact .inr (.inr ⟨by omega,ih (k+1) x.lf (by omega) h1,ih (k+1) x.rg (by omega) h2⟩)
theorem Acq{p:List Int}{E:Nat}:∀ (n k:Nat) (x:Iv),Wd k x->Deep p E n x->∀ y∈HX p n x,y.d p=1/\∃ j,k<=j/\j<=k+n/\Wd j y:=by
 intro n;induction n with
 | zero =>
  intro k x h hd y hy;simp only[HX] at hy;rcases hd with hd | hd
  ·rw[if_pos hd] at hy;cases hy
  ·rw[if_neg (by omega)] at hy;rcases CH.1 hy with rfl | hy
   ·exact⟨hd,k,Am _,Am _,h⟩
   ·cases hy
 | succ n ih =>
  intro k x h hd y hy;simp only[HX] at hy;by_cases c0:x.d p=0
  ·rw[if_pos c0] at hy;cases hy
  ·rw[if_neg c0] at hy;by_cases c1:x.d p=1
   ·rw[if_pos c1] at hy;rcases CH.1 hy with rfl | hy
    ·exact⟨c1,k,Am _,by omega,h⟩
    ·cases hy
   ·rw[if_neg c1] at hy;rcases hd with hd | hd | ⟨_,d1,d2⟩
    ·exact absurd hd c0
    ·exact absurd hd c1
    ·obtain⟨h1,h2⟩:=h.halves;rcases BJ.1 hy with hy | hy
     ·obtain⟨a,j,b,c,d⟩:=ih (k+1) x.lf h1 d1 y hy;exact⟨a,j,by omega,by omega,d⟩
     ·obtain⟨a,j,b,c,d⟩:=ih (k+1) x.rg h2 d2 y hy;exact⟨a,j,by omega,by omega,d⟩
theorem Ri{p:List Int}{E:Nat}:∀ (n k:Nat) (x:Iv),Wd k x->Deep p E n x->((HX p n x).length:Int)=x.d p:=by
 intro n;induction n with
 | zero =>
  intro k x h hd;simp only[HX];rcases hd with hd | hd
  ·rw[if_pos hd,hd];rfl
  ·rw[if_neg (by omega),hd];rfl
 | succ n ih =>
  intro k x h hd;simp only[HX];by_cases c0:x.d p=0
  ·rw[if_pos c0,c0];rfl
  ·rw[if_neg c0];by_cases c1:x.d p=1
   ·rw[if_pos c1,c1];rfl
   ·rw[if_neg c1];rcases hd with hd | hd | ⟨_,d1,d2⟩
    ·exact absurd hd c0
    ·exact absurd hd c1
    ·obtain⟨h1,h2⟩:=h.halves;have i1:=ih (k+1) x.lf h1 d1;have i2:=ih (k+1) x.rg h2 d2;rw[AU,J7,i1,i2];show (Vd p (O x.r) x.a-Vd p (O (cn x.mn)) x.me)+(Vd p (O (cn x.mn)) x.me-Vd p (O x.t) x.b)=Vd p (O x.r) x.a-Vd p (O x.t) x.b;omega
def LO:Iv:=⟨cn (-40),0,cn 40,0⟩
theorem rK:IvOk 6 0 LO:=⟨AZ (CG (k:=6) (by decide) (by decide)),AZ (CG (k:=6) (by decide) (by decide)),Am _,Am _,by show (O (cn (-40))).natAbs<=_;rw [At];decide,by show (O (cn 40)).natAbs<=_;rw [At];decide⟩
theorem OE:Wd 0 LO:=by
 refine⟨?_,?_,?_,Am _,Am _⟩
 ·show (O (cn 40)*2^0-O (cn (-40))*2^0)*2^0=_;rw[At,At];decide
 ·show _<=O (cn (-40));rw[At];decide
 ·show O (cn 40)<=_;rw[At];decide
def Pg(p:List Int):List Iv:=Ju p 895 LO
theorem Acr{p:List Int}(hp:Fewp p):∀ y∈Pg p,One p y/\∃ j,j<=895/\Wd j y:=by
 intro y hy;unfold Pg Ju at hy;split at hy
 ·cases hy
 ·obtain⟨a,j,_,b,c⟩:=Acq 895 0 LO OE (hp.deep 895 0 LO rfl OE) y hy;exact⟨⟨c.lt,a⟩,j,by omega,c⟩
theorem Atl{p:List Int}:∀ y∈Pg p,IvOk 6 895 y:=by
 intro y hy;unfold Pg Ju at hy;split at hy
 ·cases hy
 ·exact fU 895 LO 0 rK (by decide) y hy
theorem Atm{rs:List Rn}(h:MQ rs=true)(h0:Y (M rs) ≠ []):Fewp (M rs):=by
 unfold MQ at h;simp only[Ac,decide_eq_true_eq,Cb] at h;refine⟨h0,by rw[s];exact h.1,fun i => ?_⟩;by_cases hi:i<rs.length
 ·have e:(M rs).getD i 0=O (rs[i]):=by
   rw[Z,M,CA,Ae hi];rfl
  rw[e];have hb:=(h.2 _ (Dc hi)).1;unfold C9 at hb;split at hb
  ·rename_i g;rw[g];exact Bf _
  ·rename_i g;exact Qe ((Jv g).1 (by omega))
 ·rw[Bv (by rw[s];omega)];exact Bf _
theorem Fewp.kb{p}(hp:Fewp p):Kb 5 (Af p)/\(Af p).length<=9:=by
 obtain⟨lf,_,_,f0,hd,_⟩:=Fi hp.ne;have h:=(hd.length hp.ne).1;rw[lf] at h;have h2:=Bn p;have h3:=hp.len;obtain⟨n,hn⟩:∃ n,(Af p).length=n+1:=⟨(Af p).length-1,by have:=An.2 f0;omega⟩;have hb:=Tv hp.ne hp.len hp.co hn;refine⟨fun i => ?_,by omega⟩;refine CG (k:=152) (Bq (hb i) ?_) (by decide);split
 ·exact Bm (by decide) (by decide)
 ·unfold Tu;split
  ·exact Bq (A8 _ (show 10<=2^4 by decide)) (by rw[<- C_];exact Bm (by decide) (by decide))
  ·have e1:(8:Nat)^9<=2^27:=by decide
   have e2:(17:Nat)^6<=2^25:=by decide
   refine Bq (Bx (z _ e1) e2) ?_;rw[<- C_,<- C_];exact Bm (by decide) (by decide)
theorem Fewp.fine{p}(hp:Fewp p):MO (Af p):=⟨hp.kb.1.mono (by decide),hp.kb.2⟩
theorem Fewp.good{p}(hp:Fewp p):∀ r∈(Af p).map cn,u 5 r:=AP hp.kb.1
theorem Fewp.l9{p}(hp:Fewp p):((Af p).map cn).length<=9:=by rw [N];exact hp.kb.2
theorem Atn{rs:List Rn}(hg:∀ r∈rs,u 5 r)(hn:rs.length<=9)(hp:Fewp (M rs)) :
  H I 22 [sL pc rs] (.tup [.sl ((Pg (M rs)).map (Iv.out (Af (M rs)))).length (Gv ((Pg (M rs)).map (Iv.out (Af (M rs))))),.bool true]):=by
 have hd:=hp.deep 895 0 LO rfl OE;have hlen:=IU hg hn;have hL:=Ri (p:=M rs) 895 0 LO OE hd;have b1:=Oa hlen (O LO.r) LO.a;have b2:=Oa hlen (O LO.t) LO.b;have hdd:LO.d (M rs)<=10:=by unfold Iv.d;omega
 have nl:C' (M rs)=false:=MD (K:=5) (HU (C4 hg)) (by decide) (by rw[s];omega);have k:=Ata hg hn hp.ne nl (n:=895) rK (by decide) hd (by omega) (by show Ym (cn (-40)) 0=true;decide) (by show Ym (cn 40) 0=true;decide) (by show ¬ CF (O (cn (-40))) 0 (O (cn 40)) 0>0;rw[At,At];decide);have n0:=rD (-40) 0 (QB (n := -40) (by decide));have n1:=rD 40 0 (QB (n:=40) (by decide));refine A0i rs ((Pg (M rs)).map (Iv.out (Af (M rs)))) 0 n0 n1 ?_;rw[N];exact k
def sd(p:List Int)(y:Iv)(m:Int)(c:Nat):Int:=EF (Af p) (O y.r) y.a (O y.t) y.b m c
theorem Ato{p:List Int}(hp:Y p ≠ [])(hl:2<=(Af p).length){x y:Int}{a b:Nat}(h:x*2^b<y*2^a)(hz:FR (Af p) y b=0):Vd p y b+1<=Vd p x a:=by
 have e1:=GQ p x a b;have e2:=GQ p y b a;have g:=PV (Af p) y b a;rw[H' b a] at e2 g;rw[<- e1,<- e2,HW,HW];refine oW p hp hl (Bg _) h ?_;rw[hz,Z4] at g;exact DE.1 g
theorem One.len{p:List Int}{y:Iv}(h:One p y):2<=(Af p).length:=by
 apply AE;intro g;have:=Yk (p:=p) (by omega) (O y.r) (O y.t) y.a y.b;have:=h.v;omega
theorem One.ne{p:List Int}{y:Iv}(h:One p y):Y p ≠ []:=by
 intro g;have hz:prim p=[]:=by rw[DX,<- CW];exact g
 have h0:Af p=[]:=by unfold Af;rw[hz];rfl
 have:=h.len;rw[h0] at this;simp at this
theorem OF(p:List Int)(lo:Int)(a:Nat)(hi:Int)(b:Nat)(x:Int)(c:Nat) : -1<=EF p lo a hi b x c/\EF p lo a hi b x c<=1:=by unfold EF; (repeat' split) <;> omega
theorem Wp{p:List Int}{y:Iv}{m:Int}{c:Nat}(h:m*2^y.a<=O y.r*2^c):sd p y m c=1:=by
 unfold sd EF;rw[if_pos];have hb:=QU (m*2^y.a) (O y.r*2^c);have:CF m c (O y.r) y.a ≠ 1:=fun g=>by have:=LN.1 g;omega
 unfold CF at this |-;omega
theorem Wq{p:List Int}{y:Iv}{m:Int}{c:Nat}(hlt:O y.r*2^y.b<O y.t*2^y.a)(h:O y.t*2^c<m*2^y.b):sd p y m c = -1:=by
 have h1:O y.r*2^c<m*2^y.a:=by
  have hA:=Bg y.a;have hB:=Bg y.b;have hC:=Bg c;apply BP (a:=2^y.b) _ (Aw hB);have e1:=A9 hlt hC;have e2:=A9 h hA;have e3:O y.r*2^c*2^y.b=O y.r*2^y.b*2^c:=n ..;have e4:O y.t*2^y.a*2^c=O y.t*2^c*2^y.a:=n ..;have e5:m*2^y.b*2^y.a=m*2^y.a*2^y.b:=n ..;omega
 unfold sd EF;rw[if_neg (by rw[LN.2 h1];decide),if_pos (by rw[LN.2 h];decide)]
theorem Od{p:List Int}{y:Iv}(h:One p y){m:Int}{c:Nat}(h1:O y.r*2^c<m*2^y.a)(h2:m*2^y.b<=O y.t*2^c) :
  (sd p y m c<=0↔Vd p m c=Vd p (O y.t) y.b)/\(sd p y m c=0↔FR (Af p) m c=0):=by
 have d1:¬ CF m c (O y.r) y.a<=0:=by rw[LN.2 h1];decide
 have d2:¬ CF m c (O y.t) y.b>0:=by
  intro g;have hb:=QU (m*2^y.b) (O y.t*2^c);have:CF m c (O y.t) y.b=1:=by unfold CF at g |-;omega
  have:=LN.1 this;omega
 have e:sd p y m c=if FR (Af p) m c=0 then 0 else if FR (Af p) m c=FR (Af p) (O y.t) y.b then -1 else 1:=by
  unfold sd EF;rw[if_neg d1,if_neg d2]
 constructor
 ·by_cases hlt:m*2^y.b<O y.t*2^c
  ·exact (fQ h h1 hlt).1
  ·have heq:m*2^y.b=O y.t*2^c:=by omega
   rw[e,Sl heq,fP heq];split
   ·simp
   ·simp
 ·rw[e];split
  ·rename_i g;simp[g]
  ·rename_i g;constructor
   ·intro hh;split at hh <;> omega
   ·intro hh;exact absurd hh g
theorem Sv{p:List Int}{y:Iv}(h:One p y){m:Int}{c:Nat}(hm:sd p y m c<=0){m':Int}{c':Nat}(hmm:m*2^c'<m'*2^c):sd p y m' c' = -1:=by
 have hC:=Bg c;have hC':=Bg c';have hA:=Bg y.a;have hB:=Bg y.b;by_cases g1:m'*2^y.b<=O y.t*2^c'
 ·have g2:O y.r*2^c<m*2^y.a:=by
   apply H7.1;intro g;rw[Wp g] at hm;exact absurd hm (by decide)
  have g3:O y.r*2^c'<m'*2^y.a:=by
   apply BP (a:=2^c) _ (Aw hC);have e1:=A9 g2 hC';have e2:=A9 hmm hA;have e3:O y.r*2^c'*2^c=O y.r*2^c*2^c':=n ..;have e4:m*2^y.a*2^c'=m*2^c'*2^y.a:=n ..;have e5:m'*2^c*2^y.a=m'*2^y.a*2^c:=n ..;omega
  have g4:m*2^y.b<=O y.t*2^c:=by
   apply CJ (a:=2^c') _ hC';have e1:=A9 hmm hB;have e2:=Ad g1 (Aw hC);have e3:m*2^y.b*2^c'=m*2^c'*2^y.b:=n ..;have e4:m'*2^c*2^y.b=m'*2^y.b*2^c:=n ..;have e5:O y.t*2^c*2^c'=O y.t*2^c'*2^c:=n ..;omega
  have v1:=(Od h g2 g4).1.1 hm;have v2:Vd p m' c'<=Vd p m c:=PU (Aw hmm);have v3:Vd p (O y.t) y.b<=Vd p m' c':=PU g1;obtain⟨s1,s2⟩:=Od h g3 g1;have s3:=s1.2 (by omega);have s4:sd p y m' c' ≠ 0:=by
   intro z;have:=Ato h.ne h.len hmm (s2.1 z);omega
  have hb:=(OF (Af p) (O y.r) y.a (O y.t) y.b m' c').1;unfold sd at s3 s4 |-;omega
 ·exact Wq h.lt (by omega)
theorem A0t{p:List Int}{y:Iv}(h:One p y)(m:Int)(c:Nat):sd p (stp (Af p) y) m c=sd p y m c:=by
 obtain⟨b1,b2⟩:=MC h.lt;have b1:O y.r*2^y.me<y.mn*2^y.a:=b1;have b2:y.mn*2^y.b<O y.t*2^y.me:=b2;have hne:CF (O y.r) y.a (O y.t) y.b ≠ 0:=by rw[Hn.2 h.lt];decide
 have hh:=h.half;have hmid:=Od h b1 (Aw b2);have bd:=OF (Af p) (O y.r) y.a (O y.t) y.b m c;unfold stp at hh |-;rw[if_neg hne] at hh |-;by_cases g:EF (Af p) (O y.r) y.a (O y.t) y.b y.mn y.me<=0
 ·rw[if_pos g] at hh |-;have gv:Vd p y.mn y.me=Vd p (O y.t) y.b:=hmid.1.1 g;have bd':=OF (Af p) (O y.r) y.a (O (cn y.mn)) y.me m c;by_cases c1:m*2^y.a<=O y.r*2^c
  ·have q1:sd p ⟨y.r,y.a,cn y.mn,y.me⟩ m c=1:=Wp c1;rw[q1,Wp c1]
  ·by_cases c2:m*2^y.me<=y.mn*2^c
   ·obtain⟨s1,s2⟩:=Od hh (m:=m) (c:=c) (by show O y.r*2^c<m*2^y.a;omega) (by show m*2^y.me<=O (cn y.mn)*2^c;rw[At];exact c2);have c3:m*2^y.b<=O y.t*2^c:=by
     have hE:=Bg y.me;have hB:=Bg y.b;have hC:=Bg c;apply CJ (a:=2^y.me) _ hE;have e1:=Ad c2 (Aw hB);have e2:=A9 b2 hC;have e3:m*2^y.b*2^y.me=m*2^y.me*2^y.b:=n ..;have e4:y.mn*2^c*2^y.b=y.mn*2^y.b*2^c:=n ..;have e5:O y.t*2^c*2^y.me=O y.t*2^y.me*2^c:=n ..;omega
    obtain⟨t1,t2⟩:=Od h (m:=m) (c:=c) (by omega) c3;have s1:sd p ⟨y.r,y.a,cn y.mn,y.me⟩ m c<=0↔Vd p m c=Vd p (O (cn y.mn)) y.me:=s1;rw[At,gv] at s1;unfold sd at s1 s2 t1 t2 |-;have q1:=s1.trans t1.symm;have q2:=s2.trans t2.symm;simp only at q1 q2 |-;generalize EF (Af p) (O y.r) y.a (O (cn y.mn)) y.me m c=u at *
    generalize EF (Af p) (O y.r) y.a (O y.t) y.b m c=w at *
    by_cases z1:u<=0
    ·have:=q1.1 z1;by_cases z2:u=0
     ·have:=q2.1 z2;omega
     ·have:w ≠ 0:=fun z=>z2 (q2.2 z);omega
    ·have:¬ w<=0:=fun z=>z1 (q1.2 z);omega
   ·have e1:sd p ⟨y.r,y.a,cn y.mn,y.me⟩ m c = -1:=Wq hh.lt (by show O (cn y.mn)*2^c<m*2^y.me;rw[At];omega);rw[e1];exact (Sv h g (by omega)).symm
 ·rw[if_neg g] at hh |-;have bd':=OF (Af p) (O (cn y.mn)) y.me (O y.t) y.b m c;by_cases c1:m*2^y.me<=y.mn*2^c
  ·have e1:sd p ⟨cn y.mn,y.me,y.t,y.b⟩ m c=1:=Wp (by show m*2^y.me<=O (cn y.mn)*2^c;rw[At];exact c1);rw[e1];have:¬ sd p y m c<=0:=by
    intro z;by_cases c2:m*2^y.me<y.mn*2^c
    ·have:=Sv h z c2;unfold sd at this;rw[this] at g;exact g (by decide)
    ·have heq:m*2^y.me=y.mn*2^c:=by omega
     have hE:=Bg y.me;have hA:=Bg y.a;have hB:=Bg y.b;have hC:=Bg c;have i1:O y.r*2^c<m*2^y.a:=by
      apply BP (a:=2^y.me) _ (Aw hE);have e1:=A9 b1 hC;have e3:O y.r*2^c*2^y.me=O y.r*2^y.me*2^c:=n ..;have e4:m*2^y.a*2^y.me=y.mn*2^y.a*2^c:=by rw[n,heq,n]
      omega
     have i2:m*2^y.b<=O y.t*2^c:=by
      apply CJ (a:=2^y.me) _ hE;have e1:=A9 b2 hC;have e3:O y.t*2^c*2^y.me=O y.t*2^y.me*2^c:=n ..;have e4:m*2^y.b*2^y.me=y.mn*2^y.b*2^c:=by rw[n,heq,n]
      omega
     have:=(Od h i1 i2).1.1 z;rw[fP heq] at this;exact g (hmid.1.2 this)
   unfold sd at this |-;omega
  ·by_cases c3:m*2^y.b<=O y.t*2^c
   ·obtain⟨s1,s2⟩:=Od hh (m:=m) (c:=c) (by show O (cn y.mn)*2^c<m*2^y.me;rw[At];omega) c3;have c4:O y.r*2^c<m*2^y.a:=by
     have hE:=Bg y.me;have hA:=Bg y.a;have hC:=Bg c;apply BP (a:=2^y.me) _ (Aw hE);have e1:=A9 (show y.mn*2^c<m*2^y.me by omega) hA;have e2:=A9 b1 hC;have e3:O y.r*2^c*2^y.me=O y.r*2^y.me*2^c:=n ..;have e4:y.mn*2^c*2^y.a=y.mn*2^y.a*2^c:=n ..;have e5:m*2^y.me*2^y.a=m*2^y.a*2^y.me:=n ..;omega
    obtain⟨t1,t2⟩:=Od h (m:=m) (c:=c) c4 c3;unfold sd at s1 s2 t1 t2 |-;have q1:=s1.trans t1.symm;have q2:=s2.trans t2.symm;simp only at q1 q2 |-;generalize EF (Af p) (O (cn y.mn)) y.me (O y.t) y.b m c=u at *
    generalize EF (Af p) (O y.r) y.a (O y.t) y.b m c=w at *
    by_cases z1:u<=0
    ·have:=q1.1 z1;by_cases z2:u=0
     ·have:=q2.1 z2;omega
     ·have:w ≠ 0:=fun z=>z2 (q2.2 z);omega
    ·have:¬ w<=0:=fun z=>z1 (q1.2 z);omega
   ·rw[Wq h.lt (by omega),Wq hh.lt (show O y.t*2^c<m*2^y.b by omega)]
theorem Wr{p:List Int}{y:Iv}(h:One p y)(m:Int)(c:Nat):∀ n,sd p (stpN (Af p) y n) m c=sd p y m c
 | 0=>rfl
 | n+1=>by
  show sd p (stp (Af p) (stpN (Af p) y n)) m c=_;rw[A0t (h.halves n),Wr h m c n]
theorem Wd.stp{k y}(h:Wd k y)(p:List Int):Wd (k+1) (stp p y):=by
 have hne:CF (O y.r) y.a (O y.t) y.b ≠ 0:=by rw[Hn.2 h.lt];decide
 unfold Go.Proofs.YtajompaehjkgkaaGreat.stp;rw[if_neg hne];split
 ·exact h.halves.1
 ·exact h.halves.2
theorem Wd.stpN{k y}(h:Wd k y)(p:List Int):∀ n,Wd (k+n) (stpN p y n)
 | 0=>h
 | n+1=>(Wd.stpN h p n).stp p
def Rj(p:List Int)(y:Iv)(k:Nat)(v:Int):Prop:=0<=sd p y v k/\sd p y (v+1) k<0
theorem Rj.unique{p:List Int}{y:Iv}(h:One p y){k:Nat}{v w:Int}(hv:Rj p y k v)(hw:Rj p y k w):v=w:=by
 have key:∀ v w,Rj p y k v->Rj p y k w->¬ v<w:=by
  intro v w hv hw g;by_cases e:v+1=w
  ·have:=hv.2;rw[e] at this;have:=hw.1;omega
  ·have:=Sv h (Aw hv.2) (m':=w) (c':=k) (A9 (by omega) (Bg k));have:=hw.1;omega
 have h1:=key v w hv hw;have h2:=key w v hw hv;omega
theorem Atp{p:List Int}{y:Iv}(k:Nat):sd p y (y.lo k) k=1:=Wp (by have:=(PW (O y.r) y.a k).1;unfold Iv.lo;omega)
theorem Atq{p:List Int}{y:Iv}(h:One p y)(k:Nat):sd p y (y.hi k+1) k = -1:=Wq h.lt (PW (O y.t) y.b k).2
theorem Acs{p:List Int}{y:Iv}(h:One p y){k:Nat}(hg:y.hi k-y.lo k=0\/y.hi k-y.lo k=1):Rj p y k (Z5 (Af p) y k):=by
 have h1:=Atp (p:=p) (y:=y) k;have h2:=Atq h k;unfold Z5;rcases hg with hg | hg
 ·rw[if_pos (by omega)];refine⟨by omega,?_⟩;rw[show y.lo k=y.hi k by omega];omega
 ·rw[if_neg (by omega)];by_cases c:EF (Af p) (O y.r) y.a (O y.t) y.b (y.hi k) k>=0
  ·rw[if_pos c];exact⟨c,by omega⟩
  ·rw[if_neg c];refine⟨by omega,?_⟩;rw[show y.lo k+1=y.hi k by omega];unfold sd;omega
theorem Yu{y:Iv}(h:O y.r*2^y.b<O y.t*2^y.a)(k:Nat):y.lo k<=y.hi k:=by
 have hA:=Bg y.a;have hB:=Bg y.b;have hK:=Bg k;have s1:=(PW (O y.r) y.a k).1;have s2:=(PW (O y.t) y.b k).2;unfold Iv.lo Iv.hi;generalize sc (O y.r) y.a k=u at *
 generalize sc (O y.t) y.b k=v at *
 have e1:=Ad s1 (Aw hB);have e2:=A9 s2 hA;have e3:=A9 h hK;have e4:u*(2^y.a*2^y.b)<(v+1)*(2^y.a*2^y.b):=by
  have a1:u*2^y.a*2^y.b=u*(2^y.a*2^y.b):=AB ..;have a2:(v+1)*2^y.b*2^y.a=(v+1)*(2^y.a*2^y.b):=by rw[AB,AD (2^y.b)]
  have a3:O y.r*2^k*2^y.b=O y.r*2^y.b*2^k:=n ..;have a4:O y.t*2^k*2^y.a=O y.t*2^y.a*2^k:=n ..;omega
 have:=BP e4 (Aw (BE hA hB));omega
theorem oX{j:Nat}{y:Iv}(h:Wd j y)(hj:27<=j){k:Nat}(hk:k<=20):y.hi k-y.lo k<=1:=by
 have hA:=Bg y.a;have hB:=Bg y.b;have hAB:=BE hA hB;have hK:=Bg k;have hJ:=Bg j;have s1:=(PW (O y.r) y.a k).2;have s2:=(PW (O y.t) y.b k).1;have hw:=h.w;unfold Iv.lo Iv.hi;generalize sc (O y.r) y.a k=u at *
 generalize sc (O y.t) y.b k=v at *
 have e1:=A9 s1 hB;have e2:=Ad s2 (Aw hA);have k20:(2:Int)^k<=1048576:=by
  have:=Bm (n:=2) (by decide) hk;have h:=MY.2 this;rw[Cr] at h;exact h
 have j27:(134217728:Int)<=2^j:=by
  have:=Bm (n:=2) (by decide) hj;have h:=MY.2 this;rw[Cr] at h;exact h
 generalize hAA:(2:Int)^y.a*2^y.b=M at *
 have a1:(u+1)*2^y.a*2^y.b=(u+1)*M:=by rw[<- hAA,AB]
 have a2:v*2^y.b*2^y.a=v*M:=by rw[<- hAA,AB,AD (2^y.b)]
 have a3:(O y.t*2^y.a-O y.r*2^y.b)*2^k=O y.t*2^k*2^y.a-O y.r*2^k*2^y.b:=by grind
 generalize O y.t*2^y.a-O y.r*2^y.b=W at *
 have hW0:0<W:=by
  apply H7.1;intro g;have:=Ad g (Aw hJ);omega
 have w1:W*134217728<=80*M:=by
  have:=Ah j27 (Aw hW0);omega
 have w2:W*2^k<=W*1048576:=Ah k20 (Aw hW0);have w3:W*2^k<M:=by omega
 have w4:(v-(u+1))*M<1*M:=by rw[Int.sub_mul];omega
 have:=BP w4 (Aw hAB);omega
theorem Sw{j:Nat}{y:Iv}(h:Wd j y){k:Nat}(hk:k<=20):(y.hi k).natAbs<=2^27/\(y.lo k).natAbs<=2^27:=by
 have hA:=Bg y.a;have hB:=Bg y.b;have hK:=Bg k;have hlt:=h.lt;have l1:=h.lo;have l2:=h.hi;have k20:(2:Int)^k<=1048576:=by
  have:=Bm (n:=2) (by decide) hk;have h:=MY.2 this;rw[Cr] at h;exact h
 have l3:O y.r<=40*2^y.a:=by
  apply CJ (a:=2^y.b) _ hB;have:=Ad l2 (Aw hA);have e:(40:Int)*2^y.b*2^y.a=40*2^y.a*2^y.b:=by grind
  omega
 have l4 : -(40*2^y.b)<=O y.t:=by
  apply CJ (a:=2^y.a) _ hA;have:=Ad l1 (Aw hB);have e : -((40:Int)*2^y.a)*2^y.b = -(40*2^y.b)*2^y.a:=by grind
  omega
 have key:∀ (x:Int) (a:Nat),-(40*2^a)<=x->x<=40*2^a->(sc x a k).natAbs<=2^27:=by
  intro x a g1 g2;have hA:=Bg a;obtain⟨s1,s2⟩:=PW x a k;generalize sc x a k=u at *
  have e1:=Ad g2 (Aw hK);have e2:=Ad g1 (Aw hK);have e3:(40:Int)*2^a*2^k=40*2^k*2^a:=by grind
  have e4 : -((40:Int)*2^a)*2^k = -(40*2^k)*2^a:=by grind
  have b1:u<=40*2^k:=CJ (show u*2^a<=40*2^k*2^a by omega) hA;have b2 : -(40*2^k)<u+1:=BP (show -(40*2^k)*2^a<(u+1)*2^a by omega) (Aw hA);have p27:(2:Nat)^27=134217728:=by decide
  omega
 exact⟨key _ _ l4 l2,key _ _ l1 l3⟩
theorem gI{p:List Int}(hp:MO (Af p))(hL:BU (Af p)){y:Iv}(h:One p y){m:Nat}(hx:IvOk 6 m y)(hm:m<=1000){k:Nat}(hk:k<=64):∀ (d:Nat) (L H:Int),(H-L).toNat<=d->L<=H->L.natAbs<=2^27->H.natAbs<=2^27->0<=sd p y L k->sd p y (H+1) k<0 ->
  ∃ v,Rj p y k v/\W I (.loop Xr) (Pf ((Af p).map cn) y.r (y.a:Nat) y.t (y.b:Nat) (k:Nat) (false,[]) (cn 1) (cn L) (cn H)) (.exit 0) (Pf ((Af p).map cn) y.r (y.a:Nat) y.t (y.b:Nat) (k:Nat) (false,[]) (cn 1) (cn v) (cn v)):=by
 have p27:(2:Nat)^27=134217728:=by decide
 have p28:(2:Nat)^28=268435456:=by decide
 have p29:(2:Nat)^29=536870912:=by decide
 intro d;induction d with
 | zero =>
  intro L H hd hLH l1 l2 s1 s2;have e:L=H:=by omega
  subst e;have g1:u 1 (cn L):=AZ (CG (k:=27) l1 (by decide));have c:=Sj (na:=(cn L).1) (nb:=(cn L).1) g1.1 g1.1 (by have:=g1.2;omega) (by have:=g1.2;omega);rw[show ∀ n,rv (cn n).1 (cn n).2=n from At,fW.2 rfl] at c;exact⟨L,⟨s1,s2⟩,Al (rC _ _ _ _ _ _ _ _ _ _ 0 (by decide) c) (by nofun)⟩
 | succ d ih =>
  intro L H hd hLH l1 l2 s1 s2;have g1:u 1 (cn L):=AZ (CG (k:=27) l1 (by decide));have g2:u 1 (cn H):=AZ (CG (k:=27) l2 (by decide));have c:=Sj (na:=(cn L).1) (nb:=(cn H).1) g1.1 g2.1 (by have:=g1.2;omega) (by have:=g2.2;omega);rw[show ∀ n,rv (cn n).1 (cn n).2=n from At,show ∀ n,rv (cn n).1 (cn n).2=n from At] at c;by_cases hlt:L<H
  ·rw[Atc.2 hlt] at c;have g4:u 1 (cn 1):=AZ (CG (k:=27) (by decide) (by decide));have a1:=Mt (na:=(cn L).1) (nb:=(cn H).1) g1.1 g2.1 (by have:=g1.2;omega) (by have:=g2.2;omega);rw[show ∀ n,rv (cn n).1 (cn n).2=n from At,show ∀ n,rv (cn n).1 (cn n).2=n from At] at a1;have g3:u 1 (cn (L+H)):=AZ (CG (k:=28) (by omega) (by decide));have a2:=Mt (na:=(cn (L+H)).1) (nb:=(cn 1).1) g3.1 g4.1 (by have:=g3.2;omega) (by have:=g4.2;omega);rw[show ∀ n,rv (cn n).1 (cn n).2=n from At,show ∀ n,rv (cn n).1 (cn n).2=n from At] at a2;have g5:u 1 (cn (L+H+1)):=AZ (CG (k:=29) (by omega) (by decide));have a3:=Mx (neg:=(cn (L+H+1)).1) g5.1 1 (by decide) (by have:=g5.2;omega);rw[show ∀ n,rv (cn n).1 (cn n).2=n from At] at a3;have e2:(2:Int)^1=2:=by decide
   rw[e2] at a3;generalize hM:(L+H+1) / 2=M at a3;have hMb:M.natAbs<=2^27:=by omega
   have g6:u 1 (cn M):=AZ (CG (k:=27) hMb (by decide));have wr:=Yf hp hx.gr hx.gt (g6.mono (show 1<=100 by omega)) (a:=y.a) (b:=y.b) (c:=k) (by have:=hx.a;omega) (by have:=hx.b;omega) (by omega) hL (by rw[Hn.2 h.lt];decide);rw[At] at wr;by_cases hs:0<=sd p y M k
   ·obtain⟨v,hv,hr⟩:=ih M H (by omega) (by omega) hMb l2 hs s2;exact⟨v,hv,W.loop (A0e _ _ _ _ _ _ _ _ _ _ _ _ _ M _ (by decide) (decide_eq_true hs) c a1 a2 a3 wr) hr⟩
   ·have a4:=NB (na:=(cn M).1) (nb:=(cn 1).1) g6.1 g4.1 (by have:=g6.2;omega) (by have:=g4.2;omega);rw[show ∀ n,rv (cn n).1 (cn n).2=n from At,show ∀ n,rv (cn n).1 (cn n).2=n from At] at a4;obtain⟨v,hv,hr⟩:=ih L (M-1) (by omega) (by omega) l1 (by omega) s1 (by rw[show M-1+1=M by omega];omega);exact⟨v,hv,W.loop (A0f _ _ _ _ _ _ _ _ _ _ _ _ _ M _ _ (by decide) (decide_eq_false hs) c a1 a2 a3 wr a4) hr⟩
  ·have e:L=H:=by omega
   subst e;rw[fW.2 rfl] at c;exact⟨L,⟨s1,s2⟩,Al (rC _ _ _ _ _ _ _ _ _ _ 0 (by decide) c) (by nofun)⟩
theorem oY{p:List Int}(hp:MO (Af p))(hL:BU (Af p)){y:Iv}(h:One p y){m j:Nat}(hx:IvOk 6 m y)(hm:m<=1000)(hw:Wd j y){k:Nat}(hk:k<=20) :
  ∃ v,Rj p y k v/\H I 78 [y.av (Af p),.int .i64 (k:Nat)] (Ab v):=by
 obtain⟨b1,b2⟩:=Sw hw hk;obtain⟨v,hv,hr⟩:=gI hp hL h hx hm (k:=k) (by omega) (y.hi k-y.lo k).toNat (y.lo k) (y.hi k) (Am _) (Yu h.lt k) b2 b1 (by rw[Atp];decide) (by rw[Atq h];decide);refine⟨v,hv,?_⟩;have gr:=hx.gr;have gt:=hx.gt;have u1:=LB (neg:=y.r.1) gr.1 k (by have:=gr.2;omega);have u2:=LB (neg:=y.t.1) gt.1 k (by have:=gt.2;omega);have f1:AY 103 (O y.r*2^k):=gr.fits.mul (MA (n:=k) (k:=3) (by omega));have f2:AY 103 (O y.t*2^k):=gt.fits.mul (MA (n:=k) (k:=3) (by omega));have d1:=Mx (neg:=(cn (O y.r*2^k)).1) (AZ f1).1 y.a (by have:=hx.a;omega) (by have:=(AZ f1).2;omega);have d2:=Mx (neg:=(cn (O y.t*2^k)).1) (AZ f2).1 y.b (by have:=hx.b;omega) (by have:=(AZ f2).2;omega);rw[show ∀ n,rv (cn n).1 (cn n).2=n from At] at d1 d2;exact A0g _ y.r y.t _ _ (k:Nat) _ _ _ _ _ _ (QB (n:=1) (by decide)) u1 d1 u2 d2 hr
def Iv.yo(y:Iv):Iv:=⟨cn (O y.r),y.a,cn (O y.t),y.b⟩
theorem One.yo{p y}(h:One p y):One p y.yo:=⟨by show O (cn _)*_<O (cn _)*_;rw [At,At];exact h.lt,by show Vd p (O (cn _)) _-Vd p (O (cn _)) _=1;rw [At,At];exact h.v⟩
theorem Wd.yo{k y}(h:Wd k y):Wd k y.yo:=⟨by show (O (cn _)*_-O (cn _)*_)*_=_;rw [At,At];exact h.w,by show _<=O (cn _);rw [At];exact h.lo,by show O (cn _)<=_;rw [At];exact h.hi,h.a,h.b⟩
theorem A4x{C m:Nat}{y}(h:IvOk C m y):IvOk C m y.yo:=⟨AZ h.gr.fits,AZ h.gt.fits,h.a,h.b,by show (O (cn _)).natAbs<=_;rw [At];exact h.vr,by show (O (cn _)).natAbs<=_;rw [At];exact h.vt⟩
theorem Rk{n k:Nat}(h:n<=2^k):C9 n<=k+1:=by
 unfold C9;split
 ·omega
 ·rename_i h0;have:n.log2<k+1:=(Jv h0).2 (Dh h (PF (by decide) (by omega)));omega
theorem Yv{p:List Int}(hp:Y p ≠ [])(x:Int)(a:Nat):Vd (Af p) x a=Vd p x a:=by
 have e:BH (Af p)=BH p:=by
  unfold BH;rw[J3 hp]
 unfold Vd;rw[e]
theorem Kr{p:List Int}(hp:Fewp p){y:Iv}(h:One p y)(hx:IvOk 6 895 y):J6 ((Af p).map cn) y.r (y.a:Nat) y.t (y.b:Nat)=true:=by
 have lf:=(Fi hp.ne).1;have bn:∀ (r:Rn) (a:Nat),a<=895->(O r).natAbs<=2^6*2^a->Hm r (a:Nat)=true:=by
  intro r a ha hr;unfold Hm;rw[<- C_] at hr;have:=Rk hr;rw[decide_eq_true (show (a:Int)>=0 by omega),decide_eq_true (show (a:Int)<=1024 by omega),decide_eq_true (show C9 (O r).natAbs<=1024 by omega)];rfl
 unfold J6;rw[AH,MD hp.kb.1 (by decide) (by have:=hp.kb.2;omega),lf,decide_eq_true h.len,bn _ _ hx.a hx.vr,bn _ _ hx.b hx.vt,F,F];rw[if_neg (by rw[Hn.2 h.lt];decide)];have hc:Pe (Af p) (O y.r) y.a (O y.t) y.b=1:=by
  have e:Pe (Af p) (O y.r) y.a (O y.t) y.b=Vd (Af p) (O y.r) y.a-Vd (Af p) (O y.t) y.b:=rfl;rw[e,Yv hp.ne,Yv hp.ne];exact h.v
 rw[decide_eq_true (show CF (O y.r) y.a (O y.t) y.b = -1/\Pe (Af p) (O y.r) y.a (O y.t) y.b=1 from ⟨Hn.2 h.lt,hc⟩)];rfl
section
variable {p:List Int} (hp:Fewp p) {y:Iv} (h:One p y) (hx:IvOk 6 895 y)
include hp
theorem Ws:H I 20 [BD ((Af p).map cn) y.r (y.a:Nat) y.t (y.b:Nat)] (BD ((Af p).map cn) y.r (y.a:Nat) y.t (y.b:Nat)):=by
 have k:=nW hp.good hp.l9 y.r y.t (y.a:Nat) (y.b:Nat);rw[AH,J3 hp.ne] at k;exact k
theorem Acu:H I 75 [BD ((Af p).map cn) y.r (y.a:Nat) y.t (y.b:Nat)] (BD ((Af p).map cn) y.r (y.a:Nat) y.t (y.b:Nat)):=by
 have k:=Sn hp.good hp.l9 y.r y.t (y.a:Nat) (y.b:Nat);rw[AH,J3 hp.ne] at k;exact k
include h hx
theorem gJ{q:Rn}(hq:u 100 q){g:Nat}(hg:g<=1024)(hb:Hm q (g:Nat)=true):H I 24 [BD ((Af p).map cn) y.r (y.a:Nat) y.t (y.b:Nat),A5 q (g:Nat)] (.tup [.int .i64 (sd p y (O q) g),.int .i64 0]):=by
 have v:=MB hp.good hp.l9 hx.gr hx.gt (y.a:Nat) (y.b:Nat);rw[Kr hp h hx] at v;have b:=J5 (e:=(g:Nat)) hq;rw[hb] at b;have s:=Sm hp.fine hx.gr hx.gt hq (a:=y.a) (b:=y.b) (c:=g) (by have:=hx.a;omega) (by have:=hx.b;omega) (by omega) (by rw[Hn.2 h.lt];decide);exact Yh _ y.r y.t _ _ q _ _ _ true true rfl rfl v b (Acu hp) s
theorem Acv{q:Rn}(hq:u 100 q){g:Nat}(hg:g<=1024):H I 27 [BD ((Af p).map cn) y.r (y.a:Nat) y.t (y.b:Nat),A5 q (g:Nat)] (.int .i64 (sd p y (O q) g)) :=
 Yf hp.fine hx.gr hx.gt hq (a:=y.a) (b:=y.b) (c:=g) (by have:=hx.a;omega) (by have:=hx.b;omega) (by omega) (Fi hp.ne).1 (by rw[Hn.2 h.lt];decide)
theorem oZ{j:Nat}(hw:Wd j y){k:Nat}(hk:k<=20):∃ v,v.natAbs<=2^27/\H I 25 [BD ((Af p).map cn) y.r (y.a:Nat) y.t (y.b:Nat),.int .i64 (k:Nat)] (.tup [Ab v,.int .i64 0]) /\
  H I 26 [BD ((Af p).map cn) y.r (y.a:Nat) y.t (y.b:Nat),.int .i64 (k:Nat)] (.tup [Ab v,.int .i64 0]):=by
 obtain⟨v,hv,hb⟩:=oY hp.fine (Fi hp.ne).1 h hx (by decide) hw hk;have vr:=QZ hp.good hp.l9 hx.gr hx.gt (y.a:Nat) (y.b:Nat);rw[Kr hp h hx] at vr;have k2:=Abz _ y.r y.t _ _ (k:Nat) v _ true rfl (by rw[decide_eq_false_iff_not];omega) (by rw[decide_eq_false_iff_not];omega) vr (Ws hp) hb;have g27:(stpN (Af p) y 27).hi k-(stpN (Af p) y 27).lo k<=1:=oX (hw.stpN (Af p) 27) (by omega) hk;have nn:∀ n,0<=(stpN (Af p) y n).hi k-(stpN (Af p) y n).lo k:=fun n=>by
  have:=Yu (h.halves n).lt k;omega
 obtain⟨n,hn,hs,h0⟩:∃ n,n<=27/\(∀ t,t<n->2<=(stpN (Af p) y t).hi k-(stpN (Af p) y t).lo k)/\((stpN (Af p) y n).hi k-(stpN (Af p) y n).lo k=0\/(stpN (Af p) y n).hi k-(stpN (Af p) y n).lo k=1):=by
  rcases H8 (fun n=>decide ((stpN (Af p) y n).hi k-(stpN (Af p) y n).lo k<=1)) 28 28 0 rfl with g | ⟨n,_,h2,h3,h4⟩
  ·exact absurd g27 (of_decide_eq_false (g 27 (by omega) (by omega)))
  ·refine⟨n,by omega,fun t ht => ?_,?_⟩
   ·have:=of_decide_eq_false (h4 t (by omega) ht);omega
   ·have:=of_decide_eq_true h3;have:=nn n;omega
 have hi27:=(Sw (hw.stpN (Af p) n) hk).1;have k1:=nY hp.fine hx (k:=k) (by omega) (n:=n) (by omega) hs (.inl (by rw[Hn.2 (h.halves n).lt];decide)) h0 (AZ (CG (k:=27) hi27 (by decide)));have hf:=Acs (h.halves n) h0;have hf2:Rj p y k (Z5 (Af p) (stpN (Af p) y n) k):=by
  unfold Rj at hf |-;rw[Wr h,Wr h] at hf;exact hf
 have e:=hf2.unique h hv;rw[e] at k1;have k3:H I 25 [BD ((Af p).map cn) y.r (y.a:Nat) y.t (y.b:Nat),.int .i64 (k:Nat)] (.tup [Ab v,.int .i64 0]):=by
  refine fV hp.good hp.l9 hx (Kr hp h hx) (by omega) ?_;rw[AH,J3 hp.ne];exact k1
 refine⟨v,?_,k3,k2⟩;rw[<- e];have lo27:=(Sw (hw.stpN (Af p) n) hk).2;have:Z5 (Af p) (stpN (Af p) y n) k=(stpN (Af p) y n).hi k\/Z5 (Af p) (stpN (Af p) y n) k=(stpN (Af p) y n).lo k:=by
  unfold Z5;split
  ·exact .inr rfl
  ·split
   ·exact .inl rfl
   ·exact .inr rfl
 rcases this with g | g <;> rw[g]
 ·exact hi27
 ·exact lo27
end
theorem ZB{r:Rn}(hr:u 100 r){e:Nat}(he:e<=1000000):H I 130 [Ap r,.int .i64 (e:Nat)] (dyA (O r / 2^Fe (O r) e) ((e-Fe (O r) e:Nat):Int)):=by
 have h1:=Is (neg:=r.1) (xs:=r.2) hr.1 (by have:=hr.2;omega);rw[show rv r.1 r.2=O r from rfl] at h1;have hN:(G (O r).natAbs).length<1048576:=by have:=hr.fits.len;omega
 generalize O r=N at *
 by_cases h0:N=0
 ·subst h0;rw[PP,Auu,Lt];exact VX r (e:Nat) 0 rfl h1
 ·have hl:=Pc h0 he hN e 0 (by omega) (by simp);rw[Da,Int.ediv_one,BR] at hl;have hle:=Kj e N;have hs:=Tg h0 (I0 e N) (by omega) (by omega);have k:=VY r (e:Nat) N _ _ (by rw[beq_eq_false_iff_ne];have:=DO N.natAbs;omega) h1 hl hs;have ew:D R ((e:Int)-((Fe N e:Nat):Int))=((e-Fe N e:Nat):Int):=by rw[AW (by omega) (by omega)];omega
  rw[ew] at k;exact k
theorem pC{q:Rn}(hq:u 1 q){g:Nat}(hg:g<=10)(hqv:(O q).natAbs<=2^20):∃ (fs:List Rn) (n:Int) (m:Nat),H I 29 [A5 q (g:Nat)] (.tup [BD fs (cn n) (m:Nat) (cn n) (m:Nat),.int .i64 0]) /\
  H I 18 [BD fs (cn n) (m:Nat) (cn n) (m:Nat)] (.bool true)/\H I 24 [BD fs (cn n) (m:Nat) (cn n) (m:Nat),A5 q (g:Nat)] (.tup [.int .i64 0,.int .i64 0]):=by
 have hz:=Kj g (O q);have hd:=I0 g (O q);have hq100:u 100 q:=hq.mono (by omega);have rd:=ZB hq100 (e:=g) (by omega);have hbq:Hm q (g:Nat)=true:=by
  unfold Hm;have:=Rk hqv;rw[decide_eq_true (show (g:Int)>=0 by omega),decide_eq_true (show (g:Int)<=1024 by omega),decide_eq_true (show C9 (O q).natAbs<=1024 by omega)];rfl
 have b:=J5 (e:=(g:Nat)) hq100;rw[hbq] at b;generalize hZ:Fe (O q) g=z at *
 obtain⟨n,hn⟩:=hd;have pz:=Bg z;have en:O q / 2^z=n:=by
  conv=>lhs;rw[hn]
  exact BN _ (by omega)
 rw[en] at rd;obtain⟨m,hm⟩:∃ m,g=z+m:=⟨g-z,by omega⟩;rw[show g-z=m by omega] at rd;have hnb:n.natAbs<=2^20:=by
  have h1:(O q).natAbs=2^z*n.natAbs:=by rw[hn,BA,Kx];rfl
  have h2:1<=2^z:=Cn (by decide);have:=A8 n.natAbs h2;omega
 have gn:u 1 (cn n):=AZ (CG (k:=20) hnb (by decide));have g1:u 1 (cn 1):=AZ (CG (k:=20) (by decide) (by decide));have ng:=RU (neg:=(cn n).1) gn.1 (by have:=gn.2;omega);have sh:=O1 (neg:=(cn 1).1) g1.1 m (by omega) (by have:=g1.2;omega);rw[show ∀ n,rv (cn n).1 (cn n).2=n from At] at ng sh;have wo:=cG (n:=1) (by decide);have ro:=A0h q (g:Nat) n (m:Nat) _ _ _ rd ng wo sh;have pm:=Bg m;rw[CR] at ro;have ro:H I 81 [A5 q (g:Nat)] (BD (([-n,(2:Int)^m]:List Int).map cn) (cn n) (m:Nat) (cn n) (m:Nat)):=ro;have pm10:(2:Int)^m<=1024:=by
  have:=Bm (n:=2) (by decide) (show m<=10 by omega);have h:=MY.2 this;rw[Cr] at h;exact h
 have p20:(2:Nat)^20=1048576:=by decide
 have lead:BU [-n,(2:Int)^m]:=NP (.inr (by show (2:Int)^m ≠ 0;omega));have kb:Kb 1 [-n,(2:Int)^m]:=HU fun x hx=>by
  simp only[CH,M',or_false] at hx;rcases hx with rfl | rfl
  ·exact CG (k:=20) (by rw[Aue];exact hnb) (by decide)
  ·exact CG (k:=20) (by omega) (by decide)
 have hgd:∀ r∈([-n,(2:Int)^m]:List Int).map cn,u 5 r:=fun r hr=>(AP kb r hr).mono (by omega);have tr:=Eg (Hx (rs:=([-n,(2:Int)^m]:List Int).map cn) (fun r h=>(hgd r h).mono (by omega)) (by rw[N];show 2<=1048576;decide));rw[AH,lead] at tr;have c1:=V' (cn n) (m:Nat) _ (Is (neg:=(cn n).1) gn.1 (by have:=gn.2;omega));rw[show ∀ n,rv (cn n).1 (cn n).2=n from At] at c1;have rt:=rB (([-n,(2:Int)^m]:List Int).map cn) (cn n) (cn n) (m:Nat) (m:Nat) _ _ _ _ _ tr c1 c1;have ov:=MB hgd (by rw[N];show 2<=9;decide) (gn.mono (show 1<=100 by omega)) (gn.mono (show 1<=100 by omega)) (m:Nat) (m:Nat);have ev:J6 (([-n,(2:Int)^m]:List Int).map cn) (cn n) (m:Nat) (cn n) (m:Nat)=true:=by
  have bb:Hm (cn n) (m:Nat)=true:=by
   unfold Hm;rw[At];have:=Rk hnb;rw[decide_eq_true (show (m:Int)>=0 by omega),decide_eq_true (show (m:Int)<=1024 by omega),decide_eq_true (show C9 n.natAbs<=1024 by omega)];rfl
  unfold J6;rw[AH,MD kb (by decide) (by show 2<=17;decide),lead,bb,Wg,if_pos rfl,At,F];have hz:hv [-n,(2:Int)^m] n (2^m)=0:=by
   show -n*(2^m)^1+n*(2^m*(2^m)^0+n*0)=0;generalize (2:Int)^m=q;grind
  rw[hz];rfl
 rw[ev] at ov;have fr:=Sn hgd (by rw[N];show 2<=9;decide) (cn n) (cn n) (m:Nat) (m:Nat);have ex:=PR (p:=Af (M (([-n,(2:Int)^m]:List Int).map cn))) (gn.mono (show 1<=100 by omega)) (gn.mono (show 1<=100 by omega)) (a:=m) (b:=m) (by omega) (by omega);rw[Wg] at ex;have cm:=JL (gn.mono (show 1<=200 by omega)) (hq.mono (show 1<=200 by omega)) (a:=m) (b:=g) (by omega) (by omega);have e0:CF (O (cn n)) m (O q) g=0:=by
  rw[Asx,At,hn,hm,B4];generalize (2:Int)^m=A;generalize (2:Int)^z=B;grind
 rw[e0] at cm;have sdx:=Aam _ (cn n) (cn n) (m:Nat) (m:Nat) q (g:Nat) 0 true rfl ex cm;exact⟨_,n,m,Aca q (g:Nat) _ _ _ _ _ _ _ _ _ _ true rfl b ro rt,ov,Yh _ (cn n) (cn n) _ _ q _ _ _ true true rfl rfl ov b fr sdx⟩
def Wt(q:Rn)(g:Int):Bool:=decide (g>=0)&&decide (g<=10)&&decide (q.2.length<=1)&&decide (C9 (O q).natAbs<=20)
theorem Acw{q:Rn}(hq:u 35184372088832 q)(g:Int):H I 14 [A5 q g] (.bool (Wt q g)):=by
 have hb:=PQ (neg:=q.1) hq.1 hq.2;unfold Wt;by_cases c1:g>=0
 ·rw[decide_eq_true c1];by_cases c2:g<=10
  ·rw[decide_eq_true c2];by_cases c3:q.2.length<=1
   ·rw[decide_eq_true c3];have k:=Acb q g _ (decide_eq_true c1) (decide_eq_true c2) (by rw[decide_eq_true_eq];omega) hb;have ez:decide (((C9 (O q).natAbs:Nat):Int)<=20)=decide (C9 (O q).natAbs<=20):=decide_eq_decide.2 (by omega);show H _ _ _ (.bool (B (C9 (O q).natAbs<=20)));rw[<- ez];exact k
   ·rw[decide_eq_false c3];exact Acd q g (decide_eq_true c1) (decide_eq_true c2) (by rw[decide_eq_false_iff_not];omega)
  ·rw[decide_eq_false c2];exact Ace q g (decide_eq_true c1) (decide_eq_false c2)
 ·rw[decide_eq_false c1];exact Acf q g (decide_eq_false c1)
theorem Acx{q:Rn}(hq:AI q.2){g:Int}(h:Wt q g=true):∃ a:Nat,g=(a:Nat)/\a<=10/\u 1 q/\(O q).natAbs<=2^20:=by
 unfold Wt at h;simp only[Ac,decide_eq_true_eq] at h;refine⟨g.toNat,by omega,by omega,⟨hq,h.1.2⟩,?_⟩;have hb:=h.2;unfold C9 at hb;split at hb
 ·rename_i g0;rw[g0];exact Bf _
 ·rename_i g0;exact Qe ((Jv g0).1 (by omega))
theorem Sx(haw:H I 12 [] (.bool true)){rs:List Rn}(hg:∀ r∈rs,u 35184372088832 r){q:Rn}(hq:u 35184372088832 q)(g k:Int) :
  H I 5 [sL pc rs,A5 q g,.int .i64 k] (.bool true):=by
 have hfew:=Ast hg;by_cases c0:MQ rs=true
 case neg =>
  rw[Adj] at c0;rw[c0] at hfew;exact Ass rs q g k false rfl haw hfew
 obtain⟨h5,h9⟩:=Asu hg c0;rw[c0] at hfew;have hnear:=Acw hq g;by_cases c1:Wt q g=true
 case neg =>
  rw[Adj] at c1;rw[c1] at hnear;exact Asr rs q g k true false rfl rfl haw hfew hnear
 rw[c1] at hnear;obtain⟨a,rfl,ha,g1,gv⟩:=Acx hq.1 c1;have hdeg:=Pd (fun r h=>(h5 r h).mono (by omega)) (show rs.length<=1048576 by omega);by_cases c2:(Y (M rs)).length<2
 ·exact Aso rs q _ k _ true true rfl rfl (by rw[decide_eq_true_eq];omega) haw hfew hnear hdeg
 have d2:decide ((((Y (M rs)).length:Nat):Int)-1<1)=false:=by rw[decide_eq_false_iff_not];omega
 by_cases c3:k>20
 ·exact Asp rs q _ k _ true true rfl rfl d2 (decide_eq_true c3) haw hfew hnear hdeg
 have h0:Y (M rs) ≠ []:=by intro e;rw[e] at c2;simp at c2
 have hp:=Atm c0 h0;have hall:=Atn h5 h9 hp;obtain⟨fs,n,m,S,o2,o3⟩:=pC g1 ha gv;have hbq:Hm q (a:Nat)=true:=by
  unfold Hm;have:=Rk gv;rw[decide_eq_true (show (a:Int)>=0 by omega),decide_eq_true (show (a:Int)<=1024 by omega),decide_eq_true (show C9 (O q).natAbs<=1024 by omega)];rfl
 have hone:=fun y hy=>Acr hp y hy;have hok:=fun y hy=>Atl (p:=M rs) y hy;generalize hpp:M rs=p at *
 have hLl:(Pg p).length<=1000*1000:=by
  have hd:=hp.deep 895 0 LO rfl OE;have hlen:=IU h5 h9;rw[hpp] at hlen;have hL:=Ri (p:=p) 895 0 LO OE hd;have b1:=Oa hlen (O LO.r) LO.a;have b2:=Oa hlen (O LO.t) LO.b;have hdd:LO.d p<=10:=by unfold Iv.d;omega
  unfold Pg Ju;split
  ·simp
  ·omega
 generalize Pg p=L at *
 have step:∀ i,i<L.length->W I sC (WV false (L.map (Iv.out (Af p))) q (a:Nat) k (i:Nat)) .norm (WV false (L.map (Iv.out (Af p))) q (a:Nat) k ((i+1:Nat):Int)):=by
  intro i hi;have ei:D R ((i:Int)+1)=((i+1:Nat):Int):=by rw[AW (by omega) (by omega)];omega
  obtain⟨on,j,hj,wd⟩:=hone L[i] (Dc hi);have ok:=A4x (hok L[i] (Dc hi));have on:=on.yo;have wd:=wd.yo;have eg:(L.map (Iv.out (Af p))).getD (A (i:Int)) zR=⟨(Af p).map cn,(L[i].yo).r,((L[i].yo).a:Nat),(L[i].yo).t,((L[i].yo).b:Nat)⟩:=by
   rw[F,Z,CA,Ae hi];rfl
  generalize L[i].yo=y at *
  have pl:=Ws (y:=y) hp;have cd:=gJ hp on ok (g1.mono (show 1<=100 by omega)) (g:=a) (by omega) hbq;have wi:=Acv hp on ok (g1.mono (show 1<=100 by omega)) (g:=a) (by omega);by_cases c4:k<0
  ·have vv:=MB hp.good hp.l9 ok.gr ok.gt (y.a:Nat) (y.b:Nat);rw[Kr hp on ok] at vv;have vr:=QZ hp.good hp.l9 ok.gr ok.gt (y.a:Nat) (y.b:Nat);rw[Kr hp on ok] at vr;have f1:=Abw _ y.r y.t _ _ k true rfl (decide_eq_true c4) vv;have f2:=Aby _ y.r y.t _ _ k true rfl (decide_eq_true c4) vr;have sm:=Wa (false,[]) (by decide);have kk:=Asn false (L.map (Iv.out (Af p))) q (a:Nat) k (i:Nat) ((Af p).map cn) y.r y.t (false,[]) (y.a:Nat) (y.b:Nat) _ 1 (by rw[decide_eq_true_eq,N];omega) (by simp) (by decide) (by rw[N];omega) (by rw[eg];exact pl) (by rw[eg];exact cd) (by rw[eg];exact f1) (by rw[eg];exact f2) wi sm;rwa [ei] at kk
  ·obtain⟨k',rfl⟩:∃ k':Nat,k=(k':Nat):=⟨k.toNat,by omega⟩;obtain⟨v,vb,f1,f2⟩:=oZ hp on ok wd (k:=k') (by omega);have sm:=Wa (cn v) (by have:=(AZ (CG (k:=27) (K:=1) vb (by decide))).2;omega);have kk:=Asn false (L.map (Iv.out (Af p))) q (a:Nat) (k':Nat) (i:Nat) ((Af p).map cn) y.r y.t (cn v) (y.a:Nat) (y.b:Nat) _ 0 (by rw[decide_eq_true_eq,N];omega) (by simp) (by decide) (by rw[N];omega) (by rw[eg];exact pl) (by rw[eg];exact cd) (by rw[eg];exact f1) (by rw[eg];exact f2) wi sm;rwa [ei] at kk
 have lp:=W.up (prog:=I) (c:=sC) (ex := .exit 0) (fin:=WV false (L.map (Iv.out (Af p))) q (a:Nat) k (L.length:Int))
  (fun i=>WV false (L.map (Iv.out (Af p))) q (a:Nat) k (i:Nat)) L.length (by nofun) step (A4q _ _ _ _ _ _ (by rw[decide_eq_false_iff_not,N];omega)) 0 (Bf _)
 exact Asq rs q (a:Nat) k _ _ (L.map (Iv.out (Af p))) fs (cn n) (cn n) (m:Nat) (m:Nat) true true true rfl rfl d2 (decide_eq_false c3) haw hfew hnear hdeg hall lp S o3 o2
theorem aw0:H I 118 [.sl 4 [.bool false,.sl 0 [],.bool true,.sl 1 [.int .u32 1],.bool false,.sl 0 [],.bool false,.sl 1 [.int .u32 1]],.sl 3 [.bool true,.sl 1 [.int .u32 1],.bool false,.sl 0 [],.bool false,.sl 1 [.int .u32 3]]] (.fresh 2 2 [.bool false,.sl 0 [],.bool true,.sl 1 [.int .u32 1]]):=k BG (j _) 400 _ _ _ (by kernel_rfl)
theorem aw1:H I 118 [.sl 3 [.bool true,.sl 1 [.int .u32 1],.bool false,.sl 0 [],.bool false,.sl 1 [.int .u32 3]],.sl 2 [.bool false,.sl 0 [],.bool true,.sl 1 [.int .u32 1]]] (.fresh 2 1 [.bool true,.sl 1 [.int .u32 1]]):=k BG (j _) 400 _ _ _ (by kernel_rfl)
theorem aw2:H I 118 [.sl 2 [.bool false,.sl 0 [],.bool true,.sl 1 [.int .u32 1]],.sl 1 [.bool true,.sl 1 [.int .u32 1]]] (.fresh 2 0 []):=k BG (j _) 400 _ _ _ (by kernel_rfl)
theorem aw3:H I 135 [.sl 4 [.bool false,.sl 0 [],.bool true,.sl 1 [.int .u32 1],.bool false,.sl 0 [],.bool false,.sl 1 [.int .u32 1]],.sl 3 [.bool true,.sl 1 [.int .u32 1],.bool false,.sl 0 [],.bool false,.sl 1 [.int .u32 3]]] (.fresh 2 1 [.bool false,.sl 1 [.int .u32 1]]):=k BG (b aw2 (b aw1 (b aw0 (j _)))) 400 _ _ _ (by kernel_rfl)
theorem aw4:H I 114 [.sl 4 [.bool false,.sl 0 [],.bool true,.sl 1 [.int .u32 1],.bool false,.sl 0 [],.bool false,.sl 1 [.int .u32 1]]] (.sl 4 [.bool false,.sl 0 [],.bool true,.sl 1 [.int .u32 1],.bool false,.sl 0 [],.bool false,.sl 1 [.int .u32 1]]):=k BG (b aw3 (j _)) 400 _ _ _ (by kernel_rfl)
theorem aw5:H I 118 [.sl 3 [.bool true,.sl 1 [.int .u32 1],.bool false,.sl 0 [],.bool false,.sl 1 [.int .u32 3]],.sl 2 [.bool false,.sl 0 [],.bool false,.sl 1 [.int .u32 1]]] (.fresh 2 1 [.bool true,.sl 1 [.int .u32 1]]):=k BG (j _) 400 _ _ _ (by kernel_rfl)
theorem aw6:H I 118 [.sl 2 [.bool false,.sl 0 [],.bool false,.sl 1 [.int .u32 1]],.sl 1 [.bool false,.sl 1 [.int .u32 1]]] (.fresh 2 0 []):=k BG (j _) 400 _ _ _ (by kernel_rfl)
theorem aw7:H I 67 [.sl 4 [.bool false,.sl 0 [],.bool true,.sl 1 [.int .u32 1],.bool false,.sl 0 [],.bool false,.sl 1 [.int .u32 1]]] (.fresh 1 4 [.sl 4 [.bool false,.sl 0 [],.bool true,.sl 1 [.int .u32 1],.bool false,.sl 0 [],.bool false,.sl 1 [.int .u32 1]],.sl 3 [.bool true,.sl 1 [.int .u32 1],.bool false,.sl 0 [],.bool false,.sl 1 [.int .u32 3]],.sl 2 [.bool false,.sl 0 [],.bool false,.sl 1 [.int .u32 1]],.sl 1 [.bool false,.sl 1 [.int .u32 1]]]):=k BG (b aw6 (b aw5 (b aw4 (b aw0 (j _))))) 400 _ _ _ (by kernel_rfl)
theorem aw8:H I 65 [.sl 4 [.bool false,.sl 0 [],.bool true,.sl 1 [.int .u32 1],.bool false,.sl 0 [],.bool false,.sl 1 [.int .u32 1]],.agg [.bool true,.sl 1 [.int .u32 1],.int .i64 0]] (.int .i64 0):=k BG (j _) 400 _ _ _ (by kernel_rfl)
theorem aw9:H I 68 [.sl 4 [.sl 4 [.bool false,.sl 0 [],.bool true,.sl 1 [.int .u32 1],.bool false,.sl 0 [],.bool false,.sl 1 [.int .u32 1]],.sl 3 [.bool true,.sl 1 [.int .u32 1],.bool false,.sl 0 [],.bool false,.sl 1 [.int .u32 3]],.sl 2 [.bool false,.sl 0 [],.bool false,.sl 1 [.int .u32 1]],.sl 1 [.bool false,.sl 1 [.int .u32 1]]],.agg [.bool true,.sl 1 [.int .u32 1],.int .i64 0]] (.int .i64 2):=k BG (b aw8 (j _)) 400 _ _ _ (by kernel_rfl)
theorem A3n:H I 65 [.sl 4 [.bool false,.sl 0 [],.bool true,.sl 1 [.int .u32 1],.bool false,.sl 0 [],.bool false,.sl 1 [.int .u32 1]],.agg [.bool false,.sl 1 [.int .u32 2],.int .i64 0]] (.int .i64 1):=k BG (j _) 400 _ _ _ (by kernel_rfl)
theorem A3o:H I 68 [.sl 4 [.sl 4 [.bool false,.sl 0 [],.bool true,.sl 1 [.int .u32 1],.bool false,.sl 0 [],.bool false,.sl 1 [.int .u32 1]],.sl 3 [.bool true,.sl 1 [.int .u32 1],.bool false,.sl 0 [],.bool false,.sl 1 [.int .u32 3]],.sl 2 [.bool false,.sl 0 [],.bool false,.sl 1 [.int .u32 1]],.sl 1 [.bool false,.sl 1 [.int .u32 1]]],.agg [.bool false,.sl 1 [.int .u32 2],.int .i64 0]] (.int .i64 0):=k BG (b A3n (j _)) 400 _ _ _ (by kernel_rfl)
theorem aw12:H I 65 [.sl 4 [.bool false,.sl 0 [],.bool true,.sl 1 [.int .u32 1],.bool false,.sl 0 [],.bool false,.sl 1 [.int .u32 1]],.agg [.bool false,.sl 1 [.int .u32 1],.int .i64 1]] (.int .i64 (-1)):=k BG (j _) 400 _ _ _ (by kernel_rfl)
theorem Atr:H I 68 [.sl 4 [.sl 4 [.bool false,.sl 0 [],.bool true,.sl 1 [.int .u32 1],.bool false,.sl 0 [],.bool false,.sl 1 [.int .u32 1]],.sl 3 [.bool true,.sl 1 [.int .u32 1],.bool false,.sl 0 [],.bool false,.sl 1 [.int .u32 3]],.sl 2 [.bool false,.sl 0 [],.bool false,.sl 1 [.int .u32 1]],.sl 1 [.bool false,.sl 1 [.int .u32 1]]],.agg [.bool false,.sl 1 [.int .u32 1],.int .i64 1]] (.int .i64 1):=k BG (b aw12 (j _)) 400 _ _ _ (by kernel_rfl)
theorem aw14:H I 15 [.sl 4 [.bool false,.sl 0 [],.bool true,.sl 1 [.int .u32 1],.bool false,.sl 0 [],.bool false,.sl 1 [.int .u32 1]],.agg [.bool true,.sl 1 [.int .u32 1],.int .i64 0],.agg [.bool false,.sl 1 [.int .u32 2],.int .i64 0]] (.tup [.sl 2 [.sl 4 [.bool false,.sl 0 [],.bool true,.sl 1 [.int .u32 1],.bool false,.sl 0 [],.bool false,.sl 1 [.int .u32 1]],.bool true,.sl 1 [.int .u32 1],.int .i64 0,.bool false,.sl 1 [.int .u32 1],.int .i64 1,.sl 4 [.bool false,.sl 0 [],.bool true,.sl 1 [.int .u32 1],.bool false,.sl 0 [],.bool false,.sl 1 [.int .u32 1]],.bool false,.sl 1 [.int .u32 1],.int .i64 1,.bool false,.sl 1 [.int .u32 2],.int .i64 0],.int .i64 0]):=k BG (b Atr (b A3o (b aw9 (b aw7 (j _))))) 400 _ _ _ (by kernel_rfl)
theorem A3p:H I 118 [.sl 3 [.bool true,.sl 1 [.int .u32 2],.bool false,.sl 0 [],.bool false,.sl 1 [.int .u32 1]],.sl 2 [.bool false,.sl 0 [],.bool false,.sl 1 [.int .u32 1]]] (.fresh 2 1 [.bool true,.sl 1 [.int .u32 1]]):=k BG (j _) 400 _ _ _ (by kernel_rfl)
theorem aw16:H I 118 [.sl 2 [.bool false,.sl 0 [],.bool false,.sl 1 [.int .u32 1]],.sl 1 [.bool true,.sl 1 [.int .u32 1]]] (.fresh 2 0 []):=k BG (j _) 400 _ _ _ (by kernel_rfl)
theorem aw17:H I 135 [.sl 3 [.bool true,.sl 1 [.int .u32 2],.bool false,.sl 0 [],.bool false,.sl 1 [.int .u32 1]],.sl 2 [.bool false,.sl 0 [],.bool false,.sl 1 [.int .u32 2]]] (.fresh 2 1 [.bool false,.sl 1 [.int .u32 1]]):=k BG (b aw16 (b A3p (j _))) 400 _ _ _ (by kernel_rfl)
theorem A3q:H I 114 [.sl 3 [.bool true,.sl 1 [.int .u32 2],.bool false,.sl 0 [],.bool false,.sl 1 [.int .u32 1]]] (.sl 3 [.bool true,.sl 1 [.int .u32 2],.bool false,.sl 0 [],.bool false,.sl 1 [.int .u32 1]]):=k BG (b aw17 (j _)) 400 _ _ _ (by kernel_rfl)
theorem Ats:H I 67 [.sl 3 [.bool true,.sl 1 [.int .u32 2],.bool false,.sl 0 [],.bool false,.sl 1 [.int .u32 1]]] (.fresh 1 3 [.sl 3 [.bool true,.sl 1 [.int .u32 2],.bool false,.sl 0 [],.bool false,.sl 1 [.int .u32 1]],.sl 2 [.bool false,.sl 0 [],.bool false,.sl 1 [.int .u32 1]],.sl 1 [.bool false,.sl 1 [.int .u32 1]]]):=k BG (b A3q (b A3p (b aw6 (j _)))) 400 _ _ _ (by kernel_rfl)
theorem Att:H I 68 [.sl 3 [.sl 3 [.bool true,.sl 1 [.int .u32 2],.bool false,.sl 0 [],.bool false,.sl 1 [.int .u32 1]],.sl 2 [.bool false,.sl 0 [],.bool false,.sl 1 [.int .u32 1]],.sl 1 [.bool false,.sl 1 [.int .u32 1]]],.agg [.bool false,.sl 0 [],.int .i64 0]] (.int .i64 1):=k BG (j _) 400 _ _ _ (by kernel_rfl)
theorem Atu:H I 68 [.sl 3 [.sl 3 [.bool true,.sl 1 [.int .u32 2],.bool false,.sl 0 [],.bool false,.sl 1 [.int .u32 1]],.sl 2 [.bool false,.sl 0 [],.bool false,.sl 1 [.int .u32 1]],.sl 1 [.bool false,.sl 1 [.int .u32 1]]],.agg [.bool false,.sl 1 [.int .u32 2],.int .i64 0]] (.int .i64 0):=k BG (j _) 400 _ _ _ (by kernel_rfl)
theorem aw22:H I 15 [.sl 3 [.bool true,.sl 1 [.int .u32 2],.bool false,.sl 0 [],.bool false,.sl 1 [.int .u32 1]],.agg [.bool false,.sl 0 [],.int .i64 0],.agg [.bool false,.sl 1 [.int .u32 2],.int .i64 0]] (.tup [.sl 1 [.sl 3 [.bool true,.sl 1 [.int .u32 2],.bool false,.sl 0 [],.bool false,.sl 1 [.int .u32 1]],.bool false,.sl 0 [],.int .i64 0,.bool false,.sl 1 [.int .u32 2],.int .i64 0],.int .i64 0]):=k BG (b Atu (b Att (b Ats (j _)))) 400 _ _ _ (by kernel_rfl)
theorem Atv:H I 115 [.sl 4 [.bool false,.sl 0 [],.bool false,.sl 0 [],.bool false,.sl 0 [],.bool false,.sl 1 [.int .u32 4]]] (.fresh 2 4 [.bool false,.sl 0 [],.bool false,.sl 0 [],.bool false,.sl 0 [],.bool false,.sl 1 [.int .u32 1]]):=k BG (j _) 400 _ _ _ (by kernel_rfl)
theorem Atw:H I 118 [.sl 5 [.bool true,.sl 1 [.int .u32 4],.bool false,.sl 0 [],.bool false,.sl 0 [],.bool false,.sl 0 [],.bool false,.sl 1 [.int .u32 1]],.sl 4 [.bool false,.sl 0 [],.bool false,.sl 0 [],.bool false,.sl 0 [],.bool false,.sl 1 [.int .u32 1]]] (.fresh 2 1 [.bool true,.sl 1 [.int .u32 1]]):=k BG (j _) 400 _ _ _ (by kernel_rfl)
theorem aw25:H I 118 [.sl 4 [.bool false,.sl 0 [],.bool false,.sl 0 [],.bool false,.sl 0 [],.bool false,.sl 1 [.int .u32 1]],.sl 1 [.bool true,.sl 1 [.int .u32 1]]] (.fresh 2 0 []):=k BG (j _) 400 _ _ _ (by kernel_rfl)
theorem Atx:H I 114 [.sl 5 [.bool true,.sl 1 [.int .u32 4],.bool false,.sl 0 [],.bool false,.sl 0 [],.bool false,.sl 0 [],.bool false,.sl 1 [.int .u32 1]]] (.sl 5 [.bool true,.sl 1 [.int .u32 4],.bool false,.sl 0 [],.bool false,.sl 0 [],.bool false,.sl 0 [],.bool false,.sl 1 [.int .u32 1]]):=k BG (b aw25 (b Atw (b Atv (j _)))) 400 _ _ _ (by kernel_rfl)
theorem A3r:H I 118 [.sl 4 [.bool false,.sl 0 [],.bool false,.sl 0 [],.bool false,.sl 0 [],.bool false,.sl 1 [.int .u32 1]],.sl 1 [.bool false,.sl 1 [.int .u32 1]]] (.fresh 2 0 []):=k BG (j _) 400 _ _ _ (by kernel_rfl)
theorem aw28:H I 65 [.sl 5 [.bool true,.sl 1 [.int .u32 4],.bool false,.sl 0 [],.bool false,.sl 0 [],.bool false,.sl 0 [],.bool false,.sl 1 [.int .u32 1]],.agg [.bool false,.sl 0 [],.int .i64 0]] (.int .i64 (-1)):=k BG (j _) 400 _ _ _ (by kernel_rfl)
theorem A3s:H I 68 [.sl 3 [.sl 5 [.bool true,.sl 1 [.int .u32 4],.bool false,.sl 0 [],.bool false,.sl 0 [],.bool false,.sl 0 [],.bool false,.sl 1 [.int .u32 1]],.sl 4 [.bool false,.sl 0 [],.bool false,.sl 0 [],.bool false,.sl 0 [],.bool false,.sl 1 [.int .u32 1]],.sl 1 [.bool false,.sl 1 [.int .u32 1]]],.agg [.bool false,.sl 0 [],.int .i64 0]] (.int .i64 1):=k BG (b aw28 (j _)) 400 _ _ _ (by kernel_rfl)
theorem A3t:H I 65 [.sl 5 [.bool true,.sl 1 [.int .u32 4],.bool false,.sl 0 [],.bool false,.sl 0 [],.bool false,.sl 0 [],.bool false,.sl 1 [.int .u32 1]],.agg [.bool false,.sl 1 [.int .u32 5],.int .i64 0]] (.int .i64 1):=k BG (j _) 400 _ _ _ (by kernel_rfl)
theorem A3u:H I 65 [.sl 4 [.bool false,.sl 0 [],.bool false,.sl 0 [],.bool false,.sl 0 [],.bool false,.sl 1 [.int .u32 1]],.agg [.bool false,.sl 1 [.int .u32 5],.int .i64 0]] (.int .i64 1):=k BG (j _) 400 _ _ _ (by kernel_rfl)
theorem aw32:H I 56 [.sl 5 [.bool true,.sl 1 [.int .u32 4],.bool false,.sl 0 [],.bool false,.sl 0 [],.bool false,.sl 0 [],.bool false,.sl 1 [.int .u32 1]],.agg [.bool false,.sl 0 [],.int .i64 0],.agg [.bool false,.sl 1 [.int .u32 5],.int .i64 0],.int .i64 896] (.tup [.sl 1 [.sl 5 [.bool true,.sl 1 [.int .u32 4],.bool false,.sl 0 [],.bool false,.sl 0 [],.bool false,.sl 0 [],.bool false,.sl 1 [.int .u32 1]],.bool false,.sl 0 [],.int .i64 0,.bool false,.sl 1 [.int .u32 5],.int .i64 0],.bool true]):=k BG (b A3u (b A3t (b A3s (b A3r (b Atx (b Atw (b Atv (j _)))))))) 400 _ _ _ (by kernel_rfl)
theorem aw33:H I 15 [.sl 5 [.bool true,.sl 1 [.int .u32 4],.bool false,.sl 0 [],.bool false,.sl 0 [],.bool false,.sl 0 [],.bool false,.sl 1 [.int .u32 1]],.agg [.bool false,.sl 0 [],.int .i64 0],.agg [.bool false,.sl 1 [.int .u32 5],.int .i64 0]] (.tup [.sl 1 [.sl 5 [.bool true,.sl 1 [.int .u32 4],.bool false,.sl 0 [],.bool false,.sl 0 [],.bool false,.sl 0 [],.bool false,.sl 1 [.int .u32 1]],.bool false,.sl 0 [],.int .i64 0,.bool false,.sl 1 [.int .u32 5],.int .i64 0],.int .i64 0]):=k BG (b aw32 (j _)) 400 _ _ _ (by kernel_rfl)
theorem aw34:H I 76 [.agg [.sl 3 [.bool true,.sl 1 [.int .u32 2],.bool false,.sl 0 [],.bool false,.sl 1 [.int .u32 1]],.bool false,.sl 0 [],.int .i64 0,.bool false,.sl 1 [.int .u32 2],.int .i64 0],.agg [.bool false,.sl 1 [.int .u32 1],.int .i64 0]] (.int .i64 1):=k BG (j _) 400 _ _ _ (by kernel_rfl)
theorem aw35:H I 76 [.agg [.sl 3 [.bool true,.sl 1 [.int .u32 2],.bool false,.sl 0 [],.bool false,.sl 1 [.int .u32 1]],.bool false,.sl 1 [.int .u32 1],.int .i64 0,.bool false,.sl 1 [.int .u32 2],.int .i64 0],.agg [.bool false,.sl 1 [.int .u32 3],.int .i64 1]] (.int .i64 (-1)):=k BG (j _) 400 _ _ _ (by kernel_rfl)
theorem aw36:H I 76 [.agg [.sl 3 [.bool true,.sl 1 [.int .u32 2],.bool false,.sl 0 [],.bool false,.sl 1 [.int .u32 1]],.bool false,.sl 1 [.int .u32 1],.int .i64 0,.bool false,.sl 1 [.int .u32 3],.int .i64 1],.agg [.bool false,.sl 1 [.int .u32 3],.int .i64 1]] (.int .i64 (-1)):=k BG (j _) 400 _ _ _ (by kernel_rfl)
theorem aw37:H I 77 [.agg [.sl 3 [.bool true,.sl 1 [.int .u32 2],.bool false,.sl 0 [],.bool false,.sl 1 [.int .u32 1]],.bool false,.sl 0 [],.int .i64 0,.bool false,.sl 1 [.int .u32 2],.int .i64 0],.int .i64 1] (.agg [.bool false,.sl 1 [.int .u32 2]]):=k BG (b aw36 (b aw35 (b aw34 (j _)))) 400 _ _ _ (by kernel_rfl)
theorem aw38:H I 18 [.agg [.sl 5 [.bool true,.sl 1 [.int .u32 4],.bool false,.sl 0 [],.bool false,.sl 0 [],.bool false,.sl 0 [],.bool false,.sl 1 [.int .u32 1]],.bool false,.sl 0 [],.int .i64 0,.bool false,.sl 1 [.int .u32 5],.int .i64 0]] (.bool true):=k BG (b A3u (b A3t (b A3s (b A3r (b Atx (b Atw (b Atv (j _)))))))) 400 _ _ _ (by kernel_rfl)
theorem aw39:H I 118 [.sl 3 [.bool true,.sl 1 [.int .u32 2],.bool false,.sl 0 [],.bool false,.sl 1 [.int .u32 1]],.sl 5 [.bool true,.sl 1 [.int .u32 4],.bool false,.sl 0 [],.bool false,.sl 0 [],.bool false,.sl 0 [],.bool false,.sl 1 [.int .u32 1]]] (.fresh 2 3 [.bool true,.sl 1 [.int .u32 2],.bool false,.sl 0 [],.bool false,.sl 1 [.int .u32 1]]):=k BG (j _) 400 _ _ _ (by kernel_rfl)
theorem aw40:H I 115 [.sl 5 [.bool true,.sl 1 [.int .u32 4],.bool false,.sl 0 [],.bool false,.sl 1 [.int .u32 2],.bool false,.sl 0 [],.bool false,.sl 0 []]] (.fresh 2 3 [.bool true,.sl 1 [.int .u32 2],.bool false,.sl 0 [],.bool false,.sl 1 [.int .u32 1]]):=k BG (j _) 400 _ _ _ (by kernel_rfl)
theorem aw41:H I 118 [.sl 5 [.bool true,.sl 1 [.int .u32 4],.bool false,.sl 0 [],.bool false,.sl 0 [],.bool false,.sl 0 [],.bool false,.sl 1 [.int .u32 1]],.sl 3 [.bool true,.sl 1 [.int .u32 2],.bool false,.sl 0 [],.bool false,.sl 1 [.int .u32 1]]] (.fresh 2 0 []):=k BG (b aw40 (j _)) 400 _ _ _ (by kernel_rfl)
theorem aw42:H I 135 [.sl 3 [.bool true,.sl 1 [.int .u32 2],.bool false,.sl 0 [],.bool false,.sl 1 [.int .u32 1]],.sl 5 [.bool true,.sl 1 [.int .u32 4],.bool false,.sl 0 [],.bool false,.sl 0 [],.bool false,.sl 0 [],.bool false,.sl 1 [.int .u32 1]]] (.sl 3 [.bool true,.sl 1 [.int .u32 2],.bool false,.sl 0 [],.bool false,.sl 1 [.int .u32 1]]):=k BG (b aw41 (b aw39 (j _))) 400 _ _ _ (by kernel_rfl)
theorem aw43:H I 74 [.agg [.sl 3 [.bool true,.sl 1 [.int .u32 2],.bool false,.sl 0 [],.bool false,.sl 1 [.int .u32 1]],.bool false,.sl 0 [],.int .i64 0,.bool false,.sl 1 [.int .u32 2],.int .i64 0],.agg [.sl 5 [.bool true,.sl 1 [.int .u32 4],.bool false,.sl 0 [],.bool false,.sl 0 [],.bool false,.sl 0 [],.bool false,.sl 1 [.int .u32 1]],.bool false,.sl 0 [],.int .i64 0,.bool false,.sl 1 [.int .u32 5],.int .i64 0]] (.int .i64 0):=k BG (b aw42 (b Atu (b Att (b Ats (j _))))) 400 _ _ _ (by kernel_rfl)
theorem aw44:H I 18 [.agg [.sl 4 [.bool false,.sl 0 [],.bool true,.sl 1 [.int .u32 1],.bool false,.sl 0 [],.bool false,.sl 1 [.int .u32 1]],.bool false,.sl 1 [.int .u32 1],.int .i64 1,.bool false,.sl 1 [.int .u32 2],.int .i64 0]] (.bool true):=k BG (b Atr (b A3o (b aw7 (j _)))) 400 _ _ _ (by kernel_rfl)
theorem aw45:H I 65 [.sl 4 [.bool false,.sl 0 [],.bool true,.sl 1 [.int .u32 1],.bool false,.sl 0 [],.bool false,.sl 1 [.int .u32 1]],.agg [.bool false,.sl 1 [.int .u32 1],.int .i64 0]] (.int .i64 0):=k BG (j _) 400 _ _ _ (by kernel_rfl)
theorem aw46:H I 18 [.agg [.sl 4 [.bool false,.sl 0 [],.bool true,.sl 1 [.int .u32 1],.bool false,.sl 0 [],.bool false,.sl 1 [.int .u32 1]],.bool true,.sl 1 [.int .u32 1],.int .i64 0,.bool false,.sl 1 [.int .u32 1],.int .i64 1]] (.bool true):=k BG (b Atr (b aw9 (b aw7 (j _)))) 400 _ _ _ (by kernel_rfl)
theorem aw47:H I 12 [] (.bool true):=k BG (b aw46 (b aw45 (b aw44 (b aw43 (b aw38 (b aw37 (b aw33 (b Atx (b aw22 (b Atu (b Att (b Ats (b A3q (b aw14 (b A3n (b aw4 (j _))))))))))))))))) 400 _ _ _ (by kernel_rfl)
theorem A0u:H I 12 [] (.bool true):=aw47
end Go.Proofs.YtajompaehjkgkaaGreat
