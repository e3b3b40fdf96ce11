/- Texts of the proof of RootSquares, packed by pack.py: part 15 of 18. -/
import Derived.KernelRfl
import Derived.Test.YthdpfjffdipipaaRsq14
namespace Go.Ai
open Go.IntKind (i64 u64 u32)
theorem Zqu (g:List Int) (R L:Int) (hR:0<=R) (hL:0<L):∃ Q0:Int,0<Q0/\∀ q x:Int,InR R q x->Q0<=q->q^(g.length-1)<=L*((Hh g x q).natAbs:Int)->Stb g x q:=by
 obtain⟨K,hK,hsm⟩:=small g R hR;refine⟨L*K+1,by have:=Int.mul_nonneg (show 0<=L by omega) hK;omega,fun q x hr hq hf => ?_⟩;apply Classical.byContradiction;intro hst;have h1:=(hsm q x hr hst).1;have hq0:=hr.1;have pm:=U2 hq0 (g.length-1);generalize q^(g.length-1)=M at *
 generalize ((Hh g x q).natAbs:Int)=G at *
 have h2:=Int.mul_le_mul_of_nonneg_right hf (show 0<=q by omega);have h3:=Int.mul_le_mul_of_nonneg_left h1 (show 0<=L by omega);have e1:L*(G*q)=L*G*q:=by grind
 have e2:L*(K*M)=M*(L*K):=by grind
 have h4:M*q<=M*(L*K):=by omega
 have h5:=Int.le_of_mul_le_mul_left h4 pm;omega
theorem Ml {f g:List Int} (R:Int) (hR:0<=R) (h:IsG [1] f g):∃ L Q0:Int,0<L/\0<Q0/\∀ q x:Int,InR R q x->Q0<=q->¬ Stb f x q->Stb g x q/\q^(g.length-1)<=L*((Hh g x q).natAbs:Int):=by
 obtain⟨L,Q1,hL,hQ1,h1⟩:=Mm R hR h;obtain⟨Q2,hQ2,h2⟩:=Zqu g R L hR hL;refine⟨L,Q1+Q2,hL,by omega,fun q x hr hq hst => ?_⟩;have h3:=h1 q x hr (by omega) hst;exact⟨h2 q x hr (by omega) h3,h3⟩
theorem Zjt {a b e Q:List Int} {c c':Int} (R:Int) (hR:0<=R) (hc:0<c) (hc':0<c') (hid:∀ x,c*Zd a x=Zd Q x*Zd b x+(-c')*Zd e x) (h:IsG [1] b e) :
  ∃ Q0:Int,0<Q0/\∀ q x:Int,InR R q x->Q0<=q->¬ Stb b x q->(0<Hh e x q->Hh a x q<0)/\(Hh e x q<0->0<Hh a x q):=by
 obtain⟨K,hK,hsm⟩:=small b R hR;obtain⟨L,Q1,hL,hQ1,hf⟩:=Mm R hR h;obtain⟨KQ,hKQ,hq⟩:=Bj (fun i=>Q.getD i 0) R hR (Q.length+a.length+e.length);have hLK:=Int.mul_nonneg (show 0<=L by omega) (Int.mul_nonneg hKQ hK);refine⟨Q1+L*(KQ*K)+1,by omega,fun q x hr hqq hst => ?_⟩;have h1:=(hsm q x hr hst).1;have h2:=hf q x hr (by omega) hst;have hq0:=hr.1;have h3:=hq q x hq0 hr.2.1;have e1:=hp_id hid x q (tq:=Q.length+a.length+e.length) (td:=b.length-1) (by omega) (by omega);have ea:=Mu (p:=a) (T:=a.length-1) (by omega) x q (Q.length+a.length+e.length+(b.length-1)-(a.length-1));have ee:=Mu (p:=e) (T:=e.length-1) (by omega) x q (Q.length+a.length+e.length+(b.length-1)-(e.length-1));rw[show a.length-1+(Q.length+a.length+e.length+(b.length-1)-(a.length-1))=Q.length+a.length+e.length+(b.length-1) by omega] at ea;rw[show e.length-1+(Q.length+a.length+e.length+(b.length-1)-(e.length-1))=Q.length+a.length+e.length+(b.length-1) by omega] at ee;rw[ea,ee] at e1;change c*(q^_*Hh a x q)=hs (fun i=>Q.getD i 0) x q (Q.length+a.length+e.length)*Hh b x q+(-c')*(q^_*Hh e x q) at e1;have pA:=U2 hq0 (Q.length+a.length+e.length+(b.length-1)-(a.length-1));have pE:=U2 hq0 (Q.length+a.length+e.length+(b.length-1)-(e.length-1));have pT:=U2 hq0 (Q.length+a.length+e.length);have pB:=U2 hq0 (b.length-1);have eP:q^(Q.length+a.length+e.length+(b.length-1)-(e.length-1))*q^(e.length-1)=q^(Q.length+a.length+e.length)*q^(b.length-1):=by
  rw[<- Int.pow_add,<- Int.pow_add];congr 1;omega
 generalize q^(Q.length+a.length+e.length+(b.length-1)-(a.length-1))=A at *
 generalize q^(Q.length+a.length+e.length+(b.length-1)-(e.length-1))=E at *
 generalize q^(Q.length+a.length+e.length)=T at *
 generalize q^(b.length-1)=B at *
 generalize q^(e.length-1)=M at *
 generalize hs (fun i=>Q.getD i 0) x q (Q.length+a.length+e.length)=U at *
 generalize Hh a x q=Ha at *
 generalize Hh b x q=Hb at *
 generalize Hh e x q=He at *
 have pP:=Int.mul_pos pT pB;have n1:((U*Hb).natAbs:Int)*q<=KQ*K*(T*B):=by
  have h5:(U.natAbs:Int)*((Hb.natAbs:Int)*q)<=KQ*T*(K*B):=Int.mul_le_mul h3 h1 (Int.mul_nonneg (by omega) (by omega)) (Int.mul_nonneg hKQ (by omega));have e5:((U*Hb).natAbs:Int)*q=(U.natAbs:Int)*((Hb.natAbs:Int)*q):=by rw[Int.natAbs_mul,Int.natCast_mul];grind
  have e6:KQ*T*(K*B)=KQ*K*(T*B):=by grind
  omega
 have n2:T*B<=L*(E*(He.natAbs:Int)):=by
  have h6:=Int.mul_le_mul_of_nonneg_left h2 (show 0<=E by omega);have e7:E*(L*(He.natAbs:Int))=L*(E*(He.natAbs:Int)):=by grind
  omega
 have n3:((U*Hb).natAbs:Int)<E*(He.natAbs:Int):=by
  apply Int.not_le.1;intro hle;have h7:=Int.mul_le_mul_of_nonneg_right (Int.mul_le_mul_of_nonneg_left hle (show 0<=L by omega)) (show 0<=q by omega);have h8:=Int.mul_le_mul_of_nonneg_right n2 (show 0<=q by omega);have h9:=Int.mul_le_mul_of_nonneg_left n1 (show 0<=L by omega);have e8:L*((U*Hb).natAbs:Int)*q=L*(((U*Hb).natAbs:Int)*q):=Int.mul_assoc ..;have e9:L*(KQ*K*(T*B))=T*B*(L*(KQ*K)):=by grind
  have h10:T*B*q<=T*B*(L*(KQ*K)):=by omega
  have h11:=Int.le_of_mul_le_mul_left h10 pP;omega
 have n4:E*(He.natAbs:Int)<=c'*(E*(He.natAbs:Int)):=by
  have:=Int.mul_le_mul_of_nonneg_right (show (1:Int)<=c' by omega) (Int.mul_nonneg (show 0<=E by omega) (show (0:Int)<=(He.natAbs:Int) by omega));omega
 generalize U*Hb=W at *
 refine⟨fun hp => ?_,fun hn => ?_⟩
 ·have e10:(He.natAbs:Int)=He:=by omega
  rw[e10] at n3 n4;apply Int.not_le.1;intro hge;have h12:=Int.mul_nonneg (show 0<=c by omega) (Int.mul_nonneg (show 0<=A by omega) hge);rw[e1,Int.neg_mul] at h12;omega
 ·have e10:(He.natAbs:Int) = -He:=by omega
  rw[e10,Int.mul_neg] at n3;rw[e10,Int.mul_neg,Int.mul_neg] at n4;apply Int.not_le.1;intro hle;have h12:=Int.mul_nonneg (show 0<=c by omega) (Int.mul_nonneg (show 0<=A by omega) (show 0 <= -Ha by omega));rw[Int.mul_neg,Int.mul_neg,e1,Int.neg_mul] at h12;omega
end Go.Ai

namespace Go.Ai
open Go.IntKind (i64 u64 u32)
theorem Zfh (f:List Int) (x q:Int) (m:Nat):hs (Zpb fun i=>f.getD i 0) x q m=(Qy (Z8 f):Int)*hs (fun i=>(prim (Z8 f)).getD i 0) x q m:=by
 have h:=Nl (Qy (Z8 f):Int) 0 (fun i=>(prim (Z8 f)).getD i 0) (fun i=>(prim (Z8 f)).getD i 0) x q m;rw[Int.zero_mul,Int.add_zero] at h;rw[<- h];apply Nm;intro i _;have h1:=Ba (Z8 f) i;have h2:=J9 f i;unfold Zpb;rw[h1,h2];grind
theorem Np {f:List Int} (R:Int) (hR:0<=R) (hl:2<=f.length) (hl1:(prim (Z8 f)).length=f.length-1) (h:IsG [1] f (prim (Z8 f))) (hc:0<Qy (Z8 f)) :
  ∃ Q0:Int,0<Q0/\∀ q x:Int,InR R q x->Q0<=q->¬ Stb f x q->(0<Hh (prim (Z8 f)) x q->Hh f x q<Hh f (x+1) q)/\(Hh (prim (Z8 f)) x q<0->Hh f (x+1) q<Hh f x q):=by
 obtain⟨L,Q1,hL,hQ1,hf⟩:=Mm R hR h;cases hm:f.length-2 with
 | zero =>
  refine⟨Q1,hQ1,fun q x hr hq hst => ?_⟩;have hd:=Zfh f x q 0;have e1:∀ y,Hh f y q=hs (fun i=>f.getD i 0) y q 1:=fun y=>by unfold Hh hp;rw[show f.length-1=1 by omega]
  have e2:Hh (prim (Z8 f)) x q=hs (fun i=>(prim (Z8 f)).getD i 0) x q 0:=by unfold Hh hp;rw[hl1,show f.length-1-1=0 by omega]
  have e3:hs (fun i=>f.getD i 0) (x+1) q 1-hs (fun i=>f.getD i 0) x q 1=hs (Zpb fun i=>f.getD i 0) x q 0:=by
   show (q*f.getD 0 0+f.getD (0+1) 0*(x+1)^(0+1))-(q*f.getD 0 0+f.getD (0+1) 0*x^(0+1))=((0+1:Nat):Int)*f.getD (0+1) 0;have p1:∀ y:Int,y^(0+1)=y:=fun y=>by rw[Int.pow_succ,Int.pow_zero,Int.one_mul]
   rw[p1,p1];have h1:((0+1:Nat):Int)=1:=rfl;rw[h1];grind
  rw[e1,e1,e2];rw[hd] at e3;generalize hs (fun i=>(prim (Z8 f)).getD i 0) x q 0=D at *
  refine⟨fun hp => ?_,fun hn => ?_⟩
  ·have:=Int.mul_pos (show (0:Int)<(Qy (Z8 f):Int) by omega) hp;omega
  ·have:=Int.mul_pos (show (0:Int)<(Qy (Z8 f):Int) by omega) (show 0 < -D by omega);rw[Int.mul_neg] at this;omega
 | succ T =>
  obtain⟨K,hK,hder⟩:=Zo4 (fun i=>f.getD i 0) R hR T;have hLK:=Int.mul_nonneg (show 0<=L by omega) hK;refine⟨Q1+L*K+1,by omega,fun q x hr hq hst => ?_⟩;have hq0:=hr.1;have h2:=hf q x hr (by omega) hst;have h3:=hder q x hq0 hr.2.1 hr.2.2;have hd:=Zfh f x q (T+1);have e1:∀ y,Hh f y q=hs (fun i=>f.getD i 0) y q (T+2):=fun y=>by unfold Hh hp;rw[show f.length-1=T+2 by omega]
  have e2:Hh (prim (Z8 f)) x q=hs (fun i=>(prim (Z8 f)).getD i 0) x q (T+1):=by unfold Hh hp;rw[hl1,show f.length-1-1=T+1 by omega]
  rw[hl1,show f.length-1-1=T+1 by omega,Int.pow_succ,e2] at h2;rw[e1,e1,e2];rw[hd] at h3;have pT:=U2 hq0 T;generalize q^T=M at *
  generalize hs (fun i=>f.getD i 0) (x+1) q (T+2)=b at *
  generalize hs (fun i=>f.getD i 0) x q (T+2)=a at *
  generalize hs (fun i=>(prim (Z8 f)).getD i 0) x q (T+1)=D at *
  have n1:K*M<(D.natAbs:Int):=by
   apply Int.not_le.1;intro hle;have h5:=Int.mul_le_mul_of_nonneg_left hle (show 0<=L by omega);have e5:L*(K*M)=M*(L*K):=by grind
   have h6:M*q<=M*(L*K):=by omega
   have:=Int.le_of_mul_le_mul_left h6 pT;omega
  have n2:=Int.mul_le_mul_of_nonneg_right (show (1:Int)<=(Qy (Z8 f):Int) by omega) (show (0:Int)<=(D.natAbs:Int) by omega);refine⟨fun hp => ?_,fun hn => ?_⟩
  ·have e6:(D.natAbs:Int)=D:=by omega
   rw[e6] at n1 n2;omega
  ·have e6:(D.natAbs:Int) = -D:=by omega
   rw[e6,Int.one_mul,Int.mul_neg] at n2;omega
end Go.Ai

namespace Go.Ai
open Go.IntKind (i64 u64 u32)
def sgz (n:Int):Int:=if n<0 then -1 else if 0<n then 1 else 0
theorem Zdp (n:Int) : -1<=sgz n/\sgz n<=1:=by unfold sgz; (repeat' split) <;> omega
def chn:Nat->List Int->List Int->List (List Int)
 | 0,_,_=>[]
 | f+1,a,b=>if b=[] then [] else b::chn f b (Xz (Qs a b))
def sgs (l:List (List Int)) (x q:Int):List Int:=l.map fun p=>sgz (Hh p x q)
theorem Gb {p:List Int} {x q:Int} (h:Stb p x q):sgz (Hh p (x+1) q)=sgz (Hh p x q)/\(sgz (Hh p x q)=1\/sgz (Hh p x q) = -1):=by
 unfold Stb at h;unfold sgz;rcases h with ⟨h1,h2⟩ | ⟨h1,h2⟩
 ·rw[if_neg (by omega),if_pos h2,if_neg (by omega),if_pos h1];exact⟨rfl,.inl rfl⟩
 ·rw[if_pos h2,if_pos h1];exact⟨rfl,.inr rfl⟩
theorem hh_nil (x q:Int):Hh [] x q=0:=Zao x q _
theorem F9 {a b:List Int} (ha:Xw a):Xw (Qs a b):=by
 unfold Qs;generalize a.length=f;induction f generalizing a with
 | zero=>exact ha
 | succ f ih =>
  simp only[Ul];split
  ·exact ih (Nj a b)
  ·exact ha
theorem Zjp {d:List Int} (hd0:d ≠ []):∀ (f:Nat) (r:List Int),r.length<=f->(Ul f r d).length<d.length:=by
 have hdl:=List.length_pos_iff.2 hd0;intro f;induction f with
 | zero=>intro r h;simp only[Ul];omega
 | succ f ih =>
  intro r h;simp only[Ul];split
  ·rename_i hl;have:=Kr hd0 hl;exact ih _ (by omega)
  ·omega
theorem Mi {a b:List Int} (hb0:b ≠ []):(Qs a b).length<b.length:=Zjp hb0 _ _ (Nat.le_refl _)
theorem Zgd (R:Int) (hR:0<=R):∀ (n f:Nat),f<=n->∀ (a b:List Int),b.length<=f->Xw a->Xw b->IsG [1] a b ->
  ∃ Q0:Int,0<Q0/\∀ q x:Int,InR R q x->Q0<=q->Stb a x q->Mid (sgz (Hh a x q)) (sgs (chn f a b) x q) (sgs (chn f a b) (x+1) q):=by
 intro n;induction n with
 | zero =>
  intro f hf a b hb _ _ _;have:f=0:=by omega
  subst this;exact⟨1,by decide,fun q x _ _ _=>Mid.nil _⟩
 | succ n ih =>
  intro f hf a b hb ha lb h;by_cases hb0:b=[]
  ·have e:chn f a b=[]:=by
    cases f with
    | zero=>rfl
    | succ f=>simp only[chn];rw[if_pos hb0]
   rw[e];exact⟨1,by decide,fun q x _ _ _=>Mid.nil _⟩
  ·have hbl:=List.length_pos_iff.2 hb0;obtain⟨f,rfl⟩:∃ k,f=k+1:=⟨f-1,by omega⟩;have hpl:=Mi (a:=a) hb0;have he:=Ea lb hb0 h;have le:Xw (Xz (Qs a b)):=Kz (F9 ha);obtain⟨Q1,hQ1,h1⟩:=ih f (by omega) b (Xz (Qs a b)) (by rw[Xh];omega) lb le he;obtain⟨L,Q2,hL,hQ2,h2⟩:=Ml R hR he;obtain⟨c,c',Q,hc,hc',hid⟩:=Pq (a:=a) lb hb0;obtain⟨Q3,hQ3,h3⟩:=Zjt R hR hc hc' hid he;have e1:chn (f+1) a b=b::chn f b (Xz (Qs a b)):=by simp only[chn];rw[if_neg hb0]
   rw[e1];by_cases he0:Xz (Qs a b)=[]
   ·refine⟨Q1+Q2,by omega,fun q x hr hq hst => ?_⟩;have hsb:Stb b x q:=by
     apply Classical.byContradiction;intro hn;have:=(h2 q x hr (by omega) hn).2;rw[he0,hh_nil] at this;simp at this
    obtain⟨g1,g2⟩:=Gb hsb;have hm:=h1 q x hr (by omega) hsb;show Mid _ (sgz (Hh b x q)::_) (sgz (Hh b (x+1) q)::_);rw[g1];exact Mid.st _ _ g2 hm
   ·have hel:=List.length_pos_iff.2 he0;rw[Xh] at hel;obtain⟨f,rfl⟩:∃ k,f=k+1:=⟨f-1,by omega⟩;have he2:=Ea le he0 he;have hpl2:=Mi (a:=b) he0;rw[Xh] at hpl2;obtain⟨Q4,hQ4,h4⟩:=ih f (by omega) (Xz (Qs a b)) (Xz (Qs b (Xz (Qs a b)))) (by rw[Xh];omega) le (Kz (F9 lb)) he2;refine⟨Q1+Q2+Q3+Q4,by omega,fun q x hr hq hst => ?_⟩;by_cases hsb:Stb b x q
    ·obtain⟨g1,g2⟩:=Gb hsb;have hm:=h1 q x hr (by omega) hsb;show Mid _ (sgz (Hh b x q)::_) (sgz (Hh b (x+1) q)::_);rw[g1];exact Mid.st _ _ g2 hm
    ·obtain⟨hse,_⟩:=h2 q x hr (by omega) hsb;obtain⟨r1,r2⟩:=h3 q x hr (by omega) hsb;obtain⟨g1,g2⟩:=Gb hse;have hm:=h4 q x hr (by omega) hse;have hsg:sgz (Hh (Xz (Qs a b)) x q) = -sgz (Hh a x q):=by
      unfold Stb at hse;unfold sgz;rcases hse with ⟨k1,_⟩ | ⟨k1,_⟩
      ·have:=r1 k1;rw[if_neg (by omega),if_pos k1,if_pos this];rfl
      ·have:=r2 k1;rw[if_pos k1,if_neg (by omega),if_pos this]
     have e2:chn (f+1) b (Xz (Qs a b))=Xz (Qs a b)::chn f (Xz (Qs a b)) (Xz (Qs b (Xz (Qs a b)))):=by simp only[chn];rw[if_neg he0]
     rw[e2];show Mid _ (sgz (Hh b x q)::sgz (Hh (Xz (Qs a b)) x q)::_) (sgz (Hh b (x+1) q)::sgz (Hh (Xz (Qs a b)) (x+1) q)::_);rw[g1];rw[hsg] at hm |-;exact Mid.un _ _ _ (Zdp _) (Zdp _) hm
end Go.Ai

namespace Go.Ai
open Go.IntKind (i64 u64 u32)
theorem sg_one {a:Int} (h:a=1\/a = -1) (n:Int) (h2:sgz n=a):(a=1/\0<n)\/(a = -1/\n<0):=by
 unfold sgz at h2;split at h2
 ·right;omega
 ·split at h2
  ·left;omega
  ·omega
theorem Tm {f:List Int} (R:Int) (hR:0<=R) (lf:Xw f) (hl:2<=f.length) (hl1:(prim (Z8 f)).length=f.length-1) (h:IsG [1] f (prim (Z8 f))) (hc:0<Qy (Z8 f)) (n:Nat) (hn:f.length-1<=n) :
  ∃ Q0:Int,0<Q0/\∀ q x:Int,InR R q x->Q0<=q->∃ d:Int,Top (sgs (f::chn n f (prim (Z8 f))) x q) (sgs (f::chn n f (prim (Z8 f))) (x+1) q) d/\(d=0\/d=1)/\(d=1->¬ Stb f x q/\Hh f x q ≠ 0)/\(d=0->Stb f x q\/Hh f x q=0):=by
 have l1:Xw (prim (Z8 f)):=Jw _;have h10:prim (Z8 f) ≠ []:=by intro h0;rw[h0] at hl1;simp at hl1;omega
 obtain⟨Q1,hQ1,m1⟩:=Zgd R hR n n (Nat.le_refl _) f (prim (Z8 f)) (by omega) lf l1 h;obtain⟨L,Q2,hL,hQ2,p2⟩:=Ml R hR h;obtain⟨Q3,hQ3,p3⟩:=Np R hR hl hl1 h hc;obtain⟨n,rfl⟩:∃ k,n=k+1:=⟨n-1,by omega⟩;have e1:chn (n+1) f (prim (Z8 f))=prim (Z8 f)::chn n (prim (Z8 f)) (Xz (Qs f (prim (Z8 f)))):=by simp only[chn];rw[if_neg h10]
 have he:=Ea l1 h10 h;have hpl:=Mi (a:=f) h10;obtain⟨Q4,hQ4,m4⟩:=Zgd R hR n n (Nat.le_refl _) (prim (Z8 f)) (Xz (Qs f (prim (Z8 f)))) (by rw[Xh];omega) l1 (Kz (F9 lf)) he;refine⟨Q1+Q2+Q3+Q4,by omega,fun q x hr hq => ?_⟩;by_cases hst:Stb f x q
 ·obtain⟨g1,g2⟩:=Gb hst;have hm:=m1 q x hr (by omega) hst;refine⟨0,?_,.inl rfl,fun h=>absurd h (by decide),fun _ => .inl hst⟩;show Top (sgz (Hh f x q)::_) (sgz (Hh f (x+1) q)::_) 0;rw[g1];exact Top.st _ g2 hm
 ·obtain⟨hs1,_⟩:=p2 q x hr (by omega) hst;obtain⟨g1,g2⟩:=Gb hs1;obtain⟨r1,r2⟩:=p3 q x hr (by omega) hst;have hm:=m4 q x hr (by omega) hs1;rw[e1];refine⟨if sgz (Hh f x q)=0 then 0 else 1,?_,by split;exact .inl rfl;exact .inr rfl,?_,?_⟩
  ·show Top (sgz (Hh f x q)::sgz (Hh (prim (Z8 f)) x q)::_) (sgz (Hh f (x+1) q)::sgz (Hh (prim (Z8 f)) (x+1) q)::_) _;rw[g1];unfold Stb at hst;rcases sg_one g2 _ rfl with ⟨k1,k2⟩ | ⟨k1,k2⟩
   ·have hd:=r1 k2;refine Top.un _ _ _ g2 ?_ ?_ hm
    ·rw[k1];unfold sgz; (repeat' split) <;> omega
    ·rw[k1];unfold sgz; (repeat' split) <;> omega
   ·have hd:=r2 k2;refine Top.un _ _ _ g2 ?_ ?_ hm
    ·rw[k1];unfold sgz; (repeat' split) <;> omega
    ·rw[k1];unfold sgz; (repeat' split) <;> omega
  ·intro hd;refine⟨hst,fun h0 => ?_⟩;rw[h0] at hd;exact absurd hd (by decide)
  ·intro hd;right;apply Classical.byContradiction;intro h0;rw[if_neg (by unfold sgz; (repeat' split) <;> omega)] at hd
   exact absurd hd (by decide)
end Go.Ai

namespace Go.Ai
open Go.IntKind (i64 u64 u32)
theorem Zb9 {f:List Int} (R:Int) (hR:0<=R) (lf:Xw f) (hl:2<=f.length) (hl1:(prim (Z8 f)).length=f.length-1) (h:IsG [1] f (prim (Z8 f))) (hc:0<Qy (Z8 f)) (n:Nat) (hn:f.length-1<=n) :
  ∃ Q0:Int,0<Q0/\∀ q u:Int,0<q->Q0<=q->∀ k:Nat,(u.natAbs:Int)<=R*q->((u+(k:Int)).natAbs:Int)<=R*q ->
   wv 0 (sgs (f::chn n f (prim (Z8 f))) (u+(k:Int)) q)<=wv 0 (sgs (f::chn n f (prim (Z8 f))) u q):=by
 obtain⟨Q0,hQ0,ht⟩:=Tm R hR lf hl hl1 h hc n hn;refine⟨Q0,hQ0,fun q u hq0 hq k => ?_⟩;induction k with
 | zero=>intro _ _;simp
 | succ k ih =>
  intro h1 h2;have h3:((u+(k:Int)).natAbs:Int)<=R*q:=by omega
  have h4:=ih h1 h3;have h6:((u+(k:Int)+1).natAbs:Int)<=R*q:=by omega
  obtain⟨d,hd,hd2,_,_⟩:=ht q (u+(k:Int)) ⟨hq0,h3,h6⟩ hq;have h5:=Zoq hd;have e:u+((k+1:Nat):Int)=u+(k:Int)+1:=by omega
  rw[e];omega
theorem Zap (p:List Int) (x q c:Int) (hc:0<c):sgz (Hh p (c*x) (c*q))=sgz (Hh p x q):=by
 have e:∀ T,hs (fun i=>p.getD i 0) (c*x) (c*q) T=c^T*hs (fun i=>p.getD i 0) x q T:=by
  intro T;induction T with
  | zero=>simp[hs]
  | succ T ih =>
   simp only[hs];rw[ih,Int.mul_pow,Int.pow_succ c T];grind
 have hp:0<c^(p.length-1):=Int.pow_pos hc;unfold Hh Go.Ai.hp;rw[e];generalize hs (fun i=>p.getD i 0) x q (p.length-1)=H;generalize c^(p.length-1)=C at *
 unfold sgz;by_cases h1:H<0
 ·have:=Int.mul_neg_of_pos_of_neg hp h1;rw[if_pos this,if_pos h1]
 ·by_cases h2:0<H
  ·have:=Int.mul_pos hp h2;rw[if_neg (by omega),if_neg h1,if_pos this,if_pos h2]
  ·have:H=0:=by omega
   rw[this];simp
theorem G0 (l:List (List Int)) (x q c:Int) (hc:0<c):sgs l (c*x) (c*q)=sgs l x q:=by
 unfold sgs;exact List.map_congr_left fun p _=>Zap p x q c hc
end Go.Ai

namespace Go.Ai
open Go.IntKind (i64 u64 u32)
theorem R7 {f:List Int} (lf:Xw f) (hl:2<=f.length):(Z8 f).length=f.length-1:=by
 have ht:=U3 lf (by intro h;rw[h] at hl;simp at hl);unfold Z8;have hL:Xw ((List.range (f.length-1)).map fun j=>f.getD (j+1) 0*((j+1:Nat):Int)):=by
  refine Aw (.inr ?_);rw[List.length_map,List.length_range,Wm,if_pos (by omega),show f.length-1-1+1=f.length-1 by omega];exact Int.mul_ne_zero ht (by omega)
 rw[hL,List.length_map,List.length_range]
theorem No {p:List Int} (hp:Zj p ≠ []) (hl:2<=(Zq p).length):Xw (Zq p)/\(prim (Z8 (Zq p))).length=(Zq p).length-1/\IsG [1] (Zq p) (prim (Z8 (Zq p)))/\0<Qy (Z8 (Zq p)):=by
 obtain⟨lf,cf,tf,f0,_,_,_,h1⟩:=Be hp;generalize Zq p=f at *
 have hd:=R7 lf hl;have ld:Xw (Z8 f):=Gx _;have hd0:Zj (Z8 f) ≠ []:=by rw[ld];intro h;rw[h] at hd;simp at hd;omega
 have hG:=Vn f (Z8 f);obtain⟨c,hc⟩:=Sa h1;have tG:=N9 (t:=Z8 f) (Uf lf f0);rw[hc] at hG tG;have hc0:0<c:=tG;refine⟨lf,by rw[Qt,ld,hd],?_,Hr hd0⟩;have h2:IsG [1] f (Z8 f):=hG.gscaled (m:=c) (n:=1) (by omega) (by decide) (fun x=>by simp[Zd]);obtain⟨m,hm,hm2⟩:=Wg (Z8 f);exact h2.scaled (m:=1) (n:=1) (k:=m) (l:=1) (by decide) (by decide) hm (by decide) (fun x=>rfl) (fun x=>by rw[<- hm2 x];omega)
end Go.Ai

namespace Go.Ai
open Go.IntKind (i64 u64 u32)
def Gm (p:List Int):List (List Int):=if Zq p=[] then [] else Zq p::chn (Zq p).length (Zq p) (prim (Z8 (Zq p)))
theorem Fu (p:List Int) {x y q:Int} (hq:0<q) (hxy:x<=y):wv 0 (sgs (Gm p) y q)<=wv 0 (sgs (Gm p) x q):=by
 unfold Gm;by_cases h0:Zq p=[]
 ·rw[if_pos h0];exact Int.le_refl _
 ·rw[if_neg h0];have hp:Zj p ≠ []:=by
   intro h;have hz:prim p=[]:=by rw[Xu,<- Xf];exact h
   apply h0;unfold Zq;rw[hz];rfl
  have hpos:=List.length_pos_iff.2 h0;by_cases hl:2<=(Zq p).length
  ·obtain⟨lf,hl1,hG,hc⟩:=No hp hl;obtain⟨Q0,hQ0,hm⟩:=Zb9 ((x.natAbs:Int)+(y.natAbs:Int)) (by omega) lf hl hl1 hG hc (Zq p).length (by omega);have h1:(0:Int)<Q0*q:=Int.mul_pos hQ0 hq;have hQq:Q0<=Q0*q:=by
    have:=Int.mul_le_mul_of_nonneg_left (show (1:Int)<=q by omega) (show 0<=Q0 by omega);omega
   have hb:∀ z:Int,(z.natAbs:Int)<=(x.natAbs:Int)+(y.natAbs:Int)->((Q0*z).natAbs:Int)<=((x.natAbs:Int)+(y.natAbs:Int))*(Q0*q):=by
    intro z hz;have h2:=Jm (a:=Q0) (A:=Q0*q) (by omega) hz;have e:Q0*q*((x.natAbs:Int)+(y.natAbs:Int))=((x.natAbs:Int)+(y.natAbs:Int))*(Q0*q):=Int.mul_comm ..;omega
   have hd:0<=Q0*(y-x):=Int.mul_nonneg (by omega) (by omega);have e1:Q0*x+((Q0*(y-x)).toNat:Int)=Q0*y:=by rw[Int.toNat_of_nonneg hd,Int.mul_sub];omega
   have h3:=hm (Q0*q) (Q0*x) h1 hQq (Q0*(y-x)).toNat (hb x (by omega)) (by rw[e1];exact hb y (by omega));rw[e1,G0 _ _ _ _ hQ0,G0 _ _ _ _ hQ0] at h3;exact h3
  ·have hl1:(Zq p).length=1:=by omega
   have hz:prim (Z8 (Zq p))=[]:=by
    rw[Xu];intro i;rw[J9,Qi (by omega),Int.zero_mul]
   have e:chn (Zq p).length (Zq p) (prim (Z8 (Zq p)))=[]:=by rw[hl1,hz];rfl
   rw[e];have eh:∀ z,Hh (Zq p) z q=(Zq p).getD 0 0:=fun z=>by unfold Hh Go.Ai.hp;rw[hl1];rfl
   unfold sgs;simp only[List.map_cons,List.map_nil];rw[eh,eh];exact Int.le_refl _
end Go.Ai

namespace Go.Ai
open Go.IntKind (i64 u64 u32)
theorem Xg {n:Int}:sgz n=0↔n=0:=by unfold sgz; (repeat' split) <;> omega
theorem B5 {n:Int}:sgz n=1↔0<n:=by unfold sgz; (repeat' split) <;> omega
theorem B6 {n:Int}:sgz n = -1↔n<0:=by unfold sgz; (repeat' split) <;> omega
def Zoo (f g:List Int) (W:Int->Int) (q x:Int):Prop :=
 (sgz (Hh f (x+1) q)=sgz (Hh f x q)/\Hh f x q ≠ 0/\W x=W (x+1)) \/
 ((sgz (Hh g x q)=1\/sgz (Hh g x q) = -1)/\sgz (Hh g (x+1) q)=sgz (Hh g x q) /\
  ((Hh f x q=0/\sgz (Hh f (x+1) q)=sgz (Hh g x q)/\W x=W (x+1)) \/
  (sgz (Hh f x q) = -sgz (Hh g x q)/\(Hh f (x+1) q=0\/sgz (Hh f (x+1) q)=sgz (Hh g x q))/\W x=W (x+1)+1)))
theorem cell {f:List Int} (R:Int) (hR:0<=R) (lf:Xw f) (hl:2<=f.length) (hl1:(prim (Z8 f)).length=f.length-1) (h:IsG [1] f (prim (Z8 f))) (hc:0<Qy (Z8 f)) (n:Nat) (hn:f.length-1<=n) :
  ∃ Q0:Int,0<Q0/\∀ q x:Int,InR R q x->Q0<=q->Zoo f (prim (Z8 f)) (fun y=>wv 0 (sgs (f::chn n f (prim (Z8 f))) y q)) q x:=by
 obtain⟨Q1,hQ1,t1⟩:=Tm R hR lf hl hl1 h hc n hn;obtain⟨L,Q2,hL,hQ2,p2⟩:=Ml R hR h;obtain⟨Q3,hQ3,p3⟩:=Np R hR hl hl1 h hc;refine⟨Q1+Q2+Q3,by omega,fun q x hr hq => ?_⟩;obtain⟨d,hd,hd2,hd3,hd4⟩:=t1 q x hr (by omega);have hw:=Zoq hd;unfold Zoo;by_cases hst:Stb f x q
 ·left;obtain⟨g1,g2⟩:=Gb hst;have hd0:d=0:=by
   rcases hd2 with e | e
   ·exact e
   ·exact absurd hst (hd3 e).1
  refine⟨g1,fun h0 => ?_,by show wv 0 _=wv 0 _;omega⟩;rw[h0] at g2;exact absurd g2 (by decide)
 ·right;obtain⟨hs1,_⟩:=p2 q x hr (by omega) hst;obtain⟨g1,g2⟩:=Gb hs1;obtain⟨r1,r2⟩:=p3 q x hr (by omega) hst;refine⟨g2,g1,?_⟩;by_cases h0:Hh f x q=0
  ·left;have hd0:d=0:=by
    rcases hd2 with e | e
    ·exact e
    ·exact absurd h0 (hd3 e).2
   refine⟨h0,?_,by show wv 0 _=wv 0 _;omega⟩;rcases g2 with k | k
   ·have:=r1 (B5.1 k);rw[k,B5];omega
   ·have:=r2 (B6.1 k);rw[k,B6];omega
  ·right;have hd1:d=1:=by
    rcases hd2 with e | e
    ·rcases hd4 e with k | k
     ·exact absurd k hst
     ·exact absurd k h0
    ·exact e
   unfold Stb at hst;rcases g2 with k | k
   ·have:=r1 (B5.1 k);refine⟨by rw[k,B6];omega,?_,by show wv 0 _=wv 0 _+1;omega⟩;by_cases hz:Hh f (x+1) q=0
    ·exact .inl hz
    ·right;rw[k,B5];omega
   ·have:=r2 (B6.1 k);refine⟨by rw[k];show _=1;rw[B5];omega,?_,by show wv 0 _=wv 0 _+1;omega⟩;by_cases hz:Hh f (x+1) q=0
    ·exact .inl hz
    ·right;rw[k,B6];omega
theorem Zoo.mono {f g:List Int} {W:Int->Int} {q x:Int} (h:Zoo f g W q x):W (x+1)<=W x:=by
 rcases h with ⟨_,_,h⟩ | ⟨_,_,⟨_,_,h⟩ | ⟨_,_,h⟩⟩ <;> omega
theorem Zoo.root {f g:List Int} {W:Int->Int} {q x:Int} (h:Zoo f g W q x) (h0:Hh f (x+1) q=0):W x=W (x+1)+1:=by
 have e:sgz (Hh f (x+1) q)=0:=Xg.2 h0;rcases h with ⟨h1,h2,_⟩ | ⟨h1,_,⟨_,h3,_⟩ | ⟨_,_,h⟩⟩
 ·rw[e] at h1;exact absurd (Xg.1 h1.symm) h2
 ·omega
 ·exact h
def Par (f g:List Int) (W:Int->Int) (q u v:Int):Prop :=
 (Hh f v q ≠ 0/\sgz (Hh f v q)=(if (W u-W v) % 2=0 then 1 else -1)*sgz (Hh f u q)) \/
 (Hh f v q=0/\sgz (Hh g v q)=(if (W u-W v) % 2=0 then 1 else -1)*sgz (Hh f u q))
theorem Ps {f g:List Int} {W:Int->Int} {q u:Int} (h0:Hh f u q ≠ 0):∀ k:Nat,(∀ j:Nat,j<k->Zoo f g W q (u+(j:Int)))->Par f g W q u (u+(k:Int))
 | 0,_=>by
  left;rw[show u+((0:Nat):Int)=u by omega];exact⟨h0,by rw[if_pos (by omega),Int.one_mul]⟩
 | k+1,hc=>by
  have ih:=Ps h0 k (fun j hj=>hc j (by omega));have c:=hc k (by omega);have e:u+((k+1:Nat):Int)=u+(k:Int)+1:=by omega
  rw[e];have hu:sgz (Hh f u q)=1\/sgz (Hh f u q) = -1:=by
   have:=Zdp (Hh f u q);have:sgz (Hh f u q) ≠ 0:=fun hh=>h0 (Xg.1 hh);omega
  generalize u+(k:Int)=v at *
  unfold Par at ih |-;rcases c with ⟨c1,c2,c3⟩ | ⟨c1,c2,⟨c3,c4,c5⟩ | ⟨c3,c4,c5⟩⟩
  ·rw[<- c3];rcases ih with ⟨i1,i2⟩ | ⟨i1,_⟩
   ·left;refine⟨fun hz => ?_,by rw[c1];exact i2⟩;rw[hz] at c1;exact i1 (Xg.1 c1.symm)
   ·exact absurd i1 c2
  ·rw[<- c5];rcases ih with ⟨i1,_⟩ | ⟨_,i2⟩
   ·exact absurd c3 i1
   ·left;refine⟨fun hz => ?_,by rw[c4];exact i2⟩;rw[hz] at c4;have:sgz 0=0:=rfl;omega
  ·have i2:sgz (Hh f v q)=(if (W u-W v) % 2=0 then 1 else -1)*sgz (Hh f u q):=by
    rcases ih with ⟨_,i2⟩ | ⟨i1,_⟩
    ·exact i2
    ·rw[i1] at c3;have:sgz 0=0:=rfl;omega
   have flip:sgz (Hh g v q)=(if (W u-W (v+1)) % 2=0 then 1 else -1)*sgz (Hh f u q):=by
    by_cases hp:(W u-W v) % 2=0
    ·rw[if_pos hp] at i2;rw[if_neg (by omega)];omega
    ·rw[if_neg hp] at i2;rw[if_pos (by omega)];omega
   rcases c4 with c4 | c4
   ·right;exact⟨c4,by rw[c2];exact flip⟩
   ·left;refine⟨fun hz => ?_,by rw[c4];exact flip⟩;rw[hz] at c4;have:sgz 0=0:=rfl;omega
theorem Nx {f g:List Int} {W:Int->Int} {q u:Int}:∀ k:Nat,(∀ j:Nat,j<k->Zoo f g W q (u+(j:Int)))->W (u+(k:Int))<=W u
 | 0,_=>by simp
 | k+1,hc=>by
  have ih:=Nx k (fun j hj=>hc j (by omega));have:=(hc k (by omega)).mono;have e:u+((k+1:Nat):Int)=u+(k:Int)+1:=by omega
  rw[e];omega
theorem grid (p:List Int) (hp:Zj p ≠ []) (hl:2<=(Zq p).length) {x y q:Int} (hq:0<q):∃ c:Int,0<c/\∀ z:Int,c*x<=z->z<c*y->Zoo (Zq p) (prim (Z8 (Zq p))) (fun z=>wv 0 (sgs (Gm p) z (c*q))) (c*q) z:=by
 obtain⟨lf,hl1,hG,hc⟩:=No hp hl;have h0:Zq p ≠ []:=by intro h;rw[h] at hl;simp at hl
 obtain⟨Q0,hQ0,hm⟩:=cell ((x.natAbs:Int)+(y.natAbs:Int)) (by omega) lf hl hl1 hG hc (Zq p).length (by omega);refine⟨Q0,hQ0,fun z h1 h2 => ?_⟩;have hQq:Q0<=Q0*q:=by
  have:=Int.mul_le_mul_of_nonneg_left (show (1:Int)<=q by omega) (show 0<=Q0 by omega);omega
 have hb:∀ z:Int,(z.natAbs:Int)<=(x.natAbs:Int)+(y.natAbs:Int)->((Q0*z).natAbs:Int)<=((x.natAbs:Int)+(y.natAbs:Int))*(Q0*q):=by
  intro z hz;have h2:=Jm (a:=Q0) (A:=Q0*q) (by omega) hz;have e:Q0*q*((x.natAbs:Int)+(y.natAbs:Int))=((x.natAbs:Int)+(y.natAbs:Int))*(Q0*q):=Int.mul_comm ..;omega
 have bx:=hb x (by omega);have by':=hb y (by omega);have e:Gm p=Zq p::chn (Zq p).length (Zq p) (prim (Z8 (Zq p))):=by unfold Gm;rw[if_neg h0]
 rw[e];exact hm (Q0*q) z ⟨Int.mul_pos hQ0 hq,by omega,by omega⟩ hQq
theorem Zbi (p:List Int) (hp:Zj p ≠ []) (hl:2<=(Zq p).length) {x m y q:Int} (hq:0<q) (hxm:x<m) (hmy:m<y) (h1:wv 0 (sgs (Gm p) x q)-wv 0 (sgs (Gm p) y q)=1) :
  (Hh (Zq p) m q=0->wv 0 (sgs (Gm p) m q)=wv 0 (sgs (Gm p) y q)) /\
  (Hh (Zq p) m q ≠ 0->Hh (Zq p) y q=0->wv 0 (sgs (Gm p) m q)=wv 0 (sgs (Gm p) y q)+1) /\
  (Hh (Zq p) m q ≠ 0->Hh (Zq p) y q ≠ 0->(sgz (Hh (Zq p) m q)=sgz (Hh (Zq p) y q)↔wv 0 (sgs (Gm p) m q)=wv 0 (sgs (Gm p) y q))):=by
 obtain⟨c,hc,hg⟩:=grid p hp hl (x:=x) (y:=y) hq;have m1:=Fu p hq (Int.le_of_lt hxm);have m2:=Fu p hq (Int.le_of_lt hmy);have sc:∀ z,wv 0 (sgs (Gm p) (c*z) (c*q))=wv 0 (sgs (Gm p) z q):=fun z=>by rw[G0 _ _ _ _ hc]
 have hs:∀ z,sgz (Hh (Zq p) (c*z) (c*q))=sgz (Hh (Zq p) z q):=fun z=>Zap _ _ _ _ hc;have d1:c*x+c<=c*m:=by
  have:=Int.mul_le_mul_of_nonneg_left (show x+1<=m by omega) (show 0<=c by omega);rw[Int.mul_add,Int.mul_one] at this;exact this
 have d2:c*m+c<=c*y:=by
  have:=Int.mul_le_mul_of_nonneg_left (show m+1<=y by omega) (show 0<=c by omega);rw[Int.mul_add,Int.mul_one] at this;exact this
 have back:∀ a b:Int,c*x<=a->a<b->b<=c*y->Hh (Zq p) b (c*q)=0->wv 0 (sgs (Gm p) b (c*q))+1<=wv 0 (sgs (Gm p) a (c*q)):=by
  intro a b ha hab hb hz;have hcell:=hg (b-1) (by omega) (by omega);have h2:=hcell.root (by rw[show b-1+1=b by omega];exact hz);simp only[show b-1+1=b by omega] at h2;have h3:=Nx (u:=a) (b-1-a).toNat (fun j hj=>hg (a+(j:Int)) (by omega) (by omega));simp only[show a+((b-1-a).toNat:Int)=b-1 by omega] at h3;omega
 refine⟨fun hz => ?_,fun _ hz => ?_,fun hm0 hy0 => ?_⟩
 ·have hz':Hh (Zq p) (c*m) (c*q)=0:=by rw[<- Xg,hs,Xg];exact hz
  have:=back (c*x) (c*m) (Int.le_refl _) (by omega) (by omega) hz';rw[sc,sc] at this;omega
 ·have hz':Hh (Zq p) (c*y) (c*q)=0:=by rw[<- Xg,hs,Xg];exact hz
  have:=back (c*m) (c*y) (by omega) (by omega) (Int.le_refl _) hz';rw[sc,sc] at this;omega
 ·have hm':Hh (Zq p) (c*m) (c*q) ≠ 0:=fun g=>hm0 (by rw[<- Xg,<- hs,Xg];exact g);have hy':Hh (Zq p) (c*y) (c*q) ≠ 0:=fun g=>hy0 (by rw[<- Xg,<- hs,Xg];exact g);have hpar:=Ps (g:=prim (Z8 (Zq p))) (W:=fun z=>wv 0 (sgs (Gm p) z (c*q))) hm' (c*y-c*m).toNat (fun j hj=>hg (c*m+(j:Int)) (by omega) (by omega));rw[show c*m+((c*y-c*m).toNat:Int)=c*y by omega] at hpar;rcases hpar with ⟨_,e⟩ | ⟨e,_⟩
  ·simp only[sc,hs] at e;have hb:sgz (Hh (Zq p) m q) ≠ 0:=fun g=>hm0 (Xg.1 g);constructor
   ·intro heq;apply Classical.byContradiction;intro hne;rw[if_neg (by omega)] at e;omega
   ·intro heq;rw[if_pos (by omega)] at e;omega
  ·exact absurd e hy'
end Go.Ai

namespace Go.Proofs.Ythdpfjffdipipaa
open Go.IntKind (i64 u64 u32)
open Go.Ai
set_option maxRecDepth 100000
theorem Nw:∀ (f:Nat) (a b:List Int),Vf f a b=chn f a b
 | 0,_,_=>rfl
 | f+1,a,b=>by simp only[Vf,chn];rw[Nw f]
theorem Gq (p:List Int):Qz p=Gm p:=by unfold Qz Gm;rw [Nw]
theorem sg_at (l:List (List Int)) (N:Int) (e i:Nat):Zbm l N e i=sgz (Hh (l.getD i []) N (2^e)):=by
 unfold Zbm Hh;rw[Zqq];rfl
theorem Zi6 (l:List (List Int)) (N:Int) (e:Nat):∀ i,i<=l.length->(Xc l N e i).1+wv (Xc l N e i).2 (sgs (l.drop i) N (2^e))=wv 0 (sgs l N (2^e)):=by
 intro i;induction i with
 | zero=>intro _;simp[Xc]
 | succ i ih =>
  intro hi;rw[<- ih (by omega)];rw[List.drop_eq_getElem_cons (show i<l.length by omega)];have hg:l.getD i []=l[i]:=by rw[List.getD_eq_getElem?_getD,List.getElem?_eq_getElem (by omega)];rfl
  have hs:=sg_at l N e i;rw[hg] at hs;show (Zbf (Xc l N e i) (Zbm l N e i)).1+wv (Zbf (Xc l N e i) (Zbm l N e i)).2 _=(Xc l N e i).1+wv (Xc l N e i).2 (sgz (Hh l[i] N (2^e))::_);rw[<- hs];generalize Xc l N e i=x;generalize Zbm l N e i=s;obtain⟨n,last⟩:=x;simp only[Zbf,wv];by_cases h0:s=0
  ·rw[if_neg (fun h=>h.1 h0),if_neg (fun h=>h h0),if_pos h0];rfl
  ·rw[if_neg h0,if_pos h0];by_cases h1:last ≠ 0/\s ≠ last
   ·rw[if_pos ⟨h0,h1⟩,if_pos h1];show n+1+wv s (sgs (l.drop (i+1)) N (2^e))=n+(1+wv s (sgs (l.drop (i+1)) N (2^e)));omega
   ·rw[if_neg (fun h=>h1 h.2),if_neg h1];show n+wv s (sgs (l.drop (i+1)) N (2^e))=n+(0+wv s (sgs (l.drop (i+1)) N (2^e)));omega
def Vd (p:List Int) (x:Int) (a:Nat):Int:=(Xc (Qz p) x a (Qz p).length).1
theorem E2 (p:List Int) (x:Int) (a:Nat):Vd p x a=wv 0 (sgs (Gm p) x (2^a)):=by
 have h:=Zi6 (Qz p) x a (Qz p).length (Nat.le_refl _);rw[List.drop_length,Gq] at h;unfold Vd;rw[Gq];have:wv (Xc (Gm p) x a (Gm p).length).2 (sgs [] x (2^a))=0:=rfl;omega
theorem Qj (n:Nat):(0:Int)<2^n:=Int.pow_pos (by decide)
theorem Fo (p:List Int) (x:Int) (a c:Nat):Vd p (x*2^c) (a+c)=Vd p x a:=by
 rw[E2,E2,Int.mul_comm x,show (2:Int)^(a+c)=2^c*2^a by rw[Int.pow_add,Int.mul_comm],G0 _ _ _ _ (Qj c)]
theorem Vd_le {p:List Int} {x y:Int} {a b:Nat} (h:x*2^b<=y*2^a):Vd p y b<=Vd p x a:=by
 rw[<- Fo p x a b,<- Fo p y b a,Nat.add_comm b a,E2,E2];exact Fu p (Qj _) h
theorem Zdq (p:List Int) (x:Int) (a:Nat):sgD p x a=sgz (Hh p x (2^a)):=by unfold sgD Hh;rw [Zqq];rfl
theorem Lm (p:List Int) (x:Int) (a c:Nat):sgD p (x*2^c) (a+c)=sgD p x a:=Tv (by rw [Int.pow_add];grind)
theorem Zol {p:List Int} (h:(Zq p).length<2) (x y:Int) (a b:Nat):Vd p x a=Vd p y b:=by
 have e:∀ x a,Vd p x a=0:=by
  intro x a;rw[E2];unfold Gm;by_cases h0:Zq p=[]
  ·rw[if_pos h0];rfl
  ·rw[if_neg h0];have hz:prim (Z8 (Zq p))=[]:=by
    rw[Xu];intro i;rw[J9,Qi (by omega),Int.zero_mul]
   have hl1:(Zq p).length=1:=by have:=List.length_pos_iff.2 h0;omega
   have e:chn (Zq p).length (Zq p) (prim (Z8 (Zq p)))=[]:=by rw[hl1,hz];rfl
   rw[e];show wv 0 [_]=0;simp only[wv];split
   ·rfl
   ·rw[if_neg (fun h=>h.1 rfl)];rfl
 rw[e,e]
theorem half {p:List Int} {x m y:Int} {a c b:Nat} (h1:x*2^c<m*2^a) (h2:m*2^b<y*2^c) (hV:Vd p x a-Vd p y b=1) :
  (sgD (Zq p) m c=0->Vd p m c=Vd p y b)/\(sgD (Zq p) m c ≠ 0->sgD (Zq p) y b=0->Vd p m c=Vd p y b+1) /\
  (sgD (Zq p) m c ≠ 0->sgD (Zq p) y b ≠ 0->(sgD (Zq p) m c=sgD (Zq p) y b↔Vd p m c=Vd p y b)):=by
 have hl:2<=(Zq p).length:=by
  apply Classical.byContradiction;intro g;have:=Zol (p:=p) (by omega) x y a b;omega
 have hp:Zj p ≠ []:=by
  intro h;have hz:prim p=[]:=by rw[Xu,<- Xf];exact h
  have h0:Zq p=[]:=by unfold Zq;rw[hz];rfl
  rw[h0] at hl;simp at hl
 have e1:=Fo p x a (c+b);have e2:=Fo p m c (a+b);have e3:=Fo p y b (a+c);have g2:=Lm (Zq p) m c (a+b);have g3:=Lm (Zq p) y b (a+c);rw[show a+(c+b)=a+b+c by omega,E2] at e1;rw[show c+(a+b)=a+b+c by omega,E2] at e2;rw[show b+(a+c)=a+b+c by omega,E2] at e3;rw[show c+(a+b)=a+b+c by omega,Zdq] at g2;rw[show b+(a+c)=a+b+c by omega,Zdq] at g3;have i1:x*2^(c+b)<m*2^(a+b):=by
  have:=Int.mul_lt_mul_of_pos_right h1 (Qj b);rw[Int.pow_add,Int.pow_add,<- Int.mul_assoc,<- Int.mul_assoc];exact this
 have i2:m*2^(a+b)<y*2^(a+c):=by
  have:=Int.mul_lt_mul_of_pos_right h2 (Qj a);rw[Int.pow_add,Int.pow_add,Int.mul_comm (2^a) (2^b),Int.mul_comm (2^a) (2^c),<- Int.mul_assoc,<- Int.mul_assoc];exact this
 obtain⟨s1,s2,s3⟩:=Zbi p hp hl (Qj (a+b+c)) i1 i2 (by rw[e1,e3];exact hV);rw[e2,e3] at s1 s2 s3;rw[g2,g3] at s3;have z2:Hh (Zq p) (m*2^(a+b)) (2^(a+b+c))=0↔sgD (Zq p) m c=0:=by rw[<- g2,Xg]
 have z3:Hh (Zq p) (y*2^(a+c)) (2^(a+b+c))=0↔sgD (Zq p) y b=0:=by rw[<- g3,Xg]
 exact⟨fun h=>s1 (z2.2 h),fun h h'=>s2 (fun g=>h (z2.1 g)) (z3.2 h'),fun h h'=>s3 (fun g=>h (z2.1 g)) (fun g=>h' (z3.1 g))⟩
theorem Ap {x y:Int} {a b:Nat} (h:x*2^b<y*2^a):x*2^Zbz x a y b<Zj5 x a y b*2^a/\Zj5 x a y b*2^b<y*2^Zbz x a y b:=by
 have hz:=B9 (max a b+1) (Ld x a y b);obtain⟨N,hN⟩:=G2 (max a b+1) (Ld x a y b);have hS:Ld x a y b=x*2^(max a b-a)+y*2^(max a b-b):=rfl;unfold Zj5 Zbz;generalize Ld x a y b=S at *
 generalize D3 S (max a b+1)=z at *
 have pz:=Qj z;have e:S / 2^z=N:=by rw[hN];exact Int.mul_ediv_cancel_left _ (by omega)
 rw[e];obtain⟨k,hk⟩:∃ k,max a b+1=z+k:=⟨max a b+1-z,by omega⟩;rw[show max a b+1-z=k by omega];have hz2:(2:Int)^z*2^k=2*2^max a b:=by rw[<- Int.pow_add,<- hk,Int.pow_succ,Int.mul_comm]
 have ea:(2:Int)^max a b=2^(max a b-a)*2^a:=by rw[<- Int.pow_add];congr 1;omega
 have eb:(2:Int)^max a b=2^(max a b-b)*2^b:=by rw[<- Int.pow_add];congr 1;omega
 have pa:=Qj (max a b-a);have pb:=Qj (max a b-b);have pA:=Qj a;have pB:=Qj b;have pk:=Qj k;generalize (2:Int)^max a b=M at *
 generalize (2:Int)^(max a b-a)=u at *
 generalize (2:Int)^(max a b-b)=v at *
 generalize (2:Int)^a=A at *
 generalize (2:Int)^b=B at *
 generalize (2:Int)^z=Z at *
 generalize (2:Int)^k=K at *
 have huv:x*u<y*v:=by
  have h3:x*B*(u*v)<y*A*(u*v):=Int.mul_lt_mul_of_pos_right h (Int.mul_pos pa pb);have e3:x*B*(u*v)=x*u*M:=by rw[eb];grind
  have e4:y*A*(u*v)=y*v*M:=by rw[ea];grind
  rw[e3,e4] at h3;exact Int.lt_of_mul_lt_mul_right h3 (by rw[ea];exact Int.le_of_lt (Int.mul_pos pa pA))
 constructor
 ·have h4:Z*(x*K)<Z*(N*A):=by
   have e5:Z*(x*K)=x*u*(2*A):=by
    have:Z*(x*K)=x*(Z*K):=by grind
    rw[this,hz2,ea];grind
   have e6:Z*(N*A)=(x*u+y*v)*A:=by rw[<- hS,hN];grind
   have h5:=Int.mul_lt_mul_of_pos_right (show x*u+x*u<x*u+y*v by omega) pA;rw[e5,e6];have:x*u*(2*A)=(x*u+x*u)*A:=by grind
   rw[this];exact h5
  exact Int.lt_of_mul_lt_mul_left h4 (Int.le_of_lt pz)
 ·have h4:Z*(N*B)<Z*(y*K):=by
   have e5:Z*(y*K)=y*v*(2*B):=by
    have:Z*(y*K)=y*(Z*K):=by grind
    rw[this,hz2,eb];grind
   have e6:Z*(N*B)=(x*u+y*v)*B:=by rw[<- hS,hN];grind
   have h5:=Int.mul_lt_mul_of_pos_right (show x*u+y*v<y*v+y*v by omega) pB;rw[e5,e6];have:y*v*(2*B)=(y*v+y*v)*B:=by grind
   rw[this];exact h5
  exact Int.lt_of_mul_lt_mul_left h4 (Int.le_of_lt pz)
theorem M0 {x y:Int} {a b:Nat}:X1 x a y b = -1↔x*2^b<y*2^a:=by unfold X1 U6; (repeat' split) <;> omega
theorem M1 {x y:Int} {a b:Nat}:X1 x a y b=1↔y*2^a<x*2^b:=by unfold X1 U6; (repeat' split) <;> omega
structure One (p:List Int) (x:Iv):Prop where
 lt:Ze x.r*2^x.b<Ze x.t*2^x.a
 v:Vd p (Ze x.r) x.a-Vd p (Ze x.t) x.b=1
theorem Zp7 {p:List Int} {x:Iv} (h:One p x) {m:Int} {c:Nat} (h1:Ze x.r*2^c<m*2^x.a) (h2:m*2^x.b<Ze x.t*2^c) :
  (Wc (Zq p) (Ze x.r) x.a (Ze x.t) x.b m c<=0↔Vd p m c=Vd p (Ze x.t) x.b)/\(¬ Wc (Zq p) (Ze x.r) x.a (Ze x.t) x.b m c<=0↔Vd p m c=Vd p (Ze x.t) x.b+1):=by
 obtain⟨k1,k2,k3⟩:=half h1 h2 h.v;have m1:Vd p m c<=Vd p (Ze x.r) x.a:=Vd_le (Int.le_of_lt h1);have m2:Vd p (Ze x.t) x.b<=Vd p m c:=Vd_le (Int.le_of_lt h2);have hv:=h.v;have e1:¬ X1 m c (Ze x.r) x.a<=0:=by
  rw[M1.2 h1];decide
 have e2:¬ X1 m c (Ze x.t) x.b>0:=by
  rw[M0.2 h2];decide
 have key:Wc (Zq p) (Ze x.r) x.a (Ze x.t) x.b m c<=0↔Vd p m c=Vd p (Ze x.t) x.b:=by
  unfold Wc;rw[if_neg e1,if_neg e2];by_cases c1:sgD (Zq p) m c=0
  ·rw[if_pos c1];exact⟨fun _=>k1 c1,fun _=>Int.le_refl _⟩
  ·rw[if_neg c1];by_cases c2:sgD (Zq p) (Ze x.t) x.b=0
   ·have:=k2 c1 c2;rw[if_neg (by rw[c2];exact c1)];constructor <;> intro g <;> omega
   ·have:=k3 c1 c2;by_cases c3:sgD (Zq p) m c=sgD (Zq p) (Ze x.t) x.b
    ·rw[if_pos c3];exact⟨fun _=>this.1 c3,fun _=>by decide⟩
    ·rw[if_neg c3];exact⟨fun g=>absurd g (by decide),fun g=>absurd (this.2 g) c3⟩
 refine⟨key,?_⟩;rw[key];omega
theorem One.half {p:List Int} {x:Iv} (h:One p x):One p (stp (Zq p) x):=by
 obtain⟨b1,b2⟩:=Ap h.lt;have hne:X1 (Ze x.r) x.a (Ze x.t) x.b ≠ 0:=by rw[M0.2 h.lt];decide
 obtain⟨s1,s2⟩:=Zp7 h b1 b2;have hv:=h.v;unfold stp;rw[if_neg hne];split
 ·rename_i g;have e:=s1.1 g;refine⟨?_,?_⟩
  ·show Ze x.r*2^x.me<Ze (cn x.mn)*2^x.a;rw[Zv];exact b1
  ·show Vd p (Ze x.r) x.a-Vd p (Ze (cn x.mn)) x.me=1;rw[Zv];have:Vd p x.mn x.me=Vd p (Ze x.t) x.b:=e;omega
 ·rename_i g;have e:=s2.1 g;refine⟨?_,?_⟩
  ·show Ze (cn x.mn)*2^x.b<Ze x.t*2^x.me;rw[Zv];exact b2
  ·show Vd p (Ze (cn x.mn)) x.me-Vd p (Ze x.t) x.b=1;rw[Zv];have:Vd p x.mn x.me=Vd p (Ze x.t) x.b+1:=e;omega
end Go.Proofs.Ythdpfjffdipipaa

namespace Go.Proofs.Ythdpfjffdipipaa
open Go.IntKind (i64 u64 u32)
open Go.Ai
set_option maxRecDepth 100000
def sc (x:Int) (a k:Nat):Int:=x*2^k / 2^a
theorem sc_ge {x:Int} {a k:Nat} (h:a<=k):sc x a k=x*2^(k-a):=by
 unfold sc;have e:x*2^k=x*2^(k-a)*2^a:=by rw[Int.mul_assoc,<- Int.pow_add];congr 2;omega
 rw[e,Int.mul_ediv_cancel _ (by have:=Qj a;omega)]
theorem sc_lt {x:Int} {a k:Nat} (h:k<=a):sc x a k=x / 2^(a-k):=by
 unfold sc;have e:(2:Int)^a=2^k*2^(a-k):=by rw[<- Int.pow_add];congr 1;omega
 rw[e,Int.mul_comm x,Int.mul_ediv_mul_of_pos _ _ (Qj k)]
theorem E5 {r:Rn} (hr:Ji 100 r) {a k:Nat} (ha:a<=4096) (hk:k<=64):Zc Yir 102 [dyR r (a:Nat),.int .i64 (k:Nat)] (Zi (sc (Ze r) a k)):=by
 have hl:=hr.2;by_cases c:a<=k
 ·rw[sc_ge c];have ew:i64.wrap ((k:Int)-(a:Int))=((k-a:Nat):Int):=by rw[w64 (by omega) (by omega)];omega
  exact Zhf r (a:Nat) (k:Nat) _ (by rw[decide_eq_true_eq];omega) (by rw[ew];exact N3 hr.1 (k-a) (by omega) (by omega))
 ·rw[sc_lt (by omega)];have ew:i64.wrap ((a:Int)-(k:Int))=((a-k:Nat):Int):=by rw[w64 (by omega) (by omega)];omega
  exact Zhe r (a:Nat) (k:Nat) _ (by rw[decide_eq_false_iff_not];omega) (by rw[ew];exact Zi2 hr.1 (by omega) (by omega))
theorem Zdr {r:Rn} (hr:Ji 100 r) (a:Nat) {k:Nat} (hk:k<=64):Jo 103 (sc (Ze r) a k):=by
 have h1:=hr.fits.mul (L8 (n:=k) (k:=3) (by omega));unfold sc;generalize Ze r*2^k=N at h1;have h2:=Qj a;unfold Jo at *
 have h3:(N / 2^a).natAbs<=N.natAbs:=Int.natAbs_ediv_le_natAbs _ _;omega
theorem Za0 {n:Nat}:Bo n=1↔n=1:=by
 unfold Bo;constructor
 ·intro h;by_cases h0:n=0
  ·rw[if_pos h0] at h;omega
  ·rw[if_neg h0] at h;have h1:n.log2=0:=by omega
   have:=(Nat.log2_lt h0).1 (show n.log2<1 by omega);omega
 ·intro h;subst h;decide
def Iv.lo (x:Iv) (k:Nat):Int:=sc (Ze x.r) x.a k
def Iv.hi (x:Iv) (k:Nat):Int:=sc (Ze x.t) x.b k
def flo (p:List Int) (x:Iv) (k:Nat):Int:=if x.hi k=x.lo k then x.lo k else if Wc p (Ze x.r) x.a (Ze x.t) x.b (x.hi k) k>=0 then x.hi k else x.lo k
section
variable {p:List Int} (hp:Zi0 p) {C m:Nat} {x:Iv} (h:IvOk C m x) {k:Nat} (hk:k<=64)
include hp h hk
omit hp in
theorem Zfs (hm:m<=4096):Zc Yir 102 [dyR x.r (x.a:Nat),.int .i64 (k:Nat)] (Zi (x.lo k))/\Zc Yir 102 [dyR x.t (x.b:Nat),.int .i64 (k:Nat)] (Zi (x.hi k)) /\
  Zc Yir 103 [Zi (x.hi k),Zi (x.lo k)] (Zi (x.hi k-x.lo k))/\Zc Yir 74 [Zi (x.hi k-x.lo k)] (.int .i64 (Wa (x.hi k-x.lo k))) /\
  Zc Yir 37 [Zi (x.hi k-x.lo k)] (.int .i64 ((Bo (x.hi k-x.lo k).natAbs:Nat):Int))/\Ji 104 (cn (x.hi k)):=by
 obtain⟨gr,gt,ha,hb,vr,vt⟩:=h;have f1:=Zdr gr x.a hk;have f2:=Zdr gt x.b hk;have f3:=f2.add f1.neg;have e3:sc (Ze x.t) x.b k + -(sc (Ze x.r) x.a k)=x.hi k-x.lo k:=rfl;have f3':Jo 104 (x.hi k-x.lo k):=by
  have:=f2.add f1.neg;exact this
 have g1:Ji 103 (cn (x.lo k)):=Q5 f1;have g2:Ji 103 (cn (x.hi k)):=Q5 f2;have g3:=Q5 f3';have s:=Rk g2 g1 (by decide) (by decide);rw[Zv,Zv] at s;have s1:=Kl (neg:=(cn (x.hi k-x.lo k)).1) g3.1 (by have:=g3.2;omega);have s2:=Km (neg:=(cn (x.hi k-x.lo k)).1) g3.1 (by have:=g3.2;omega);rw[show ∀ n,rv (cn n).1 (cn n).2=n from Zv] at s1 s2;exact⟨E5 gr (by omega) hk,E5 gt (by omega) hk,s,s1,s2,g2.mono (by omega)⟩
theorem Zkk (hC:C+m+1<3000) (o:Rn) (h0:2<=x.hi k-x.lo k):Za Yir Zoj (Sw o (p.map cn) x.r (x.a:Nat) x.t (x.b:Nat) (k:Nat)) .norm (Sw o (p.map cn) (stp p x).r ((stp p x).a:Nat) (stp p x).t ((stp p x).b:Nat) (k:Nat)):=by
 obtain⟨a1,a2,a3,a4,a5,_⟩:=Zfs h hk (by omega);have st:=Mb hp h hC;have h1:Wa (x.hi k-x.lo k)=1:=by unfold Wa;rw[if_neg (by omega),if_pos (by omega)]
 have h2:¬ Bo (x.hi k-x.lo k).natAbs=1:=by rw[Za0];omega
 exact Yk67_4 o (p.map cn) x.r (x.a:Nat) x.t (x.b:Nat) (k:Nat) _ _ _ _ _ _ _ _ _ (by rw[h1];rfl) (by rw[beq_eq_false_iff_ne];omega) a1 a2 a3 a4 a5 st
theorem Zqr (hC:C+m+1<3000) (o:Rn) (hne:X1 (Ze x.r) x.a (Ze x.t) x.b ≠ 0\/x.hi k=x.lo k) (h0:x.hi k-x.lo k=0\/x.hi k-x.lo k=1) (hG:Ji 100 (cn (x.hi k))):Za Yir Zoj (Sw o (p.map cn) x.r (x.a:Nat) x.t (x.b:Nat) (k:Nat)) .ret (Sw (cn (flo p x k)) (p.map cn) x.r (x.a:Nat) x.t (x.b:Nat) (k:Nat)):=by
 obtain⟨a1,a2,a3,a4,a5,_⟩:=Zfs h hk (by omega);obtain⟨gr,gt,ha,hb,vr,vt⟩:=h;unfold flo;rcases h0 with h0 | h0
 ·rw[if_pos (by omega)];have h1:Wa (x.hi k-x.lo k)=0:=by rw[h0];rfl
  exact Yk67_1 o (p.map cn) x.r (x.a:Nat) x.t (x.b:Nat) (k:Nat) _ _ _ (by rw[h1];rfl) a1 a2 a3 a4
 ·rw[if_neg (by omega)];have h1:Wa (x.hi k-x.lo k)=1:=by rw[h0];rfl
  have h2:Bo (x.hi k-x.lo k).natAbs=1:=by rw[Za0];omega
  have hne':X1 (Ze x.r) x.a (Ze x.t) x.b ≠ 0:=by
   rcases hne with g | g
   ·exact g
   ·omega
  have sd:=Tt hp gr gt hG (a:=x.a) (b:=x.b) (c:=k) (by omega) (by omega) (by omega) hne';rw[Zv] at sd;by_cases c:Wc p (Ze x.r) x.a (Ze x.t) x.b (x.hi k) k>=0
  ·rw[if_pos c];exact Yk67_2 o (p.map cn) x.r (x.a:Nat) x.t (x.b:Nat) (k:Nat) _ _ _ _ _ (by rw[h1];rfl) (by rw[h2];rfl) (decide_eq_true c) a1 a2 a3 a4 a5 sd
  ·rw[if_neg c];exact Yk67_3 o (p.map cn) x.r (x.a:Nat) x.t (x.b:Nat) (k:Nat) _ _ _ _ _ (by rw[h1];rfl) (by rw[h2];rfl) (decide_eq_false c) a1 a2 a3 a4 a5 sd
theorem Zfq {n:Nat} (hC:C+m+n+1<3000) (hs:∀ i,i<n->2<=(J7 p x i).hi k-(J7 p x i).lo k) (hne:X1 (Ze (J7 p x n).r) (J7 p x n).a (Ze (J7 p x n).t) (J7 p x n).b ≠ 0\/(J7 p x n).hi k=(J7 p x n).lo k)
  (h0:(J7 p x n).hi k-(J7 p x n).lo k=0\/(J7 p x n).hi k-(J7 p x n).lo k=1) (hG:Ji 100 (cn ((J7 p x n).hi k))) :
  Zc Yir 67 [x.av p,.int .i64 (k:Nat)] (Zi (flo p (J7 p x n) k)):=by
 have out:=Zqr hp (Wv (p:=p) h n (by omega)) hk (by omega) (false,[]) hne h0 hG;have l:=Za.upTo (prog:=Yir) (c:=Zoj) (ex := .ret) (fun i=>Sw (false,[]) (p.map cn) (J7 p x i).r ((J7 p x i).a:Nat) (J7 p x i).t ((J7 p x i).b:Nat) (k:Nat)) n (by nofun) out 0 (Nat.zero_le _) (fun t _ ht=>Zkk hp (Wv (p:=p) h t (by omega)) hk (by omega) (false,[]) (hs t ht));exact Yrun67 (p.map cn) x.r x.t (x.a:Nat) (x.b:Nat) (k:Nat) _ _ _ _ _ _ l
end
section
variable {p q:List Int} (hp:Zi0 p) (hq:Zi0 q) {C m:Nat} {x y:Iv} (hx:IvOk C m x) (hy:IvOk C m y)
include hp hq hx hy
omit hp hq in
theorem M4 (hm:m<=4096):Zc Yir 50 [dyR x.t (x.b:Nat),dyR y.r (y.a:Nat)] (.int .i64 (X1 (Ze x.t) x.b (Ze y.r) y.a))/\Zc Yir 50 [dyR y.t (y.b:Nat),dyR x.r (x.a:Nat)] (.int .i64 (X1 (Ze y.t) y.b (Ze x.r) x.a)):=by
 obtain⟨gr,gt,ha,hb,_,_⟩:=hx;obtain⟨gr',gt',ha',hb',_,_⟩:=hy;exact⟨U7 (gt.mono (by omega)) (gr'.mono (by omega)) (by omega) (by omega),U7 (gt'.mono (by omega)) (gr.mono (by omega)) (by omega) (by omega)⟩
end
structure Apart (p q:List Int) (x y:Iv) (n:Nat) (z:Int):Prop where
 no:∀ i,i<n->¬ X1 (Ze (J7 p x i).t) (J7 p x i).b (Ze (J7 q y i).r) (J7 q y i).a<=0/\¬ X1 (Ze (J7 q y i).t) (J7 q y i).b (Ze (J7 p x i).r) (J7 p x i).a<=0
 yes:(z = -1/\X1 (Ze (J7 p x n).t) (J7 p x n).b (Ze (J7 q y n).r) (J7 q y n).a<=0)\/(z=1/\¬ X1 (Ze (J7 p x n).t) (J7 p x n).b (Ze (J7 q y n).r) (J7 q y n).a<=0/\X1 (Ze (J7 q y n).t) (J7 q y n).b (Ze (J7 p x n).r) (J7 p x n).a<=0)
section
variable {p q:List Int} (hp:Zi0 p) (hq:Zi0 q) {C m:Nat} {x y:Iv} (hx:IvOk C m x) (hy:IvOk C m y)
include hp hq hx hy
theorem Zku {n:Nat} {z:Int} (hC:C+m+n+1<3000) (h:Apart p q x y n z) :
  Za Yir (.loop Zv3) (Zgq 0 (p.map cn) x.r (x.a:Nat) x.t (x.b:Nat) (q.map cn) y.r (y.a:Nat) y.t (y.b:Nat)) .ret
   (Zgq z (p.map cn) (J7 p x n).r ((J7 p x n).a:Nat) (J7 p x n).t ((J7 p x n).b:Nat) (q.map cn) (J7 q y n).r ((J7 q y n).a:Nat) (J7 q y n).t ((J7 q y n).b:Nat)):=by
 refine Za.upTo (prog:=Yir) (c:=Zv3) (ex := .ret) (fun i=>Zgq 0 (p.map cn) (J7 p x i).r ((J7 p x i).a:Nat) (J7 p x i).t ((J7 p x i).b:Nat) (q.map cn) (J7 q y i).r ((J7 q y i).a:Nat) (J7 q y i).t ((J7 q y i).b:Nat)) n (by nofun) ?_ 0 (Nat.zero_le _) ?_
 ·obtain⟨c1,c2⟩:=M4 (Wv (p:=p) hx n (by omega)) (Wv (p:=q) hy n (by omega)) (by omega);rcases h.yes with ⟨rfl,y1⟩ | ⟨rfl,y1,y2⟩
  ·exact Yk65_1 0 _ _ _ _ _ _ _ _ _ _ _ (decide_eq_true y1) c1
  ·exact Yk65_2 0 _ _ _ _ _ _ _ _ _ _ _ _ (decide_eq_false y1) (decide_eq_true y2) c1 c2
 ·intro t _ ht;obtain⟨c1,c2⟩:=M4 (Wv (p:=p) hx t (by omega)) (Wv (p:=q) hy t (by omega)) (by omega);obtain⟨n1,n2⟩:=h.no t ht;exact Yk65_3 0 _ _ _ _ _ _ _ _ _ _ _ _ _ _ _ _ _ _ _ _ _ _ (decide_eq_false n1) (decide_eq_false n2) c1 c2 (Mb hp (Wv (p:=p) hx t (by omega)) (by omega)) (Mb hq (Wv (p:=q) hy t (by omega)) (by omega))
theorem Zd7 {n:Nat} {z:Int} (hC:C+m+n+1<3000) (h1:¬ X1 (Ze x.t) x.b (Ze y.r) y.a<0) (h2:¬ X1 (Ze y.t) y.b (Ze x.r) x.a<0) (he:Zc Yir 100 [x.av p,y.av q] (.bool false)) (h:Apart p q x y n z):Zc Yir 65 [x.av p,y.av q] (.int .i64 z):=by
 obtain⟨c1,c2⟩:=M4 hx hy (by omega);exact Zl2 _ x.r x.t _ _ _ y.r y.t _ _ _ _ _ false _ _ _ _ _ _ _ _ _ _ (decide_eq_false h1) (decide_eq_false h2) rfl c1 c2 he (Zku hp hq hx hy hC h)
omit hp hq in
theorem Zqe (hm:m<=4096) (h1:¬ X1 (Ze x.t) x.b (Ze y.r) y.a<0) (h2:¬ X1 (Ze y.t) y.b (Ze x.r) x.a<0) (he:Zc Yir 100 [x.av p,y.av q] (.bool true)):Zc Yir 65 [x.av p,y.av q] (.int .i64 0):=by
 obtain⟨c1,c2⟩:=M4 hx hy hm;exact Zl3 _ x.r x.t _ _ _ y.r y.t _ _ _ _ true (decide_eq_false h1) (decide_eq_false h2) rfl c1 c2 he
end
theorem Zf8 {rs:List Rn} (hg:∀ r∈rs,Ji 5 r) (hn:rs.length<=9) {r t:Rn} (hr:Ji 100 r) (ht:Ji 100 t) {a b:Nat} (ha:a<=4096) (hb:b<=4096) :
  Zc Yir 129 [.sl rs.length (pc rs),dyR r (a:Nat),dyR t (b:Nat)] (.int .i64 (Zkt (Zf rs) (Ze r) a (Ze t) b)):=by
 have hch:=Dj hg hn;have hnice:=Gp hg hn;have hlen:=Dg hg hn;have x1:=X9 hnice hr a (by omega) (by omega);have x2:=X9 hnice ht b (by omega) (by omega);have k:=Zrm rs _ r t (a:Nat) (b:Nat) _ _ hch x1 x2;rw[Nn (by omega)] at k;exact k
theorem Nr {p q g:List Int} {x:Iv} {C m:Nat} (hx:IvOk C m x) (hm:m<=4096) (hlt:X1 (Ze x.r) x.a (Ze x.t) x.b = -1) (hg:Zc6 71 [.sl (p.map cn).length (pc (p.map cn)),.sl (q.map cn).length (pc (q.map cn))] g)
  (h5:1<g.length->(∀ r∈g.map cn,Ji 5 r)/\g.length<=9):Zc Yir 100 [x.av p,x.av q] (.bool (decide (1<g.length)&&decide (0<Zkt g (Ze x.r) x.a (Ze x.t) x.b))):=by
 obtain⟨gr,gt,ha,hb,_,_⟩:=hx;have hne:(X1 (Ze x.r) x.a (Ze x.t) x.b==0)=false:=by rw[hlt];rfl
 have e1:=Fe (p:=p) gr gt (a:=x.a) (b:=x.b) (by omega) (by omega);have e2:=Fe (p:=q) gr gt (a:=x.a) (b:=x.b) (by omega) (by omega);rw[hne] at e1 e2;have a1:=U7 (gr.mono (show 100<=200 by omega)) (gr.mono (show 100<=200 by omega)) (a:=x.a) (b:=x.a) (by omega) (by omega);have a2:=U7 (gt.mono (show 100<=200 by omega)) (gt.mono (show 100<=200 by omega)) (a:=x.b) (b:=x.b) (by omega) (by omega);have a3:=U7 (gr.mono (show 100<=200 by omega)) (gt.mono (show 100<=200 by omega)) (a:=x.a) (b:=x.b) (by omega) (by omega);rw[Zf7] at a1 a2;rw[hlt] at a3;by_cases c:1<g.length
 ·obtain⟨h6,h9⟩:=h5 c;have hc:=Zf8 h6 (by rw[List.length_map];exact h9) gr gt (a:=x.a) (b:=x.b) (by omega) (by omega);rw[Qa] at hc;rw[decide_eq_true c,Bool.true_and];rcases hg with hg | hg
  ·exact Ra _ x.r x.t _ _ _ x.r x.t _ _ (g.map cn) 0 0 (-1) _ false false rfl rfl rfl rfl rfl (by rw[decide_eq_true_eq,List.length_map];omega) e1 e2 a1 a2 a3 hg hc
  ·exact P8 _ x.r x.t _ _ _ x.r x.t _ _ (g.map cn) 0 0 (-1) _ false false rfl rfl rfl rfl rfl (by rw[decide_eq_true_eq,List.length_map];omega) e1 e2 a1 a2 a3 hg hc
 ·rw[decide_eq_false c,Bool.false_and];rcases hg with hg | hg
  ·exact P9 _ x.r x.t _ _ _ x.r x.t _ _ (g.map cn) 0 0 (-1) false false rfl rfl rfl rfl rfl (by rw[decide_eq_false_iff_not,List.length_map];omega) e1 e2 a1 a2 a3 hg
  ·exact P7 _ x.r x.t _ _ _ x.r x.t _ _ (g.map cn) 0 0 (-1) false false rfl rfl rfl rfl rfl (by rw[decide_eq_false_iff_not,List.length_map];omega) e1 e2 a1 a2 a3 hg
def Zwa (r:Rn) (e:Int):Bool:=decide (e>=0)&&decide (e<=64)&&decide (Bo (Ze r).natAbs<=128)
theorem Zf4 {r:Rn} {e:Int} (hr:Ji 100 r):Zc Yir 61 [dyR r e] (.bool (Zwa r e)):=by
 have hb:=Km (neg:=r.1) hr.1 (by have:=hr.2;omega);unfold Zwa;by_cases c1:e>=0
 ·by_cases c2:e<=64
  ·have k:=Zl8 r e _ (decide_eq_true c1) (decide_eq_true c2) hb;have ez:decide (((Bo (Ze r).natAbs:Nat):Int)<=128)=decide (Bo (Ze r).natAbs<=128):=decide_eq_decide.2 (by omega);rw[decide_eq_true c1,decide_eq_true c2];show Zc _ _ _ (.bool (decide (Bo (Ze r).natAbs<=128)));rw[<- ez];exact k
  ·rw[decide_eq_true c1,decide_eq_false c2];exact Zl7 r e (decide_eq_true c1) (decide_eq_false c2)
 ·rw[decide_eq_false c1];exact Zl6 r e (decide_eq_false c1)
def Iv.d (p:List Int) (x:Iv):Int:=Vd p (Ze x.r) x.a-Vd p (Ze x.t) x.b
def Iv.lf (x:Iv):Iv:=⟨x.r,x.a,cn x.mn,x.me⟩
def Iv.rg (x:Iv):Iv:=⟨cn x.mn,x.me,x.t,x.b⟩
def Ri (p:List Int):Nat->Iv->List Iv
 | 0,x=>if x.d p=0 then [] else [x]
 | n+1,x=>if x.d p=0 then [] else if x.d p=1 then [x] else Ri p n x.lf++Ri p n x.rg
def Deep (p:List Int) (E:Nat):Nat->Iv->Prop
 | 0,x=>x.d p=0\/x.d p=1
 | n+1,x=>x.d p=0\/x.d p=1\/(x.me<=E/\Deep p E n x.lf/\Deep p E n x.rg)
def Iv.rt (p:List Int) (x:Iv):Rt:=⟨p.map cn,x.r,(x.a:Nat),x.t,(x.b:Nat)⟩
theorem lf_ok {C m:Nat} {x:Iv} (h:IvOk C m x) (hC:C+m+1<3000):IvOk C (m+1) x.lf/\IvOk C (m+1) x.rg/\Ji 100 (cn x.mn)/\x.me<=m+1:=by
 obtain⟨gr,gt,ha,hb,vr,vt⟩:=h;have e2:x.me<=max x.a x.b+1:=Zey;have e3:x.mn.natAbs<=2^C*2^x.me:=Zez vr vt;have hf:Ji 100 (cn x.mn):=Q5 (Ug (k:=C+x.me) (by rw[Nat.pow_add];exact e3) (by omega));refine⟨⟨gr,hf,by show x.a<=_;omega,by show x.me<=_;omega,vr,by show (Ze (cn x.mn)).natAbs<=_;rw[Zv];exact e3⟩,⟨hf,gt,by show x.me<=_;omega,by show x.b<=_;omega,by show (Ze (cn x.mn)).natAbs<=_;rw[Zv];exact e3,vt⟩,hf,by omega⟩
theorem Zom {p:List Int} (hl:(Qz p).length<=10) (x:Int) (a:Nat):0<=Vd p x a/\Vd p x a<=10:=by
 have:=Gv (Qz p) x a (Qz p).length;unfold Vd;omega
section
variable {p:List Int} (hnice:∀ q∈Qz p,Nice q) (hlen:(Qz p).length<=10) (h1:0<(Qz p).length) (hfr:(Qz p).getD 0 []=Zq p) {E:Nat} (hE:E<=1000000)
include hnice hlen h1 hfr hE
theorem Zdo:∀ (n:Nat) (x:Iv) (C m:Nat),IvOk C m x->C+m+n+1<3000->Deep p E n x->(Ri p n x).length<=1000*1000 ->
  Zc Yir 97 [.sl (pps (Qz p)).length (pp (pps (Qz p))),dyR x.r (x.a:Nat),dyR x.t (x.b:Nat),.int .i64 (Vd p (Ze x.r) x.a),.int .i64 (Vd p (Ze x.t) x.b),.int .i64 (E:Nat)]
   (.frs (.tp true) 7 (Ri p n x).length (rts ((Ri p n x).map (Iv.rt (Zq p))))):=by
 intro n;induction n with
 | zero =>
  intro x C m hx hC hd _;have b1:=Zom hlen (Ze x.r) x.a;have b2:=Zom hlen (Ze x.t) x.b;have ew:i64.wrap (Vd p (Ze x.r) x.a-Vd p (Ze x.t) x.b)=Iv.d p x:=w64 (by omega) (by omega);simp only[Ri];rcases hd with hd | hd
  ·rw[if_pos hd];exact Za5 _ x.r x.t _ _ _ _ _ (by rw[ew,hd];rfl)
  ·rw[if_neg (by omega)];have k:=Za4 (pps (Qz p)) x.r x.t (x.a:Nat) (x.b:Nat) _ _ (E:Nat) (by rw[ew,hd];rfl) (by rw[ew,hd];rfl) (by rw[Ab];omega);rw[show Int.toNat 0=0 from rfl,Mj h1,hfr] at k;exact k
 | succ n ih =>
  intro x C m hx hC hd hL;have b1:=Zom hlen (Ze x.r) x.a;have b2:=Zom hlen (Ze x.t) x.b;have ew:i64.wrap (Vd p (Ze x.r) x.a-Vd p (Ze x.t) x.b)=Iv.d p x:=w64 (by omega) (by omega);simp only[Ri] at hL |-;by_cases c0:x.d p=0
  ·rw[if_pos c0];exact Za5 _ x.r x.t _ _ _ _ _ (by rw[ew,c0];rfl)
  ·rw[if_neg c0] at hL |-;by_cases c1:x.d p=1
   ·rw[if_pos c1];have k:=Za4 (pps (Qz p)) x.r x.t (x.a:Nat) (x.b:Nat) _ _ (E:Nat) (by rw[ew,c1];rfl) (by rw[ew,c1];rfl) (by rw[Ab];omega);rw[show Int.toNat 0=0 from rfl,Mj h1,hfr] at k;exact k
   ·rw[if_neg c1] at hL |-;rcases hd with hd | hd | ⟨d1,d2,d3⟩
    ·exact absurd hd c0
    ·exact absurd hd c1
    ·obtain⟨o1,o2,o3,o4⟩:=lf_ok hx (by omega);obtain⟨gr,gt,ha,hb,vr,vt⟩:=hx;rw[List.length_append] at hL;have k1:=ih x.lf C (m+1) o1 (by omega) d2 (by omega);have k2:=ih x.rg C (m+1) o2 (by omega) d3 (by omega);have hm:=Eh (gr.mono (show 100<=200 by omega)) (gt.mono (show 100<=200 by omega)) (a:=x.a) (b:=x.b) (by omega) (by omega);have hv:=X9 hnice o3 x.me (by omega) (by omega);rw[Zv] at hv;have e1:Vd p (Ze (cn x.mn)) x.me=Vd p x.mn x.me:=by rw[Zv]
     have f1:(x.lf).t=cn x.mn:=rfl;have f2:(x.rg).r=cn x.mn:=rfl;rw[f1,show x.lf.b=x.me from rfl,show x.lf.r=x.r from rfl,show x.lf.a=x.a from rfl,e1] at k1;rw[f2,show x.rg.a=x.me from rfl,show x.rg.t=x.t from rfl,show x.rg.b=x.b from rfl,e1] at k2;have k:=Zk5 (pps (Qz p)) x.r x.t (x.a:Nat) (x.b:Nat) _ _ (E:Nat) x.mn (x.me:Nat) _ true true _ _ _ _ (by rw[ew,beq_eq_false_iff_ne];exact c0) (by rw[ew,beq_eq_false_iff_ne];exact c1) (by rw[decide_eq_false_iff_not];omega) rfl (by rw[E6,List.length_map]) (by omega) hm hv k1 k2;rw[List.length_append,List.map_append,Fw];exact k
end
end Go.Proofs.Ythdpfjffdipipaa

namespace Go.Proofs.Ythdpfjffdipipaa
open Go.IntKind (i64 u64 u32)
open Go.Ai
set_option maxRecDepth 100000
theorem Zp6 {p:List Int} {C:Nat}:∀ (n:Nat) (x:Iv) (m:Nat),IvOk C m x->C+m+n+1<3000->∀ y∈Ri p n x,IvOk C (m+n) y:=by
 intro n;induction n with
 | zero =>
  intro x m hx _ y hy;simp only[Ri] at hy;split at hy
  ·cases hy
  ·rcases List.mem_cons.1 hy with rfl | hy
   ·exact hx
   ·cases hy
 | succ n ih =>
  intro x m hx hC y hy;have up:IvOk C (m+(n+1)) x:=⟨hx.gr,hx.gt,by have:=hx.a;omega,by have:=hx.b;omega,hx.vr,hx.vt⟩;simp only[Ri] at hy;split at hy
  ·cases hy
  ·split at hy
   ·rcases List.mem_cons.1 hy with rfl | hy
    ·exact up
    ·cases hy
   ·obtain⟨o1,o2,_,_⟩:=lf_ok hx (by omega);rcases List.mem_append.1 hy with hy | hy
    ·have:=ih x.lf (m+1) o1 (by omega) y hy;rwa [show m+1+n=m+(n+1) by omega] at this
    ·have:=ih x.rg (m+1) o2 (by omega) y hy;rwa [show m+1+n=m+(n+1) by omega] at this
theorem Am {p:List Int} {K:Nat} (h:Kb K p) (hK:K<=256) (hl:p.length<=17):Xl p=false:=by
 have ht:=Jj p;unfold Xl;rw[decide_eq_false (by omega),Bool.false_or,List.any_eq_false];intro x hx;have:=(h.trim.mem x hx).len;unfold Zwc;simp only[decide_eq_true_eq];omega
def Zan (p:List Int) (n:Nat) (x:Iv):List Iv:=if (Qz p).length<2 then [] else Ri p n x
def Iv.out (p:List Int) (x:Iv):Rt:=⟨p.map cn,cn (Ze x.r),(x.a:Nat),cn (Ze x.t),(x.b:Nat)⟩
theorem Ss {p:List Int} (h:0<(Qz p).length):(Qz p).getD 0 []=Zq p:=by
 unfold Qz at h |-;split at h
 ·simp at h
 ·rename_i g;rw[if_neg g];rfl
section
variable {rs:List Rn} (hg:∀ r∈rs,Ji 5 r) (hn:rs.length<=9)
include hg hn
theorem Zjo {n:Nat} {x:Iv} {C m:Nat} (hx:IvOk C m x) (hC:C+m+n+1<3000) {E:Nat} (hE:E<=1000000) (hd:Deep (Zf rs) E n x) (hL:(Ri (Zf rs) n x).length<=1000*1000) :
  Zc Yir 62 [.sl rs.length (pc rs),dyR x.r (x.a:Nat),dyR x.t (x.b:Nat),.int .i64 (E:Nat)] (.frs (.tp true) 7 ((Zan (Zf rs) n x).map (Iv.rt (Zq (Zf rs)))).length (rts ((Zan (Zf rs) n x).map (Iv.rt (Zq (Zf rs)))))) \/
  Zc Yir 62 [.sl rs.length (pc rs),dyR x.r (x.a:Nat),dyR x.t (x.b:Nat),.int .i64 (E:Nat)] (.tup [.sl ((Zan (Zf rs) n x).map (Iv.rt (Zq (Zf rs)))).length (rts ((Zan (Zf rs) n x).map (Iv.rt (Zq (Zf rs))))),.bool true]):=by
 have hch:=Dj hg hn;have hnice:=Gp hg hn;have hlen:=Dg hg hn;unfold Zan;by_cases c:(Qz (Zf rs)).length<2
 ·rw[if_pos c];exact .inl (Zl5 rs _ x.r x.t _ _ _ (by rw[decide_eq_true_eq,Ab];omega) hch)
 ·rw[if_neg c];have x1:=X9 hnice hx.gr x.a (by have:=hx.a;omega) (by omega);have x2:=X9 hnice hx.gt x.b (by have:=hx.b;omega) (by omega);have sp:=Zdo hnice hlen (by omega) (Ss (by omega)) hE n x C m hx hC hd hL;rw[List.length_map];exact .inr (Zl4 rs _ x.r x.t _ _ _ _ _ true _ _ (by rw[decide_eq_false_iff_not,Ab];omega) hch x1 x2 sp)
theorem Zqp (h0:Zj (Zf rs) ≠ []) (hl:Xl (Zf rs)=false) {n:Nat} {x:Iv} {C m:Nat} (hx:IvOk C m x) (hC:C+m+n+1<3000) (hd:Deep (Zf rs) 896 n x) (hL:(Ri (Zf rs) n x).length<=1000*1000)
  (e1:Zwa x.r (x.a:Nat)=true) (e2:Zwa x.t (x.b:Nat)=true) (hle:¬ X1 (Ze x.r) x.a (Ze x.t) x.b>0) :
  Zc Yir 22 [.sl rs.length (pc rs),dyR x.r (x.a:Nat),dyR x.t (x.b:Nat)] (.tup [.sl (Zan (Zf rs) n x).length (rts ((Zan (Zf rs) n x).map (Iv.out (Zq (Zf rs))))),.int .i64 0]):=by
 have s1:=F2 hg (by omega) (by omega);rw[hl] at s1;have dg:=Uy (fun r h=>(hg r h).mono (by omega)) (show rs.length<=1048576 by omega);have htl:=Xm (Zf rs);rw[Zu] at htl;have hpos:=List.length_pos_iff.2 h0;have y1:=Zf4 (e:=(x.a:Nat)) hx.gr;have y2:=Zf4 (e:=(x.b:Nat)) hx.gt;rw[e1] at y1;rw[e2] at y2;have cm:=U7 (hx.gr.mono (show 100<=200 by omega)) (hx.gt.mono (show 100<=200 by omega)) (a:=x.a) (b:=x.b) (by have:=hx.a;omega) (by have:=hx.b;omega);have ri:=Zjo hg hn hx hC (E:=896) (by omega) hd hL;obtain⟨k1,k2⟩:=Zam h0 (by rw[Zu];exact hn) (Ms (Xj hg));have lf:=(Be h0).1;have htl2:=Jj (Zf rs);rw[Zu] at htl2;have hsm:=F2 (rs:=(Zq (Zf rs)).map cn) (K:=8) (Ql k1) (by omega) (by rw[List.length_map];omega);rw[Qa,Am k1 (by omega) (by omega)] at hsm;have htr:=Wt (rs:=(Zq (Zf rs)).map cn) (fun r h=>(Ql k1 r h).mono (show 8<=1048576 by omega)) (by rw[List.length_map];omega);rw[Qa,lf] at htr;have hok:∀ y∈Zan (Zf rs) n x,IvOk C (m+n) y:=by
  unfold Zan;split
  ·intro y hy;cases hy
  ·exact Zp6 n x m hx hC
 have hlen:(Zan (Zf rs) n x).length<=1000*1000:=by unfold Zan;split <;> simp <;> omega
 generalize Zan (Zf rs) n x=L at *
 generalize hq:Zq (Zf rs)=q at *
 have step:∀ i,i<L.length->Za Yir Zv4 (Zda rs (L.map (Iv.rt q)) i (rts ((L.take i).map (Iv.out q))) ((L.map (Iv.rt q)).length:Nat) (i:Nat)) .norm (Zda rs (L.map (Iv.rt q)) (i+1) (rts ((L.take (i+1)).map (Iv.out q))) ((L.map (Iv.rt q)).length:Nat) ((i+1:Nat):Int)):=by
  intro i hi;have ei:i64.wrap ((i:Int)+1)=((i+1:Nat):Int):=by rw[w64 (by omega) (by omega)];omega
  have hy:=hok L[i] (List.getElem_mem hi);have eg:(L.map (Iv.rt q)).getD (Int.toNat (i:Int)) zR=Iv.rt q L[i]:=by
   rw[Int.toNat_natCast,List.getD_eq_getElem?_getD,List.getElem?_map,List.getElem?_eq_getElem hi];rfl
  have gr:=hy.gr;have gt:=hy.gt;have c1:=Zpq L[i].r (L[i].a:Nat) _ (Gu (neg:=L[i].r.1) gr.1 (by have:=gr.2;omega));have c2:=Zpq L[i].t (L[i].b:Nat) _ (Gu (neg:=L[i].t.1) gt.1 (by have:=gt.2;omega));have ro:=Yrun63 (q.map cn) L[i].r L[i].t (L[i].a:Nat) (L[i].b:Nat) _ _ _ _ _ (L6 htr) c1 c2;have k:=Yk22_1 rs (L.map (Iv.rt q)) i (rts ((L.take i).map (Iv.out q))) ((L.map (Iv.rt q)).length:Nat) (i:Nat) (q.map cn) (Ze L[i].r) (L[i].a:Nat) (Ze L[i].t) (L[i].b:Nat) true (by rw[decide_eq_true_eq,List.length_map];omega) rfl (by rw[List.length_map];omega) (by omega) (by rw[eg];exact hsm) (by rw[eg];exact ro);have et:rts ((L.take (i+1)).map (Iv.out q))=rts ((L.take i).map (Iv.out q))++([.sl (q.map cn).length (pc (q.map cn)),.bool ((cn (Ze L[i].r)).1),.sl ((cn (Ze L[i].r)).2.length) (lm (cn (Ze L[i].r)).2),.int .i64 (L[i].a:Nat),.bool ((cn (Ze L[i].t)).1),.sl ((cn (Ze L[i].t)).2.length) (lm (cn (Ze L[i].t)).2),.int .i64 (L[i].b:Nat)]:List AV):=by
   rw[List.take_succ_eq_append_getElem hi,List.map_append,Fw];rfl
  rw[ei] at k;rw[et];exact k
 have lp:=Za.up (prog:=Yir) (c:=Zv4) (ex := .exit 1) (fin:=Zda rs (L.map (Iv.rt q)) L.length (rts ((L.take L.length).map (Iv.out q))) ((L.map (Iv.rt q)).length:Nat) (L.length:Int))
  (fun i=>Zda rs (L.map (Iv.rt q)) i (rts ((L.take i).map (Iv.out q))) ((L.map (Iv.rt q)).length:Nat) (i:Nat)) L.length (by nofun) step (Yk22_3 _ _ _ _ _ _ (by rw[decide_eq_false_iff_not,List.length_map];omega)) 0 (Nat.zero_le _)
 rw[List.take_length] at lp;rcases ri with ri | ri
 ·exact Zcq rs x.r x.t _ _ _ _ _ true true true true (L.map (Iv.rt q)) _ _ rfl (by rw[decide_eq_false_iff_not];omega) rfl rfl (decide_eq_false hle) rfl s1 dg y1 y2 cm ri lp
 ·exact Zcp rs x.r x.t _ _ _ _ _ true true true true (L.map (Iv.rt q)) _ _ rfl (by rw[decide_eq_false_iff_not];omega) rfl rfl (decide_eq_false hle) rfl s1 dg y1 y2 cm ri lp
end
section
variable {rs ss:List Rn} (hg:∀ r∈rs,Ji 5 r) (hn:rs.length<=9) {x y:Iv} {C m:Nat} (hx:IvOk C m x)
include hg hn hx
theorem Zjb (hg2:∀ r∈ss,Ji 5 r) (hn2:ss.length<=9) (hy:IvOk C m y) (v1:Dm rs x.r (x.a:Nat) x.t (x.b:Nat)=true) (v2:Dm ss y.r (y.a:Nat) y.t (y.b:Nat)=true) {z:Int}
  (h:Zc Yir 65 [x.av (Zq (Zf rs)),y.av (Zq (Zf ss))] (.int .i64 z)) :
  Zc Yir 25 [rtA rs x.r (x.a:Nat) x.t (x.b:Nat),rtA ss y.r (y.a:Nat) y.t (y.b:Nat)] (.tup [.int .i64 z,.int .i64 0]):=by
 have g1:=Bq hg hn hx.gr hx.gt (x.a:Nat) (x.b:Nat);have g2:=Bq hg2 hn2 hy.gr hy.gt (y.a:Nat) (y.b:Nat);rw[v1] at g1;rw[v2] at g2;exact Zmn rs x.r x.t _ _ ss y.r y.t _ _ _ _ z true true rfl rfl g1 g2 (Mv hg hn x.r x.t _ _) (Mv hg2 hn2 y.r y.t _ _) h
theorem Zbg (v1:Dm rs x.r (x.a:Nat) x.t (x.b:Nat)=true) {k:Int} (hk:0<=k/\k<=64) {z:Int}
  (h:Zc Yir 67 [x.av (Zq (Zf rs)),.int .i64 k] (Zi z)) :
  Zc Yir 26 [rtA rs x.r (x.a:Nat) x.t (x.b:Nat),.int .i64 k] (.tup [Zi z,.int .i64 0]):=by
 have g1:=Bq hg hn hx.gr hx.gt (x.a:Nat) (x.b:Nat);rw[v1] at g1;exact Zmm rs x.r x.t _ _ k z _ true rfl (by rw[decide_eq_false_iff_not];omega) (by rw[decide_eq_false_iff_not];omega) g1 (Mv hg hn x.r x.t _ _) h
end
end Go.Proofs.Ythdpfjffdipipaa

namespace Go.Proofs.Ythdpfjffdipipaa
open Go.IntKind (i64 u64 u32)
open Go.Ai
set_option maxRecDepth 100000
theorem Zax (a b:Int):U6 a b=Wa (a-b):=by unfold U6 Wa; (repeat' split) <;> omega
theorem A8 {a b:Int}:U6 a b = -1↔a<b:=by unfold U6; (repeat' split) <;> omega
theorem Zgb {a b:Int}:U6 a b=0↔a=b:=by unfold U6; (repeat' split) <;> omega
theorem A9 {a b:Int}:U6 a b=1↔b<a:=by unfold U6; (repeat' split) <;> omega
def Sq (v:Int) (f:List Int):Prop:=∀ (m:Int) (c:Nat),0<=m->sgD f m c=U6 (m*m) (v*(2^c*2^c))
theorem Zor (v:Int):Sq v [-v,0,1]:=by
 intro m c _;rw[Zax];unfold sgD;congr 1;show -v*(2^c)^2+m*(0*(2^c)^1+m*(1*(2^c)^0+m*0))=_;generalize (2:Int)^c=q;grind
theorem Zdn {v:Int} (hv0:0<v):Sq v [-(v*v),0,0,0,1]:=by
 intro m c hm;rw[Zax];unfold sgD;have hq:=Qj c;have e:hv [-(v*v),0,0,0,1] m (2^c)=(m*m+v*(2^c*2^c))*(m*m-v*(2^c*2^c)):=by
  show -(v*v)*(2^c)^4+m*(0*(2^c)^3+m*(0*(2^c)^2+m*(0*(2^c)^1+m*(1*(2^c)^0+m*0))))=_;generalize (2:Int)^c=q;grind
 rw[e];have h1:=Int.mul_pos hv0 (Int.mul_pos hq hq);have h2:=Int.mul_nonneg hm hm;exact Fv (by omega) _
theorem sq_at {v:Int} {f:List Int} (h:Sq v f) {m:Int} (hm:0<=m) {e κ:Nat} {w:Int} (hw:m*2^κ=w*2^e):sgD f m e=U6 (w*w) (v*(2^κ*2^κ)):=by
 rw[h m e hm];have hK:=Qj κ;have hE:=Qj e;rw[<- Wr (Int.mul_pos hK hK),<- Wr (a:=w*w) (Int.mul_pos hE hE)];congr 1
 ·generalize (2:Int)^κ=K at *
  generalize (2:Int)^e=E at *
  grind
 ·generalize (2:Int)^κ=K at *
  generalize (2:Int)^e=E at *
  grind
theorem Zqk (x:Int) (a:Nat) (y:Int) (b:Nat):Zj5 x a y b*(2*(2^a*2^b))=(x*2^b+y*2^a)*2^Zbz x a y b:=by
 have hz:=B9 (max a b+1) (Ld x a y b);obtain⟨N,hN⟩:=G2 (max a b+1) (Ld x a y b);have hS:Ld x a y b=x*2^(max a b-a)+y*2^(max a b-b):=rfl;unfold Zj5 Zbz;generalize Ld x a y b=S at *
 generalize D3 S (max a b+1)=z at *
 have pz:=Qj z;have e:S / 2^z=N:=by rw[hN];exact Int.mul_ediv_cancel_left _ (by omega)
 rw[e];obtain⟨k,hk⟩:∃ k,max a b+1=z+k:=⟨max a b+1-z,by omega⟩;rw[show max a b+1-z=k by omega];have hz2:(2:Int)^z*2^k=2*2^max a b:=by rw[<- Int.pow_add,<- hk,Int.pow_succ,Int.mul_comm]
 have ea:(2:Int)^max a b=2^(max a b-a)*2^a:=by rw[<- Int.pow_add];congr 1;omega
 have eb:(2:Int)^max a b=2^(max a b-b)*2^b:=by rw[<- Int.pow_add];congr 1;omega
 generalize (2:Int)^max a b=M at *
 generalize (2:Int)^(max a b-a)=u at *
 generalize (2:Int)^(max a b-b)=v at *
 generalize (2:Int)^a=A at *
 generalize (2:Int)^b=B at *
 generalize (2:Int)^z=Z at *
 generalize (2:Int)^k=K at *
 apply Int.eq_of_mul_eq_mul_left (show Z ≠ 0 by omega);have e1:Z*(N*(2*(A*B)))=(x*u+y*v)*(2*(A*B)):=by rw[<- hS,hN];grind
 have e2:Z*((x*B+y*A)*K)=(x*B+y*A)*(2*M):=by rw[<- hz2];grind
 have e3:x*B*(2*M)=x*u*(2*(A*B)):=by rw[ea];grind
 have e4:y*A*(2*M)=y*v*(2*(A*B)):=by rw[eb];grind
 rw[e1,e2,Int.add_mul,Int.add_mul,e3,e4]
structure At (v:Int) (k:Nat) (i:Int) (x:Iv):Prop where
 lo:Ze x.r*2^k=2000*i*2^x.a
 hi:Ze x.t*2^k=2000*(i+1)*2^x.b
 lt:2000*i*(2000*i)<v*(2^k*2^k)
 le:v*(2^k*2^k)<=2000*(i+1)*(2000*(i+1))
 i0:0<=i
 i1:i<2^k
theorem At.pos {v k i x} (h:At v k i x):0<=Ze x.r/\0<Ze x.t/\Ze x.r*2^x.b<Ze x.t*2^x.a:=by
 have hK:=Qj k;have hA:=Qj x.a;have hB:=Qj x.b;have h1:=h.lo;have h2:=h.hi;have h0:=h.i0;refine⟨?_,?_,?_⟩
 ·apply Int.le_of_mul_le_mul_right (a:=2^k) _ hK;rw[h1,Int.zero_mul];exact Int.mul_nonneg (by omega) (Int.le_of_lt hA)
 ·apply Int.lt_of_mul_lt_mul_right (a:=2^k) _ (Int.le_of_lt hK);rw[h2,Int.zero_mul];exact Int.mul_pos (by omega) hB
 ·apply Int.lt_of_mul_lt_mul_right (a:=2^k) _ (Int.le_of_lt hK);have e1:Ze x.r*2^x.b*2^k=2000*i*(2^x.a*2^x.b):=by
   rw[Int.mul_right_comm,h1];grind
  have e2:Ze x.t*2^x.a*2^k=2000*(i+1)*(2^x.a*2^x.b):=by
   rw[Int.mul_right_comm,h2];grind
  rw[e1,e2];exact Int.mul_lt_mul_of_pos_right (by omega) (Int.mul_pos hA hB)
theorem At.ne {v k i x} (h:At v k i x):X1 (Ze x.r) x.a (Ze x.t) x.b ≠ 0:=by rw [M0.2 h.pos.2.2];decide
theorem At.sgHi {v k i x f} (hf:Sq v f) (h:At v k i x):sgD f (Ze x.t) x.b=U6 (2000*(i+1)*(2000*(i+1))) (v*(2^k*2^k)):=sq_at hf (Int.le_of_lt h.pos.2.1) h.hi
theorem At.step {v k i x f} (hf:Sq v f) (h:At v k i x):∃ j,At v (k+1) j (stp f x):=by
 have hK:=Qj k;have hA:=Qj x.a;have hB:=Qj x.b;have h1:=h.lo;have h2:=h.hi;have h0:=h.i0;obtain⟨m1,m2⟩:=Ap h.pos.2.2;have hv:=Zqk (Ze x.r) x.a (Ze x.t) x.b;have hm:x.mn*2^(k+1)=2000*(2*i+1)*2^x.me:=by
  apply Int.eq_of_mul_eq_mul_right (show (2:Int)^x.a*2^x.b ≠ 0 by have:=Int.mul_pos hA hB;omega);have e1:x.mn*2^(k+1)*(2^x.a*2^x.b)=x.mn*(2*(2^x.a*2^x.b))*2^k:=by rw[Int.pow_succ];grind
  rw[e1];unfold Iv.mn Iv.me;rw[hv];have e2:(Ze x.r*2^x.b+Ze x.t*2^x.a)*2^Zbz (Ze x.r) x.a (Ze x.t) x.b*2^k=(Ze x.r*2^k*2^x.b+Ze x.t*2^k*2^x.a)*2^Zbz (Ze x.r) x.a (Ze x.t) x.b:=by grind
  rw[e2,h1,h2];grind
 have hE:=Qj x.me;have hK1:=Qj (k+1);have hm0:0<=x.mn:=by
  apply Int.le_of_mul_le_mul_right (a:=2^(k+1)) _ hK1;rw[hm,Int.zero_mul];exact Int.mul_nonneg (by omega) (Int.le_of_lt hE)
 have sm:=sq_at hf hm0 hm;have sh:=h.sgHi hf;have eK:(2:Int)^(k+1)=2*2^k:=by rw[Int.pow_succ,Int.mul_comm]
 have hlt:=h.lt;have hle:=h.le;have hi1:=h.i1;have d1:¬ X1 x.mn x.me (Ze x.r) x.a<=0:=by rw[M1.2 (show Ze x.r*2^x.me<x.mn*2^x.a from m1)];decide
 have d2:¬ X1 x.mn x.me (Ze x.t) x.b>0:=by rw[M0.2 (show x.mn*2^x.b<Ze x.t*2^x.me from m2)];decide
 have sdE:Wc f (Ze x.r) x.a (Ze x.t) x.b x.mn x.me=if sgD f x.mn x.me=0 then 0 else if sgD f x.mn x.me=sgD f (Ze x.t) x.b then -1 else 1:=by
  unfold Wc;rw[if_neg d1,if_neg d2]
 unfold stp;rw[if_neg h.ne];have sq4:v*(2^(k+1)*2^(k+1))=4*(v*(2^k*2^k)):=by rw[eK];grind
 have ex:2000*(2*i)*(2000*(2*i))=4*(2000*i*(2000*i)):=by grind
 have ey:2000*(2*i+1+1)*(2000*(2*i+1+1))=4*(2000*(i+1)*(2000*(i+1))):=by grind
 have left:v*(2^(k+1)*2^(k+1))<=2000*(2*i+1)*(2000*(2*i+1))->At v (k+1) (2*i) ⟨x.r,x.a,cn x.mn,x.me⟩:=by
  intro g;refine⟨?_,?_,?_,?_,by omega,by omega⟩
  ·show Ze x.r*2^(k+1)=2000*(2*i)*2^x.a;rw[eK];grind
  ·show Ze (cn x.mn)*2^(k+1)=_;rw[Zv];exact hm
  ·rw[sq4,ex];omega
  ·exact g
 have right:2000*(2*i+1)*(2000*(2*i+1))<v*(2^(k+1)*2^(k+1))->At v (k+1) (2*i+1) ⟨cn x.mn,x.me,x.t,x.b⟩:=by
  intro g;refine⟨?_,?_,?_,?_,by omega,by omega⟩
  ·show Ze (cn x.mn)*2^(k+1)=_;rw[Zv];exact hm
  ·show Ze x.t*2^(k+1)=2000*(2*i+1+1)*2^x.b;rw[eK];grind
  ·exact g
  ·rw[sq4,ey];omega
 rcases Int.lt_trichotomy (2000*(2*i+1)*(2000*(2*i+1))) (v*(2^(k+1)*2^(k+1))) with g | g | g
 ·have s1:sgD f x.mn x.me = -1:=by rw[sm];exact A8.2 g
  have s2:sgD f (Ze x.t) x.b ≠ -1:=by
   rw[sh];intro q;have:=A8.1 q;omega
  have sd:Wc f (Ze x.r) x.a (Ze x.t) x.b x.mn x.me=1:=by rw[sdE,if_neg (by rw[s1];decide),if_neg (by rw[s1];exact fun q=>s2 q.symm)]
  rw[if_neg (by rw[sd];decide)];exact⟨_,right g⟩
 ·have s1:sgD f x.mn x.me=0:=by rw[sm];exact Zgb.2 g
  have sd:Wc f (Ze x.r) x.a (Ze x.t) x.b x.mn x.me=0:=by rw[sdE,if_pos s1]
  rw[if_pos (by rw[sd];decide)];exact⟨_,left (by omega)⟩
 ·have s1:sgD f x.mn x.me=1:=by rw[sm];exact A9.2 g
  have s2:sgD f (Ze x.t) x.b=1:=by
   rw[sh];apply A9.2;have h3:2000*(2*i+1)*(2000*(2*i+1))<=2000*(2*i+1+1)*(2000*(2*i+1+1)):=Int.mul_le_mul (by omega) (by omega) (by omega) (by omega);rw[ey] at h3;omega
  have sd:Wc f (Ze x.r) x.a (Ze x.t) x.b x.mn x.me = -1:=by rw[sdE,if_neg (by rw[s1];decide),if_pos (by rw[s1,s2])]
  rw[if_pos (by rw[sd];decide)];exact⟨_,left (by omega)⟩
theorem At.all {v i x f} (hf:Sq v f) (h:At v 0 i x):∀ n,∃ j,At v n j (J7 f x n)
 | 0=>⟨i,h⟩
 | n+1=>by
  obtain⟨j,hj⟩:=At.all hf h n;exact hj.step hf
theorem At.cmp {v w:Int} {k:Nat} {i j:Int} {x y:Iv} (h:At v k i x) (g:At w k j y):X1 (Ze x.t) x.b (Ze y.r) y.a<=0↔i+1<=j:=by
 have hK:=Qj k;have hA:=Qj y.a;have hB:=Qj x.b;have h1:=g.lo;have h2:=h.hi;have hAB:=Int.mul_pos hA hB;have e1:Ze x.t*2^y.a*2^k=2000*(i+1)*(2^y.a*2^x.b):=by rw[Int.mul_right_comm,h2];grind
 have e2:Ze y.r*2^x.b*2^k=2000*j*(2^y.a*2^x.b):=by rw[Int.mul_right_comm,h1];grind
 have key:X1 (Ze x.t) x.b (Ze y.r) y.a=U6 (2000*(i+1)) (2000*j):=by
  unfold X1;rw[<- Wr hK,e1,e2,Wr hAB]
 rw[key];unfold U6
 (repeat' split) <;> omega
theorem Zjf {x y:Int} (hx:0<=x) (hy:0<=y) (h:x*x<y*y):x<y:=by
 apply Int.not_le.1;intro g;have:=Int.mul_le_mul g g hy hx;omega
theorem At.le_of {v w:Int} {k:Nat} {i j:Int} {x y:Iv} (hvw:v<=w) (h:At v k i x) (g:At w k j y):i<=j:=by
 have hK:=Qj k;have h1:=h.lt;have h2:=g.le;have h3:=h.i0;have h4:=g.i0;have h5:=Int.mul_le_mul_of_nonneg_right hvw (Int.le_of_lt (Int.mul_pos hK hK));have:=Zjf (x:=2000*i) (y:=2000*(j+1)) (by omega) (by omega) (by omega);omega
theorem At.lt_of {v w:Int} {i j:Int} {x y:Iv} (hvw:v<w) (h:At v 23 i x) (g:At w 23 j y):i+1<=j:=by
 have h0:=h.le_of (Int.le_of_lt hvw) g;apply Classical.byContradiction;intro hn;have e:j=i:=by omega
 subst e;have h1:=h.lt;have h2:=g.le;have h3:=h.i1;have h4:=h.i0;have p23:(2:Int)^23=8388608:=by decide
 rw[p23] at *
 have e1:2000*(j+1)*(2000*(j+1))=2000*j*(2000*j)+(8000000*j+4000000):=by grind
 omega
theorem Zk0 {v w:Int} {p q:List Int} {x y:Iv} {i j:Int} (hp:Sq v p) (hq:Sq w q) (hx:At v 0 i x) (hy:At w 0 j y) (h:v<w):∃ n,n<=23/\Apart p q x y n (-1):=by
 rcases Wp (fun n=>decide (X1 (Ze (J7 p x n).t) (J7 p x n).b (Ze (J7 q y n).r) (J7 q y n).a<=0)) 24 24 0 rfl with g | ⟨n,_,h2,h3,h4⟩
 ·have g23:=g 23 (by omega) (by omega);obtain⟨i',hi⟩:=hx.all hp 23;obtain⟨j',hj⟩:=hy.all hq 23;rw[decide_eq_false_iff_not] at g23;exact absurd ((hi.cmp hj).2 (hi.lt_of h hj)) g23
 ·refine⟨n,by omega,fun t ht=>⟨?_,?_⟩,.inl ⟨rfl,of_decide_eq_true h3⟩⟩
  ·exact of_decide_eq_false (h4 t (by omega) ht)
  ·obtain⟨i',hi⟩:=hx.all hp t;obtain⟨j',hj⟩:=hy.all hq t;rw[hj.cmp hi];have:=hi.le_of (Int.le_of_lt h) hj;omega
theorem Zk1 {v w:Int} {p q:List Int} {x y:Iv} {i j:Int} (hp:Sq v p) (hq:Sq w q) (hx:At v 0 i x) (hy:At w 0 j y) (h:w<v):∃ n,n<=23/\Apart p q x y n 1:=by
 rcases Wp (fun n=>decide (X1 (Ze (J7 q y n).t) (J7 q y n).b (Ze (J7 p x n).r) (J7 p x n).a<=0)) 24 24 0 rfl with g | ⟨n,_,h2,h3,h4⟩
 ·have g23:=g 23 (by omega) (by omega);obtain⟨i',hi⟩:=hx.all hp 23;obtain⟨j',hj⟩:=hy.all hq 23;rw[decide_eq_false_iff_not] at g23;exact absurd ((hj.cmp hi).2 (hj.lt_of h hi)) g23
 ·have no:∀ t,¬ X1 (Ze (J7 p x t).t) (J7 p x t).b (Ze (J7 q y t).r) (J7 q y t).a<=0:=by
   intro t;obtain⟨i',hi⟩:=hx.all hp t;obtain⟨j',hj⟩:=hy.all hq t;rw[hi.cmp hj];have:=hj.le_of (Int.le_of_lt h) hi;omega
  exact⟨n,by omega,fun t ht=>⟨no t,of_decide_eq_false (h4 t (by omega) ht)⟩,.inr ⟨rfl,no n,of_decide_eq_true h3⟩⟩
theorem sc_at {m:Int} {b κ k:Nat} {w:Int} (h:m*2^κ=w*2^b):sc m b k=w*2^k / 2^κ:=by
 have hK:=Qj κ;have hB:=Qj b;unfold sc;rw[<- Int.mul_ediv_mul_of_pos_left (m*2^k) (2^b) hK,<- Int.mul_ediv_mul_of_pos_left (w*2^k) (2^κ) hB,Int.mul_comm (2^κ) (2^b)];congr 1;rw[Int.mul_right_comm,h];grind
theorem At.lo4 {v n i x} (h:At v n i x):x.lo 4=2000*i*16 / 2^n:=sc_at h.lo
theorem At.hi4 {v n i x} (h:At v n i x):x.hi 4=2000*(i+1)*16 / 2^n:=sc_at h.hi
theorem Zkj {v n i x f} (hf:Sq v f) (h:At v n i x) (hg:x.hi 4-x.lo 4=0\/x.hi 4-x.lo 4=1):0<=flo f x 4/\flo f x 4*flo f x 4<=256*v/\256*v<(flo f x 4+1)*(flo f x 4+1)/\flo f x 4<=32000:=by
 have hK:=Qj n;have hlo:=h.lo4;have hhi:=h.hi4;have a1:x.lo 4*2^n<=2000*i*16:=by rw[hlo];exact Int.ediv_mul_le _ (by omega)
 have a2:2000*i*16<(x.lo 4+1)*2^n:=by rw[hlo];exact Int.lt_ediv_add_one_mul_self _ hK
 have b1:x.hi 4*2^n<=2000*(i+1)*16:=by rw[hhi];exact Int.ediv_mul_le _ (by omega)
 have b2:2000*(i+1)*16<(x.hi 4+1)*2^n:=by rw[hhi];exact Int.lt_ediv_add_one_mul_self _ hK
 have h0:=h.i0;have hi1:=h.i1;have hlt:=h.lt;have hle:=h.le;have L0:0<=x.lo 4:=by rw[hlo];exact Int.ediv_nonneg (by omega) (Int.le_of_lt hK)
 have hi32:x.hi 4<=32000:=by
  have:x.hi 4*2^n<=32000*2^n:=by omega
  exact Int.le_of_mul_le_mul_right this hK
 have sh:=h.sgHi hf;have hKK:=Int.mul_pos hK hK;have L2:x.lo 4*x.lo 4<=256*v:=by
  apply Int.le_of_mul_le_mul_right (a:=2^n*2^n) _ hKK;have e1:=Int.mul_le_mul a1 a1 (Int.mul_nonneg L0 (Int.le_of_lt hK)) (by omega);have e2:x.lo 4*x.lo 4*(2^n*2^n)=x.lo 4*2^n*(x.lo 4*2^n):=by grind
  have e3:2000*i*16*(2000*i*16)=256*(2000*i*(2000*i)):=by grind
  have e4:256*v*(2^n*2^n)=256*(v*(2^n*2^n)):=by grind
  omega
 have H2:256*v<(x.hi 4+1)*(x.hi 4+1):=by
  apply Int.lt_of_mul_lt_mul_right (a:=2^n*2^n) _ (Int.le_of_lt hKK);have hh:0<=x.hi 4:=by omega
  have e1:2000*(i+1)*16*(2000*(i+1)*16)<(x.hi 4+1)*2^n*((x.hi 4+1)*2^n):=Int.mul_lt_mul b2 (Int.le_of_lt b2) (by omega) (by omega);have e2:(x.hi 4+1)*(x.hi 4+1)*(2^n*2^n)=(x.hi 4+1)*2^n*((x.hi 4+1)*2^n):=by grind
  have e3:2000*(i+1)*16*(2000*(i+1)*16)=256*(2000*(i+1)*(2000*(i+1))):=by grind
  have e4:256*v*(2^n*2^n)=256*(v*(2^n*2^n)):=by grind
  omega
 unfold flo;rcases hg with hg | hg
 ·rw[if_pos (by omega)];refine⟨L0,L2,?_,by omega⟩;rw[show x.lo 4=x.hi 4 by omega];exact H2
 ·rw[if_neg (by omega)];generalize hH:x.hi 4=H at *
  have eL:x.lo 4=H-1:=by omega
  rw[eL] at a1 a2 L0 L2 |-;have hH0:0<=H:=by omega
  have sH:sgD f H 4=U6 (H*H) (v*(2^4*2^4)):=hf H 4 hH0;have e256:v*((2:Int)^4*2^4)=256*v:=by rw[show (2:Int)^4*2^4=256 by decide,Int.mul_comm]
  rw[e256] at sH;have hA:=Qj x.a;have hB:=Qj x.b;have p4:(2:Int)^4=16:=by decide
  have h1:=h.lo;have h2:=h.hi;have d1:¬ X1 H 4 (Ze x.r) x.a<=0:=by
   have:X1 H 4 (Ze x.r) x.a=1:=by
    apply M1.2;apply Int.lt_of_mul_lt_mul_right (a:=2^n) _ (Int.le_of_lt hK);have e1:Ze x.r*2^4*2^n=2000*i*16*2^x.a:=by rw[Int.mul_right_comm,h1,p4];grind
    have e2:H*2^x.a*2^n=(H-1+1)*2^n*2^x.a:=by grind
    rw[e1,e2];exact Int.mul_lt_mul_of_pos_right a2 hA
   rw[this];decide
  have d2:¬ X1 H 4 (Ze x.t) x.b>0:=by
   have:H*2^x.b<=Ze x.t*2^4:=by
    apply Int.le_of_mul_le_mul_right (a:=2^n) _ hK;have e1:Ze x.t*2^4*2^n=2000*(i+1)*16*2^x.b:=by rw[Int.mul_right_comm,h2,p4];grind
    have e2:H*2^x.b*2^n=H*2^n*2^x.b:=by grind
    rw[e1,e2];exact Int.mul_le_mul_of_nonneg_right b1 (Int.le_of_lt hB)
   intro g;have hd:=Zgc (H*2^x.b) (Ze x.t*2^4);have e1:X1 H 4 (Ze x.t) x.b=1:=by
    unfold X1 at g |-;omega
   have:=M1.1 e1;omega
  have sdE:Wc f (Ze x.r) x.a (Ze x.t) x.b H 4=if sgD f H 4=0 then 0 else if sgD f H 4=sgD f (Ze x.t) x.b then -1 else 1:=by
   unfold Wc;rw[if_neg d1,if_neg d2]
  rcases Int.lt_trichotomy (H*H) (256*v) with g | g | g
  ·have s1:sgD f H 4 = -1:=by rw[sH];exact A8.2 g
   have s2:sgD f (Ze x.t) x.b ≠ -1:=by
    rw[sh];intro q;have:=A8.1 q;omega
   have sd:Wc f (Ze x.r) x.a (Ze x.t) x.b H 4=1:=by rw[sdE,if_neg (by rw[s1];decide),if_neg (by rw[s1];exact fun q=>s2 q.symm)]
   rw[if_pos (by rw[sd];decide)];exact⟨hH0,by omega,H2,hi32⟩
  ·have s1:sgD f H 4=0:=by rw[sH];exact Zgb.2 g
   have sd:Wc f (Ze x.r) x.a (Ze x.t) x.b H 4=0:=by rw[sdE,if_pos s1]
   rw[if_pos (by rw[sd];decide)];exact⟨hH0,by omega,H2,hi32⟩
  ·have s1:sgD f H 4=1:=by rw[sH];exact A9.2 g
   have s2:sgD f (Ze x.t) x.b=1:=by
    rw[sh];apply A9.2;have e1:H*2^n*(H*2^n)<=2000*(i+1)*16*(2000*(i+1)*16):=Int.mul_le_mul b1 b1 (Int.mul_nonneg hH0 (Int.le_of_lt hK)) (by omega);have e3:2000*(i+1)*16*(2000*(i+1)*16)=256*(2000*(i+1)*(2000*(i+1))):=by grind
    have e5:=Int.mul_lt_mul_of_pos_right g hKK;have e4:256*v*(2^n*2^n)=256*(v*(2^n*2^n)):=by grind
    have e6:H*H*(2^n*2^n)=H*2^n*(H*2^n):=by grind
    omega
   have sd:Wc f (Ze x.r) x.a (Ze x.t) x.b H 4 = -1:=by rw[sdE,if_neg (by rw[s1];decide),if_pos (by rw[s1,s2])]
   rw[if_neg (by rw[sd];decide)];refine⟨L0,L2,?_,by omega⟩;rw[show H-1+1=H by omega];exact g
theorem Zb3 {v i x f} (hf:Sq v f) (h:At v 0 i x):∃ n,n<=15/\(∀ t,t<n->2<=(J7 f x t).hi 4-(J7 f x t).lo 4)/\((J7 f x n).hi 4-(J7 f x n).lo 4=0\/(J7 f x n).hi 4-(J7 f x n).lo 4=1):=by
 have nn:∀ n,0<=(J7 f x n).hi 4-(J7 f x n).lo 4:=by
  intro n;obtain⟨j,hj⟩:=h.all hf n;rw[hj.hi4,hj.lo4];have:=Int.ediv_le_ediv (a:=2000*j*16) (b:=2000*(j+1)*16) (Qj n) (by omega);omega
 rcases Wp (fun n=>decide ((J7 f x n).hi 4-(J7 f x n).lo 4<=1)) 16 16 0 rfl with g | ⟨n,_,h2,h3,h4⟩
 ·have g15:=of_decide_eq_false (g 15 (by omega) (by omega));exfalso;apply g15;obtain⟨j,hj⟩:=h.all hf 15;rw[hj.hi4,hj.lo4,show (2:Int)^15=32768 by decide];omega
 ·refine⟨n,by omega,fun t ht => ?_,?_⟩
  ·have:=of_decide_eq_false (h4 t (by omega) ht);omega
  ·have:=of_decide_eq_true h3;have:=nn n;omega
def pS (a:Int):List Int:=[-a,0,1]
def pQ (b:Int):List Int:=[-(b*b),0,0,0,1]
theorem Zej (a:Int):Z8 (pS a)=[0,2]:=by
 show Z8 [-a,0,1]=_;rfl
theorem Zek (b:Int):Z8 (pQ b)=[0,0,0,4]:=by
 show Z8 [-(b*b),0,0,0,1]=_;rfl
theorem Av (a:Int):Xw (pS a):=Aw (.inr (by show (1:Int) ≠ 0;decide))
theorem Se (b:Int):Xw (pQ b):=Aw (.inr (by show (1:Int) ≠ 0;decide))
theorem A7 (x:Int) (l:List Int) (h:Qy l=1):Qy (x::l)=1:=by simp [Qy,h]
theorem Zab {f:List Int} (lf:Xw f) (cf:Qy f=1) (tf:0<top f) (h:IsG [1] f (Z8 f)):Zq f=f:=by
 apply Zbv lf cf tf;have e:=(Vn f (Z8 f)).length h (by rw[Un];exact Kw (by rw[lf];intro g;rw[g] at tf;exact absurd tf (by decide)));rw[Un] at e;rw[e];decide
theorem Zfm {a:Int} (ha:0<a):Zq (pS a)=pS a:=by
 refine Zab (Av a) (A7 _ _ (by decide)) (by show (0:Int)<1;decide) ⟨Ns _,Ns _,2*a,[-2],[0,1],by omega,fun x => ?_⟩;rw[Zej];simp only[Zd,pS];grind
theorem Zfn {b:Int} (hb:0<b):Zq (pQ b)=pQ b:=by
 refine Zab (Se b) (A7 _ _ (by decide)) (by show (0:Int)<1;decide) ⟨Ns _,Ns _,4*(b*b),[-4],[0,1],by have:=Int.mul_pos hb hb;omega,fun x => ?_⟩;rw[Zek];simp only[Zd,pQ];grind
theorem Zp4 {a:Int} (ha:0<a):Uj (pS a) [0,1]=[-1]:=by
 have e:∀ i,(Kf (pS a) [0,1] ((top [0,1]).natAbs:Int) (sg (top [0,1])*top (pS a)) (pS a).length).getD i 0=a*([-1,0,0]:List Int).getD i 0:=by
  intro i;have el:Kf (pS a) [0,1] ((top [0,1]).natAbs:Int) (sg (top [0,1])*top (pS a)) (pS a).length=[1 * -a,1*0-1*1*0,1*1-1*1*1]:=rfl;rw[el];match i with
  | 0=>show 1 * -a=a * -1;omega
  | 1=>show (1*0-1*1*0:Int)=a*0;omega
  | 2=>show (1*1-1*1*1:Int)=a*0;omega
  | i+3=>show (0:Int)=a*0;omega
 unfold Uj;rw[Gc ha e];decide
theorem Zp5 {b:Int} (hb:0<b):Uj (pQ b) [0,0,0,1]=[-1]:=by
 have e:∀ i,(Kf (pQ b) [0,0,0,1] ((top [0,0,0,1]).natAbs:Int) (sg (top [0,0,0,1])*top (pQ b)) (pQ b).length).getD i 0=(b*b)*([-1,0,0,0,0]:List Int).getD i 0:=by
  intro i;have el:Kf (pQ b) [0,0,0,1] ((top [0,0,0,1]).natAbs:Int) (sg (top [0,0,0,1])*top (pQ b)) (pQ b).length=[1 * -(b*b),1*0-1*1*0,1*0-1*1*0,1*0-1*1*0,1*1-1*1*1]:=rfl;rw[el];match i with
  | 0=>show 1 * -(b*b)=b*b * -1;omega
  | 1=>show (1*0-1*1*0:Int)=b*b*0;omega
  | 2=>show (1*0-1*1*0:Int)=b*b*0;omega
  | 3=>show (1*0-1*1*0:Int)=b*b*0;omega
  | 4=>show (1*1-1*1*1:Int)=b*b*0;omega
  | i+5=>show (0:Int)=b*b*0;omega
 unfold Uj;rw[Gc (Int.mul_pos hb hb) e];decide
theorem Zo9 {a:Int} (ha:0<a):Gm (pS a)=[pS a,[0,1],[1]]:=by
 unfold Gm;rw[Zfm ha,if_neg (by unfold pS;simp),Zej];have e:Qs (pS a) [0,1]=[-1]:=by
  show Ul 3 (pS a) [0,1]=_;rw[Ul,if_pos (by show 2<=3;decide),Zp4 ha];decide
 show pS a::chn 3 (pS a) [0,1]=_;rw[chn,if_neg (by decide),e];have e2:chn 2 [0,1] (Xz [-1])=[[1]]:=by decide
 rw[e2]
theorem Zpa {b:Int} (hb:0<b):Gm (pQ b)=[pQ b,[0,0,0,1],[1]]:=by
 unfold Gm;rw[Zfn hb,if_neg (by unfold pQ;simp),Zek];have e:Qs (pQ b) [0,0,0,1]=[-1]:=by
  show Ul 5 (pQ b) [0,0,0,1]=_;rw[Ul,if_pos (by show 4<=5;decide),Zp5 hb];decide
 show pQ b::chn 5 (pQ b) [0,0,0,1]=_;rw[chn,if_neg (by decide),e];have e2:chn 4 [0,0,0,1] (Xz [-1])=[[1]]:=by decide
 rw[e2]
theorem Zp0 {f g:List Int} {v:Int} (hf:Sq v f) (hv0:0<v) (h4:v<4000000) (hc:Gm f=[f,g,[1]]) (g0:sgD g 0 0=0) (g1:sgD g 2000 0=1):Vd f 0 0=1/\Vd f 2000 0=0:=by
 have s0:=hf 0 0 (by decide);have s1:=hf 2000 0 (by decide);have e0:sgD f 0 0 = -1:=by rw[s0,A8];simp;omega
 have e1:sgD f 2000 0=1:=by rw[s1,A9];simp;omega
 have o0:sgD [1] 0 0=1:=by decide
 have o1:sgD [1] 2000 0=1:=by decide
 rw[Zdq] at g0 g1 e0 e1 o0 o1;rw[E2,E2,hc];simp only[sgs,List.map_cons,List.map_nil];rw[g0,g1,e0,e1,o0,o1];exact⟨by decide,by decide⟩
end Go.Proofs.Ythdpfjffdipipaa

namespace Go.Proofs.Ythdpfjffdipipaa
open Go.IntKind (i64 u64 u32)
open Go.Ai
set_option maxRecDepth 100000
theorem T2 {xs:List Int} (hb:∀ x∈xs,-9223372036854775808<=x/\x<=9223372036854775807) (hn:xs.length<=1000):Zc Yir 23 [.sl xs.length (li xs)] (.fresh 2 ((Zj xs).map cn).length (pc ((Zj xs).map cn))):=by
 have hx:∀ i,-9223372036854775808<=xs.getD i 0/\xs.getD i 0<=9223372036854775807:=by
  intro i;rcases Nat.lt_or_ge i xs.length with h | h
  ·rw[List.getD_eq_getElem?_getD,List.getElem?_eq_getElem h];exact hb _ (List.getElem_mem h)
  ·rw[Qi h];decide
 have h:=Za.up (prog:=Yir) (c:=Yc23) (ex := .exit 0) (fin:=Zpp xs xs.length (pc ((List.range xs.length).map fun j=>cn (xs.getD j 0))) (xs.length:Nat))
  (fun i=>Zpp xs i (pc ((List.range i).map fun j=>cn (xs.getD j 0))) (i:Nat)) xs.length (by nofun) ?_ ?_ 0 (Nat.zero_le _)
 ·have hgo:∀ r∈(List.range xs.length).map (fun j=>cn (xs.getD j 0)),Ji 1048576 r:=L5 fun j _=>(Q5 (Mw (hx j))).mono (by omega);have ht:=Zd8 hgo (by rw[List.length_map,List.length_range];omega);have e:Zj (Zf ((List.range xs.length).map (fun j=>cn (xs.getD j 0))))=Zj xs:=by
   apply V2;intro i;rw[Fq,Zv];split
   ·rfl
   ·rw[Qi (by omega)]
  rw[e,List.length_map,List.length_range] at ht;have hpk:pk (Zj xs)=pc ((Zj xs).map cn):=rfl;rw[hpk] at ht;have el:(Zj xs).length=((Zj xs).map cn).length:=(List.length_map ..).symm;rw[el] at ht;exact Yrun23 xs _ _ _ _ h ht
 ·intro i hi;have ei:i64.wrap ((i:Int)+1)=((i+1:Nat):Int):=by rw[w64 (by omega) (by omega)];omega
  have k:=Yk23_1 xs i (pc ((List.range i).map fun j=>cn (xs.getD j 0))) (i:Nat) (by simp;omega) (by omega) (by omega) (Zeq (hx _));refine k.to rfl ?_;rw[ei,<- R8 (fun j=>xs.getD j 0) i,Int.toNat_natCast]
 ·exact Yk23_2 xs _ _ _ (by simp)
theorem We (c:Int) (p:List Int):(Zw c p).length=p.length:=by simp [Zw]
theorem Zqz {g p:List Int} (lg:Xw g) (lp:Xw p) (h:Dv g p) (hl:g.length=p.length) (h0:p ≠ []):∃ c d:Int,c ≠ 0/\d ≠ 0/\∀ x,c*Zd p x=d*Zd g x:=by
 obtain⟨c,k,hc,hk⟩:=h;have hg0:g ≠ []:=by intro e;rw[e] at hl;exact h0 (List.length_eq_zero_iff.1 hl.symm)
 have hgt:Zj g ≠ []:=by rw[lg];exact hg0
 have e:Zj (Zw c p)=Zj (Xx g k):=Um fun x=>by rw[Zm,Z1,hk x]
 rw[Wk hc lp] at e;have hk0:Zj k ≠ []:=by
  intro z;have hz:∀ x,Zd (Zw c p) x=Zd [] x:=by
   intro x;rw[Zm,hk x,<- Vs k,z];simp[Zd]
  have:=Um hz;rw[Wk hc lp] at this;have h1:(Zw c p).length=0:=by rw[this];rfl
  rw[We] at h1;exact h0 (List.length_eq_zero_iff.1 h1)
 have hm:=Ad hgt hk0;rw[<- e,lg] at hm;have h1:(Zw c p).length=p.length:=We c p;have hpos:=List.length_pos_iff.2 hg0;have hkp:=List.length_pos_iff.2 hk0;obtain⟨d,hd⟩:=Sa (g:=Zj k) (by omega);refine⟨c,d,hc,?_,fun x => ?_⟩
 ·intro z;have:=U3 (Ky k) hk0;rw[hd,z] at this;exact this rfl
 ·rw[hk x,<- Vs k,hd];simp only[Zd];grind
theorem Zp8 {p g:List Int} (lp:Xw p) (lg:Xw g) (cp:Qy p=1) (cg:Qy g=1) (tp:0<top p) (tg:0<top g) {c d:Int} (hc:c ≠ 0) (hd:d ≠ 0) (h:∀ x,c*Zd p x=d*Zd g x):p=g:=by
 have e:Zw c p=Zw d g:=by
  have:=Um (p:=Zw c p) (q:=Zw d g) fun x=>by rw[Zm,Zm,h x]
  rwa [Wk hc lp,Wk hd lg] at this
 have hl:p.length=g.length:=by rw[<- We c p,e,We]
 have hn:c.natAbs=d.natAbs:=by
  have h1:=Vt c p;have h2:=Vt d g;rw[e,h2,cp,cg] at h1;omega
 have ht:c*top p=d*top g:=by
  have h1:top (Zw c p)=c*top p:=by unfold top;rw[Z2,We]
  have h2:top (Zw d g)=d*top g:=by unfold top;rw[Z2,We]
  rw[<- h1,e,h2]
 have hcd:c=d:=by
  rcases Int.lt_trichotomy c 0 with a | a | a
  ·have:=Int.mul_neg_of_neg_of_pos a tp;rcases Int.lt_trichotomy d 0 with b | b | b
   ·omega
   ·exact absurd b hd
   ·have:=Int.mul_pos b tg;omega
  ·exact absurd a hc
  ·have:=Int.mul_pos a tp;rcases Int.lt_trichotomy d 0 with b | b | b
   ·have:=Int.mul_neg_of_neg_of_pos b tg;omega
   ·exact absurd b hd
   ·omega
 subst hcd;apply W0 hl;intro i;have h1:=Z2 c p i;rw[e,Z2] at h1;exact (Int.eq_of_mul_eq_mul_left hc h1).symm
theorem Zqh {p q:List Int} (lp:Xw p) (cp:Qy p=1) (tp:0<top p) (h:Dv p q):V1 p q=p:=by
 have hp0:p ≠ []:=by intro e;rw[e] at tp;exact absurd tp (by decide)
 have hpt:Zj p ≠ []:=by rw[lp];exact hp0
 have hG:=Vn p q;have d1:=hG.dv (Dv.refl p) h;have hc0:V1 p q ≠ []:=Kw hpt;have lc:=Un p q;have l1:=(d1.length (by rw[lc];exact hc0)).1;have l2:=(hG.1.length hpt).1;rw[lp,lc] at l1 l2;obtain⟨c,d,hc,hd,he⟩:=Zqz lc lp hG.1 (by omega) hp0;exact (Zp8 lp lc cp (Pn hpt) tp (N9 hpt) hc hd he).symm
theorem Zj1 {p q:List Int} (lp:Xw p) (hp:p ≠ []) (h:IsG [1] p q):(V1 p q).length=1:=by
 have e:=(Vn p q).length h (by rw[Un];exact Kw (by rw[lp];exact hp));rwa [Un] at e
theorem Zo8 {a b:Int} (h:a ≠ b) (ha:0<a) (hb:0<b):(V1 (pS a) (pQ b)).length=1:=by
 refine Zj1 (Av a) (by unfold pS;simp) ⟨Ns _,Ns _,a*a-b*b,[-a,0,-1],[1],?_,fun x => ?_⟩
 ·intro z;have e:a*a-b*b=(a-b)*(a+b):=by grind
  rw[e] at z;rcases Int.mul_eq_zero.1 z with g | g <;> omega
 ·simp only[Zd,pS,pQ];grind
theorem com_eq {a:Int}:V1 (pS a) (pQ a)=pS a :=
 Zqh (Av a) (A7 _ _ (by decide)) (by show (0:Int)<1;decide) (Zf5 (pS a) [a,0,1] fun x=>by simp only[Zd,pS,pQ];grind)
theorem Sd {n:Nat} (h0:n ≠ 0) (h:n<4294967296):Zb n=[(n:Int)]:=by
 unfold Zb;rw[G7,if_neg h0,Nat.div_eq_of_lt h,Nat.mod_eq_of_lt h];cases n with
 | zero=>exact absurd rfl h0
 | succ n=>rw[G7,if_pos rfl]
def iv0:Iv:=⟨cn 0,0,cn 2000,0⟩
theorem Wl:IvOk 11 0 iv0:=⟨Q5 (Ug (k:=11) (by decide) (by decide)),Q5 (Ug (k:=11) (by decide) (by decide)),Nat.le_refl _,Nat.le_refl _,by show (Ze (cn 0)).natAbs<=_;rw [Zv];decide,by show (Ze (cn 2000)).natAbs<=_;rw [Zv];decide⟩
theorem Zfe {v:Int} (h0:0<v) (h1:v<=1048576):At v 0 0 iv0:=by
 refine⟨?_,?_,?_,?_,Int.le_refl _,by decide⟩
 ·show Ze (cn 0)*2^0=_;rw[Zv];decide
 ·show Ze (cn 2000)*2^0=_;rw[Zv];decide
 ·simp;omega
 ·simp;omega
structure Fit (v:Int) (f:List Int):Prop where
 sq:Sq v f
 lead:Xw f
 free:Zq f=f
 kb:Kb 2 f
 len:3<=f.length/\f.length<=9
 ch:(Gm f).length=3
 V:Vd f 0 0=1/\Vd f 2000 0=0
section
variable {v:Int} {f:List Int} (h:Fit v f)
include h
theorem Fit.good:∀ r∈f.map cn,Ji 5 r:=fun r hr=>(Ql h.kb r hr).mono (by omega)
theorem Fit.l9:(f.map cn).length<=9:=by rw [List.length_map];exact h.len.2
theorem Fit.fine:Zi0 f:=⟨h.kb.mono (by omega),h.len.2⟩
theorem Fit.d:iv0.d (Zf (f.map cn))=1:=by
 rw[Qa];show Vd f (Ze (cn 0)) 0-Vd f (Ze (cn 2000)) 0=1;rw[Zv,Zv,h.V.1,h.V.2];decide
theorem Fit.iso:Zc Yir 22 [.sl (f.map cn).length (pc (f.map cn)),dyR (cn 0) 0,dyR (cn 2000) 0] (.tup [.sl 1 [.sl (f.map cn).length (pc (f.map cn)),.bool (cn 0).1,.sl (cn 0).2.length (lm (cn 0).2),.int .i64 0,.bool (cn 2000).1,.sl (cn 2000).2.length (lm (cn 2000).2),.int .i64 0],.int .i64 0]):=by
 have e:Zan (Zf (f.map cn)) 0 iv0=[iv0]:=by
  unfold Zan;rw[if_neg (by rw[Qa,Gq,h.ch];decide)];simp only[Ri];rw[if_neg (by rw[h.d];decide)]
 have es:Ri (Zf (f.map cn)) 0 iv0=[iv0]:=by
  simp only[Ri];rw[if_neg (by rw[h.d];decide)]
 have k:=Zqp h.good h.l9 (by rw[Qa,h.lead];intro g;have:=h.len.1;rw[g] at this;exact absurd this (by decide)) (by rw[Qa];exact Am h.kb (by omega) (by have:=h.len.2;omega)) (n:=0) Wl (by decide) (.inr h.d) (by rw[es];decide) (by show Zwa (cn 0) 0=true;decide) (by show Zwa (cn 2000) 0=true;decide) (by show ¬ X1 (Ze (cn 0)) 0 (Ze (cn 2000)) 0>0;rw[Zv,Zv];decide);rw[e,Qa,h.free] at k;have eo:rts ([iv0].map (Iv.out f))=[.sl (f.map cn).length (pc (f.map cn)),.bool (cn 0).1,.sl (cn 0).2.length (lm (cn 0).2),.int .i64 0,.bool (cn 2000).1,.sl (cn 2000).2.length (lm (cn 2000).2),.int .i64 0]:=by
  have e1:Iv.out f iv0=⟨f.map cn,cn 0,0,cn 2000,0⟩:=by
   show (⟨f.map cn,cn (Ze (cn 0)),0,cn (Ze (cn 2000)),0⟩:Rt)=_;rw[Zv,Zv]
  rw[List.map_cons,List.map_nil,e1];rfl
 rw[eo] at k;exact k
theorem Fit.valid:Dm (f.map cn) iv0.r (iv0.a:Nat) iv0.t (iv0.b:Nat)=true:=by
 show Dm (f.map cn) (cn 0) 0 (cn 2000) 0=true;unfold Dm;have hd:=h.d;rw[Qa] at hd |-;have hc:Zkt f (Ze (cn 0)) 0 (Ze (cn 2000)) 0=1:=hd;have e1:X1 (Ze (cn 0)) (0:Int).toNat (Ze (cn 2000)) (0:Int).toNat = -1:=by rw[Zv,Zv];decide
 rw[Am h.kb (by omega) (by have:=h.len.2;omega),h.lead,decide_eq_true (show 2<=f.length by have:=h.len.1;omega),e1,if_neg (by decide)];rw[show Ziv (cn 0) 0=true by decide,show Ziv (cn 2000) 0=true by decide];rw[decide_eq_true (show (-1:Int) = -1/\Zkt f (Ze (cn 0)) (0:Int).toNat (Ze (cn 2000)) (0:Int).toNat=1 from ⟨rfl,hc⟩)];rfl
theorem Fit.floor (hv0:0<v) (h1:v<=1048576):∃ z,Zc Yir 26 [rtA (f.map cn) iv0.r (iv0.a:Nat) iv0.t (iv0.b:Nat),.int .i64 4] (.tup [Zi z,.int .i64 0])/\0<=z/\z*z<=256*v/\256*v<(z+1)*(z+1)/\z<=32000:=by
 have hat:=Zfe hv0 h1;obtain⟨n,hn,hs,hg⟩:=Zb3 h.sq hat;obtain⟨j,hj⟩:=hat.all h.sq n;have hi32:(J7 f iv0 n).hi 4<=32000/\0<=(J7 f iv0 n).hi 4:=by
  have hK:=Qj n;have b1:(J7 f iv0 n).hi 4*2^n<=2000*(j+1)*16:=by rw[hj.hi4];exact Int.ediv_mul_le _ (by omega)
  have h5:=hj.i1;have h6:=hj.i0;refine⟨?_,by rw[hj.hi4];exact Int.ediv_nonneg (by omega) (Int.le_of_lt hK)⟩;have:(J7 f iv0 n).hi 4*2^n<=32000*2^n:=by omega
  exact Int.le_of_mul_le_mul_right this hK
 have hG:Ji 100 (cn ((J7 f iv0 n).hi 4)):=Q5 (Ug (k:=15) (by omega) (by omega));have k:=Zfq h.fine Wl (k:=4) (by decide) (n:=n) (by omega) hs (.inl hj.ne) hg hG;refine⟨flo f (J7 f iv0 n) 4,Zbg h.good h.l9 Wl h.valid (by decide) ?_,Zkj h.sq hj hg⟩;rw[Qa,h.free];exact k
end
theorem fit_pS {a:Int} (h0:0<a) (h1:a<=1048576):Fit a (pS a):=by
 refine⟨Zor a,Av a,Zfm h0,Ms fun x hx => ?_,by show 3<=3/\3<=9;decide,by rw[Zo9 h0];rfl,Zp0 (Zor a) h0 (by omega) (Zo9 h0) (by decide) (by decide)⟩;unfold pS at hx;simp only[List.mem_cons,List.not_mem_nil,or_false] at hx;apply Ug (k:=20) _ (by decide);rcases hx with rfl | rfl | rfl <;> omega
theorem fit_pQ {b:Int} (h0:0<b) (h1:b<=1048576):Fit b (pQ b):=by
 refine⟨Zdn h0,Se b,Zfn h0,Ms fun x hx => ?_,by show 3<=5/\5<=9;decide,by rw[Zpa h0];rfl,Zp0 (Zdn h0) h0 (by omega) (Zpa h0) (by decide) (by decide)⟩;unfold pQ at hx;simp only[List.mem_cons,List.not_mem_nil,or_false] at hx;apply Ug (k:=40) _ (by decide);have hb2:=Int.mul_le_mul h1 h1 (Int.le_of_lt h0) (by decide);have hb3:=Int.mul_pos h0 h0;rcases hx with rfl | rfl | rfl | rfl | rfl <;> omega
theorem eq_run {a b:Int} (ha:Fit a (pS a)) (hb:Fit b (pQ b)) (ha0:0<a) (hb0:0<b):Zc Yir 100 [iv0.av (pS a),iv0.av (pQ b)] (.bool (decide (a=b))):=by
 have hlt:X1 (Ze iv0.r) iv0.a (Ze iv0.t) iv0.b = -1:=by
  show X1 (Ze (cn 0)) 0 (Ze (cn 2000)) 0 = -1;rw[Zv,Zv];decide
 have hc:=Ej (K:=5) (c:=5) ha.good hb.good (by rw[List.length_map];show 3<=5;decide) (by rw[List.length_map];show 5<=5;decide) (by decide) (by decide);rw[Qa,Qa] at hc;have hc':Zc6 71 [.sl ((pS a).map cn).length (pc ((pS a).map cn)),.sl ((pQ b).map cn).length (pc ((pQ b).map cn))] (V1 (pS a) (pQ b)):=hc;by_cases h:a=b
 ·subst h;rw[com_eq] at hc';have k:=Nr Wl (by decide) hlt hc' (fun _=>⟨ha.good,ha.len.2⟩);have hd:=ha.d;rw[Qa] at hd;have e:Zkt (pS a) (Ze iv0.r) iv0.a (Ze iv0.t) iv0.b=1:=hd;rw[e] at k;rw[decide_eq_true rfl];exact k
 ·have k:=Nr Wl (by decide) hlt hc' (fun g=>by rw[Zo8 h ha0 hb0] at g;exact absurd g (by decide));rw[Zo8 h ha0 hb0] at k;rw[decide_eq_false h];exact k
theorem Rs (haw:Zc Yir 21 [] (.bool true)) (a b:Int):Zc Yir 6 [.int .i64 a,.int .i64 b] (.bool true):=by
 by_cases c1:a<1
 ·exact Zci a b (decide_eq_true c1) haw
 by_cases c2:b<1
 ·exact Zch a b (decide_eq_false c1) (decide_eq_true c2) haw
 by_cases c3:a>1048576
 ·exact Zcg a b (decide_eq_false c1) (decide_eq_false c2) (decide_eq_true c3) haw
 by_cases c4:b>1048576
 ·exact Zcf a b (decide_eq_false c1) (decide_eq_false c2) (decide_eq_false c3) (decide_eq_true c4) haw
 have ha:=fit_pS (a:=a) (by omega) (by omega);have hb:=fit_pQ (b:=b) (by omega) (by omega);have hbb:0<b*b/\b*b<=1048576*1048576:=⟨Int.mul_pos (by omega) (by omega),Int.mul_le_mul (by omega) (by omega) (by omega) (by decide)⟩;have w1:i64.wrap (0-a) = -a:=by rw[w64 (by omega) (by omega)];omega
 have w2:i64.wrap (i64.wrap (0-b)*b) = -(b*b):=by
  have e:(0-b)*b = -(b*b):=by grind
  rw[w64 (n:=0-b) (by omega) (by omega),e,w64 (by omega) (by omega)]
 have o1:Zc Yir 23 [.sl 3 [.int .i64 (i64.wrap (0-a)),.int .i64 0,.int .i64 1]] (.fresh 2 ((pS a).map cn).length (pc ((pS a).map cn))):=by
  have k:=T2 (xs:=pS a) (fun x hx=>by
   unfold pS at hx;simp only[List.mem_cons,List.not_mem_nil,or_false] at hx;rcases hx with rfl | rfl | rfl <;> omega) (by show 3<=1000;decide)
  rw[Av] at k;rw[w1];exact k
 have o2:Zc Yir 23 [.sl 5 [.int .i64 (i64.wrap (i64.wrap (0-b)*b)),.int .i64 0,.int .i64 0,.int .i64 0,.int .i64 1]] (.fresh 2 ((pQ b).map cn).length (pc ((pQ b).map cn))):=by
  have k:=T2 (xs:=pQ b) (fun x hx=>by
   unfold pQ at hx;simp only[List.mem_cons,List.not_mem_nil,or_false] at hx;rcases hx with rfl | rfl | rfl | rfl | rfl <;> omega) (by show 5<=1000;decide)
  rw[Se] at k;rw[w2];exact k
 have n0:=Zps 0 0 (Zeq (n:=0) (by decide));have n1:=Zps 2000 0 (Zeq (n:=2000) (by decide));obtain⟨z,hz,z0,z1,z2,z3⟩:=ha.floor (by omega) (by omega);have zp:0<z:=by
  apply Int.not_le.1;intro g;have:z=0:=by omega
  subst this;omega
 have el:Zb z.natAbs=[z]:=by
  rw[Sd (by omega) (by omega)];congr 1;omega
 have zz:z*z<=32000*32000:=Int.mul_le_mul z3 z3 z0 (by decide);have zz1:(z+1)*(z+1)<=32001*32001:=Int.mul_le_mul (by omega) (by omega) (by omega) (by decide);have zz0:=Int.mul_nonneg z0 z0;have zz2:=Int.mul_nonneg (show 0<=z+1 by omega) (show 0<=z+1 by omega);have g1:decide ((((Zb (Int.natAbs z)).length:Nat):Int)>0)=true:=by rw[el];rfl
 have ez:i64.wrap ((Zb (Int.natAbs z)).getD (Int.toNat 0) 0)=z:=by
  rw[el];show i64.wrap z=z;exact w64 (by omega) (by omega)
 have w3:i64.wrap (256*a)=256*a:=w64 (by omega) (by omega);have g2:decide ((i64.wrap ((i64.wrap ((Zb (Int.natAbs z)).getD (Int.toNat 0) 0))*(i64.wrap ((Zb (Int.natAbs z)).getD (Int.toNat 0) 0))))<=(i64.wrap (256*a)))=true:=by
  rw[ez,w3,w64 (by omega) (by omega),decide_eq_true_eq];exact z1
 have g3:decide ((i64.wrap ((i64.wrap ((i64.wrap ((Zb (Int.natAbs z)).getD (Int.toNat 0) 0))+1))*(i64.wrap ((i64.wrap ((Zb (Int.natAbs z)).getD (Int.toNat 0) 0))+1))))>(i64.wrap (256*a)))=true:=by
  rw[ez,w3,w64 (n:=z+1) (by omega) (by omega),w64 (by omega) (by omega),decide_eq_true_eq];exact z2
 have g4:0<=(0:Int)/\(0:Int)<(((Zb (Int.natAbs z)).length:Nat):Int):=by rw[el];exact⟨Int.le_refl _,by show (0:Int)<1;decide⟩
 have cmp:∀ y,Zc Yir 65 [iv0.av (pS a),iv0.av (pQ b)] (.int .i64 y)->Zc Yir 25 [rtA ((pS a).map cn) iv0.r (iv0.a:Nat) iv0.t (iv0.b:Nat),rtA ((pQ b).map cn) iv0.r (iv0.a:Nat) iv0.t (iv0.b:Nat)] (.tup [.int .i64 y,.int .i64 0]):=by
  intro y hy;refine Zjb ha.good ha.l9 Wl hb.good hb.l9 Wl ha.valid hb.valid ?_;rw[Qa,Qa,ha.free,hb.free];exact hy
 have hd:¬ X1 (Ze iv0.t) iv0.b (Ze iv0.r) iv0.a<0:=by
  show ¬ X1 (Ze (cn 2000)) 0 (Ze (cn 0)) 0<0;rw[Zv,Zv];decide
 have he:=eq_run ha hb (by omega) (by omega);have a1:=Zfe (v:=a) (by omega) (by omega);have b1:=Zfe (v:=b) (by omega) (by omega);rcases Int.lt_trichotomy a b with g | g | g
 ·rw[decide_eq_false (show ¬ a=b by omega)] at he;obtain⟨n,hn,hap⟩:=Zk0 ha.sq hb.sq a1 b1 g;have kc:=cmp _ (Zd7 ha.fine hb.fine Wl Wl (by omega) hd hd he hap);have k:=Zce ((pS a).map cn) ((pQ b).map cn) ((pS a).map cn) (cn 0) (cn 2000) 0 0 ((pQ b).map cn) (cn 0) (cn 2000) 0 0 a b z g1 (decide_eq_true g) (decide_eq_false (show ¬ a>b by omega)) (decide_eq_false c1) (decide_eq_false c2) (decide_eq_false c3) (decide_eq_false c4) g2 g4 haw o1 n0 n1 ha.iso o2 hb.iso kc hz;rw[g3] at k;exact k
 ·rw[decide_eq_true g] at he;have kc:=cmp _ (Zqe Wl Wl (by decide) hd hd he);have k:=Zck ((pS a).map cn) ((pQ b).map cn) ((pS a).map cn) (cn 0) (cn 2000) 0 0 ((pQ b).map cn) (cn 0) (cn 2000) 0 0 a b z (decide_eq_false c1) (decide_eq_false c2) (decide_eq_false c3) (decide_eq_false c4) g1 (decide_eq_false (show ¬ a<b by omega)) (decide_eq_false (show ¬ a>b by omega)) g2 g4 haw o1 n0 n1 ha.iso o2 hb.iso kc hz;rw[g3] at k;exact k
 ·rw[decide_eq_false (show ¬ a=b by omega)] at he;obtain⟨n,hn,hap⟩:=Zk1 ha.sq hb.sq a1 b1 g;have kc:=cmp _ (Zd7 ha.fine hb.fine Wl Wl (by omega) hd hd he hap);have k:=Zcj ((pS a).map cn) ((pQ b).map cn) ((pS a).map cn) (cn 0) (cn 2000) 0 0 ((pQ b).map cn) (cn 0) (cn 2000) 0 0 a b z (decide_eq_false c1) (decide_eq_false c2) (decide_eq_false c3) (decide_eq_false c4) g1 (decide_eq_false (show ¬ a<b by omega)) (decide_eq_true g) g2 g4 haw o1 n0 n1 ha.iso o2 hb.iso kc hz;rw[g3] at k;exact k
end Go.Proofs.Ythdpfjffdipipaa

namespace Go.Proofs.Ythdpfjffdipipaa
open Go.IntKind (i64 u64 u32)
open Go.Ai
set_option maxRecDepth 100000
theorem aw0:Zc Yir 69 [.sl 4 [.bool false,.sl 0 [],.bool true,.sl 1 [.int .u32 1],.bool false,.sl 0 [],.bool false,.sl 1 [.int .u32 1]],.sl 3 [.bool true,.sl 1 [.int .u32 1],.bool false,.sl 0 [],.bool false,.sl 1 [.int .u32 3]]] (.fresh 2 2 [.bool false,.sl 0 [],.bool true,.sl 1 [.int .u32 1]]):=Zz Qk (Zl _) 400 _ _ _ (by kernel_rfl)
theorem aw1:Zc Yir 69 [.sl 3 [.bool true,.sl 1 [.int .u32 1],.bool false,.sl 0 [],.bool false,.sl 1 [.int .u32 3]],.sl 2 [.bool false,.sl 0 [],.bool true,.sl 1 [.int .u32 1]]] (.fresh 2 1 [.bool true,.sl 1 [.int .u32 1]]):=Zz Qk (Zl _) 400 _ _ _ (by kernel_rfl)
theorem aw2:Zc Yir 69 [.sl 2 [.bool false,.sl 0 [],.bool true,.sl 1 [.int .u32 1]],.sl 1 [.bool true,.sl 1 [.int .u32 1]]] (.fresh 2 0 []):=Zz Qk (Zl _) 400 _ _ _ (by kernel_rfl)
theorem aw3:Zc Yir 71 [.sl 4 [.bool false,.sl 0 [],.bool true,.sl 1 [.int .u32 1],.bool false,.sl 0 [],.bool false,.sl 1 [.int .u32 1]],.sl 3 [.bool true,.sl 1 [.int .u32 1],.bool false,.sl 0 [],.bool false,.sl 1 [.int .u32 3]]] (.fresh 2 1 [.bool false,.sl 1 [.int .u32 1]]):=Zz Qk (Zh aw2 (Zh aw1 (Zh aw0 (Zl _)))) 400 _ _ _ (by kernel_rfl)
theorem aw4:Zc Yir 72 [.sl 4 [.bool false,.sl 0 [],.bool true,.sl 1 [.int .u32 1],.bool false,.sl 0 [],.bool false,.sl 1 [.int .u32 1]]] (.sl 4 [.bool false,.sl 0 [],.bool true,.sl 1 [.int .u32 1],.bool false,.sl 0 [],.bool false,.sl 1 [.int .u32 1]]):=Zz Qk (Zh aw3 (Zl _)) 400 _ _ _ (by kernel_rfl)
end Go.Proofs.Ythdpfjffdipipaa

namespace Go.Proofs.Ythdpfjffdipipaa
open Go.IntKind (i64 u64 u32)
open Go.Ai
set_option maxRecDepth 100000
theorem aw5:Zc Yir 69 [.sl 3 [.bool true,.sl 1 [.int .u32 1],.bool false,.sl 0 [],.bool false,.sl 1 [.int .u32 3]],.sl 2 [.bool false,.sl 0 [],.bool false,.sl 1 [.int .u32 1]]] (.fresh 2 1 [.bool true,.sl 1 [.int .u32 1]]):=Zz Qk (Zl _) 400 _ _ _ (by kernel_rfl)
theorem aw6:Zc Yir 69 [.sl 2 [.bool false,.sl 0 [],.bool false,.sl 1 [.int .u32 1]],.sl 1 [.bool false,.sl 1 [.int .u32 1]]] (.fresh 2 0 []):=Zz Qk (Zl _) 400 _ _ _ (by kernel_rfl)
theorem aw7:Zc Yir 48 [.sl 4 [.bool false,.sl 0 [],.bool true,.sl 1 [.int .u32 1],.bool false,.sl 0 [],.bool false,.sl 1 [.int .u32 1]]] (.fresh 1 4 [.sl 4 [.bool false,.sl 0 [],.bool true,.sl 1 [.int .u32 1],.bool false,.sl 0 [],.bool false,.sl 1 [.int .u32 1]],.sl 3 [.bool true,.sl 1 [.int .u32 1],.bool false,.sl 0 [],.bool false,.sl 1 [.int .u32 3]],.sl 2 [.bool false,.sl 0 [],.bool false,.sl 1 [.int .u32 1]],.sl 1 [.bool false,.sl 1 [.int .u32 1]]]):=Zz Qk (Zh aw6 (Zh aw5 (Zh aw4 (Zh aw0 (Zl _))))) 400 _ _ _ (by kernel_rfl)
theorem aw8:Zc Yir 38 [.sl 4 [.bool false,.sl 0 [],.bool true,.sl 1 [.int .u32 1],.bool false,.sl 0 [],.bool false,.sl 1 [.int .u32 1]],.agg [.bool true,.sl 1 [.int .u32 1],.int .i64 0]] (.int .i64 0):=Zz Qk (Zl _) 400 _ _ _ (by kernel_rfl)
theorem aw9:Zc Yir 52 [.sl 4 [.sl 4 [.bool false,.sl 0 [],.bool true,.sl 1 [.int .u32 1],.bool false,.sl 0 [],.bool false,.sl 1 [.int .u32 1]],.sl 3 [.bool true,.sl 1 [.int .u32 1],.bool false,.sl 0 [],.bool false,.sl 1 [.int .u32 3]],.sl 2 [.bool false,.sl 0 [],.bool false,.sl 1 [.int .u32 1]],.sl 1 [.bool false,.sl 1 [.int .u32 1]]],.agg [.bool true,.sl 1 [.int .u32 1],.int .i64 0]] (.int .i64 2):=Zz Qk (Zh aw8 (Zl _)) 400 _ _ _ (by kernel_rfl)
theorem aw10:Zc Yir 38 [.sl 4 [.bool false,.sl 0 [],.bool true,.sl 1 [.int .u32 1],.bool false,.sl 0 [],.bool false,.sl 1 [.int .u32 1]],.agg [.bool false,.sl 1 [.int .u32 2],.int .i64 0]] (.int .i64 1):=Zz Qk (Zl _) 400 _ _ _ (by kernel_rfl)
theorem aw11:Zc Yir 52 [.sl 4 [.sl 4 [.bool false,.sl 0 [],.bool true,.sl 1 [.int .u32 1],.bool false,.sl 0 [],.bool false,.sl 1 [.int .u32 1]],.sl 3 [.bool true,.sl 1 [.int .u32 1],.bool false,.sl 0 [],.bool false,.sl 1 [.int .u32 3]],.sl 2 [.bool false,.sl 0 [],.bool false,.sl 1 [.int .u32 1]],.sl 1 [.bool false,.sl 1 [.int .u32 1]]],.agg [.bool false,.sl 1 [.int .u32 2],.int .i64 0]] (.int .i64 0):=Zz Qk (Zh aw10 (Zl _)) 400 _ _ _ (by kernel_rfl)
end Go.Proofs.Ythdpfjffdipipaa

namespace Go.Proofs.Ythdpfjffdipipaa
open Go.IntKind (i64 u64 u32)
open Go.Ai
set_option maxRecDepth 100000
theorem aw12:Zc Yir 38 [.sl 4 [.bool false,.sl 0 [],.bool true,.sl 1 [.int .u32 1],.bool false,.sl 0 [],.bool false,.sl 1 [.int .u32 1]],.agg [.bool false,.sl 1 [.int .u32 1],.int .i64 1]] (.int .i64 (-1)):=Zz Qk (Zl _) 400 _ _ _ (by kernel_rfl)
theorem aw13:Zc Yir 52 [.sl 4 [.sl 4 [.bool false,.sl 0 [],.bool true,.sl 1 [.int .u32 1],.bool false,.sl 0 [],.bool false,.sl 1 [.int .u32 1]],.sl 3 [.bool true,.sl 1 [.int .u32 1],.bool false,.sl 0 [],.bool false,.sl 1 [.int .u32 3]],.sl 2 [.bool false,.sl 0 [],.bool false,.sl 1 [.int .u32 1]],.sl 1 [.bool false,.sl 1 [.int .u32 1]]],.agg [.bool false,.sl 1 [.int .u32 1],.int .i64 1]] (.int .i64 1):=Zz Qk (Zh aw12 (Zl _)) 400 _ _ _ (by kernel_rfl)
theorem aw14:Zc Yir 22 [.sl 4 [.bool false,.sl 0 [],.bool true,.sl 1 [.int .u32 1],.bool false,.sl 0 [],.bool false,.sl 1 [.int .u32 1]],.agg [.bool true,.sl 1 [.int .u32 1],.int .i64 0],.agg [.bool false,.sl 1 [.int .u32 2],.int .i64 0]] (.tup [.sl 2 [.sl 4 [.bool false,.sl 0 [],.bool true,.sl 1 [.int .u32 1],.bool false,.sl 0 [],.bool false,.sl 1 [.int .u32 1]],.bool true,.sl 1 [.int .u32 1],.int .i64 0,.bool false,.sl 1 [.int .u32 1],.int .i64 1,.sl 4 [.bool false,.sl 0 [],.bool true,.sl 1 [.int .u32 1],.bool false,.sl 0 [],.bool false,.sl 1 [.int .u32 1]],.bool false,.sl 1 [.int .u32 1],.int .i64 1,.bool false,.sl 1 [.int .u32 2],.int .i64 0],.int .i64 0]):=Zz Qk (Zh aw13 (Zh aw11 (Zh aw9 (Zh aw7 (Zl _))))) 400 _ _ _ (by kernel_rfl)
theorem aw15:Zc Yir 69 [.sl 3 [.bool true,.sl 1 [.int .u32 2],.bool false,.sl 0 [],.bool false,.sl 1 [.int .u32 1]],.sl 2 [.bool false,.sl 0 [],.bool false,.sl 1 [.int .u32 1]]] (.fresh 2 1 [.bool true,.sl 1 [.int .u32 1]]):=Zz Qk (Zl _) 400 _ _ _ (by kernel_rfl)
theorem aw16:Zc Yir 69 [.sl 2 [.bool false,.sl 0 [],.bool false,.sl 1 [.int .u32 1]],.sl 1 [.bool true,.sl 1 [.int .u32 1]]] (.fresh 2 0 []):=Zz Qk (Zl _) 400 _ _ _ (by kernel_rfl)
end Go.Proofs.Ythdpfjffdipipaa

namespace Go.Proofs.Ythdpfjffdipipaa
open Go.IntKind (i64 u64 u32)
open Go.Ai
set_option maxRecDepth 100000
theorem aw17:Zc Yir 71 [.sl 3 [.bool true,.sl 1 [.int .u32 2],.bool false,.sl 0 [],.bool false,.sl 1 [.int .u32 1]],.sl 2 [.bool false,.sl 0 [],.bool false,.sl 1 [.int .u32 2]]] (.fresh 2 1 [.bool false,.sl 1 [.int .u32 1]]):=Zz Qk (Zh aw16 (Zh aw15 (Zl _))) 400 _ _ _ (by kernel_rfl)
theorem aw18:Zc Yir 72 [.sl 3 [.bool true,.sl 1 [.int .u32 2],.bool false,.sl 0 [],.bool false,.sl 1 [.int .u32 1]]] (.sl 3 [.bool true,.sl 1 [.int .u32 2],.bool false,.sl 0 [],.bool false,.sl 1 [.int .u32 1]]):=Zz Qk (Zh aw17 (Zl _)) 400 _ _ _ (by kernel_rfl)
theorem aw19:Zc Yir 48 [.sl 3 [.bool true,.sl 1 [.int .u32 2],.bool false,.sl 0 [],.bool false,.sl 1 [.int .u32 1]]] (.fresh 1 3 [.sl 3 [.bool true,.sl 1 [.int .u32 2],.bool false,.sl 0 [],.bool false,.sl 1 [.int .u32 1]],.sl 2 [.bool false,.sl 0 [],.bool false,.sl 1 [.int .u32 1]],.sl 1 [.bool false,.sl 1 [.int .u32 1]]]):=Zz Qk (Zh aw18 (Zh aw15 (Zh aw6 (Zl _)))) 400 _ _ _ (by kernel_rfl)
theorem aw20:Zc Yir 52 [.sl 3 [.sl 3 [.bool true,.sl 1 [.int .u32 2],.bool false,.sl 0 [],.bool false,.sl 1 [.int .u32 1]],.sl 2 [.bool false,.sl 0 [],.bool false,.sl 1 [.int .u32 1]],.sl 1 [.bool false,.sl 1 [.int .u32 1]]],.agg [.bool false,.sl 0 [],.int .i64 0]] (.int .i64 1):=Zz Qk (Zl _) 400 _ _ _ (by kernel_rfl)
theorem aw21:Zc Yir 52 [.sl 3 [.sl 3 [.bool true,.sl 1 [.int .u32 2],.bool false,.sl 0 [],.bool false,.sl 1 [.int .u32 1]],.sl 2 [.bool false,.sl 0 [],.bool false,.sl 1 [.int .u32 1]],.sl 1 [.bool false,.sl 1 [.int .u32 1]]],.agg [.bool false,.sl 1 [.int .u32 2],.int .i64 0]] (.int .i64 0):=Zz Qk (Zl _) 400 _ _ _ (by kernel_rfl)
theorem aw22:Zc Yir 22 [.sl 3 [.bool true,.sl 1 [.int .u32 2],.bool false,.sl 0 [],.bool false,.sl 1 [.int .u32 1]],.agg [.bool false,.sl 0 [],.int .i64 0],.agg [.bool false,.sl 1 [.int .u32 2],.int .i64 0]] (.tup [.sl 1 [.sl 3 [.bool true,.sl 1 [.int .u32 2],.bool false,.sl 0 [],.bool false,.sl 1 [.int .u32 1]],.bool false,.sl 0 [],.int .i64 0,.bool false,.sl 1 [.int .u32 2],.int .i64 0],.int .i64 0]):=Zz Qk (Zh aw21 (Zh aw20 (Zh aw19 (Zl _)))) 400 _ _ _ (by kernel_rfl)
theorem aw23:Zc Yir 73 [.sl 4 [.bool false,.sl 0 [],.bool false,.sl 0 [],.bool false,.sl 0 [],.bool false,.sl 1 [.int .u32 4]]] (.fresh 2 4 [.bool false,.sl 0 [],.bool false,.sl 0 [],.bool false,.sl 0 [],.bool false,.sl 1 [.int .u32 1]]):=Zz Qk (Zl _) 400 _ _ _ (by kernel_rfl)
end Go.Proofs.Ythdpfjffdipipaa

namespace Go.Proofs.Ythdpfjffdipipaa
open Go.IntKind (i64 u64 u32)
open Go.Ai
set_option maxRecDepth 100000
theorem aw24:Zc Yir 69 [.sl 5 [.bool true,.sl 1 [.int .u32 4],.bool false,.sl 0 [],.bool false,.sl 0 [],.bool false,.sl 0 [],.bool false,.sl 1 [.int .u32 1]],.sl 4 [.bool false,.sl 0 [],.bool false,.sl 0 [],.bool false,.sl 0 [],.bool false,.sl 1 [.int .u32 1]]] (.fresh 2 1 [.bool true,.sl 1 [.int .u32 1]]):=Zz Qk (Zl _) 400 _ _ _ (by kernel_rfl)
theorem aw25:Zc Yir 69 [.sl 4 [.bool false,.sl 0 [],.bool false,.sl 0 [],.bool false,.sl 0 [],.bool false,.sl 1 [.int .u32 1]],.sl 1 [.bool true,.sl 1 [.int .u32 1]]] (.fresh 2 0 []):=Zz Qk (Zl _) 400 _ _ _ (by kernel_rfl)
theorem aw26:Zc Yir 72 [.sl 5 [.bool true,.sl 1 [.int .u32 4],.bool false,.sl 0 [],.bool false,.sl 0 [],.bool false,.sl 0 [],.bool false,.sl 1 [.int .u32 1]]] (.sl 5 [.bool true,.sl 1 [.int .u32 4],.bool false,.sl 0 [],.bool false,.sl 0 [],.bool false,.sl 0 [],.bool false,.sl 1 [.int .u32 1]]):=Zz Qk (Zh aw25 (Zh aw24 (Zh aw23 (Zl _)))) 400 _ _ _ (by kernel_rfl)
theorem aw27:Zc Yir 69 [.sl 4 [.bool false,.sl 0 [],.bool false,.sl 0 [],.bool false,.sl 0 [],.bool false,.sl 1 [.int .u32 1]],.sl 1 [.bool false,.sl 1 [.int .u32 1]]] (.fresh 2 0 []):=Zz Qk (Zl _) 400 _ _ _ (by kernel_rfl)
theorem aw28:Zc Yir 38 [.sl 5 [.bool true,.sl 1 [.int .u32 4],.bool false,.sl 0 [],.bool false,.sl 0 [],.bool false,.sl 0 [],.bool false,.sl 1 [.int .u32 1]],.agg [.bool false,.sl 0 [],.int .i64 0]] (.int .i64 (-1)):=Zz Qk (Zl _) 400 _ _ _ (by kernel_rfl)
theorem aw29:Zc Yir 52 [.sl 3 [.sl 5 [.bool true,.sl 1 [.int .u32 4],.bool false,.sl 0 [],.bool false,.sl 0 [],.bool false,.sl 0 [],.bool false,.sl 1 [.int .u32 1]],.sl 4 [.bool false,.sl 0 [],.bool false,.sl 0 [],.bool false,.sl 0 [],.bool false,.sl 1 [.int .u32 1]],.sl 1 [.bool false,.sl 1 [.int .u32 1]]],.agg [.bool false,.sl 0 [],.int .i64 0]] (.int .i64 1):=Zz Qk (Zh aw28 (Zl _)) 400 _ _ _ (by kernel_rfl)
end Go.Proofs.Ythdpfjffdipipaa
