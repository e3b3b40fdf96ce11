/- Texts of the proof of RootValid, packed by pack.py: part 14 of 21. -/
import Derived.Test.YtopjpgejefileaaGreatRvp13
namespace Go.Proofs.YtopjpgejefileaaGreat
open Go.IntKind (i64 u64 u32)
open Go.Ai
set_option maxRecDepth 100000
theorem Zfh (a b q r:Int) (hq:q=(a.natAbs:Int) / (b.natAbs:Int)) (hr:r=(a.natAbs:Int) % (b.natAbs:Int)) :
  (if (!(decide (a<0)==decide (b<0)))=true then -q else q)=Int.tdiv a b/\(if decide (a<0)=true then -r else r)=Int.tmod a b:=by
 subst hq hr;have hA:(0:Int)<=(a.natAbs:Int):=by omega
 by_cases ha:a<0 <;> by_cases hb:b<0
 ·have ea:a = -(a.natAbs:Int):=by omega
  have eb:b = -(b.natAbs:Int):=by omega
  have h1:Int.tdiv a b=(a.natAbs:Int) / (b.natAbs:Int):=by
   rw[<- Int.tdiv_eq_ediv_of_nonneg hA];conv=>lhs;rw[ea,eb,Int.neg_tdiv,Int.tdiv_neg,Int.neg_neg]
  have h2:Int.tmod a b = -((a.natAbs:Int) % (b.natAbs:Int)):=by
   rw[<- Int.tmod_eq_emod_of_nonneg hA];conv=>lhs;rw[ea,eb,Int.neg_tmod,Int.tmod_neg]
  rw[h1,h2,decide_eq_true ha,decide_eq_true hb];simp
 ·have ea:a = -(a.natAbs:Int):=by omega
  have eb:b=(b.natAbs:Int):=by omega
  have h1:Int.tdiv a b = -((a.natAbs:Int) / (b.natAbs:Int)):=by
   rw[<- Int.tdiv_eq_ediv_of_nonneg hA];conv=>lhs;rw[ea,eb,Int.neg_tdiv]
  have h2:Int.tmod a b = -((a.natAbs:Int) % (b.natAbs:Int)):=by
   rw[<- Int.tmod_eq_emod_of_nonneg hA];conv=>lhs;rw[ea,eb,Int.neg_tmod]
  rw[h1,h2,decide_eq_true ha,decide_eq_false hb];simp
 ·have ea:a=(a.natAbs:Int):=by omega
  have eb:b = -(b.natAbs:Int):=by omega
  have h1:Int.tdiv a b = -((a.natAbs:Int) / (b.natAbs:Int)):=by
   rw[<- Int.tdiv_eq_ediv_of_nonneg hA];conv=>lhs;rw[ea,eb,Int.tdiv_neg]
  have h2:Int.tmod a b=(a.natAbs:Int) % (b.natAbs:Int):=by
   rw[<- Int.tmod_eq_emod_of_nonneg hA];conv=>lhs;rw[ea,eb,Int.tmod_neg]
  rw[h1,h2,decide_eq_false ha,decide_eq_true hb];simp
 ·have ea:a=(a.natAbs:Int):=by omega
  have eb:b=(b.natAbs:Int):=by omega
  have h1:Int.tdiv a b=(a.natAbs:Int) / (b.natAbs:Int):=by
   rw[<- Int.tdiv_eq_ediv_of_nonneg hA];conv=>lhs;rw[ea,eb]
  have h2:Int.tmod a b=(a.natAbs:Int) % (b.natAbs:Int):=by
   rw[<- Int.tmod_eq_emod_of_nonneg hA];conv=>lhs;rw[ea,eb]
  rw[h1,h2,decide_eq_false ha,decide_eq_false hb];simp
theorem Aa {na nb:Bool} {xs ys:List Int} (hx:U32 xs) (hy:U32 ys) (h0:rv nb ys ≠ 0) (h1:xs.length<1048576) (h2:ys.length<1048576) :
  Zc Yir 158 [.agg [.bool na,.sl xs.length (lm xs)],.agg [.bool nb,.sl ys.length (lm ys)]] (.tup [Zi (Int.tdiv (rv na xs) (rv nb ys)),Zi (Int.tmod (rv na xs) (rv nb ys))]):=by
 have l1:=Ul (neg:=na) hx;have l2:=Ul (neg:=nb) hy;have r1:=Jl (neg:=na) hx (by omega);have r2:=Jl (neg:=nb) hy (by omega);generalize rv na xs=a at *
 generalize rv nb ys=b at *
 have hb0:Zb b.natAbs ≠ []:=by rw[Ne,Wv];omega
 obtain⟨qs,rs,q1,q2,q3,q4,q5,q6,q7⟩:=Pa (Qh a.natAbs) (Qh b.natAbs) hb0 (by omega) (by omega);rw[Qs,Qs] at q5 q6;obtain⟨e1,e2⟩:=Zfh a b _ _ q5 q6;have m1:=Xp (neg := !(decide (a<0)==decide (b<0))) q1 q3;have m2:=Xp (neg:=decide (a<0)) q2 q4;have f1:rv (!(decide (a<0)==decide (b<0))) qs=Int.tdiv a b:=e1;have f2:rv (decide (a<0)) rs=Int.tmod a b:=e2;rw[f1] at m1;rw[f2] at m2;exact Zxu na nb _ _ xs ys _ _ qs rs _ _ r1 r2 q7 m1 m2
theorem Mg {n:Nat} {b:Bool} (h:(Zb n).length<=2):Zc Yir 183 [.agg [.bool b,.sl (Zb n).length (lm (Zb n))]] (.int .u64 (n:Nat)):=by
 have hu:=Qk n;have hv:=Qs n;generalize hxs:Zb n=xs at *
 have hl:=Za.up (prog:=Yir) (c:=Zlt) (ex := .exit 0) (fin:=Rg xs (n:Nat) (xs.length:Nat) (xs.length:Nat))
  (fun i=>Rg xs (Zj (xs.take i)) (xs.length:Nat) (i:Nat)) xs.length (by nofun) ?_ ?_ 0 (Nat.zero_le _)
 ·exact Zxn b xs (n:Nat) (xs.length:Nat) (xs.length:Nat) (by simpa [Zj] using hl)
 ·intro i hi;have ei:i64.wrap ((i:Int)+1)=((i+1:Nat):Int):=by rw[w64 (by omega) (by omega)];omega
  have e32:u64.wrap (i64.wrap (32*(i:Int)))=((32*i:Nat):Int):=by rw[w64 (by omega) (by omega),Ue (by omega)];omega
  have em:min (Int.toNat ((32*i:Nat):Int)) (IntKind.bits .u64)=32*i:=by rw[Int.toNat_natCast];show min (32*i) 64=32*i;omega
  have hxi:=Zt hu i;have k:=Zy2 xs (Zj (xs.take i)) (xs.length:Nat) (i:Nat) (by simp;omega) (by omega) (by rw[e32];omega);rw[ei,e32,em,Int.toNat_natCast,Ue (n:=xs.getD i 0) (by omega)] at k;have hp:xs.getD i 0*2^(32*i)<18446744073709551616:=by
   have:=Vp (show 32*i<=32 by omega);rw[show (2:Int)^32=4294967296 by decide] at this;have:=Int.mul_le_mul (show xs.getD i 0<=4294967295 by omega) this (by have:=Qe (32*i);omega) (by omega);omega
  have h0:=Int.mul_nonneg hxi.1 (show (0:Int)<=2^(32*i) by have:=Qe (32*i);omega);have hlt:=U6 hu i;rw[Fd] at hlt;rw[Ue ⟨h0,hp⟩,BitVec.or_comm,or64 hxi.1 hp (by omega) ⟨Zv (Jz hu i),hlt⟩] at k;refine k.to rfl ?_;rw[Jq xs i hi,Fd];congr 1;rw[Int.mul_comm];omega
 ·rw[List.take_length,hv];exact Zy1 xs (n:Nat) (xs.length:Nat) (xs.length:Nat) (by simp)
theorem Tw:∀ (f a b:Nat),b<=f->Za Yir (.loop Zlu) (Rh (a:Nat) (b:Nat)) (.exit 0) (Rh (Nat.gcd a b:Nat) 0):=by
 intro f;induction f with
 | zero =>
  intro a b hb;have:b=0:=by omega
  subst this;rw[Nat.gcd_zero_right];exact Za.loop_out (Zkd _ _ (by simp)) (by nofun)
 | succ f ih =>
  intro a b hb;by_cases h0:b=0
  ·subst h0;rw[Nat.gcd_zero_right];exact Za.loop_out (Zkd _ _ (by simp)) (by nofun)
  ·have k:=Zy3 (a:Nat) (b:Nat) (by simp;omega) (by omega);rw[Int.tmod_eq_emod_of_nonneg (by omega),<- Int.natCast_emod] at k;have hm:=Nat.mod_lt a (show 0<b by omega);have:=ih b (a % b) (by omega);rw[Nat.gcd_comm b,<- Nat.gcd_rec,Nat.gcd_comm b a] at this;exact Za.loop k this
theorem Zux {n:Nat} (h:(Zb n).length<=2):(n:Int)<18446744073709551616:=by
 have h1:=J2 (Qk n);rw[Qs] at h1;have h2:=Um h;rw[show (4294967296:Int)^2=18446744073709551616 by decide] at h2;omega
theorem Zdi {n:Nat} (h:(n:Int)<18446744073709551616):Zc Yir 181 [.int .u64 (n:Nat)] (Zi (n:Nat)):=by
 obtain⟨h1,h2⟩:=Fi (u:=(n:Nat)) (by omega);have m:=Xp (neg:=false) h1 (by simp);have e:rv false [u32.wrap (n:Int),u32.wrap (Int.fdiv (n:Int) (2^(min (Int.toNat 32) (IntKind.bits .u64))))]=(n:Nat):=h2;rw[e] at m;exact Zxp (n:Nat) _ m
theorem cn_nat (n:Nat):cn (n:Nat)=(false,Zb n):=by
 unfold cn;rw[Int.natAbs_natCast,decide_eq_false (by omega)]
theorem Bz (n:Nat):(cn (n:Nat)).2.length=(Zb n).length:=by rw [cn_nat]
theorem Znw {K:Nat} (hK:K<1048576):∀ (f a b:Nat),b<=f->Jc K (a:Nat)->Jc K (b:Nat) ->
  (∃ y z,Za Yir (.loop Nq) (Kx (cn (a:Nat)) (cn (b:Nat)) (false,[])) (.exit 0) (Kx (cn (Nat.gcd a b:Nat)) y z)) \/
  (∃ x y,Za Yir (.loop Nq) (Kx (cn (a:Nat)) (cn (b:Nat)) (false,[])) .ret (Kx x y (cn (Nat.gcd a b:Nat)))):=by
 intro f;induction f with
 | zero =>
  intro a b hb _ _;have:b=0:=by omega
  subst this;rw[Nat.gcd_zero_right];exact Or.inl ⟨_,_,Za.loop_out (Zke _ _ _ (by rw[Bz];rfl)) (by nofun)⟩
 | succ f ih =>
  intro a b hb ka kb;by_cases h0:b=0
  ·subst h0;rw[Nat.gcd_zero_right];exact Or.inl ⟨_,_,Za.loop_out (Zke _ _ _ (by rw[Bz];rfl)) (by nofun)⟩
  ·have hbl:0<(Zb b).length:=List.length_pos_iff.2 (by rw[Ne,Wv];exact h0);have la:=ka.len;have lb:=kb.len;rw[Int.natAbs_natCast] at la lb;by_cases h2:(Zb a).length<=2/\(Zb b).length<=2
   ·right;have ta:=Zux h2.1;have tb:=Zux h2.2;have hg:((Nat.gcd a b:Nat):Int)<18446744073709551616:=by
     have:=Nat.le_of_dvd (by omega) (Nat.gcd_dvd_right a b);omega
    have u1:=Mg (b:=(cn (a:Nat)).1) h2.1;have u2:=Mg (b:=(cn (b:Nat)).1) h2.2;have u3:=Zxo (a:Nat) (b:Nat) _ _ (Tw b a b (Nat.le_refl _));have u4:=Zdi hg;have k:=Zzm (cn (a:Nat)) (cn (b:Nat)) (false,[]) (a:Nat) (b:Nat) (Nat.gcd a b:Nat) (Nat.gcd a b:Nat) (by rw[Bz];simp;omega) (by rw[Bz];simp;omega) (by rw[Bz];simp;omega) u1 u2 u3 u4;exact⟨_,_,Za.loop_out k (by nofun)⟩
   ·have hq:=Aa (na:=(cn (a:Nat)).1) (nb:=(cn (b:Nat)).1) (xs:=(cn (a:Nat)).2) (ys:=(cn (b:Nat)).2) (Qk _) (Qk _) (by have:=Z0 (b:Nat);unfold Zh at this;rw[this];omega) (by rw[Bz];omega) (by rw[Bz];omega);rw[show rv (cn (a:Nat)).1 (cn (a:Nat)).2=(a:Nat) from Z0 _,show rv (cn (b:Nat)).1 (cn (b:Nat)).2=(b:Nat) from Z0 _,Int.tmod_eq_emod_of_nonneg (by omega),<- Int.natCast_emod] at hq;have hm:=Nat.mod_lt a (show 0<b by omega);have step:Za Yir Nq (Kx (cn (a:Nat)) (cn (b:Nat)) (false,[])) .norm (Kx (cn (b:Nat)) (cn ((a % b:Nat):Int)) (false,[])):=by
     by_cases h3:(Zb a).length<=2
     ·exact Zzl (cn (a:Nat)) (cn (b:Nat)) (false,[]) _ _ (by rw[Bz];simp;omega) (by rw[Bz];simp;omega) (by rw[Bz];simp;omega) hq
     ·exact Zzk (cn (a:Nat)) (cn (b:Nat)) (false,[]) _ _ (by rw[Bz];simp;omega) (by rw[Bz];simp;omega) hq
    have kr:Jc K ((a % b:Nat):Int):=by
     unfold Jc at *
     rw[Int.natAbs_natCast] at *
     exact Nat.lt_of_le_of_lt (Nat.le_of_lt hm) kb
    have e:Nat.gcd b (a % b)=Nat.gcd a b:=by rw[Nat.gcd_comm b,<- Nat.gcd_rec,Nat.gcd_comm b a]
    rcases ih b (a % b) (by omega) kb kr with ⟨y,z,h⟩ | ⟨x,y,h⟩
    ·rw[e] at h;exact Or.inl ⟨y,z,Za.loop step h⟩
    ·rw[e] at h;exact Or.inr ⟨x,y,Za.loop step h⟩
theorem Za3 {na nb:Bool} {xs ys:List Int} (hx:U32 xs) (hy:U32 ys) (h1:xs.length<1048576) (h2:ys.length<1048576) :
  Zc Yir 159 [.agg [.bool na,.sl xs.length (lm xs)],.agg [.bool nb,.sl ys.length (lm ys)]] (Zi (Int.gcd (rv na xs) (rv nb ys):Nat)):=by
 have a1:=Mq (neg:=na) hx (by omega);have a2:=Mq (neg:=nb) hy (by omega);have f1:=Sw (neg:=na) hx;have f2:=Sw (neg:=nb) hy;have g1:Jc (max xs.length ys.length) (((rv na xs).natAbs:Nat):Int):=by
  unfold Jc at *;rw[Int.natAbs_natCast];exact Nat.lt_of_lt_of_le f1 (Nat.pow_le_pow_right (by decide) (by omega))
 have g2:Jc (max xs.length ys.length) (((rv nb ys).natAbs:Nat):Int):=by
  unfold Jc at *;rw[Int.natAbs_natCast];exact Nat.lt_of_lt_of_le f2 (Nat.pow_le_pow_right (by decide) (by omega))
 rcases Znw (K:=max xs.length ys.length) (by omega) _ _ _ (Nat.le_refl _) g1 g2 with ⟨y,z,h⟩ | ⟨x,y,h⟩
 ·exact Zik na nb xs ys _ _ _ _ _ a1 a2 h
 ·exact Zij na nb xs ys _ _ _ _ _ a1 a2 h
def TQE:J8:=TQD
theorem Q8:Q9 Yir TQE:=Zl8
end Go.Proofs.YtopjpgejefileaaGreat

namespace Go.Proofs.YtopjpgejefileaaGreat
open Go.IntKind (i64 u64 u32)
open Go.Ai
set_option maxRecDepth 100000
def Zmj (N:Nat) (cs:List AV) (i:Int):Zk:=(.val (.sl N cs)::(dds 1 (.val (.int .i64 0)::(.val (.int .i64 i)::(dds 16 [])))))
theorem Yk53_1 (N:Nat) (cs:List AV) (i:Int) (r:Rn) (v:Int) (c1:(decide (i>=0))=true) (c2:(v==0)=true) (n1:0<=i/\i<(N:Int)) (n2:Qn (List.drop (Int.toNat i*2) cs) 0 2 false=some (.agg [.bool r.1,.sl r.2.length (lm r.2)])) (n3:Zc Yir 101 [.agg [.bool r.1,.sl r.2.length (lm r.2)]] (.int .i64 v)):Za Yir Z5e (Zmj N cs i) .norm (Zmj N cs (i64.wrap (i-1))):=Za.go Qd 300 [.b true,.v (.agg [.bool r.1,.sl r.2.length (lm r.2)]),.r (.int .i64 v),.b true] [0,2,3] (ac c1 (ac n1 (ac n2 (ac n3 (ac c2 a0))))) (by kernel_rfl)
theorem Yk53_2 (N:Nat) (cs:List AV) (i:Int) (r:Rn) (v:Int) (c1:(decide (i>=0))=true) (c2:(v==0)=false) (n1:0<=i/\i<(N:Int)) (n2:Qn (List.drop (Int.toNat i*2) cs) 0 2 false=some (.agg [.bool r.1,.sl r.2.length (lm r.2)])) (n3:Zc Yir 101 [.agg [.bool r.1,.sl r.2.length (lm r.2)]] (.int .i64 v)):Za Yir Z5e (Zmj N cs i) (.exit 0) (Zmj N cs i):=Za.go Qd 300 [.b true,.v (.agg [.bool r.1,.sl r.2.length (lm r.2)]),.r (.int .i64 v),.b false] [0,2,3] (ac c1 (ac n1 (ac n2 (ac n3 (ac c2 a0))))) (by kernel_rfl)
theorem Yk53_3 (N:Nat) (cs:List AV) (i:Int) (c1:(decide (i>=0))=false):Za Yir Z5e (Zmj N cs i) (.exit 0) (Zmj N cs i):=Za.go Qd 300 [.b false,.b false] [0,2,3] (ac c1 (ac (show false=false from rfl) a0)) (by kernel_rfl)
theorem Zbi {n:Int}:Xd n=0↔n=0:=by unfold Xd;split <;> (try split) <;> omega
theorem Zyr (rs:List Rn) (hg:∀ r∈rs,Q5 1048576 r) (hN:rs.length<=1048576):∀ m,m<=rs.length->Za Yir (.loop Z5e) (Zmj rs.length (pc rs) ((m:Int)-1)) (.exit 0) (Zmj rs.length (pc rs) (((Zz (Zf rs) m:Nat):Int)-1)):=by
 intro m;induction m with
 | zero =>
  intro _;exact Za.loop_out (Yk53_3 rs.length (pc rs) (((0:Nat):Int)-1) (by simp)) (by nofun)
 | succ m ih =>
  intro hm;have e0:((m+1:Nat):Int)-1=(m:Int):=by omega
  have e1:i64.wrap ((m:Int)-1)=(m:Int)-1:=w64 (by omega) (by omega);have hx:=A0 (rs:=rs) (i:=m) (by omega);have gm:=Z1 hg m;have hs:=G3 (neg:=(rs.getD m z0).1) gm.1 gm.2;rw[e0];simp only[Zz];rw[Q1];by_cases h0:Zh (rs.getD m z0)=0
  ·rw[if_pos h0];have h1:=Yk53_1 rs.length (pc rs) (m:Int) (rs.getD m z0) (Xd (Zh (rs.getD m z0))) (by simp) (by rw[beq_iff_eq];exact Zbi.2 h0) (by omega) (by rw[Int.toNat_natCast];exact hx) hs;rw[e1] at h1;exact Za.loop h1 (ih (by omega))
  ·rw[if_neg h0,e0];exact Za.loop_out (Yk53_2 rs.length (pc rs) (m:Int) (rs.getD m z0) (Xd (Zh (rs.getD m z0))) (by simp) (by rw[beq_eq_false_iff_ne];exact fun h=>h0 (Zbi.1 h)) (by omega) (by rw[Int.toNat_natCast];exact hx) hs) (by nofun)
theorem V3 {rs:List Rn} (hg:∀ r∈rs,Q5 1048576 r) (hN:rs.length<=1048576):Zc Yir 53 [.sl rs.length (pc rs)] (.int .i64 (((Zz (Zf rs) rs.length:Nat):Int)-1)):=by
 have e1:i64.wrap ((rs.length:Int)-1)=(rs.length:Int)-1:=w64 (by omega) (by omega);have hl:Za Yir (.loop Z5e) (Zmj rs.length (pc rs) (i64.wrap ((rs.length:Int)-1))) (.exit 0) (Zmj rs.length (pc rs) (((Zz (Zf rs) rs.length:Nat):Int)-1)):=by
  rw[e1];exact Zyr rs hg hN rs.length (Nat.le_refl _)
 exact Zc.of_bodyW (fn:=Yi53) (s:=(.val (.sl rs.length (pc rs))::(dds 1 (.val (.int .i64 (((Zz (Zf rs) rs.length:Nat):Int)-1))::(.val (.int .i64 (((Zz (Zf rs) rs.length:Nat):Int)-1))::(dds 15 (.val (.int .i64 (((Zz (Zf rs) rs.length:Nat):Int)-1))::[]))))))) (ex := .ret) rfl rfl
  (Za.seq (Za.script (t:=(.val (.sl rs.length (pc rs))::(dds 1 (.val (.int .i64 0)::(dds 17 []))))) (ex := .norm) (ps:=[]) Qd 300 [] [0,2] (by kernel_rfl) trivial)
  (Za.seq (Za.script (t:=(.val (.sl rs.length (pc rs))::(dds 1 (.val (.int .i64 0)::(.val (.int .i64 (i64.wrap ((rs.length:Int)-1)))::(dds 16 [])))))) (ex := .norm) (ps:=[]) Qd 300 [] [0,2,3] (by kernel_rfl) trivial)
  (Za.seq (Za.block hl)
  (Za.script (t:=(.val (.sl rs.length (pc rs))::(dds 1 (.val (.int .i64 (((Zz (Zf rs) rs.length:Nat):Int)-1))::(.val (.int .i64 (((Zz (Zf rs) rs.length:Nat):Int)-1))::(dds 15 (.val (.int .i64 (((Zz (Zf rs) rs.length:Nat):Int)-1))::[]))))))) (ex := .ret) (ps:=[]) Qd 300 [] [0,2,3,19] (by kernel_rfl) trivial)))) (by nofun) rfl
def Zvq (N:Nat) (cs:List AV) (n:Nat) (os:List AV) (m:Int) (i:Int):Zk:=(.val (.sl N cs)::(dds 1 (.own 2 0 []::(dds 1 (.own 2 n os::(dds 9 (.val (.int .i64 m)::(.val (.int .i64 i)::(dds 12 [])))))))))
theorem Yk66_1 (N:Nat) (cs:List AV) (n:Nat) (os:List AV) (m:Int) (i:Int) (ds:List AV) (r:Rn) (v:Int) (c1:(decide (i<m))=true) (n1:0<=i/\i<(N:Int)) (n2:Qn (List.drop (Int.toNat i*2) cs) 0 2 false=some (.agg [.bool r.1,.sl r.2.length (lm r.2)])) (n3:Zc Yir 113 [.agg [.bool r.1,.sl r.2.length (lm r.2)]] (.agg [.bool (decide (v<0)),.sl ((Zb (Int.natAbs v)).length) (lm (Zb (Int.natAbs v)))])) (n4:0<=i/\i<(n:Int)) (n5:X9 os (Int.toNat i*2) [.bool (decide (v<0)),.sl ((Zb (Int.natAbs v)).length) (lm (Zb (Int.natAbs v)))]=some ds):Za Yir Yc66 (Zvq N cs n os m i) .norm (Zvq N cs n ds m (i64.wrap (i+1))):=Za.go Qd 300 [.b true,.v (.agg [.bool r.1,.sl r.2.length (lm r.2)]),.r (.agg [.bool (decide (v<0)),.sl ((Zb (Int.natAbs v)).length) (lm (Zb (Int.natAbs v)))]),.l ds] [0,2,4,14,15] (ac c1 (ac n1 (ac n2 (ac n3 (ac n4 (ac n5 a0)))))) (by kernel_rfl)
theorem Yk66_2 (N:Nat) (cs:List AV) (n:Nat) (os:List AV) (m:Int) (i:Int) (c1:(decide (i<m))=false):Za Yir Yc66 (Zvq N cs n os m i) (.exit 0) (Zvq N cs n os m i):=Za.go Qd 300 [.b false] [0,2,4,14,15] (ac c1 a0) (by kernel_rfl)
theorem Zyp (rs:List Rn) (hg:∀ r∈rs,Q5 1048576 r) (hN:rs.length<=1048576) (n:Nat) (hn:n<=rs.length):∀ (r i:Nat),i+r=n ->
  Za Yir (.loop Yc66) (Zvq rs.length (pc rs) n (pc (Up (fun j=>cn (Zh (rs.getD j z0))) i r)) (n:Int) (i:Int)) (.exit 0) (Zvq rs.length (pc rs) n (pc (Up (fun j=>cn (Zh (rs.getD j z0))) n 0)) (n:Int) (n:Int)):=by
 intro r;induction r with
 | zero =>
  intro i hi;have hi':i=n:=by omega
  subst hi';exact Za.loop_out (Yk66_2 rs.length (pc rs) i _ (i:Int) (i:Int) (by simp)) (by nofun)
 | succ r ih =>
  intro i hi;have ei:i64.wrap ((i:Int)+1)=((i+1:Nat):Int):=by rw[w64 (by omega) (by omega)];omega
  have hx:=A0 (rs:=rs) (i:=i) (by omega);have gm:=Z1 hg i;have hs:=G2 (neg:=(rs.getD i z0).1) gm.1 gm.2;have hst:=Zgy (rs:=Up (fun j=>cn (Zh (rs.getD j z0))) i (r+1)) (i:=i) (r:=cn (Zh (rs.getD i z0))) (by rw[Kf];omega);rw[Dw (fun j=>cn (Zh (rs.getD j z0))) i r] at hst;have h1:=Yk66_1 rs.length (pc rs) n _ (n:Int) (i:Int) _ (rs.getD i z0) (Zh (rs.getD i z0)) (by simp;omega) (by omega) (by rw[Int.toNat_natCast];exact hx) hs (by omega) (by rw[Int.toNat_natCast];exact hst);rw[ei] at h1;exact Za.loop h1 (ih (i+1) (by omega))
theorem Zo5 (rs:List Rn) (hd:Zc Yir 53 [.sl rs.length (pc rs)] (.int .i64 (((Zz (Zf rs) rs.length:Nat):Int)-1))) (hz:((i64.wrap ((((Zz (Zf rs) rs.length:Nat):Int)-1)+1))==0)=true):Zc Yir 66 [.sl rs.length (pc rs)] (.fresh 2 0 []):=Zc.script (ps:=[Zc Yir 53 [.sl rs.length (pc rs)] (.int .i64 (((Zz (Zf rs) rs.length:Nat):Int)-1)),((i64.wrap ((((Zz (Zf rs) rs.length:Nat):Int)-1)+1))==0)=true]) Qd rfl 300 rfl [.r (.int .i64 (((Zz (Zf rs) rs.length:Nat):Int)-1)),.b true] (by kernel_rfl) ⟨hd,hz,trivial⟩
theorem Zo6 (rs ss:List Rn) (hd:Zc Yir 53 [.sl rs.length (pc rs)] (.int .i64 (((Zz (Zf rs) rs.length:Nat):Int)-1))) (hz:((i64.wrap ((((Zz (Zf rs) rs.length:Nat):Int)-1)+1))==0)=false) (hmk:0<=i64.wrap ((((Zz (Zf rs) rs.length:Nat):Int)-1)+1)/\i64.wrap ((((Zz (Zf rs) rs.length:Nat):Int)-1)+1)<=1048576) (hl:Za Yir (.loop Yc66) (Zvq rs.length (pc rs) (Int.toNat (i64.wrap ((((Zz (Zf rs) rs.length:Nat):Int)-1)+1))) (Ju [.bool false,.sl 0 []] (Int.toNat (i64.wrap ((((Zz (Zf rs) rs.length:Nat):Int)-1)+1)))) (((Int.toNat (i64.wrap ((((Zz (Zf rs) rs.length:Nat):Int)-1)+1))):Nat):Int) 0) (.exit 0) (Zvq rs.length (pc rs) (Int.toNat (i64.wrap ((((Zz (Zf rs) rs.length:Nat):Int)-1)+1))) (pc ss) (((Int.toNat (i64.wrap ((((Zz (Zf rs) rs.length:Nat):Int)-1)+1))):Nat):Int) (((Int.toNat (i64.wrap ((((Zz (Zf rs) rs.length:Nat):Int)-1)+1))):Nat):Int))):Zc Yir 66 [.sl rs.length (pc rs)] (.fresh 2 (Int.toNat (i64.wrap ((((Zz (Zf rs) rs.length:Nat):Int)-1)+1))) (pc ss)):=Zc.of_bodyW (fn:=Yi66) (s:=(.val (.sl rs.length (pc rs))::(dds 1 (.own 2 (Int.toNat (i64.wrap ((((Zz (Zf rs) rs.length:Nat):Int)-1)+1))) (pc ss)::(dds 11 (.val (.int .i64 (((Int.toNat (i64.wrap ((((Zz (Zf rs) rs.length:Nat):Int)-1)+1))):Nat):Int))::(.val (.int .i64 (((Int.toNat (i64.wrap ((((Zz (Zf rs) rs.length:Nat):Int)-1)+1))):Nat):Int))::(dds 12 [])))))))) (ex := .ret) rfl rfl (Za.seq (Za.go (t:=(vp rs::(dds 1 (.own 2 0 []::(dds 25 []))))) Qd 300 [] [0,2] a0) (Za.seq (Za.go (t:=(vp rs::(dds 1 (.own 2 0 []::(vi (i64.wrap ((((Zz (Zf rs) rs.length:Nat):Int)-1)+1))::(dds 2 (vp rs::(vi (((Zz (Zf rs) rs.length:Nat):Int)-1)::(vi (i64.wrap ((((Zz (Zf rs) rs.length:Nat):Int)-1)+1))::(dds 19 [])))))))))) Qd 300 [.r (.int .i64 (((Zz (Zf rs) rs.length:Nat):Int)-1))] [0,2,3,6,7,8] (ac (show Zc Yir 53 [.sl rs.length (pc rs)] (.int .i64 (((Zz (Zf rs) rs.length:Nat):Int)-1)) from hd) a0)) (Za.seq (Za.go (t:=(vp rs::(dds 1 (.own 2 0 []::(vi (i64.wrap ((((Zz (Zf rs) rs.length:Nat):Int)-1)+1))::(dds 2 (vp rs::(vi (((Zz (Zf rs) rs.length:Nat):Int)-1)::(vi (i64.wrap ((((Zz (Zf rs) rs.length:Nat):Int)-1)+1))::(vi (i64.wrap ((((Zz (Zf rs) rs.length:Nat):Int)-1)+1))::(.val (.bool ((i64.wrap ((((Zz (Zf rs) rs.length:Nat):Int)-1)+1))==0))::(dds 17 [])))))))))))) Qd 300 [.b false] [0,2,3,6,7,8,9,10] (ac (show ((i64.wrap ((((Zz (Zf rs) rs.length:Nat):Int)-1)+1))==0)=false from hz) a0)) (Za.seq (Za.go (t:=(vp rs::(dds 1 (.own 2 0 []::(vi (i64.wrap ((((Zz (Zf rs) rs.length:Nat):Int)-1)+1))::(.own 2 (Int.toNat (i64.wrap ((((Zz (Zf rs) rs.length:Nat):Int)-1)+1))) (Ju [.bool false,.sl 0 []] (Int.toNat (i64.wrap ((((Zz (Zf rs) rs.length:Nat):Int)-1)+1))))::(dds 1 (vp rs::(vi (((Zz (Zf rs) rs.length:Nat):Int)-1)::(vi (i64.wrap ((((Zz (Zf rs) rs.length:Nat):Int)-1)+1))::(vi (i64.wrap ((((Zz (Zf rs) rs.length:Nat):Int)-1)+1))::(.val (.bool ((i64.wrap ((((Zz (Zf rs) rs.length:Nat):Int)-1)+1))==0))::(vi (i64.wrap ((((Zz (Zf rs) rs.length:Nat):Int)-1)+1))::(dds 16 [])))))))))))))) Qd 300 [] [0,2,3,4,6,7,8,9,10,11] (ac (show 0<=(i64.wrap ((((Zz (Zf rs) rs.length:Nat):Int)-1)+1))/\(i64.wrap ((((Zz (Zf rs) rs.length:Nat):Int)-1)+1))<=1048576 from hmk) a0)) (Za.seq (Za.seq (Za.go (t:=(vp rs::(dds 1 (.own 2 0 []::(dds 1 (.own 2 (Int.toNat (i64.wrap ((((Zz (Zf rs) rs.length:Nat):Int)-1)+1))) (Ju [.bool false,.sl 0 []] (Int.toNat (i64.wrap ((((Zz (Zf rs) rs.length:Nat):Int)-1)+1))))::(dds 9 (vi (((Int.toNat (i64.wrap ((((Zz (Zf rs) rs.length:Nat):Int)-1)+1))):Nat):Int)::(vi 0::(dds 12 [])))))))))) Qd 300 [] [0,2,4,14,15] a0) (Za.block hl)) (Za.go (t:=(vp rs::(dds 1 (.own 2 (Int.toNat (i64.wrap ((((Zz (Zf rs) rs.length:Nat):Int)-1)+1))) (pc ss)::(dds 11 (vi (((Int.toNat (i64.wrap ((((Zz (Zf rs) rs.length:Nat):Int)-1)+1))):Nat):Int)::(vi (((Int.toNat (i64.wrap ((((Zz (Zf rs) rs.length:Nat):Int)-1)+1))):Nat):Int)::(dds 12 [])))))))) (ex := .ret) Qd 300 [] [0,2,14,15] a0)))))) (by nofun) rfl
theorem W3 {rs:List Rn} (hg:∀ r∈rs,Q5 1048576 r) (hN:rs.length<=1048576):Zc Yir 66 [.sl rs.length (pc rs)] (.fresh 2 (Ze (Zf rs)).length (pk (Ze (Zf rs)))):=by
 have hle:=V4 (Zf rs) rs.length;have hlen:(Ze (Zf rs)).length=Zz (Zf rs) rs.length:=by rw[Ug,Zn]
 have hd:=V3 hg hN;have e1:i64.wrap ((((Zz (Zf rs) rs.length:Nat):Int)-1)+1)=((Zz (Zf rs) rs.length:Nat):Int):=by rw[w64 (by omega) (by omega)];omega
 have e2:(Int.toNat (i64.wrap ((((Zz (Zf rs) rs.length:Nat):Int)-1)+1)))=Zz (Zf rs) rs.length:=by rw[e1,Int.toNat_natCast]
 by_cases h0:Zz (Zf rs) rs.length=0
 ·have h:=Zo5 rs hd (by rw[e1,h0];rfl);have:Ze (Zf rs)=[]:=List.eq_nil_of_length_eq_zero (by omega);rw[this];exact h
 ·have hl:=Zyp rs hg hN (Zz (Zf rs) rs.length) hle (Zz (Zf rs) rs.length) 0 (by omega);rw[Gy,<- A7] at hl;have h:=Zo6 rs _ hd (by rw[e1,beq_eq_false_iff_ne];omega) (by rw[e1];omega) (by rw[e2];exact hl);rw[e2,Gz] at h;have e3:(List.range (Zz (Zf rs) rs.length)).map (fun j=>cn (Zh (rs.getD j z0)))=(Ze (Zf rs)).map cn:=by
   rw[<- Mz,hlen];apply List.map_congr_left;intro i _;rw[Je,Q1]
  rw[e3] at h;rw[hlen];exact h
def Rl (N:Nat) (cs:List AV) (n:Nat) (os:List AV) (m:Int) (i:Int):Zk:=(.val (.sl N cs)::(dds 1 (.own 2 0 []::(.own 2 n os::(dds 5 (.val (.int .i64 m)::(.val (.int .i64 i)::(dds 12 []))))))))
theorem Z0z (N:Nat) (cs:List AV) (n:Nat) (os:List AV) (m:Int) (i:Int) (ds:List AV) (r:Rn) (v:Int) (c1:(decide (i<m))=true) (n1:0<=i/\i<(N:Int)) (n2:Qn (List.drop (Int.toNat i*2) cs) 0 2 false=some (.agg [.bool r.1,.sl r.2.length (lm r.2)])) (n3:Zc Yir 131 [.agg [.bool r.1,.sl r.2.length (lm r.2)]] (.agg [.bool (decide (v<0)),.sl ((Zb (Int.natAbs v)).length) (lm (Zb (Int.natAbs v)))])) (n4:0<=i/\i<(n:Int)) (n5:X9 os (Int.toNat i*2) [.bool (decide (v<0)),.sl ((Zb (Int.natAbs v)).length) (lm (Zb (Int.natAbs v)))]=some ds):Za Yir Zl1 (Rl N cs n os m i) .norm (Rl N cs n ds m (i64.wrap (i+1))):=Za.go Qd 300 [.b true,.v (.agg [.bool r.1,.sl r.2.length (lm r.2)]),.r (.agg [.bool (decide (v<0)),.sl ((Zb (Int.natAbs v)).length) (lm (Zb (Int.natAbs v)))]),.l ds] [0,2,3,9,10] (ac c1 (ac n1 (ac n2 (ac n3 (ac n4 (ac n5 a0)))))) (by kernel_rfl)
theorem Z0y (N:Nat) (cs:List AV) (n:Nat) (os:List AV) (m:Int) (i:Int) (c1:(decide (i<m))=false):Za Yir Zl1 (Rl N cs n os m i) (.exit 0) (Rl N cs n os m i):=Za.go Qd 300 [.b false] [0,2,3,9,10] (ac c1 a0) (by kernel_rfl)
theorem Zqr (rs:List Rn) (hg:∀ r∈rs,Q5 1048576 r) (hN:rs.length<=1048576) (n:Nat) (hn:n<=rs.length):∀ (r i:Nat),i+r=n ->
  Za Yir (.loop Zl1) (Rl rs.length (pc rs) n (pc (Up (fun j=>cn (-(Zh (rs.getD j z0)))) i r)) (n:Int) (i:Int)) (.exit 0) (Rl rs.length (pc rs) n (pc (Up (fun j=>cn (-(Zh (rs.getD j z0)))) n 0)) (n:Int) (n:Int)):=by
 intro r;induction r with
 | zero =>
  intro i hi;have hi':i=n:=by omega
  subst hi';exact Za.loop_out (Z0y rs.length (pc rs) i _ (i:Int) (i:Int) (by simp)) (by nofun)
 | succ r ih =>
  intro i hi;have ei:i64.wrap ((i:Int)+1)=((i+1:Nat):Int):=by rw[w64 (by omega) (by omega)];omega
  have hx:=A0 (rs:=rs) (i:=i) (by omega);have gm:=Z1 hg i;have hs:=Za2 (neg:=(rs.getD i z0).1) gm.1 gm.2;have hst:=Zgy (rs:=Up (fun j=>cn (-(Zh (rs.getD j z0)))) i (r+1)) (i:=i) (r:=cn (-(Zh (rs.getD i z0)))) (by rw[Kf];omega);rw[Dw (fun j=>cn (-(Zh (rs.getD j z0)))) i r] at hst;have h1:=Z0z rs.length (pc rs) n _ (n:Int) (i:Int) _ (rs.getD i z0) (-(Zh (rs.getD i z0))) (by simp;omega) (by omega) (by rw[Int.toNat_natCast];exact hx) hs (by omega) (by rw[Int.toNat_natCast];exact hst);rw[ei] at h1;exact Za.loop h1 (ih (i+1) (by omega))
theorem Zye (rs ss:List Rn) (hmk:0<=(rs.length:Int)/\(rs.length:Int)<=1048576) (hl:Za Yir (.loop Zl1) (Rl rs.length (pc rs) (Int.toNat (rs.length:Int)) (Ju [.bool false,.sl 0 []] (Int.toNat (rs.length:Int))) (rs.length:Int) 0) (.exit 0) (Rl rs.length (pc rs) (Int.toNat (rs.length:Int)) (pc ss) (rs.length:Int) (rs.length:Int))):Zc Yir 117 [.sl rs.length (pc rs)] (.fresh 2 (Int.toNat (rs.length:Int)) (pc ss)):=Zc.of_bodyW (fn:=Zlk) (s:=(.val (.sl rs.length (pc rs))::(dds 1 (.own 2 (Int.toNat (rs.length:Int)) (pc ss)::(dds 6 (.val (.int .i64 (rs.length:Int))::(.val (.int .i64 (rs.length:Int))::(dds 12 [])))))))) (ex := .ret) rfl rfl (Za.seq (Za.go (t:=(vp rs::(dds 1 (.own 2 0 []::(dds 20 []))))) Qd 300 [] [0,2] a0) (Za.seq (Za.go (t:=(vp rs::(dds 1 (.own 2 0 []::(.own 2 (Int.toNat (rs.length:Int)) (Ju [.bool false,.sl 0 []] (Int.toNat (rs.length:Int)))::(dds 1 (vp rs::(vi (rs.length:Int)::(dds 16 []))))))))) Qd 300 [] [0,2,3,5,6] (ac (show 0<=(rs.length:Int)/\(rs.length:Int)<=1048576 from hmk) a0)) (Za.seq (Za.seq (Za.go (t:=(vp rs::(dds 1 (.own 2 0 []::(.own 2 (Int.toNat (rs.length:Int)) (Ju [.bool false,.sl 0 []] (Int.toNat (rs.length:Int)))::(dds 5 (vi (rs.length:Int)::(vi 0::(dds 12 []))))))))) Qd 300 [] [0,2,3,9,10] a0) (Za.block hl)) (Za.go (t:=(vp rs::(dds 1 (.own 2 (Int.toNat (rs.length:Int)) (pc ss)::(dds 6 (vi (rs.length:Int)::(vi (rs.length:Int)::(dds 12 [])))))))) (ex := .ret) Qd 300 [] [0,2,9,10] a0)))) (by nofun) rfl
theorem Kn {rs:List Rn} (hg:∀ r∈rs,Q5 1048576 r) (hN:rs.length<=1048576):Zc Yir 117 [.sl rs.length (pc rs)] (.fresh 2 rs.length (pk (Vq (Zf rs)))):=by
 have hl:=Zqr rs hg hN rs.length (Nat.le_refl _) rs.length 0 (by omega);rw[Gy,<- A7] at hl;have h:=Zye rs _ (by omega) (by rw[Int.toNat_natCast];exact hl);rw[Int.toNat_natCast,Gz] at h;have e3:(List.range rs.length).map (fun j=>cn (-(Zh (rs.getD j z0))))=(Vq (Zf rs)).map cn:=by
  have hq:(Vq (Zf rs)).length=rs.length:=by simp[Vq,Zf]
  rw[<- Mz,hq];apply List.map_congr_left;intro i _;rw[Vk,Q1]
 rw[e3] at h;exact h
def TAA:J8:=TWC
theorem Ja:Q9 Yir TAA:=Qd
end Go.Proofs.YtopjpgejefileaaGreat

namespace Go.Proofs.YtopjpgejefileaaGreat
open Go.IntKind (i64 u64 u32)
open Go.Ai
set_option maxRecDepth 100000
def Nn (rs:List Rn) (w:Rn) (i:Int) (z:Rn):Zk:=(.val (.sl rs.length (pc rs))::(dds 1 (.box [.bool z.1,.sl z.2.length (lm z.2)]::(.box [.bool w.1,.sl w.2.length (lm w.2)]::(.val (.int .i64 i)::(dds 19 []))))))
theorem Zzp (rs:List Rn) (w:Rn) (i:Int) (z:Rn) (b g:Int) (c1:(decide (i>=0))=true) (c2:(b != 1)=true) (n1:0<=i/\i<(rs.length:Int)) (n2:Zc Yir 102 [Zp w] (.int .i64 b)) (n3:Zc Yir 159 [Zp w,Zp (rs.getD (Int.toNat i) z0)] (Zi g)):Za Yir Ze5 (Nn rs w i z) .norm (Nn rs (cn g) (i64.wrap (i-1)) z):=(Za.go Q8 400 [.b true,.r (.int .i64 b),.b true,.v (Zp (rs.getD (Int.toNat i) z0)),.r (Zi g)] [0,2,3,4] (ac c1 (ac n2 (ac c2 (ac n1 (ac (Z9 n1) (ac n3 a0)))))))
theorem Zzo (rs:List Rn) (w:Rn) (i:Int) (z:Rn) (b:Int) (c1:(decide (i>=0))=true) (c2:(b != 1)=false) (n1:Zc Yir 102 [Zp w] (.int .i64 b)):Za Yir Ze5 (Nn rs w i z) (.exit 0) (Nn rs w i z):=(Za.go Q8 400 [.b true,.r (.int .i64 b),.b false] [0,2,3,4] (ac c1 (ac n1 (ac c2 a0))))
theorem Zzn (rs:List Rn) (w:Rn) (i:Int) (z:Rn)  (c1:(decide (i>=0))=false):Za Yir Ze5 (Nn rs w i z) (.exit 0) (Nn rs w i z):=(Za.go Q8 400 [.b false,.b false] [0,2,3,4] (ac c1 (ac (show false=false from rfl) a0)))
theorem Zxv (rs:List Rn) (w z:Rn) (i:Int) (hl1:Za Yir (.loop Ze5) (Nn rs (false,[]) (i64.wrap ((rs.length:Int)-1)) (false,[])) (.exit 0) (Nn rs w i z)):Zc Yir 157 [.sl rs.length (pc rs)] (Zp w):=Zc.of_bodyW (fn:=Zk2) (s:=(dds 2 (.box [.bool w.1,.sl w.2.length (lm w.2)]::(dds 21 [])))) (ex := .ret) rfl rfl (Za.asc (Za.csi (Za.seq (Za.go Q8 400 [] [0,2,3,4] a0) (Za.seq (Za.block hl1) (Za.go Q8 400 [] [2] a0))))) (by nofun) rfl
def Np (k:Nat) (os:List Rn) (w:Rn) (n:Int) (i:Int):Zk:=(dds 3 (.own 2 k (pc os)::(.box [.bool w.1,.sl w.2.length (lm w.2)]::(dds 9 (.val (.int .i64 n)::(.val (.int .i64 i)::(dds 16 [])))))))
theorem Z03 (k:Nat) (os:List Rn) (w:Rn) (n:Int) (i:Int) (q r:Int) (c1:(decide (i<n))=true) (n1:0<=i/\i<(k:Int)) (n2:os.length=k) (n3:Zc Yir 158 [Zp (os.getD (Int.toNat i) z0),Zp w] (.tup [Zi q,Zi r])):Za Yir Ze7 (Np k os w n i) .norm (Np k (os.set (Int.toNat i) (cn q)) w n (i64.wrap (i+1))):=(Za.go Q8 400 [.b true,.v (Zp (os.getD (Int.toNat i) z0)),.r (.tup [Zi q,Zi r]),.l (pc (os.set (Int.toNat i) (cn q)))] [3,4,14,15] (ac c1 (ac n1 (ac (U7 n2 n1) (ac n3 (ac n1 (ac (Uw (r:=cn q) n2 n1) a0)))))))
theorem Z02 (k:Nat) (os:List Rn) (w:Rn) (n:Int) (i:Int)  (c1:(decide (i<n))=false):Za Yir Ze7 (Np k os w n i) (.exit 0) (Np k os w n i):=(Za.go Q8 400 [.b false] [3,4,14,15] (ac c1 a0))
theorem Zje (rs ts os:List Rn) (w:Rn) (g b n i:Int) (k:Nat) (c1:(decide (b>1))=true) (n1:Zc Yir 66 [.sl rs.length (pc rs)] (.fresh 2 ts.length (pc ts))) (n2:List.all (pc ts) (fun c => !isI c)=true) (n3:Vf (Zi g)=true) (n4:Zc Yir 157 [.sl ts.length (pc ts)] (Zi g)) (n5:Zc Yir 102 [Zi g] (.int .i64 b)) (hl6:Za Yir (.loop Ze7) (Np ts.length ts (cn g) (ts.length:Int) 0) (.exit 0) (Np k os w n i)):Zc Yir 115 [.sl rs.length (pc rs)] (.fresh 2 k (pc os)):=Zc.of_bodyW (fn:=Zey) (s:=(dds 2 (.own 2 k (pc os)::(dds 29 [])))) (ex := .ret) rfl rfl (Za.asc (Za.asc (Za.csi (Za.seq (Za.go (t:=(vp rs::(dds 1 (.own 2 0 []::(.own 2 ts.length (pc ts)::(bN g::(dds 7 (.val (.bool (decide (b>1)))::(dds 19 []))))))))) Q8 400 [.r (.fresh 2 ts.length (pc ts)),.r (Zi g),.r (.int .i64 b)] [0,2,3,4,12] (ac n1 (ac n2 (ac n3 (ac n4 (ac n5 a0)))))) (Za.seq (Za.cond_t (by rfl) c1 (Za.seq (Za.go Q8 400 [] [3,4,14,15] a0) (Za.block hl6))) (Za.go Q8 400 [] [2] a0)))))) (by nofun) rfl
theorem Zjd (rs ts:List Rn) (g b:Int) (c1:(decide (b>1))=false) (n1:Zc Yir 66 [.sl rs.length (pc rs)] (.fresh 2 ts.length (pc ts))) (n2:List.all (pc ts) (fun c => !isI c)=true) (n3:Vf (Zi g)=true) (n4:Zc Yir 157 [.sl ts.length (pc ts)] (Zi g)) (n5:Zc Yir 102 [Zi g] (.int .i64 b)):Zc Yir 115 [.sl rs.length (pc rs)] (.fresh 2 ts.length (pc ts)):=Zc.of_bodyW (fn:=Zey) (s:=(dds 2 (.own 2 ts.length (pc ts)::(dds 29 [])))) (ex := .ret) rfl rfl (Za.asc (Za.asc (Za.csi (Za.seq (Za.go (t:=(vp rs::(dds 1 (.own 2 0 []::(.own 2 ts.length (pc ts)::(bN g::(dds 7 (.val (.bool (decide (b>1)))::(dds 19 []))))))))) Q8 400 [.r (.fresh 2 ts.length (pc ts)),.r (Zi g),.r (.int .i64 b)] [0,2,3,4,12] (ac n1 (ac n2 (ac n3 (ac n4 (ac n5 a0)))))) (Za.seq (Za.cond_f (by rfl) c1 (Za.go (t:=(dds 2 (.own 2 0 []::(.own 2 ts.length (pc ts)::(dds 28 []))))) Q8 400 [] [2,3] a0)) (Za.go Q8 400 [] [2] a0)))))) (by nofun) rfl
theorem Zin (rs ts:List Rn) (s:Int) (c1:(decide ((rs.length:Int)>0))=true) (c2:(decide (s<0))=true) (n1:0<=(i64.wrap ((rs.length:Int)-1))/\(i64.wrap ((rs.length:Int)-1))<(rs.length:Int)) (n2:Zc Yir 101 [Zp (rs.getD (Int.toNat (i64.wrap ((rs.length:Int)-1))) z0)] (.int .i64 s)) (n3:Zc Yir 117 [.sl rs.length (pc rs)] (.fresh 2 ts.length (pc ts))):Zc Yir 155 [.sl rs.length (pc rs)] (.fresh 2 ts.length (pc ts)):=Zc.go (fn:=Zaq) Q8 rfl 400 rfl [.b true,.v (Zp (rs.getD (Int.toNat (i64.wrap ((rs.length:Int)-1))) z0)),.r (.int .i64 s),.b true,.r (.fresh 2 ts.length (pc ts))] (ac c1 (ac n1 (ac (Z9 n1) (ac n2 (ac c2 (ac n3 a0))))))
theorem Zim (rs:List Rn) (s:Int) (c1:(decide ((rs.length:Int)>0))=true) (c2:(decide (s<0))=false) (n1:0<=(i64.wrap ((rs.length:Int)-1))/\(i64.wrap ((rs.length:Int)-1))<(rs.length:Int)) (n2:Zc Yir 101 [Zp (rs.getD (Int.toNat (i64.wrap ((rs.length:Int)-1))) z0)] (.int .i64 s)):Zc Yir 155 [.sl rs.length (pc rs)] (.sl rs.length (pc rs)):=Zc.go (fn:=Zaq) Q8 rfl 400 rfl [.b true,.v (Zp (rs.getD (Int.toNat (i64.wrap ((rs.length:Int)-1))) z0)),.r (.int .i64 s),.b false] (ac c1 (ac n1 (ac (Z9 n1) (ac n2 (ac c2 a0)))))
theorem Zil (rs:List Rn) (c1:(decide ((rs.length:Int)>0))=false):Zc Yir 155 [.sl rs.length (pc rs)] (.sl rs.length (pc rs)):=Zc.go (fn:=Zaq) Q8 rfl 400 rfl [.b false,.b false] (ac c1 (ac (show false=false from rfl) a0))
def Rm (rs:List Rn) (k:Nat) (cs:List AV) (i:Int):Zk:=(.val (.sl rs.length (pc rs))::(dds 2 (.own 2 k cs::(.val (.int .i64 i)::(dds 18 [])))))
theorem Z01 (rs:List Rn) (k:Nat) (cs:List AV) (i:Int) (d v:Int) (c1:(decide (i<=d))=true) (n1:0<=i/\i<(rs.length:Int)) (n2:k+1<=1048576) (n3:Zc Yir 53 [.sl rs.length (pc rs)] (.int .i64 d)) (n4:Zc Yir 132 [.int .i64 i] (Zi i)) (n5:Zc Yir 112 [Zp (rs.getD (Int.toNat i) z0),Zi i] (Zi v)):Za Yir Zl2 (Rm rs k cs i) .norm (Rm rs (k+1) (cs++([.bool (decide (v<0)),.sl ((Zb (Int.natAbs v)).length) (lm (Zb (Int.natAbs v)))]:List AV)) (i64.wrap (i+1))):=(Za.go Q8 400 [.r (.int .i64 d),.b true,.v (Zp (rs.getD (Int.toNat i) z0)),.r (Zi i),.r (Zi v)] [0,3,4] (ac n3 (ac c1 (ac n1 (ac (Z9 n1) (ac n4 (ac n5 (ac (show List.length ([.bool (decide (v<0)),.sl ((Zb (Int.natAbs v)).length) (lm (Zb (Int.natAbs v)))]:List AV)=1*2 from rfl) (ac n2 a0)))))))))
theorem Z00 (rs:List Rn) (k:Nat) (cs:List AV) (i:Int) (d:Int) (c1:(decide (i<=d))=false) (n1:Zc Yir 53 [.sl rs.length (pc rs)] (.int .i64 d)):Za Yir Zl2 (Rm rs k cs i) (.exit 0) (Rm rs k cs i):=(Za.go Q8 400 [.r (.int .i64 d),.b false] [0,3,4] (ac n1 (ac c1 a0)))
theorem Zyf (rs os ts:List Rn) (k:Nat) (i:Int) (hl1:Za Yir (.loop Zl2) (Rm rs 0 ([]:List AV) 1) (.exit 0) (Rm rs k (pc os) i)) (n2:Zc Yir 66 [.sl k (pc os)] (.fresh 2 ts.length (pc ts))):Zc Yir 116 [.sl rs.length (pc rs)] (.fresh 2 ts.length (pc ts)):=Zc.of_bodyW (fn:=Zll) (s:=(dds 2 (.own 2 ts.length (pc ts)::(dds 20 [])))) (ex := .ret) rfl rfl (Za.asc (Za.csi (Za.seq (Za.go Q8 400 [] [0,3,4] a0) (Za.seq (Za.block hl1) (Za.go Q8 400 [.r (.fresh 2 ts.length (pc ts))] [2] (ac n2 a0)))))) (by nofun) rfl
def TRA:J8:=TQE
theorem Zl7:Q9 Yir TRA:=Q8
end Go.Proofs.YtopjpgejefileaaGreat

namespace Go.Ai
open Go.IntKind (i64 u64 u32)
def Jb:List Int->Nat
 | []=>0
 | x::xs=>Nat.gcd x.natAbs (Jb xs)
theorem H1 (d:Nat):∀ xs:List Int,d∣Jb xs↔∀ i,(d:Int)∣xs.getD i 0
 | []=>by simp[Jb]
 | x::xs=>by
  have ih:=H1 d xs;simp only[Jb,Nat.dvd_gcd_iff,ih];constructor
  ·rintro⟨h1,h2⟩ i;cases i with
   | zero=>simpa using Int.ofNat_dvd_left.2 h1
   | succ i=>simpa using h2 i
  ·intro h;refine⟨Int.ofNat_dvd_left.1 (by simpa using h 0),fun i=>by simpa using h (i+1)⟩
theorem Vy (xs:List Int) (i:Nat):(Jb xs:Int)∣xs.getD i 0:=(H1 _ xs).1 (Nat.dvd_refl _) i
theorem Li {xs ys:List Int} (h:∀ i,xs.getD i 0=ys.getD i 0):Jb xs=Jb ys :=
 Nat.dvd_antisymm ((H1 _ _).2 fun i=>h i ▸ Vy xs i) ((H1 _ _).2 fun i=>h i ▸ Vy ys i)
theorem P3 (xs:List Int):Jb (Ze xs)=Jb xs:=Li (Je xs)
theorem Hd {xs:List Int}:Jb xs=0↔∀ i,xs.getD i 0=0:=by
 constructor
 ·intro h i;have:=Vy xs i;rw[h] at this;exact Int.zero_dvd.1 this
 ·intro h;have:Jb xs=Jb []:=Li fun i=>by rw[h i];simp
  rw[this];rfl
theorem H2 (k:Int):∀ xs:List Int,Jb (Zy k xs)=k.natAbs*Jb xs
 | []=>rfl
 | x::xs=>by
  have ih:=H2 k xs;simp only[Zy,List.map_cons,Jb] at *
  rw[ih,Int.natAbs_mul,Nat.gcd_mul_left]
theorem Xi {xs:List Int}:Ze xs=[]↔∀ i,xs.getD i 0=0:=by
 constructor
 ·intro h i;rw[<- Je,h];simp
 ·intro h;have:Ze xs=Ze []:=Vd fun i=>by rw[h i];simp
  rw[this];rfl
theorem H3 {xs:List Int} (h:Ze xs ≠ []):0<Jb xs:=by
 rcases Nat.eq_zero_or_pos (Jb xs) with g | g
 ·exact absurd (Xi.2 (Hd.1 g)) h
 ·exact g
theorem Hm {k:Int} (hk:k ≠ 0) (xs:List Int):Ze (Zy k xs)=Zy k (Ze xs):=by
 have e:∀ n,Zz (Zy k xs) n=Zz xs n:=by
  intro n;induction n with
  | zero=>rfl
  | succ n ih =>
   simp only[Zz,ih,Z5];by_cases h:xs.getD n 0=0
   ·rw[h,Int.mul_zero]
   ·rw[if_neg h,if_neg (Int.mul_ne_zero hk h)]
 simp only[Ze];rw[e,show (Zy k xs).length=xs.length by simp[Zy]];simp[Zy,List.map_take]
def prim (xs:List Int):List Int:=(Ze xs).map fun x=>x / (Jb xs:Int)
theorem Wx (xs:List Int) (i:Nat):(prim xs).getD i 0=xs.getD i 0 / (Jb xs:Int):=by
 rw[<- Je xs i];simp only[prim,List.getD_eq_getElem?_getD,List.getElem?_map];cases (Ze xs)[i]? <;> simp
theorem Qr (xs:List Int):(prim xs).length=(Ze xs).length:=by simp [prim]
theorem Zbs (xs:List Int) (i:Nat):(Jb xs:Int)*(prim xs).getD i 0=xs.getD i 0:=by
 rw[Wx];exact Int.mul_ediv_cancel' (Vy xs i)
theorem Fc {xs ys:List Int} (h:∀ i,xs.getD i 0=ys.getD i 0):prim xs=prim ys:=by
 simp only[prim];rw[Vd h,Li h]
theorem Ve {xs:List Int}:prim xs=[]↔∀ i,xs.getD i 0=0:=by
 rw[<- Xi];simp[prim]
theorem Di {k:Int} (hk:0<k) (xs:List Int):prim (Zy k xs)=prim xs:=by
 simp only[prim];rw[Hm (by omega),H2];simp only[Zy,List.map_map];apply List.map_congr_left;intro x _;simp only[Function.comp];rw[Int.natCast_mul,Int.natAbs_of_nonneg (by omega),Int.mul_ediv_mul_of_pos _ _ hk]
theorem Td {k:Int} (hk:0<k) {xs ys:List Int} (h:∀ i,ys.getD i 0=k*xs.getD i 0):prim ys=prim xs:=by
 rw[<- Di hk xs];exact Fc fun i=>by rw[h,Z5]
theorem Zff {xs:List Int} (h:Zz xs xs.length=xs.length):Ze xs=xs:=by simp [Ze,h]
def Vn (xs:List Int):Prop:=Ze xs=xs
theorem K8 (xs:List Int):Vn (Ze xs):=As xs
theorem Vw {xs:List Int} (h:Vn xs) (hn:xs ≠ []):xs.getD (xs.length-1) 0 ≠ 0:=by
 have e:=congrArg List.length h;rw[Ug] at e;rcases Zbc xs xs.length with g | g
 ·rw[g] at e;exact absurd (List.eq_nil_of_length_eq_zero e.symm) hn
 ·rw[e] at g;exact g
theorem Tm {xs:List Int} (h:xs=[]\/xs.getD (xs.length-1) 0 ≠ 0):Vn xs:=by
 rcases h with rfl | h
 ·rfl
 ·cases hl:xs.length with
  | zero=>rw[List.eq_nil_of_length_eq_zero hl];rfl
  | succ n =>
   apply Zff;rw[hl];simp only[Zz];rw[if_neg (by rw[hl] at h;simpa using h)]
theorem Zdl {k:Int} (hk:k ≠ 0) {xs:List Int} (h:Vn xs):Vn (Zy k xs):=by
 unfold Vn;rw[Hm hk,h]
theorem Hr (xs:List Int):Zy (Jb xs) (prim xs)=Ze xs:=by
 apply Hy
 ·simp[Zy,Qr]
 ·intro i;rw[Z5,Zbs,Je]
theorem Qt (xs:List Int):Vn (prim xs):=by
 by_cases h:Ze xs=[]
 ·rw[Ve.2 (Xi.1 h)];rfl
 ·have hc:=H3 h;have h1:=K8 xs;rw[<- Hr] at h1;unfold Vn at h1 |-;rw[Hm (by omega)] at h1;have hinj:∀ a b:List Int,Zy (Jb xs) a=Zy (Jb xs) b->a=b:=by
   intro a b hab;have hl:=congrArg List.length hab;simp only[Zy,List.length_map] at hl;apply Hy hl;intro i;have:=congrArg (fun l:List Int=>l.getD i 0) hab;simp only[Z5] at this;exact Int.eq_of_mul_eq_mul_left (by omega) this
  exact hinj _ _ h1
theorem He {xs:List Int} (h:Ze xs ≠ []):Jb (prim xs)=1:=by
 have hc:=H3 h;have h1:=H2 (Jb xs) (prim xs);rw[Hr,P3,Int.natAbs_natCast] at h1;have h2:Jb xs*1=Jb xs*Jb (prim xs):=by rw[Nat.mul_one];exact h1
 exact (Nat.eq_of_mul_eq_mul_left hc h2).symm
theorem M1 {xs:List Int} (h:Jb xs=1):prim xs=Ze xs:=by
 simp only[prim,h];rw[show (fun x:Int=>x / ((1:Nat):Int))=id by funext x;simp];simp
theorem Qf (xs:List Int):prim (prim xs)=prim xs:=by
 by_cases h:Ze xs=[]
 ·rw[Ve.2 (Xi.1 h)];rfl
 ·rw[M1 (He h)];exact Qt xs
theorem Lf {K:Nat} {x:Int} (h:Jc K x) (c:Nat):Jc K (x / (c:Int))\/¬ (c:Int)∣x:=by
 by_cases hd:(c:Int)∣x
 ·left;obtain⟨y,rfl⟩:=hd;rcases Nat.eq_zero_or_pos c with h0 | h0
  ·subst h0;simpa using h
  ·rw[Int.mul_ediv_cancel_left _ (by omega)];unfold Jc at *
   rw[Int.natAbs_mul,Int.natAbs_natCast] at h;have:=Nat.le_mul_of_pos_left y.natAbs h0;omega
 ·exact Or.inr hd
theorem Zhe {K:Nat} {xs:List Int} (h:∀ i,Jc K (xs.getD i 0)) (i:Nat):Jc K ((prim xs).getD i 0):=by
 rw[Wx];rcases Lf (h i) (Jb xs) with g | g
 ·exact g
 ·exact absurd (Vy xs i) g
end Go.Ai

namespace Go.Ai
open Go.IntKind (i64 u64 u32)
def Kb (K:Nat) (r:List Int):Prop:=∀ i,Jc K (r.getD i 0)
theorem Kb.mono {J K:Nat} {r:List Int} (h:Kb J r) (hk:J<=K):Kb K r:=fun i=>(h i).mono hk
theorem Kb.mem {K:Nat} {r:List Int} (h:Kb K r):∀ x∈r,Jc K x:=fun x hx=>by
 obtain⟨i,hi,rfl⟩:=List.mem_iff_getElem.1 hx;have:=h i;rwa [List.getD_eq_getElem?_getD,List.getElem?_eq_getElem hi] at this
theorem Bx {K:Nat} {r:List Int} (h:∀ x∈r,Jc K x):Kb K r:=Pn h
theorem Kb.prim {K:Nat} {r:List Int} (h:Kb K r):Kb K (prim r):=Zhe h
theorem Kb.trim {K:Nat} {r:List Int} (h:Kb K r):Kb K (Ze r):=fun i=>by rw [Je];exact h i
def top (r:List Int):Int:=r.getD (r.length-1) 0
def Uz (r d:List Int) (a b:Int) (n:Nat):List Int:=(List.range n).map fun i=>if r.length-d.length<=i then a*r.getD i 0-b*d.getD (i-(r.length-d.length)) 0 else a*r.getD i 0
theorem Xa (r d:List Int) (a b:Int) (n:Nat):(Uz r d a b n).length=n:=by simp [Uz]
theorem Ww (f:Nat->Int) (n i:Nat):((List.range n).map f).getD i 0=if i<n then f i else 0:=by
 rw[List.getD_eq_getElem?_getD,List.getElem?_map];by_cases h:i<n
 ·rw[List.getElem?_range h,if_pos h];rfl
 ·rw[List.getElem?_eq_none (by simpa using h),if_neg h];rfl
theorem Ux (r d:List Int) (a b:Int) (n i:Nat):(Uz r d a b n).getD i 0=if i<n then (if r.length-d.length<=i then a*r.getD i 0-b*d.getD (i-(r.length-d.length)) 0 else a*r.getD i 0) else 0:=Ww _ _ _
theorem Lc {J K:Nat} {r d:List Int} {a b:Int} (hr:Kb J r) (hd:Kb K d) (ha:Jc K a) (hb:Jc J b) (n:Nat):Kb (J+K+1) (Uz r d a b n):=by
 intro i;rw[Ux];have h1:=(Jc.mul ha (hr i));have h2:=(Jc.mul hb (hd (i-(r.length-d.length))));rw[Nat.add_comm] at h1;split
 ·split
  ·exact h1.add h2.neg
  ·exact h1.mono (by omega)
 ·exact Vl _
theorem Py {r d:List Int} {a b:Int} (hd:d ≠ []) (hl:d.length<=r.length) (h:a*top r=b*top d) (i:Nat):(Uz r d a b r.length).getD i 0=(Uz r d a b (r.length-1)).getD i 0:=by
 have:=List.length_pos_iff.2 hd;rw[Ux,Ux];by_cases h1:i<r.length-1
 ·rw[if_pos h1,if_pos (by omega)]
 ·rw[if_neg h1];split
  ·have:i=r.length-1:=by omega
   subst this;rw[if_pos (by omega),show r.length-1-(r.length-d.length)=d.length-1 by omega];unfold top at h;omega
  ·rfl
theorem Zdq (r d:List Int) (k a b:Int) (n i:Nat):(Uz r d (k*a) (k*b) n).getD i 0=k*(Uz r d a b n).getD i 0:=by
 rw[Ux,Ux];split
 ·split
  ·rw[Int.mul_sub,Int.mul_assoc,Int.mul_assoc]
  ·rw[Int.mul_assoc]
 ·simp
theorem Zdr (r d:List Int) (c a b:Int) (n:Nat):Uz r (Zy c d) a b n=Uz r d a (b*c) n:=by
 apply Hy (by rw[Xa,Xa]);intro i;rw[Ux,Ux,Z5,show (Zy c d).length=d.length by simp[Zy]];rw[Int.mul_assoc]
def sg (n:Int):Int:=if n<0 then -1 else 1
theorem sg_mul (n:Int):sg n*n=(n.natAbs:Int):=by unfold sg;split <;> omega
def Uv (r d:List Int):List Int:=prim (Uz r d ((top d).natAbs:Int) (sg (top d)*top r) r.length)
def Vv:Nat->List Int->List Int->List Int
 | 0,r,_=>r
 | f+1,r,d=>if d.length<=r.length then Vv f (Uv r d) d else r
theorem Pd (r d:List Int):((top d).natAbs:Int)*top r=sg (top d)*top r*top d:=by
 rw[<- sg_mul];grind
theorem Pc {r d:List Int} (hd:d ≠ []) (hl:d.length<=r.length):Uv r d=prim (Uz r d ((top d).natAbs:Int) (sg (top d)*top r) (r.length-1)) :=
 Fc (Py hd hl (Pd r d))
theorem K3 {r d:List Int} (hd:d ≠ []) (hl:d.length<=r.length):(Uv r d).length<r.length:=by
 have:=List.length_pos_iff.2 hd;rw[Pc hd hl,Qr];have:=Qb (Uz r d ((top d).natAbs:Int) (sg (top d)*top r) (r.length-1));rw[Xa] at this;omega
theorem Zfd (c:Int) (d:List Int):top (Zy c d)=c*top d:=by
 unfold top;rw[Z5,show (Zy c d).length=d.length by simp[Zy]]
theorem Zcz {c:Int} (hc:0<c) (n:Int):sg (c*n)=sg n:=by
 unfold sg;have:c*n<0↔n<0:=by
  constructor
  ·intro h;apply Int.not_le.1;intro hn;have:=Int.mul_nonneg (show 0<=c by omega) hn;omega
  ·intro h;exact Int.mul_neg_of_pos_of_neg hc h
 simp only[this]
theorem Nz {r d:List Int} {c g a b:Int} (hc:0<c) (hg:0<g) (ha:g*a=((top d).natAbs:Int)) (hb:g*b=sg (top d)*top r):Uv r (Zy c d)=prim (Uz r d a b r.length):=by
 unfold Uv;rw[Zdr,Zfd,Zcz hc,Int.natAbs_mul];apply Td (k:=c*g) (Int.mul_pos hc hg);intro i;rw[<- Zdq];congr 2
 ·rw[Int.mul_assoc,ha,Int.natCast_mul,Int.natAbs_of_nonneg (by omega)]
 ·rw[Int.mul_assoc c g b,hb];grind
theorem Tc {c:Int} (hc:0<c) (r d:List Int):Uv r (Zy c d)=Uv r d:=by
 rw[Nz (g:=1) (a:=((top d).natAbs:Int)) (b:=sg (top d)*top r) hc (by decide) (by omega) (by omega)];rfl
theorem Sz {c:Int} (hc:0<c) (d:List Int):∀ (f:Nat) (r:List Int),Vv f r (Zy c d)=Vv f r d:=by
 intro f;induction f with
 | zero=>intro r;rfl
 | succ f ih =>
  intro r;simp only[Vv];rw[show (Zy c d).length=d.length by simp[Zy],Tc hc,ih]
theorem Zdk (r d:List Int):Vn (Uv r d):=Qt _
theorem Ua {K:Nat} {d:List Int} (h:Kb K d):Jc K (top d):=h _
theorem Ak {K:Nat} {n:Int} (h:Jc K n):Jc K (n.natAbs:Int):=by unfold Jc at *;rwa [Int.natAbs_natCast]
theorem Zwq {K:Nat} {m n:Int} (h:Jc K n):Jc K (sg m*n):=by
 unfold Jc sg at *;split <;> simpa using h
theorem La {J K:Nat} {r d:List Int} (hr:Kb J r) (hd:Kb K d):Kb (J+K+1) (Uv r d) :=
 (Lc hr hd (Ak (Ua hd)) (Zwq (Ua hr)) _).prim
theorem Zbm {d:List Int} (hd:d ≠ []) {K:Nat} (hK:Kb K d):∀ (f:Nat) (r:List Int) (J:Nat),r.length<=f->Vn r->Kb J r ->
  Vn (Vv f r d)/\(Vv f r d).length<d.length/\Kb (J+(r.length+1-d.length)*(K+1)) (Vv f r d):=by
 have hd1:=List.length_pos_iff.2 hd;intro f;induction f with
 | zero =>
  intro r J h1 h2 h3;exact⟨h2,by simp only[Vv];omega,h3.mono (Nat.le_add_right _ _)⟩
 | succ f ih =>
  intro r J h1 h2 h3;simp only[Vv];split
  ·rename_i hl;have hp:=K3 hd hl;obtain⟨a1,a2,a3⟩:=ih (Uv r d) (J+K+1) (by omega) (Zdk r d) (La h3 hK);refine⟨a1,a2,a3.mono ?_⟩;have e:((Uv r d).length+1-d.length)+1<=r.length+1-d.length:=by omega
   have:=Nat.mul_le_mul_right (K+1) e;rw[Nat.add_mul,Nat.one_mul] at this;omega
  ·exact⟨h2,by omega,h3.mono (Nat.le_add_right _ _)⟩
def J3 (x y:List Int):List Int:=Vv x.length x y
def Gv:Nat->List Int->List Int->List Int
 | 0,x,_=>x
 | f+1,x,y=>if y=[] then x else Gv f y (J3 x y)
def Qz (x:List Int):List Int:=if top x<0 then Vq x else x
theorem V0 (d:List Int):∀ (f:Nat) (r:List Int),prim r=r->prim (Vv f r d)=Vv f r d:=by
 intro f;induction f with
 | zero=>intro r h;exact h
 | succ f ih =>
  intro r h;simp only[Vv];split
  ·exact ih _ (Qf _)
  ·exact h
theorem Ql {r:List Int} (h:prim r=r):Vn r:=h ▸ Qt r
theorem Zfg {m l:Nat} (h:l<m):(m-l+2)*3^l<=3^m:=by
 obtain⟨k,rfl⟩:∃ k,m=l+1+k:=⟨m-l-1,by omega⟩;rw[show l+1+k-l+2=k+3 by omega,show l+1+k=(k+1)+l by omega,Nat.pow_add];apply Nat.mul_le_mul_right;clear h;induction k with
 | zero=>decide
 | succ k ih=>rw[Nat.pow_succ];omega
def phi (n m:Nat):Nat:=(n-m+2)*3^m
theorem Ht {x y:List Int} {M:Nat} (hM:0<M) (hx:Vn x) (hy:y ≠ []) (kx:Kb (M-1) x) (ky:Kb (M-1) y) (hl:y.length<=x.length) :
  Vn (J3 x y)/\(J3 x y).length<y.length/\Kb (M*(x.length-y.length+2)-1) (J3 x y):=by
 obtain⟨a,b,c⟩:=Zbm hy ky x.length x (M-1) (Nat.le_refl _) hx kx;refine⟨a,b,c.mono ?_⟩;rw[Nat.sub_add_cancel hM,show x.length+1-y.length=x.length-y.length+1 by omega,Nat.mul_comm _ M];have:M*(x.length-y.length+2)=M*(x.length-y.length+1)+M:=by rw[<- Nat.mul_succ]
 omega
theorem Hu {n m l M T:Nat} (hl:l<m) (h:M*phi n m<=T):M*(n-m+2)*phi m l<=T:=by
 refine Nat.le_trans ?_ h;unfold phi;rw[Nat.mul_assoc];apply Nat.mul_le_mul_left;apply Nat.mul_le_mul_left;exact Zfg hl
theorem Eg {n m c:Nat} (h:m<=n) (hn:n<=c):phi n m<=2*3^c:=by
 have h1:phi n m<=2*3^n:=by
  unfold phi;obtain⟨k,rfl⟩:∃ k,n=m+k:=⟨n-m,by omega⟩;rw[show m+k-m+2=k+2 by omega,Nat.pow_add,Nat.mul_comm (3^m),<- Nat.mul_assoc];apply Nat.mul_le_mul_right;clear h hn;induction k with
  | zero=>decide
  | succ k ih=>rw[Nat.pow_succ];omega
 exact Nat.le_trans h1 (Nat.mul_le_mul_left _ (Nat.pow_le_pow_right (by decide) hn))
def Qv (p:List Int):List Int:=Ze ((List.range (p.length-1)).map fun j=>p.getD (j+1) 0*((j+1:Nat):Int))
theorem Ub (p:List Int) (i:Nat):(Qv p).getD i 0=p.getD (i+1) 0*((i+1:Nat):Int):=by
 unfold Qv;rw[Je,Ww];split
 ·rfl
 ·rw[Qo (xs:=p) (by omega),Int.zero_mul]
end Go.Ai

namespace Go.Ai
open Go.IntKind (i64 u64 u32)
theorem Ph {a b:Int} {us bs cs:List Int} (h:∀ i,cs.getD i 0=a*us.getD i 0+b*bs.getD i 0) (x:Int):Zg cs x=a*Zg us x+b*Zg bs x:=by
 have e:Zg cs x=Zg (F8 (Zy a us) (Zy b bs)) x:=Vi (fun i=>by rw[h,Xm,Z5,Z5]) x;rw[e,Jf,Zq,Zq]
def V5 (k:Nat) (q:List Int):List Int:=List.replicate k 0++q
theorem Jo (k:Nat) (q:List Int) (i:Nat):(V5 k q).getD i 0=if k<=i then q.getD (i-k) 0 else 0:=by
 simp only[V5,List.getD_eq_getElem?_getD,List.getElem?_append,List.length_replicate];split
 ·rename_i h;rw[if_neg (by omega),List.getElem?_replicate_of_lt h];rfl
 ·rename_i h;rw[if_pos (by omega)]
theorem Wf (k:Nat) (q:List Int) (x:Int):Zg (V5 k q) x=x^k*Zg q x:=by
 induction k with
 | zero=>simp[V5]
 | succ k ih =>
  have:V5 (k+1) q=0::V5 k q:=by simp[V5,List.replicate_succ]
  rw[this];simp only[Zg];rw[ih,Int.pow_succ];grind
theorem Pz {r d:List Int} (hl:d.length<=r.length) (a b x:Int):Zg (Uz r d a b r.length) x=a*Zg r x-b*(x^(r.length-d.length)*Zg d x):=by
 rw[<- Wf];have:=Ph (a:=a) (b := -b) (us:=r) (bs:=V5 (r.length-d.length) d) (cs:=Uz r d a b r.length) (fun i=>by
  rw[Ux,Jo];by_cases h:i<r.length
  ·rw[if_pos h];split
   ·rw[Int.neg_mul];omega
   ·simp
  ·rw[if_neg h,Qo (show r.length<=i by omega)];have:d.getD (i-(r.length-d.length)) 0=0:=Qo (by omega);split
   ·rw[this];simp
   ·simp) x
 rw[this,Int.neg_mul];omega
theorem Xn (a:Int) (p q:List Int) (i:Nat):(U1 (a::p) q).getD i 0=a*q.getD i 0+(V5 1 (U1 p q)).getD i 0:=by
 simp only[U1];rw[Xm,Z5];rfl
theorem Ag:∀ (p q:List Int),p ≠ []->q ≠ []->(U1 p q).getD (p.length+q.length-2) 0=top p*top q/\∀ i,p.length+q.length-1<=i->(U1 p q).getD i 0=0
 | [],q,h,_=>absurd rfl h
 | [a],q,_,hq=>by
  have hq1:=List.length_pos_iff.2 hq;refine⟨?_,fun i hi => ?_⟩
  ·rw[Xn,Jo,show [a].length+q.length-2=q.length-1 by simp;omega];simp[U1,top]
  ·rw[Xn,Jo,Qo (show q.length<=i by simp at hi;omega)];simp[U1]
 | a::b::p,q,_,hq=>by
  have hq1:=List.length_pos_iff.2 hq;obtain⟨h1,h2⟩:=Ag (b::p) q (by simp) hq;refine⟨?_,fun i hi => ?_⟩
  ·rw[Xn,Jo,if_pos (by simp;omega)];simp only[List.length_cons] at *
   rw[Qo (show q.length<=p.length+1+1+q.length-2 by omega),show p.length+1+1+q.length-2-1=p.length+1+q.length-2 by omega,h1];simp[top]
  ·rw[Xn,Jo];simp only[List.length_cons] at *
   rw[Qo (show q.length<=i by omega)];split
   ·rw[h2 _ (by omega)];simp
   ·simp
theorem Jt {p:List Int} (h:Ze p=[]) (x:Int):Zg p x=0:=by rw [<- V2,h];rfl
theorem A8 {p q o1 r1 o2 r2:List Int} {c1 c2:Int} (hq:Vn q) (hq0:q ≠ []) (h1:∀ x,c1*Zg p x=Zg q x*Zg o1 x+Zg r1 x) (h2:∀ x,c2*Zg p x=Zg q x*Zg o2 x+Zg r2 x)
  (z1:∀ i,q.length-1<=i->r1.getD i 0=0) (z2:∀ i,q.length-1<=i->r2.getD i 0=0) (i:Nat):c2*o1.getD i 0=c1*o2.getD i 0:=by
 have hql:=List.length_pos_iff.2 hq0;have hD:Ze (Zdb (Zy c2 o1) (Zy c1 o2))=[]:=by
  apply Classical.byContradiction;intro hD;have hev:∀ x,Zg (U1 q (Ze (Zdb (Zy c2 o1) (Zy c1 o2)))) x=Zg (Zdb (Zy c1 r2) (Zy c2 r1)) x:=by
   intro x;rw[Qa,V2,X2,X2,Zq,Zq,Zq,Zq];have a:=h1 x;have b:=h2 x;grind
  generalize hDD:Ze (Zdb (Zy c2 o1) (Zy c1 o2))=D at *
  have hDl:Vn D:=hDD ▸ K8 _;have hD1:=List.length_pos_iff.2 hD;have h3:=(Ag q D hq0 hD).1;rw[Un hev,Et,Z5,Z5,z1 _ (by omega),z2 _ (by omega)] at h3;have t1:=Vw hq hq0;have t2:=Vw hDl hD;rw[Int.mul_zero,Int.mul_zero,Int.sub_zero] at h3;exact Int.mul_ne_zero t1 t2 h3.symm
 have:=Xi.1 hD i;rw[Et,Z5,Z5] at this;omega
theorem Ec {o1 o2:List Int} {c1 c2:Int} (hc1:0<c1) (hc2:0<c2) (h:∀ i,c2*o1.getD i 0=c1*o2.getD i 0):prim o1=prim o2:=by
 rw[<- Di hc2 o1,<- Di hc1 o2];exact Fc fun i=>by rw[Z5,Z5];exact h i
def K0 (r q:List Int) (l:Int) (k:Nat):List Int:=(List.range r.length).map fun i=>if k<=i then r.getD i 0-l*q.getD (i-k) 0 else r.getD i 0
theorem Hz (r q:List Int) (l:Int) (k i:Nat) (hk:k+q.length<=r.length):(K0 r q l k).getD i 0=r.getD i 0-l*(V5 k q).getD i 0:=by
 rw[K0,Ww,Jo];split
 ·split <;> simp
 ·rw[Qo (show r.length<=i by omega),Qo (xs:=q) (show q.length<=i-k by omega)];simp
theorem Uk (r q:List Int) (l:Int) (k:Nat):(K0 r q l k).length=r.length:=by simp [K0]
def E0 (q:List Int):Nat->List Int->List Int->List Int
 | 0,_,out=>out
 | k+1,r,out=>E0 q k (K0 (Zy (top q) r) q (r.getD (k+q.length-1) 0) k) ((Zy (top q) out).set k (r.getD (k+q.length-1) 0))
theorem Zx (a:Int) (q:List Int):(Zy a q).length=q.length:=by simp [Zy]
theorem Zwz {p q:List Int} (hq0:q ≠ []) (ht:0<top q):∀ (k:Nat) (r out:List Int) (c:Int),0<c->k<=out.length->out.length+q.length=r.length+1->(∀ i,k+q.length-1<=i->r.getD i 0=0)->(∀ i,i<k->out.getD i 0=0) ->
  (∀ x,c*Zg p x=Zg q x*Zg out x+Zg r x) ->
  ∃ c' r',0<c'/\(∀ i,q.length-1<=i->r'.getD i 0=0)/\(E0 q k r out).length=out.length/\∀ x,c'*Zg p x=Zg q x*Zg (E0 q k r out) x+Zg r' x:=by
 have hql:=List.length_pos_iff.2 hq0;intro k;induction k with
 | zero =>
  intro r out c hc _ _ hz _ he;exact⟨c,r,hc,fun i hi=>hz i (by omega),rfl,he⟩
 | succ k ih =>
  intro r out c hc hk hl hz hz2 he;simp only[E0];generalize hlead:r.getD (k+q.length-1) 0=l at *
  have hkr:k+q.length<=(Zy (top q) r).length:=by rw[Zx];omega
  obtain⟨c',r',a1,a2,a3,a4⟩:=ih (K0 (Zy (top q) r) q l k) ((Zy (top q) out).set k l) (top q*c) (Int.mul_pos ht hc) (by rw[List.length_set,Zx];omega) (by rw[List.length_set,Zx,Uk,Zx];exact hl)
   (fun i hi=>by
    rw[Hz _ _ _ _ _ hkr,Z5,Jo];by_cases h1:i=k+q.length-1
    ·subst h1;rw[hlead,if_pos (by omega),show k+q.length-1-k=q.length-1 by omega];unfold top;grind
    ·rw[hz i (by omega),Qo (xs:=q) (show q.length<=i-k by omega)];simp)
   (fun i hi=>by rw[Qq (by omega),Z5,hz2 i (by omega),Int.mul_zero])
   (fun x=>by
    rw[Pg _ _ _ _ (by rw[Zx];omega),Z5,hz2 k (by omega),Zq];have e:=Ph (a:=1) (b := -l) (us:=Zy (top q) r) (bs:=V5 k q) (cs:=K0 (Zy (top q) r) q l k) (fun i=>by rw[Hz _ _ _ _ _ hkr,Int.neg_mul];omega) x;rw[e,Zq,Wf];have:=he x;grind)
  exact⟨c',r',a1,a2,by rw[a3,List.length_set,Zx],a4⟩
theorem Ma {p q:List Int} (hq0:q ≠ []) (ht:0<top q) (hl:q.length<=p.length):∃ c' r',0<c'/\(∀ i,q.length-1<=i->r'.getD i 0=0)/\(E0 q (p.length-q.length+1) p (List.replicate (p.length-q.length+1) 0)).length=p.length-q.length+1 /\
  ∀ x,c'*Zg p x=Zg q x*Zg (E0 q (p.length-q.length+1) p (List.replicate (p.length-q.length+1) 0)) x+Zg r' x:=by
 have hql:=List.length_pos_iff.2 hq0;have h:=Zwz (p:=p) hq0 ht (p.length-q.length+1) p (List.replicate (p.length-q.length+1) 0) 1 (by decide) (by simp) (by simp;omega) (fun i hi=>Qo (by omega)) (fun i _=>Jn _ _) (fun x=>by rw[Eh];omega);rw[List.length_replicate] at h;exact h
def Ti (d:List Int):Nat->List Int->List Int->List Int
 | 0,_,out=>out
 | f+1,r,out=>if d.length<=r.length then Ti d f (Ze (Uz r d (top d) (top r) (r.length-1))) ((Zy (top d) out).set (r.length-d.length) (top r)) else out
theorem K7 {r d:List Int} (hd0:d ≠ []) (hl:d.length<=r.length):(Ze (Uz r d (top d) (top r) (r.length-1))).length<r.length:=by
 have:=List.length_pos_iff.2 hd0;have:=Qb (Uz r d (top d) (top r) (r.length-1));rw[Xa] at this;omega
theorem Zwl {p d:List Int} (hd0:d ≠ []) (ht:0<top d):∀ (f:Nat) (r out:List Int) (c:Int),r.length<=f->0<c->r.length+1<=out.length+d.length->(∀ i,i+d.length<=r.length->out.getD i 0=0) ->
  (∀ x,c*Zg p x=Zg d x*Zg out x+Zg r x) ->
  ∃ c' r',0<c'/\(∀ i,d.length-1<=i->r'.getD i 0=0)/\(Ti d f r out).length=out.length/\∀ x,c'*Zg p x=Zg d x*Zg (Ti d f r out) x+Zg r' x:=by
 have hdl:=List.length_pos_iff.2 hd0;intro f;induction f with
 | zero =>
  intro r out c hf hc _ _ he;exact⟨c,r,hc,fun i hi=>Qo (by omega),rfl,he⟩
 | succ f ih =>
  intro r out c hf hc hl hz he;simp only[Ti];split
  ·rename_i hg;have hlen:=K7 hd0 hg;obtain⟨c',r',a1,a2,a3,a4⟩:=ih (Ze (Uz r d (top d) (top r) (r.length-1))) ((Zy (top d) out).set (r.length-d.length) (top r)) (top d*c) (by omega) (Int.mul_pos ht hc) (by rw[List.length_set,Zx];omega)
    (fun i hi=>by rw[Qq (by omega),Z5,hz i (by omega),Int.mul_zero])
    (fun x=>by
     rw[Pg _ _ _ _ (by rw[Zx];omega),Z5,hz _ (by omega),Zq,V2];have e1:Zg (Uz r d (top d) (top r) (r.length-1)) x=Zg (Uz r d (top d) (top r) r.length) x:=Vi (fun i=>(Py hd0 hg (Int.mul_comm _ _) i).symm) x;rw[e1,Pz hg];have:=he x;grind)
   exact⟨c',r',a1,a2,by rw[a3,List.length_set,Zx],a4⟩
  ·rename_i hg;exact⟨c,r,hc,fun i hi=>Qo (by omega),rfl,he⟩
theorem Dn {p d:List Int} (hd0:d ≠ []) (ht:0<top d) (hl:d.length<=p.length):∃ c' r',0<c'/\(∀ i,d.length-1<=i->r'.getD i 0=0)/\(Ti d p.length p (List.replicate (p.length-d.length+1) 0)).length=p.length-d.length+1 /\
  ∀ x,c'*Zg p x=Zg d x*Zg (Ti d p.length p (List.replicate (p.length-d.length+1) 0)) x+Zg r' x:=by
 have h:=Zwl (p:=p) hd0 ht p.length p (List.replicate (p.length-d.length+1) 0) 1 (Nat.le_refl _) (by decide) (by simp;omega) (fun i _=>Jn _ _) (fun x=>by rw[Eh];omega);rw[List.length_replicate] at h;exact h
theorem Zwy {p q:List Int} (hq:Vn q) (hq0:q ≠ []) (ht:0<top q) (hl:q.length<=p.length):prim (E0 q (p.length-q.length+1) p (List.replicate (p.length-q.length+1) 0))=prim (Ti q p.length p (List.replicate (p.length-q.length+1) 0)):=by
 obtain⟨c1,r1,a1,a2,_,a4⟩:=Ma hq0 ht hl;obtain⟨c2,r2,b1,b2,_,b4⟩:=Dn hq0 ht hl;exact Ec a1 b1 (A8 hq hq0 a4 b4 a2 b2)
theorem Zbp {p q o r:List Int} {c:Int} (hc:0<c) (hp:0<top p) (hq0:q ≠ []) (ht:0<top q) (hl:q.length<=p.length) (ho:o.length=p.length-q.length+1) (h:∀ x,c*Zg p x=Zg q x*Zg o x+Zg r x) (z:∀ i,q.length-1<=i->r.getD i 0=0):0<top o:=by
 have hql:=List.length_pos_iff.2 hq0;have ho0:o ≠ []:=by intro h0;rw[h0] at ho;simp at ho
 have h3:=(Ag q o hq0 ho0).1;have hev:∀ x,Zg (Zy c p) x=Zg (F8 (U1 q o) r) x:=fun x=>by rw[Zq,Jf,Qa];exact h x
 have h4:=Un hev (p.length-1);rw[Z5,Xm,z _ (by omega),show p.length-1=q.length+o.length-2 by omega,h3,Int.add_zero] at h4;have h5:0<top q*top o:=by
  rw[<- h4,show q.length+o.length-2=p.length-1 by omega];exact Int.mul_pos hc hp
 exact Int.pos_of_mul_pos_right h5 ht |> fun h=>h
theorem D6 {o:List Int} (h:0<top o):0<top (prim o):=by
 have hl:Vn o:=Tm (Or.inr (by unfold top at h;omega));unfold top;rw[Qr,hl,Wx];have hc:0<Jb o:=H3 (by rw[hl];intro h0;rw[h0] at h;simp[top] at h);have hd:=Zbs o (o.length-1);rw[Wx] at hd;unfold top at h;rw[<- hd] at h;exact Int.pos_of_mul_pos_right h (by omega)
end Go.Ai

namespace Go.Proofs.YtopjpgejefileaaGreat
open Go.IntKind (i64 u64 u32)
open Go.Ai
set_option maxRecDepth 100000
theorem Zch {n:Nat}:W1 n=1↔n=1:=by
 unfold W1;split
 ·omega
 ·rename_i h;constructor
  ·intro h1;have h2:Nat.log2 n=0:=by omega
   have:=(Nat.log2_eq_iff h).1 h2;omega
  ·rintro rfl;decide
theorem Zhy {n:Nat}:1<W1 n↔1<n:=by
 have h1:=Zch (n:=n);have h0:W1 n=0↔n=0:=by unfold W1;split <;> omega
 omega
theorem Kt (n:Int):(cn n).2.length=(Zb n.natAbs).length:=rfl
theorem Zhr {rs:List Rn} {n:Nat} (h:n<rs.length):(Zf rs).drop n=Zh (rs.getD n z0)::(Zf rs).drop (n+1):=by
 rw[List.drop_eq_getElem_cons (by rw[Zn];exact h)];congr 1;rw[<- Q1,List.getD_eq_getElem?_getD,List.getElem?_eq_getElem (by rw[Zn];exact h)];rfl
theorem Lh {K:Nat} {p:List Int} (h:∀ x∈p,Jc K x):Jc K ((Jb p:Nat):Int):=by
 by_cases h0:Ze p=[]
 ·rw[Hd.2 (Xi.1 h0)];exact Vl K
 ·have hc:=H3 h0;have:∃ i,p.getD i 0 ≠ 0:=Classical.byContradiction fun hn=>h0 (Xi.2 fun i=>Classical.byContradiction fun hi=>hn ⟨i,hi⟩);obtain⟨i,hi⟩:=this;have hd:=Vy p i;have hf:=Pn h i;unfold Jc at *
  rw[Int.natAbs_natCast];have:=Nat.le_of_dvd (by omega) (Int.ofNat_dvd_left.1 hd);omega
theorem Zhu {p:List Int} (n:Nat):Jb p∣Jb (p.drop n):=by
 rw[H1];intro i;have:=Vy p (n+i);rw[List.getD_eq_getElem?_getD] at this |-;rwa [List.getElem?_drop]
theorem Zqk {K:Nat} {rs:List Rn} {z:Rn} (hg:∀ r∈rs,Q5 K r) (hK:K<1048576) (hN:rs.length<=1048576):∀ n,n<=rs.length ->
  ∃ i',Za Yir (.loop Ze5) (Nn rs (cn (Jb ((Zf rs).drop n):Nat)) ((n:Int)-1) z) (.exit 0) (Nn rs (cn (Jb (Zf rs):Nat)) i' z):=by
 intro n;induction n with
 | zero =>
  intro _;rw[List.drop_zero];exact⟨_,Za.loop_out (Zzn rs _ _ z (by simp)) (by nofun)⟩
 | succ n ih =>
  intro hn;have e0:((n+1:Nat):Int)-1=(n:Int):=by omega
  have e1:i64.wrap ((n:Int)-1)=(n:Int)-1:=w64 (by omega) (by omega);have hf:Jc K ((Jb ((Zf rs).drop (n+1)):Nat):Int):=Lh fun x hx=>Q2 hg x (List.mem_of_mem_drop hx);have hl:=hf.len;have hb:=Aq (neg:=(cn (Jb ((Zf rs).drop (n+1)):Nat)).1) (xs:=(cn (Jb ((Zf rs).drop (n+1)):Nat)).2) (Qk _) (by rw[Kt];omega);rw[show rv (cn (Jb ((Zf rs).drop (n+1)):Nat)).1 (cn (Jb ((Zf rs).drop (n+1)):Nat)).2=(Jb ((Zf rs).drop (n+1)):Nat) from Z0 _,Int.natAbs_natCast] at hb;rw[e0];by_cases h1:Jb ((Zf rs).drop (n+1))=1
  ·have hc:Jb (Zf rs)=1:=by
    have:=Zhu (p:=Zf rs) (n+1);rw[h1] at this;exact Nat.dvd_one.1 this
   rw[h1] at hb |-;rw[hc];exact⟨_,Za.loop_out (Zzo rs _ (n:Nat) z _ (by simp) (by decide) hb) (by nofun)⟩
  ·obtain⟨g1,g2⟩:=Z1 hg n;have hgc:=Za3 (na:=(cn (Jb ((Zf rs).drop (n+1)):Nat)).1) (nb:=(rs.getD n z0).1) (xs:=(cn (Jb ((Zf rs).drop (n+1)):Nat)).2) (ys:=(rs.getD n z0).2) (Qk _) g1 (by rw[Kt];omega) (by omega);rw[show rv (cn (Jb ((Zf rs).drop (n+1)):Nat)).1 (cn (Jb ((Zf rs).drop (n+1)):Nat)).2=(Jb ((Zf rs).drop (n+1)):Nat) from Z0 _,show rv (rs.getD n z0).1 (rs.getD n z0).2=Zh (rs.getD n z0) from rfl] at hgc;have hstep:(Int.gcd ((Jb ((Zf rs).drop (n+1)):Nat):Int) (Zh (rs.getD n z0)))=Jb ((Zf rs).drop n):=by
    rw[Zhr (n:=n) (by omega),Jb,Int.gcd,Int.natAbs_natCast,Nat.gcd_comm]
   rw[hstep] at hgc;have k1:=Zzp rs (cn (Jb ((Zf rs).drop (n+1)):Nat)) (n:Nat) z _ _ (by simp) (by
    rw[bne_iff_ne];have:=Zch (n:=Jb ((Zf rs).drop (n+1)));omega) (by omega) hb (by rw[Int.toNat_natCast];exact hgc)
   rw[e1] at k1;obtain⟨i',h⟩:=ih (by omega);exact⟨i',Za.loop k1 h⟩
theorem Rf {K:Nat} {rs:List Rn} (hg:∀ r∈rs,Q5 K r) (hK:K<1048576) (hN:rs.length<=1048576):Zc Yir 157 [.sl rs.length (pc rs)] (Zi (Jb (Zf rs):Nat)):=by
 obtain⟨i',h⟩:=Zqk (z:=z0) hg hK hN rs.length (Nat.le_refl _);rw[show (Zf rs).drop rs.length=[] by rw[<- Zn,List.drop_length],show cn ((Jb []:Nat):Int)=z0 from rfl] at h;exact Zxv rs (cn (Jb (Zf rs):Nat)) z0 i' (by rw[w64 (by omega) (by omega)];exact h)
theorem Ho {x g:Int} (hg:0<g) (h:g∣x):Int.tdiv x g=x / g:=by
 obtain⟨y,rfl⟩:=h;rw[Int.mul_tdiv_cancel_left _ (by omega),Int.mul_ediv_cancel_left _ (by omega)]
theorem Jw {K:Nat} {rs:List Rn} (hg:∀ r∈rs,Q5 K r) (hK:K<1048576) (hN:rs.length<=1048576):Zc Yir 115 [.sl rs.length (pc rs)] (.fresh 2 (prim (Zf rs)).length (pk (prim (Zf rs)))):=by
 have ht:=W3 (fun r h=>(hg r h).mono (show K<=1048576 by omega)) hN;have hfT:∀ x∈Ze (Zf rs),Jc K x:=Xj (Q2 hg);have gts:=Kc hfT;have hvs:=Z3 (Ze (Zf rs));have hll:=Qb (Zf rs);rw[Zn] at hll;have hpk:pk (Ze (Zf rs))=pc ((Ze (Zf rs)).map cn):=rfl;rw[hpk,<- List.length_map (f:=cn)] at ht;have hlm:((Ze (Zf rs)).map cn).length=(Ze (Zf rs)).length:=List.length_map ..;have hc:=Rf gts hK (by omega);rw[hvs,P3] at hc;have hfc:Jc K ((Jb (Zf rs):Nat):Int):=Lh (Q2 hg);have hlc:=hfc.len;have hb:=Aq (neg:=(cn (Jb (Zf rs):Nat)).1) (xs:=(cn (Jb (Zf rs):Nat)).2) (Qk _) (by rw[Kt];omega);rw[show rv (cn (Jb (Zf rs):Nat)).1 (cn (Jb (Zf rs):Nat)).2=(Jb (Zf rs):Nat) from Z0 _,Int.natAbs_natCast] at hb;by_cases h1:1<Jb (Zf rs)
 ·have hgd:∀ t,Zh (((Ze (Zf rs)).map cn).getD t z0)=(Ze (Zf rs)).getD t 0:=fun t=>by rw[<- Q1,hvs]
  have key:∀ ts:List Rn,ts.length=(Ze (Zf rs)).length->(∀ r∈ts,Q5 K r)->(∀ t,Zh (ts.getD t z0)=(Ze (Zf rs)).getD t 0) ->
    Za Yir (.loop Ze7) (Np ts.length ts (cn (Jb (Zf rs):Nat)) (ts.length:Nat) 0) (.exit 0) (Np ts.length ((prim (Zf rs)).map cn) (cn (Jb (Zf rs):Nat)) (ts.length:Nat) (ts.length:Nat)):=by
   intro ts hl gt hv;have hlp:((prim (Zf rs)).map cn).length=ts.length:=by rw[List.length_map,Qr,hl]
   have h:=Za.up (prog:=Yir) (c:=Ze7) (ex := .exit 0) (fin:=Np ts.length ((prim (Zf rs)).map cn) (cn (Jb (Zf rs):Nat)) (ts.length:Nat) (ts.length:Nat))
    (fun i=>Np ts.length (((prim (Zf rs)).map cn).take i++ts.drop i) (cn (Jb (Zf rs):Nat)) (ts.length:Nat) (i:Nat)) ts.length (by nofun) ?_ ?_ 0 (Nat.zero_le _)
   ·exact h
   ·intro i hi;have ei:i64.wrap ((i:Int)+1)=((i+1:Nat):Int):=by rw[w64 (by omega) (by omega)];omega
    have hlen:(((prim (Zf rs)).map cn).take i++ts.drop i).length=ts.length:=by rw[List.length_append,List.length_take,List.length_drop];omega
    have hget:(((prim (Zf rs)).map cn).take i++ts.drop i).getD i z0=ts.getD i z0:=by
     rw[List.getD_eq_getElem?_getD,List.getD_eq_getElem?_getD,List.getElem?_append_right (by rw[List.length_take];omega),List.length_take,List.getElem?_drop];congr 2;omega
    obtain⟨g1,g2⟩:=Z1 gt i;have hq:=Aa (na:=(ts.getD i z0).1) (nb:=(cn (Jb (Zf rs):Nat)).1) (xs:=(ts.getD i z0).2) (ys:=(cn (Jb (Zf rs):Nat)).2) g1 (Qk _) (by rw[show rv (cn (Jb (Zf rs):Nat)).1 (cn (Jb (Zf rs):Nat)).2=(Jb (Zf rs):Nat) from Z0 _];omega) (by omega) (by rw[Kt];omega);rw[show rv (cn (Jb (Zf rs):Nat)).1 (cn (Jb (Zf rs):Nat)).2=(Jb (Zf rs):Nat) from Z0 _,show rv (ts.getD i z0).1 (ts.getD i z0).2=Zh (ts.getD i z0) from rfl,hv,Je] at hq;have k:=Z03 ts.length (((prim (Zf rs)).map cn).take i++ts.drop i) (cn (Jb (Zf rs):Nat)) (ts.length:Nat) (i:Nat) _ _ (by simp;omega) (by omega) hlen (by rw[Int.toNat_natCast,hget];exact hq);refine k.to rfl ?_;rw[ei,Int.toNat_natCast,Ho (by omega) (Vy (Zf rs) i),<- Wx];congr 1;apply List.ext_getElem?;intro t;have hpi:((prim (Zf rs)).map cn)[i]?=some (cn ((prim (Zf rs)).getD i 0)):=by
     rw[List.getElem?_map,List.getD_eq_getElem?_getD,List.getElem?_eq_getElem (by rw[List.length_map] at hlp;omega)];rfl
    rcases Nat.lt_trichotomy t i with g | g | g
    ·rw[List.getElem?_set_ne (by omega),List.getElem?_append_left (by rw[List.length_take];omega),List.getElem?_append_left (by rw[List.length_take];omega),List.getElem?_take_of_lt g,List.getElem?_take_of_lt (by omega)]
    ·subst g;rw[List.getElem?_set_self (by omega),List.getElem?_append_left (by rw[List.length_take];omega),List.getElem?_take_of_lt (by omega),hpi]
    ·rw[List.getElem?_set_ne (by omega),List.getElem?_append_right (by rw[List.length_take];omega),List.getElem?_append_right (by rw[List.length_take];omega),List.length_take,List.length_take,List.getElem?_drop,List.getElem?_drop];congr 1;omega
   ·rw[List.take_of_length_le (by omega),List.drop_length,List.append_nil];exact Z02 ts.length _ _ (ts.length:Nat) (ts.length:Nat) (by simp)
  have hl:=key _ hlm gts hgd;have h:=Zje rs ((Ze (Zf rs)).map cn) _ _ _ _ _ _ _ (by rw[decide_eq_true_eq];have:=(Zhy (n:=Jb (Zf rs))).2 h1;omega) ht (Zu3 _) (Bf _) hc hb hl;rw[hlm,<- Qr] at h;exact h
 ·have h:=Zjd rs ((Ze (Zf rs)).map cn) _ _ (by rw[decide_eq_false_iff_not];have:=(Zhy (n:=Jb (Zf rs))).1;omega) ht (Zu3 _) (Bf _) hc hb;have hp:prim (Zf rs)=Ze (Zf rs):=by
   rcases Nat.eq_zero_or_pos (Jb (Zf rs)) with g | g
   ·rw[Ve.2 (Hd.1 g),Xi.2 (Hd.1 g)]
   ·exact M1 (by omega)
  rw[hp];rw[hlm] at h;exact h
theorem Zg0 (rs:List Rn):Zh (rs.getD (rs.length-1) z0)=top (Zf rs):=by unfold top;rw [Q1,Zn]
theorem Ln {rs:List Rn} (hg:∀ r∈rs,Q5 1048576 r) (hN:rs.length<=1048576) : 
  (top (Zf rs)<0->Zc Yir 155 [.sl rs.length (pc rs)] (.fresh 2 rs.length (pk (Vq (Zf rs)))))/\(¬ top (Zf rs)<0->Zc Yir 155 [.sl rs.length (pc rs)] (.sl rs.length (pc rs))):=by
 by_cases h0:0<rs.length
 ·have e1:i64.wrap ((rs.length:Int)-1)=((rs.length-1:Nat):Int):=by rw[w64 (by omega) (by omega)];omega
  obtain⟨g1,g2⟩:=Z1 hg (rs.length-1);have hs:=G3 (neg:=(rs.getD (rs.length-1) z0).1) g1 g2;rw[show rv (rs.getD (rs.length-1) z0).1 (rs.getD (rs.length-1) z0).2=Zh (rs.getD (rs.length-1) z0) from rfl,Zg0] at hs;refine⟨fun h => ?_,fun h => ?_⟩
  ·have hn:=Kn hg hN;have hpk:pk (Vq (Zf rs))=pc ((Vq (Zf rs)).map cn):=rfl;have hll:((Vq (Zf rs)).map cn).length=rs.length:=by rw[List.length_map,X1,Zn]
   rw[hpk] at hn |-;rw[<- hll] at hn |-;have hn':Zc Yir 117 [.sl rs.length (pc rs)] (.fresh 2 ((Vq (Zf rs)).map cn).length (pc ((Vq (Zf rs)).map cn))):=by
    have:=Kn hg hN;rw[hll];exact this
   rw[hll];have k:=Zin rs ((Vq (Zf rs)).map cn) (Xd (top (Zf rs))) (by simp;omega) (by unfold Xd;rw[if_pos h];rfl) (by rw[e1];omega) (by rw[e1,Int.toNat_natCast];exact hs) hn';rw[hll] at k;exact k
  ·exact Zim rs (Xd (top (Zf rs))) (by simp;omega) (by unfold Xd;rw[if_neg h];split <;> rfl) (by rw[e1];omega) (by rw[e1,Int.toNat_natCast];exact hs)
 ·have hz:rs=[]:=List.eq_nil_of_length_eq_zero (by omega);subst hz;refine⟨fun h=>absurd h (by decide),fun _=>Zil [] (by decide)⟩
theorem Bi {K:Nat} {rs:List Rn} (hg:∀ r∈rs,Q5 K r) (hK:K+2<=1048576) (hN:rs.length<=1048576):Zc Yir 116 [.sl rs.length (pc rs)] (.fresh 2 (Qv (Zf rs)).length (pk (Qv (Zf rs)))):=by
 have hd:=V3 (fun r h=>(hg r h).mono (show K<=1048576 by omega)) hN;have hle:=V4 (Zf rs) rs.length;have hl:=Za.up (prog:=Yir) (c:=Zl2) (ex := .exit 0) (fin:=Rm rs (Zz (Zf rs) rs.length-1) (pc ((List.range (Zz (Zf rs) rs.length-1)).map fun j=>cn (Zh (rs.getD (j+1) z0)*((j+1:Nat):Int)))) ((Zz (Zf rs) rs.length-1+1:Nat):Int))
  (fun i=>Rm rs i (pc ((List.range i).map fun j=>cn (Zh (rs.getD (j+1) z0)*((j+1:Nat):Int)))) ((i+1:Nat):Int)) (Zz (Zf rs) rs.length-1) (by nofun) ?_ ?_ 0 (Nat.zero_le _)
 ·have hfit:∀ r∈(List.range (Zz (Zf rs) rs.length-1)).map (fun j=>cn (Zh (rs.getD (j+1) z0)*((j+1:Nat):Int))),Q5 1048576 r:=by
   intro r hr;obtain⟨j,hj,rfl⟩:=List.mem_map.1 hr;rw[List.mem_range] at hj;have h2:Jc 2 ((j+1:Nat):Int):=Aj (by omega);exact (Qi ((Z1 hg (j+1)).fits.mul h2)).mono (by omega)
  have ht:=W3 hfit (by rw[List.length_map,List.length_range];omega);have hlen:((List.range (Zz (Zf rs) rs.length-1)).map (fun j=>cn (Zh (rs.getD (j+1) z0)*((j+1:Nat):Int)))).length=Zz (Zf rs) rs.length-1:=by rw[List.length_map,List.length_range]
  have e:Ze (Zf ((List.range (Zz (Zf rs) rs.length-1)).map (fun j=>cn (Zh (rs.getD (j+1) z0)*((j+1:Nat):Int)))))=Qv (Zf rs):=by
   unfold Qv;apply Vd;intro i;rw[Wr,Ww,Z0,Q1,Zn];by_cases h1:i<Zz (Zf rs) rs.length-1
   ·rw[if_pos h1,if_pos (by omega)]
   ·rw[if_neg h1];split
    ·have:Zh (rs.getD (i+1) z0)=0:=by rw[<- Q1];exact G9 (Zf rs) rs.length (i+1) (by omega) (by omega)
     rw[this,Int.zero_mul]
    ·rfl
  rw[e,hlen] at ht;have hpk:pk (Qv (Zf rs))=pc ((Qv (Zf rs)).map cn):=rfl;rw[hpk,<- List.length_map (f:=cn)] at ht |-;exact Zyf rs _ _ _ _ hl ht
 ·intro i hi;have ei:i64.wrap (((i+1:Nat):Int)+1)=((i+1+1:Nat):Int):=by rw[w64 (by omega) (by omega)];omega
  obtain⟨g1,g2⟩:=Z1 hg (i+1);have ho:=Zv6 (n:=((i+1:Nat):Int)) (by omega);have hfi:Jc 2 ((i+1:Nat):Int):=Aj (by omega);have hm:=Mp (na:=(rs.getD (i+1) z0).1) (nb:=decide (((i+1:Nat):Int)<0)) (xs:=(rs.getD (i+1) z0).2) (ys:=Zb ((i+1:Nat):Int).natAbs) g1 (Qk _) (by have:=hfi.len;omega);rw[Vh] at hm;have k:=Z01 rs i (pc ((List.range i).map fun j=>cn (Zh (rs.getD (j+1) z0)*((j+1:Nat):Int)))) ((i+1:Nat):Int) (((Zz (Zf rs) rs.length:Nat):Int)-1) (Zh (rs.getD (i+1) z0)*((i+1:Nat):Int)) (by simp;omega) (by omega) (by omega) hd ho (by rw[Int.toNat_natCast];exact hm);refine k.to rfl ?_;rw[ei];congr 1;rw[List.range_succ,List.map_append,Ff];rfl
 ·exact Z00 rs _ _ _ _ (by rw[decide_eq_false_iff_not];omega) hd
def TRB:J8:=TRA
theorem Z4:Q9 Yir TRB:=Zl7
end Go.Proofs.YtopjpgejefileaaGreat

namespace Go.Proofs.YtopjpgejefileaaGreat
open Go.IntKind (i64 u64 u32)
open Go.Ai
set_option maxRecDepth 100000
theorem Zu8 {n:Int} {xs:List Int} (hu:U32 xs) (h0:0<=n) (h:n<=Zj xs):(lz n).length<=xs.length :=
 Fo (by have:=J2 hu;omega)
theorem Zu6 {n:Int} (h:0<=n):Zj (lz n)=n:=by unfold lz;rw [Qs];omega
theorem Zbo {na nb:Bool} {xs ys:List Int} (hx:U32 xs) (hy:U32 ys) (h0:rv nb ys ≠ 0) (h1:xs.length<1000000) (h2:ys.length<1000000) :
  Zc Yir 138 [.agg [.bool na,.sl xs.length (lm xs)],.agg [.bool nb,.sl ys.length (lm ys)]] (.tup [Zi (Int.tdiv (rv na xs) (rv nb ys)),Zi (Int.tmod (rv na xs) (rv nb ys))]):=by
 have cx:=Xr hx;have cy:=Xr hy;have t1:=Qb xs;have t2:=Qb ys;have hX:=Zv hx;have hY:0<Zj ys:=by
  have:=Zv hy;rcases Int.lt_or_le 0 (Zj ys) with h | h
  ·exact h
  ·have hz:Zj ys=0:=by omega
   exact absurd (by unfold rv;rw[hz];cases nb <;> rfl) h0
 have hy0:Ze ys ≠ []:=by
  intro e;have:=J4 ys;rw[e] at this;simp only[Zj] at this;omega
 have hd:=Zds cx cy hy0 (by omega) (by omega);rw[J4,J4] at hd;have hq0:0<=Zj xs / Zj ys:=Int.ediv_nonneg hX (by omega);have hq1:Zj xs / Zj ys<=Zj xs:=Int.ediv_le_self _ hX;have hr0:=Int.emod_nonneg (Zj xs) (show Zj ys ≠ 0 by omega);have hr1:Zj xs % Zj ys<=Zj xs:=by
  have:=Int.mul_ediv_add_emod (Zj xs) (Zj ys);have:=Int.mul_nonneg (show 0<=Zj ys by omega) hq0;omega
 have l1:=Zu8 hx hq0 hq1;have l2:=Zu8 hx hr0 hr1;have m1:=U8 (neg := !(na==nb)) (xs:=lz (Zj xs / Zj ys)) (Qk _) (by omega);have m2:=U8 (neg:=na) (xs:=lz (Zj xs % Zj ys)) (Qk _) (by omega);have e1:rv (!(na==nb)) (lz (Zj xs / Zj ys))=Int.tdiv (rv na xs) (rv nb ys):=by
  unfold rv;rw[Zu6 hq0,<- Int.tdiv_eq_ediv_of_nonneg hX];cases na <;> cases nb <;> simp[Int.neg_tdiv,Int.tdiv_neg]
 have e2:rv na (lz (Zj xs % Zj ys))=Int.tmod (rv na xs) (rv nb ys):=by
  unfold rv;rw[Zu6 hr0,<- Int.tmod_eq_emod_of_nonneg hX];cases na <;> cases nb <;> simp[Int.neg_tmod,Int.tmod_neg]
 rw[e1] at m1;rw[e2] at m2;exact Zx2 na nb xs ys _ _ _ _ (J9 (by omega)) (J9 (by omega)) hd m1 m2
theorem Zhv (n:Int):U32 (cn n).2:=Qk _
theorem Mt (n:Int):rv (cn n).1 (cn n).2=n:=Z0 n
theorem Zqj:∀ (n X Y:Nat),Y<=n->(Zb X).length<1000000->(Zb Y).length<1000000->Za Yir (.loop R5) (Bm (cn (X:Nat)) (cn (Y:Nat))) (.exit 0) (Bm (cn (Nat.gcd X Y:Nat)) (cn 0)):=by
 intro n;induction n with
 | zero =>
  intro X Y hY _ _;have:Y=0:=by omega
  subst this;rw[Nat.gcd_zero_right];exact Za.loop_out (Zcn (cn (X:Nat)) (cn 0) (by decide) (Ut (neg:=(cn 0).1) (xs:=(cn 0).2) (Zhv _) (by decide))) (by nofun)
 | succ n ih =>
  intro X Y hY h1 h2;by_cases h0:Y=0
  ·subst h0;rw[Nat.gcd_zero_right];exact Za.loop_out (Zcn (cn (X:Nat)) (cn 0) (by decide) (Ut (neg:=(cn 0).1) (xs:=(cn 0).2) (Zhv _) (by decide))) (by nofun)
  ·have hs:=Ut (neg:=(cn (Y:Nat)).1) (xs:=(cn (Y:Nat)).2) (Qk _) (by rw[Kt,Int.natAbs_natCast];omega);have hd:=Zbo (na:=(cn (X:Nat)).1) (nb:=(cn (Y:Nat)).1) (xs:=(cn (X:Nat)).2) (ys:=(cn (Y:Nat)).2) (Qk _) (Qk _) (by rw[Mt];omega) (by rw[Kt,Int.natAbs_natCast];omega) (by rw[Kt,Int.natAbs_natCast];omega);rw[Mt,Mt] at hd;rw[Mt] at hs;have em:Int.tmod (X:Int) (Y:Int)=((X % Y:Nat):Int):=by rw[Int.tmod_eq_emod_of_nonneg (by omega)];omega
   rw[em] at hd;have k:=Zqu (cn (X:Nat)) (cn (Y:Nat)) _ _ (by rw[Z0,bne_iff_ne];unfold Xd; (repeat' split) <;> omega) (by rw[Z0];exact hs) hd
   have hlt:X % Y<Y:=Nat.mod_lt _ (by omega);have hle:(Zb (X % Y)).length<=(Zb Y).length:=by
    apply Fo;have:=J2 (Qh Y).1;rw[Qs] at this;omega
   have r:=ih Y (X % Y) (by omega) h2 (by omega);rw[Nat.gcd_comm X Y,Nat.gcd_rec Y X,Nat.gcd_comm (X % Y) Y];exact Za.loop k r
theorem S7 {na nb:Bool} {xs ys:List Int} (hx:U32 xs) (hy:U32 ys) (h1:xs.length<1000000) (h2:ys.length<1000000) :
  Zc Yir 164 [.agg [.bool na,.sl xs.length (lm xs)],.agg [.bool nb,.sl ys.length (lm ys)]] (Zi (Int.gcd (rv na xs) (rv nb ys):Nat)):=by
 have m1:=U8 (neg:=false) hx (by omega);have m2:=U8 (neg:=false) hy (by omega);have l1:=Ul (neg:=na) hx;have l2:=Ul (neg:=nb) hy;have e1:rv false xs=(((rv na xs).natAbs:Nat):Int):=by
  have:=Zv hx;unfold rv;cases na <;> simp <;> omega
 have e2:rv false ys=(((rv nb ys).natAbs:Nat):Int):=by
  have:=Zv hy;unfold rv;cases nb <;> simp <;> omega
 rw[e1] at m1;rw[e2] at m2;exact Zxr na nb xs ys _ _ _ _ m1 m2 (Zqj _ (rv na xs).natAbs (rv nb ys).natAbs (Nat.le_refl _) (by omega) (by omega))
theorem T4 (a b:List Int):Jb (a++b)=Nat.gcd (Jb a) (Jb b):=by
 induction a with
 | nil=>simp[Jb]
 | cons x a ih=>simp only[List.cons_append,Jb,ih,Nat.gcd_assoc]
theorem Ni {rs:List Rn} {i:Nat} (h:i<rs.length):(Zf rs).take (i+1)=(Zf rs).take i++[Zh (rs.getD i z0)]:=by
 rw[List.take_succ_eq_append_getElem (by rw[Zn];exact h)];congr 2;rw[<- Q1,List.getD_eq_getElem?_getD,List.getElem?_eq_getElem (by rw[Zn];exact h)];rfl
theorem Zc9 {K:Nat} {rs:List Rn} (hg:∀ r∈rs,Q5 K r) (hK:K<1000000) (hN:rs.length<=1048576):Zc Yir 137 [.sl rs.length (pc rs)] (Zi (Jb (Zf rs):Nat)):=by
 have h:=Za.up (prog:=Yir) (c:=Zlx) (ex := .exit 0) (fin:=Rj rs (cn (Jb (Zf rs):Nat)) (rs.length:Nat))
  (fun i=>Rj rs (cn (Jb ((Zf rs).take i):Nat)) (i:Nat)) rs.length (by nofun) ?_ ?_ 0 (Nat.zero_le _)
 ·exact Zx3 rs (cn (Jb (Zf rs):Nat)) _ h
 ·intro i hi;have ei:i64.wrap ((i:Int)+1)=((i+1:Nat):Int):=by rw[w64 (by omega) (by omega)];omega
  obtain⟨g1,g2⟩:=Z1 hg i;have hf:Jc K ((Jb ((Zf rs).take i):Nat):Int):=Lh fun x hx=>Q2 hg x (List.mem_of_mem_take hx);have hl:=hf.len;have hc:=S7 (na:=(cn (Jb ((Zf rs).take i):Nat)).1) (nb:=(rs.getD i z0).1) (xs:=(cn (Jb ((Zf rs).take i):Nat)).2) (ys:=(rs.getD i z0).2) (Qk _) g1 (by rw[Kt];omega) (by omega);rw[Mt] at hc;have k:=Z0j rs (cn (Jb ((Zf rs).take i):Nat)) (i:Nat) _ (by simp;omega) (by omega) (by rw[Int.toNat_natCast];exact hc);refine k.to rfl ?_;rw[ei,Ni hi,T4];congr 2;show ((Nat.gcd (((Jb ((Zf rs).take i):Nat):Int)).natAbs (Zh (rs.getD i z0)).natAbs:Nat):Int)=_;rw[Int.natAbs_natCast];simp[Jb]
 ·rw[List.take_of_length_le (by rw[Zn];omega)];exact Z0i rs _ _ (by simp)
theorem Uh (g:Nat->Int) (i:Nat):pc ((List.range i).map fun j=>cn (g j))++([.bool (decide (g i<0)),.sl (Zb (g i).natAbs).length (lm (Zb (g i).natAbs))]:List AV)=pc ((List.range (i+1)).map fun j=>cn (g j)):=by
 rw[Gi (fun j=>cn (g j)),<- Zge];rfl
theorem Zhd {K:Nat} {x:Int} (h:Jc K x) (c:Int):Jc K (Int.tdiv x c):=by
 unfold Jc at *
 have:(Int.tdiv x c).natAbs=x.natAbs / c.natAbs:=Int.natAbs_tdiv x c;have:=Nat.div_le_self x.natAbs c.natAbs;omega
theorem V6 {K:Nat} {rs:List Rn} (hg:∀ r∈rs,Q5 K r) (hK:K<1000000) (hN:rs.length<=1048576):Zc Yir 86 [.sl rs.length (pc rs)] (.fresh 2 (prim (Zf rs)).length (pk (prim (Zf rs)))):=by
 have hi:=Zc9 hg hK hN;have hfc:Jc K ((Jb (Zf rs):Nat):Int):=Lh (Q2 hg);have hlc:=hfc.len;have hs:=Ut (neg:=(cn (Jb (Zf rs):Nat)).1) (xs:=(cn (Jb (Zf rs):Nat)).2) (Qk _) (by rw[Kt];omega);rw[Mt] at hs;by_cases h0:Jb (Zf rs)=0
 ·rw[Ve.2 (Hd.1 h0)];exact Zoi rs _ (by rw[h0];rfl) hi hs
 ·have h:=Za.up (prog:=Yir) (c:=Yc86) (ex := .exit 0) (fin:=Zvn rs (cn (Jb (Zf rs):Nat)) rs.length (pc ((List.range rs.length).map fun j=>cn (Int.tdiv (Zh (rs.getD j z0)) (Jb (Zf rs):Nat)))) (rs.length:Nat))
   (fun i=>Zvn rs (cn (Jb (Zf rs):Nat)) i (pc ((List.range i).map fun j=>cn (Int.tdiv (Zh (rs.getD j z0)) (Jb (Zf rs):Nat)))) (i:Nat)) rs.length (by nofun) ?_ ?_ 0 (Nat.zero_le _)
  ·have hgo:∀ r∈(List.range rs.length).map (fun j=>cn (Int.tdiv (Zh (rs.getD j z0)) (Jb (Zf rs):Nat))),Q5 1048576 r:=Fr fun j _=>(Qi (Zhd (Z1 hg j).fits _)).mono (by omega);have ht:=Xf hgo (by rw[List.length_map,List.length_range];exact hN);have e:Ze (Zf ((List.range rs.length).map (fun j=>cn (Int.tdiv (Zh (rs.getD j z0)) (Jb (Zf rs):Nat)))))=prim (Zf rs):=by
    rw[<- Qt (Zf rs)];apply Vd;intro i;rw[Wr,Z0,Wx,<- Q1];by_cases h1:i<rs.length
    ·rw[if_pos h1,Ho (by omega) (Vy _ _)]
    ·rw[if_neg h1,Qo (by rw[Zn];omega),Int.zero_ediv]
   rw[e,List.length_map,List.length_range] at ht;have hpk:pk (prim (Zf rs))=pc ((prim (Zf rs)).map cn):=rfl;rw[hpk,<- List.length_map (f:=cn)] at ht |-;exact Zoh rs _ _ _ _ _ (by rw[beq_eq_false_iff_ne];unfold Xd; (repeat' split) <;> omega) hi hs h ht
  ·intro i hi2;have ei:i64.wrap ((i:Int)+1)=((i+1:Nat):Int):=by rw[w64 (by omega) (by omega)];omega
   obtain⟨g1,g2⟩:=Z1 hg i;have hd:=Zbo (na:=(rs.getD i z0).1) (nb:=(cn (Jb (Zf rs):Nat)).1) (xs:=(rs.getD i z0).2) (ys:=(cn (Jb (Zf rs):Nat)).2) g1 (Qk _) (by rw[Mt];omega) (by omega) (by rw[Kt];omega);rw[Mt] at hd;have k:=Yk86_1 rs (cn (Jb (Zf rs):Nat)) i (pc ((List.range i).map fun j=>cn (Int.tdiv (Zh (rs.getD j z0)) (Jb (Zf rs):Nat)))) (i:Nat) _ _ (by simp;omega) (by omega) (by omega) (by rw[Int.toNat_natCast];exact hd);refine k.to rfl ?_;rw[ei,<- Uh (fun j=>Int.tdiv (Zh (rs.getD j z0)) (Jb (Zf rs):Nat)) i];rfl
  ·exact Yk86_2 rs _ _ _ _ (by simp)
theorem Zbr {K:Nat} {rs:List Rn} (hg:∀ r∈rs,Q5 K r) (hK:K+2<=1000000) (hN:rs.length<=1048576):Zc Yir 122 [.sl rs.length (pc rs)] (.fresh 2 (Qv (Zf rs)).length (pk (Qv (Zf rs)))):=by
 have h:=Za.up (prog:=Yir) (c:=Zl0) (ex := .exit 0) (fin:=Rk rs (rs.length-1) (pc ((List.range (rs.length-1)).map fun j=>cn (((j+1:Nat):Int)*Zh (rs.getD (j+1) z0)))) ((rs.length-1+1:Nat):Int))
  (fun i=>Rk rs i (pc ((List.range i).map fun j=>cn (((j+1:Nat):Int)*Zh (rs.getD (j+1) z0)))) ((i+1:Nat):Int)) (rs.length-1) (by nofun) ?_ ?_ 0 (Nat.zero_le _)
 ·have hgo:∀ r∈(List.range (rs.length-1)).map (fun j=>cn (((j+1:Nat):Int)*Zh (rs.getD (j+1) z0))),Q5 1048576 r:=Fr fun j hj=>by
   have h2:Jc 2 ((j+1:Nat):Int):=Aj (by omega);exact (Qi (h2.mul (Z1 hg (j+1)).fits)).mono (by omega)
  have ht:=Xf hgo (by rw[List.length_map,List.length_range];omega);have e:Ze (Zf ((List.range (rs.length-1)).map (fun j=>cn (((j+1:Nat):Int)*Zh (rs.getD (j+1) z0)))))=Qv (Zf rs):=by
   unfold Qv;apply Vd;intro i;rw[Wr,Ww,Z0,Q1,Zn,Int.mul_comm]
  rw[e,List.length_map,List.length_range] at ht;have hpk:pk (Qv (Zf rs))=pc ((Qv (Zf rs)).map cn):=rfl;rw[hpk,<- List.length_map (f:=cn)] at ht |-;exact Zya rs _ _ _ _ h ht
 ·intro i hi;have ei:i64.wrap (((i+1:Nat):Int)+1)=((i+1+1:Nat):Int):=by rw[w64 (by omega) (by omega)];omega
  obtain⟨g1,g2⟩:=Z1 hg (i+1);have ho:=Zu4 (n:=((i+1:Nat):Int)) (by omega);have hfi:Jc 2 ((i+1:Nat):Int):=Aj (by omega);have hm:=Dd (na:=(cn ((i+1:Nat):Int)).1) (nb:=(rs.getD (i+1) z0).1) (xs:=(cn ((i+1:Nat):Int)).2) (ys:=(rs.getD (i+1) z0).2) (Zhv _) g1 (by rw[Kt];have:=hfi.len;omega);rw[Mt] at hm;have k:=Z0t rs i (pc ((List.range i).map fun j=>cn (((j+1:Nat):Int)*Zh (rs.getD (j+1) z0)))) ((i+1:Nat):Int) (by simp;omega) (by omega) (by omega) ho (by rw[Int.toNat_natCast];exact hm);refine k.to rfl ?_;rw[ei,<- Uh (fun j=>((j+1:Nat):Int)*Zh (rs.getD (j+1) z0)) i,Int.toNat_natCast]
 ·exact Z0s rs _ _ _ (by rw[decide_eq_false_iff_not];omega)
theorem Zbq {rs:List Rn} (hg:∀ r∈rs,Q5 1048576 r) (hN:rs.length<=1048576):Zc Yir 153 [.sl rs.length (pc rs)] (.fresh 2 (Ze (Vq (Zf rs))).length (pk (Ze (Vq (Zf rs))))):=by
 have h:=Za.up (prog:=Yir) (c:=Zlw) (ex := .exit 0) (fin:=Ri rs rs.length (pc ((List.range rs.length).map fun j=>cn (-Zh (rs.getD j z0)))) (rs.length:Nat))
  (fun i=>Ri rs i (pc ((List.range i).map fun j=>cn (-Zh (rs.getD j z0)))) (i:Nat)) rs.length (by nofun) ?_ ?_ 0 (Nat.zero_le _)
 ·have hgo:∀ r∈(List.range rs.length).map (fun j=>cn (-Zh (rs.getD j z0))),Q5 1048576 r:=Fr fun j _=>Qi (Z1 hg j).fits.neg;have ht:=Xf hgo (by rw[List.length_map,List.length_range];exact hN);have e:Ze (Zf ((List.range rs.length).map (fun j=>cn (-Zh (rs.getD j z0)))))=Ze (Vq (Zf rs)):=by
   apply Vd;intro i;rw[Wr,Z0,Vk,<- Q1];split
   ·rfl
   ·rw[Qo (by rw[Zn];omega)];rfl
  rw[e,List.length_map,List.length_range] at ht;have hpk:pk (Ze (Vq (Zf rs)))=pc ((Ze (Vq (Zf rs))).map cn):=rfl;rw[hpk,<- List.length_map (f:=cn)] at ht |-;exact Zxx rs _ _ _ _ h ht
 ·intro i hi;have ei:i64.wrap ((i:Int)+1)=((i+1:Nat):Int):=by rw[w64 (by omega) (by omega)];omega
  obtain⟨g1,g2⟩:=Z1 hg i;have k:=Zzt rs i (pc ((List.range i).map fun j=>cn (-Zh (rs.getD j z0)))) (i:Nat) (by simp;omega) (by omega) (by omega) (by rw[Int.toNat_natCast];exact Mx g1 g2);refine k.to rfl ?_;rw[ei,<- Uh (fun j => -Zh (rs.getD j z0)) i,Int.toNat_natCast]
 ·exact Zzs rs _ _ _ (by simp)
end Go.Proofs.YtopjpgejefileaaGreat

namespace Go.Proofs.YtopjpgejefileaaGreat
open Go.IntKind (i64 u64 u32)
open Go.Ai
set_option maxRecDepth 100000
def Wi (qs:List Rn) (k:Nat) (rs:List Rn) (t:Rn) (a:Rn) (b:Rn) (at1:Int) (n:Int) (i:Int):Zk:=(dds 1 (.val (.sl qs.length (pc qs))::(dds 3 (.own 2 k (pc rs)::(.box [.bool t.1,.sl t.2.length (lm t.2)]::(dds 2 (.box [.bool a.1,.sl a.2.length (lm a.2)]::(dds 1 (.box [.bool b.1,.sl b.2.length (lm b.2)]::(dds 1 (.val (.int .i64 at1)::(dds 49 (.val (.int .i64 n)::(.val (.int .i64 i)::(dds 34 [])))))))))))))))
theorem Zsf (qs:List Rn) (k:Nat) (rs:List Rn) (t:Rn) (a:Rn) (b:Rn) (at1:Int) (n:Int) (i:Int)  (c1:(decide (i<n))=true) (c2:(decide (i>=at1))=true) (n1:0<=i/\i<(k:Int)) (n2:rs.length=k) (n3:(rs.set (Int.toNat i) (cn ((Zh (rs.getD (Int.toNat i) z0))*(Zh a)))).length=k) (n4:0<=(i64.wrap (i-at1))/\(i64.wrap (i-at1))<(qs.length:Int)) (n5:Zc Yir 112 [Zp (rs.getD (Int.toNat i) z0),Zp a] (Zi ((Zh (rs.getD (Int.toNat i) z0))*(Zh a)))) (n6:Zc Yir 112 [Zp b,Zp (qs.getD (Int.toNat (i64.wrap (i-at1))) z0)] (Zi ((Zh b)*(Zh (qs.getD (Int.toNat (i64.wrap (i-at1))) z0))))) (n7:Zc Yir 127 [Zp ((rs.set (Int.toNat i) (cn ((Zh (rs.getD (Int.toNat i) z0))*(Zh a)))).getD (Int.toNat i) z0),Zi ((Zh b)*(Zh (qs.getD (Int.toNat (i64.wrap (i-at1))) z0)))] (Zi ((Zh ((rs.set (Int.toNat i) (cn ((Zh (rs.getD (Int.toNat i) z0))*(Zh a)))).getD (Int.toNat i) z0))-((Zh b)*(Zh (qs.getD (Int.toNat (i64.wrap (i-at1))) z0)))))):Za Yir Bu (Wi qs k rs t a b at1 n i) .norm (Wi qs k ((rs.set (Int.toNat i) (cn ((Zh (rs.getD (Int.toNat i) z0))*(Zh a)))).set (Int.toNat i) (cn ((Zh ((rs.set (Int.toNat i) (cn ((Zh (rs.getD (Int.toNat i) z0))*(Zh a)))).getD (Int.toNat i) z0))-((Zh b)*(Zh (qs.getD (Int.toNat (i64.wrap (i-at1))) z0)))))) t a b at1 n (i64.wrap (i+1))):=(Za.go Z4 400 [.b true,.v (Zp (rs.getD (Int.toNat i) z0)),.r (Zi ((Zh (rs.getD (Int.toNat i) z0))*(Zh a))),.l (pc (rs.set (Int.toNat i) (cn ((Zh (rs.getD (Int.toNat i) z0))*(Zh a))))),.b true,.v (Zp ((rs.set (Int.toNat i) (cn ((Zh (rs.getD (Int.toNat i) z0))*(Zh a)))).getD (Int.toNat i) z0)),.v (Zp (qs.getD (Int.toNat (i64.wrap (i-at1))) z0)),.r (Zi ((Zh b)*(Zh (qs.getD (Int.toNat (i64.wrap (i-at1))) z0)))),.r (Zi ((Zh ((rs.set (Int.toNat i) (cn ((Zh (rs.getD (Int.toNat i) z0))*(Zh a)))).getD (Int.toNat i) z0))-((Zh b)*(Zh (qs.getD (Int.toNat (i64.wrap (i-at1))) z0))))),.l (pc ((rs.set (Int.toNat i) (cn ((Zh (rs.getD (Int.toNat i) z0))*(Zh a)))).set (Int.toNat i) (cn ((Zh ((rs.set (Int.toNat i) (cn ((Zh (rs.getD (Int.toNat i) z0))*(Zh a)))).getD (Int.toNat i) z0))-((Zh b)*(Zh (qs.getD (Int.toNat (i64.wrap (i-at1))) z0)))))))] [1,5,6,9,11,13,63,64] (ac c1 (ac n1 (ac (U7 n2 n1) (ac n5 (ac n1 (ac (Uw (r:=cn ((Zh (rs.getD (Int.toNat i) z0))*(Zh a))) n2 n1) (ac c2 (ac n1 (ac (U7 n3 n1) (ac n4 (ac (Z9 n4) (ac n6 (ac n7 (ac n1 (ac (Uw (r:=cn ((Zh ((rs.set (Int.toNat i) (cn ((Zh (rs.getD (Int.toNat i) z0))*(Zh a)))).getD (Int.toNat i) z0))-((Zh b)*(Zh (qs.getD (Int.toNat (i64.wrap (i-at1))) z0))))) n3 n1) a0))))))))))))))))
theorem Zse (qs:List Rn) (k:Nat) (rs:List Rn) (t:Rn) (a:Rn) (b:Rn) (at1:Int) (n:Int) (i:Int)  (c1:(decide (i<n))=true) (c2:(decide (i>=at1))=false) (n1:0<=i/\i<(k:Int)) (n2:rs.length=k) (n3:Zc Yir 112 [Zp (rs.getD (Int.toNat i) z0),Zp a] (Zi ((Zh (rs.getD (Int.toNat i) z0))*(Zh a)))):Za Yir Bu (Wi qs k rs t a b at1 n i) .norm (Wi qs k (rs.set (Int.toNat i) (cn ((Zh (rs.getD (Int.toNat i) z0))*(Zh a)))) t a b at1 n (i64.wrap (i+1))):=(Za.go Z4 400 [.b true,.v (Zp (rs.getD (Int.toNat i) z0)),.r (Zi ((Zh (rs.getD (Int.toNat i) z0))*(Zh a))),.l (pc (rs.set (Int.toNat i) (cn ((Zh (rs.getD (Int.toNat i) z0))*(Zh a))))),.b false] [1,5,6,9,11,13,63,64] (ac c1 (ac n1 (ac (U7 n2 n1) (ac n3 (ac n1 (ac (Uw (r:=cn ((Zh (rs.getD (Int.toNat i) z0))*(Zh a))) n2 n1) (ac c2 a0))))))))
theorem Zsd (qs:List Rn) (k:Nat) (rs:List Rn) (t:Rn) (a:Rn) (b:Rn) (at1:Int) (n:Int) (i:Int)  (c1:(decide (i<n))=false):Za Yir Bu (Wi qs k rs t a b at1 n i) (.exit 2) (Wi qs k rs t a b at1 n i):=(Za.go Z4 400 [.b false] [1,5,6,9,11,13,63,64] (ac c1 a0))
def B8 (qs:List Rn) (k:Nat) (rs:List Rn) (t:Rn):Zk:=(dds 1 (.val (.sl qs.length (pc qs))::(dds 3 (.own 2 k (pc rs)::(.box [.bool t.1,.sl t.2.length (lm t.2)]::(dds 92 []))))))
theorem Z0x (qs:List Rn) (k:Nat) (rs:List Rn) (t:Rn) (os us:List Rn) (a b:Rn) (g ab x y ny r1 r2 s at1 n i:Int) (c1:(decide ((k:Int)>=(qs.length:Int)))=true) (c2:(decide (s<0))=true) (n1:0<=(i64.wrap ((k:Int)-1))/\(i64.wrap ((k:Int)-1))<(k:Int)) (n2:rs.length=k) (n3:Zc Yir 159 [Zp t,Zp (rs.getD (Int.toNat (i64.wrap ((k:Int)-1))) z0)] (Zi g)) (n4:Zc Yir 160 [Zp t] (Zi ab)) (n5:Zc Yir 158 [Zi ab,Zi g] (.tup [Zi x,Zi r1])) (n6:Zc Yir 158 [Zp (rs.getD (Int.toNat (i64.wrap ((k:Int)-1))) z0),Zi g] (.tup [Zi y,Zi r2])) (n7:Zc Yir 101 [Zp t] (.int .i64 s)) (n8:Zc Yir 131 [Zi y] (Zi ny)) (hl9:Za Yir (.loop Bu) (Wi qs k rs t (cn x) (cn ny) (i64.wrap ((k:Int)-(qs.length:Int))) (k:Int) 0) (.exit 2) (Wi qs k os t a b at1 n i)) (n10:Zc Yir 115 [.sl k (pc os)] (.fresh 2 us.length (pc us))):Za Yir Zaz (B8 qs k rs t) .norm (B8 qs us.length us t):=(Za.seq (Za.go (t:=(dds 1 (vp qs::(dds 3 (.own 2 k (pc rs)::(bR t::(dds 18 (.dup 5::(dds 73 []))))))))) Z4 400 [.b true] [1,5,6,25] (ac c1 a0)) (Za.block_norm (Za.asc (Za.asc (Za.asc (Za.asc (Za.asc (Za.csi (Za.seq (Za.go Z4 400 [.v (Zp (rs.getD (Int.toNat (i64.wrap ((k:Int)-1))) z0)),.r (Zi g),.r (Zi ab),.r (.tup [Zi x,Zi r1]),.r (.tup [Zi y,Zi r2]),.r (.int .i64 s),.b true,.r (Zi ny)] [1,5,6,9,11,13,63,64] (ac n1 (ac (U7 n2 n1) (ac n3 (ac n4 (ac n5 (ac n6 (ac n7 (ac c2 (ac n8 a0)))))))))) (Za.seq (Za.block hl9) (Za.go Z4 400 [.r (.fresh 2 us.length (pc us))] [1,5,6] (ac n10 a0))))))))))))
theorem Z0w (qs:List Rn) (k:Nat) (rs:List Rn) (t:Rn) (os us:List Rn) (a b:Rn) (g ab x y r1 r2 s at1 n i:Int) (c1:(decide ((k:Int)>=(qs.length:Int)))=true) (c2:(decide (s<0))=false) (n1:0<=(i64.wrap ((k:Int)-1))/\(i64.wrap ((k:Int)-1))<(k:Int)) (n2:rs.length=k) (n3:Zc Yir 159 [Zp t,Zp (rs.getD (Int.toNat (i64.wrap ((k:Int)-1))) z0)] (Zi g)) (n4:Zc Yir 160 [Zp t] (Zi ab)) (n5:Zc Yir 158 [Zi ab,Zi g] (.tup [Zi x,Zi r1])) (n6:Zc Yir 158 [Zp (rs.getD (Int.toNat (i64.wrap ((k:Int)-1))) z0),Zi g] (.tup [Zi y,Zi r2])) (n7:Zc Yir 101 [Zp t] (.int .i64 s)) (hl8:Za Yir (.loop Bu) (Wi qs k rs t (cn x) (cn y) (i64.wrap ((k:Int)-(qs.length:Int))) (k:Int) 0) (.exit 2) (Wi qs k os t a b at1 n i)) (n9:Zc Yir 115 [.sl k (pc os)] (.fresh 2 us.length (pc us))):Za Yir Zaz (B8 qs k rs t) .norm (B8 qs us.length us t):=(Za.seq (Za.go (t:=(dds 1 (vp qs::(dds 3 (.own 2 k (pc rs)::(bR t::(dds 18 (.dup 5::(dds 73 []))))))))) Z4 400 [.b true] [1,5,6,25] (ac c1 a0)) (Za.block_norm (Za.asc (Za.asc (Za.asc (Za.asc (Za.asc (Za.csi (Za.seq (Za.go Z4 400 [.v (Zp (rs.getD (Int.toNat (i64.wrap ((k:Int)-1))) z0)),.r (Zi g),.r (Zi ab),.r (.tup [Zi x,Zi r1]),.r (.tup [Zi y,Zi r2]),.r (.int .i64 s),.b false] [1,5,6,9,11,13,63,64] (ac n1 (ac (U7 n2 n1) (ac n3 (ac n4 (ac n5 (ac n6 (ac n7 (ac c2 a0))))))))) (Za.seq (Za.block hl8) (Za.go Z4 400 [.r (.fresh 2 us.length (pc us))] [1,5,6] (ac n9 a0))))))))))))
theorem Zkk (qs:List Rn) (k:Nat) (rs:List Rn) (t:Rn)  (c1:(decide ((k:Int)>=(qs.length:Int)))=false):Za Yir Zaz (B8 qs k rs t) (.exit 0) (B8 qs k rs t):=(Za.seq_out (Za.go Z4 400 [.b false] [1,5,6] (ac c1 a0)) (by nofun))
theorem Zyd (rs ss ps qs us:List Rn) (t:Rn) (k:Nat) (n1:Zc Yir 115 [.sl rs.length (pc rs)] (.fresh 2 ps.length (pc ps))) (n2:Zc Yir 115 [.sl ss.length (pc ss)] (.fresh 2 qs.length (pc qs))) (n3:0<=(i64.wrap ((qs.length:Int)-1))/\(i64.wrap ((qs.length:Int)-1))<(qs.length:Int)) (hl4:Za Yir (.loop Zaz) (B8 qs ps.length ps (qs.getD (Int.toNat (i64.wrap ((qs.length:Int)-1))) z0)) (.exit 0) (B8 qs k us t)):Zc Yir 118 [.sl rs.length (pc rs),.sl ss.length (pc ss)] (.fresh 2 k (pc us)):=Zc.of_bodyW (fn:=Zlj) (s:=(dds 4 (.own 2 k (pc us)::(dds 94 [])))) (ex := .ret) rfl rfl (Za.asc (Za.asc (Za.seq (Za.go Z4 400 [.r (.fresh 2 ps.length (pc ps)),.r (.fresh 2 qs.length (pc qs)),.v (Zp (qs.getD (Int.toNat (i64.wrap ((qs.length:Int)-1))) z0))] [1,5,6] (ac n1 (ac n2 (ac n3 (ac (Z9 n3) a0))))) (Za.seq (Za.block hl4) (Za.go Z4 400 [] [4] a0))))) (by nofun) rfl
def B6 (as1:List Rn) (bs:List Rn):Zk:=(dds 5 (.val (.sl as1.length (pc as1))::(.val (.sl bs.length (pc bs))::(dds 13 []))))
theorem Zkh (as1:List Rn) (bs:List Rn) (us:List Rn) (c1:(decide ((bs.length:Int)>0))=true) (n1:Zc Yir 118 [.sl as1.length (pc as1),.sl bs.length (pc bs)] (.fresh 2 us.length (pc us))):Za Yir Zax (B6 as1 bs) .norm (B6 bs us):=(Za.go Z4 400 [.b true,.r (.fresh 2 us.length (pc us))] [5,6] (ac c1 (ac n1 a0)))
theorem Zkg (as1:List Rn) (bs:List Rn)  (c1:(decide ((bs.length:Int)>0))=false):Za Yir Zax (B6 as1 bs) (.exit 0) (B6 as1 bs):=(Za.go Z4 400 [.b false] [5,6] (ac c1 a0))
theorem Zix (rs ss ps qs as1 bs ts:List Rn) (n1:Zc Yir 115 [.sl rs.length (pc rs)] (.fresh 2 ps.length (pc ps))) (n2:Zc Yir 115 [.sl ss.length (pc ss)] (.fresh 2 qs.length (pc qs))) (hl3:Za Yir (.loop Zax) (B6 ps qs) (.exit 0) (B6 as1 bs)) (n4:Zc Yir 155 [.sl as1.length (pc as1)] (.fresh 2 ts.length (pc ts))):Zc Yir 135 [.sl rs.length (pc rs),.sl ss.length (pc ss)] (.fresh 2 ts.length (pc ts)):=Zc.of_bodyW (fn:=Zev) (s:=(dds 4 (.own 2 ts.length (pc ts)::(dds 15 [])))) (ex := .ret) rfl rfl (Za.asc (Za.seq (Za.go Z4 400 [.r (.fresh 2 ps.length (pc ps)),.r (.fresh 2 qs.length (pc qs))] [5,6] (ac n1 (ac n2 a0))) (Za.seq (Za.block hl3) (Za.go Z4 400 [.r (.fresh 2 ts.length (pc ts))] [4] (ac n4 a0))))) (by nofun) rfl
theorem Ziw (rs ss ps qs as1 bs:List Rn) (n1:Zc Yir 115 [.sl rs.length (pc rs)] (.fresh 2 ps.length (pc ps))) (n2:Zc Yir 115 [.sl ss.length (pc ss)] (.fresh 2 qs.length (pc qs))) (hl3:Za Yir (.loop Zax) (B6 ps qs) (.exit 0) (B6 as1 bs)) (n4:Zc Yir 155 [.sl as1.length (pc as1)] (.sl as1.length (pc as1))):Zc Yir 135 [.sl rs.length (pc rs),.sl ss.length (pc ss)] (.sl as1.length (pc as1)):=Zc.of_bodyW (fn:=Zev) (s:=(dds 4 (.val (.sl as1.length (pc as1))::(dds 15 [])))) (ex := .ret) rfl rfl (Za.asc (Za.seq (Za.go Z4 400 [.r (.fresh 2 ps.length (pc ps)),.r (.fresh 2 qs.length (pc qs))] [5,6] (ac n1 (ac n2 a0))) (Za.seq (Za.block hl3) (Za.go Z4 400 [.r (.sl as1.length (pc as1))] [4] (ac n4 a0))))) (by nofun) rfl
def Gp (qs:List Rn) (k:Nat) (rs:List Rn) (t:Rn) (kq:Nat) (os:List Rn) (j:Int) (l:Rn) (n:Int) (i:Int):Zk:=(dds 1 (.val (.sl qs.length (pc qs))::(dds 3 (.own 2 k (pc rs)::(.box [.bool t.1,.sl t.2.length (lm t.2)]::(.own 2 kq (pc os)::(.val (.int .i64 j)::(.box [.bool l.1,.sl l.2.length (lm l.2)]::(dds 34 (.val (.int .i64 n)::(.val (.int .i64 i)::(dds 57 []))))))))))))
theorem Zru (qs:List Rn) (k:Nat) (rs:List Rn) (t:Rn) (kq:Nat) (os:List Rn) (j:Int) (l:Rn) (n:Int) (i:Int)  (c1:(decide (i<n))=true) (n1:0<=i/\i<(k:Int)) (n2:rs.length=k) (n3:Zc Yir 112 [Zp (rs.getD (Int.toNat i) z0),Zp t] (Zi ((Zh (rs.getD (Int.toNat i) z0))*(Zh t)))):Za Yir Mm (Gp qs k rs t kq os j l n i) .norm (Gp qs k (rs.set (Int.toNat i) (cn ((Zh (rs.getD (Int.toNat i) z0))*(Zh t)))) t kq os j l n (i64.wrap (i+1))):=(Za.go Z4 400 [.b true,.v (Zp (rs.getD (Int.toNat i) z0)),.r (Zi ((Zh (rs.getD (Int.toNat i) z0))*(Zh t))),.l (pc (rs.set (Int.toNat i) (cn ((Zh (rs.getD (Int.toNat i) z0))*(Zh t)))))] [1,5,6,7,8,9,44,45] (ac c1 (ac n1 (ac (U7 n2 n1) (ac n3 (ac n1 (ac (Uw (r:=cn ((Zh (rs.getD (Int.toNat i) z0))*(Zh t))) n2 n1) a0)))))))
theorem Zrt (qs:List Rn) (k:Nat) (rs:List Rn) (t:Rn) (kq:Nat) (os:List Rn) (j:Int) (l:Rn) (n:Int) (i:Int)  (c1:(decide (i<n))=false):Za Yir Mm (Gp qs k rs t kq os j l n i) (.exit 2) (Gp qs k rs t kq os j l n i):=(Za.go Z4 400 [.b false] [1,5,6,7,8,9,44,45] (ac c1 a0))
def Gn (qs:List Rn) (k:Nat) (rs:List Rn) (t:Rn) (kq:Nat) (os:List Rn) (j:Int) (l:Rn) (n:Int) (i:Int):Zk:=(dds 1 (.val (.sl qs.length (pc qs))::(dds 3 (.own 2 k (pc rs)::(.box [.bool t.1,.sl t.2.length (lm t.2)]::(.own 2 kq (pc os)::(.val (.int .i64 j)::(.box [.bool l.1,.sl l.2.length (lm l.2)]::(dds 49 (.val (.int .i64 n)::(.val (.int .i64 i)::(dds 42 []))))))))))))
theorem Zrs (qs:List Rn) (k:Nat) (rs:List Rn) (t:Rn) (kq:Nat) (os:List Rn) (j:Int) (l:Rn) (n:Int) (i:Int)  (c1:(decide (i<n))=true) (n1:0<=i/\i<(kq:Int)) (n2:os.length=kq) (n3:Zc Yir 112 [Zp (os.getD (Int.toNat i) z0),Zp t] (Zi ((Zh (os.getD (Int.toNat i) z0))*(Zh t)))):Za Yir Ml (Gn qs k rs t kq os j l n i) .norm (Gn qs k rs t kq (os.set (Int.toNat i) (cn ((Zh (os.getD (Int.toNat i) z0))*(Zh t)))) j l n (i64.wrap (i+1))):=(Za.go Z4 400 [.b true,.v (Zp (os.getD (Int.toNat i) z0)),.r (Zi ((Zh (os.getD (Int.toNat i) z0))*(Zh t))),.l (pc (os.set (Int.toNat i) (cn ((Zh (os.getD (Int.toNat i) z0))*(Zh t)))))] [1,5,6,7,8,9,59,60] (ac c1 (ac n1 (ac (U7 n2 n1) (ac n3 (ac n1 (ac (Uw (r:=cn ((Zh (os.getD (Int.toNat i) z0))*(Zh t))) n2 n1) a0)))))))
theorem Zrr (qs:List Rn) (k:Nat) (rs:List Rn) (t:Rn) (kq:Nat) (os:List Rn) (j:Int) (l:Rn) (n:Int) (i:Int)  (c1:(decide (i<n))=false):Za Yir Ml (Gn qs k rs t kq os j l n i) (.exit 4) (Gn qs k rs t kq os j l n i):=(Za.go Z4 400 [.b false] [1,5,6,7,8,9,59,60] (ac c1 a0))
def Gm (qs:List Rn) (k:Nat) (rs:List Rn) (t:Rn) (kq:Nat) (os:List Rn) (j:Int) (l:Rn) (n:Int) (i:Int):Zk:=(dds 1 (.val (.sl qs.length (pc qs))::(dds 3 (.own 2 k (pc rs)::(.box [.bool t.1,.sl t.2.length (lm t.2)]::(.own 2 kq (pc os)::(.val (.int .i64 j)::(.box [.bool l.1,.sl l.2.length (lm l.2)]::(dds 68 (.val (.int .i64 n)::(.val (.int .i64 i)::(dds 23 []))))))))))))
theorem Zrq (qs:List Rn) (k:Nat) (rs:List Rn) (t:Rn) (kq:Nat) (os:List Rn) (j:Int) (l:Rn) (n:Int) (i:Int)  (c1:(decide (i<n))=true) (n1:0<=(i64.wrap (j+i))/\(i64.wrap (j+i))<(k:Int)) (n2:rs.length=k) (n3:0<=i/\i<(qs.length:Int)) (n4:Zc Yir 112 [Zp l,Zp (qs.getD (Int.toNat i) z0)] (Zi ((Zh l)*(Zh (qs.getD (Int.toNat i) z0))))) (n5:Zc Yir 127 [Zp (rs.getD (Int.toNat (i64.wrap (j+i))) z0),Zi ((Zh l)*(Zh (qs.getD (Int.toNat i) z0)))] (Zi ((Zh (rs.getD (Int.toNat (i64.wrap (j+i))) z0))-((Zh l)*(Zh (qs.getD (Int.toNat i) z0)))))):Za Yir Mk (Gm qs k rs t kq os j l n i) .norm (Gm qs k (rs.set (Int.toNat (i64.wrap (j+i))) (cn ((Zh (rs.getD (Int.toNat (i64.wrap (j+i))) z0))-((Zh l)*(Zh (qs.getD (Int.toNat i) z0)))))) t kq os j l n (i64.wrap (i+1))):=(Za.go Z4 400 [.b true,.v (Zp (rs.getD (Int.toNat (i64.wrap (j+i))) z0)),.v (Zp (qs.getD (Int.toNat i) z0)),.r (Zi ((Zh l)*(Zh (qs.getD (Int.toNat i) z0)))),.r (Zi ((Zh (rs.getD (Int.toNat (i64.wrap (j+i))) z0))-((Zh l)*(Zh (qs.getD (Int.toNat i) z0))))),.l (pc (rs.set (Int.toNat (i64.wrap (j+i))) (cn ((Zh (rs.getD (Int.toNat (i64.wrap (j+i))) z0))-((Zh l)*(Zh (qs.getD (Int.toNat i) z0)))))))] [1,5,6,7,8,9,78,79] (ac c1 (ac n1 (ac (U7 n2 n1) (ac n3 (ac (Z9 n3) (ac n4 (ac n5 (ac n1 (ac (Uw (r:=cn ((Zh (rs.getD (Int.toNat (i64.wrap (j+i))) z0))-((Zh l)*(Zh (qs.getD (Int.toNat i) z0))))) n2 n1) a0))))))))))
theorem Zrp (qs:List Rn) (k:Nat) (rs:List Rn) (t:Rn) (kq:Nat) (os:List Rn) (j:Int) (l:Rn) (n:Int) (i:Int)  (c1:(decide (i<n))=false):Za Yir Mk (Gm qs k rs t kq os j l n i) (.exit 6) (Gm qs k rs t kq os j l n i):=(Za.go Z4 400 [.b false] [1,5,6,7,8,9,78,79] (ac c1 a0))
def Zaf (qs:List Rn) (k:Nat) (rs:List Rn) (t:Rn) (kq:Nat) (os:List Rn) (j:Int):Zk:=(dds 1 (.val (.sl qs.length (pc qs))::(dds 3 (.own 2 k (pc rs)::(.box [.bool t.1,.sl t.2.length (lm t.2)]::(.own 2 kq (pc os)::(.val (.int .i64 j)::(dds 94 []))))))))
theorem Zzr (qs:List Rn) (k:Nat) (rs:List Rn) (t:Rn) (kq:Nat) (os:List Rn) (j:Int) (rs1 rs2 os1:List Rn) (m1 i1 m2 i2 m3 i3:Int) (c1:(decide (j>=0))=true) (n1:0<=(i64.wrap ((i64.wrap (j+(qs.length:Int)))-1))/\(i64.wrap ((i64.wrap (j+(qs.length:Int)))-1))<(k:Int)) (n2:rs.length=k) (hl3:Za Yir (.loop Mm) (Gp qs k rs t kq os j (rs.getD (Int.toNat (i64.wrap ((i64.wrap (j+(qs.length:Int)))-1))) z0) (k:Int) 0) (.exit 2) (Gp qs k rs1 t kq os j (rs.getD (Int.toNat (i64.wrap ((i64.wrap (j+(qs.length:Int)))-1))) z0) m1 i1)) (hl4:Za Yir (.loop Ml) (Gn qs k rs1 t kq os j (rs.getD (Int.toNat (i64.wrap ((i64.wrap (j+(qs.length:Int)))-1))) z0) (kq:Int) 0) (.exit 4) (Gn qs k rs1 t kq os1 j (rs.getD (Int.toNat (i64.wrap ((i64.wrap (j+(qs.length:Int)))-1))) z0) m2 i2)) (n5:0<=j/\j<(kq:Int)) (n6:os1.length=kq) (hl7:Za Yir (.loop Mk) (Gm qs k rs1 t kq (os1.set (Int.toNat j) (rs.getD (Int.toNat (i64.wrap ((i64.wrap (j+(qs.length:Int)))-1))) z0)) j (rs.getD (Int.toNat (i64.wrap ((i64.wrap (j+(qs.length:Int)))-1))) z0) (qs.length:Int) 0) (.exit 6) (Gm qs k rs2 t kq (os1.set (Int.toNat j) (rs.getD (Int.toNat (i64.wrap ((i64.wrap (j+(qs.length:Int)))-1))) z0)) j (rs.getD (Int.toNat (i64.wrap ((i64.wrap (j+(qs.length:Int)))-1))) z0) m3 i3)):Za Yir Zlv (Zaf qs k rs t kq os j) .norm (Zaf qs k rs2 t kq (os1.set (Int.toNat j) (rs.getD (Int.toNat (i64.wrap ((i64.wrap (j+(qs.length:Int)))-1))) z0)) (i64.wrap (j-1))):=(Za.seq (Za.go (t:=(dds 1 (vp qs::(dds 3 (.own 2 k (pc rs)::(bR t::(.own 2 kq (pc os)::(vi j::(dds 94 []))))))))) Z4 400 [.b true] [1,5,6,7,8] (ac c1 a0)) (Za.seq (Za.block_norm (Za.csi (Za.seq (Za.go Z4 400 [.v (Zp (rs.getD (Int.toNat (i64.wrap ((i64.wrap (j+(qs.length:Int)))-1))) z0))] [1,5,6,7,8,9,44,45] (ac n1 (ac (U7 n2 n1) a0))) (Za.seq (Za.block hl3) (Za.seq (Za.seq (Za.go Z4 400 [] [1,5,6,7,8,9,59,60] a0) (Za.block hl4)) (Za.asc (Za.seq (Za.go Z4 400 [.l (pc (os1.set (Int.toNat j) (rs.getD (Int.toNat (i64.wrap ((i64.wrap (j+(qs.length:Int)))-1))) z0)))] [1,5,6,7,8,9,78,79] (ac n5 (ac (Uw (r:=rs.getD (Int.toNat (i64.wrap ((i64.wrap (j+(qs.length:Int)))-1))) z0) n6 n5) a0))) (Za.block hl7)))))))) (Za.go Z4 400 [] [1,5,6,7,8] a0)))
theorem Zzq (qs:List Rn) (k:Nat) (rs:List Rn) (t:Rn) (kq:Nat) (os:List Rn) (j:Int)  (c1:(decide (j>=0))=false):Za Yir Zlv (Zaf qs k rs t kq os j) (.exit 0) (Zaf qs k rs t kq os j):=(Za.seq_out (Za.go Z4 400 [.b false] [1,5,6,7,8] (ac c1 a0)) (by nofun))
theorem Zxw (rs qs ps us xs os:List Rn) (t:Rn) (k kq:Nat) (j:Int) (n1:Zc Yir 66 [.sl rs.length (pc rs)] (.fresh 2 ps.length (pc ps))) (n2:0<=(i64.wrap ((qs.length:Int)-1))/\(i64.wrap ((qs.length:Int)-1))<(qs.length:Int)) (n3:0<=(i64.wrap ((i64.wrap ((ps.length:Int)-(qs.length:Int)))+1))/\(i64.wrap ((i64.wrap ((ps.length:Int)-(qs.length:Int)))+1))<=1048576) (hl4:Za Yir (.loop Zlv) ((dds 1 (.val (.sl qs.length (pc qs))::(dds 3 (.own 2 ps.length (pc ps)::(.box [.bool ((qs.getD (Int.toNat (i64.wrap ((qs.length:Int)-1))) z0).1),.sl ((qs.getD (Int.toNat (i64.wrap ((qs.length:Int)-1))) z0).2.length) (lm (qs.getD (Int.toNat (i64.wrap ((qs.length:Int)-1))) z0).2)]::(.own 2 (Int.toNat (i64.wrap ((i64.wrap ((ps.length:Int)-(qs.length:Int)))+1))) (Ju [.bool false,.sl 0 []] (Int.toNat (i64.wrap ((i64.wrap ((ps.length:Int)-(qs.length:Int)))+1))))::(.val (.int .i64 (i64.wrap ((((Int.toNat (i64.wrap ((i64.wrap ((ps.length:Int)-(qs.length:Int)))+1))):Nat):Int)-1)))::(dds 94 []))))))))) (.exit 0) (Zaf qs k xs t kq os j)) (n5:Zc Yir 115 [.sl kq (pc os)] (.fresh 2 us.length (pc us))):Zc Yir 156 [.sl rs.length (pc rs),.sl qs.length (pc qs)] (.fresh 2 us.length (pc us)):=Zc.of_bodyW (fn:=Zk3) (s:=(dds 4 (.own 2 us.length (pc us)::(dds 98 [])))) (ex := .ret) rfl rfl (Za.asc (Za.asc (Za.asc (Za.csi (Za.seq (Za.go Z4 400 [.r (.fresh 2 ps.length (pc ps)),.v (Zp (qs.getD (Int.toNat (i64.wrap ((qs.length:Int)-1))) z0))] [1,5,6,7,8] (ac n1 (ac n2 (ac (Z9 n2) (ac n3 a0))))) (Za.seq (Za.block hl4) (Za.go Z4 400 [.r (.fresh 2 us.length (pc us))] [4] (ac n5 a0)))))))) (by nofun) rfl
theorem R0 (rs ps xs:List Rn) (c1:(decide ((xs.length:Int)<2))=true) (n1:Zc Yir 115 [.sl rs.length (pc rs)] (.fresh 2 ps.length (pc ps))) (n2:Zc Yir 155 [.sl ps.length (pc ps)] (.fresh 2 xs.length (pc xs))):Zc Yir 114 [.sl rs.length (pc rs)] (.sl xs.length (pc xs)):=Zc.go (fn:=F6) Z4 rfl 400 rfl [.r (.fresh 2 ps.length (pc ps)),.r (.fresh 2 xs.length (pc xs)),.b true] (ac n1 (ac n2 (ac c1 a0)))
theorem Rz (rs ps xs ds gs:List Rn) (c1:(decide ((xs.length:Int)<2))=false) (c2:(decide ((gs.length:Int)<2))=true) (n1:Zc Yir 115 [.sl rs.length (pc rs)] (.fresh 2 ps.length (pc ps))) (n2:Zc Yir 155 [.sl ps.length (pc ps)] (.fresh 2 xs.length (pc xs))) (n3:Zc Yir 116 [.sl xs.length (pc xs)] (.fresh 2 ds.length (pc ds))) (n4:Zc Yir 135 [.sl xs.length (pc xs),.sl ds.length (pc ds)] (.fresh 2 gs.length (pc gs))):Zc Yir 114 [.sl rs.length (pc rs)] (.sl xs.length (pc xs)):=Zc.go (fn:=F6) Z4 rfl 400 rfl [.r (.fresh 2 ps.length (pc ps)),.r (.fresh 2 xs.length (pc xs)),.b false,.r (.fresh 2 ds.length (pc ds)),.r (.fresh 2 gs.length (pc gs)),.b true] (ac n1 (ac n2 (ac c1 (ac n3 (ac n4 (ac c2 a0))))))
theorem Ry (rs ps xs ds gs us:List Rn) (c1:(decide ((xs.length:Int)<2))=false) (c2:(decide ((gs.length:Int)<2))=false) (n1:Zc Yir 115 [.sl rs.length (pc rs)] (.fresh 2 ps.length (pc ps))) (n2:Zc Yir 155 [.sl ps.length (pc ps)] (.fresh 2 xs.length (pc xs))) (n3:Zc Yir 116 [.sl xs.length (pc xs)] (.fresh 2 ds.length (pc ds))) (n4:Zc Yir 135 [.sl xs.length (pc xs),.sl ds.length (pc ds)] (.fresh 2 gs.length (pc gs))) (n5:Zc Yir 156 [.sl xs.length (pc xs),.sl gs.length (pc gs)] (.fresh 2 us.length (pc us))):Zc Yir 114 [.sl rs.length (pc rs)] (.fresh 2 us.length (pc us)):=Zc.go (fn:=F6) Z4 rfl 400 rfl [.r (.fresh 2 ps.length (pc ps)),.r (.fresh 2 xs.length (pc xs)),.b false,.r (.fresh 2 ds.length (pc ds)),.r (.fresh 2 gs.length (pc gs)),.b false,.r (.fresh 2 us.length (pc us))] (ac n1 (ac n2 (ac c1 (ac n3 (ac n4 (ac c2 (ac n5 a0)))))))
theorem Rx (rs ps xs ds gs:List Rn) (c1:(decide ((xs.length:Int)<2))=false) (c2:(decide ((gs.length:Int)<2))=true) (n1:Zc Yir 115 [.sl rs.length (pc rs)] (.fresh 2 ps.length (pc ps))) (n2:Zc Yir 155 [.sl ps.length (pc ps)] (.fresh 2 xs.length (pc xs))) (n3:Zc Yir 116 [.sl xs.length (pc xs)] (.fresh 2 ds.length (pc ds))) (n4:Zc Yir 135 [.sl xs.length (pc xs),.sl ds.length (pc ds)] (.sl gs.length (pc gs))):Zc Yir 114 [.sl rs.length (pc rs)] (.sl xs.length (pc xs)):=Zc.go (fn:=F6) Z4 rfl 400 rfl [.r (.fresh 2 ps.length (pc ps)),.r (.fresh 2 xs.length (pc xs)),.b false,.r (.fresh 2 ds.length (pc ds)),.r (.sl gs.length (pc gs)),.b true] (ac n1 (ac n2 (ac c1 (ac n3 (ac n4 (ac c2 a0))))))
theorem Rw (rs ps xs ds gs us:List Rn) (c1:(decide ((xs.length:Int)<2))=false) (c2:(decide ((gs.length:Int)<2))=false) (n1:Zc Yir 115 [.sl rs.length (pc rs)] (.fresh 2 ps.length (pc ps))) (n2:Zc Yir 155 [.sl ps.length (pc ps)] (.fresh 2 xs.length (pc xs))) (n3:Zc Yir 116 [.sl xs.length (pc xs)] (.fresh 2 ds.length (pc ds))) (n4:Zc Yir 135 [.sl xs.length (pc xs),.sl ds.length (pc ds)] (.sl gs.length (pc gs))) (n5:Zc Yir 156 [.sl xs.length (pc xs),.sl gs.length (pc gs)] (.fresh 2 us.length (pc us))):Zc Yir 114 [.sl rs.length (pc rs)] (.fresh 2 us.length (pc us)):=Zc.go (fn:=F6) Z4 rfl 400 rfl [.r (.fresh 2 ps.length (pc ps)),.r (.fresh 2 xs.length (pc xs)),.b false,.r (.fresh 2 ds.length (pc ds)),.r (.sl gs.length (pc gs)),.b false,.r (.fresh 2 us.length (pc us))] (ac n1 (ac n2 (ac c1 (ac n3 (ac n4 (ac c2 (ac n5 a0)))))))
theorem Rv (rs ps ds gs:List Rn) (c1:(decide ((ps.length:Int)<2))=false) (c2:(decide ((gs.length:Int)<2))=true) (n1:Zc Yir 115 [.sl rs.length (pc rs)] (.fresh 2 ps.length (pc ps))) (n2:Zc Yir 155 [.sl ps.length (pc ps)] (.sl ps.length (pc ps))) (n3:Zc Yir 116 [.sl ps.length (pc ps)] (.fresh 2 ds.length (pc ds))) (n4:Zc Yir 135 [.sl ps.length (pc ps),.sl ds.length (pc ds)] (.fresh 2 gs.length (pc gs))):Zc Yir 114 [.sl rs.length (pc rs)] (.sl ps.length (pc ps)):=Zc.go (fn:=F6) Z4 rfl 400 rfl [.r (.fresh 2 ps.length (pc ps)),.r (.sl ps.length (pc ps)),.b false,.r (.fresh 2 ds.length (pc ds)),.r (.fresh 2 gs.length (pc gs)),.b true] (ac n1 (ac n2 (ac c1 (ac n3 (ac n4 (ac c2 a0))))))
theorem Ru (rs ps ds gs us:List Rn) (c1:(decide ((ps.length:Int)<2))=false) (c2:(decide ((gs.length:Int)<2))=false) (n1:Zc Yir 115 [.sl rs.length (pc rs)] (.fresh 2 ps.length (pc ps))) (n2:Zc Yir 155 [.sl ps.length (pc ps)] (.sl ps.length (pc ps))) (n3:Zc Yir 116 [.sl ps.length (pc ps)] (.fresh 2 ds.length (pc ds))) (n4:Zc Yir 135 [.sl ps.length (pc ps),.sl ds.length (pc ds)] (.fresh 2 gs.length (pc gs))) (n5:Zc Yir 156 [.sl ps.length (pc ps),.sl gs.length (pc gs)] (.fresh 2 us.length (pc us))):Zc Yir 114 [.sl rs.length (pc rs)] (.fresh 2 us.length (pc us)):=Zc.go (fn:=F6) Z4 rfl 400 rfl [.r (.fresh 2 ps.length (pc ps)),.r (.sl ps.length (pc ps)),.b false,.r (.fresh 2 ds.length (pc ds)),.r (.fresh 2 gs.length (pc gs)),.b false,.r (.fresh 2 us.length (pc us))] (ac n1 (ac n2 (ac c1 (ac n3 (ac n4 (ac c2 (ac n5 a0)))))))
theorem Rt (rs ps:List Rn) (c1:(decide ((ps.length:Int)<2))=true) (n1:Zc Yir 115 [.sl rs.length (pc rs)] (.fresh 2 ps.length (pc ps))) (n2:Zc Yir 155 [.sl ps.length (pc ps)] (.sl ps.length (pc ps))):Zc Yir 114 [.sl rs.length (pc rs)] (.sl ps.length (pc ps)):=Zc.go (fn:=F6) Z4 rfl 400 rfl [.r (.fresh 2 ps.length (pc ps)),.r (.sl ps.length (pc ps)),.b true] (ac n1 (ac n2 (ac c1 a0)))
theorem Rs (rs ps ds gs:List Rn) (c1:(decide ((ps.length:Int)<2))=false) (c2:(decide ((gs.length:Int)<2))=true) (n1:Zc Yir 115 [.sl rs.length (pc rs)] (.fresh 2 ps.length (pc ps))) (n2:Zc Yir 155 [.sl ps.length (pc ps)] (.sl ps.length (pc ps))) (n3:Zc Yir 116 [.sl ps.length (pc ps)] (.fresh 2 ds.length (pc ds))) (n4:Zc Yir 135 [.sl ps.length (pc ps),.sl ds.length (pc ds)] (.sl gs.length (pc gs))):Zc Yir 114 [.sl rs.length (pc rs)] (.sl ps.length (pc ps)):=Zc.go (fn:=F6) Z4 rfl 400 rfl [.r (.fresh 2 ps.length (pc ps)),.r (.sl ps.length (pc ps)),.b false,.r (.fresh 2 ds.length (pc ds)),.r (.sl gs.length (pc gs)),.b true] (ac n1 (ac n2 (ac c1 (ac n3 (ac n4 (ac c2 a0))))))
theorem Rr (rs ps ds gs us:List Rn) (c1:(decide ((ps.length:Int)<2))=false) (c2:(decide ((gs.length:Int)<2))=false) (n1:Zc Yir 115 [.sl rs.length (pc rs)] (.fresh 2 ps.length (pc ps))) (n2:Zc Yir 155 [.sl ps.length (pc ps)] (.sl ps.length (pc ps))) (n3:Zc Yir 116 [.sl ps.length (pc ps)] (.fresh 2 ds.length (pc ds))) (n4:Zc Yir 135 [.sl ps.length (pc ps),.sl ds.length (pc ds)] (.sl gs.length (pc gs))) (n5:Zc Yir 156 [.sl ps.length (pc ps),.sl gs.length (pc gs)] (.fresh 2 us.length (pc us))):Zc Yir 114 [.sl rs.length (pc rs)] (.fresh 2 us.length (pc us)):=Zc.go (fn:=F6) Z4 rfl 400 rfl [.r (.fresh 2 ps.length (pc ps)),.r (.sl ps.length (pc ps)),.b false,.r (.fresh 2 ds.length (pc ds)),.r (.sl gs.length (pc gs)),.b false,.r (.fresh 2 us.length (pc us))] (ac n1 (ac n2 (ac c1 (ac n3 (ac n4 (ac c2 (ac n5 a0)))))))
end Go.Proofs.YtopjpgejefileaaGreat
