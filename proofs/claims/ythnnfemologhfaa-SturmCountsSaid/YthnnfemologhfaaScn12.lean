/- Texts of the proof of SturmCounts, packed by pack.py: part 12 of 19. -/
import Derived.Test.YthnnfemologhfaaScn11
namespace Go.Proofs.Ythnnfemologhfaa
open Go.IntKind (i64 u64 u32)
open Go.Ai
set_option maxRecDepth 100000
section
variable {vs:List Int} {m:Nat} {k kq:Nat} {s:Int}
theorem Zme (hv:U32 vs) (hm:vs.length=m+2) (ht:2147483648≤vs.getD (m+1) 0) (hk:k=kq+vs.length) (hkb:k≤1048577):∀ (i:Nat) (us qs:List Int),i≤kq→us.length=k→U32 us→qs.length=kq→U32 qs→(∀ t,t<i→qs.getD t 0=0)→Zj (us.drop i)<Zj vs →
  ∃ us' qs',Za Yir (.loop Po) (F5 k us vs (vs.length:Nat) kq qs s ((i:Int)-1)) (.exit 4) (F5 k us' vs (vs.length:Nat) kq qs' s (-1)) ∧
   us'.length=k∧U32 us'∧qs'.length=kq∧U32 qs'∧Zj us'<Zj vs∧Zj us=Zj vs*(Zj qs'-Zj qs)+Zj us':=by
 intro i
 induction i with
 | zero =>
  intro us qs _ h1 h2 h3 h4 _ h6
  exact⟨us,qs,Za.loop_out (Zt2 k us vs _ kq qs s _ (by simp)) (by intro e;cases e),h1,h2,h3,h4,h6,by rw[Int.sub_self,Int.mul_zero,Int.zero_add]⟩
 | succ i ih =>
  intro us qs hi h1 h2 h3 h4 h5 h6
  have ei:(((i+1:Nat):Int)-1)=(i:Nat):=by omega
  have ej:i64.wrap ((i:Int)-1)=(i:Int)-1:=w64 (by omega) (by omega)
  have en:i64.wrap ((i:Int)+(vs.length:Int))=((i+vs.length:Nat):Int):=by rw[w64 (by omega) (by omega)];omega
  have en1:i64.wrap (((i+vs.length:Nat):Int)-1)=((i+m+1:Nat):Int):=by rw[w64 (by omega) (by omega)];omega
  have ev1:i64.wrap ((vs.length:Int)-1)=((m+1:Nat):Int):=by rw[w64 (by omega) (by omega)];omega
  have hD:=Zqj (us:=us) (vs:=vs) (j:=i) (m:=m) h2 hv hm (by omega) ht h6
  have hI:=hD.init
  have hr1:=Int.emod_lt_of_pos (us.getD (i+m+2) 0*4294967296+us.getD (i+m+1) 0) (show 0<vs.getD (m+1) 0 by omega)
  have ht2:=hD.htop
  have et:u64.wrap (vs.getD (Int.toNat (i64.wrap ((vs.length:Int)-1))) 0)=vs.getD (m+1) 0:=by rw[ev1,Int.toNat_natCast,Ui (by omega)]
  obtain⟨g,r,q1,q2,q3,q4⟩:=Zhf (k:=k) (kq:=kq) (qs:=qs) (s:=s) hm h1 hkb (by omega) hD _ _ _ (Nat.le_refl _) hI (by omega)
  rw[← hm] at q1
  have hn0:0≤us.getD (i+m+2) 0*4294967296+us.getD (i+m+1) 0:=by have:=hD.hx;have:=hD.hy;omega
  have hq0:=hI.g0
  have hq1:=hI.gle
  have hl5:Za Yir (.loop Ke) (X3 k us vs (vs.length:Nat) kq qs s (i:Nat) (u64.wrap (Int.tdiv (u64.wrap ((BitVec.ofInt (IntKind.bits .u64) (u64.wrap ((u64.wrap (us.getD (Int.toNat (i64.wrap ((i:Int)+(vs.length:Int)))) 0))*2^(min (Int.toNat 32) (IntKind.bits .u64)))) ||| BitVec.ofInt (IntKind.bits .u64) (u64.wrap (us.getD (Int.toNat (i64.wrap ((i64.wrap ((i:Int)+(vs.length:Int)))-1))) 0))).toNat)) (u64.wrap (vs.getD (Int.toNat (i64.wrap ((vs.length:Int)-1))) 0)))) (Int.tmod (u64.wrap ((BitVec.ofInt (IntKind.bits .u64) (u64.wrap ((u64.wrap (us.getD (Int.toNat (i64.wrap ((i:Int)+(vs.length:Int)))) 0))*2^(min (Int.toNat 32) (IntKind.bits .u64)))) ||| BitVec.ofInt (IntKind.bits .u64) (u64.wrap (us.getD (Int.toNat (i64.wrap ((i64.wrap ((i:Int)+(vs.length:Int)))-1))) 0))).toNat)) (u64.wrap (vs.getD (Int.toNat (i64.wrap ((vs.length:Int)-1))) 0)))) (.exit 6) (X3 k us vs (vs.length:Nat) kq qs s (i:Nat) g r):=by
   rw[et,en,en1,Int.toNat_natCast,Int.toNat_natCast,show i+vs.length=i+m+2 by omega,Ui (n:=us.getD (i+m+2) 0) (by have:=hD.hx;omega),Mn hD.hx hD.hy,Int.tdiv_eq_ediv_of_nonneg hn0,Int.tmod_eq_emod_of_nonneg hn0,Ui ⟨hq0,by omega⟩]
   exact q1
  have hms:=Zhe (k:=k) (kq:=kq) (qs:=qs) (s:=s) (j:=i) (g:=g) hv hkb q2 (by omega) vs.length 0 us 0 0 (by omega) h1 h2 (by omega) (by omega)
  have hmo:=Rw (j:=i) q2 hv vs.length 0 us 0 0 (by omega) (by omega) h2 (by omega) (by omega)
  have hst:=E6 h2 hv (j:=i) (by omega) h6 q2 q3 q4
  generalize hM:Fe g vs i vs.length 0 us 0 0=M at *
  obtain⟨m1,m2,m3,m4,_,_⟩:=hmo
  obtain⟨d1,d2⟩:=dsign (Zu m2 (i+vs.length)) m4 m3
  dsimp only at hst
  obtain⟨S1,S2⟩:=hst
  -- the rest from a step
  have fin:∀ (ws:List Int) (q:Int),StepOk us vs ws i q→(0≤q∧q<4294967296)→Za Yir Po (F5 k us vs (vs.length:Nat) kq qs s (i:Nat)) .norm (F5 k ws vs (vs.length:Nat) kq (qs.set i q) s ((i:Int)-1)) →
    ∃ us' qs',Za Yir (.loop Po) (F5 k us vs (vs.length:Nat) kq qs s (i:Nat)) (.exit 4) (F5 k us' vs (vs.length:Nat) kq qs' s (-1)) ∧
   us'.length=k∧U32 us'∧qs'.length=kq∧U32 qs'∧Zj us'<Zj vs∧Zj us=Zj vs*(Zj qs'-Zj qs)+Zj us':=by
   intro ws q hs hq hrun
   obtain⟨us',qs',a1,a2,a3,a4,a5,a6,a7⟩:=ih ws (qs.set i q) (by omega) (by rw[hs.len];exact h1) hs.u32 (by simpa using h3) (Q0 h4 hq) (fun t ht=>by rw[Qo (by omega)];exact h5 t (by omega)) hs.low
   refine⟨us',qs',Za.loop hrun a1,a2,a3,a4,a5,a6,?_⟩
   have e:=hs.val
   rw[Jy _ _ _ (by omega),h5 i (by omega),Int.sub_zero] at a7
   generalize (4294967296:Int)^i=P at *
   grind
  have hn5:¬ u64.wrap (vs.getD (Int.toNat (i64.wrap ((vs.length:Int)-1))) 0)=0:=by rw[et];omega
  rw[ei]
  by_cases hd:M.1.getD (i+vs.length) 0-M.2.2-M.2.1<0
  ·obtain⟨S2,hg1⟩:=S2 hd
   have hu2:U32 (M.1.set (i+vs.length) ((M.1.getD (i+vs.length) 0-M.2.2-M.2.1) % 4294967296)):=Q0 m2 (by omega)
   have hab:=Zhg (k:=k) (kq:=kq) (qs:=qs) (s:=s) (j:=i) (g:=g-1) hv hkb (by omega) vs.length 0 (M.1.set (i+vs.length) ((M.1.getD (i+vs.length) 0-M.2.2-M.2.1) % 4294967296)) 0 (by omega) (by rw[List.length_set,m1];exact h1) hu2 (by omega)
   have hao:=Sm (j:=i) hv vs.length 0 (M.1.set (i+vs.length) ((M.1.getD (i+vs.length) 0-M.2.2-M.2.1) % 4294967296)) 0 (by omega) (by rw[List.length_set,m1];omega) hu2 (by omega)
   obtain⟨b1,b2,b3,_,_⟩:=hao
   generalize hB:Nc vs i vs.length 0 (M.1.set (i+vs.length) ((M.1.getD (i+vs.length) 0-M.2.2-M.2.1) % 4294967296)) 0=Bb at *
   have eg:u64.wrap (g-1)=g-1:=Ui (by omega)
   have k1:=Zt4 k us vs (vs.length:Nat) kq qs s (i:Nat) M.1 Bb.1 g r M.2.1 M.2.2 Bb.2 (by simp) (by rw[en,Int.toNat_natCast,d1,if_pos hd];rfl) (by rw[en];omega) h1 (by rw[en,en1];omega) (by rw[ev1];omega) hn5 hl5 hms (by rw[m1];exact h1) (by rw[en,Int.toNat_natCast,d2,eg];exact hab) (by rw[b1,List.length_set,m1];exact h1) (by omega) h3
   rw[en,Int.toNat_natCast,eg,Int.toNat_natCast,w32 (n:=g-1) (by omega),ej,w32 (n:=Bb.2) (by omega),Wt] at k1
   exact fin _ _ S2 (by omega) k1
  ·have k2:=Zt3 k us vs (vs.length:Nat) kq qs s (i:Nat) M.1 g r M.2.1 M.2.2 (by simp) (by rw[en,Int.toNat_natCast,d1,if_neg hd];rfl) (by rw[en];omega) h1 (by rw[en,en1];omega) (by rw[ev1];omega) hn5 hl5 hms (by rw[m1];exact h1) (by omega) h3
   rw[en,Int.toNat_natCast,Int.toNat_natCast,d2,w32 (n:=g) q2,ej] at k2
   exact fin _ _ (S1 (by omega)) q2 k2
end
abbrev lz (n:Int):List Int:=Zb n.toNat
theorem Zk2 {xs:List Int} (h:V5 xs):xs=lz (Zj xs):=by
 refine Me h (Qq _) ?_
 rw[Q9]
 have:=Zx h.1
 omega
theorem lz_abs {n:Int} (h:0≤n):Zb n.natAbs=lz n:=by unfold lz;congr 1;omega
theorem rvF (xs:List Int):rv false xs=Zj xs:=rfl
theorem Zb2 {xs ys:List Int} (hx:V5 xs) (hy:V5 ys) (hy0:ys ≠ []) (h1:xs.length<1000000) (h2:ys.length<1000000) :
  Ze Yir 149 [.sl xs.length (lm xs), .sl ys.length (lm ys)] (.tup [.sl (lz (Zj xs / Zj ys)).length (lm (lz (Zj xs / Zj ys))), .sl (lz (Zj xs % Zj ys)).length (lm (lz (Zj xs % Zj ys)))]):=by
 have hyl:=List.length_pos_iff.2 hy0
 have hcmp:=F1 hx hy (by omega)
 have hx0:=Zx hx.1
 have hyp:=Wr hy hy0
 by_cases hlt:Zj xs<Zj ys
 ·rw[Int.ediv_eq_zero_of_lt hx0 hlt,Int.emod_eq_of_lt hx0 hlt,← Zk2 hx]
  exact Zf6 xs ys _ (by unfold Uu;rw[if_pos hlt];rfl) hcmp
 have hcm:decide (Uu (Zj xs) (Zj ys)<0)=false:=by unfold Uu;rw[if_neg hlt];split <;> rfl
 by_cases hone:ys.length=1
 ·obtain⟨y,rfl⟩:=List.length_eq_one_iff.1 hone
  have e1:Zj [y]=y:=by simp[Zj]
  rw[e1] at hyp ⊢
  have hyb:=hy.1 y (by simp)
  obtain⟨qs,r,q1,q2,q3,q4,q5⟩:=Zhd hx.1 (d:=y) ⟨hyp,hyb.2⟩ (by omega) xs.length (List.replicate xs.length 0) 0 (Nat.le_refl _) (by simp) (Xk _) (by omega) (fun t _=>Jk _ _)
  rw[Xc,List.take_length,Int.mul_zero,Int.mul_zero,Int.add_zero,Int.zero_add] at q5
  have hd:=(Int.ediv_emod_unique hyp (a:=Zj xs) (r:=r) (q:=Zj qs)).2 ⟨by omega,q4.1,q4.2⟩
  have ur:U32 [r]:=fun x h=>by rw[List.mem_singleton.1 h];omega
  have er:Zj [r]=r:=by simp[Zj]
  have h:=Zf5 xs [y] qs _ r (-1) xs.length hcm rfl hcmp (by omega) (by
   rw[Int.toNat_natCast,Xx,w64 (by omega) (by omega)];exact q1) (by rw[← q2];exact Xe (by omega)) (by rw[w32 (n:=r) (by omega)];exact Xe (xs:=[r]) (by simp))
  rw[w32 (n:=r) (by omega),Wu q3,Wu ur,er,← hd.1,← hd.2] at h
  exact h
 ·obtain⟨m,hm⟩:∃ m,ys.length=m+2:=⟨ys.length-2,by omega⟩
  have hxl:ys.length≤xs.length:=by
   rcases Nat.lt_or_ge xs.length ys.length with g | g
   ·exact absurd (W6 hx hy g) hlt
   ·exact g
  -- the first limb of y
  have hyt:0<ys.getD (m+1) 0∧ys.getD (m+1) 0<4294967296:=by
   have a:=Zu hy.1 (m+1)
   rcases hy.2 with g | g
   ·exact absurd g hy0
   ·rw[show ys.length-1=m+1 by omega] at g;omega
  obtain⟨s,hs,s1,s2,_⟩:=Zqc hyt
  have hp:=Jb s
  -- the two shifted numbers
  have hU:=Ns (neg:=false) hx.1 s (by omega)
  have hV:=Ns (neg:=false) hy.1 s (by omega)
  rw[rvF] at hU hV
  have hU0:0≤Zj xs*2^s:=Int.mul_nonneg hx0 (by omega)
  have hV0:0<Zj ys*2^s:=Int.mul_pos hyp hp
  have eu:Zj (Zb (Zj xs*2^s).natAbs)=Zj xs*2^s:=by rw[Q9];omega
  have ev:Zj (Zb (Zj ys*2^s).natAbs)=Zj ys*2^s:=by rw[Q9];omega
  have cu:=Qq (Zj xs*2^s).natAbs
  have cv:=Qq (Zj ys*2^s).natAbs
  have hp2:(2:Int)^s≤2147483648:=by
   have:=Vt (show s≤31 by omega);rwa [show (2:Int)^31=2147483648 by decide] at this
  -- y between powers
  have ysplit:=Jn ys (j:=m+1) (by omega)
  have yd:=Qy ys (m+1)
  rw[J0 (xs:=ys) (i:=m+1+1) (by omega),Int.mul_zero,Int.add_zero] at yd
  rw[yd] at ysplit
  have ylo:=Vp hy.1 (m+1)
  have ylo0:=Zx (Xg hy.1 (m+1))
  have hP:=Q8 (m+1)
  have hV1:2147483648*4294967296^(m+1)≤Zj ys*2^s:=by
   rw[ysplit]
   have a:=Int.mul_le_mul_of_nonneg_right s1 (show (0:Int)≤4294967296^(m+1) by omega)
   have b:=Int.mul_nonneg (show (0:Int)≤2^s by omega) ylo0
   have e:(Zj (List.take (m+1) ys)+4294967296^(m+1)*ys.getD (m+1) 0)*2^s=2^s*Zj (List.take (m+1) ys)+ys.getD (m+1) 0*2^s*4294967296^(m+1):=by grind
   omega
  have e9:(4294967296:Int)^(m+2)=4294967296^(m+1)*4294967296:=Int.pow_succ _ _
  have hV2:Zj ys*2^s<4294967296^(m+2):=by
   rw[ysplit]
   have e0:=Zp8 (show s≤32 by omega)
   have a1:ys.getD (m+1) 0+1≤2^(32-s):=by
    rw[e0] at s2
    have:=Int.lt_of_mul_lt_mul_right s2 (by omega)
    omega
   have a2:=Int.mul_le_mul_of_nonneg_right a1 (show (0:Int)≤2^s*4294967296^(m+1) by have:=Int.mul_pos hp hP;omega)
   have a3:=Int.mul_lt_mul_of_pos_left ylo hp
   have e1:(ys.getD (m+1) 0+1)*(2^s*4294967296^(m+1))=2^s*(4294967296^(m+1)*ys.getD (m+1) 0)+2^s*4294967296^(m+1):=by grind
   have e2:(2:Int)^(32-s)*(2^s*4294967296^(m+1))=4294967296^(m+1)*4294967296:=by rw[← Int.mul_assoc,← e0,Int.mul_comm]
   rw[Int.mul_comm,Int.mul_add]
   omega
  -- the lengths
  have hvl1:(Zb (Zj ys*2^s).natAbs).length≤m+2:=K2 cv (by rw[ev];exact hV2)
  have hvl2:m+2≤(Zb (Zj ys*2^s).natAbs).length:=by
   apply Nat.le_of_not_lt
   intro hh
   have a:=Xd cv.1
   rw[ev] at a
   have b:=Uz (show (Zb (Zj ys*2^s).natAbs).length≤m+1 by omega)
   omega
  have hUlt:Zj xs*2^s<4294967296^(xs.length+1):=by
   have a:=Xd hx.1
   have b:=Int.mul_lt_mul_of_pos_right a hp
   have c:=Int.mul_le_mul_of_nonneg_left hp2 (show (0:Int)≤4294967296^xs.length by have:=Q8 xs.length;omega)
   have d:(4294967296:Int)^(xs.length+1)=4294967296^xs.length*4294967296:=Int.pow_succ _ _
   have e:=Q8 xs.length
   omega
  have hul1:(Zb (Zj xs*2^s).natAbs).length≤xs.length+1:=K2 cu (by rw[eu];exact hUlt)
  have hxne:xs ≠ []:=by intro e;rw[e,List.length_nil] at hxl;omega
  have hul2:xs.length≤(Zb (Zj xs*2^s).natAbs).length:=by
   apply Nat.le_of_not_lt
   intro hh
   have a:=Xd cu.1
   rw[eu] at a
   have b:=Uz (show (Zb (Zj xs*2^s).natAbs).length≤xs.length-1 by omega)
   have c:=Bj hx hxne
   have d:=Int.mul_le_mul_of_nonneg_left (show (1:Int)≤2^s by omega) hx0
   omega
  have hul3:0<xs.length:=List.length_pos_iff.2 hxne
  -- the working numbers
  generalize hvs:Zb (Zj ys*2^s).natAbs=vs at *
  generalize hus:Zb (Zj xs*2^s).natAbs=us0 at *
  have hvl:vs.length=m+2:=by omega
  have u00:U32 (us0++[0,0]):=fun x hh=>by
   rcases List.mem_append.1 hh with g | g
   ·exact cu.1 x g
   ·simp at g;omega
  have v00:Zj (us0++[0,0])=Zj xs*2^s:=by rw[Ub];simp[Zj,eu]
  have u2:U32 ((us0++[0,0]).take (xs.length+1)):=Xg u00 _
  have u1:((us0++[0,0]).take (xs.length+1)).length=xs.length+1:=by simp;omega
  have u3:Zj ((us0++[0,0]).take (xs.length+1))=Zj xs*2^s:=by
   have a:=Jn (us0++[0,0]) (j:=xs.length+1) (by simp;omega)
   rw[Wq u00 (n:=xs.length+1) (V:=4294967296^(xs.length+1)) (Int.le_refl _) (by rw[v00];exact hUlt),Int.mul_zero,Int.add_zero,v00] at a
   exact a.symm
  have elm:List.take ((xs.length+1)*1) (lm us0++([.int .u32 0, .int .u32 0]:List AV))=lm ((us0++[0,0]).take (xs.length+1)):=by
   simp[lm,List.map_take]
  generalize hU':(us0++[0,0]).take (xs.length+1)=us at *
  have hvtop:2147483648≤vs.getD (m+1) 0:=by
   have a:=Jn vs (j:=m+1) (by omega)
   have b:=Qy vs (m+1)
   rw[J0 (xs:=vs) (i:=m+1+1) (by omega),Int.mul_zero,Int.add_zero] at b
   rw[b] at a
   have c:=Vp cv.1 (m+1)
   apply Int.not_lt.1
   intro h
   have:=Int.mul_le_mul_of_nonneg_left (show vs.getD (m+1) 0+1≤2147483648 by omega) (show (0:Int)≤4294967296^(m+1) by omega)
   rw[Int.mul_add,Int.mul_one,Int.mul_comm _ 2147483648] at this
   omega
  have hini:Zj (us.drop (xs.length-ys.length+1))<Zj vs:=by
   have a:=Jn us (j:=xs.length-ys.length+1) (by omega)
   have b:=Zx (Xg u2 (xs.length-ys.length+1))
   have c:=Xd hx.1
   have d:=Int.mul_lt_mul_of_pos_right c hp
   have e:(4294967296:Int)^xs.length=4294967296^(xs.length-ys.length+1)*4294967296^(m+1):=by rw[← Int.pow_add];congr 1;omega
   have hQ:=Q8 (xs.length-ys.length+1)
   rw[ev]
   apply Int.lt_of_lt_of_le (b:=2^s*4294967296^(m+1))
   ·apply Int.lt_of_mul_lt_mul_left (a:=4294967296^(xs.length-ys.length+1)) _ (by omega)
    have e2:(4294967296:Int)^(xs.length-ys.length+1)*(2^s*4294967296^(m+1))=4294967296^xs.length*2^s:=by rw[e];grind
    omega
   ·have:=Int.mul_le_mul_of_nonneg_right hp2 (show (0:Int)≤4294967296^(m+1) by omega)
    omega
  obtain⟨us',qs,l1,l2,l3,l4,l5,l6,l7⟩:=Zme (k:=xs.length+1) (kq:=xs.length-ys.length+1) (s:=(s:Nat)) cv.1 hvl hvtop (by omega) (by omega) (xs.length-ys.length+1) us (List.replicate (xs.length-ys.length+1) 0) (Nat.le_refl _) u1 u2 (by simp) (Xk _) (fun t _=>Jk _ _) hini
  rw[Xc,Int.sub_zero,u3,ev] at l7
  rw[ev] at l6
  -- the remainder
  have hR:Zj us'=2^s*(Zj xs-Zj ys*Zj qs):=by
   rw[Int.mul_sub]
   have:2^s*(Zj ys*Zj qs)=Zj ys*2^s*Zj qs:=by grind
   rw[this,Int.mul_comm (2^s) (Zj xs)]
   omega
  have us0':=Zx l3
  have hR0:0≤Zj xs-Zj ys*Zj qs:=by
   apply Int.not_lt.1
   intro h
   have:=Int.mul_le_mul_of_nonneg_left (show Zj xs-Zj ys*Zj qs ≤ -1 by omega) (show (0:Int)≤2^s by omega)
   omega
  have hR1:Zj xs-Zj ys*Zj qs<Zj ys:=by
   rw[hR,Int.mul_comm (Zj ys) (2^s)] at l6
   exact Int.lt_of_mul_lt_mul_left l6 (by omega)
  have hd:=(Int.ediv_emod_unique hyp (a:=Zj xs) (r:=Zj xs-Zj ys*Zj qs) (q:=Zj qs)).2 ⟨by omega,hR0,hR1⟩
  have hdn:=Zd0 (neg:=false) l3 s (by omega) (by omega)
  rw[rvF,hR,Int.mul_ediv_cancel_left _ (show (2:Int)^s ≠ 0 by omega)] at hdn
  -- the whole
  have emx:(if (i64.wrap ((ys.length:Int)+1))>(i64.wrap ((xs.length:Int)+1)) then (i64.wrap ((ys.length:Int)+1)) else (i64.wrap ((xs.length:Int)+1)))=((xs.length+1:Nat):Int):=by
   rw[w64 (n:=(ys.length:Int)+1) (by omega) (by omega),w64 (n:=(xs.length:Int)+1) (by omega) (by omega),if_neg (by omega)];omega
  have esub:i64.wrap (((xs.length+1:Nat):Int)-(vs.length:Int))=((xs.length-ys.length+1:Nat):Int):=by rw[w64 (by omega) (by omega)];omega
  have esb1:i64.wrap (((xs.length-ys.length+1:Nat):Int)-1)=((xs.length-ys.length+1:Nat):Int)-1:=w64 (by omega) (by omega)
  have hz:=Zhc (xs:=xs) (ys:=ys) (y:=ys.getD (m+1) 0) (s:=s) hy0 (by omega) (by rw[show ys.length-1=m+1 by omega]) hyt.1 hs s1 s2 s 0 (by omega)
  have key:=Zf4 xs ys qs us' vs (Uu (Zj xs) (Zj ys)) (s:Nat) (vs.length:Nat) (-1) (Zj xs*2^s) (Zj ys*2^s) (Zj xs-Zj ys*Zj qs) (xs.length+1) (xs.length-ys.length+1) hcm (by simp;omega) hcmp hz hV (by rw[hus];omega) hU
   (by rw[hus,emx];omega) (by rw[emx,hvs,Int.toNat_natCast,esub];omega) (by
    rw[hus,hvs,emx,Int.toNat_natCast,esub,Int.toNat_natCast,esb1,elm,Xx]
    exact l1) (by rw[← l4];exact Xe (by omega)) (by rw[← l2];exact hdn)
  rw[Wu l5,lz_abs hR0] at key
  rw[hd.1,hd.2]
  exact key
def TDD:Jx:=TDC
theorem Zd:Q1 Yir TDD:=Zi9
end Go.Proofs.Ythnnfemologhfaa

namespace Go.Proofs.Ythnnfemologhfaa
open Go.IntKind (i64 u64 u32)
open Go.Ai
set_option maxRecDepth 100000
def Ee (rs:List Rn) (n:Int):Zk:=(.val (.sl rs.length (pc rs))::(dds 2 (.val (.int .i64 n)::(dds 31 []))))
theorem Ztn (rs:List Rn) (n:Int)  (c1:(decide (n>0))=true) (c2:((Xh (Zn (rs.getD (Int.toNat (i64.wrap (n-1))) z0)))==0)=true) (n1:0≤(i64.wrap (n-1))∧(i64.wrap (n-1))<(rs.length:Int)) (n2:Ze Yir 81 [Zt (rs.getD (Int.toNat (i64.wrap (n-1))) z0)] (.int .i64 (Xh (Zn (rs.getD (Int.toNat (i64.wrap (n-1))) z0))))):Za Yir Zc6 (Ee rs n) .norm (Ee rs (i64.wrap (n-1))):=(Za.go Zf 400 [.b true, .v (Zt (rs.getD (Int.toNat (i64.wrap (n-1))) z0)), .r (.int .i64 (Xh (Zn (rs.getD (Int.toNat (i64.wrap (n-1))) z0)))), .b true] [0,3] (ac c1 (ac n1 (ac (Qi n1) (ac n2 (ac c2 a0))))))
theorem Ztm (rs:List Rn) (n:Int)  (c1:(decide (n>0))=true) (c2:((Xh (Zn (rs.getD (Int.toNat (i64.wrap (n-1))) z0)))==0)=false) (n1:0≤(i64.wrap (n-1))∧(i64.wrap (n-1))<(rs.length:Int)) (n2:Ze Yir 81 [Zt (rs.getD (Int.toNat (i64.wrap (n-1))) z0)] (.int .i64 (Xh (Zn (rs.getD (Int.toNat (i64.wrap (n-1))) z0))))):Za Yir Zc6 (Ee rs n) (.exit 0) (Ee rs n):=(Za.go Zf 400 [.b true, .v (Zt (rs.getD (Int.toNat (i64.wrap (n-1))) z0)), .r (.int .i64 (Xh (Zn (rs.getD (Int.toNat (i64.wrap (n-1))) z0)))), .b false] [0,3] (ac c1 (ac n1 (ac (Qi n1) (ac n2 (ac c2 a0))))))
theorem Ztl (rs:List Rn) (n:Int)  (c1:(decide (n>0))=false):Za Yir Zc6 (Ee rs n) (.exit 0) (Ee rs n):=(Za.go Zf 400 [.b false, .b false] [0,3] (ac c1 (ac (show false=false from rfl) a0)))
def Mh (rs:List Rn) (n:Int) (k:Nat) (cs:List AV) (i:Int):Zk:=(.val (.sl rs.length (pc rs))::(dds 2 (.val (.int .i64 n)::(.own 2 k cs::(.val (.int .i64 i)::(dds 29 []))))))
theorem Ztk (rs:List Rn) (n:Int) (k:Nat) (cs:List AV) (i:Int)  (c1:(decide (i<n))=true) (n1:0≤i∧i<(rs.length:Int)) (n2:k+1≤1048576) (n3:Ze Yir 93 [Zt (rs.getD (Int.toNat i) z0)] (Zl (Zn (rs.getD (Int.toNat i) z0)))):Za Yir Zin (Mh rs n k cs i) .norm (Mh rs n (k+1) (cs++([.bool (decide ((Zn (rs.getD (Int.toNat i) z0))<0)), .sl ((Zb (Int.natAbs (Zn (rs.getD (Int.toNat i) z0)))).length) (lm (Zb (Int.natAbs (Zn (rs.getD (Int.toNat i) z0)))))]:List AV)) (i64.wrap (i+1))):=(Za.go Zf 400 [.b true, .v (Zt (rs.getD (Int.toNat i) z0)), .r (Zl (Zn (rs.getD (Int.toNat i) z0)))] [0,3,4,5] (ac c1 (ac n1 (ac (Qi n1) (ac n3 (ac (show List.length ([.bool (decide ((Zn (rs.getD (Int.toNat i) z0))<0)), .sl ((Zb (Int.natAbs (Zn (rs.getD (Int.toNat i) z0)))).length) (lm (Zb (Int.natAbs (Zn (rs.getD (Int.toNat i) z0)))))]:List AV)=1*2 from rfl) (ac n2 a0)))))))
theorem Ztj (rs:List Rn) (n:Int) (k:Nat) (cs:List AV) (i:Int)  (c1:(decide (i<n))=false):Za Yir Zin (Mh rs n k cs i) (.exit 2) (Mh rs n k cs i):=(Za.go Zf 400 [.b false] [0,3,4,5] (ac c1 a0))
theorem Yrun43 (rs:List Rn) (n i:Int) (k:Nat) (cs:List AV) (hl1:Za Yir (.loop Zc6) (Ee rs (rs.length:Int)) (.exit 0) (Ee rs n)) (hl2:Za Yir (.loop Zin) (Mh rs n 0 [] 0) (.exit 2) (Mh rs n k cs i)):Ze Yir 43 [.sl rs.length (pc rs)] (.fresh 2 k cs):=Ze.of_bodyW (fn:=Yi43) (s:=(dds 2 (.own 2 k cs::(dds 32 [])))) (ex := .ret) rfl rfl (Za.seq (Za.go (t:=(vp rs::(dds 1 (.own 2 0 []::(dds 32 []))))) Zf 400 [] [0,2] a0) (Za.seq (Za.go Zf 400 [] [0,3] a0) (Za.seq (Za.block hl1) (Za.seq (Za.go (t:=(vp rs::(dds 2 (vi n::(.own 2 0 []::(dds 30 [])))))) Zf 400 [] [0,3,4] a0) (Za.seq (Za.seq (Za.go Zf 400 [] [0,3,4,5] a0) (Za.block hl2)) (Za.go Zf 400 [] [2] a0)))))) (by intro i e;cases e) rfl
def Zqs (ts:List Rn) (r:Rn) (e:Int) (w:Rn) (i:Int):Zk:=(dds 2 (.val (.int .i64 e)::(dds 1 (.box [.bool r.1, .sl r.2.length (lm r.2)]::(dds 1 (.box [.bool false, .sl 0 []]::(.val (.sl ts.length (pc ts))::(.box [.bool w.1, .sl w.2.length (lm w.2)]::(.val (.int .i64 i)::(dds 27 []))))))))))
theorem Yk82_1 (ts:List Rn) (r:Rn) (e:Int) (w:Rn) (i:Int) (u:Int) (c1:(decide (i≥0))=true) (n1:0≤i∧i<(ts.length:Int)) (n2:Ze Yir 105 [Zt w,Zt r] (Zl ((Zn w)*(Zn r)))) (n3:Ze Yir 126 [Zt (ts.getD (Int.toNat i) z0), .int .i64 (i64.wrap (e*(i64.wrap ((i64.wrap ((ts.length:Int)-1))-i))))] (Us u)) (n4:Ze Yir 104 [Zl ((Zn w)*(Zn r)),Zl u] (Zl (((Zn w)*(Zn r))+u))):Za Yir Yc82 (Zqs ts r e w i) .norm (Zqs ts r e (cn (((Zn w)*(Zn r))+u)) (i64.wrap (i-1))):=(Za.go Zf 400 [.b true, .r (Zl ((Zn w)*(Zn r))), .v (Zt (ts.getD (Int.toNat i) z0)), .r (Us u), .r (Zl (((Zn w)*(Zn r))+u))] [2,4,6,7,8,9] (ac c1 (ac n2 (ac n1 (ac (Qi n1) (ac n3 (ac n4 a0)))))))
theorem Yk82_2 (ts:List Rn) (r:Rn) (e:Int) (w:Rn) (i:Int)  (c1:(decide (i≥0))=false):Za Yir Yc82 (Zqs ts r e w i) (.exit 0) (Zqs ts r e w i):=(Za.go Zf 400 [.b false] [2,4,6,7,8,9] (ac c1 a0))
theorem Yrun82 (rs ts:List Rn) (r w:Rn) (e i:Int) (n1:Ze Yir 43 [.sl rs.length (pc rs)] (.fresh 2 ts.length (pc ts))) (hl2:Za Yir (.loop Yc82) (Zqs ts r e (false,[]) (i64.wrap ((ts.length:Int)-1))) (.exit 0) (Zqs ts r e w i)):Ze Yir 82 [.sl rs.length (pc rs),Zt r, .int .i64 e] (Zt w):=Ze.of_bodyW (fn:=Yi82) (s:=(dds 6 (.box [.bool w.1, .sl w.2.length (lm w.2)]::(dds 30 [])))) (ex := .ret) rfl rfl (Za.seq (Za.go (t:=(vp rs::(.val (Zt r)::(vi e::(dds 1 (bR r::(dds 1 (.box [.bool false, .sl 0 []]::(dds 30 []))))))))) Zf 400 [] [0,1,2,4,6] a0) (Za.seq (Za.go (t:=(vp rs::(.val (Zt r)::(vi e::(dds 1 (bR r::(dds 1 (.box [.bool false, .sl 0 []]::(vp ts::(dds 29 [])))))))))) Zf 400 [.r (.fresh 2 ts.length (pc ts))] [0,1,2,4,6,7] (ac n1 a0)) (Za.seq (Za.go (t:=(vp rs::(.val (Zt r)::(vi e::(dds 1 (bR r::(dds 1 (.box [.bool false, .sl 0 []]::(vp ts::(.box [.bool false, .sl 0 []]::(dds 28 []))))))))))) Zf 400 [] [0,1,2,4,6,7,8] a0) (Za.seq (Za.seq (Za.go Zf 400 [] [2,4,6,7,8,9] a0) (Za.block hl2)) (Za.go Zf 400 [] [6] a0))))) (by intro i e;cases e) rfl
theorem Zd8 (rs:List Rn) (r:Rn):pc rs++([.bool r.1, .sl r.2.length (lm r.2)]:List AV)=pc (rs++[r]):=by rw [Gn];rfl
theorem Hv (g:Nat→Rn) (i:Nat):(List.range (i+1)).map g=(List.range i).map g++[g i]:=by rw [List.range_succ,List.map_append];rfl
theorem Zl8 {rs:List Rn} (hg:∀ r∈rs,Ju 1048576 r) (hN:rs.length≤1048576):∀ m,m≤rs.length→Za Yir (.loop Zc6) (Ee rs (m:Nat)) (.exit 0) (Ee rs (Z0 (Zi rs) m:Nat)):=by
 intro m
 induction m with
 | zero=>intro _;exact Za.loop_out (Ztl rs ((0:Nat):Int) (by simp)) (by intro e;cases e)
 | succ m ih =>
  intro hm
  have e1:i64.wrap (((m+1:Nat):Int)-1)=(m:Int):=by rw[w64 (by omega) (by omega)];omega
  obtain⟨g1,g2⟩:=Z8 hg m
  have hs:=Uk (neg:=(rs.getD m z0).1) g1 g2
  simp only[Z0]
  rw[Q2]
  by_cases h0:Zn (rs.getD m z0)=0
  ·rw[if_pos h0]
   have k:=Ztn rs ((m+1:Nat):Int) (by simp) (by rw[e1,Int.toNat_natCast,h0];rfl) (by rw[e1];omega) (by simp only[e1,Int.toNat_natCast];exact hs)
   rw[e1] at k
   exact Za.loop k (ih (by omega))
  ·rw[if_neg h0]
   exact Za.loop_out (Ztm rs ((m+1:Nat):Int) (by simp) (by rw[e1,Int.toNat_natCast,beq_eq_false_iff_ne];unfold Xh; (repeat' split) <;> omega) (by rw[e1];omega) (by simp only[e1,Int.toNat_natCast];exact hs)) (by intro e;cases e)
theorem Zl7 {rs:List Rn} (hg:∀ r∈rs,Ju 1048576 r) (hN:rs.length≤1048576) (n:Nat) (hn:n≤rs.length) :
  Za Yir (.loop Zin) (Mh rs (n:Nat) 0 [] 0) (.exit 2) (Mh rs (n:Nat) n (pc ((List.range n).map fun j=>cn (Zn (rs.getD j z0)))) (n:Nat)):=by
 refine Za.up (fun i=>Mh rs (n:Nat) i (pc ((List.range i).map fun j=>cn (Zn (rs.getD j z0)))) (i:Nat)) n (by intro e;cases e) ?_ ?_ 0 (Nat.zero_le _)
 ·intro i hi
  have ei:i64.wrap ((i:Int)+1)=((i+1:Nat):Int):=by rw[w64 (by omega) (by omega)];omega
  obtain⟨g1,g2⟩:=Z8 hg i
  have k:=Ztk rs (n:Nat) i (pc ((List.range i).map fun j=>cn (Zn (rs.getD j z0)))) (i:Nat) (by simp;omega) (by omega) (by omega) (by simp only[Int.toNat_natCast];exact Zdq g1 g2)
  refine k.to rfl ?_
  simp only[Int.toNat_natCast,ei]
  rw[Hv,← Zd8]
  rfl
 ·exact Ztj rs (n:Nat) n _ (n:Nat) (by simp)
theorem Xl {rs:List Rn} (hg:∀ r∈rs,Ju 1048576 r) (hN:rs.length≤1048576):Ze Yir 43 [.sl rs.length (pc rs)] (.fresh 2 (Zc (Zi rs)).length (pk (Zc (Zi rs)))):=by
 have hle:=Wv (Zi rs) rs.length
 have hlen:(Zc (Zi rs)).length=Z0 (Zi rs) rs.length:=by rw[Ux,Zs]
 have h:=Yrun43 rs _ _ _ _ (Zl8 hg hN rs.length (Nat.le_refl _)) (Zl7 hg hN _ hle)
 have e3:(List.range (Z0 (Zi rs) rs.length)).map (fun j=>cn (Zn (rs.getD j z0)))=(Zc (Zi rs)).map cn:=by
  rw[← Nv,hlen]
  apply List.map_congr_left
  intro i _
  rw[Je,Q2]
 rw[e3,← hlen] at h
 exact h
theorem Aj (e:Nat):Jg (e / 32+1) ((2:Int)^e):=by
 unfold Jg
 have h1:((2:Int)^e).natAbs=2^e:=by rw[Int.natAbs_pow];rfl
 have h2:(4294967296:Nat)^(e / 32+1)=2^(32*(e / 32+1)):=by rw[Nat.pow_mul]
 rw[h1,h2]
 exact Nat.pow_lt_pow_right (by decide) (by omega)
theorem Zey {K X:Nat} {x:Int} (hx:Jg X x) (e:Nat):∀ {ts:List Int},(∀ t∈ts,Jg K t)→Jg (K+1+ts.length*(X+(e / 32+1)+1)) (hv ts x (2^e))
 | [],_=>Vb _
 | t::ts,h=>by
  have ih:=Zey (K:=K) hx e (ts:=ts) fun y hy=>h y (List.mem_cons_of_mem _ hy)
  have h1:Jg (K+(e*ts.length / 32+1)) (t*((2:Int)^e)^ts.length):=by
   rw[← Int.pow_mul]
   exact (h t List.mem_cons_self).mul (Aj _)
  have h2:=hx.mul ih
  have hb:e*ts.length / 32≤ts.length*(e / 32+1):=by
   have:e*ts.length≤32*(ts.length*(e / 32+1)):=by
    have h3:e≤32*(e / 32+1):=by omega
    calc e*ts.length≤(32*(e / 32+1))*ts.length:=Nat.mul_le_mul_right _ h3
     _=32*(ts.length*(e / 32+1)):=by rw[Nat.mul_assoc,Nat.mul_comm (e / 32+1)]
   omega
  have hb2:ts.length*(e / 32+1)≤ts.length*(X+(e / 32+1)+1):=Nat.mul_le_mul_left _ (by omega)
  have h3:=(h1.mono (k:=K+1+ts.length*(X+(e / 32+1)+1)+X+(e / 32+1)) (by omega)).add (h2.mono (by omega))
  simp only[hv,List.length_cons,Nat.add_mul,Nat.one_mul]
  exact h3.mono (by omega)
theorem Zs6 {K X:Nat} {ts:List Rn} {r:Rn} (ht:∀ t∈ts,Ju K t) (hr:Ju X r) (e:Nat) (hS:K+2+(ts.length+1)*(X+(e / 32+1)+1)≤1048576) (he:e≤1073741824) :
  ∀ n (w:Rn),n≤ts.length→Zn w=hv ((Zi ts).drop n) (Zn r) (2^e)→Ju (K+1+(ts.length-n)*(X+(e / 32+1)+1)) w → 
  ∃ w',Zn w'=hv (Zi ts) (Zn r) (2^e)∧(w'=w∧n=0∨w'=cn (hv (Zi ts) (Zn r) (2^e)))∧Za Yir (.loop Yc82) (Zqs ts r (e:Nat) w ((n:Int)-1)) (.exit 0) (Zqs ts r (e:Nat) w' (-1)):=by
 intro n
 induction n with
 | zero =>
  intro w _ hw _
  refine⟨w,by simpa using hw, .inl ⟨rfl,rfl⟩,?_⟩
  exact Za.loop_out (Yk82_2 ts r (e:Nat) w (((0:Nat):Int)-1) (by simp)) (by intro e;cases e)
 | succ n ih =>
  intro w hn hw gw
  obtain⟨t1,t2⟩:=Z8 ht n
  have e0:((n+1:Nat):Int)-1=(n:Int):=by omega
  have hK1:(ts.length-(n+1))*(X+(e / 32+1)+1)+(X+(e / 32+1)+1)=(ts.length-n)*(X+(e / 32+1)+1):=by
   rw[show ts.length-n=ts.length-(n+1)+1 by omega,Nat.add_mul,Nat.one_mul]
  have hK2:(ts.length-n)*(X+(e / 32+1)+1)≤(ts.length+1)*(X+(e / 32+1)+1):=Nat.mul_le_mul_right _ (by omega)
  have hsh:e*(ts.length-1-n) / 32≤(ts.length-(n+1))*(X+(e / 32+1)+1):=by
   have h3:e≤32*(e / 32+1):=by omega
   have h4:e*(ts.length-1-n)≤32*((ts.length-(n+1))*(e / 32+1)):=by
    calc e*(ts.length-1-n)≤(32*(e / 32+1))*(ts.length-1-n):=Nat.mul_le_mul_right _ h3
     _=32*((ts.length-(n+1))*(e / 32+1)):=by rw[Nat.mul_assoc,Nat.mul_comm (e / 32+1),show ts.length-1-n=ts.length-(n+1) by omega]
   have h5:(ts.length-(n+1))*(e / 32+1)≤(ts.length-(n+1))*(X+(e / 32+1)+1):=Nat.mul_le_mul_left _ (by omega)
   omega
  have w1:i64.wrap ((e:Int)*i64.wrap (i64.wrap ((ts.length:Int)-1)-(n:Int)))=((e*(ts.length-1-n):Nat):Int):=by
   have hle:ts.length≤1048576:=by
    have:ts.length*1≤(ts.length+1)*(X+(e / 32+1)+1):=Nat.mul_le_mul (by omega) (by omega)
    omega
   rw[w64 (n:=(ts.length:Int)-1) (by omega) (by omega),w64 (n:=(ts.length:Int)-1-(n:Int)) (by omega) (by omega)]
   have e3:(ts.length:Int)-1-(n:Int)=((ts.length-1-n:Nat):Int):=by omega
   rw[e3,← Int.natCast_mul]
   have:e*(ts.length-1-n)≤1073741824*1048576:=Nat.mul_le_mul he (by omega)
   exact w64 (by omega) (by omega)
  have w2:i64.wrap ((n:Int)-1)=(n:Int)-1:=by
   have hle:ts.length≤1048576:=by
    have:ts.length*1≤(ts.length+1)*(X+(e / 32+1)+1):=Nat.mul_le_mul (by omega) (by omega)
    omega
   exact w64 (by omega) (by omega)
  have hst:hv ((Zi ts).drop n) (Zn r) (2^e)=Zn w*Zn r+Zn (ts.getD n z0)*2^(e*(ts.length-1-n)):=by
   have h1:(Zi ts).drop n=(Zi ts).getD n 0::(Zi ts).drop (n+1):=by
    rw[List.drop_eq_getElem_cons (by rw[Zs];omega)]
    congr 1
    rw[List.getD_eq_getElem?_getD,List.getElem?_eq_getElem (by rw[Zs];omega)];rfl
   rw[h1,hv,Q2,List.length_drop,Zs,← hw,← Int.pow_mul,show ts.length-(n+1)=ts.length-1-n by omega]
   generalize Zn (ts.getD n z0)*2^(e*(ts.length-1-n))=A
   grind
  have fw:=gw.fits
  have fp:=(fw.mul hr.fits)
  have ft:Jg (K+(e*(ts.length-1-n) / 32+1)) (Zn (ts.getD n z0)*2^(e*(ts.length-1-n))):=(Z8 ht n).fits.mul (Aj _)
  have hgood:Ju (K+1+(ts.length-n)*(X+(e / 32+1)+1)) (cn (Zn w*Zn r+Zn (ts.getD n z0)*2^(e*(ts.length-1-n)))):=by
   refine (Q5 ((fp.mono (k:=K+1+(ts.length-(n+1))*(X+(e / 32+1)+1)+X+(e / 32+1)) (by omega)).add (ft.mono (by omega)))).mono (by omega)
  obtain⟨w',q1,q2,q3⟩:=ih (cn (Zn w*Zn r+Zn (ts.getD n z0)*2^(e*(ts.length-1-n)))) (by omega) (by rw[Z9,hst]) hgood
  refine⟨w',q1, .inr ?_,?_⟩
  ·rcases q2 with ⟨g1,g2⟩ | g
   ·rw[g1]
    rw[g1,Z9] at q1
    rw[q1]
   ·exact g
  ·rw[e0]
   have l1:=fp.len
   have l2:=ft.len
   obtain⟨gw1,gw2⟩:=gw
   have k:=Yk82_1 ts r (e:Nat) w (n:Nat) (Zn (ts.getD n z0)*2^(e*(ts.length-1-n))) (by simp) (by omega)
    (Fh gw1 hr.1 (by have:=hr.2;omega))
    (by rw[w1,Int.toNat_natCast];exact Ns t1 _ (by omega))
    (by
     have:=Mw (na:=decide (Zn w*Zn r<0)) (nb:=decide (Zn (ts.getD n z0)*2^(e*(ts.length-1-n))<0)) (Qx (Zn w*Zn r).natAbs) (Qx (Zn (ts.getD n z0)*2^(e*(ts.length-1-n))).natAbs) (by omega) (by omega)
     rw[V7,V7] at this
     exact this)
   rw[w2] at k
   exact Za.loop k q3
theorem Zbh {K X:Nat} {rs:List Rn} {r:Rn} (ht:∀ t∈rs,Ju K t) (hr:Ju X r) (e:Nat) (hS:K+2+(rs.length+1)*(X+(e / 32+1)+1)≤1048576) (he:e≤1073741824) :
  Ze Yir 82 [.sl rs.length (pc rs), .agg [.bool r.1, .sl r.2.length (lm r.2)], .int .i64 (e:Nat)] (Zl (hv (Zc (Zi rs)) (Zn r) (2^e))):=by
 have hle:rs.length≤1048576:=by
  have:rs.length*1≤(rs.length+1)*(X+(e / 32+1)+1):=Nat.mul_le_mul (by omega) (by omega)
  omega
 have hK:K≤1048576:=by omega
 have htr:=Xl (fun r h=>(ht r h).mono hK) hle
 have hl:=Qc (Zi rs)
 rw[Zs] at hl
 have gts:∀ t∈(Zc (Zi rs)).map cn,Ju K t:=Be (W1 (Jf ht))
 have hS2:K+2+(((Zc (Zi rs)).map cn).length+1)*(X+(e / 32+1)+1)≤1048576:=by
  have:(((Zc (Zi rs)).map cn).length+1)*(X+(e / 32+1)+1)≤(rs.length+1)*(X+(e / 32+1)+1):=Nat.mul_le_mul_right _ (by simp;omega)
  omega
 obtain⟨w',q1,q2,q3⟩:=Zs6 gts hr e hS2 he ((Zc (Zi rs)).map cn).length z0 (Nat.le_refl _) (by
  rw[Z5,List.length_map,List.drop_length];rfl) (R5 _)
 rw[Z5] at q1 q2
 have e1:i64.wrap (((((Zc (Zi rs)).map cn).length:Nat):Int)-1)=((((Zc (Zi rs)).map cn).length:Nat):Int)-1:=w64 (by omega) (by rw[List.length_map];omega)
 have hcn:w'=cn (hv (Zc (Zi rs)) (Zn r) (2^e)):=by
  rcases q2 with ⟨g1,g2⟩ | g
  ·rw[List.length_map] at g2
   rw[g1,List.eq_nil_of_length_eq_zero g2]
   rfl
  ·exact g
 rw[← List.length_map (f:=cn)] at htr
 have h:=Yrun82 rs ((Zc (Zi rs)).map cn) r w' (e:Nat) (-1) htr (by rw[e1];exact q3)
 rw[hcn] at h
 exact h
end Go.Proofs.Ythnnfemologhfaa

namespace Go.Proofs.Ythnnfemologhfaa
open Go.IntKind (i64 u64 u32)
open Go.Ai
set_option maxRecDepth 100000
def Dr (na:Bool) (nb:Bool) (la:Nat) (xa:List AV) (lb:Nat) (xb:List AV) (n:Nat) (cs:List AV) (i:Int) (x:Int) (c:Int) (k:Int):Zk:=(dds 4 (.box [.bool false, .sl 0 []]::(.val (.bool na)::(dds 1 (.val (.bool nb)::(.val (.sl lb xb)::(.own 1 n cs::(.val (.int .i64 i)::(.val (.int .u32 x)::(.val (.int .u64 c)::(dds 28 (.val (.sl la xa)::(.val (.int .i64 (la:Int))::(.val (.int .i64 i)::(dds 4 (.val (.sl lb xb)::(.val (.int .i64 (lb:Int))::(.val (.int .i64 k)::(dds 43 [])))))))))))))))))))
theorem Zny (na:Bool) (nb:Bool) (la:Nat) (xa:List AV) (lb:Nat) (xb:List AV) (n:Nat) (cs:List AV) (i:Int) (x:Int) (c:Int) (k:Int) (ds:List AV) (y z:Int) (c1:(decide (k<(lb:Int)))=true) (n1:0≤k∧k<(lb:Int)) (n2:Z3 (List.drop (Int.toNat k*1) xb) 0 1 true=some (.int .u32 y)) (n3:0≤(i64.wrap (i+k))∧(i64.wrap (i+k))<(n:Int)) (n4:Z3 cs (Int.toNat (i64.wrap (i+k))*1) 1 true=some (.int .u32 z)) (n5:0≤(i64.wrap (i+k))∧(i64.wrap (i+k))<(n:Int)) (n6:Xq cs (Int.toNat (i64.wrap (i+k))*1) [.int .u32 (u32.wrap (u64.wrap ((u64.wrap ((u64.wrap ((u64.wrap x)*(u64.wrap y)))+(u64.wrap z)))+c)))]=some ds):Za Yir Ps (Dr na nb la xa lb xb n cs i x c k) .norm (Dr na nb la xa lb xb n ds i x (Int.fdiv (u64.wrap ((u64.wrap ((u64.wrap ((u64.wrap x)*(u64.wrap y)))+(u64.wrap z)))+c)) (2^(min (Int.toNat 32) (IntKind.bits .u64)))) (i64.wrap (k+1))):=Za.script (ps:=[(decide (k<(lb:Int)))=true,0≤k∧k<(lb:Int),Z3 (List.drop (Int.toNat k*1) xb) 0 1 true=some (.int .u32 y),0≤(i64.wrap (i+k))∧(i64.wrap (i+k))<(n:Int),Z3 cs (Int.toNat (i64.wrap (i+k))*1) 1 true=some (.int .u32 z),¬ (32:Int)<0,0≤(i64.wrap (i+k))∧(i64.wrap (i+k))<(n:Int),Xq cs (Int.toNat (i64.wrap (i+k))*1) [.int .u32 (u32.wrap (u64.wrap ((u64.wrap ((u64.wrap ((u64.wrap x)*(u64.wrap y)))+(u64.wrap z)))+c)))]=some ds]) Zm 300 [.b true, .v (.int .u32 y), .v (.int .u32 z), .l ds] [4,5,7,8,9,10,11,12,41,42,43,48,49,50] (by kernel_rfl) ⟨c1,n1,n2,n3,n4,(by decide),n5,n6,trivial⟩
theorem Znx (na:Bool) (nb:Bool) (la:Nat) (xa:List AV) (lb:Nat) (xb:List AV) (n:Nat) (cs:List AV) (i:Int) (x:Int) (c:Int) (k:Int) (c1:(decide (k<(lb:Int)))=false):Za Yir Ps (Dr na nb la xa lb xb n cs i x c k) (.exit 2) (Dr na nb la xa lb xb n cs i x c k):=Za.script (ps:=[(decide (k<(lb:Int)))=false]) Zm 300 [.b false] [4,5,7,8,9,10,11,12,41,42,43,48,49,50] (by kernel_rfl) ⟨c1,trivial⟩
def Pa (na:Bool) (nb:Bool) (la:Nat) (xa:List AV) (lb:Nat) (xb:List AV) (n:Nat) (cs:List AV) (i:Int):Zk:=(dds 4 (.box [.bool false, .sl 0 []]::(.val (.bool na)::(dds 1 (.val (.bool nb)::(.val (.sl lb xb)::(.own 1 n cs::(dds 31 (.val (.sl la xa)::(.val (.int .i64 (la:Int))::(.val (.int .i64 i)::(dds 50 []))))))))))))
theorem Zhp (na nb:Bool) (la:Nat) (xa:List AV) (lb:Nat) (xb:List AV) (n:Nat) (cs:List AV) (i:Int) (h:(decide (i<(la:Int)))=false):Za Yir Zi0 (Pa na nb la xa lb xb n cs i) (.exit 0) (Pa na nb la xa lb xb n cs i):=Za.script (ps:=[(decide (i<(la:Int)))=false]) Zm 300 [.b false] [4,5,7,8,9,41,42,43] (by kernel_rfl) ⟨h,trivial⟩
theorem Zcx (na nb:Bool) (la:Nat) (xa:List AV) (lb:Nat) (xb:List AV) (n:Nat) (cs ds es:List AV) (i x c k:Int) (h:(decide (i<(la:Int)))=true) (hi:0≤i∧i<(la:Int)) (hx:Z3 (List.drop (Int.toNat i*1) xa) 0 1 true=some (.int .u32 x)) (hl:Za Yir (.loop Ps) (Dr na nb la xa lb xb n cs i x 0 0) (.exit 2) (Dr na nb la xa lb xb n ds i x c k)) (hix:0≤i64.wrap (i+(lb:Int))∧i64.wrap (i+(lb:Int))<(n:Int)) (hst:Xq ds (Int.toNat (i64.wrap (i+(lb:Int)))*1) [.int .u32 (u32.wrap c)]=some es):Za Yir Zi0 (Pa na nb la xa lb xb n cs i) .norm (Pa na nb la xa lb xb n es (i64.wrap (i+1))):=(Za.seq (Za.script (t:=(dds 4 (.box [.bool false, .sl 0 []]::(.val (.bool na)::(dds 1 (.val (.bool nb)::(.val (.sl lb xb)::(.own 1 n cs::(dds 31 (.val (.sl la xa)::(vi (la:Int)::(vi i::(.val (.bool (decide (i<(la:Int))))::(dds 49 [])))))))))))))) (ps:=[]) Zm 300 [] [4,5,7,8,9,41,42,43,44] (by kernel_rfl) trivial) (Za.seq (Za.script (t:=(dds 4 (.box [.bool false, .sl 0 []]::(.val (.bool na)::(dds 1 (.val (.bool nb)::(.val (.sl lb xb)::(.own 1 n cs::(dds 31 (.val (.sl la xa)::(vi (la:Int)::(vi i::(.val (.bool (decide (i<(la:Int))))::(dds 49 [])))))))))))))) (ps:=[(decide (i<(la:Int)))=true]) Zm 300 [.b true] [4,5,7,8,9,41,42,43,44] (by kernel_rfl) ⟨h,trivial⟩) (Za.seq (Za.block_norm (Za.seq (Za.script (t:=(dds 4 (.box [.bool false, .sl 0 []]::(.val (.bool na)::(dds 1 (.val (.bool nb)::(.val (.sl lb xb)::(.own 1 n cs::(vi i::(.val (.int .u32 x)::(dds 29 (.val (.sl la xa)::(vi (la:Int)::(vi i::(.val (.bool (decide (i<(la:Int))))::(vi i::(.mem (List.drop (Int.toNat i*1) xa)::(.val (.int .u32 x)::(dds 46 []))))))))))))))))))) (ps:=[0≤i∧i<(la:Int),Z3 (List.drop (Int.toNat i*1) xa) 0 1 true=some (.int .u32 x)]) Zm 300 [.v (.int .u32 x)] [4,5,7,8,9,10,11,41,42,43,44,45,46,47] (by kernel_rfl) ⟨hi,hx,trivial⟩) (Za.seq (Za.script (t:=(dds 4 (.box [.bool false, .sl 0 []]::(.val (.bool na)::(dds 1 (.val (.bool nb)::(.val (.sl lb xb)::(.own 1 n cs::(vi i::(.val (.int .u32 x)::(.val (.int .u64 0)::(dds 28 (.val (.sl la xa)::(vi (la:Int)::(vi i::(.val (.bool (decide (i<(la:Int))))::(vi i::(.mem (List.drop (Int.toNat i*1) xa)::(.val (.int .u32 x)::(dds 46 [])))))))))))))))))))) (ps:=[]) Zm 300 [] [4,5,7,8,9,10,11,12,41,42,43,44,45,46,47] (by kernel_rfl) trivial) (Za.seq (Za.seq (Za.script (t:=(dds 4 (.box [.bool false, .sl 0 []]::(.val (.bool na)::(dds 1 (.val (.bool nb)::(.val (.sl lb xb)::(.own 1 n cs::(vi i::(.val (.int .u32 x)::(.val (.int .u64 0)::(dds 28 (.val (.sl la xa)::(vi (la:Int)::(vi i::(dds 4 (.val (.sl lb xb)::(vi (lb:Int)::(vi 0::(dds 43 [])))))))))))))))))))) (ps:=[]) Zm 300 [] [4,5,7,8,9,10,11,12,41,42,43,48,49,50] (by kernel_rfl) trivial) (Za.block hl)) (Za.script (t:=(dds 4 (.box [.bool false, .sl 0 []]::(.val (.bool na)::(dds 1 (.val (.bool nb)::(.val (.sl lb xb)::(.own 1 n es::(vi i::(.val (.int .u32 x)::(.val (.int .u64 c)::(dds 28 (.val (.sl la xa)::(vi (la:Int)::(vi i::(dds 4 (.val (.sl lb xb)::(vi (lb:Int)::(vi k::(dds 29 (.dup 9::(vi i::(.val (.sl lb xb)::(vi (lb:Int)::(vi (i64.wrap (i+(lb:Int)))::(.val (.int .u64 c)::(.val (.int .u32 (u32.wrap c))::(.ptr 9 (Int.toNat (i64.wrap (i+(lb:Int)))*1)::(dds 6 []))))))))))))))))))))))))))))) (ps:=[0≤(i64.wrap (i+(lb:Int)))∧(i64.wrap (i+(lb:Int)))<(n:Int),Xq ds (Int.toNat (i64.wrap (i+(lb:Int)))*1) [.int .u32 (u32.wrap c)]=some es]) Zm 300 [.l es] [4,5,7,8,9,10,11,12,41,42,43,48,49,50,80,81,82,83,84,85,86,87] (by kernel_rfl) ⟨hix,hst,trivial⟩))))) (Za.script (t:=(dds 4 (.box [.bool false, .sl 0 []]::(.val (.bool na)::(dds 1 (.val (.bool nb)::(.val (.sl lb xb)::(.own 1 n es::(dds 31 (.val (.sl la xa)::(vi (la:Int)::(vi (i64.wrap (i+1))::(dds 50 []))))))))))))) (ps:=[]) Zm 300 [] [4,5,7,8,9,41,42,43] (by kernel_rfl) trivial))))
theorem Zhl (na nb:Bool) (xs ys:List Int) (hx:U32 xs) (hy:U32 ys) (n i:Nat) (hn:n≤1048576) (hib:i+ys.length≤n):∀ (r k:Nat) (out:List Int) (c:Int),r+k=ys.length→out.length=n→U32 out→0≤c∧c<4294967296 →
  Za Yir (.loop Ps) (Dr na nb xs.length (lm xs) ys.length (lm ys) n (lm out) (i:Int) (xs.getD i 0) c (k:Int)) (.exit 2)
   (Dr na nb xs.length (lm xs) ys.length (lm ys) n (lm (Ho (xs.getD i 0) ys i r k out c).1) (i:Int) (xs.getD i 0) (Ho (xs.getD i 0) ys i r k out c).2 (ys.length:Int)):=by
 intro r
 induction r with
 | zero =>
  intro k out c hk _ _ _
  have hk':k=ys.length:=by omega
  subst hk'
  exact Za.loop_out (Znx na nb xs.length (lm xs) ys.length (lm ys) n (lm out) (i:Int) (xs.getD i 0) c (ys.length:Int) (by simp)) (by intro e;cases e)
 | succ r ih =>
  intro k out c hk hl hu hc
  have hai:=Zu hx i
  have hbk:=Zu hy k
  have hok:=Zu hu (i+k)
  obtain⟨w1,w2,w3,w4⟩:=Pw hai hbk hc hok
  have ei:i64.wrap ((i:Int)+(k:Int))=((i+k:Nat):Int):=by rw[w64 (by omega) (by omega)];omega
  have ek:i64.wrap ((k:Int)+1)=((k+1:Nat):Int):=by rw[w64 (by omega) (by omega)];omega
  have hz:=Rs (xs:=out) (i:=i+k) (by omega)
  have hyk:=J5 (xs:=ys) (i:=k) (by omega)
  have hst:=Wz (xs:=out) (i:=i+k) (v:=(c+(out.getD (i+k) 0+xs.getD i 0*ys.getD k 0)) % 4294967296) (by omega)
  have eW:u64.wrap (u64.wrap (u64.wrap (u64.wrap (xs.getD i 0)*u64.wrap (ys.getD k 0))+u64.wrap (out.getD (i+k) 0))+c)=c+(out.getD (i+k) 0+xs.getD i 0*ys.getD k 0):=by
   have q1:u64.wrap (xs.getD i 0)=xs.getD i 0:=by rw[Qw];omega
   have q2:u64.wrap (ys.getD k 0)=ys.getD k 0:=by rw[Qw];omega
   have q3:u64.wrap (out.getD (i+k) 0)=out.getD (i+k) 0:=by rw[Qw];omega
   rw[q1,q2,q3,Qw,Qw,Qw]
   omega
  have eS:Int.fdiv (c+(out.getD (i+k) 0+xs.getD i 0*ys.getD k 0)) (2^(min (Int.toNat 32) (IntKind.bits .u64)))=(c+(out.getD (i+k) 0+xs.getD i 0*ys.getD k 0)) / 4294967296:=by
   show Int.fdiv _ 4294967296=_
   rw[Int.fdiv_eq_ediv_of_nonneg _ (by omega)]
  have h1:=Zny na nb xs.length (lm xs) ys.length (lm ys) n (lm out) (i:Int) (xs.getD i 0) c (k:Int) (lm (out.set (i+k) ((c+(out.getD (i+k) 0+xs.getD i 0*ys.getD k 0)) % 4294967296))) (ys.getD k 0) (out.getD (i+k) 0)
   (by simp;omega) (by omega) (by rw[Int.toNat_natCast];exact hyk) (by rw[ei];omega) (by rw[ei,Int.toNat_natCast];exact hz) (by rw[ei];omega) (by rw[ei,Int.toNat_natCast,eW,Wt];exact hst)
  rw[eW,eS,ek] at h1
  exact Za.loop h1 (ih (k+1) _ _ (by omega) (by simpa using hl) (Q0 hu (by omega)) (by omega))
theorem Zmp (na nb:Bool) (xs ys:List Int) (hx:U32 xs) (hy:U32 ys) (hN:xs.length+ys.length≤1048576):∀ (r i:Nat) (out:List Int),r+i=xs.length→out.length=xs.length+ys.length→U32 out→(∀ j,i+ys.length≤j→out.getD j 0=0) →
  ∃ out',out'.length=xs.length+ys.length∧U32 out'∧Zj out'=Zj out+4294967296^i*(Zj (xs.drop i)*Zj ys) ∧
   Za Yir (.loop Zi0) (Pa na nb xs.length (lm xs) ys.length (lm ys) (xs.length+ys.length) (lm out) (i:Int)) (.exit 0) (Pa na nb xs.length (lm xs) ys.length (lm ys) (xs.length+ys.length) (lm out') (xs.length:Int)):=by
 intro r
 induction r with
 | zero =>
  intro i out hi hl hu _
  have hi':i=xs.length:=by omega
  subst hi'
  refine⟨out,hl,hu,by simp[Zj],?_⟩
  exact Za.loop_out (Zhp na nb xs.length (lm xs) ys.length (lm ys) (xs.length+ys.length) (lm out) (xs.length:Int) (by simp)) (by intro e;cases e)
 | succ r ih =>
  intro i out hi hl hu hz
  have hai:=Zu hx i
  have hlt:i<xs.length:=by omega
  have hin:=Zhl na nb xs ys hx hy (xs.length+ys.length) i hN (by omega) ys.length 0 out 0 (by omega) hl hu (by omega)
  obtain⟨g1,g2,g3,g4,g5⟩:=Zao (i:=i) hai hy ys.length 0 out 0 (by omega) (by omega) hu (by omega)
  generalize Ho (xs.getD i 0) ys i ys.length 0 out 0=q at *
  obtain⟨ds,c⟩:=q
  dsimp only at g1 g2 g3 g4 g5 hin
  have ei:i64.wrap ((i:Int)+(ys.length:Int))=((i+ys.length:Nat):Int):=by rw[w64 (by omega) (by omega)];omega
  have ei1:i64.wrap ((i:Int)+1)=((i+1:Nat):Int):=by rw[w64 (by omega) (by omega)];omega
  have ec:u32.wrap c=c:=by rw[Wt];omega
  have hst:=Wz (xs:=ds) (i:=i+ys.length) (v:=c) (by omega)
  have hxi:=J5 (xs:=xs) (i:=i) hlt
  have h1:=Zcx na nb xs.length (lm xs) ys.length (lm ys) (xs.length+ys.length) (lm out) (lm ds) (lm (ds.set (i+ys.length) c)) (i:Int) (xs.getD i 0) c (ys.length:Int) (by simp;omega) (by omega) (by rw[Int.toNat_natCast];exact hxi) hin (by rw[ei];omega) (by rw[ei,Int.toNat_natCast,ec];exact hst)
  rw[ei1] at h1
  obtain⟨out',k1,k2,k3,k4⟩:=ih (i+1) (ds.set (i+ys.length) c) (by omega) (by simp;omega) (Q0 g2 g3) (fun j hj=>by rw[Gb (by omega),g5 j (by omega),hz j (by omega)])
  refine⟨out',k1,k2,?_,Za.loop h1 k4⟩
  have hv:Zj (ds.set (i+ys.length) c)=Zj out+4294967296^i*(xs.getD i 0*Zj ys):=by
   rw[Jy ds _ _ (by omega),g5 _ (Nat.le_refl _),hz _ (Nat.le_refl _)]
   simp only[Nat.add_zero,List.drop_zero,Int.zero_add,Int.sub_zero] at g4 ⊢
   exact g4
  have hd:Zj (xs.drop i)=xs.getD i 0+4294967296*Zj (xs.drop (i+1)):=Qy xs i
  rw[k3,hv,hd,Int.pow_succ]
  generalize (4294967296:Int)^i=p at *
  generalize Zj (xs.drop (i+1))=V at *
  grind
theorem Zgz (na:Bool) (xs:List Int) (nb:Bool) (ys:List Int) (a b:Int) (h1:Ze Yir 122 [.agg [.bool na, .sl xs.length (lm xs)]] (.tup [.bool (decide (a<0)), .sl (Zb (Int.natAbs a)).length (lm (Zb (Int.natAbs a)))])) (h2:Ze Yir 122 [.agg [.bool nb, .sl ys.length (lm ys)]] (.tup [.bool (decide (b<0)), .sl (Zb (Int.natAbs b)).length (lm (Zb (Int.natAbs b)))])) (z:((((Zb (Int.natAbs a)).length:Nat):Int)==0)=true):Ze Yir 113 [.agg [.bool na, .sl xs.length (lm xs)], .agg [.bool nb, .sl ys.length (lm ys)]] (.agg [.bool false, .sl 0 []]):=Ze.script (ps:=[Ze Yir 122 [.agg [.bool na, .sl xs.length (lm xs)]] (.tup [.bool (decide (a<0)), .sl ((Zb (Int.natAbs a)).length) (lm (Zb (Int.natAbs a)))]),Ze Yir 122 [.agg [.bool nb, .sl ys.length (lm ys)]] (.tup [.bool (decide (b<0)), .sl ((Zb (Int.natAbs b)).length) (lm (Zb (Int.natAbs b)))]),((((Zb (Int.natAbs a)).length:Nat):Int)==0)=true,true=true]) Zm rfl 300 rfl [.r (.tup [.bool (decide (a<0)), .sl ((Zb (Int.natAbs a)).length) (lm (Zb (Int.natAbs a)))]), .r (.tup [.bool (decide (b<0)), .sl ((Zb (Int.natAbs b)).length) (lm (Zb (Int.natAbs b)))]), .b true, .b true] (by kernel_rfl) ⟨h1,h2,z,rfl,trivial⟩
theorem Zgy (na:Bool) (xs:List Int) (nb:Bool) (ys:List Int) (a b:Int) (h1:Ze Yir 122 [.agg [.bool na, .sl xs.length (lm xs)]] (.tup [.bool (decide (a<0)), .sl (Zb (Int.natAbs a)).length (lm (Zb (Int.natAbs a)))])) (h2:Ze Yir 122 [.agg [.bool nb, .sl ys.length (lm ys)]] (.tup [.bool (decide (b<0)), .sl (Zb (Int.natAbs b)).length (lm (Zb (Int.natAbs b)))])) (y:((((Zb (Int.natAbs a)).length:Nat):Int)==0)=false) (z:((((Zb (Int.natAbs b)).length:Nat):Int)==0)=true):Ze Yir 113 [.agg [.bool na, .sl xs.length (lm xs)], .agg [.bool nb, .sl ys.length (lm ys)]] (.agg [.bool false, .sl 0 []]):=Ze.script (ps:=[Ze Yir 122 [.agg [.bool na, .sl xs.length (lm xs)]] (.tup [.bool (decide (a<0)), .sl ((Zb (Int.natAbs a)).length) (lm (Zb (Int.natAbs a)))]),Ze Yir 122 [.agg [.bool nb, .sl ys.length (lm ys)]] (.tup [.bool (decide (b<0)), .sl ((Zb (Int.natAbs b)).length) (lm (Zb (Int.natAbs b)))]),((((Zb (Int.natAbs a)).length:Nat):Int)==0)=false,((((Zb (Int.natAbs b)).length:Nat):Int)==0)=true]) Zm rfl 300 rfl [.r (.tup [.bool (decide (a<0)), .sl ((Zb (Int.natAbs a)).length) (lm (Zb (Int.natAbs a)))]), .r (.tup [.bool (decide (b<0)), .sl ((Zb (Int.natAbs b)).length) (lm (Zb (Int.natAbs b)))]), .b false, .b true] (by kernel_rfl) ⟨h1,h2,y,z,trivial⟩
theorem Zgx (na:Bool) (xs:List Int) (nb:Bool) (ys:List Int) (a b:Int) (h1:Ze Yir 122 [.agg [.bool na, .sl xs.length (lm xs)]] (.tup [.bool (decide (a<0)), .sl (Zb (Int.natAbs a)).length (lm (Zb (Int.natAbs a)))])) (h2:Ze Yir 122 [.agg [.bool nb, .sl ys.length (lm ys)]] (.tup [.bool (decide (b<0)), .sl (Zb (Int.natAbs b)).length (lm (Zb (Int.natAbs b)))])) (out:List Int) (r:Int) (y:((((Zb (Int.natAbs a)).length:Nat):Int)==0)=false) (z:((((Zb (Int.natAbs b)).length:Nat):Int)==0)=false) (hmk:0≤i64.wrap ((((Zb (Int.natAbs a)).length:Nat):Int)+(((Zb (Int.natAbs b)).length:Nat):Int))∧i64.wrap ((((Zb (Int.natAbs a)).length:Nat):Int)+(((Zb (Int.natAbs b)).length:Nat):Int))≤1048576) (hl:Za Yir (.loop Zi0) (Pa (decide (a<0)) (decide (b<0)) (Zb (Int.natAbs a)).length (lm (Zb (Int.natAbs a))) (Zb (Int.natAbs b)).length (lm (Zb (Int.natAbs b))) (Int.toNat (i64.wrap ((((Zb (Int.natAbs a)).length:Nat):Int)+(((Zb (Int.natAbs b)).length:Nat):Int)))) (Q7 [.int .u32 0] (Int.toNat (i64.wrap ((((Zb (Int.natAbs a)).length:Nat):Int)+(((Zb (Int.natAbs b)).length:Nat):Int))))) 0) (.exit 0) (Pa (decide (a<0)) (decide (b<0)) (Zb (Int.natAbs a)).length (lm (Zb (Int.natAbs a))) (Zb (Int.natAbs b)).length (lm (Zb (Int.natAbs b))) (Int.toNat (i64.wrap ((((Zb (Int.natAbs a)).length:Nat):Int)+(((Zb (Int.natAbs b)).length:Nat):Int)))) (lm out) (((Zb (Int.natAbs a)).length:Nat):Int))) (h3:Ze Yir 133 [.bool (!((decide (a<0))==(decide (b<0)))), .sl (Int.toNat (i64.wrap ((((Zb (Int.natAbs a)).length:Nat):Int)+(((Zb (Int.natAbs b)).length:Nat):Int)))) (lm out)] (.agg [.bool (decide (r<0)), .sl ((Zb (Int.natAbs r)).length) (lm (Zb (Int.natAbs r)))])):Ze Yir 113 [.agg [.bool na, .sl xs.length (lm xs)], .agg [.bool nb, .sl ys.length (lm ys)]] (.agg [.bool (decide (r<0)), .sl ((Zb (Int.natAbs r)).length) (lm (Zb (Int.natAbs r)))]):=Ze.of_bodyW (fn:=Zig) (s:=(dds 4 (.box [.bool (decide (r<0)), .sl ((Zb (Int.natAbs r)).length) (lm (Zb (Int.natAbs r)))]::(.val (.bool (decide (a<0)))::(dds 1 (.val (.bool (decide (b<0)))::(.val (.sl ((Zb (Int.natAbs b)).length) (lm (Zb (Int.natAbs b))))::(.val (.sl (Int.toNat (i64.wrap ((((Zb (Int.natAbs a)).length:Nat):Int)+(((Zb (Int.natAbs b)).length:Nat):Int)))) (lm out))::(dds 31 (.val (.sl ((Zb (Int.natAbs a)).length) (lm (Zb (Int.natAbs a))))::(.val (.int .i64 (((Zb (Int.natAbs a)).length:Nat):Int))::(.val (.int .i64 (((Zb (Int.natAbs a)).length:Nat):Int))::(dds 45 (.val (.bool (decide (a<0)))::(.val (.bool (decide (b<0)))::(.val (.bool (!((decide (a<0))==(decide (b<0)))))::(.val (.sl (Int.toNat (i64.wrap ((((Zb (Int.natAbs a)).length:Nat):Int)+(((Zb (Int.natAbs b)).length:Nat):Int)))) (lm out))::(.val (.agg [.bool (decide (r<0)), .sl ((Zb (Int.natAbs r)).length) (lm (Zb (Int.natAbs r)))])::[])))))))))))))))))) (ex := .ret) rfl rfl (Za.seq (Za.script (t:=(.val (.agg [.bool na, .sl xs.length (lm xs)])::(.val (.agg [.bool nb, .sl ys.length (lm ys)])::(.box [.bool na, .sl xs.length (lm xs)]::(.box [.bool nb, .sl ys.length (lm ys)]::(.box [.bool false, .sl 0 []]::(dds 89 []))))))) (ps:=[]) Zm 300 [] [0,1,2,3,4] (by kernel_rfl) trivial) (Za.seq (Za.script (t:=(.val (.agg [.bool na, .sl xs.length (lm xs)])::(.val (.agg [.bool nb, .sl ys.length (lm ys)])::(.box [.bool na, .sl xs.length (lm xs)]::(.box [.bool nb, .sl ys.length (lm ys)]::(.box [.bool false, .sl 0 []]::(.val (.bool (decide (a<0)))::(.val (.sl ((Zb (Int.natAbs a)).length) (lm (Zb (Int.natAbs a))))::(dds 9 (.val (.tup [.bool (decide (a<0)), .sl ((Zb (Int.natAbs a)).length) (lm (Zb (Int.natAbs a)))])::(.val (.agg [.bool na, .sl xs.length (lm xs)])::(.val (.tup [.bool (decide (a<0)), .sl ((Zb (Int.natAbs a)).length) (lm (Zb (Int.natAbs a)))])::(.val (.bool (decide (a<0)))::(.val (.sl ((Zb (Int.natAbs a)).length) (lm (Zb (Int.natAbs a))))::(dds 73 []))))))))))))))) (ps:=[Ze Yir 122 [.agg [.bool na, .sl xs.length (lm xs)]] (.tup [.bool (decide (a<0)), .sl ((Zb (Int.natAbs a)).length) (lm (Zb (Int.natAbs a)))])]) Zm 300 [.r (.tup [.bool (decide (a<0)), .sl ((Zb (Int.natAbs a)).length) (lm (Zb (Int.natAbs a)))])] [0,1,2,3,4,5,6,16,17,18,19,20] (by kernel_rfl) ⟨h1,trivial⟩) (Za.seq (Za.script (t:=(.val (.agg [.bool na, .sl xs.length (lm xs)])::(.val (.agg [.bool nb, .sl ys.length (lm ys)])::(.box [.bool na, .sl xs.length (lm xs)]::(.box [.bool nb, .sl ys.length (lm ys)]::(.box [.bool false, .sl 0 []]::(.val (.bool (decide (a<0)))::(.val (.sl ((Zb (Int.natAbs a)).length) (lm (Zb (Int.natAbs a))))::(.val (.bool (decide (b<0)))::(.val (.sl ((Zb (Int.natAbs b)).length) (lm (Zb (Int.natAbs b))))::(dds 7 (.val (.tup [.bool (decide (a<0)), .sl ((Zb (Int.natAbs a)).length) (lm (Zb (Int.natAbs a)))])::(.val (.agg [.bool na, .sl xs.length (lm xs)])::(.val (.tup [.bool (decide (a<0)), .sl ((Zb (Int.natAbs a)).length) (lm (Zb (Int.natAbs a)))])::(.val (.bool (decide (a<0)))::(.val (.sl ((Zb (Int.natAbs a)).length) (lm (Zb (Int.natAbs a))))::(.val (.tup [.bool (decide (b<0)), .sl ((Zb (Int.natAbs b)).length) (lm (Zb (Int.natAbs b)))])::(.val (.agg [.bool nb, .sl ys.length (lm ys)])::(.val (.tup [.bool (decide (b<0)), .sl ((Zb (Int.natAbs b)).length) (lm (Zb (Int.natAbs b)))])::(.val (.bool (decide (b<0)))::(.val (.sl ((Zb (Int.natAbs b)).length) (lm (Zb (Int.natAbs b))))::(dds 68 [])))))))))))))))))))))) (ps:=[Ze Yir 122 [.agg [.bool nb, .sl ys.length (lm ys)]] (.tup [.bool (decide (b<0)), .sl ((Zb (Int.natAbs b)).length) (lm (Zb (Int.natAbs b)))])]) Zm 300 [.r (.tup [.bool (decide (b<0)), .sl ((Zb (Int.natAbs b)).length) (lm (Zb (Int.natAbs b)))])] [0,1,2,3,4,5,6,7,8,16,17,18,19,20,21,22,23,24,25] (by kernel_rfl) ⟨h2,trivial⟩) (Za.seq (Za.script (t:=(.val (.agg [.bool na, .sl xs.length (lm xs)])::(.val (.agg [.bool nb, .sl ys.length (lm ys)])::(.box [.bool na, .sl xs.length (lm xs)]::(.box [.bool nb, .sl ys.length (lm ys)]::(.box [.bool false, .sl 0 []]::(.val (.bool (decide (a<0)))::(.val (.sl ((Zb (Int.natAbs a)).length) (lm (Zb (Int.natAbs a))))::(.val (.bool (decide (b<0)))::(.val (.sl ((Zb (Int.natAbs b)).length) (lm (Zb (Int.natAbs b))))::(dds 7 (.val (.tup [.bool (decide (a<0)), .sl ((Zb (Int.natAbs a)).length) (lm (Zb (Int.natAbs a)))])::(.val (.agg [.bool na, .sl xs.length (lm xs)])::(.val (.tup [.bool (decide (a<0)), .sl ((Zb (Int.natAbs a)).length) (lm (Zb (Int.natAbs a)))])::(.val (.bool (decide (a<0)))::(.val (.sl ((Zb (Int.natAbs a)).length) (lm (Zb (Int.natAbs a))))::(.val (.tup [.bool (decide (b<0)), .sl ((Zb (Int.natAbs b)).length) (lm (Zb (Int.natAbs b)))])::(.val (.agg [.bool nb, .sl ys.length (lm ys)])::(.val (.tup [.bool (decide (b<0)), .sl ((Zb (Int.natAbs b)).length) (lm (Zb (Int.natAbs b)))])::(.val (.bool (decide (b<0)))::(.val (.sl ((Zb (Int.natAbs b)).length) (lm (Zb (Int.natAbs b))))::(.val (.sl ((Zb (Int.natAbs a)).length) (lm (Zb (Int.natAbs a))))::(vi (((Zb (Int.natAbs a)).length:Nat):Int)::(.val (.bool ((((Zb (Int.natAbs a)).length:Nat):Int)==0))::(.val (.bool ((((Zb (Int.natAbs a)).length:Nat):Int)==0))::(.val (.sl ((Zb (Int.natAbs b)).length) (lm (Zb (Int.natAbs b))))::(vi (((Zb (Int.natAbs b)).length:Nat):Int)::(.val (.bool ((((Zb (Int.natAbs b)).length:Nat):Int)==0))::(.val (.bool ((((Zb (Int.natAbs b)).length:Nat):Int)==0))::(dds 60 [])))))))))))))))))))))))))))))) (ps:=[((((Zb (Int.natAbs a)).length:Nat):Int)==0)=false,((((Zb (Int.natAbs b)).length:Nat):Int)==0)=false]) Zm 300 [.b false, .b false] [0,1,2,3,4,5,6,7,8,16,17,18,19,20,21,22,23,24,25,26,27,28,29,30,31,32,33] (by kernel_rfl) ⟨y,z,trivial⟩) (Za.seq (Za.script (t:=(.val (.agg [.bool na, .sl xs.length (lm xs)])::(.val (.agg [.bool nb, .sl ys.length (lm ys)])::(.box [.bool na, .sl xs.length (lm xs)]::(.box [.bool nb, .sl ys.length (lm ys)]::(.box [.bool false, .sl 0 []]::(.val (.bool (decide (a<0)))::(.val (.sl ((Zb (Int.natAbs a)).length) (lm (Zb (Int.natAbs a))))::(.val (.bool (decide (b<0)))::(.val (.sl ((Zb (Int.natAbs b)).length) (lm (Zb (Int.natAbs b))))::(.own 1 (Int.toNat (i64.wrap ((((Zb (Int.natAbs a)).length:Nat):Int)+(((Zb (Int.natAbs b)).length:Nat):Int)))) (Q7 [.int .u32 0] (Int.toNat (i64.wrap ((((Zb (Int.natAbs a)).length:Nat):Int)+(((Zb (Int.natAbs b)).length:Nat):Int)))))::(dds 6 (.val (.tup [.bool (decide (a<0)), .sl ((Zb (Int.natAbs a)).length) (lm (Zb (Int.natAbs a)))])::(.val (.agg [.bool na, .sl xs.length (lm xs)])::(.val (.tup [.bool (decide (a<0)), .sl ((Zb (Int.natAbs a)).length) (lm (Zb (Int.natAbs a)))])::(.val (.bool (decide (a<0)))::(.val (.sl ((Zb (Int.natAbs a)).length) (lm (Zb (Int.natAbs a))))::(.val (.tup [.bool (decide (b<0)), .sl ((Zb (Int.natAbs b)).length) (lm (Zb (Int.natAbs b)))])::(.val (.agg [.bool nb, .sl ys.length (lm ys)])::(.val (.tup [.bool (decide (b<0)), .sl ((Zb (Int.natAbs b)).length) (lm (Zb (Int.natAbs b)))])::(.val (.bool (decide (b<0)))::(.val (.sl ((Zb (Int.natAbs b)).length) (lm (Zb (Int.natAbs b))))::(.val (.sl ((Zb (Int.natAbs a)).length) (lm (Zb (Int.natAbs a))))::(vi (((Zb (Int.natAbs a)).length:Nat):Int)::(.val (.bool ((((Zb (Int.natAbs a)).length:Nat):Int)==0))::(.val (.bool ((((Zb (Int.natAbs a)).length:Nat):Int)==0))::(.val (.sl ((Zb (Int.natAbs b)).length) (lm (Zb (Int.natAbs b))))::(vi (((Zb (Int.natAbs b)).length:Nat):Int)::(.val (.bool ((((Zb (Int.natAbs b)).length:Nat):Int)==0))::(.val (.bool ((((Zb (Int.natAbs b)).length:Nat):Int)==0))::(dds 1 (.val (.sl ((Zb (Int.natAbs a)).length) (lm (Zb (Int.natAbs a))))::(vi (((Zb (Int.natAbs a)).length:Nat):Int)::(.val (.sl ((Zb (Int.natAbs b)).length) (lm (Zb (Int.natAbs b))))::(vi (((Zb (Int.natAbs b)).length:Nat):Int)::(vi (i64.wrap ((((Zb (Int.natAbs a)).length:Nat):Int)+(((Zb (Int.natAbs b)).length:Nat):Int)))::(dds 54 []))))))))))))))))))))))))))))))))))))) (ps:=[0≤(i64.wrap ((((Zb (Int.natAbs a)).length:Nat):Int)+(((Zb (Int.natAbs b)).length:Nat):Int)))∧(i64.wrap ((((Zb (Int.natAbs a)).length:Nat):Int)+(((Zb (Int.natAbs b)).length:Nat):Int)))≤1048576]) Zm 300 [] ((0)::(1)::(2)::(3)::(4)::(5)::(6)::(7)::(8)::(9)::(16)::(17)::(18)::(19)::(20)::(21)::(22)::(23)::(24)::(25)::(26)::(27)::(28)::(29)::(30)::(31)::(32)::(33)::(35)::(36)::(37)::(38)::(39)::[]) (by kernel_rfl) ⟨hmk,trivial⟩) (Za.seq (Za.seq (Za.script (t:=(dds 4 (.box [.bool false, .sl 0 []]::(.val (.bool (decide (a<0)))::(dds 1 (.val (.bool (decide (b<0)))::(.val (.sl ((Zb (Int.natAbs b)).length) (lm (Zb (Int.natAbs b))))::(.own 1 (Int.toNat (i64.wrap ((((Zb (Int.natAbs a)).length:Nat):Int)+(((Zb (Int.natAbs b)).length:Nat):Int)))) (Q7 [.int .u32 0] (Int.toNat (i64.wrap ((((Zb (Int.natAbs a)).length:Nat):Int)+(((Zb (Int.natAbs b)).length:Nat):Int)))))::(dds 31 (.val (.sl ((Zb (Int.natAbs a)).length) (lm (Zb (Int.natAbs a))))::(vi (((Zb (Int.natAbs a)).length:Nat):Int)::(vi 0::(dds 50 []))))))))))))) (ps:=[]) Zm 300 [] [4,5,7,8,9,41,42,43] (by kernel_rfl) trivial) (Za.block hl)) (Za.script (t:=(dds 4 (bN r::(.val (.bool (decide (a<0)))::(dds 1 (.val (.bool (decide (b<0)))::(.val (.sl ((Zb (Int.natAbs b)).length) (lm (Zb (Int.natAbs b))))::(.val (.sl (Int.toNat (i64.wrap ((((Zb (Int.natAbs a)).length:Nat):Int)+(((Zb (Int.natAbs b)).length:Nat):Int)))) (lm out))::(dds 31 (.val (.sl ((Zb (Int.natAbs a)).length) (lm (Zb (Int.natAbs a))))::(vi (((Zb (Int.natAbs a)).length:Nat):Int)::(vi (((Zb (Int.natAbs a)).length:Nat):Int)::(dds 45 (.val (.bool (decide (a<0)))::(.val (.bool (decide (b<0)))::(.val (.bool (!((decide (a<0))==(decide (b<0)))))::(.val (.sl (Int.toNat (i64.wrap ((((Zb (Int.natAbs a)).length:Nat):Int)+(((Zb (Int.natAbs b)).length:Nat):Int)))) (lm out))::(.val (.agg [.bool (decide (r<0)), .sl ((Zb (Int.natAbs r)).length) (lm (Zb (Int.natAbs r)))])::[])))))))))))))))))) (ex := .ret) (ps:=[Ze Yir 133 [.bool (!((decide (a<0))==(decide (b<0)))), .sl (Int.toNat (i64.wrap ((((Zb (Int.natAbs a)).length:Nat):Int)+(((Zb (Int.natAbs b)).length:Nat):Int)))) (lm out)] (.agg [.bool (decide (r<0)), .sl ((Zb (Int.natAbs r)).length) (lm (Zb (Int.natAbs r)))])]) Zm 300 [.r (.agg [.bool (decide (r<0)), .sl ((Zb (Int.natAbs r)).length) (lm (Zb (Int.natAbs r)))])] [4,5,7,8,9,41,42,43,89,90,91,92,93] (by kernel_rfl) ⟨h3,trivial⟩))))))) (by intro i e;cases e) rfl
theorem Zjz (a b:Int) (zs:List Int) (h:Zj zs=(a.natAbs:Int)*(b.natAbs:Int)):rv (!(decide (a<0)==decide (b<0))) zs=a*b:=by
 unfold rv
 rw[h]
 by_cases g1:a<0 <;> by_cases g2:b<0
 ·have e1:(a.natAbs:Int) = -a:=by omega
  have e2:(b.natAbs:Int) = -b:=by omega
  rw[e1,e2];simp[g1,g2] <;> grind
 ·have e1:(a.natAbs:Int) = -a:=by omega
  have e2:(b.natAbs:Int)=b:=by omega
  rw[e1,e2];simp[g1,g2] <;> grind
 ·have e1:(a.natAbs:Int)=a:=by omega
  have e2:(b.natAbs:Int) = -b:=by omega
  rw[e1,e2];simp[g1,g2] <;> grind
 ·have e1:(a.natAbs:Int)=a:=by omega
  have e2:(b.natAbs:Int)=b:=by omega
  rw[e1,e2];simp[g1,g2]
theorem Nk {na nb:Bool} {xs ys:List Int} (hx:U32 xs) (hy:U32 ys) (hN:xs.length+ys.length≤1048576):Ze Yir 113 [.agg [.bool na, .sl xs.length (lm xs)], .agg [.bool nb, .sl ys.length (lm ys)]] (Zl (rv na xs*rv nb ys)):=by
 have l1:=Ue (neg:=na) hx
 have l2:=Ue (neg:=nb) hy
 have k1:=Jo (neg:=na) hx (by omega)
 have k2:=Jo (neg:=nb) hy (by omega)
 generalize rv na xs=a at *
 generalize rv nb ys=b at *
 have z1:=J6 a.natAbs
 have z2:=J6 b.natAbs
 by_cases ha:a=0
 ·have h:=Zgz na xs nb ys a b k1 k2 (by rw[beq_iff_eq];omega)
  rw[ha,Int.zero_mul]
  exact h
 by_cases hb:b=0
 ·have h:=Zgy na xs nb ys a b k1 k2 (by rw[beq_eq_false_iff_ne];omega) (by rw[beq_iff_eq];omega)
  rw[hb,Int.mul_zero]
  exact h
 have e1:i64.wrap ((((Zb (Int.natAbs a)).length:Nat):Int)+(((Zb (Int.natAbs b)).length:Nat):Int))=(((Zb (Int.natAbs a)).length+(Zb (Int.natAbs b)).length:Nat):Int):=by rw[w64 (by omega) (by omega)];omega
 have e2:(Int.toNat (i64.wrap ((((Zb (Int.natAbs a)).length:Nat):Int)+(((Zb (Int.natAbs b)).length:Nat):Int))))=(Zb (Int.natAbs a)).length+(Zb (Int.natAbs b)).length:=by rw[e1,Int.toNat_natCast]
 obtain⟨out,o1,o2,o3,o4⟩:=Zmp (decide (a<0)) (decide (b<0)) (Zb (Int.natAbs a)) (Zb (Int.natAbs b)) (Qx _) (Qx _) (by omega) (Zb (Int.natAbs a)).length 0 (List.replicate ((Zb (Int.natAbs a)).length+(Zb (Int.natAbs b)).length) 0) (by omega) (by simp) (Xk _) (fun j _=>Jk _ j)
 have hv:Zj out=(a.natAbs:Int)*(b.natAbs:Int):=by rw[o3,Xc];simp[Q9]
 have h3:=X2 (neg := !(decide (a<0)==decide (b<0))) o2 (by omega)
 rw[Zjz a b out hv,o1] at h3
 exact Zgx na xs nb ys a b k1 k2 out _ (by rw[beq_eq_false_iff_ne];omega) (by rw[beq_eq_false_iff_ne];omega) (by rw[e1];omega) (by rw[e2,Xx];exact o4) (by rw[e2];exact h3)
def TWC:Jx:=TWB
theorem Z4:Q1 Yir TWC:=Zm
end Go.Proofs.Ythnnfemologhfaa

namespace Go.Proofs.Ythnnfemologhfaa
open Go.IntKind (i64 u64 u32)
open Go.Ai
set_option maxRecDepth 100000
def Sp (na:Bool) (xs:List Int) (w:Int) (s:Int) (k:Nat) (os:List Int) (n:Int) (i:Int) (z:Rn):Zk:=(dds 4 (.box [.bool z.1, .sl z.2.length (lm z.2)]::(.val (.bool na)::(dds 1 (.val (.int .i64 w)::(.val (.int .u64 s)::(.own 1 k (lm os)::(dds 23 (.val (.sl xs.length (lm xs))::(.val (.int .i64 n)::(.val (.int .i64 i)::(dds 31 []))))))))))))
theorem Zu5 (na:Bool) (xs:List Int) (w:Int) (s:Int) (k:Nat) (os:List Int) (n:Int) (i:Int) (z:Rn)  (c1:(decide (i<n))=true) (n1:0≤i∧i<(xs.length:Int)) (n2:¬ s<0) (n3:0≤(i64.wrap (i+w))∧(i64.wrap (i+w))<(k:Int)) (n4:os.length=k) (n5:0≤(i64.wrap ((i64.wrap (i+w))+1))∧(i64.wrap ((i64.wrap (i+w))+1))<(k:Int)) (n6:(os.set (Int.toNat (i64.wrap (i+w))) (u32.wrap ((BitVec.ofInt (IntKind.bits .u32) (os.getD (Int.toNat (i64.wrap (i+w))) 0) ||| BitVec.ofInt (IntKind.bits .u32) (u32.wrap (u64.wrap ((u64.wrap (xs.getD (Int.toNat i) 0))*2^(min (Int.toNat s) (IntKind.bits .u64)))))).toNat))).length=k):Za Yir Zix (Sp na xs w s k os n i z) .norm (Sp na xs w s k ((os.set (Int.toNat (i64.wrap (i+w))) (u32.wrap ((BitVec.ofInt (IntKind.bits .u32) (os.getD (Int.toNat (i64.wrap (i+w))) 0) ||| BitVec.ofInt (IntKind.bits .u32) (u32.wrap (u64.wrap ((u64.wrap (xs.getD (Int.toNat i) 0))*2^(min (Int.toNat s) (IntKind.bits .u64)))))).toNat))).set (Int.toNat (i64.wrap ((i64.wrap (i+w))+1))) (u32.wrap (Int.fdiv (u64.wrap ((u64.wrap (xs.getD (Int.toNat i) 0))*2^(min (Int.toNat s) (IntKind.bits .u64)))) (2^(min (Int.toNat 32) (IntKind.bits .u64)))))) n (i64.wrap (i+1)) z):=(Za.go Z4 400 [.b true, .v (.int .u32 (xs.getD (Int.toNat i) 0)), .v (.int .u32 (os.getD (Int.toNat (i64.wrap (i+w))) 0)), .l (lm (os.set (Int.toNat (i64.wrap (i+w))) (u32.wrap ((BitVec.ofInt (IntKind.bits .u32) (os.getD (Int.toNat (i64.wrap (i+w))) 0) ||| BitVec.ofInt (IntKind.bits .u32) (u32.wrap (u64.wrap ((u64.wrap (xs.getD (Int.toNat i) 0))*2^(min (Int.toNat s) (IntKind.bits .u64)))))).toNat)))), .l (lm ((os.set (Int.toNat (i64.wrap (i+w))) (u32.wrap ((BitVec.ofInt (IntKind.bits .u32) (os.getD (Int.toNat (i64.wrap (i+w))) 0) ||| BitVec.ofInt (IntKind.bits .u32) (u32.wrap (u64.wrap ((u64.wrap (xs.getD (Int.toNat i) 0))*2^(min (Int.toNat s) (IntKind.bits .u64)))))).toNat))).set (Int.toNat (i64.wrap ((i64.wrap (i+w))+1))) (u32.wrap (Int.fdiv (u64.wrap ((u64.wrap (xs.getD (Int.toNat i) 0))*2^(min (Int.toNat s) (IntKind.bits .u64)))) (2^(min (Int.toNat 32) (IntKind.bits .u64)))))))] [4,5,7,8,9,33,34,35] (ac c1 (ac n1 (ac (Z2 n1) (ac n2 (ac n3 (ac (Qs n4 n3) (ac n3 (ac (show Xq (lm os) (Int.toNat (i64.wrap (i+w))*1) [.int .u32 (u32.wrap ((BitVec.ofInt (IntKind.bits .u32) (os.getD (Int.toNat (i64.wrap (i+w))) 0) ||| BitVec.ofInt (IntKind.bits .u32) (u32.wrap (u64.wrap ((u64.wrap (xs.getD (Int.toNat i) 0))*2^(min (Int.toNat s) (IntKind.bits .u64)))))).toNat))]=some (lm (os.set (Int.toNat (i64.wrap (i+w))) (u32.wrap ((BitVec.ofInt (IntKind.bits .u32) (os.getD (Int.toNat (i64.wrap (i+w))) 0) ||| BitVec.ofInt (IntKind.bits .u32) (u32.wrap (u64.wrap ((u64.wrap (xs.getD (Int.toNat i) 0))*2^(min (Int.toNat s) (IntKind.bits .u64)))))).toNat)))) from (Jd n4 n3)) (ac (show ¬ (32:Int)<0 from (by decide)) (ac n5 (ac (show Xq (lm (os.set (Int.toNat (i64.wrap (i+w))) (u32.wrap ((BitVec.ofInt (IntKind.bits .u32) (os.getD (Int.toNat (i64.wrap (i+w))) 0) ||| BitVec.ofInt (IntKind.bits .u32) (u32.wrap (u64.wrap ((u64.wrap (xs.getD (Int.toNat i) 0))*2^(min (Int.toNat s) (IntKind.bits .u64)))))).toNat)))) (Int.toNat (i64.wrap ((i64.wrap (i+w))+1))*1) [.int .u32 (u32.wrap (Int.fdiv (u64.wrap ((u64.wrap (xs.getD (Int.toNat i) 0))*2^(min (Int.toNat s) (IntKind.bits .u64)))) (2^(min (Int.toNat 32) (IntKind.bits .u64)))))]=some (lm ((os.set (Int.toNat (i64.wrap (i+w))) (u32.wrap ((BitVec.ofInt (IntKind.bits .u32) (os.getD (Int.toNat (i64.wrap (i+w))) 0) ||| BitVec.ofInt (IntKind.bits .u32) (u32.wrap (u64.wrap ((u64.wrap (xs.getD (Int.toNat i) 0))*2^(min (Int.toNat s) (IntKind.bits .u64)))))).toNat))).set (Int.toNat (i64.wrap ((i64.wrap (i+w))+1))) (u32.wrap (Int.fdiv (u64.wrap ((u64.wrap (xs.getD (Int.toNat i) 0))*2^(min (Int.toNat s) (IntKind.bits .u64)))) (2^(min (Int.toNat 32) (IntKind.bits .u64))))))) from (Jd n6 n5)) a0))))))))))))
theorem Zu4 (na:Bool) (xs:List Int) (w:Int) (s:Int) (k:Nat) (os:List Int) (n:Int) (i:Int) (z:Rn)  (c1:(decide (i<n))=false):Za Yir Zix (Sp na xs w s k os n i z) (.exit 0) (Sp na xs w s k os n i z):=(Za.go Z4 400 [.b false] [4,5,7,8,9,33,34,35] (ac c1 a0))
theorem Zgq (b na:Bool) (xs as1:List Int) (m:Int) (c1:((as1.length:Int)==0)=true) (n1:Ze Yir 122 [.agg [.bool b, .sl xs.length (lm xs)]] (.tup [.bool na, .sl as1.length (lm as1)])):Ze Yir 124 [.agg [.bool b, .sl xs.length (lm xs)], .int .i64 m] (.agg [.bool false, .sl 0 []]):=Ze.of_bodyW (fn:=Zc3) (s:=(dds 4 (.box [.bool false, .sl 0 []]::(dds 62 [])))) (ex := .ret) rfl rfl (Za.seq (Za.go (t:=(.val (.agg [.bool b, .sl xs.length (lm xs)])::(vi m::(.box [.bool b, .sl xs.length (lm xs)]::(dds 1 (.box [.bool false, .sl 0 []]::(dds 62 []))))))) Z4 400 [] [0,1,2,4] a0) (Za.seq (Za.go (t:=(.val (.agg [.bool b, .sl xs.length (lm xs)])::(vi m::(.box [.bool b, .sl xs.length (lm xs)]::(dds 1 (.box [.bool false, .sl 0 []]::(.val (.bool na)::(vl as1::(dds 60 []))))))))) Z4 400 [.r (.tup [.bool na, .sl as1.length (lm as1)])] [0,1,2,4,5,6] (ac n1 a0)) (Za.seq_out (Za.go Z4 400 [.b true] [4] (ac c1 a0)) (by intro e;cases e)))) (by intro i e;cases e) rfl
theorem Zgp (b na:Bool) (xs as1 os:List Int) (m w s n i v:Int) (k:Nat) (z:Rn) (c1:((as1.length:Int)==0)=false) (n1:Ze Yir 122 [.agg [.bool b, .sl xs.length (lm xs)]] (.tup [.bool na, .sl as1.length (lm as1)])) (n2:0≤(i64.wrap ((i64.wrap ((as1.length:Int)+(i64.wrap (Int.tdiv m 32))))+1))∧(i64.wrap ((i64.wrap ((as1.length:Int)+(i64.wrap (Int.tdiv m 32))))+1))≤1048576) (hl3:Za Yir (.loop Zix) ((dds 4 (.box [.bool false, .sl 0 []]::(.val (.bool na)::(dds 1 (.val (.int .i64 (i64.wrap (Int.tdiv m 32)))::(.val (.int .u64 (u64.wrap (Int.tmod m 32)))::(.own 1 (Int.toNat (i64.wrap ((i64.wrap ((as1.length:Int)+(i64.wrap (Int.tdiv m 32))))+1))) (Q7 [.int .u32 0] (Int.toNat (i64.wrap ((i64.wrap ((as1.length:Int)+(i64.wrap (Int.tdiv m 32))))+1))))::(dds 23 (.val (.sl as1.length (lm as1))::(.val (.int .i64 (as1.length:Int))::(.val (.int .i64 0)::(dds 31 []))))))))))))) (.exit 0) (Sp na as1 w s k os n i z)) (n4:Ze Yir 133 [.bool na, .sl k (lm os)] (Zl v)):Ze Yir 124 [.agg [.bool b, .sl xs.length (lm xs)], .int .i64 m] (Zl v):=Ze.of_bodyW (fn:=Zc3) (s:=(dds 4 (.box [.bool (decide (v<0)), .sl ((Zb (Int.natAbs v)).length) (lm (Zb (Int.natAbs v)))]::(dds 62 [])))) (ex := .ret) rfl rfl (Za.seq (Za.go (t:=(.val (.agg [.bool b, .sl xs.length (lm xs)])::(vi m::(.box [.bool b, .sl xs.length (lm xs)]::(dds 1 (.box [.bool false, .sl 0 []]::(dds 62 []))))))) Z4 400 [] [0,1,2,4] a0) (Za.seq (Za.go (t:=(.val (.agg [.bool b, .sl xs.length (lm xs)])::(vi m::(.box [.bool b, .sl xs.length (lm xs)]::(dds 1 (.box [.bool false, .sl 0 []]::(.val (.bool na)::(vl as1::(dds 60 []))))))))) Z4 400 [.r (.tup [.bool na, .sl as1.length (lm as1)])] [0,1,2,4,5,6] (ac n1 a0)) (Za.seq (Za.go (t:=(.val (.agg [.bool b, .sl xs.length (lm xs)])::(vi m::(.box [.bool b, .sl xs.length (lm xs)]::(dds 1 (.box [.bool false, .sl 0 []]::(.val (.bool na)::(vl as1::(dds 60 []))))))))) Z4 400 [.b false] [0,1,2,4,5,6] (ac c1 a0)) (Za.seq (Za.go (t:=(.val (.agg [.bool b, .sl xs.length (lm xs)])::(vi m::(.box [.bool b, .sl xs.length (lm xs)]::(dds 1 (.box [.bool false, .sl 0 []]::(.val (.bool na)::(vl as1::(vi (i64.wrap (Int.tdiv m 32))::(.val (.int .u64 (u64.wrap (Int.tmod m 32)))::(dds 58 []))))))))))) Z4 400 [] [0,1,2,4,5,6,7,8] (ac (show ¬ (32:Int)=0 from (by decide)) (ac (show ¬ (32:Int)=0 from (by decide)) a0))) (Za.seq (Za.go (t:=(.val (.agg [.bool b, .sl xs.length (lm xs)])::(vi m::(.box [.bool b, .sl xs.length (lm xs)]::(dds 1 (.box [.bool false, .sl 0 []]::(.val (.bool na)::(vl as1::(vi (i64.wrap (Int.tdiv m 32))::(.val (.int .u64 (u64.wrap (Int.tmod m 32)))::(.own 1 (Int.toNat (i64.wrap ((i64.wrap ((as1.length:Int)+(i64.wrap (Int.tdiv m 32))))+1))) (Q7 [.int .u32 0] (Int.toNat (i64.wrap ((i64.wrap ((as1.length:Int)+(i64.wrap (Int.tdiv m 32))))+1))))::(dds 57 [])))))))))))) Z4 400 [] [0,1,2,4,5,6,7,8,9] (ac n2 a0)) (Za.seq (Za.seq (Za.go Z4 400 [] [4,5,7,8,9,33,34,35] a0) (Za.block hl3)) (Za.go Z4 400 [.r (Zl v)] [4] (ac n4 a0)))))))) (by intro i e;cases e) rfl
def Zqt (ts:List Rn) (r:Rn) (e:Int) (w:Rn) (i:Int) (s:Int):Zk:=(.val (.sl ts.length (pc ts))::(dds 2 (.box [.bool r.1, .sl r.2.length (lm r.2), .int .i64 e]::(dds 1 (.box [.bool w.1, .sl w.2.length (lm w.2)]::(.val (.int .i64 i)::(.val (.int .i64 s)::(dds 24 []))))))))
theorem Yk78_1 (ts:List Rn) (r:Rn) (e:Int) (w:Rn) (i:Int) (s:Int) (t:Int) (c1:(decide (i≥0))=true) (n1:0≤i∧i<(ts.length:Int)) (n2:Ze Yir 113 [Zt w,Zt r] (Zl ((Zn w)*(Zn r)))) (n3:Ze Yir 124 [Zt (ts.getD (Int.toNat i) z0), .int .i64 s] (Zl t)) (n4:Ze Yir 121 [Zl ((Zn w)*(Zn r)),Zl t] (Zl (((Zn w)*(Zn r))+t))):Za Yir Yc78 (Zqt ts r e w i s) .norm (Zqt ts r e (cn (((Zn w)*(Zn r))+t)) (i64.wrap (i-1)) (i64.wrap (s+e))):=(Za.go Z4 400 [.b true, .r (Zl ((Zn w)*(Zn r))), .v (Zt (ts.getD (Int.toNat i) z0)), .r (Zl t), .r (Zl (((Zn w)*(Zn r))+t))] [0,3,5,6,7] (ac c1 (ac n2 (ac n1 (ac (Qi n1) (ac n3 (ac n4 a0)))))))
theorem Yk78_2 (ts:List Rn) (r:Rn) (e:Int) (w:Rn) (i:Int) (s:Int)  (c1:(decide (i≥0))=false):Za Yir Yc78 (Zqt ts r e w i s) (.exit 0) (Zqt ts r e w i s):=(Za.go Z4 400 [.b false] [0,3,5,6,7] (ac c1 a0))
theorem Yrun78 (ts:List Rn) (r w:Rn) (e i s sg:Int) (hl1:Za Yir (.loop Yc78) (Zqt ts r e (false,[]) (i64.wrap ((ts.length:Int)-1)) 0) (.exit 0) (Zqt ts r e w i s)) (n2:Ze Yir 73 [Zt w] (.int .i64 sg)):Ze Yir 78 [.sl ts.length (pc ts), .agg [.bool r.1, .sl r.2.length (lm r.2), .int .i64 e]] (.int .i64 sg):=Ze.of_bodyW (fn:=Yi78) (s:=(dds 4 (.val (.int .i64 sg)::(dds 27 [])))) (ex := .ret) rfl rfl (Za.seq (Za.go (t:=(vp ts::(.val (.agg [.bool r.1, .sl r.2.length (lm r.2), .int .i64 e])::(dds 1 (.box [.bool r.1, .sl r.2.length (lm r.2), .int .i64 e]::(vi 0::(dds 27 []))))))) Z4 400 [] [0,1,3,4] a0) (Za.seq (Za.go (t:=(vp ts::(.val (.agg [.bool r.1, .sl r.2.length (lm r.2), .int .i64 e])::(dds 1 (.box [.bool r.1, .sl r.2.length (lm r.2), .int .i64 e]::(vi 0::(.box [.bool false, .sl 0 []]::(dds 26 [])))))))) Z4 400 [] [0,1,3,4,5] a0) (Za.seq (Za.seq (Za.go Z4 400 [] [0,3,5,6,7] a0) (Za.block hl1)) (Za.go Z4 400 [.r (.int .i64 sg)] [4] (ac n2 a0))))) (by intro i e;cases e) rfl
def TSA:Jx:=TWC
theorem Zi1:Q1 Yir TSA:=Z4
end Go.Proofs.Ythnnfemologhfaa

namespace Go.Proofs.Ythnnfemologhfaa
open Go.IntKind (i64 u64 u32)
open Go.Ai
set_option maxRecDepth 100000
theorem Zmo {na:Bool} {xs:List Int} {z:Rn} {w s:Nat} (hx:U32 xs) (hs:s<32) (hN:w+xs.length<1048576):∀ (r i:Nat) (os:List Int),i+r=xs.length→os.length=w+xs.length+1→U32 os→Zj os=4294967296^w*(2^s*Zj (xs.take i))→os.getD (i+w) 0<2^s→(∀ t,i+w<t→os.getD t 0=0) →
  ∃ os',Za Yir (.loop Zix) (Sp na xs (w:Nat) (s:Nat) (w+xs.length+1) os (xs.length:Nat) (i:Nat) z) (.exit 0) (Sp na xs (w:Nat) (s:Nat) (w+xs.length+1) os' (xs.length:Nat) (xs.length:Nat) z)∧os'.length=w+xs.length+1∧U32 os'∧Zj os'=4294967296^w*(2^s*Zj xs):=by
 intro r
 induction r with
 | zero =>
  intro i os hi hl hu hv _ _
  have:i=xs.length:=by omega
  subst this
  exact⟨os,Za.loop_out (Zu4 na xs _ _ _ os _ _ z (by simp)) (by intro e;cases e),hl,hu,by rw[hv,List.take_length]⟩
 | succ r ih =>
  intro i os hi hl hu hv hc hz
  have ei:i64.wrap ((i:Int)+1)=((i+1:Nat):Int):=by rw[w64 (by omega) (by omega)];omega
  have ew:i64.wrap ((i:Int)+(w:Int))=((i+w:Nat):Int):=by rw[w64 (by omega) (by omega)];omega
  have ew1:i64.wrap (((i+w:Nat):Int)+1)=((i+w+1:Nat):Int):=by rw[w64 (by omega) (by omega)];omega
  have hxi:=Zu hx i
  have hoi:=Zu hu (i+w)
  obtain⟨p0,p1,p2,q,q0,q1⟩:=Mu hxi hs
  have es:(2:Int)^(min (Int.toNat (s:Int)) (IntKind.bits .u64))=2^s:=by
   rw[Int.toNat_natCast]
   congr 1
   show min s 64=s
   omega
  have hk:=Zu5 na xs (w:Nat) (s:Nat) (w+xs.length+1) os (xs.length:Nat) (i:Nat) z (by simp;omega) (by omega) (by omega) (by rw[ew];omega) hl (by rw[ew,ew1];omega) (by simpa using hl)
  rw[ei,ew,ew1,es,Int.toNat_natCast,Int.toNat_natCast,Int.toNat_natCast,Ui (n:=xs.getD i 0) (by omega),Ui ⟨p0,p1⟩,Zyn,Wt (xs.getD i 0*2^s),q1] at hk
  have hqs:q*2^s<4294967296:=by rw[← q1];omega
  rw[or32 q0 hqs (by omega) ⟨hoi.1,hc⟩] at hk
  have hhi:0≤xs.getD i 0*2^s / 4294967296:=by omega
  have hp2:(2:Int)^s≤4294967296:=by have:=Vt (show s≤32 by omega);rwa [show (2:Int)^32=4294967296 by decide] at this
  rw[w32 ⟨hhi,by omega⟩] at hk
  have hsum:0≤q*2^s+os.getD (i+w) 0∧q*2^s+os.getD (i+w) 0<4294967296:=by
   have hq2:0≤q*2^s:=by rw[← q1];omega
   refine⟨by omega,?_⟩
   have e:=Zp8 (show s≤32 by omega)
   rw[e] at hqs ⊢
   have hp:=Jb s
   have:=Int.lt_of_mul_lt_mul_right hqs (by omega)
   have:=Int.mul_le_mul_of_nonneg_right (show q+1≤2^(32-s) by omega) (show (0:Int)≤2^s by omega)
   rw[Int.add_mul,Int.one_mul] at this
   omega
  obtain⟨os',g1,g2,g3,g4⟩:=ih (i+1) ((os.set (i+w) (q*2^s+os.getD (i+w) 0)).set (i+w+1) (xs.getD i 0*2^s / 4294967296)) (by omega) (by simpa using hl) (Q0 (Q0 hu hsum) ⟨hhi,by omega⟩) (by
    rw[Jy _ _ _ (by simp;omega),Jy _ _ _ (by omega),Qo (by omega),hz (i+w+1) (by omega),hv,Jv xs i (by omega),Int.pow_succ,Int.pow_add]
    have e3:xs.getD i 0*2^s=4294967296*(xs.getD i 0*2^s / 4294967296)+q*2^s:=by omega
    generalize (4294967296:Int)^i=P at *
    generalize (4294967296:Int)^w=V at *
    generalize xs.getD i 0*2^s / 4294967296=H at *
    generalize os.getD (i+w) 0=o at *
    generalize q*2^s=Q at *
    have e4:(2:Int)^s*(Zj (xs.take i)+P*xs.getD i 0)=2^s*Zj (xs.take i)+P*(xs.getD i 0*2^s):=by grind
    rw[e4,e3]
    grind) (by
    rw[show i+1+w=i+w+1 by omega,show ((os.set (i+w) (q*2^s+os.getD (i+w) 0)).set (i+w+1) (xs.getD i 0*2^s / 4294967296)).getD (i+w+1) 0=xs.getD i 0*2^s / 4294967296 by simp[List.getD_eq_getElem?_getD,show i+w+1<os.length by omega]]
    exact p2) (fun t ht=>by rw[Qo (by omega),Qo (by omega)];exact hz t (by omega))
  exact⟨os',Za.loop hk g1,g2,g3,g4⟩
theorem Tl {neg:Bool} {xs:List Int} (hu:U32 xs) (n:Nat) (hn:n≤9223372036854775807) (hN:n / 32+xs.length+1≤1048576):Ze Yir 124 [.agg [.bool neg, .sl xs.length (lm xs)], .int .i64 (n:Nat)] (Zl (rv neg xs*2^n)):=by
 have l1:=Ue (neg:=neg) hu
 have r1:=Jo (neg:=neg) hu (by omega)
 generalize rv neg xs=a at *
 by_cases h0:(Zb a.natAbs).length=0
 ·have h:=Zgq neg _ xs (Zb a.natAbs) (n:Nat) (by rw[h0];rfl) r1
  have ha:a=0:=by have:=(J6 a.natAbs).1 h0;omega
  rw[ha,Int.zero_mul]
  exact h
 ·have e1:i64.wrap (Int.tdiv (n:Int) 32)=((n / 32:Nat):Int):=by
   rw[Int.tdiv_eq_ediv_of_nonneg (by omega),w64 (by omega) (by omega)];omega
  have e2:u64.wrap (Int.tmod (n:Int) 32)=((n % 32:Nat):Int):=by
   rw[Int.tmod_eq_emod_of_nonneg (by omega),Ui (by omega)];omega
  have e3:i64.wrap ((((Zb a.natAbs).length:Nat):Int)+((n / 32:Nat):Int))=((n / 32+(Zb a.natAbs).length:Nat):Int):=by rw[w64 (by omega) (by omega)];omega
  have e4:i64.wrap (((n / 32+(Zb a.natAbs).length:Nat):Int)+1)=((n / 32+(Zb a.natAbs).length+1:Nat):Int):=by rw[w64 (by omega) (by omega)];omega
  have hs:n % 32<32:=Nat.mod_lt _ (by decide)
  obtain⟨os,g1,g2,g3,g4⟩:=Zmo (na:=decide (a<0)) (xs:=Zb a.natAbs) (z:=z0) (w:=n / 32) (Qx a.natAbs) hs (by omega) (Zb a.natAbs).length 0 (List.replicate (n / 32+(Zb a.natAbs).length+1) 0) (by omega) (by simp) (Xk _) (by rw[Xc];simp[Zj]) (by rw[Jk];exact Jb _) (fun t _=>Jk _ _)
  have hm:=X2 (neg:=decide (a<0)) g3 (by omega)
  have hv:rv (decide (a<0)) os=a*2^n:=by
   rw[T1 (xs:=Zb a.natAbs) (t:=2^n) (by rw[g4,Fn n];grind),V7]
  rw[hv,g2] at hm
  exact Zgp neg _ xs (Zb a.natAbs) os (n:Nat) _ _ _ _ _ _ _ (by rw[beq_eq_false_iff_ne];omega) r1 (by rw[e1,e3,e4];omega) (by rw[e1,e2,e3,e4,Int.toNat_natCast,Xx];exact g1) hm
theorem Zs7 {K X:Nat} {ts:List Rn} {r:Rn} (ht:∀ t∈ts,Ju K t) (hr:Ju X r) (e:Nat) (hS:K+2+(ts.length+1)*(X+(e / 32+1)+1)≤1048576) (he:e≤1073741824) :
  ∀ n (w:Rn),n≤ts.length→Zn w=hv ((Zi ts).drop n) (Zn r) (2^e)→Ju (K+1+(ts.length-n)*(X+(e / 32+1)+1)) w → 
  ∃ w' s',Zn w'=hv (Zi ts) (Zn r) (2^e)∧Ju (K+1+ts.length*(X+(e / 32+1)+1)) w'∧Za Yir (.loop Yc78) (Zqt ts r (e:Nat) w ((n:Int)-1) ((e*(ts.length-n):Nat):Int)) (.exit 0) (Zqt ts r (e:Nat) w' (-1) s'):=by
 have hle:ts.length≤1048576:=by
  have:ts.length*1≤(ts.length+1)*(X+(e / 32+1)+1):=Nat.mul_le_mul (by omega) (by omega)
  omega
 intro n
 induction n with
 | zero =>
  intro w _ hw gw
  exact⟨w,_,by simpa using hw,gw,Za.loop_out (Yk78_2 ts r (e:Nat) w (((0:Nat):Int)-1) _ (by simp)) (by intro e;cases e)⟩
 | succ n ih =>
  intro w hn hw gw
  obtain⟨t1,t2⟩:=Z8 ht n
  have e0:((n+1:Nat):Int)-1=(n:Int):=by omega
  have hK1:(ts.length-(n+1))*(X+(e / 32+1)+1)+(X+(e / 32+1)+1)=(ts.length-n)*(X+(e / 32+1)+1):=by
   rw[show ts.length-n=ts.length-(n+1)+1 by omega,Nat.add_mul,Nat.one_mul]
  have hK2:(ts.length-n)*(X+(e / 32+1)+1)≤(ts.length+1)*(X+(e / 32+1)+1):=Nat.mul_le_mul_right _ (by omega)
  have hsh:e*(ts.length-(n+1)) / 32≤(ts.length-(n+1))*(X+(e / 32+1)+1):=by
   have h3:e≤32*(e / 32+1):=by omega
   have h4:e*(ts.length-(n+1))≤32*((ts.length-(n+1))*(e / 32+1)):=by
    calc e*(ts.length-(n+1))≤(32*(e / 32+1))*(ts.length-(n+1)):=Nat.mul_le_mul_right _ h3
     _=32*((ts.length-(n+1))*(e / 32+1)):=by rw[Nat.mul_assoc,Nat.mul_comm (e / 32+1)]
   have h5:(ts.length-(n+1))*(e / 32+1)≤(ts.length-(n+1))*(X+(e / 32+1)+1):=Nat.mul_le_mul_left _ (by omega)
   omega
  have hb1:e*(ts.length-(n+1))≤1073741824*1048576:=Nat.mul_le_mul he (by omega)
  have hb2:e*(ts.length-n)≤1073741824*1048576:=Nat.mul_le_mul he (by omega)
  have w1:i64.wrap (((e*(ts.length-(n+1)):Nat):Int)+(e:Int))=((e*(ts.length-n):Nat):Int):=by
   have:e*(ts.length-n)=e*(ts.length-(n+1))+e:=by rw[show ts.length-n=ts.length-(n+1)+1 by omega,Nat.mul_succ]
   rw[w64 (by omega) (by omega)];omega
  have w2:i64.wrap ((n:Int)-1)=(n:Int)-1:=w64 (by omega) (by omega)
  have hst:hv ((Zi ts).drop n) (Zn r) (2^e)=Zn w*Zn r+Zn (ts.getD n z0)*2^(e*(ts.length-(n+1))):=by
   have h1:(Zi ts).drop n=(Zi ts).getD n 0::(Zi ts).drop (n+1):=by
    rw[List.drop_eq_getElem_cons (by rw[Zs];omega)]
    congr 1
    rw[List.getD_eq_getElem?_getD,List.getElem?_eq_getElem (by rw[Zs];omega)];rfl
   rw[h1,hv,Q2,List.length_drop,Zs,← hw,← Int.pow_mul]
   generalize Zn (ts.getD n z0)*2^(e*(ts.length-(n+1)))=A
   grind
  have fw:=gw.fits
  have fp:=(fw.mul hr.fits)
  have ft:Jg (K+(e*(ts.length-(n+1)) / 32+1)) (Zn (ts.getD n z0)*2^(e*(ts.length-(n+1)))):=(Z8 ht n).fits.mul (Aj _)
  have hgood:Ju (K+1+(ts.length-n)*(X+(e / 32+1)+1)) (cn (Zn w*Zn r+Zn (ts.getD n z0)*2^(e*(ts.length-(n+1))))):=by
   refine (Q5 ((fp.mono (k:=K+1+(ts.length-(n+1))*(X+(e / 32+1)+1)+X+(e / 32+1)) (by omega)).add (ft.mono (by omega)))).mono (by omega)
  obtain⟨w',s',q1,q2,q3⟩:=ih (cn (Zn w*Zn r+Zn (ts.getD n z0)*2^(e*(ts.length-(n+1))))) (by omega) (by rw[Z9,hst]) hgood
  refine⟨w',s',q1,q2,?_⟩
  rw[e0]
  have l1:=fp.len
  have l2:=ft.len
  obtain⟨gw1,gw2⟩:=gw
  have k:=Yk78_1 ts r (e:Nat) w (n:Nat) ((e*(ts.length-(n+1)):Nat):Int) (Zn (ts.getD n z0)*2^(e*(ts.length-(n+1)))) (by simp) (by omega)
   (Nk gw1 hr.1 (by have:=hr.2;omega))
   (by rw[Int.toNat_natCast];exact Tl t1 _ (by omega) (by omega))
   (by
    have:=Zjm (na:=decide (Zn w*Zn r<0)) (nb:=decide (Zn (ts.getD n z0)*2^(e*(ts.length-(n+1)))<0)) (Qx (Zn w*Zn r).natAbs) (Qx (Zn (ts.getD n z0)*2^(e*(ts.length-(n+1)))).natAbs) (by omega) (by omega)
    rw[V7,V7] at this
    exact this)
  rw[w1,w2] at k
  exact Za.loop k q3
theorem Sj {K X:Nat} {rs:List Rn} {r:Rn} (ht:∀ t∈rs,Ju K t) (hr:Ju X r) (e:Nat) (hS:K+2+(rs.length+1)*(X+(e / 32+1)+1)≤1048576) (he:e≤1073741824) :
  Ze Yir 78 [.sl rs.length (pc rs), .agg [.bool r.1, .sl r.2.length (lm r.2), .int .i64 (e:Nat)]] (.int .i64 (Xh (hv (Zi rs) (Zn r) (2^e)))):=by
 have hle:rs.length≤1048576:=by
  have:rs.length*1≤(rs.length+1)*(X+(e / 32+1)+1):=Nat.mul_le_mul (by omega) (by omega)
  omega
 obtain⟨w',s',q1,q2,q3⟩:=Zs7 ht hr e hS he rs.length z0 (Nat.le_refl _) (by rw[← Zs,List.drop_length];rfl) (R5 _)
 rw[Nat.sub_self,Nat.mul_zero] at q3
 have hK2:rs.length*(X+(e / 32+1)+1)≤(rs.length+1)*(X+(e / 32+1)+1):=Nat.mul_le_mul_right _ (by omega)
 have hs:=Ge (neg:=w'.1) q2.1 (by have:=q2.2;omega)
 rw[show rv w'.1 w'.2=Zn w' from rfl,q1] at hs
 have e1:i64.wrap ((rs.length:Int)-1)=(rs.length:Int)-1:=w64 (by omega) (by omega)
 exact Yrun78 rs r w' (e:Nat) (-1) s' _ (by rw[e1];exact q3) hs
def TSB:Jx:=TSA
theorem Jt:Q1 Yir TSB:=Zi1
end Go.Proofs.Ythnnfemologhfaa
