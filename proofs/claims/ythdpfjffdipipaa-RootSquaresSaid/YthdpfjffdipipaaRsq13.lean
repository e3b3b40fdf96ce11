/- Texts of the proof of RootSquares, packed by pack.py: part 13 of 18. -/
import Derived.Test.YthdpfjffdipipaaRsq12
namespace Go.Proofs.Ythdpfjffdipipaa
open Go.IntKind (i64 u64 u32)
open Go.Ai
set_option maxRecDepth 100000
theorem Zev {E rs:List Rn} {m:Nat} (hl:E.length=rs.length) (h:∀ x,x<m->E.getD x z0=rs.getD x z0):Dq E rs m=rs:=by
 apply List.ext_getElem?;intro t;unfold Dq;by_cases ht:t<m
 ·by_cases hm:t<E.length
  ·have:=h t ht;rw[List.getD_eq_getElem?_getD,List.getD_eq_getElem?_getD,List.getElem?_eq_getElem hm,List.getElem?_eq_getElem (by omega)] at this;rw[List.getElem?_append_left (by rw[List.length_take];omega),List.getElem?_take_of_lt ht,List.getElem?_eq_getElem hm,List.getElem?_eq_getElem (by omega)];simpa using this
  ·rw[List.getElem?_eq_none (by rw[List.length_append,List.length_take,List.length_drop];omega),List.getElem?_eq_none (by omega)]
 ·by_cases hm:m<=E.length
  ·rw[List.getElem?_append_right (by rw[List.length_take];omega),List.length_take,List.getElem?_drop];congr 1;omega
  ·rw[List.getElem?_eq_none (by rw[List.length_append,List.length_take,List.length_drop];omega),List.getElem?_eq_none (by omega)]
theorem Zew {E rs:List Rn} {m:Nat} (hl:E.length=rs.length) (hm:m<=rs.length) (h:∀ x,m<=x->E.getD x z0=rs.getD x z0):Dq E rs m=E:=by
 apply List.ext_getElem?;intro t;unfold Dq;by_cases ht:t<m
 ·rw[List.getElem?_append_left (by rw[List.length_take];omega),List.getElem?_take_of_lt ht]
 ·rw[List.getElem?_append_right (by rw[List.length_take];omega),List.length_take,List.getElem?_drop,show m+(t-min m E.length)=t by omega];by_cases hm:t<E.length
  ·have:=h t (by omega);rw[List.getD_eq_getElem?_getD,List.getD_eq_getElem?_getD,List.getElem?_eq_getElem hm,List.getElem?_eq_getElem (by omega)] at this;rw[List.getElem?_eq_getElem hm,List.getElem?_eq_getElem (by omega)];simpa using this.symm
  ·rw[List.getElem?_eq_none (by omega),List.getElem?_eq_none (by omega)]
section
variable {p q:List Int} {J Kq:Nat}
theorem Zal {c:Int} (hp:Kb J p) (hc:Jo Kq c):Kb (J+Kq) (Zw c p):=fun i=>by
 rw[Z2,Nat.add_comm];exact hc.mul (hp i)
theorem div_a {t:Int} {l:Rn} {qs os:List Rn} {kq:Nat} {j:Int} (hp:Kb J p) (ht:Jo Kq t) (hS:J+Kq<1048576) (hN:p.length<=1048576) :
  Za Yir (.loop N2) (H7 qs p.length (p.map cn) (cn t) kq os j l (p.length:Nat) 0) (.exit 2) (H7 qs p.length ((Zw t p).map cn) (cn t) kq os j l (p.length:Nat) (p.length:Nat)):=by
 have hE:((Zw t p).map cn).length=(p.map cn).length:=by rw[List.length_map,List.length_map,Z6]
 have hpl:(p.map cn).length=p.length:=List.length_map ..;have h:=Za.up (prog:=Yir) (c:=N2) (ex := .exit 2) (fin:=H7 qs p.length ((Zw t p).map cn) (cn t) kq os j l (p.length:Nat) (p.length:Nat))
  (fun i=>H7 qs p.length (Dq ((Zw t p).map cn) (p.map cn) i) (cn t) kq os j l (p.length:Nat) (i:Nat)) p.length (by nofun) ?_ ?_ 0 (Nat.zero_le _)
 ·rw[An] at h;exact h
 ·intro i hi;have ei:i64.wrap ((i:Int)+1)=((i+1:Nat):Int):=by rw[w64 (by omega) (by omega)];omega
  have hml:=Vx hE i;have hget:=Bh hE (i:=i) (by omega);have hEi:((Zw t p).map cn).getD i z0=cn ((Zw t p).getD i 0):=V4 (by rw[Z6];exact hi);have hset:=Bg hE (i:=i) (by omega);rw[hEi,Z2] at hset;have gp:=Qh (Ql hp) i;have gt:=Q5 ht;have vi:=Gg p i;have m1:=Fp gp gt (by omega);generalize Dq ((Zw t p).map cn) (p.map cn) i=M at *
  have k:=Znj qs p.length M (cn t) kq os j l (p.length:Nat) (i:Nat) (by simp;omega) (by omega) (by omega) (by rw[Int.toNat_natCast,hget];exact m1);refine k.to rfl ?_;simp only[ei,Int.toNat_natCast,hget];rw[vi,Zv,Int.mul_comm,hset]
 ·rw[show Dq ((Zw t p).map cn) (p.map cn) p.length=(Zw t p).map cn by have h:=Ao hE;rw[hpl] at h;exact h];exact Zni _ _ _ _ _ _ _ _ _ _ (by simp)
theorem div_b {t:Int} {l:Rn} {qs rs:List Rn} {k:Nat} {j:Int} (hp:Kb J p) (ht:Jo Kq t) (hS:J+Kq<1048576) (hN:p.length<=1048576) :
  Za Yir (.loop N1) (H6 qs k rs (cn t) p.length (p.map cn) j l (p.length:Nat) 0) (.exit 4) (H6 qs k rs (cn t) p.length ((Zw t p).map cn) j l (p.length:Nat) (p.length:Nat)):=by
 have hE:((Zw t p).map cn).length=(p.map cn).length:=by rw[List.length_map,List.length_map,Z6]
 have hpl:(p.map cn).length=p.length:=List.length_map ..;have h:=Za.up (prog:=Yir) (c:=N1) (ex := .exit 4) (fin:=H6 qs k rs (cn t) p.length ((Zw t p).map cn) j l (p.length:Nat) (p.length:Nat))
  (fun i=>H6 qs k rs (cn t) p.length (Dq ((Zw t p).map cn) (p.map cn) i) j l (p.length:Nat) (i:Nat)) p.length (by nofun) ?_ ?_ 0 (Nat.zero_le _)
 ·rw[An] at h;exact h
 ·intro i hi;have ei:i64.wrap ((i:Int)+1)=((i+1:Nat):Int):=by rw[w64 (by omega) (by omega)];omega
  have hml:=Vx hE i;have hget:=Bh hE (i:=i) (by omega);have hEi:((Zw t p).map cn).getD i z0=cn ((Zw t p).getD i 0):=V4 (by rw[Z6];exact hi);have hset:=Bg hE (i:=i) (by omega);rw[hEi,Z2] at hset;have gp:=Qh (Ql hp) i;have gt:=Q5 ht;have vi:=Gg p i;have m1:=Fp gp gt (by omega);generalize Dq ((Zw t p).map cn) (p.map cn) i=M at *
  have k:=Znh qs k rs (cn t) p.length M j l (p.length:Nat) (i:Nat) (by simp;omega) (by omega) (by omega) (by rw[Int.toNat_natCast,hget];exact m1);refine k.to rfl ?_;simp only[ei,Int.toNat_natCast,hget];rw[vi,Zv,Int.mul_comm,hset]
 ·rw[show Dq ((Zw t p).map cn) (p.map cn) p.length=(Zw t p).map cn by have h:=Ao hE;rw[hpl] at h;exact h];exact Zng _ _ _ _ _ _ _ _ _ _ (by simp)
theorem div_c {t:Rn} {l:Int} {os:List Rn} {kq j Jp:Nat} (hp:Kb Jp p) (hq:Kb Kq q) (hl:Jo J l) (hS:J+Kq<1048576) (hJp:Jp<1048576) (hN:p.length<=1048576) (hj:j+q.length<=p.length) :
  Za Yir (.loop N0) (H5 (q.map cn) p.length (p.map cn) t kq os (j:Nat) (cn l) (q.length:Nat) 0) (.exit 6) (H5 (q.map cn) p.length ((Ko p q l j).map cn) t kq os (j:Nat) (cn l) (q.length:Nat) (q.length:Nat)):=by
 have hE:((Ko p q l j).map cn).length=(p.map cn).length:=by rw[List.length_map,List.length_map,Uc]
 have hpl:(p.map cn).length=p.length:=List.length_map ..;have gE:∀ x,x<p.length->((Ko p q l j).map cn).getD x z0=cn (p.getD x 0-l*(U8 j q).getD x 0):=fun x hx=>by
  rw[V4 (by rw[Uc];exact hx),Ho _ _ _ _ _ hj]
 have eout:∀ x,(x<j\/j+q.length<=x)->((Ko p q l j).map cn).getD x z0=(p.map cn).getD x z0:=by
  intro x hx;by_cases h:x<p.length
  ·rw[gE x h,V4 h,Qw];rcases hx with hx | hx
   ·rw[if_neg (by omega),Int.mul_zero,Int.sub_zero]
   ·rw[if_pos (by omega),Qi (xs:=q) (show q.length<=x-j by omega),Int.mul_zero,Int.sub_zero]
  ·rw[List.getD_eq_getElem?_getD,List.getD_eq_getElem?_getD,List.getElem?_eq_none (by omega),List.getElem?_eq_none (by omega)]
 have h:=Za.up (prog:=Yir) (c:=N0) (ex := .exit 6) (fin:=H5 (q.map cn) p.length ((Ko p q l j).map cn) t kq os (j:Nat) (cn l) (q.length:Nat) (q.length:Nat))
  (fun i=>H5 (q.map cn) p.length (Dq ((Ko p q l j).map cn) (p.map cn) (j+i)) t kq os (j:Nat) (cn l) (q.length:Nat) (i:Nat)) q.length (by nofun) ?_ ?_ 0 (Nat.zero_le _)
 ·rw[Nat.add_zero,Zev hE (fun x hx=>eout x (.inl hx))] at h;exact h
 ·intro i hi;have ei:i64.wrap ((i:Int)+1)=((i+1:Nat):Int):=by rw[w64 (by omega) (by omega)];omega
  have eji:i64.wrap ((j:Int)+(i:Int))=((j+i:Nat):Int):=by rw[w64 (by omega) (by omega)];omega
  have hml:=Vx hE (j+i);have hget:=Bh hE (i:=j+i) (by omega);have hEi:=gE (j+i) (by omega);rw[Qw,if_pos (by omega),show j+i-j=i by omega] at hEi;have hset:=Bg hE (i:=j+i) (by omega);rw[hEi] at hset;have gp:=Qh (Ql hp) (j+i);have gq:=Qh (Ql hq) i;have gl:=Q5 hl;have vi:=Gg p (j+i);have vq:=Gg q i;have m1:=Fp gl gq (by omega);have f1:Jo (J+Kq) (Ze (cn l)*Ze ((q.map cn).getD i z0)):=Jo.mul (by rw[Zv];exact hl) gq.fits;have m2:=Rk gp (Q5 f1) (by omega) (by omega);rw[Zv (Ze (cn l)*Ze ((q.map cn).getD i z0))] at m2;generalize Dq ((Ko p q l j).map cn) (p.map cn) (j+i)=M at *
  have k:=Znf (q.map cn) p.length M t kq os (j:Nat) (cn l) (q.length:Nat) (i:Nat) (by simp;omega) (by rw[eji];omega) (by omega) (by rw[List.length_map];omega) (by rw[Int.toNat_natCast];exact m1) (by rw[eji,Int.toNat_natCast,Int.toNat_natCast,hget];exact m2);refine k.to rfl ?_;simp only[ei,eji,Int.toNat_natCast,hget];rw[vi,vq,Zv,hset,Nat.add_assoc]
 ·rw[Zew hE (by omega) (fun x hx=>eout x (.inr hx))];exact Zne _ _ _ _ _ _ _ _ _ _ (by simp)
theorem Zkd {l:Int} (hp:Kb (J+Kq) p) (hq:Kb Kq q) (hl:Jo J l) (k:Nat) (hk:k+q.length<=p.length):Kb (J+Kq+1) (Ko p q l k):=fun i=>by
 rw[Ho _ _ _ _ _ hk,Qw];split
 ·exact (hp i).add (hl.mul (hq _)).neg
 ·rw[Int.mul_zero,Int.sub_zero];exact (hp i).mono (by omega)
theorem kb_set {l:Int} (hp:Kb J p) (hl:Jo J l) (k:Nat):Kb J (p.set k l):=fun i=>by
 by_cases h:i=k
 ·subst h;by_cases hi:i<p.length
  ·rw[List.getD_eq_getElem?_getD,List.getElem?_set_self hi];exact hl
  ·rw[Qi (by rw[List.length_set];omega)];exact Wo _
 ·rw[Qm (by omega)];exact hp i
end
theorem Zks {q:List Int} {Kq:Nat} (hq:Kb Kq q) (hq0:q ≠ []):∀ (k:Nat) (r out:List Int) (J:Nat),Kb J r->Kb J out->J+k*(Kq+1)<1048576->k<=out.length->out.length+q.length=r.length+1->r.length<=1048576 ->
  (∃ r',Za Yir (.loop Zie) (Sz (q.map cn) r.length (r.map cn) (cn (top q)) out.length (out.map cn) ((k:Int)-1)) (.exit 0) (Sz (q.map cn) r.length r' (cn (top q)) out.length ((Eo q k r out).map cn) (-1)))/\Kb (J+k*(Kq+1)) (Eo q k r out)/\(Eo q k r out).length=out.length:=by
 have hql:=List.length_pos_iff.2 hq0;intro k;induction k with
 | zero =>
  intro r out J _ ho _ _ _ _;exact⟨⟨_,Za.loop_out (Ztf _ _ _ _ _ _ _ (by simp)) (by nofun)⟩,ho.mono (by omega),rfl⟩
 | succ k ih =>
  intro r out J hr ho hS hk hl hN;simp only[Eo];have hS':J+Kq+1+k*(Kq+1)<1048576:=by rw[Nat.add_mul,Nat.one_mul] at hS;omega
  have el:Jo J (r.getD (k+q.length-1) 0):=hr _;have e1:((k+1:Nat):Int)-1=(k:Int):=by omega
  have e2:i64.wrap (i64.wrap ((k:Int)+(((q.map cn).length:Nat):Int))-1)=((k+q.length-1:Nat):Int):=by
   rw[List.length_map,w64 (n:=(k:Int)+(q.length:Nat)) (by omega) (by omega),w64 (by omega) (by omega)];omega
  have e3:(r.map cn).getD (k+q.length-1) z0=cn (r.getD (k+q.length-1) 0):=V4 (by omega);have e4:i64.wrap ((k:Int)-1)=(k:Int)-1:=w64 (by omega) (by omega);have ft:Jo Kq (top q):=hq _;generalize hlead:r.getD (k+q.length-1) 0=l at *
  have hps:=Zal hr ft;have hpo:=Zal ho ft;have la:=div_a (l:=cn l) (qs:=q.map cn) (os:=out.map cn) (kq:=out.length) (j:=(k:Nat)) hr ft (by omega) hN;have lb:=div_b (l:=cn l) (qs:=q.map cn) (rs:=(Zw (top q) r).map cn) (k:=r.length) (j:=(k:Nat)) ho ft (by omega) (by omega);have hlc:=div_c (t:=cn (top q)) (l:=l) (os:=((Zw (top q) out).set k l).map cn) (kq:=out.length) (j:=k) (p:=Zw (top q) r) (J:=J) hps hq el (by omega) (by omega) (by rw[Z6];exact hN) (by rw[Z6];omega);rw[Z6] at hlc;obtain⟨⟨r',hr'⟩,kb,len⟩:=ih (Ko (Zw (top q) r) q l k) ((Zw (top q) out).set k l) (J+Kq+1) (Zkd hps hq el k (by rw[Z6];omega)) (kb_set (hpo.mono (by omega)) (el.mono (by omega)) k) hS' (by rw[List.length_set,Z6];omega) (by rw[List.length_set,Z6,Uc,Z6];exact hl) (by rw[Uc,Z6];exact hN);rw[List.length_set,Z6,Uc,Z6] at hr';refine⟨⟨r',?_⟩,kb.mono (by rw[Nat.add_mul,Nat.one_mul];omega),by rw[len,List.length_set,Z6]⟩;have hset:((Zw (top q) out).map cn).set k (cn l)=((Zw (top q) out).set k l).map cn:=by rw[List.map_set]
  have k1:=Ztg (q.map cn) r.length (r.map cn) (cn (top q)) out.length (out.map cn) (k:Nat) ((Zw (top q) r).map cn) ((Ko (Zw (top q) r) q l k).map cn) ((Zw (top q) out).map cn) _ _ _ _ _ _ (by simp) (by rw[e2];omega) (List.length_map ..)
   (by rw[e2,Int.toNat_natCast,e3];exact la) (by rw[e2,Int.toNat_natCast,e3];exact lb) (by omega) (by rw[List.length_map,Z6]) (by rw[e2,Int.toNat_natCast,Int.toNat_natCast,e3,hset,List.length_map];exact hlc)
  rw[e2,Int.toNat_natCast,Int.toNat_natCast,e3,hset,e4] at k1;rw[e1];exact Za.loop k1 hr'
theorem z0_cn:cn 0=z0:=rfl
theorem Py {p q:List Int} {J K:Nat} (hp:Kb J p) (hq:Kb K q) (lp:Xw p) (hq0:q ≠ []) (hl:q.length<=p.length) (hN:p.length<=1000000) (hS:J+(p.length-q.length+1)*(K+1)<1048576) :
  Zc Yir 110 [.sl (p.map cn).length (pc (p.map cn)),.sl (q.map cn).length (pc (q.map cn))] (.fresh 2 ((prim (Eo q (p.length-q.length+1) p (List.replicate (p.length-q.length+1) 0))).map cn).length (pc ((prim (Eo q (p.length-q.length+1) p (List.replicate (p.length-q.length+1) 0))).map cn))):=by
 have hql:=List.length_pos_iff.2 hq0;have htr:=Wt (rs:=p.map cn) (fun r h=>(Ql hp r h).mono (show J<=1048576 by omega)) (by rw[List.length_map];omega);rw[Qa,lp] at htr;have htr':Zc Yir 95 [.sl (p.map cn).length (pc (p.map cn))] (.fresh 2 (p.map cn).length (pc (p.map cn))):=by rw[List.length_map] at htr |-;exact htr
 obtain⟨⟨r',hlp⟩,kb,len⟩:=Zks hq hq0 (p.length-q.length+1) p (List.replicate (p.length-q.length+1) 0) J hp (fun i=>by rw[J8];exact Wo _) hS (by simp) (by simp;omega) (by omega);rw[List.length_replicate] at hlp len;have e1:i64.wrap ((((q.map cn).length:Nat):Int)-1)=((q.length-1:Nat):Int):=by rw[List.length_map,w64 (by omega) (by omega)];omega
 have e2:i64.wrap (i64.wrap ((((p.map cn).length:Nat):Int)-(((q.map cn).length:Nat):Int))+1)=((p.length-q.length+1:Nat):Int):=by
  rw[List.length_map,List.length_map,w64 (n:=(p.length:Int)-(q.length:Nat)) (by omega) (by omega),w64 (by omega) (by omega)];omega
 have e3:i64.wrap (((p.length-q.length+1:Nat):Int)-1)=((p.length-q.length+1:Nat):Int)-1:=w64 (by omega) (by omega);have hz:(List.replicate (p.length-q.length+1) (0:Int)).map cn=List.replicate (p.length-q.length+1) z0:=by rw[List.map_replicate,z0_cn]
 have hpr:=Jv (rs:=(Eo q (p.length-q.length+1) p (List.replicate (p.length-q.length+1) 0)).map cn) (Ql kb) (by omega) (by rw[List.length_map];omega);rw[Qa] at hpr;have hpr':=hpr;rw[show ∀ o:List Int,(o.map cn).length=o.length from fun o=>List.length_map ..,len] at hpr';have k:=Zrr (p.map cn) (q.map cn) (p.map cn) ((prim (Eo q (p.length-q.length+1) p (List.replicate (p.length-q.length+1) 0))).map cn) r' ((Eo q (p.length-q.length+1) p (List.replicate (p.length-q.length+1) 0)).map cn) (cn (top q)) p.length (p.length-q.length+1) (-1) htr' (by rw[e1,List.length_map];omega) (by rw[e2];omega) (by
   rw[e1,e2,Int.toNat_natCast,Int.toNat_natCast,e3,Md,<- hz,V4 (show q.length-1<q.length by omega),show (p.map cn).length=p.length from List.length_map ..];exact hlp) (by
   have hlm:((prim (Eo q (p.length-q.length+1) p (List.replicate (p.length-q.length+1) 0))).map cn).length=(prim (Eo q (p.length-q.length+1) p (List.replicate (p.length-q.length+1) 0))).length:=List.length_map ..;rw[hlm];exact hpr')
 exact k
theorem Px {rs:List Rn} {K c:Nat} (hr:∀ r∈rs,Ji K r) (hn:rs.length<=c) (hc:c<=9) (hS:(K+3)*(2*3^c)<=500000):Zc6 72 [.sl rs.length (pc rs)] (Zq (Zf rs)):=by
 have h3:0<3^c:=Nat.pow_pos (by decide);have hK:K+3<=250000:=by
  have:(K+3)*2<=(K+3)*(2*3^c):=Nat.mul_le_mul_left _ (by omega);omega
 have p1:=Jv hr (by omega) (by omega);have p1':Zc Yir 73 [.sl rs.length (pc rs)] (.fresh 2 ((prim (Zf rs)).map cn).length (pc ((prim (Zf rs)).map cn))):=by rw[List.length_map];exact p1
 have k1:Kb K (prim (Zf rs)):=(Ms (Xj hr)).prim;have l1:(prim (Zf rs)).length<=rs.length:=by rw[Qt];have:=Jj (Zf rs);rwa [Zu] at this
 obtain⟨q1,q2⟩:=Eg k1 (by omega) (by omega);have ka:Kb K (Jq (prim (Zf rs))):=by
  unfold Jq;split
  ·intro i;rw[Wn];exact (k1 i).neg
  ·exact k1
 have la:=Gf (prim (Zf rs));have lda:Xw (Jq (prim (Zf rs))):=Au (Jw _);have hpp:(¬ top (prim (Zf rs))<0)->Jq (prim (Zf rs))=prim (Zf rs):=T5;have hder:=Dx (rs:=(Jq (prim (Zf rs))).map cn) (Ql ka) (by omega) (by rw[List.length_map];omega);rw[Qa] at hder;have hder':Zc Yir 85 [.sl ((Jq (prim (Zf rs))).map cn).length (pc ((Jq (prim (Zf rs))).map cn))] (.fresh 2 ((Z8 (Jq (prim (Zf rs)))).map cn).length (pc ((Z8 (Jq (prim (Zf rs)))).map cn))):=by
  have hlm:((Z8 (Jq (prim (Zf rs)))).map cn).length=(Z8 (Jq (prim (Zf rs)))).length:=List.length_map ..;rw[hlm];exact hder
 have kd:Kb (K+2) (Z8 (Jq (prim (Zf rs)))):=Zfc ka (by omega);have ld:(Z8 (Jq (prim (Zf rs)))).length<=c:=by have:=Zjz (Jq (prim (Zf rs)));omega
 have hcom:=Ej (rs:=(Jq (prim (Zf rs))).map cn) (ss:=(Z8 (Jq (prim (Zf rs)))).map cn) (K:=K+2) (c:=c) (fun r h=>(Ql ka r h).mono (by omega)) (Ql kd) (by rw[List.length_map];omega) (by rw[List.length_map];exact ld) (by omega) hS;rw[Qa,Qa] at hcom;change Zc6 71 _ (V1 (Jq (prim (Zf rs))) (Z8 (Jq (prim (Zf rs))))) at hcom;have hdiv:2<=(V1 (Jq (prim (Zf rs))) (Z8 (Jq (prim (Zf rs))))).length->Zc Yir 110 [.sl ((Jq (prim (Zf rs))).map cn).length (pc ((Jq (prim (Zf rs))).map cn)),.sl ((V1 (Jq (prim (Zf rs))) (Z8 (Jq (prim (Zf rs))))).map cn).length (pc ((V1 (Jq (prim (Zf rs))) (Z8 (Jq (prim (Zf rs))))).map cn))]
   (.fresh 2 ((prim (Eo (V1 (Jq (prim (Zf rs))) (Z8 (Jq (prim (Zf rs))))) ((Jq (prim (Zf rs))).length-(V1 (Jq (prim (Zf rs))) (Z8 (Jq (prim (Zf rs))))).length+1) (Jq (prim (Zf rs))) (List.replicate ((Jq (prim (Zf rs))).length-(V1 (Jq (prim (Zf rs))) (Z8 (Jq (prim (Zf rs))))).length+1) 0))).map cn).length (pc ((prim (Eo (V1 (Jq (prim (Zf rs))) (Z8 (Jq (prim (Zf rs))))) ((Jq (prim (Zf rs))).length-(V1 (Jq (prim (Zf rs))) (Z8 (Jq (prim (Zf rs))))).length+1) (Jq (prim (Zf rs))) (List.replicate ((Jq (prim (Zf rs))).length-(V1 (Jq (prim (Zf rs))) (Z8 (Jq (prim (Zf rs))))).length+1) 0))).map cn))):=by
  intro h2;have hp0:Zj (Zf rs) ≠ []:=by
   intro h0;have:prim (Zf rs)=[]:=Xu.2 (Xf.1 h0);rw[this] at h2;exact absurd h2 (by decide)
  obtain⟨a1,a2,_,_,_,_⟩:=Zed hp0;obtain⟨b1,b2⟩:=Zqo (t:=Z8 (Jq (prim (Zf rs)))) (Uf a1 a2) (by omega) ka;rw[a1] at b2;exact Py ka b1 lda (by intro h0;rw[h0] at h2;exact absurd h2 (by decide)) b2 (by omega) (by
   have h4:(Jq (prim (Zf rs))).length-(V1 (Jq (prim (Zf rs))) (Z8 (Jq (prim (Zf rs))))).length+1<=10:=by omega
   have h5:=Nat.mul_le_mul_right (K+3+1) h4;have h6:3^2<=3^c:=Nat.pow_le_pow_right (by decide) (by omega);have h7:(K+3)*18<=(K+3)*(2*3^c):=Nat.mul_le_mul_left _ (by omega);omega)
 unfold Zq;by_cases hs:(Jq (prim (Zf rs))).length<2
 ·rw[if_pos (.inl hs)];by_cases ht:top (prim (Zf rs))<0
  ·exact .inr (Tc rs _ _ (by rw[decide_eq_true_eq,List.length_map];omega) p1' (q1 ht))
  ·rw[hpp ht] at hs |-;exact .inr (S5 rs _ (by rw[decide_eq_true_eq,List.length_map];omega) p1' (q2 ht))
 ·by_cases hg:(V1 (Jq (prim (Zf rs))) (Z8 (Jq (prim (Zf rs))))).length<2
  ·rw[if_pos (.inr hg)];by_cases ht:top (prim (Zf rs))<0
   ·rcases hcom with h | h
    ·exact .inr (Tb rs _ _ _ _ (by rw[decide_eq_false_iff_not,List.length_map];omega) (by rw[decide_eq_true_eq,List.length_map];omega) p1' (q1 ht) hder' h)
    ·exact .inr (S9 rs _ _ _ _ (by rw[decide_eq_false_iff_not,List.length_map];omega) (by rw[decide_eq_true_eq,List.length_map];omega) p1' (q1 ht) hder' h)
   ·rw[hpp ht] at *
    rcases hcom with h | h
    ·exact .inr (S7 rs _ _ _ (by rw[decide_eq_false_iff_not,List.length_map];omega) (by rw[decide_eq_true_eq,List.length_map];omega) p1' (q2 ht) hder' h)
    ·exact .inr (S4 rs _ _ _ (by rw[decide_eq_false_iff_not,List.length_map];omega) (by rw[decide_eq_true_eq,List.length_map];omega) p1' (q2 ht) hder' h)
  ·rw[if_neg (by omega)];have hdiv:=hdiv (by omega);by_cases ht:top (prim (Zf rs))<0
   ·rcases hcom with h | h
    ·exact .inl (Ta rs _ _ _ _ _ (by rw[decide_eq_false_iff_not,List.length_map];omega) (by rw[decide_eq_false_iff_not,List.length_map];omega) p1' (q1 ht) hder' h hdiv)
    ·exact .inl (S8 rs _ _ _ _ _ (by rw[decide_eq_false_iff_not,List.length_map];omega) (by rw[decide_eq_false_iff_not,List.length_map];omega) p1' (q1 ht) hder' h hdiv)
   ·rw[hpp ht] at *
    rcases hcom with h | h
    ·exact .inl (S6 rs _ _ _ _ (by rw[decide_eq_false_iff_not,List.length_map];omega) (by rw[decide_eq_false_iff_not,List.length_map];omega) p1' (q2 ht) hder' h hdiv)
    ·exact .inl (S3 rs _ _ _ _ (by rw[decide_eq_false_iff_not,List.length_map];omega) (by rw[decide_eq_false_iff_not,List.length_map];omega) p1' (q2 ht) hder' h hdiv)
end Go.Proofs.Ythdpfjffdipipaa

namespace Go.Proofs.Ythdpfjffdipipaa
open Go.IntKind (i64 u64 u32)
open Go.Ai
set_option maxRecDepth 100000
theorem L6 {f:Nat} {args:List AV} {X:List Int} (h:Zc Yir f args (.fresh 2 X.length (pk X))):Zc Yir f args (.fresh 2 (X.map cn).length (pc (X.map cn))):=by
 rw[List.length_map];exact h
section
variable {p d:List Int} {J Kd:Nat}
end
end Go.Proofs.Ythdpfjffdipipaa

namespace Go.Proofs.Ythdpfjffdipipaa
open Go.IntKind (i64 u64 u32)
open Go.Ai
set_option maxRecDepth 100000
def Vf:Nat->List Int->List Int->List (List Int)
 | 0,_,_=>[]
 | f+1,a,b=>if b=[] then [] else b::Vf f b (Xz (Qs a b))
def Qz (p:List Int):List (List Int):=if Zq p=[] then [] else Zq p::Vf (Zq p).length (Zq p) (prim (Z8 (Zq p)))
theorem H0 {p:List Int} (h:prim p=p):prim (Xz p)=Xz p:=by
 by_cases h0:p=[]
 ·subst h0;rfl
 ·have hl:Xw p:=Xb h;have h1:=K5 (xs:=p) (by rw[hl];exact h0);rw[h] at h1;exact Ks (Kz hl) (by rw[Pm];exact h1)
theorem Zfb {K:Nat} {p:List Int} (h:Kb K p):Kb K (Xz p):=fun i=>by rw [Wn];exact (h i).neg
def pps (l:List (List Int)):List (List Rn):=l.map fun p=>p.map cn
theorem Zqf (ls:List (List Rn)) (rs:List Rn):pp ls++([.sl rs.length (pc rs)]:List AV)=pp (ls++[rs]):=by simp [pp]
def Nice (p:List Int):Prop:=Kb 500000 p/\p.length<=9/\Xw p
theorem St:∀ (f:Nat) (x y:List Int) (M:Nat),0<M->y.length<=x.length->x.length<=9->prim x=x->prim y=y->Kb (M-1) x->Kb (M-1) y->M*phi x.length y.length<=500000 ->
  ∀ p∈Vf f x y,Nice p:=by
 intro f;induction f with
 | zero=>intro x y M _ _ _ _ _ _ _ _ p hp;cases hp
 | succ f ih =>
  intro x y M hM h2 h3 px py kx ky hphi p hp;simp only[Vf] at hp;split at hp
  ·cases hp
  ·rename_i h;obtain⟨r1,r2,r3⟩:=Bc hM (Xb px) h kx ky h2;have hM':0<M*(x.length-y.length+2):=Nat.mul_pos hM (by omega);have hMle:M<=M*(x.length-y.length+2):=Nat.le_mul_of_pos_right M (by omega);have hb:M*1<=M*phi x.length y.length:=Nat.mul_le_mul_left _ (by unfold phi;exact Nat.mul_pos (by omega) (Nat.pow_pos (by decide)));rcases List.mem_cons.1 hp with rfl | hp
   ·exact⟨ky.mono (by omega),by omega,Xb py⟩
   ·exact ih y (Xz (Qs x y)) (M*(x.length-y.length+2)) hM' (by rw[Xh];omega) (by omega) py (H0 (Hm _ _ _ px)) (ky.mono (by omega)) (Zfb r3) (by rw[Xh];exact Bd r2 hphi) p hp
theorem Nv:∀ (f:Nat) (x y:List Int),(Vf f x y).length<=f
 | 0,_,_=>Nat.le_refl _
 | f+1,x,y=>by
  simp only[Vf];split
  ·simp
  ·have:=Nv f y (Xz (Qs x y));simp;omega
theorem Zca:∀ (f:Nat) (x y:List Int) (M:Nat) (ls:List (List Rn)),0<M->y.length<=f->y.length<=x.length->x.length<=9->prim x=x->prim y=y->Kb (M-1) x->Kb (M-1) y->M*phi x.length y.length<=500000->ls.length+f<=1000 ->
  ∃ as' bs',Za Yir (.loop Zwr) (Ziy (x.map cn) ls.length (pp ls) (y.map cn)) (.exit 0) (Ziy as' (ls++pps (Vf f x y)).length (pp (ls++pps (Vf f x y))) bs'):=by
 intro f;induction f with
 | zero =>
  intro x y M ls _ h1 _ _ _ _ _ _ _ _;have:y=[]:=List.eq_nil_of_length_eq_zero (by omega);subst this;have e:ls++pps (Vf 0 x [])=ls:=by simp[pps,Vf]
  rw[e];exact⟨_,_,Za.loop_out (Zpw _ _ _ _ (by simp)) (by nofun)⟩
 | succ f ih =>
  intro x y M ls hM h1 h2 h3 px py kx ky hphi hls;simp only[Vf];split
  ·rename_i h;subst h;have e:ls++pps []=ls:=by simp[pps]
   rw[e];exact⟨_,_,Za.loop_out (Zpw _ _ _ _ (by simp)) (by nofun)⟩
  ·rename_i h;have hyl:=List.length_pos_iff.2 h;obtain⟨r1,r2,r3⟩:=Bc hM (Xb px) h kx ky h2;have hM':0<M*(x.length-y.length+2):=Nat.mul_pos hM (by omega);have hMle:M<=M*(x.length-y.length+2):=Nat.le_mul_of_pos_right M (by omega);have hbig:M*(x.length-y.length+2)<=500000:=by
    refine Nat.le_trans (Nat.mul_le_mul_left _ ?_) hphi;unfold phi;exact Nat.le_mul_of_pos_right _ (Nat.pow_pos (by decide))
   have hrem:=V9 (rs:=x.map cn) (ss:=y.map cn) (Ql kx) (Ql ky) (by omega) (by omega) (by rw[List.length_map];omega) (by rw[List.length_map];omega) (by rw[Qa,py];exact h) (by
    rw[Qa,Qa,px,py,Nat.sub_add_cancel hM,show x.length+1-y.length=x.length-y.length+1 by omega,Nat.mul_comm _ M];have:M*(x.length-y.length+2)=M*(x.length-y.length+1)+M:=by rw[<- Nat.mul_succ]
    omega)
   rw[Qa,Qa,px,py] at hrem;have hneg:=W7 (rs:=(Qs x y).map cn) (fun r hr=>(Ql r3 r hr).mono (by omega)) (by rw[List.length_map];omega);rw[Qa] at hneg;have hneg':Zc Yir 86 [.sl ((Qs x y).map cn).length (pc ((Qs x y).map cn))] (.fresh 2 ((Xz (Qs x y)).map cn).length (pc ((Xz (Qs x y)).map cn))):=by
    have e:((Xz (Qs x y)).map cn).length=((Qs x y).map cn).length:=by rw[List.length_map,List.length_map,Xh]
    rw[e];exact hneg
   have k:=Yk48_1 (x.map cn) ls.length (pp ls) (y.map cn) _ _ (by simp;omega) (by omega) (L6 hrem) hneg';rw[Zqf] at k;obtain⟨as',bs',hb⟩:=ih y (Xz (Qs x y)) (M*(x.length-y.length+2)) (ls++[y.map cn]) hM' (by rw[Xh];omega) (by rw[Xh];omega) (by omega) py (H0 (Hm _ _ _ px)) (ky.mono (by omega)) (Zfb r3) (by rw[Xh];exact Bd r2 hphi) (by rw[List.length_append];simp;omega);have e:ls++[y.map cn]++pps (Vf f y (Xz (Qs x y)))=ls++pps (y::Vf f y (Xz (Qs x y))):=by simp[pps]
   rw[e] at hb;have el:(ls++[y.map cn]).length=ls.length+1:=by simp
   rw[el] at hb;exact⟨as',bs',Za.loop k hb⟩
theorem Gn {rs:List Rn} (hr:∀ r∈rs,Ji 5 r) (hn:rs.length<=9) (h0:Zq (Zf rs) ≠ []) :
  prim (Zq (Zf rs))=Zq (Zf rs)/\Kb 10 (Zq (Zf rs))/\Kb 10 (Z8 (Zq (Zf rs)))/\(Zq (Zf rs)).length<=9/\(Z8 (Zq (Zf rs))).length<=(Zq (Zf rs)).length-1/\(prim (Z8 (Zq (Zf rs)))).length<=(Z8 (Zq (Zf rs))).length /\
  11*phi (Zq (Zf rs)).length (prim (Z8 (Zq (Zf rs)))).length<=500000/\Xw (Zq (Zf rs)):=by
 have ht:Zj (Zf rs) ≠ []:=by
  intro h;have hz:prim (Zf rs)=[]:=by rw[Xu,<- Xf];exact h
  apply h0;unfold Zq;rw[hz];rfl
 obtain⟨lf,cf,_,_,_,_,_,_⟩:=Be ht;obtain⟨k1,k2⟩:=Zam ht (by rw[Zu];exact hn) (Ms (Xj hr));have t1:=Jj (Zf rs);rw[Zu] at t1;have k3:=Zfc k1 (by omega);have d1:(Z8 (Zq (Zf rs))).length<=(Zq (Zf rs)).length-1:=by
  unfold Z8;have:=Jj ((List.range ((Zq (Zf rs)).length-1)).map fun j=>(Zq (Zf rs)).getD (j+1) 0*((j+1:Nat):Int));rwa [List.length_map,List.length_range] at this
 have d2:(prim (Z8 (Zq (Zf rs)))).length<=(Z8 (Zq (Zf rs))).length:=by rw[Qt];exact Jj _
 refine⟨Ks lf cf,k1.mono (by omega),k3.mono (by omega),by omega,d1,d2,?_,lf⟩;have:=R4 (n:=(Zq (Zf rs)).length) (m:=(prim (Z8 (Zq (Zf rs)))).length) (c:=9) (by omega) (by omega);have h3:2*3^9=39366:=by decide
 omega
theorem Gp {rs:List Rn} (hr:∀ r∈rs,Ji 5 r) (hn:rs.length<=9):∀ p∈Qz (Zf rs),Nice p:=by
 intro p hp;unfold Qz at hp;split at hp
 ·cases hp
 ·rename_i h0;obtain⟨p1,k1,k2,l1,l2,l3,hphi,lf⟩:=Gn hr hn h0;rcases List.mem_cons.1 hp with rfl | hp
  ·exact⟨k1.mono (by omega),l1,lf⟩
  ·exact St _ _ _ 11 (by decide) (by omega) l1 p1 (Q8 _) k1 k2.prim hphi p hp
theorem Dg {rs:List Rn} (hr:∀ r∈rs,Ji 5 r) (hn:rs.length<=9):(Qz (Zf rs)).length<=10:=by
 unfold Qz;split
 ·simp
 ·rename_i h0;obtain⟨_,_,_,l1,_⟩:=Gn hr hn h0;have:=Nv (Zq (Zf rs)).length (Zq (Zf rs)) (prim (Z8 (Zq (Zf rs))));simp;omega
theorem Dj {rs:List Rn} (hr:∀ r∈rs,Ji 5 r) (hn:rs.length<=9):Zc Yir 48 [.sl rs.length (pc rs)] (.fresh 1 (pps (Qz (Zf rs))).length (pp (pps (Qz (Zf rs))))):=by
 have hf:=Px hr hn (by omega) (by decide);by_cases h0:Zq (Zf rs)=[]
 ·have e:Qz (Zf rs)=[]:=by unfold Qz;rw[if_pos h0]
  rw[e];rw[h0] at hf;rcases hf with h | h
  ·exact Zco rs [] (by decide) h
  ·exact Zcm rs [] (by decide) h
 ·obtain⟨p1,k1,k2,l1,l2,l3,hphi,lf⟩:=Gn hr hn h0;have e:Qz (Zf rs)=Zq (Zf rs)::Vf (Zq (Zf rs)).length (Zq (Zf rs)) (prim (Z8 (Zq (Zf rs)))):=by unfold Qz;rw[if_neg h0]
  have hd:=Dx (rs:=(Zq (Zf rs)).map cn) (Ql k1) (by omega) (by rw[List.length_map];omega);rw[Qa] at hd;have hp:=Jv (rs:=(Z8 (Zq (Zf rs))).map cn) (Ql k2) (by omega) (by rw[List.length_map];omega);rw[Qa] at hp;obtain⟨as',bs',hl⟩:=Zca (Zq (Zf rs)).length (Zq (Zf rs)) (prim (Z8 (Zq (Zf rs)))) 11 [(Zq (Zf rs)).map cn] (by decide) (by omega) (by omega) l1 p1 (Q8 _) k1 k2.prim hphi (by simp;omega);have e2:[(Zq (Zf rs)).map cn]++pps (Vf (Zq (Zf rs)).length (Zq (Zf rs)) (prim (Z8 (Zq (Zf rs)))))=pps (Qz (Zf rs)):=by rw[e];simp[pps]
  rw[e2] at hl;have c1:(((((Zq (Zf rs)).map cn).length:Nat):Int)==0)=false:=by
   rw[beq_eq_false_iff_ne,List.length_map];have:=List.length_pos_iff.2 h0;omega
  rcases hf with h | h
  ·exact Zcn rs _ _ _ as' bs' _ c1 h (L6 hd) (L6 hp) hl
  ·exact Zcl rs _ _ _ as' bs' _ c1 h (L6 hd) (L6 hp) hl
def Zbf (x:Int × Int) (s:Int):Int × Int:=(if s ≠ 0/\x.2 ≠ 0/\s ≠ x.2 then x.1+1 else x.1,if s ≠ 0 then s else x.2)
def Zbm (l:List (List Int)) (N:Int) (e:Nat) (i:Nat):Int:=Wa (hv (l.getD i []) N (2^e))
def Xc (l:List (List Int)) (N:Int) (e:Nat):Nat->Int × Int
 | 0=>(0,0)
 | i+1=>Zbf (Xc l N e i) (Zbm l N e i)
theorem Gv (l:List (List Int)) (N:Int) (e:Nat):∀ i:Nat,0<=(Xc l N e i).1/\(Xc l N e i).1<=(i:Int)
 | 0=>by simp[Xc]
 | i+1=>by
  have:=Gv l N e i;simp only[Xc,Zbf];split <;> omega
theorem Mj {l:List (List Int)} {i:Nat} (h:i<l.length):(pps l).getD i []=(l.getD i []).map cn:=by
 unfold pps;rw[List.getD_eq_getElem?_getD,List.getElem?_map,List.getD_eq_getElem?_getD,List.getElem?_eq_getElem h];rfl
theorem Ab (l:List (List Int)):(pps l).length=l.length:=List.length_map ..
section
variable {l:List (List Int)} {r:Rn} (hl:∀ p∈l,Nice p) (hr:Ji 100 r) (hN:l.length<=100) (e:Nat) (he:e<=4096)
include hl hr he
theorem at_run {i:Nat} (hi:i<l.length):Zc Yir 38 [.sl ((pps l).getD i []).length (pc ((pps l).getD i [])),.agg [.bool r.1,.sl r.2.length (lm r.2),.int .i64 (e:Nat)]] (.int .i64 (Zbm l (Ze r) e i)):=by
 rw[Mj hi];have hm:l.getD i []∈l:=by rw[List.getD_eq_getElem?_getD,List.getElem?_eq_getElem hi];exact List.getElem_mem hi
 obtain⟨h1,h2,h3⟩:=hl _ hm;have h:=Gr (rs:=(l.getD i []).map cn) (Ql h1) hr e (by
  rw[List.length_map];have h4:((l.getD i []).length+1)*(100+(e / 32+1)+1)<=10*230:=Nat.mul_le_mul (by omega) (by omega);omega) (by omega)
 rw[Qa] at h;exact h
theorem X9 (hN:l.length<=100):Zc Yir 52 [.sl (pps l).length (pp (pps l)),.agg [.bool r.1,.sl r.2.length (lm r.2),.int .i64 (e:Nat)]] (.int .i64 (Xc l (Ze r) e l.length).1):=by
 have hpl:=Ab l;have h:=Za.up (prog:=Yir) (c:=Zpz) (ex := .exit 0) (fin:=Za3 (pps l) r (e:Nat) (Xc l (Ze r) e l.length).1 (Xc l (Ze r) e l.length).2 (((pps l).length:Nat):Int) (l.length:Nat))
  (fun i=>Za3 (pps l) r (e:Nat) (Xc l (Ze r) e i).1 (Xc l (Ze r) e i).2 (((pps l).length:Nat):Int) (i:Nat)) l.length (by nofun) ?_ ?_ 0 (Nat.zero_le _)
 ·exact Yrun52 (pps l) r (e:Nat) _ _ _ h
 ·intro i hi;have ei:i64.wrap ((i:Int)+1)=((i+1:Nat):Int):=by rw[w64 (by omega) (by omega)];omega
  have hs:=at_run hl hr e he hi;have hb:=Gv l (Ze r) e i;have w1:i64.wrap ((Xc l (Ze r) e i).1+1)=(Xc l (Ze r) e i).1+1:=w64 (by omega) (by omega);have c1:decide ((i:Int)<(((pps l).length:Nat):Int))=true:=by rw[decide_eq_true_eq];omega
  simp only[Xc,Zbf];by_cases g1:Zbm l (Ze r) e i=0
  ·rw[if_neg (fun h=>h.1 g1),if_neg (fun h=>h g1)];have k:=Yk52_4 (pps l) r (e:Nat) (Xc l (Ze r) e i).1 (Xc l (Ze r) e i).2 (((pps l).length:Nat):Int) (i:Nat) (Zbm l (Ze r) e i) c1 (by rw[bne_eq_false_iff_eq];exact g1) (by omega) (by rw[Int.toNat_natCast];exact hs);rwa [ei] at k
  ·by_cases g2:(Xc l (Ze r) e i).2=0
   ·rw[if_neg (fun h=>h.2.1 g2),if_pos g1];have k:=Yk52_3 (pps l) r (e:Nat) (Xc l (Ze r) e i).1 (Xc l (Ze r) e i).2 (((pps l).length:Nat):Int) (i:Nat) (Zbm l (Ze r) e i) c1 (by rw[bne_iff_ne];exact g1) (by rw[bne_eq_false_iff_eq];exact g2) (by omega) (by rw[Int.toNat_natCast];exact hs);rwa [ei] at k
   ·by_cases g3:Zbm l (Ze r) e i=(Xc l (Ze r) e i).2
    ·rw[if_neg (fun h=>h.2.2 g3),if_pos g1];have k:=Yk52_2 (pps l) r (e:Nat) (Xc l (Ze r) e i).1 (Xc l (Ze r) e i).2 (((pps l).length:Nat):Int) (i:Nat) (Zbm l (Ze r) e i) c1 (by rw[bne_iff_ne];exact g1) (by rw[bne_iff_ne];exact g2) (by rw[bne_eq_false_iff_eq];exact g3) (by omega) (by rw[Int.toNat_natCast];exact hs);rwa [ei] at k
    ·rw[if_pos ⟨g1,g2,g3⟩,if_pos g1];have k:=Yk52_1 (pps l) r (e:Nat) (Xc l (Ze r) e i).1 (Xc l (Ze r) e i).2 (((pps l).length:Nat):Int) (i:Nat) (Zbm l (Ze r) e i) c1 (by rw[bne_iff_ne];exact g1) (by rw[bne_iff_ne];exact g2) (by rw[bne_iff_ne];exact g3) (by omega) (by rw[Int.toNat_natCast];exact hs);rwa [ei,w1] at k
 ·exact Yk52_5 (pps l) r _ _ _ _ _ (by rw[decide_eq_false_iff_not];omega)
end
def TZB:Jx:=TZA
theorem Zif:Qn Yir TZB:=Zig
end Go.Proofs.Ythdpfjffdipipaa

namespace Go.Proofs.Ythdpfjffdipipaa
open Go.IntKind (i64 u64 u32)
open Go.Ai
set_option maxRecDepth 100000
theorem Zlp (na nb m1 m2:Bool) (xs ys us vs:List Int) (d:Int) (c1:(m1)=true) (c2:(m2)=true) (n1:Zc Yir 75 [.agg [.bool na,.sl xs.length (lm xs)]] (.tup [.bool m1,.sl us.length (lm us)])) (n2:Zc Yir 75 [.agg [.bool nb,.sl ys.length (lm ys)]] (.tup [.bool m2,.sl vs.length (lm vs)])) (n3:Zc Yir 118 [.sl vs.length (lm vs),.sl us.length (lm us)] (.int .i64 d)):Zc Yir 87 [.agg [.bool na,.sl xs.length (lm xs)],.agg [.bool nb,.sl ys.length (lm ys)]] (.int .i64 d):=Zc.go (fn:=Zpx) Zk rfl 400 rfl [.r (.tup [.bool m1,.sl us.length (lm us)]),.r (.tup [.bool m2,.sl vs.length (lm vs)]),.b true,.b false,.b true,.b false,.b true,.r (.int .i64 d)] (ac n1 (ac n2 (ac c1 (ac (show (!m2)=false from (by rw [c2];rfl)) (ac c2 (ac (show (!m1)=false from (by rw [c1];rfl)) (ac c1 (ac n3 a0))))))))
theorem Zlo (na nb m1 m2:Bool) (xs ys us vs:List Int) (c1:(m1)=true) (c2:(m2)=false) (n1:Zc Yir 75 [.agg [.bool na,.sl xs.length (lm xs)]] (.tup [.bool m1,.sl us.length (lm us)])) (n2:Zc Yir 75 [.agg [.bool nb,.sl ys.length (lm ys)]] (.tup [.bool m2,.sl vs.length (lm vs)])):Zc Yir 87 [.agg [.bool na,.sl xs.length (lm xs)],.agg [.bool nb,.sl ys.length (lm ys)]] (.int .i64 (-1)):=Zc.go (fn:=Zpx) Zk rfl 400 rfl [.r (.tup [.bool m1,.sl us.length (lm us)]),.r (.tup [.bool m2,.sl vs.length (lm vs)]),.b true,.b true] (ac n1 (ac n2 (ac c1 (ac (show (!m2)=true from (by rw [c2];rfl)) a0))))
theorem Zln (na nb m1 m2:Bool) (xs ys us vs:List Int) (c1:(m1)=false) (c2:(m2)=true) (n1:Zc Yir 75 [.agg [.bool na,.sl xs.length (lm xs)]] (.tup [.bool m1,.sl us.length (lm us)])) (n2:Zc Yir 75 [.agg [.bool nb,.sl ys.length (lm ys)]] (.tup [.bool m2,.sl vs.length (lm vs)])):Zc Yir 87 [.agg [.bool na,.sl xs.length (lm xs)],.agg [.bool nb,.sl ys.length (lm ys)]] (.int .i64 1):=Zc.go (fn:=Zpx) Zk rfl 400 rfl [.r (.tup [.bool m1,.sl us.length (lm us)]),.r (.tup [.bool m2,.sl vs.length (lm vs)]),.b false,.b false,.b true,.b true] (ac n1 (ac n2 (ac c1 (ac (show false=false from rfl) (ac c2 (ac (show (!m1)=true from (by rw [c1];rfl)) a0))))))
theorem Zlm (na nb m1 m2:Bool) (xs ys us vs:List Int) (c:Int) (c1:(m1)=false) (c2:(m2)=false) (n1:Zc Yir 75 [.agg [.bool na,.sl xs.length (lm xs)]] (.tup [.bool m1,.sl us.length (lm us)])) (n2:Zc Yir 75 [.agg [.bool nb,.sl ys.length (lm ys)]] (.tup [.bool m2,.sl vs.length (lm vs)])) (n3:Zc Yir 118 [.sl us.length (lm us),.sl vs.length (lm vs)] (.int .i64 c)):Zc Yir 87 [.agg [.bool na,.sl xs.length (lm xs)],.agg [.bool nb,.sl ys.length (lm ys)]] (.int .i64 c):=Zc.go (fn:=Zpx) Zk rfl 400 rfl [.r (.tup [.bool m1,.sl us.length (lm us)]),.r (.tup [.bool m2,.sl vs.length (lm vs)]),.b false,.b false,.b false,.b false,.b false,.r (.int .i64 c)] (ac n1 (ac n2 (ac c1 (ac (show false=false from rfl) (ac c2 (ac (show false=false from rfl) (ac c1 (ac n3 a0))))))))
def Jc (m:Bool) (k:Int) (s:Int) (ms:List Int) (lost:Bool) (i:Int):Zg:=(dds 4 (.box [.bool false,.sl 0 []]::(.val (.bool m)::(.val (.sl ms.length (lm ms))::(.val (.int .i64 k)::(.val (.int .u64 s)::(.val (.bool lost)::(.val (.int .i64 i)::(dds 92 [])))))))))
theorem Znd (m:Bool) (k:Int) (s:Int) (ms:List Int) (lost:Bool) (i:Int)  (c1:(decide (i<k))=true) (c2:(decide (i<(ms.length:Int)))=true) (c3:(lost)=true):Za Yir Uq (Jc m k s ms lost i) .norm (Jc m k s ms true (i64.wrap (i+1))):=(Za.go Zk 400 [.b true,.b true,.b true] [4,5,6,7,8,9,10] (ac c1 (ac c2 (ac c3 a0))))
theorem Zba (m:Bool) (k:Int) (s:Int) (ms:List Int) (lost:Bool) (i:Int)  (c1:(decide (i<k))=true) (c2:(decide (i<(ms.length:Int)))=true) (c3:(lost)=false) (n1:0<=i/\i<(ms.length:Int)):Za Yir Uq (Jc m k s ms lost i) .norm (Jc m k s ms ((ms.getD (Int.toNat i) 0) != 0) (i64.wrap (i+1))):=(Za.go Zk 400 [.b true,.b true,.b false,.v (.int .u32 (ms.getD (Int.toNat i) 0))] [4,5,6,7,8,9,10] (ac c1 (ac c2 (ac c3 (ac n1 (ac (Qe n1) a0))))))
theorem Znc (m:Bool) (k:Int) (s:Int) (ms:List Int) (lost:Bool) (i:Int)  (c1:(decide (i<k))=true) (c2:(decide (i<(ms.length:Int)))=false):Za Yir Uq (Jc m k s ms lost i) (.exit 0) (Jc m k s ms lost i):=(Za.go Zk 400 [.b true,.b false] [4,5,6,7,8,9,10] (ac c1 (ac c2 a0)))
theorem La (m:Bool) (k:Int) (s:Int) (ms:List Int) (lost:Bool) (i:Int)  (c1:(decide (i<k))=false):Za Yir Uq (Jc m k s ms lost i) (.exit 0) (Jc m k s ms lost i):=(Za.go Zk 400 [.b false,.b false] [4,5,6,7,8,9,10] (ac c1 (ac (show false=false from rfl) a0)))
def Jn (m:Bool) (k:Int) (s:Int) (ms:List Int) (lost:Bool) (n:Nat) (cs:List AV) (i:Int):Zg:=(dds 4 (.box [.bool false,.sl 0 []]::(.val (.bool m)::(.val (.sl ms.length (lm ms))::(.val (.int .i64 k)::(.val (.int .u64 s)::(.val (.bool lost)::(dds 1 (.own 1 n cs::(.val (.int .i64 i)::(dds 90 [])))))))))))
theorem Za9 (m:Bool) (k:Int) (s:Int) (ms:List Int) (lost:Bool) (n:Nat) (cs:List AV) (i:Int)  (c1:(decide (i<(ms.length:Int)))=true) (c2:(decide ((i64.wrap (i+1))<(ms.length:Int)))=true) (n1:0<=i/\i<(ms.length:Int)) (n2:0<=(i64.wrap (i+1))/\(i64.wrap (i+1))<(ms.length:Int)) (n3:¬ s<0) (n4:n+1<=35184372088832):Za Yir Uv (Jn m k s ms lost n cs i) .norm (Jn m k s ms lost (n+1) (cs++([.int .u32 (u32.wrap (Int.fdiv (u64.wrap ((BitVec.ofInt (IntKind.bits .u64) (u64.wrap (ms.getD (Int.toNat i) 0)) ||| BitVec.ofInt (IntKind.bits .u64) (u64.wrap ((u64.wrap (ms.getD (Int.toNat (i64.wrap (i+1))) 0))*2^(min (Int.toNat 32) (IntKind.bits .u64))))).toNat)) (2^(min (Int.toNat s) (IntKind.bits .u64)))))]:List AV)) (i64.wrap (i+1))):=(Za.go Zk 400 [.b true,.v (.int .u32 (ms.getD (Int.toNat i) 0)),.b true,.v (.int .u32 (ms.getD (Int.toNat (i64.wrap (i+1))) 0))] [4,5,6,7,8,9,11,12] (ac c1 (ac n1 (ac (Qe n1) (ac c2 (ac n2 (ac (Qe n2) (ac (show ¬ (32:Int)<0 from (by decide)) (ac n3 (ac (show List.length ([.int .u32 (u32.wrap (Int.fdiv (u64.wrap ((BitVec.ofInt (IntKind.bits .u64) (u64.wrap (ms.getD (Int.toNat i) 0)) ||| BitVec.ofInt (IntKind.bits .u64) (u64.wrap ((u64.wrap (ms.getD (Int.toNat (i64.wrap (i+1))) 0))*2^(min (Int.toNat 32) (IntKind.bits .u64))))).toNat)) (2^(min (Int.toNat s) (IntKind.bits .u64)))))]:List AV)=1*1 from rfl) (ac n4 a0)))))))))))
theorem Za8 (m:Bool) (k:Int) (s:Int) (ms:List Int) (lost:Bool) (n:Nat) (cs:List AV) (i:Int)  (c1:(decide (i<(ms.length:Int)))=true) (c2:(decide ((i64.wrap (i+1))<(ms.length:Int)))=false) (n1:0<=i/\i<(ms.length:Int)) (n2:¬ s<0) (n3:n+1<=35184372088832):Za Yir Uv (Jn m k s ms lost n cs i) .norm (Jn m k s ms lost (n+1) (cs++([.int .u32 (u32.wrap (Int.fdiv (u64.wrap (ms.getD (Int.toNat i) 0)) (2^(min (Int.toNat s) (IntKind.bits .u64)))))]:List AV)) (i64.wrap (i+1))):=(Za.go Zk 400 [.b true,.v (.int .u32 (ms.getD (Int.toNat i) 0)),.b false] [4,5,6,7,8,9,11,12] (ac c1 (ac n1 (ac (Qe n1) (ac c2 (ac n2 (ac (show List.length ([.int .u32 (u32.wrap (Int.fdiv (u64.wrap (ms.getD (Int.toNat i) 0)) (2^(min (Int.toNat s) (IntKind.bits .u64)))))]:List AV)=1*1 from rfl) (ac n3 a0))))))))
theorem M9 (m:Bool) (k:Int) (s:Int) (ms:List Int) (lost:Bool) (n:Nat) (cs:List AV) (i:Int)  (c1:(decide (i<(ms.length:Int)))=false):Za Yir Uv (Jn m k s ms lost n cs i) (.exit 2) (Jn m k s ms lost n cs i):=(Za.go Zk 400 [.b false] [4,5,6,7,8,9,11,12] (ac c1 a0))
theorem Zg1 (neg m lost:Bool) (xs ms os ts zs:List Int) (sh i1 i2 v:Int) (c1:(decide ((i64.wrap (Int.tdiv sh 32))<(ms.length:Int)))=true) (c2:((u32.wrap ((BitVec.ofInt (IntKind.bits .u32) (ms.getD (Int.toNat (i64.wrap (Int.tdiv sh 32))) 0) &&& BitVec.ofInt (IntKind.bits .u32) (u32.wrap ((u32.wrap (1*2^(min (Int.toNat (u64.wrap (Int.tmod sh 32))) (IntKind.bits .u32))))-1))).toNat)) != 0)=true) (c3:(m)=true) (n1:Zc Yir 75 [.agg [.bool neg,.sl xs.length (lm xs)]] (.tup [.bool m,.sl ms.length (lm ms)])) (hl2:Za Yir (.loop Uq) (Jc m (i64.wrap (Int.tdiv sh 32)) (u64.wrap (Int.tmod sh 32)) ms false 0) (.exit 0) (Jc m (i64.wrap (Int.tdiv sh 32)) (u64.wrap (Int.tmod sh 32)) ms lost i1)) (hl3:Za Yir (.loop Uv) (Jn m (i64.wrap (Int.tdiv sh 32)) (u64.wrap (Int.tmod sh 32)) ms lost 0 ([]:List AV) (i64.wrap (Int.tdiv sh 32))) (.exit 2) (Jn m (i64.wrap (Int.tdiv sh 32)) (u64.wrap (Int.tmod sh 32)) ms lost os.length (lm os) i2)) (n4:0<=(i64.wrap (Int.tdiv sh 32))/\(i64.wrap (Int.tdiv sh 32))<(ms.length:Int)) (n5:¬ (u64.wrap (Int.tmod sh 32))<0) (n6:Zc Yir 143 [.sl os.length (lm os)] (.sl ts.length (lm ts))) (n7:Zc Yir 134 [.sl ts.length (lm ts),.sl 1 [.int .u32 1]] (.fresh 1 zs.length (lm zs))) (n8:Zc Yir 113 [.bool true,.sl zs.length (lm zs)] (Zi v)):Zc Yir 125 [.agg [.bool neg,.sl xs.length (lm xs)],.int .i64 sh] (Zi v):=Zc.of_bodyW (fn:=Ek) (s:=(dds 4 (.box [.bool (decide (v<0)),.sl ((Zb (Int.natAbs v)).length) (lm (Zb (Int.natAbs v)))]::(dds 98 [])))) (ex := .ret) rfl rfl (Za.asc (Za.asc (Za.asc (Za.csi (Za.seq (Za.go Zk 400 [.r (.tup [.bool m,.sl ms.length (lm ms)])] [4,5,6,7,8,9,10] (ac n1 (ac (show ¬ (32:Int)=0 from (by decide)) (ac (show ¬ (32:Int)=0 from (by decide)) a0)))) (Za.seq (Za.block hl2) (Za.csi (Za.seq (Za.go Zk 400 [] [4,5,6,7,8,9,11,12] a0) (Za.seq (Za.block hl3) (Za.go Zk 400 [.b true,.v (.int .u32 (ms.getD (Int.toNat (i64.wrap (Int.tdiv sh 32))) 0)),.b true,.b true,.b true,.r (.sl ts.length (lm ts)),.r (.fresh 1 zs.length (lm zs)),.r (Zi v)] [4] (ac c1 (ac n4 (ac (Qe n4) (ac n5 (ac c2 (ac c3 (ac (show true=true from rfl) (ac n6 (ac n7 (ac n8 a0)))))))))))))))))))) (by nofun) rfl
theorem Zg0 (neg m lost:Bool) (xs ms os:List Int) (sh i1 i2 u:Int) (c1:(decide ((i64.wrap (Int.tdiv sh 32))<(ms.length:Int)))=true) (c2:((u32.wrap ((BitVec.ofInt (IntKind.bits .u32) (ms.getD (Int.toNat (i64.wrap (Int.tdiv sh 32))) 0) &&& BitVec.ofInt (IntKind.bits .u32) (u32.wrap ((u32.wrap (1*2^(min (Int.toNat (u64.wrap (Int.tmod sh 32))) (IntKind.bits .u32))))-1))).toNat)) != 0)=true) (c3:(m)=false) (n1:Zc Yir 75 [.agg [.bool neg,.sl xs.length (lm xs)]] (.tup [.bool m,.sl ms.length (lm ms)])) (hl2:Za Yir (.loop Uq) (Jc m (i64.wrap (Int.tdiv sh 32)) (u64.wrap (Int.tmod sh 32)) ms false 0) (.exit 0) (Jc m (i64.wrap (Int.tdiv sh 32)) (u64.wrap (Int.tmod sh 32)) ms lost i1)) (hl3:Za Yir (.loop Uv) (Jn m (i64.wrap (Int.tdiv sh 32)) (u64.wrap (Int.tmod sh 32)) ms lost 0 ([]:List AV) (i64.wrap (Int.tdiv sh 32))) (.exit 2) (Jn m (i64.wrap (Int.tdiv sh 32)) (u64.wrap (Int.tmod sh 32)) ms lost os.length (lm os) i2)) (n4:0<=(i64.wrap (Int.tdiv sh 32))/\(i64.wrap (Int.tdiv sh 32))<(ms.length:Int)) (n5:¬ (u64.wrap (Int.tmod sh 32))<0) (n6:Zc Yir 113 [.bool m,.sl os.length (lm os)] (Zi u)):Zc Yir 125 [.agg [.bool neg,.sl xs.length (lm xs)],.int .i64 sh] (Zi u):=Zc.of_bodyW (fn:=Ek) (s:=(dds 4 (.box [.bool (decide (u<0)),.sl ((Zb (Int.natAbs u)).length) (lm (Zb (Int.natAbs u)))]::(dds 98 [])))) (ex := .ret) rfl rfl (Za.asc (Za.asc (Za.asc (Za.csi (Za.seq (Za.go Zk 400 [.r (.tup [.bool m,.sl ms.length (lm ms)])] [4,5,6,7,8,9,10] (ac n1 (ac (show ¬ (32:Int)=0 from (by decide)) (ac (show ¬ (32:Int)=0 from (by decide)) a0)))) (Za.seq (Za.block hl2) (Za.csi (Za.seq (Za.go Zk 400 [] [4,5,6,7,8,9,11,12] a0) (Za.seq (Za.block hl3) (Za.go Zk 400 [.b true,.v (.int .u32 (ms.getD (Int.toNat (i64.wrap (Int.tdiv sh 32))) 0)),.b true,.b false,.b false,.r (Zi u)] [4] (ac c1 (ac n4 (ac (Qe n4) (ac n5 (ac c2 (ac c3 (ac (show false=false from rfl) (ac n6 a0)))))))))))))))))) (by nofun) rfl
theorem Zgz (neg m lost:Bool) (xs ms os ts zs:List Int) (sh i1 i2 v:Int) (c1:(decide ((i64.wrap (Int.tdiv sh 32))<(ms.length:Int)))=true) (c2:((u32.wrap ((BitVec.ofInt (IntKind.bits .u32) (ms.getD (Int.toNat (i64.wrap (Int.tdiv sh 32))) 0) &&& BitVec.ofInt (IntKind.bits .u32) (u32.wrap ((u32.wrap (1*2^(min (Int.toNat (u64.wrap (Int.tmod sh 32))) (IntKind.bits .u32))))-1))).toNat)) != 0)=false) (c3:(m)=true) (c4:(lost)=true) (n1:Zc Yir 75 [.agg [.bool neg,.sl xs.length (lm xs)]] (.tup [.bool m,.sl ms.length (lm ms)])) (hl2:Za Yir (.loop Uq) (Jc m (i64.wrap (Int.tdiv sh 32)) (u64.wrap (Int.tmod sh 32)) ms false 0) (.exit 0) (Jc m (i64.wrap (Int.tdiv sh 32)) (u64.wrap (Int.tmod sh 32)) ms lost i1)) (hl3:Za Yir (.loop Uv) (Jn m (i64.wrap (Int.tdiv sh 32)) (u64.wrap (Int.tmod sh 32)) ms lost 0 ([]:List AV) (i64.wrap (Int.tdiv sh 32))) (.exit 2) (Jn m (i64.wrap (Int.tdiv sh 32)) (u64.wrap (Int.tmod sh 32)) ms lost os.length (lm os) i2)) (n4:0<=(i64.wrap (Int.tdiv sh 32))/\(i64.wrap (Int.tdiv sh 32))<(ms.length:Int)) (n5:¬ (u64.wrap (Int.tmod sh 32))<0) (n6:Zc Yir 143 [.sl os.length (lm os)] (.sl ts.length (lm ts))) (n7:Zc Yir 134 [.sl ts.length (lm ts),.sl 1 [.int .u32 1]] (.fresh 1 zs.length (lm zs))) (n8:Zc Yir 113 [.bool true,.sl zs.length (lm zs)] (Zi v)):Zc Yir 125 [.agg [.bool neg,.sl xs.length (lm xs)],.int .i64 sh] (Zi v):=Zc.of_bodyW (fn:=Ek) (s:=(dds 4 (.box [.bool (decide (v<0)),.sl ((Zb (Int.natAbs v)).length) (lm (Zb (Int.natAbs v)))]::(dds 98 [])))) (ex := .ret) rfl rfl (Za.asc (Za.asc (Za.asc (Za.csi (Za.seq (Za.go Zk 400 [.r (.tup [.bool m,.sl ms.length (lm ms)])] [4,5,6,7,8,9,10] (ac n1 (ac (show ¬ (32:Int)=0 from (by decide)) (ac (show ¬ (32:Int)=0 from (by decide)) a0)))) (Za.seq (Za.block hl2) (Za.csi (Za.seq (Za.go Zk 400 [] [4,5,6,7,8,9,11,12] a0) (Za.seq (Za.block hl3) (Za.go Zk 400 [.b true,.v (.int .u32 (ms.getD (Int.toNat (i64.wrap (Int.tdiv sh 32))) 0)),.b false,.b true,.b true,.r (.sl ts.length (lm ts)),.r (.fresh 1 zs.length (lm zs)),.r (Zi v)] [4] (ac c1 (ac n4 (ac (Qe n4) (ac n5 (ac c2 (ac c3 (ac c4 (ac n6 (ac n7 (ac n8 a0)))))))))))))))))))) (by nofun) rfl
theorem P6 (neg m lost:Bool) (xs ms os:List Int) (sh i1 i2 u:Int) (c1:(decide ((i64.wrap (Int.tdiv sh 32))<(ms.length:Int)))=true) (c2:((u32.wrap ((BitVec.ofInt (IntKind.bits .u32) (ms.getD (Int.toNat (i64.wrap (Int.tdiv sh 32))) 0) &&& BitVec.ofInt (IntKind.bits .u32) (u32.wrap ((u32.wrap (1*2^(min (Int.toNat (u64.wrap (Int.tmod sh 32))) (IntKind.bits .u32))))-1))).toNat)) != 0)=false) (c3:(m)=true) (c4:(lost)=false) (n1:Zc Yir 75 [.agg [.bool neg,.sl xs.length (lm xs)]] (.tup [.bool m,.sl ms.length (lm ms)])) (hl2:Za Yir (.loop Uq) (Jc m (i64.wrap (Int.tdiv sh 32)) (u64.wrap (Int.tmod sh 32)) ms false 0) (.exit 0) (Jc m (i64.wrap (Int.tdiv sh 32)) (u64.wrap (Int.tmod sh 32)) ms lost i1)) (hl3:Za Yir (.loop Uv) (Jn m (i64.wrap (Int.tdiv sh 32)) (u64.wrap (Int.tmod sh 32)) ms lost 0 ([]:List AV) (i64.wrap (Int.tdiv sh 32))) (.exit 2) (Jn m (i64.wrap (Int.tdiv sh 32)) (u64.wrap (Int.tmod sh 32)) ms lost os.length (lm os) i2)) (n4:0<=(i64.wrap (Int.tdiv sh 32))/\(i64.wrap (Int.tdiv sh 32))<(ms.length:Int)) (n5:¬ (u64.wrap (Int.tmod sh 32))<0) (n6:Zc Yir 113 [.bool m,.sl os.length (lm os)] (Zi u)):Zc Yir 125 [.agg [.bool neg,.sl xs.length (lm xs)],.int .i64 sh] (Zi u):=Zc.of_bodyW (fn:=Ek) (s:=(dds 4 (.box [.bool (decide (u<0)),.sl ((Zb (Int.natAbs u)).length) (lm (Zb (Int.natAbs u)))]::(dds 98 [])))) (ex := .ret) rfl rfl (Za.asc (Za.asc (Za.asc (Za.csi (Za.seq (Za.go Zk 400 [.r (.tup [.bool m,.sl ms.length (lm ms)])] [4,5,6,7,8,9,10] (ac n1 (ac (show ¬ (32:Int)=0 from (by decide)) (ac (show ¬ (32:Int)=0 from (by decide)) a0)))) (Za.seq (Za.block hl2) (Za.csi (Za.seq (Za.go Zk 400 [] [4,5,6,7,8,9,11,12] a0) (Za.seq (Za.block hl3) (Za.go Zk 400 [.b true,.v (.int .u32 (ms.getD (Int.toNat (i64.wrap (Int.tdiv sh 32))) 0)),.b false,.b true,.b false,.r (Zi u)] [4] (ac c1 (ac n4 (ac (Qe n4) (ac n5 (ac c2 (ac c3 (ac c4 (ac n6 a0)))))))))))))))))) (by nofun) rfl
theorem P5 (neg m lost:Bool) (xs ms os:List Int) (sh i1 i2 u:Int) (c1:(decide ((i64.wrap (Int.tdiv sh 32))<(ms.length:Int)))=true) (c2:((u32.wrap ((BitVec.ofInt (IntKind.bits .u32) (ms.getD (Int.toNat (i64.wrap (Int.tdiv sh 32))) 0) &&& BitVec.ofInt (IntKind.bits .u32) (u32.wrap ((u32.wrap (1*2^(min (Int.toNat (u64.wrap (Int.tmod sh 32))) (IntKind.bits .u32))))-1))).toNat)) != 0)=false) (c3:(m)=false) (n1:Zc Yir 75 [.agg [.bool neg,.sl xs.length (lm xs)]] (.tup [.bool m,.sl ms.length (lm ms)])) (hl2:Za Yir (.loop Uq) (Jc m (i64.wrap (Int.tdiv sh 32)) (u64.wrap (Int.tmod sh 32)) ms false 0) (.exit 0) (Jc m (i64.wrap (Int.tdiv sh 32)) (u64.wrap (Int.tmod sh 32)) ms lost i1)) (hl3:Za Yir (.loop Uv) (Jn m (i64.wrap (Int.tdiv sh 32)) (u64.wrap (Int.tmod sh 32)) ms lost 0 ([]:List AV) (i64.wrap (Int.tdiv sh 32))) (.exit 2) (Jn m (i64.wrap (Int.tdiv sh 32)) (u64.wrap (Int.tmod sh 32)) ms lost os.length (lm os) i2)) (n4:0<=(i64.wrap (Int.tdiv sh 32))/\(i64.wrap (Int.tdiv sh 32))<(ms.length:Int)) (n5:¬ (u64.wrap (Int.tmod sh 32))<0) (n6:Zc Yir 113 [.bool m,.sl os.length (lm os)] (Zi u)):Zc Yir 125 [.agg [.bool neg,.sl xs.length (lm xs)],.int .i64 sh] (Zi u):=Zc.of_bodyW (fn:=Ek) (s:=(dds 4 (.box [.bool (decide (u<0)),.sl ((Zb (Int.natAbs u)).length) (lm (Zb (Int.natAbs u)))]::(dds 98 [])))) (ex := .ret) rfl rfl (Za.asc (Za.asc (Za.asc (Za.csi (Za.seq (Za.go Zk 400 [.r (.tup [.bool m,.sl ms.length (lm ms)])] [4,5,6,7,8,9,10] (ac n1 (ac (show ¬ (32:Int)=0 from (by decide)) (ac (show ¬ (32:Int)=0 from (by decide)) a0)))) (Za.seq (Za.block hl2) (Za.csi (Za.seq (Za.go Zk 400 [] [4,5,6,7,8,9,11,12] a0) (Za.seq (Za.block hl3) (Za.go Zk 400 [.b true,.v (.int .u32 (ms.getD (Int.toNat (i64.wrap (Int.tdiv sh 32))) 0)),.b false,.b false,.b false,.r (Zi u)] [4] (ac c1 (ac n4 (ac (Qe n4) (ac n5 (ac c2 (ac c3 (ac (show false=false from rfl) (ac n6 a0)))))))))))))))))) (by nofun) rfl
theorem Zgy (neg m lost:Bool) (xs ms os ts zs:List Int) (sh i1 i2 v:Int) (c1:(decide ((i64.wrap (Int.tdiv sh 32))<(ms.length:Int)))=false) (c2:(m)=true) (c3:(lost)=true) (n1:Zc Yir 75 [.agg [.bool neg,.sl xs.length (lm xs)]] (.tup [.bool m,.sl ms.length (lm ms)])) (hl2:Za Yir (.loop Uq) (Jc m (i64.wrap (Int.tdiv sh 32)) (u64.wrap (Int.tmod sh 32)) ms false 0) (.exit 0) (Jc m (i64.wrap (Int.tdiv sh 32)) (u64.wrap (Int.tmod sh 32)) ms lost i1)) (hl3:Za Yir (.loop Uv) (Jn m (i64.wrap (Int.tdiv sh 32)) (u64.wrap (Int.tmod sh 32)) ms lost 0 ([]:List AV) (i64.wrap (Int.tdiv sh 32))) (.exit 2) (Jn m (i64.wrap (Int.tdiv sh 32)) (u64.wrap (Int.tmod sh 32)) ms lost os.length (lm os) i2)) (n4:Zc Yir 143 [.sl os.length (lm os)] (.sl ts.length (lm ts))) (n5:Zc Yir 134 [.sl ts.length (lm ts),.sl 1 [.int .u32 1]] (.fresh 1 zs.length (lm zs))) (n6:Zc Yir 113 [.bool true,.sl zs.length (lm zs)] (Zi v)):Zc Yir 125 [.agg [.bool neg,.sl xs.length (lm xs)],.int .i64 sh] (Zi v):=Zc.of_bodyW (fn:=Ek) (s:=(dds 4 (.box [.bool (decide (v<0)),.sl ((Zb (Int.natAbs v)).length) (lm (Zb (Int.natAbs v)))]::(dds 98 [])))) (ex := .ret) rfl rfl (Za.asc (Za.asc (Za.asc (Za.csi (Za.seq (Za.go Zk 400 [.r (.tup [.bool m,.sl ms.length (lm ms)])] [4,5,6,7,8,9,10] (ac n1 (ac (show ¬ (32:Int)=0 from (by decide)) (ac (show ¬ (32:Int)=0 from (by decide)) a0)))) (Za.seq (Za.block hl2) (Za.csi (Za.seq (Za.go Zk 400 [] [4,5,6,7,8,9,11,12] a0) (Za.seq (Za.block hl3) (Za.go Zk 400 [.b false,.b false,.b true,.b true,.r (.sl ts.length (lm ts)),.r (.fresh 1 zs.length (lm zs)),.r (Zi v)] [4] (ac c1 (ac (show false=false from rfl) (ac c2 (ac c3 (ac n4 (ac n5 (ac n6 a0))))))))))))))))) (by nofun) rfl
theorem Zgx (neg m lost:Bool) (xs ms os:List Int) (sh i1 i2 u:Int) (c1:(decide ((i64.wrap (Int.tdiv sh 32))<(ms.length:Int)))=false) (c2:(m)=false) (n1:Zc Yir 75 [.agg [.bool neg,.sl xs.length (lm xs)]] (.tup [.bool m,.sl ms.length (lm ms)])) (hl2:Za Yir (.loop Uq) (Jc m (i64.wrap (Int.tdiv sh 32)) (u64.wrap (Int.tmod sh 32)) ms false 0) (.exit 0) (Jc m (i64.wrap (Int.tdiv sh 32)) (u64.wrap (Int.tmod sh 32)) ms lost i1)) (hl3:Za Yir (.loop Uv) (Jn m (i64.wrap (Int.tdiv sh 32)) (u64.wrap (Int.tmod sh 32)) ms lost 0 ([]:List AV) (i64.wrap (Int.tdiv sh 32))) (.exit 2) (Jn m (i64.wrap (Int.tdiv sh 32)) (u64.wrap (Int.tmod sh 32)) ms lost os.length (lm os) i2)) (n4:Zc Yir 113 [.bool m,.sl os.length (lm os)] (Zi u)):Zc Yir 125 [.agg [.bool neg,.sl xs.length (lm xs)],.int .i64 sh] (Zi u):=Zc.of_bodyW (fn:=Ek) (s:=(dds 4 (.box [.bool (decide (u<0)),.sl ((Zb (Int.natAbs u)).length) (lm (Zb (Int.natAbs u)))]::(dds 98 [])))) (ex := .ret) rfl rfl (Za.asc (Za.asc (Za.asc (Za.csi (Za.seq (Za.go Zk 400 [.r (.tup [.bool m,.sl ms.length (lm ms)])] [4,5,6,7,8,9,10] (ac n1 (ac (show ¬ (32:Int)=0 from (by decide)) (ac (show ¬ (32:Int)=0 from (by decide)) a0)))) (Za.seq (Za.block hl2) (Za.csi (Za.seq (Za.go Zk 400 [] [4,5,6,7,8,9,11,12] a0) (Za.seq (Za.block hl3) (Za.go Zk 400 [.b false,.b false,.b false,.b false,.r (Zi u)] [4] (ac c1 (ac (show false=false from rfl) (ac c2 (ac (show false=false from rfl) (ac n4 a0))))))))))))))) (by nofun) rfl
theorem Yrun50 (r t:Rn) (e f X Y c:Int) (n1:Zc Yir 79 [Z4 r,.int .i64 (i64.wrap ((if f>e then f else e)-e))] (Zi X)) (n2:Zc Yir 79 [Z4 t,.int .i64 (i64.wrap ((if f>e then f else e)-f))] (Zi Y)) (n3:Zc Yir 87 [Zi X,Zi Y] (.int .i64 c)):Zc Yir 50 [.agg [.bool r.1,.sl r.2.length (lm r.2),.int .i64 e],.agg [.bool t.1,.sl t.2.length (lm t.2),.int .i64 f]] (.int .i64 c):=Zc.go (fn:=Yi50) Zk rfl 400 rfl [.r (Zi X),.r (Zi Y),.r (.int .i64 c)] (ac n1 (ac n2 (ac n3 a0)))
def Ziw (n:Rn) (e:Int) (z:Int):Zg:=(dds 1 (.val (.int .i64 e)::(.box [.bool n.1,.sl n.2.length (lm n.2)]::(dds 1 (.box [.bool false,.sl 0 [],.int .i64 0]::(.val (.int .i64 z)::(dds 33 [])))))))
theorem Yk91_1 (n:Rn) (e:Int) (z:Int)  (c1:(decide (z<e))=true) (c2:((u32.wrap ((BitVec.ofInt (IntKind.bits .u32) (Int.fdiv (n.2.getD (Int.toNat (i64.wrap (Int.tdiv z 32))) 0) (2^(min (Int.toNat (u64.wrap (Int.tmod z 32))) (IntKind.bits .u32)))) &&& BitVec.ofInt (IntKind.bits .u32) 1).toNat))==0)=true) (n1:0<=(i64.wrap (Int.tdiv z 32))/\(i64.wrap (Int.tdiv z 32))<(n.2.length:Int)) (n2:¬ (u64.wrap (Int.tmod z 32))<0):Za Yir Zwp (Ziw n e z) .norm (Ziw n e (i64.wrap (z+1))):=(Za.go Zk 400 [.b true,.v (.int .u32 (n.2.getD (Int.toNat (i64.wrap (Int.tdiv z 32))) 0)),.b true] [1,2,4,5] (ac c1 (ac (show ¬ (32:Int)=0 from (by decide)) (ac n1 (ac (Qe n1) (ac (show ¬ (32:Int)=0 from (by decide)) (ac n2 (ac c2 a0))))))))
theorem Yk91_2 (n:Rn) (e:Int) (z:Int)  (c1:(decide (z<e))=true) (c2:((u32.wrap ((BitVec.ofInt (IntKind.bits .u32) (Int.fdiv (n.2.getD (Int.toNat (i64.wrap (Int.tdiv z 32))) 0) (2^(min (Int.toNat (u64.wrap (Int.tmod z 32))) (IntKind.bits .u32)))) &&& BitVec.ofInt (IntKind.bits .u32) 1).toNat))==0)=false) (n1:0<=(i64.wrap (Int.tdiv z 32))/\(i64.wrap (Int.tdiv z 32))<(n.2.length:Int)) (n2:¬ (u64.wrap (Int.tmod z 32))<0):Za Yir Zwp (Ziw n e z) (.exit 0) (Ziw n e z):=(Za.go Zk 400 [.b true,.v (.int .u32 (n.2.getD (Int.toNat (i64.wrap (Int.tdiv z 32))) 0)),.b false] [1,2,4,5] (ac c1 (ac (show ¬ (32:Int)=0 from (by decide)) (ac n1 (ac (Qe n1) (ac (show ¬ (32:Int)=0 from (by decide)) (ac n2 (ac c2 a0))))))))
theorem Yk91_3 (n:Rn) (e:Int) (z:Int)  (c1:(decide (z<e))=false):Za Yir Zwp (Ziw n e z) (.exit 0) (Ziw n e z):=(Za.go Zk 400 [.b false,.b false] [1,2,4,5] (ac c1 (ac (show false=false from rfl) a0)))
theorem Zll (r:Rn) (e n:Int) (c1:((((Zb (Int.natAbs n)).length:Nat):Int)==0)=true) (n1:Zc Yir 124 [Z4 r] (Zi n)):Zc Yir 91 [Z4 r,.int .i64 e] (.agg [.bool false,.sl 0 [],.int .i64 0]):=Zc.of_bodyW (fn:=Zwe) (s:=(dds 4 (.box [.bool false,.sl 0 [],.int .i64 0]::(dds 34 [])))) (ex := .ret) rfl rfl (Za.asc (Za.asc (Za.asc (Za.seq_out (Za.go Zk 400 [.r (Zi n),.b true] [4] (ac n1 (ac c1 a0))) (by nofun))))) (by nofun) rfl
theorem Zlk (r:Rn) (e n z u:Int) (c1:((((Zb (Int.natAbs n)).length:Nat):Int)==0)=false) (n1:Zc Yir 124 [Z4 r] (Zi n)) (hl2:Za Yir (.loop Zwp) (Ziw (cn n) e 0) (.exit 0) (Ziw (cn n) e z)) (n3:Zc Yir 125 [Z4 (cn n),.int .i64 z] (Zi u)):Zc Yir 91 [Z4 r,.int .i64 e] (.agg [.bool (decide (u<0)),.sl ((Zb (Int.natAbs u)).length) (lm (Zb (Int.natAbs u))),.int .i64 (i64.wrap (e-z))]):=Zc.of_bodyW (fn:=Zwe) (s:=(dds 4 (.box [.bool (decide (u<0)),.sl ((Zb (Int.natAbs u)).length) (lm (Zb (Int.natAbs u))),.int .i64 (i64.wrap (e-z))]::(dds 34 [])))) (ex := .ret) rfl rfl (Za.asc (Za.asc (Za.asc (Za.seq (Za.go Zk 400 [.r (Zi n),.b false] [1,2,4,5] (ac n1 (ac c1 a0))) (Za.seq (Za.block hl2) (Za.go Zk 400 [.r (Zi u)] [4] (ac n3 a0))))))) (by nofun) rfl
theorem Yrun56 (r t:Rn) (e f X Y Z n m:Int) (n1:Zc Yir 79 [Z4 r,.int .i64 (i64.wrap ((if f>e then f else e)-e))] (Zi X)) (n2:Zc Yir 79 [Z4 t,.int .i64 (i64.wrap ((if f>e then f else e)-f))] (Zi Y)) (n3:Zc Yir 77 [Zi X,Zi Y] (Zi Z)) (n4:Zc Yir 91 [Zi Z,.int .i64 (i64.wrap ((if f>e then f else e)+1))] (.agg [.bool (decide (n<0)),.sl ((Zb (Int.natAbs n)).length) (lm (Zb (Int.natAbs n))),.int .i64 m])):Zc Yir 56 [.agg [.bool r.1,.sl r.2.length (lm r.2),.int .i64 e],.agg [.bool t.1,.sl t.2.length (lm t.2),.int .i64 f]] (.agg [.bool (decide (n<0)),.sl ((Zb (Int.natAbs n)).length) (lm (Zb (Int.natAbs n))),.int .i64 m]):=Zc.go (fn:=Yi56) Zk rfl 400 rfl [.r (Zi X),.r (Zi Y),.r (Zi Z),.r (.agg [.bool (decide (n<0)),.sl ((Zb (Int.natAbs n)).length) (lm (Zb (Int.natAbs n))),.int .i64 m])] (ac n1 (ac n2 (ac n3 (ac n4 a0))))
end Go.Proofs.Ythdpfjffdipipaa

namespace Go.Proofs.Ythdpfjffdipipaa
open Go.IntKind (i64 u64 u32)
open Go.Ai
set_option maxRecDepth 100000
theorem Zgc (a b:Int) : -1<=U6 a b/\U6 a b<=1:=by unfold U6;grind
theorem Zi3 {na nb:Bool} {xs ys:List Int} (hx:U32 xs) (hy:U32 ys) (h1:xs.length<=1048576) (h2:ys.length<=1048576):Zc Yir 87 [.agg [.bool na,.sl xs.length (lm xs)],.agg [.bool nb,.sl ys.length (lm ys)]] (.int .i64 (U6 (rv na xs) (rv nb ys))):=by
 have s1:=Qv (neg:=na) hx h1;have s2:=Qv (neg:=nb) hy h2;have l1:=Vl (neg:=na) hx;have l2:=Vl (neg:=nb) hy;have k1:=V6 (Qq (rv na xs).natAbs) (Qq (rv nb ys).natAbs) (by omega);have k2:=V6 (Qq (rv nb ys).natAbs) (Qq (rv na xs).natAbs) (by omega);rw[Jg,Jg] at k1 k2;by_cases c1:rv na xs<0
 ·by_cases c2:rv nb ys<0
  ·have e:U6 (rv na xs) (rv nb ys)=U6 ((rv nb ys).natAbs:Int) ((rv na xs).natAbs:Int):=by unfold U6;grind
   rw[e];exact Zlp na nb _ _ xs ys _ _ _ (decide_eq_true c1) (decide_eq_true c2) s1 s2 k2
  ·have e:U6 (rv na xs) (rv nb ys) = -1:=by unfold U6;grind
   rw[e];exact Zlo na nb _ _ xs ys _ _ (decide_eq_true c1) (decide_eq_false c2) s1 s2
 ·by_cases c2:rv nb ys<0
  ·have e:U6 (rv na xs) (rv nb ys)=1:=by unfold U6;grind
   rw[e];exact Zln na nb _ _ xs ys _ _ (decide_eq_false c1) (decide_eq_true c2) s1 s2
  ·have e:U6 (rv na xs) (rv nb ys)=U6 ((rv na xs).natAbs:Int) ((rv nb ys).natAbs:Int):=by unfold U6;grind
   rw[e];exact Zlm na nb _ _ xs ys _ _ _ (decide_eq_false c1) (decide_eq_false c2) s1 s2 k1
theorem Zbh {ms:List Int} (hu:U32 ms):∀ k,k<=ms.length->Zn (ms.take k)=0->∀ i,i<k->ms.getD i 0=0:=by
 intro k;induction k with
 | zero=>intro _ _ i hi;omega
 | succ k ih =>
  intro hk hv i hi;have ht:=Jt ms k (by omega);have hp:=Qu k;have hm:=Zx hu k;have h1:=(N6 (Xe hu k) (Int.mul_nonneg (Int.le_of_lt hp) hm.1)).1 (by rw[<- ht];exact hv);rcases Nat.lt_or_ge i k with g | g
  ·exact ih (by omega) h1.1 i g
  ·have:i=k:=by omega
   subst this;rcases Int.mul_eq_zero.1 h1.2 with z | z
   ·omega
   ·exact z
theorem shr_a {m:Bool} {ms:List Int} {s:Int} {k:Nat} (hk:k<=ms.length) (hN:ms.length<=1048576) (hz:∀ i,i<k->ms.getD i 0=0) :
  Za Yir (.loop Uq) (Jc m (k:Nat) s ms false 0) (.exit 0) (Jc m (k:Nat) s ms false (k:Nat)):=by
 have h:=Za.up (prog:=Yir) (c:=Uq) (ex := .exit 0) (fin:=Jc m (k:Nat) s ms false (k:Nat)) (fun i=>Jc m (k:Nat) s ms false (i:Nat)) k (by nofun) ?_ ?_ 0 (Nat.zero_le _)
 ·exact h
 ·intro i hi;have ei:i64.wrap ((i:Int)+1)=((i+1:Nat):Int):=by rw[w64 (by omega) (by omega)];omega
  have k1:=Zba m (k:Nat) s ms false (i:Nat) (by simp;omega) (by simp;omega) rfl (by omega);rw[ei,Int.toNat_natCast,hz i hi] at k1;exact k1
 ·exact La m _ s ms false _ (by simp)
theorem shr_b {m:Bool} {ms:List Int} {kk:Int} {s k:Nat} (hu:U32 ms) (hs:s<32) (hN:ms.length<=1048576) (hk:k<=ms.length):∀ (r i:Nat),i+r=ms.length-k ->
  Za Yir (.loop Uv) (Jn m kk (s:Nat) ms false i (lm ((List.range i).map (Vi (ms.drop k) s))) ((k+i:Nat):Int)) (.exit 2) (Jn m kk (s:Nat) ms false (ms.length-k) (lm ((List.range (ms.length-k)).map (Vi (ms.drop k) s))) (ms.length:Nat)):=by
 intro r;induction r with
 | zero =>
  intro i hi;have hi':i=ms.length-k:=by omega
  subst hi';have e0:((k+(ms.length-k):Nat):Int)=(ms.length:Nat):=by omega
  rw[e0];exact Za.loop_out (M9 m kk _ ms false _ _ _ (by simp)) (by nofun)
 | succ r ih =>
  intro i hi;have ei:i64.wrap (((k+i:Nat):Int)+1)=((k+(i+1):Nat):Int):=by rw[w64 (by omega) (by omega)];omega
  have hx:=Zx hu (k+i);have hy:=Zx hu (k+i+1);have gx:(ms.drop k).getD i 0=ms.getD (k+i) 0:=by simp[List.getD_eq_getElem?_getD,List.getElem?_drop]
  have gy:(ms.drop k).getD (i+1) 0=ms.getD (k+i+1) 0:=by simp[List.getD_eq_getElem?_getD,List.getElem?_drop,Nat.add_assoc]
  have em:min (Int.toNat (s:Int)) (IntKind.bits .u64)=s:=by rw[Int.toNat_natCast];show min s 64=s;omega
  have hR:Vi (ms.drop k) s i=(ms.getD (k+i+1) 0*4294967296+ms.getD (k+i) 0) / 2^s % 4294967296:=by
   rw[Zdw hx hs];unfold Vi;rw[gx,gy]
  have hstep:Za Yir Uv (Jn m kk (s:Nat) ms false i (lm ((List.range i).map (Vi (ms.drop k) s))) ((k+i:Nat):Int)) .norm (Jn m kk (s:Nat) ms false (i+1) (lm ((List.range (i+1)).map (Vi (ms.drop k) s))) ((k+(i+1):Nat):Int)):=by
   have el:lm ((List.range (i+1)).map (Vi (ms.drop k) s))=lm ((List.range i).map (Vi (ms.drop k) s))++([.int .u32 (Vi (ms.drop k) s i)]:List AV):=by
    rw[List.range_succ,List.map_append,List.map_cons,List.map_nil,Mq]
   rw[el,hR];by_cases h1:k+i+1<ms.length
   ·have kk1:=Za9 m kk (s:Nat) ms false i (lm ((List.range i).map (Vi (ms.drop k) s))) ((k+i:Nat):Int) (by simp;omega) (by rw[ei];simp;omega) (by omega) (by rw[ei];omega) (by omega) (by omega);rw[ei,Int.toNat_natCast,Int.toNat_natCast,em] at kk1;have w1:u64.wrap ((BitVec.ofInt (IntKind.bits .u64) (u64.wrap (ms.getD (k+i) 0)) ||| BitVec.ofInt (IntKind.bits .u64) (u64.wrap ((u64.wrap (ms.getD (k+(i+1)) 0))*2^(min (Int.toNat 32) (IntKind.bits .u64))))).toNat)=ms.getD (k+i+1) 0*4294967296+ms.getD (k+i) 0:=by
     rw[BitVec.or_comm,Wu (n:=ms.getD (k+(i+1)) 0) (by rw[<- Nat.add_assoc];omega),<- Nat.add_assoc];exact Zbe hy hx
    have hpos:0<=ms.getD (k+i+1) 0*4294967296+ms.getD (k+i) 0:=by omega
    rw[w1,Int.fdiv_eq_ediv_of_nonneg _ (by have:=Qc s;omega),H9] at kk1;exact kk1
   ·have hz:ms.getD (k+i+1) 0=0:=Qi (by omega);have kk1:=Za8 m kk (s:Nat) ms false i (lm ((List.range i).map (Vi (ms.drop k) s))) ((k+i:Nat):Int) (by simp;omega) (by rw[ei];simp;omega) (by omega) (by omega) (by omega);rw[ei,Int.toNat_natCast,em,Wu (n:=ms.getD (k+i) 0) (by omega),Int.fdiv_eq_ediv_of_nonneg _ (by have:=Qc s;omega),H9] at kk1;rw[hz,Int.zero_mul,Int.zero_add];exact kk1
  exact Za.loop hstep (ih (i+1) (by omega))
theorem Zgh {N:Int} (h0:N ≠ 0) {z:Nat} (hd:(2:Int)^z∣N):z / 32<(Zb N.natAbs).length:=by
 apply Nat.lt_of_not_le;intro hle;have h1:=Vg (Qq N.natAbs).1;rw[Jg] at h1;have h2:=Vq hle;have h3:=Vr z;have h4:=Qc (z % 32);have h5:=Int.mul_le_mul_of_nonneg_left (show (1:Int)<=2^(z % 32) by omega) (Int.le_of_lt (Qu (z / 32)));rw[Int.mul_one,<- h3] at h5;obtain⟨q,hq⟩:=hd;have hq0:q ≠ 0:=by intro h;rw[h,Int.mul_zero] at hq;exact h0 hq
 have h6:(N.natAbs:Int)=2^z*(q.natAbs:Int):=by
  rw[hq,Int.natAbs_mul,Int.natCast_mul,Int.natAbs_of_nonneg (Int.le_of_lt (Qc z))]
 have h7:=Int.mul_le_mul_of_nonneg_left (show (1:Int)<=(q.natAbs:Int) by omega) (Int.le_of_lt (Qc z));rw[Int.mul_one,<- h6] at h7;omega
theorem Zbd {N:Int} (h0:N ≠ 0) {n:Nat} (hd:(2:Int)^n∣N) (hn:(n:Int)<=9223372036854775807) (hN:(Zb N.natAbs).length<=1048576):Zc Yir 125 [Zi N,.int .i64 (n:Nat)] (Zi (N / 2^n)):=by
 have hin:=Zgh h0 hd;have e1:i64.wrap (Int.tdiv (n:Int) 32)=((n / 32:Nat):Int):=by
  rw[Int.tdiv_eq_ediv_of_nonneg (by omega),w64 (by omega) (by omega)];omega
 have e2:u64.wrap (Int.tmod (n:Int) 32)=((n % 32:Nat):Int):=by
  rw[Int.tmod_eq_emod_of_nonneg (by omega),Js];omega
 have hs:n % 32<32:=Nat.mod_lt _ (by decide);have tu:U32 (Zb N.natAbs):=Q6 _;have hlb:=Qv (neg:=decide (N<0)) tu hN;rw[W9] at hlb;have hp:=Vr n;have hP:=Qu (n / 32);have hS:=Qc (n % 32);have hval:=Jg N.natAbs;generalize hms:Zb N.natAbs=ms at *
 have hall:=Zdx (ms:=ms) hs (show n / 32<=ms.length by omega);have ux:U32 ((List.range (ms.length-n / 32)).map (Vi (ms.drop (n / 32)) (n % 32))):=Br fun i=>(Mc (Xs tu _) hs i).2.2.2;have hmk:=J0 (neg:=decide (N<0)) ux (by simp;omega);have hlen:((List.range (ms.length-n / 32)).map (Vi (ms.drop (n / 32)) (n % 32))).length=ms.length-n / 32:=by simp
 have hb:=shr_b (m:=decide (N<0)) (ms:=ms) (kk:=((n / 32:Nat):Int)) (s:=n % 32) (k:=n / 32) tu hs hN (by omega) (ms.length-n / 32) 0 (by omega);generalize hQ:(List.range (ms.length-n / 32)).map (Vi (ms.drop (n / 32)) (n % 32))=Q at *
 rw[<- hlen] at hb;have hm0:=Int.emod_nonneg (ms.getD (n / 32) 0) (show (2:Int)^(n % 32) ≠ 0 by omega);have hm1:=Int.emod_lt_of_pos (ms.getD (n / 32) 0) hS;have ht0:=Z0 (Xe tu (n / 32));have ht1:=Vv tu (n / 32);have hl:0<=4294967296^(n / 32)*(ms.getD (n / 32) 0 % 2^(n % 32))+Zn (ms.take (n / 32))/\4294967296^(n / 32)*(ms.getD (n / 32) 0 % 2^(n % 32))+Zn (ms.take (n / 32))<2^n:=by
  rw[hp];generalize (4294967296:Int)^(n / 32)=P at *
  generalize ms.getD (n / 32) 0 % 2^(n % 32)=z at *
  generalize (2:Int)^(n % 32)=S at *
  have a:=Int.mul_nonneg (Int.le_of_lt hP) hm0;have b:=Int.mul_le_mul_of_nonneg_left (show z+1<=S by omega) (Int.le_of_lt hP);rw[Int.mul_add,Int.mul_one] at b;omega
 have hdm:(2:Int)^n∣(N.natAbs:Int):=Int.dvd_natAbs.2 hd;have hv2:(N.natAbs:Int)=2^n*Zn Q+(4294967296^(n / 32)*(ms.getD (n / 32) 0 % 2^(n % 32))+Zn (ms.take (n / 32))):=by rw[<- hval,hall,hp];grind
 have hl0:4294967296^(n / 32)*(ms.getD (n / 32) 0 % 2^(n % 32))+Zn (ms.take (n / 32))=0:=by
  have h1:(N.natAbs:Int) % 2^n=0:=Int.emod_eq_zero_of_dvd hdm;rw[hv2,Int.add_comm,Int.add_mul_emod_self_left,Int.emod_eq_of_lt hl.1 hl.2] at h1;exact h1
 have hz1:ms.getD (n / 32) 0 % 2^(n % 32)=0/\Zn (ms.take (n / 32))=0:=by
  have a:=Int.mul_nonneg (Int.le_of_lt hP) hm0;have b:4294967296^(n / 32)*(ms.getD (n / 32) 0 % 2^(n % 32))=0:=by omega
  rcases Int.mul_eq_zero.1 b with z | z
  ·omega
  ·exact⟨z,by omega⟩
 rw[hl0,Int.add_zero] at hv2;have ha:=shr_a (m:=decide (N<0)) (ms:=ms) (s:=((n % 32:Nat):Int)) (k:=n / 32) (by omega) hN (Zbh tu _ (by omega) hz1.2);have emask:u32.wrap ((u32.wrap (1*2^(min (Int.toNat (u64.wrap (Int.tmod (n:Int) 32))) (IntKind.bits .u32))))-1)=2^(n % 32)-1:=by
  have:min (Int.toNat ((n % 32:Nat):Int)) (IntKind.bits .u32)=n % 32:=by rw[Int.toNat_natCast];show min (n % 32) 32=n % 32;omega
  have h31:(2:Int)^(n % 32)<=2147483648:=Wz (show n % 32<=31 by omega);rw[e2,this,Int.one_mul,H9,H9];omega
 have ec2:u32.wrap ((BitVec.ofInt (IntKind.bits .u32) (ms.getD (Int.toNat (i64.wrap (Int.tdiv (n:Int) 32))) 0) &&& BitVec.ofInt (IntKind.bits .u32) (u32.wrap ((u32.wrap (1*2^(min (Int.toNat (u64.wrap (Int.tmod (n:Int) 32))) (IntKind.bits .u32))))-1))).toNat)=0:=by
  rw[emask,e1,Int.toNat_natCast,Zrc (Zx tu _) (by omega)];exact hz1.1
 have c1:decide ((i64.wrap (Int.tdiv (n:Int) 32))<(ms.length:Int))=true:=by rw[e1];simp;omega
 have hb2:Za Yir (.loop Uv) (Jn (decide (N<0)) (i64.wrap (Int.tdiv (n:Int) 32)) (u64.wrap (Int.tmod (n:Int) 32)) ms false 0 [] (i64.wrap (Int.tdiv (n:Int) 32))) (.exit 2) (Jn (decide (N<0)) (i64.wrap (Int.tdiv (n:Int) 32)) (u64.wrap (Int.tmod (n:Int) 32)) ms false Q.length (lm Q) (ms.length:Nat)):=by
  rw[e1,e2];exact hb
 have ha2:Za Yir (.loop Uq) (Jc (decide (N<0)) (i64.wrap (Int.tdiv (n:Int) 32)) (u64.wrap (Int.tmod (n:Int) 32)) ms false 0) (.exit 0) (Jc (decide (N<0)) (i64.wrap (Int.tdiv (n:Int) 32)) (u64.wrap (Int.tmod (n:Int) 32)) ms false ((n / 32:Nat):Int)):=by
  rw[e1,e2];exact ha
 have hres:rv (decide (N<0)) Q=N / 2^n:=by
  have hpn:=Qc n;by_cases hneg:N<0
  ·rw[decide_eq_true hneg];have:N=2^n*(-Zn Q):=by rw[Int.mul_neg];omega
   show -Zn Q=_;conv=>rhs;rw[this]
   rw[Int.mul_ediv_cancel_left _ (by omega)]
  ·rw[decide_eq_false hneg];have:N=2^n*Zn Q:=by omega
   show Zn Q=_;conv=>rhs;rw[this]
   rw[Int.mul_ediv_cancel_left _ (by omega)]
 rw[hres] at hmk;have hlm:(Zb N.natAbs)=ms:=hms;unfold Zi;rw[hlm];by_cases hneg:N<0
 ·exact P6 _ (decide (N<0)) false ms ms Q (n:Nat) _ _ _ c1 (by rw[ec2];rfl) (decide_eq_true hneg) rfl hlb ha2 hb2 (by rw[e1];omega) (by rw[e2];omega) hmk
 ·exact P5 _ (decide (N<0)) false ms ms Q (n:Nat) _ _ _ c1 (by rw[ec2];rfl) (decide_eq_false hneg) hlb ha2 hb2 (by rw[e1];omega) (by rw[e2];omega) hmk
end Go.Proofs.Ythdpfjffdipipaa

namespace Go.Proofs.Ythdpfjffdipipaa
open Go.IntKind (i64 u64 u32)
open Go.Ai
set_option maxRecDepth 100000
theorem Zq2 (n:Int):(cn n).2.length=(Zb n.natAbs).length:=rfl
theorem Zq1 (n:Int):U32 (cn n).2:=Q6 _
theorem bit_at {ms:List Int} (hu:U32 ms) {z:Nat} (hz:z / 32<ms.length):ms.getD (z / 32) 0 / 2^(z % 32) % 2=Zn ms / 2^z % 2:=by
 have h1:=J1 ms (show z / 32<=ms.length by omega);have e32:=Zoy (show z % 32<=32 by omega);rw[Int.mul_comm] at e32;have eT:(2:Int)^(32-z % 32)=2*2^(31-z % 32):=by rw[show 32-z % 32=(31-z % 32)+1 by omega,Int.pow_succ];omega
 have h2:Zn (ms.drop (z / 32))=ms.getD (z / 32) 0+2^(z % 32)*(2*2^(31-z % 32))*Zn (ms.drop (z / 32+1)):=by
  rw[<- eT,<- e32,List.drop_eq_getElem_cons hz,List.getD_eq_getElem?_getD,List.getElem?_eq_getElem hz];rfl
 have ht0:=Z0 (Xe hu (z / 32));have ht1:=Vv hu (z / 32);have hp:=Vr z;have hP:=Qu (z / 32);have hS:=Qc (z % 32);have hb0:=Int.emod_nonneg (ms.getD (z / 32) 0) (show (2:Int)^(z % 32) ≠ 0 by omega);have hb1:=Int.emod_lt_of_pos (ms.getD (z / 32) 0) hS;have hx:=Int.mul_ediv_add_emod (ms.getD (z / 32) 0) (2^(z % 32));rw[hp,h1,h2];clear h1 h2 hp e32 eT;generalize Zn (ms.take (z / 32))=T at *
 generalize Zn (ms.drop (z / 32+1))=R at *
 generalize ms.getD (z / 32) 0=x at *
 generalize (4294967296:Int)^(z / 32)=P at *
 generalize (2:Int)^(31-z % 32)=U at *
 generalize (2:Int)^(z % 32)=S at *
 generalize x / S=a at *
 generalize x % S=b at *
 have e:T+P*(x+S*(2*U)*R)=(T+P*b)+P*S*(a+2*(U*R)):=by rw[<- hx];grind
 have hPS:=Int.mul_pos hP hS;have c1:=Int.mul_nonneg (Int.le_of_lt hP) hb0;have c2:=Int.mul_le_mul_of_nonneg_left (show b+1<=S by omega) (Int.le_of_lt hP);rw[Int.mul_add,Int.mul_one] at c2;rw[e,Int.add_mul_ediv_left _ _ (by omega),Int.ediv_eq_zero_of_lt (by omega) (by omega),Int.zero_add,Int.add_mul_emod_self_left]
theorem Zq5 {p:Int} (hp:0<=p/\p<4294967296):(u32.wrap ((BitVec.ofInt (IntKind.bits .u32) p &&& BitVec.ofInt (IntKind.bits .u32) 1).toNat)==0)=decide (p % 2=0):=by
 have h:=Zrc hp (s:=1) (by decide);rw[show ((2:Int)^1-1)=1 by decide,show ((2:Int)^1)=2 by decide] at h;rw[h,Bool.eq_iff_iff,beq_iff_eq,decide_eq_true_eq]
theorem Zky {x:Int} (hx:0<=x/\x<4294967296) {s:Nat} (hs:s<32):(u32.wrap ((BitVec.ofInt (IntKind.bits .u32) (Int.fdiv x (2^(min (Int.toNat (s:Int)) (IntKind.bits .u32)))) &&& BitVec.ofInt (IntKind.bits .u32) 1).toNat)==0)=decide (x / 2^s % 2=0):=by
 have em:min (Int.toNat (s:Int)) (IntKind.bits .u32)=s:=by rw[Int.toNat_natCast];show min s 32=s;omega
 have hp:=Qc s;rw[em,Int.fdiv_eq_ediv_of_nonneg _ (by omega)];have h1:=Int.ediv_nonneg hx.1 (Int.le_of_lt hp);have h2:=Int.ediv_le_self (2^s) hx.1;exact Zq5 ⟨h1,by omega⟩
def D3:Int->Nat->Nat
 | _,0=>0
 | N,e+1=>if N % 2=0 then D3 (N / 2) e+1 else 0
theorem B9:∀ (e:Nat) (N:Int),D3 N e<=e
 | 0,_=>Nat.le_refl _
 | e+1,N=>by
  simp only[D3];split
  ·have:=B9 e (N / 2);omega
  ·omega
theorem G2:∀ (e:Nat) (N:Int),(2:Int)^D3 N e∣N
 | 0,N=>⟨N,by simp[D3]⟩
 | e+1,N=>by
  simp only[D3];split
  ·obtain⟨q,hq⟩:=G2 e (N / 2);refine⟨q,?_⟩;rw[Int.pow_succ,Int.mul_assoc,Int.mul_comm 2 q,<- Int.mul_assoc,<- hq];omega
  ·exact⟨N,by simp⟩
theorem Lr:∀ e:Nat,D3 0 e=e
 | 0=>rfl
 | e+1=>by simp only[D3];rw[if_pos (by decide),show (0:Int) / 2=0 by decide,Lr e]
def dyA (n e:Int):AV := .agg [.bool (decide (n<0)),.sl (Zb n.natAbs).length (lm (Zb n.natAbs)),.int .i64 e]
theorem Lq {N:Int} (h0:N ≠ 0) {e:Nat} (he:e<=1000000) (hN:(Zb N.natAbs).length<1048576):∀ (r z:Nat),z+r=e->(2:Int)^z∣N ->
  Za Yir (.loop Zwp) (Ziw (cn N) (e:Nat) (z:Nat)) (.exit 0) (Ziw (cn N) (e:Nat) ((z+D3 (N / 2^z) r:Nat):Int)):=by
 intro r;induction r with
 | zero =>
  intro z hz _;exact Za.loop_out (Yk91_3 (cn N) (e:Nat) (z:Nat) (by simp;omega)) (by nofun)
 | succ r ih =>
  intro z hz hd;have hin:=Zgh h0 hd;have e1:i64.wrap (Int.tdiv (z:Int) 32)=((z / 32:Nat):Int):=by
   rw[Int.tdiv_eq_ediv_of_nonneg (by omega),w64 (by omega) (by omega)];omega
  have e2:u64.wrap (Int.tmod (z:Int) 32)=((z % 32:Nat):Int):=by
   rw[Int.tmod_eq_emod_of_nonneg (by omega),Js];omega
  have ei:i64.wrap ((z:Int)+1)=((z+1:Nat):Int):=by rw[w64 (by omega) (by omega)];omega
  have hs:z % 32<32:=Nat.mod_lt _ (by decide);have c1:decide ((z:Int)<(e:Int))=true:=by rw[decide_eq_true_eq];omega
  have hb:=bit_at (Q6 N.natAbs) hin;rw[Jg] at hb;obtain⟨q,hq⟩:=hd;have hpz:=Qc z;have hq1:N / 2^z=q:=by
   conv=>lhs;rw[hq]
   exact Int.mul_ediv_cancel_left _ (by omega)
  have hq2:(N.natAbs:Int) / 2^z=(q.natAbs:Int):=by
   have:(N.natAbs:Int)=2^z*(q.natAbs:Int):=by rw[hq,Int.natAbs_mul,Int.natCast_mul,Int.natAbs_of_nonneg (Int.le_of_lt hpz)]
   rw[this];exact Int.mul_ediv_cancel_left _ (by omega)
  rw[hq2] at hb;have ht:=Zky (Zx (Q6 N.natAbs) (z / 32)) hs;have ct:(u32.wrap ((BitVec.ofInt (IntKind.bits .u32) (Int.fdiv ((cn N).2.getD (Int.toNat (i64.wrap (Int.tdiv (z:Int) 32))) 0) (2^(min (Int.toNat (u64.wrap (Int.tmod (z:Int) 32))) (IntKind.bits .u32)))) &&& BitVec.ofInt (IntKind.bits .u32) 1).toNat)==0)=decide (q % 2=0):=by
   rw[e1,e2,Int.toNat_natCast];refine ht.trans ?_;rw[hb,decide_eq_decide];omega
  have hlen:(cn N).2.length=(Zb N.natAbs).length:=rfl;rw[hq1];by_cases h2:q % 2=0
  ·have er:D3 q (r+1)=D3 (q / 2) r+1:=by simp only[D3];rw[if_pos h2]
   have hq3:N=2^(z+1)*(q / 2):=by rw[Int.pow_succ,Int.mul_assoc,show 2*(q / 2)=q by omega];exact hq
   have hq4:N / 2^(z+1)=q / 2:=by
    conv=>lhs;rw[hq3]
    exact Int.mul_ediv_cancel_left _ (by have:=Qc (z+1);omega)
   have hr:=ih (z+1) (by omega) ⟨q / 2,hq3⟩;rw[hq4] at hr;have k:=Yk91_1 (cn N) (e:Nat) (z:Nat) c1 (by rw[ct,decide_eq_true_eq];exact h2) (by rw[e1];omega) (by rw[e2];omega);rw[ei] at k;rw[er,show z+(D3 (q / 2) r+1)=z+1+D3 (q / 2) r by omega];exact Za.loop k hr
  ·have er:D3 q (r+1)=0:=by simp only[D3];rw[if_neg h2]
   rw[er,Nat.add_zero];exact Za.loop_out (Yk91_2 (cn N) (e:Nat) (z:Nat) c1 (by rw[ct,decide_eq_false_iff_not];exact h2) (by rw[e1];omega) (by rw[e2];omega)) (by nofun)
theorem R1 {N:Int} {e:Nat} (hN:(Zb N.natAbs).length<1048576) (he:e<=1000000):Zc Yir 91 [Zi N,.int .i64 (e:Nat)] (dyA (N / 2^D3 N e) ((e-D3 N e:Nat):Int)):=by
 have h1:=Gu (neg:=(cn N).1) (xs:=(cn N).2) (Zq1 N) (by rw[Zq2];omega);rw[show rv (cn N).1 (cn N).2=N from Zv N] at h1;by_cases h0:N=0
 ·subst h0;rw[Lr,Int.zero_ediv,Nat.sub_self];exact Zll (cn 0) (e:Nat) 0 rfl h1
 ·have hl:=Lq h0 he hN e 0 (by omega) (by simp);rw[Int.pow_zero,Int.ediv_one,Nat.zero_add] at hl;have hle:=B9 e N;have hs:=Zbd h0 (G2 e N) (by omega) (by omega);have k:=Zlk (cn N) (e:Nat) N _ _ (by rw[beq_eq_false_iff_ne];have:=Ju N.natAbs;omega) h1 hl hs;have ew:i64.wrap ((e:Int)-((D3 N e:Nat):Int))=((e-D3 N e:Nat):Int):=by rw[w64 (by omega) (by omega)];omega
  rw[ew] at k;exact k
end Go.Proofs.Ythdpfjffdipipaa

namespace Go.Proofs.Ythdpfjffdipipaa
open Go.IntKind (i64 u64 u32)
open Go.Ai
set_option maxRecDepth 100000
def Kj (o:Bool) (ps:List (List Rn)) (n:Int) (k:Int) (rs:List Rn) (d:Int) (i:Int):Zg:=(dds 2 (.val (.bool o)::(dds 1 (.val (.sl rs.length (pc rs))::(.val (.int .i64 d)::(.val (.int .i64 i)::(.val (.sl ps.length (pp ps))::(.val (.int .i64 n)::(.val (.int .i64 k)::(dds 19 []))))))))))
theorem Zsh (o:Bool) (ps:List (List Rn)) (n:Int) (k:Int) (rs:List Rn) (d:Int) (i:Int) (z:Int) (c1:(decide (i<=d))=true) (c2:(decide (z>256))=true) (n1:0<=i/\i<(rs.length:Int)) (n2:Zc Yir 36 [Z4 (rs.getD (Int.toNat i) z0)] (.int .i64 z)):Za Yir El (Kj o ps n k rs d i) .ret (Kj true ps n k rs d i):=(Za.go Qr 400 [.b true,.v (Z4 (rs.getD (Int.toNat i) z0)),.r (.int .i64 z),.b true] [2,4,5,6,7,8,9] (ac c1 (ac n1 (ac (Jy n1) (ac n2 (ac c2 a0))))))
theorem Zsg (o:Bool) (ps:List (List Rn)) (n:Int) (k:Int) (rs:List Rn) (d:Int) (i:Int) (z:Int) (c1:(decide (i<=d))=true) (c2:(decide (z>256))=false) (n1:0<=i/\i<(rs.length:Int)) (n2:Zc Yir 36 [Z4 (rs.getD (Int.toNat i) z0)] (.int .i64 z)):Za Yir El (Kj o ps n k rs d i) .norm (Kj o ps n k rs d (i64.wrap (i+1))):=(Za.go Qr 400 [.b true,.v (Z4 (rs.getD (Int.toNat i) z0)),.r (.int .i64 z),.b false] [2,4,5,6,7,8,9] (ac c1 (ac n1 (ac (Jy n1) (ac n2 (ac c2 a0))))))
theorem Zsf (o:Bool) (ps:List (List Rn)) (n:Int) (k:Int) (rs:List Rn) (d:Int) (i:Int)  (c1:(decide (i<=d))=false):Za Yir El (Kj o ps n k rs d i) (.exit 2) (Kj o ps n k rs d i):=(Za.go Qr 400 [.b false] [2,4,5,6,7,8,9] (ac c1 a0))
def Zok:ICode := .seq (rg [oB 10 .lss 9 8]) (.seq (.cond (.t 10) (.skip) (.exit 0)) (.seq (.block 1 (.seq (rg [o1 11 (.ixa 7 (.t 9) 1),o1 12 (.ld 11 11 1 true),oM 4 12]) (.seq (rg [oM 13 4,oC 14 34 [13],oM 5 14]) (.seq (.seq (rg [oM 15 5,o1 16 (.bin .gtr (.t 15) (ci 16))]) (.cond (.t 16) (.seq (rg [o1 2 (.mov (.c (.bool true)))]) (.ret)) (.skip))) (.seq (rg [o1 6 (.mov (ci 0))]) (.block 2 (.loop (.seq (.seq (rg [oM 17 6,oM 18 5,oB 19 .leq 17 18]) (.cond (.t 19) (.skip) (.exit 2))) (.seq (.block 3 (.seq (rg [oM 22 4,oM 23 6,o1 24 (.ixa 22 (.t 23) 2),o1 25 (.ld 24 24 2 false),oC 26 36 [25],o1 27 (.bin .gtr (.t 26) (ci 256))]) (.cond (.t 27) (.seq (rg [o1 2 (.mov (.c (.bool true)))]) (.ret)) (.skip)))) (rg [oM 20 6,o1 21 (.bin .add (.t 20) (ci 1)),oM 6 21])))))))))) (rg [o1 28 (.bin .add (.t 9) (ci 1)),oM 9 28])))
def Rj (o:Bool) (ps:List (List Rn)) (n:Int) (k:Int):Zg:=(dds 2 (.val (.bool o)::(dds 4 (.val (.sl ps.length (pp ps))::(.val (.int .i64 n)::(.val (.int .i64 k)::(dds 19 [])))))))
theorem Yk35_1 (o:Bool) (ps:List (List Rn)) (n:Int) (k:Int) (d:Int) (c1:(decide (k<n))=true) (c2:(decide (d>16))=true) (n1:0<=k/\k<(ps.length:Int)) (n2:Zc Yir 34 [.sl ((ps.getD (Int.toNat k) []).length) (pc (ps.getD (Int.toNat k) []))] (.int .i64 d)):Za Yir Zok (Rj o ps n k) .ret (Rj true ps n k):=(Za.asc (Za.seq (Za.go (t:=(dds 2 (.val (.bool o)::(dds 4 (.val (.sl ps.length (pp ps))::(vi n::(vi k::(dds 19 [])))))))) Qr 400 [.b true] [2,7,8,9] (ac c1 a0)) (Za.seq_out (Za.block_ret (Za.asc (Za.asc (Za.asc (Za.seq_out (Za.go Qr 400 [.v (.sl ((ps.getD (Int.toNat k) []).length) (pc (ps.getD (Int.toNat k) []))),.r (.int .i64 d),.b true] [2,7,8,9] (ac n1 (ac (V3 n1) (ac n2 (ac c2 a0))))) (by nofun)))))) (by nofun))))
theorem Yk35_2 (o:Bool) (ps:List (List Rn)) (n:Int) (k:Int) (d i:Int) (c1:(decide (k<n))=true) (c2:(decide (d>16))=false) (n1:0<=k/\k<(ps.length:Int)) (n2:Zc Yir 34 [.sl ((ps.getD (Int.toNat k) []).length) (pc (ps.getD (Int.toNat k) []))] (.int .i64 d)) (hl3:Za Yir (.loop El) (Kj o ps n k (ps.getD (Int.toNat k) []) d 0) (.exit 2) (Kj o ps n k (ps.getD (Int.toNat k) []) d i)):Za Yir Zok (Rj o ps n k) .norm (Rj o ps n (i64.wrap (k+1))):=(Za.asc (Za.seq (Za.go (t:=(dds 2 (.val (.bool o)::(dds 4 (.val (.sl ps.length (pp ps))::(vi n::(vi k::(dds 19 [])))))))) Qr 400 [.b true] [2,7,8,9] (ac c1 a0)) (Za.seq (Za.block_norm (Za.asc (Za.asc (Za.asc (Za.seq (Za.go Qr 400 [.v (.sl ((ps.getD (Int.toNat k) []).length) (pc (ps.getD (Int.toNat k) []))),.r (.int .i64 d),.b false] [2,4,5,6,7,8,9] (ac n1 (ac (V3 n1) (ac n2 (ac c2 a0))))) (Za.block hl3)))))) (Za.go Qr 400 [] [2,7,8,9] a0))))
theorem Yk35_3 (o:Bool) (ps:List (List Rn)) (n:Int) (k:Int)  (c1:(decide (k<n))=false):Za Yir Zok (Rj o ps n k) (.exit 0) (Rj o ps n k):=(Za.asc (Za.seq_out (Za.go Qr 400 [.b false] [2,7,8,9] (ac c1 a0)) (by nofun)))
def Ys35y (o:Bool) (ps:List (List Rn)) (n:Int) (k:Int):Zg:=(dds 2 (.val (.bool o)::(dds 4 (.val (.sl ps.length (pp ps))::(.val (.int .i64 n)::(.val (.int .i64 k)::(dds 19 [])))))))
theorem Zse (o:Bool) (ps:List (List Rn)) (n:Int) (k:Int) (d i:Int) (c1:(decide (k<n))=true) (c2:(decide (d>16))=false) (n1:0<=k/\k<(ps.length:Int)) (n2:Zc Yir 34 [.sl ((ps.getD (Int.toNat k) []).length) (pc (ps.getD (Int.toNat k) []))] (.int .i64 d)) (hl3:Za Yir (.loop El) (Kj o ps n k (ps.getD (Int.toNat k) []) d 0) .ret (Kj true ps n k (ps.getD (Int.toNat k) []) d i)):Za Yir Yc35y (Ys35y o ps n k) .ret (Ys35y true ps n k):=(Za.asc (Za.seq (Za.go (t:=(dds 2 (.val (.bool o)::(dds 4 (.val (.sl ps.length (pp ps))::(vi n::(vi k::(dds 19 [])))))))) Qr 400 [.b true] [2,7,8,9] (ac c1 a0)) (Za.seq_out (Za.block_ret (Za.asc (Za.asc (Za.asc (Za.seq (Za.go Qr 400 [.v (.sl ((ps.getD (Int.toNat k) []).length) (pc (ps.getD (Int.toNat k) []))),.r (.int .i64 d),.b false] [2,4,5,6,7,8,9] (ac n1 (ac (V3 n1) (ac n2 (ac c2 a0))))) (Za.block_ret (Za.keep (t':=(dds 2 (.val (.bool true)::(dds 4 (.val (.sl ps.length (pp ps))::(.val (.int .i64 n)::(.val (.int .i64 k)::(dds 19 [])))))))) [2,7,8,9] hl3 (by kernel_rfl)))))))) (by nofun))))
theorem Zml (ps:List (List Rn)) (n k:Int) (hl1:Za Yir (.loop Zok) (Rj false ps (ps.length:Int) 0) (.exit 0) (Rj false ps n k)):Zc Yir 35 [.sl ps.length (pp ps)] (.bool false):=Zc.of_bodyW (fn:=Zwn) (s:=(dds 2 (.val (.bool false)::(dds 26 [])))) (ex := .ret) rfl rfl (Za.csi (Za.seq (Za.go Qr 400 [] [2,7,8,9] a0) (Za.seq (Za.block hl1) (Za.go Qr 400 [] [2] a0)))) (by nofun) rfl
theorem Zmk (ps:List (List Rn)) (n k:Int) (hl1:Za Yir (.loop Zok) (Rj false ps (ps.length:Int) 0) .ret (Rj true ps n k)):Zc Yir 35 [.sl ps.length (pp ps)] (.bool true):=Zc.of_bodyW (fn:=Zwn) (s:=(dds 2 (.val (.bool true)::(dds 4 (.val (.sl ps.length (pp ps))::(.val (.int .i64 n)::(.val (.int .i64 k)::(dds 19 [])))))))) (ex := .ret) rfl rfl (Za.csi (Za.seq (Za.go Qr 400 [] [2,7,8,9] a0) (Za.seq_out (Za.block_ret hl1) (by nofun)))) (by nofun) rfl
end Go.Proofs.Ythdpfjffdipipaa

namespace Go.Proofs.Ythdpfjffdipipaa
open Go.IntKind (i64 u64 u32)
open Go.Ai
set_option maxRecDepth 100000
def Zwc (x:Int):Bool:=decide (256<(Zb x.natAbs).length)
def Xl (p:List Int):Bool:=decide (17<(Zj p).length) || (Zj p).any Zwc
theorem Zgm {p:List Int} {f:Int->Bool} (h:p.any f=false) (i:Nat) (hi:i<p.length):f (p.getD i 0)=false:=by
 rw[List.any_eq_false] at h;rw[List.getD_eq_getElem?_getD,List.getElem?_eq_getElem hi];simpa using h _ (List.getElem_mem hi)
theorem Zk2 {p:List Int} {f:Int->Bool} (h:p.any f=true):∃ i,i<p.length/\f (p.getD i 0)=true:=by
 obtain⟨x,hx,hf⟩:=List.any_eq_true.1 h;obtain⟨i,hi,rfl⟩:=List.mem_iff_getElem.1 hx;refine⟨i,hi,?_⟩;rw[List.getD_eq_getElem?_getD,List.getElem?_eq_getElem hi];simpa using hf
section
variable {rs:List Rn} {ps:List (List Rn)} {n k:Int}
theorem Za6 (hg:∀ r∈rs,Ji 1048576 r) (hN:rs.length<=1048576) :
  (Xl (Zf rs)=false->(Zj (Zf rs)).length<=17->Za Yir (.loop El) (Kj false ps n k rs (((Zt (Zf rs) rs.length:Nat):Int)-1) 0) (.exit 2) (Kj false ps n k rs (((Zt (Zf rs) rs.length:Nat):Int)-1) (Zt (Zf rs) rs.length:Nat))) /\
  (Xl (Zf rs)=true->(Zj (Zf rs)).length<=17->∃ j:Nat,Za Yir (.loop El) (Kj false ps n k rs (((Zt (Zf rs) rs.length:Nat):Int)-1) 0) .ret (Kj true ps n k rs (((Zt (Zf rs) rs.length:Nat):Int)-1) (j:Nat))):=by
 have hle:=Vh (Zf rs) rs.length;have hlen:(Zj (Zf rs)).length=Zt (Zf rs) rs.length:=by rw[Xm,Zu]
 have step:∀ t:Nat,t<Zt (Zf rs) rs.length->Zwc (Ze (rs.getD t z0))=false->Za Yir El (Kj false ps n k rs (((Zt (Zf rs) rs.length:Nat):Int)-1) (t:Nat)) .norm (Kj false ps n k rs (((Zt (Zf rs) rs.length:Nat):Int)-1) ((t+1:Nat):Int)):=by
  intro t ht hb;have ei:i64.wrap ((t:Int)+1)=((t+1:Nat):Int):=by rw[w64 (by omega) (by omega)];omega
  obtain⟨g1,g2⟩:=Qh hg t;have k2:=Zsg false ps n k rs (((Zt (Zf rs) rs.length:Nat):Int)-1) (t:Nat) (((Zb (Ze (rs.getD t z0)).natAbs).length:Nat):Int) (by simp;omega) (by unfold Zwc at hb;simp only[decide_eq_false_iff_not] at hb |-;omega) (by omega) (by rw[Int.toNat_natCast];exact Lg g1 g2);rwa [ei] at k2
 refine⟨fun hl _ => ?_,fun hl h17 => ?_⟩
 ·unfold Xl at hl;rw[Bool.or_eq_false_iff] at hl;have h:=Za.upTo (prog:=Yir) (c:=El) (ex := .exit 2) (fun t=>Kj false ps n k rs (((Zt (Zf rs) rs.length:Nat):Int)-1) (t:Nat)) (Zt (Zf rs) rs.length) (by nofun) (Zsf false ps n k rs _ _ (by simp;omega)) 0 (Nat.zero_le _) (fun t _ h2=>step t h2 (by
   have:=Zgm hl.2 t (by omega);rwa [Jh,Je] at this))
  exact h
 ·unfold Xl at hl;rw[decide_eq_false (by omega),Bool.false_or] at hl;obtain⟨i,hi,hf⟩:=Zk2 hl;rcases Wp (fun j=>Zwc (Ze (rs.getD j z0))) (Zt (Zf rs) rs.length) _ 0 (by rw[Nat.zero_add]) with h | ⟨j,_,h2,h3,h4⟩
  ·have:=h i (by omega) (by omega);rw[Jh,Je] at hf;rw[hf] at this;cases this
  ·obtain⟨g1,g2⟩:=Qh hg j;have k1:=Zsh false ps n k rs (((Zt (Zf rs) rs.length:Nat):Int)-1) (j:Nat) (((Zb (Ze (rs.getD j z0)).natAbs).length:Nat):Int) (by simp;omega) (by unfold Zwc at h3;simp only[decide_eq_true_eq] at h3 |-;omega) (by omega) (by rw[Int.toNat_natCast];exact Lg g1 g2);exact⟨j,Za.upTo (prog:=Yir) (c:=El) (ex := .ret) (fun t=>Kj false ps n k rs (((Zt (Zf rs) rs.length:Nat):Int)-1) (t:Nat)) j (by nofun) k1 0 (Nat.zero_le _) (fun t _ h6=>step t (by omega) (h4 t (by omega) h6))⟩
end
theorem G9 {α:Type} {l:List (List α)} {i:Nat} (h:i<l.length):l.getD i []∈l:=by
 rw[List.getD_eq_getElem?_getD,List.getElem?_eq_getElem h];exact List.getElem_mem h
theorem Na {ps:List (List Rn)} (hg:∀ p∈ps,(∀ r∈p,Ji 1048576 r)/\p.length<=1048576) (hN:ps.length<=1048576):Zc Yir 35 [.sl ps.length (pp ps)] (.bool (ps.any fun p=>Xl (Zf p))):=by
 have hdeg:∀ t,t<ps.length->Zc Yir 34 [.sl (ps.getD t []).length (pc (ps.getD t []))] (.int .i64 (((Zt (Zf (ps.getD t [])) (ps.getD t []).length:Nat):Int)-1)):=fun t ht=>Uy (hg _ (G9 ht)).1 (hg _ (G9 ht)).2;have step:∀ t:Nat,t<ps.length->Xl (Zf (ps.getD t []))=false->Za Yir Zok (Rj false ps (ps.length:Nat) (t:Nat)) .norm (Rj false ps (ps.length:Nat) ((t+1:Nat):Int)):=by
  intro t ht hl;have ei:i64.wrap ((t:Int)+1)=((t+1:Nat):Int):=by rw[w64 (by omega) (by omega)];omega
  obtain⟨g1,g2⟩:=hg _ (G9 ht);have hlen:(Zj (Zf (ps.getD t []))).length=Zt (Zf (ps.getD t [])) (ps.getD t []).length:=by rw[Xm,Zu]
  have h17:(Zj (Zf (ps.getD t []))).length<=17:=by
   unfold Xl at hl;rw[Bool.or_eq_false_iff,decide_eq_false_iff_not] at hl;omega
  have k2:=Yk35_2 false ps (ps.length:Nat) (t:Nat) (((Zt (Zf (ps.getD t [])) (ps.getD t []).length:Nat):Int)-1) _ (by simp;omega) (by rw[decide_eq_false_iff_not];omega) (by omega) (by rw[Int.toNat_natCast];exact hdeg t ht) (by rw[Int.toNat_natCast];exact (Za6 g1 g2).1 hl h17);rwa [ei] at k2
 rcases Wp (fun j=>Xl (Zf (ps.getD j []))) ps.length _ 0 (by rw[Nat.zero_add]) with h | ⟨j,_,h2,h3,h4⟩
 ·have hany:(ps.any fun p=>Xl (Zf p))=false:=by
   rw[List.any_eq_false];intro p hp;obtain⟨i,hi,rfl⟩:=List.mem_iff_getElem.1 hp;have:=h i (by omega) hi;rw[List.getD_eq_getElem?_getD,List.getElem?_eq_getElem hi] at this;simpa using this
  rw[hany];exact Zml ps _ _ (Za.upTo (prog:=Yir) (c:=Zok) (ex := .exit 0) (fun t=>Rj false ps (ps.length:Nat) (t:Nat)) ps.length (by nofun) (Yk35_3 false ps _ _ (by simp)) 0 (Nat.zero_le _) (fun t _ h6=>step t h6 (h t (by omega) h6)))
 ·have hany:(ps.any fun p=>Xl (Zf p))=true:=by
   rw[List.any_eq_true];exact⟨_,G9 h2,h3⟩
  rw[hany];obtain⟨g1,g2⟩:=hg _ (G9 h2);have hlen:(Zj (Zf (ps.getD j []))).length=Zt (Zf (ps.getD j [])) (ps.getD j []).length:=by rw[Xm,Zu]
  have out:Za Yir Zok (Rj false ps (ps.length:Nat) (j:Nat)) .ret (Rj true ps (ps.length:Nat) (j:Nat)):=by
   by_cases h17:(Zj (Zf (ps.getD j []))).length<=17
   ·obtain⟨i,hi⟩:=(Za6 (ps:=ps) (n:=(ps.length:Nat)) (k:=(j:Nat)) g1 g2).2 h3 h17;exact Zse false ps (ps.length:Nat) (j:Nat) (((Zt (Zf (ps.getD j [])) (ps.getD j []).length:Nat):Int)-1) _ (by simp;omega) (by rw[decide_eq_false_iff_not];omega) (by omega) (by rw[Int.toNat_natCast];exact hdeg j h2) (by rw[Int.toNat_natCast];exact hi)
   ·exact Yk35_1 false ps (ps.length:Nat) (j:Nat) (((Zt (Zf (ps.getD j [])) (ps.getD j []).length:Nat):Int)-1) (by simp;omega) (by rw[decide_eq_true_eq];omega) (by omega) (by rw[Int.toNat_natCast];exact hdeg j h2)
  exact Zmk ps _ _ (Za.upTo (prog:=Yir) (c:=Zok) (ex := .ret) (fun t=>Rj false ps (ps.length:Nat) (t:Nat)) j (by nofun) out 0 (Nat.zero_le _) (fun t _ h6=>step t (by omega) (h4 t (by omega) h6)))
end Go.Proofs.Ythdpfjffdipipaa

namespace Go.Proofs.Ythdpfjffdipipaa
open Go.IntKind (i64 u64 u32)
open Go.Ai
set_option maxRecDepth 100000
theorem L8 {n k:Nat} (h:n<32*k):Jo k ((2:Int)^n):=by
 unfold Jo;rw[Int.natAbs_pow];show 2^n<4294967296^k;rw[show (4294967296:Nat)=2^32 by decide,<- Nat.pow_mul];exact Nat.pow_lt_pow_right (by decide) h
theorem Zad {a b:Nat} (ha:a<=4096) (hb:b<=4096):i64.wrap ((if (b:Int)>(a:Int) then (b:Int) else (a:Int))-(a:Int))=((max a b-a:Nat):Int):=by
 split <;> rw[w64 (by omega) (by omega)] <;> omega
theorem Zac {a b:Nat} (ha:a<=4096) (hb:b<=4096):i64.wrap ((if (b:Int)>(a:Int) then (b:Int) else (a:Int))-(b:Int))=((max a b-b:Nat):Int):=by
 split <;> rw[w64 (by omega) (by omega)] <;> omega
theorem Zql {a b:Nat} (ha:a<=4096) (hb:b<=4096):i64.wrap ((if (b:Int)>(a:Int) then (b:Int) else (a:Int))+1)=((max a b+1:Nat):Int):=by
 split <;> rw[w64 (by omega) (by omega)] <;> omega
theorem Wr {a b c:Int} (hc:0<c):U6 (a*c) (b*c)=U6 a b:=by
 unfold U6;have h1:a*c<b*c↔a<b:=Int.mul_lt_mul_right hc;have h2:b*c<a*c↔b<a:=Int.mul_lt_mul_right hc;simp only[h1,h2]
theorem Zq3 (X Y:Int) (a b:Nat):U6 (X*2^(max a b-a)) (Y*2^(max a b-b))=U6 (X*2^b) (Y*2^a):=by
 have h:=Wr (a:=X*2^(max a b-a)) (b:=Y*2^(max a b-b)) (Qc (min a b));rw[<- h,Int.mul_assoc,Int.mul_assoc,<- Int.pow_add,<- Int.pow_add,show max a b-a+min a b=b by omega,show max a b-b+min a b=a by omega]
def dyR (r:Rn) (e:Int):AV := .agg [.bool r.1,.sl r.2.length (lm r.2),.int .i64 e]
theorem Zv5 {r:Rn} (hr:Ji 200 r) {n:Nat} (hn:n<=4096):Zc Yir 79 [Z4 r,.int .i64 (n:Nat)] (Zi (Ze r*2^n))/\Zc Yir 83 [Z4 r,.int .i64 (n:Nat)] (Za1 (Ze r*2^n))/\Jo 330 (Ze r*2^n):=by
 have h2:=hr.2;exact⟨N3 hr.1 n (by omega) (by omega),Zp9 hr.1 n (by omega),(hr.fits.mul (L8 (k:=129) (by omega))).mono (by omega)⟩
def X1 (x:Int) (a:Nat) (y:Int) (b:Nat):Int:=U6 (x*2^b) (y*2^a)
def Ld (x:Int) (a:Nat) (y:Int) (b:Nat):Int:=x*2^(max a b-a)+y*2^(max a b-b)
def Zj5 (x:Int) (a:Nat) (y:Int) (b:Nat):Int:=Ld x a y b / 2^D3 (Ld x a y b) (max a b+1)
def Zbz (x:Int) (a:Nat) (y:Int) (b:Nat):Nat:=max a b+1-D3 (Ld x a y b) (max a b+1)
section
variable {r t:Rn} (hr:Ji 200 r) (ht:Ji 200 t) {a b:Nat} (ha:a<=4096) (hb:b<=4096)
include hr ht ha hb
theorem U7:Zc Yir 50 [dyR r (a:Nat),dyR t (b:Nat)] (.int .i64 (X1 (Ze r) a (Ze t) b)):=by
 obtain⟨x1,_,x3⟩:=Zv5 hr (n:=max a b-a) (by omega);obtain⟨y1,_,y3⟩:=Zv5 ht (n:=max a b-b) (by omega);have g1:=Q5 x3;have g2:=Q5 y3;have p:=Zi3 (na:=(cn (Ze r*2^(max a b-a))).1) (nb:=(cn (Ze t*2^(max a b-b))).1) g1.1 g2.1 (by have:=g1.2;omega) (by have:=g2.2;omega);rw[show ∀ n,rv (cn n).1 (cn n).2=n from Zv,show ∀ n,rv (cn n).1 (cn n).2=n from Zv,Zq3] at p;exact Yrun50 r t (a:Nat) (b:Nat) _ _ _ (by rw[Zad ha hb];exact x1) (by rw[Zac ha hb];exact y1) p
theorem Zj4:Jo 331 (Ld (Ze r) a (Ze t) b):=by
 obtain⟨_,_,x3⟩:=Zv5 hr (n:=max a b-a) (by omega);obtain⟨_,_,y3⟩:=Zv5 ht (n:=max a b-b) (by omega);exact x3.add y3
theorem Eh:Zc Yir 56 [dyR r (a:Nat),dyR t (b:Nat)] (dyA (Zj5 (Ze r) a (Ze t) b) ((Zbz (Ze r) a (Ze t) b:Nat):Int)):=by
 obtain⟨x1,_,x3⟩:=Zv5 hr (n:=max a b-a) (by omega);obtain⟨y1,_,y3⟩:=Zv5 ht (n:=max a b-b) (by omega);have hX:=x3.len;have hY:=y3.len;have p:=Zi5 (a:=Ze r*2^(max a b-a)) (b:=Ze t*2^(max a b-b)) (by omega) (by omega);have hZl:=(Zj4 hr ht ha hb).len;have k1:=R1 (N:=Ld (Ze r) a (Ze t) b) (e:=max a b+1) (by omega) (by omega);exact Yrun56 r t (a:Nat) (b:Nat) _ _ _ _ _ (by rw[Zad ha hb];exact x1) (by rw[Zac ha hb];exact y1) p (by rw[Zql ha hb];exact k1)
end
end Go.Proofs.Ythdpfjffdipipaa

namespace Go.Proofs.Ythdpfjffdipipaa
open Go.IntKind (i64 u64 u32)
open Go.Ai
set_option maxRecDepth 100000
def Dk (rs:List Rn) (ss:List Rn) (n:Int) (m:Int) (k:Nat) (os:List Rn) (l:Int) (i:Int):Zg:=(.val (.sl rs.length (pc rs))::(.val (.sl ss.length (pc ss))::(dds 3 (.val (.int .i64 n)::(.val (.int .i64 m)::(.own 2 k (pc os)::(dds 12 (.val (.int .i64 l)::(.val (.int .i64 i)::(dds 30 []))))))))))
theorem Zs4 (rs:List Rn) (ss:List Rn) (n:Int) (m:Int) (k:Nat) (os:List Rn) (l:Int) (i:Int)  (c1:(decide (i<l))=true) (c2:(decide (i<n))=true) (c3:(decide (i<m))=true) (n1:0<=i/\i<(rs.length:Int)) (n2:0<=i/\i<(k:Int)) (n3:os.length=k) (n4:(os.set (Int.toNat i) (rs.getD (Int.toNat i) z0)).length=k) (n5:0<=i/\i<(ss.length:Int)) (n6:Zc Yir 77 [Z4 ((os.set (Int.toNat i) (rs.getD (Int.toNat i) z0)).getD (Int.toNat i) z0),Z4 (ss.getD (Int.toNat i) z0)] (Zi ((Ze ((os.set (Int.toNat i) (rs.getD (Int.toNat i) z0)).getD (Int.toNat i) z0))+(Ze (ss.getD (Int.toNat i) z0))))):Za Yir Rg (Dk rs ss n m k os l i) .norm (Dk rs ss n m k ((os.set (Int.toNat i) (rs.getD (Int.toNat i) z0)).set (Int.toNat i) (cn ((Ze ((os.set (Int.toNat i) (rs.getD (Int.toNat i) z0)).getD (Int.toNat i) z0))+(Ze (ss.getD (Int.toNat i) z0))))) l (i64.wrap (i+1))):=(Za.go Qr 400 [.b true,.b true,.v (Z4 (rs.getD (Int.toNat i) z0)),.l (pc (os.set (Int.toNat i) (rs.getD (Int.toNat i) z0))),.b true,.v (Z4 ((os.set (Int.toNat i) (rs.getD (Int.toNat i) z0)).getD (Int.toNat i) z0)),.v (Z4 (ss.getD (Int.toNat i) z0)),.r (Zi ((Ze ((os.set (Int.toNat i) (rs.getD (Int.toNat i) z0)).getD (Int.toNat i) z0))+(Ze (ss.getD (Int.toNat i) z0)))),.l (pc ((os.set (Int.toNat i) (rs.getD (Int.toNat i) z0)).set (Int.toNat i) (cn ((Ze ((os.set (Int.toNat i) (rs.getD (Int.toNat i) z0)).getD (Int.toNat i) z0))+(Ze (ss.getD (Int.toNat i) z0))))))] [0,1,5,6,7,20,21] (ac c1 (ac c2 (ac n1 (ac (Jy n1) (ac n2 (ac (Vk (r:=rs.getD (Int.toNat i) z0) n3 n2) (ac c3 (ac n2 (ac (Vj n4 n2) (ac n5 (ac (Jy n5) (ac n6 (ac n2 (ac (Vk (r:=cn ((Ze ((os.set (Int.toNat i) (rs.getD (Int.toNat i) z0)).getD (Int.toNat i) z0))+(Ze (ss.getD (Int.toNat i) z0)))) n4 n2) a0)))))))))))))))
theorem Zs3 (rs:List Rn) (ss:List Rn) (n:Int) (m:Int) (k:Nat) (os:List Rn) (l:Int) (i:Int)  (c1:(decide (i<l))=true) (c2:(decide (i<n))=true) (c3:(decide (i<m))=false) (n1:0<=i/\i<(rs.length:Int)) (n2:0<=i/\i<(k:Int)) (n3:os.length=k):Za Yir Rg (Dk rs ss n m k os l i) .norm (Dk rs ss n m k (os.set (Int.toNat i) (rs.getD (Int.toNat i) z0)) l (i64.wrap (i+1))):=(Za.go Qr 400 [.b true,.b true,.v (Z4 (rs.getD (Int.toNat i) z0)),.l (pc (os.set (Int.toNat i) (rs.getD (Int.toNat i) z0))),.b false] [0,1,5,6,7,20,21] (ac c1 (ac c2 (ac n1 (ac (Jy n1) (ac n2 (ac (Vk (r:=rs.getD (Int.toNat i) z0) n3 n2) (ac c3 a0))))))))
theorem Zs2 (rs:List Rn) (ss:List Rn) (n:Int) (m:Int) (k:Nat) (os:List Rn) (l:Int) (i:Int)  (c1:(decide (i<l))=true) (c2:(decide (i<n))=false) (c3:(decide (i<m))=true) (n1:0<=i/\i<(k:Int)) (n2:os.length=k) (n3:0<=i/\i<(ss.length:Int)) (n4:Zc Yir 77 [Z4 (os.getD (Int.toNat i) z0),Z4 (ss.getD (Int.toNat i) z0)] (Zi ((Ze (os.getD (Int.toNat i) z0))+(Ze (ss.getD (Int.toNat i) z0))))):Za Yir Rg (Dk rs ss n m k os l i) .norm (Dk rs ss n m k (os.set (Int.toNat i) (cn ((Ze (os.getD (Int.toNat i) z0))+(Ze (ss.getD (Int.toNat i) z0))))) l (i64.wrap (i+1))):=(Za.go Qr 400 [.b true,.b false,.b true,.v (Z4 (os.getD (Int.toNat i) z0)),.v (Z4 (ss.getD (Int.toNat i) z0)),.r (Zi ((Ze (os.getD (Int.toNat i) z0))+(Ze (ss.getD (Int.toNat i) z0)))),.l (pc (os.set (Int.toNat i) (cn ((Ze (os.getD (Int.toNat i) z0))+(Ze (ss.getD (Int.toNat i) z0))))))] [0,1,5,6,7,20,21] (ac c1 (ac c2 (ac c3 (ac n1 (ac (Vj n2 n1) (ac n3 (ac (Jy n3) (ac n4 (ac n1 (ac (Vk (r:=cn ((Ze (os.getD (Int.toNat i) z0))+(Ze (ss.getD (Int.toNat i) z0)))) n2 n1) a0)))))))))))
theorem Zs1 (rs:List Rn) (ss:List Rn) (n:Int) (m:Int) (k:Nat) (os:List Rn) (l:Int) (i:Int)  (c1:(decide (i<l))=false):Za Yir Rg (Dk rs ss n m k os l i) (.exit 0) (Dk rs ss n m k os l i):=(Za.go Qr 400 [.b false] [0,1,5,6,7,20,21] (ac c1 a0))
def Kt (rs ss:List Rn) (a b j:Nat):Rn:=if j<b then cn (Ze (if j<a then rs.getD j z0 else z0)+Ze (ss.getD j z0)) else (if j<a then rs.getD j z0 else z0)
theorem Zmw {rs ss:List Rn} {a b:Nat} (ha:a<=rs.length) (hb:b<=ss.length) (hN:rs.length<=1048576) (hM:ss.length<=1048576) (hr:∀ r∈rs,Ji 1048575 r) (hs:∀ r∈ss,Ji 1048575 r) :
  Za Yir (.loop Rg) (Dk rs ss a b (max a b) (List.replicate (max a b) z0) (max a b:Nat) 0) (.exit 0) (Dk rs ss a b (max a b) ((List.range (max a b)).map (Kt rs ss a b)) (max a b:Nat) (max a b:Nat)):=by
 have h:=Za.up (prog:=Yir) (c:=Rg) (ex := .exit 0) (fin:=Dk rs ss a b (max a b) ((List.range (max a b)).map (Kt rs ss a b)) (max a b:Nat) (max a b:Nat))
  (fun i=>Dk rs ss a b (max a b) (Uh (Kt rs ss a b) i (max a b-i)) (max a b:Nat) (i:Nat)) (max a b) (by nofun) ?_ ?_ 0 (Nat.zero_le _)
 ·simp only[Gj,Nat.sub_zero] at h;exact h
 ·intro i hi;obtain⟨r,hr'⟩:∃ r,max a b-i=r+1:=⟨max a b-i-1,by omega⟩;have e2:max a b-(i+1)=r:=by omega
  have ei:i64.wrap ((i:Int)+1)=((i+1:Nat):Int):=by rw[w64 (by omega) (by omega)];omega
  have hlen:(Uh (Kt rs ss a b) i (r+1)).length=max a b:=by rw[W3];omega
  have hz:=Zfu (Kt rs ss a b) i r;have hset:=Dd (Kt rs ss a b) i r;obtain⟨gr1,gr2⟩:=Qh hr i;obtain⟨gs1,gs2⟩:=Qh hs i;simp only[hr',e2];generalize Uh (Kt rs ss a b) i (r+1)=os at *
  by_cases h1:i<a <;> by_cases h2:i<b
  ·have ho:(os.set i (rs.getD i z0)).getD i z0=rs.getD i z0:=by simp[List.getD_eq_getElem?_getD,show i<os.length by omega]
   have k:=Zs4 rs ss a b (max a b) os (max a b:Nat) (i:Nat) (by simp;omega) (by simp;omega) (by simp;omega) (by omega) (by omega) hlen (by simpa using hlen) (by omega) (by
    simp only[Int.toNat_natCast,ho];exact D8 gr1 gs1 (by omega) (by omega))
   refine k.to rfl ?_;simp only[Int.toNat_natCast,ei,ho,List.set_set];rw[<- hset];simp only[Kt,if_pos h1,if_pos h2]
  ·have k:=Zs3 rs ss a b (max a b) os (max a b:Nat) (i:Nat) (by simp;omega) (by simp;omega) (by simp;omega) (by omega) (by omega) hlen;refine k.to rfl ?_;simp only[Int.toNat_natCast,ei];rw[<- hset];simp only[Kt,if_pos h1,if_neg h2]
  ·have k:=Zs2 rs ss a b (max a b) os (max a b:Nat) (i:Nat) (by simp;omega) (by simp;omega) (by simp;omega) (by omega) hlen (by omega) (by
    simp only[Int.toNat_natCast,hz];exact D8 (Az 0).1 gs1 (by decide) (by omega))
   refine k.to rfl ?_;simp only[Int.toNat_natCast,ei,hz];rw[<- hset];simp only[Kt,if_neg h1,if_pos h2]
  ·omega
 ·have k:=Zs1 rs ss a b (max a b) ((List.range (max a b)).map (Kt rs ss a b)) (max a b:Nat) (max a b:Nat) (by simp);simp only[Nat.sub_self,Gk];exact k
theorem Zrn (rs ss os ts:List Rn) (drs dss:Int) (k M:Nat) (n1:Zc Yir 34 [.sl rs.length (pc rs)] (.int .i64 drs)) (n2:Zc Yir 34 [.sl ss.length (pc ss)] (.int .i64 dss)) (n3:0<=(if (i64.wrap (dss+1))>(i64.wrap (drs+1)) then (i64.wrap (dss+1)) else (i64.wrap (drs+1)))/\(if (i64.wrap (dss+1))>(i64.wrap (drs+1)) then (i64.wrap (dss+1)) else (i64.wrap (drs+1)))<=1048576) (hl4:Za Yir (.loop Rg) ((.val (.sl rs.length (pc rs))::(.val (.sl ss.length (pc ss))::(dds 3 (.val (.int .i64 (i64.wrap (drs+1)))::(.val (.int .i64 (i64.wrap (dss+1)))::(.own 2 (Int.toNat (if (i64.wrap (dss+1))>(i64.wrap (drs+1)) then (i64.wrap (dss+1)) else (i64.wrap (drs+1)))) (J3 [.bool false,.sl 0 []] (Int.toNat (if (i64.wrap (dss+1))>(i64.wrap (drs+1)) then (i64.wrap (dss+1)) else (i64.wrap (drs+1)))))::(dds 12 (.val (.int .i64 (((Int.toNat (if (i64.wrap (dss+1))>(i64.wrap (drs+1)) then (i64.wrap (dss+1)) else (i64.wrap (drs+1)))):Nat):Int))::(.val (.int .i64 0)::(dds 30 []))))))))))) (.exit 0) (Dk rs ss (i64.wrap (drs+1)) (i64.wrap (dss+1)) M os M M)) (n5:Zc Yir 95 [.sl M (pc os)] (.fresh 2 k (pc ts))):Zc Yir 128 [.sl rs.length (pc rs),.sl ss.length (pc ss)] (.fresh 2 k (pc ts)):=Zc.of_bodyW (fn:=Zh2) (s:=(dds 4 (.own 2 k (pc ts)::(dds 47 [])))) (ex := .ret) rfl rfl (Za.asc (Za.asc (Za.csi (Za.seq (Za.go Qr 400 [.r (.int .i64 drs),.r (.int .i64 dss)] [0,1,5,6,7,20,21] (ac n1 (ac n2 (ac n3 a0)))) (Za.seq (Za.block hl4) (Za.go Qr 400 [.r (.fresh 2 k (pc ts))] [4] (ac n5 a0))))))) (by nofun) rfl
theorem Hk (xs:List Int) {j:Nat} (h:Zt xs xs.length<=j):xs.getD j 0=0:=by
 rcases Nat.lt_or_ge j xs.length with g | g
 ·exact Gy xs xs.length j h g
 ·exact Qi g
theorem Zeg (rs ss:List Rn) (j:Nat):Ze (Kt rs ss (Zt (Zf rs) rs.length) (Zt (Zf ss) ss.length) j)=(Zf rs).getD j 0+(Zf ss).getD j 0:=by
 have h1:=Je rs j;have h2:=Je ss j;unfold Kt;by_cases g1:j<Zt (Zf rs) rs.length <;> by_cases g2:j<Zt (Zf ss) ss.length
 ·rw[if_pos g1,if_pos g2,Zv,h1,h2]
 ·have:=Hk (Zf ss) (j:=j) (by rw[Zu];omega);rw[if_pos g1,if_neg g2,h1,this,Int.add_zero]
 ·have:=Hk (Zf rs) (j:=j) (by rw[Zu];omega);rw[if_neg g1,if_pos g2,Zv,Rw,h2,this]
 ·have k1:=Hk (Zf ss) (j:=j) (by rw[Zu];omega);have k2:=Hk (Zf rs) (j:=j) (by rw[Zu];omega);rw[if_neg g1,if_neg g2,Rw,k1,k2];rfl
theorem Zbu {K:Nat} {rs ss:List Rn} (hr:∀ r∈rs,Ji K r) (hs:∀ r∈ss,Ji K r) (a b j:Nat):Ji (K+1) (Kt rs ss a b j):=by
 have h1:=Qh hr j;have h2:=Qh hs j;unfold Kt;split
 ·split
  ·exact Q5 (h1.fits.add h2.fits)
  ·exact Q5 ((Az K).fits.add h2.fits)
 ·split
  ·exact h1.mono (by omega)
  ·exact Az _
theorem Zgl {K:Nat} {rs ss:List Rn} (hr:∀ r∈rs,Ji K r) (hs:∀ r∈ss,Ji K r) (hK:K<1048576) (hN:rs.length<=1048576) (hM:ss.length<=1048576) :
  Zc Yir 128 [.sl rs.length (pc rs),.sl ss.length (pc ss)] (.fresh 2 (Gs (Zf rs) (Zf ss)).length (pk (Gs (Zf rs) (Zf ss)))):=by
 have hr':∀ r∈rs,Ji 1048575 r:=fun r h=>(hr r h).mono (by omega);have hs':∀ r∈ss,Ji 1048575 r:=fun r h=>(hs r h).mono (by omega);have d1:=Uy (fun r h=>(hr r h).mono (by omega)) hN;have d2:=Uy (fun r h=>(hs r h).mono (by omega)) hM;have l1:=Vh (Zf rs) rs.length;have l2:=Vh (Zf ss) ss.length;have hl:=Zmw l1 l2 hN hM hr' hs';have hg:∀ r∈(List.range (max (Zt (Zf rs) rs.length) (Zt (Zf ss) ss.length))).map (Kt rs ss (Zt (Zf rs) rs.length) (Zt (Zf ss) ss.length)),Ji 1048576 r:=L5 fun i _=>(Zbu hr hs _ _ i).mono (by omega);have ht:=Wt hg (by simp;omega);have e:Zj (Zf ((List.range (max (Zt (Zf rs) rs.length) (Zt (Zf ss) ss.length))).map (Kt rs ss (Zt (Zf rs) rs.length) (Zt (Zf ss) ss.length))))=Gs (Zf rs) (Zf ss):=by
  rw[<- Aj];apply V2;intro j;rw[Xa,Fq];split
  ·exact Zeg rs ss j
  ·rename_i h;rw[Hk (Zf rs) (j:=j) (by rw[Zu];omega),Hk (Zf ss) (j:=j) (by rw[Zu];omega)];rfl
 rw[e] at ht;have e1:i64.wrap ((((Zt (Zf rs) rs.length:Nat):Int)-1)+1)=((Zt (Zf rs) rs.length:Nat):Int):=by rw[w64 (by omega) (by omega)];omega
 have e2:i64.wrap ((((Zt (Zf ss) ss.length:Nat):Int)-1)+1)=((Zt (Zf ss) ss.length:Nat):Int):=by rw[w64 (by omega) (by omega)];omega
 have e3:(if ((Zt (Zf ss) ss.length:Nat):Int)>((Zt (Zf rs) rs.length:Nat):Int) then ((Zt (Zf ss) ss.length:Nat):Int) else ((Zt (Zf rs) rs.length:Nat):Int))=((max (Zt (Zf rs) rs.length) (Zt (Zf ss) ss.length):Nat):Int):=by split <;> omega
 rw[List.length_map,List.length_range] at ht;exact Zrn rs ss _ _ _ _ _ (max (Zt (Zf rs) rs.length) (Zt (Zf ss) ss.length)) d1 d2 (by rw[e1,e2,e3];omega) (by rw[e1,e2,e3,Int.toNat_natCast,Md];exact hl) ht
end Go.Proofs.Ythdpfjffdipipaa
