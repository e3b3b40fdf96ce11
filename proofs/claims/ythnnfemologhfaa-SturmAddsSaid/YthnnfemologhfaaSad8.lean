/- Texts of the proof of SturmAdds, packed by pack.py: part 8 of 15. -/
import Derived.Test.YthnnfemologhfaaSad7
namespace Go.Ai
open Go.IntKind (i64 u64 u32)
def B2 (g:Int) (vs:List Int) (j:Nat):Nat→Nat→List Int→Int→Int→List Int × Int × Int
 | 0,_,us,b,c=>(us,b,c)
 | r+1,i,us,b,c=>B2 g vs j r (i+1) (us.set (i+j) ((us.getD (i+j) 0-(g*vs.getD i 0+c) % 4294967296-b) % 4294967296))
   (if us.getD (i+j) 0-(g*vs.getD i 0+c) % 4294967296-b<0 then 1 else 0) ((g*vs.getD i 0+c) / 4294967296)
theorem Zby {g v c:Int} (hg:0≤g∧g<4294967296) (hv:0≤v∧v<4294967296) (hc:0≤c∧c<4294967296):0≤g*v+c∧g*v+c<18446744073709551616:=by
 have h1:=Int.mul_nonneg hg.1 hv.1
 have h2:=Int.mul_le_mul (show g≤4294967295 by omega) (show v≤4294967295 by omega) hv.1 (by omega)
 omega
theorem Zbz {g:Int} {vs:List Int} {j:Nat} (hg:0≤g∧g<4294967296) (hv:U32 vs):∀ (r i:Nat) (us:List Int) (b c:Int),r+i=vs.length→j+vs.length≤us.length→U32 us→0≤b∧b≤1→0≤c∧c<4294967296 →
  (B2 g vs j r i us b c).1.length=us.length∧U32 (B2 g vs j r i us b c).1∧(0≤(B2 g vs j r i us b c).2.1∧(B2 g vs j r i us b c).2.1≤1)∧(0≤(B2 g vs j r i us b c).2.2∧(B2 g vs j r i us b c).2.2<4294967296) ∧
  Zo (B2 g vs j r i us b c).1=Zo us-4294967296^(i+j)*(g*Zo (vs.drop i)+b+c)+4294967296^(j+vs.length)*((B2 g vs j r i us b c).2.1+(B2 g vs j r i us b c).2.2) ∧
  ∀ t,t<i+j∨j+vs.length≤t→(B2 g vs j r i us b c).1.getD t 0=us.getD t 0:=by
 intro r
 induction r with
 | zero =>
  intro i us b c hi _ hu hb hc
  refine⟨rfl,hu,hb,hc,?_,fun t _=>rfl⟩
  have:i=vs.length:=by omega
  subst this
  rw[Xv (Nat.le_refl _),Nat.add_comm]
  simp only[B2,Int.mul_zero,Int.zero_add]
  omega
 | succ r ih =>
  intro i us b c hi hl hu hb hc
  have hvi:=Zz hv i
  have hui:=Zz hu (i+j)
  have hw:=Zby hg hvi hc
  simp only[B2]
  generalize hp:g*vs.getD i 0+c=p at *
  generalize hd:us.getD (i+j) 0-p % 4294967296-b=d at *
  obtain⟨g1,g2,g3,g4,g5,g6⟩:=ih (i+1) (us.set (i+j) (d % 4294967296)) (if d<0 then 1 else 0) (p / 4294967296) (by omega) (by simpa using hl) (Q7 hu (by omega)) (by split <;> omega) (by omega)
  refine⟨by simpa using g1,g2,g3,g4,?_,fun t ht => ?_⟩
  ·rw[g5,J3 _ _ _ (by omega),Q5 vs i,show i+1+j=(i+j)+1 by omega,Int.pow_succ]
   generalize (4294967296:Int)^(i+j)=P at *
   generalize Zo (vs.drop (i+1))=V at *
   have e1:d % 4294967296=d+4294967296*(if d<0 then 1 else 0):=by split <;> omega
   rw[e1]
   generalize (if d<0 then (1:Int) else 0)=k at *
   have e2:p=4294967296*(p / 4294967296)+p % 4294967296:=by omega
   generalize p / 4294967296=ph at *
   generalize p % 4294967296=pl at *
   generalize us.getD (i+j) 0=u at *
   generalize vs.getD i 0=v at *
   have e3:d=u-pl-b:=by omega
   have e4:c=4294967296*ph+pl-g*v:=by omega
   subst e3
   rw[e4]
   grind
  ·rw[g6 t (by omega),Qf (by omega)]
def Mh (vs:List Int) (j:Nat):Nat→Nat→List Int→Int→List Int × Int
 | 0,_,us,c=>(us,c)
 | r+1,i,us,c=>Mh vs j r (i+1) (us.set (i+j) ((us.getD (i+j) 0+vs.getD i 0+c) % 4294967296)) ((us.getD (i+j) 0+vs.getD i 0+c) / 4294967296)
theorem Zdo {vs:List Int} {j:Nat} (hv:U32 vs):∀ (r i:Nat) (us:List Int) (c:Int),r+i=vs.length→j+vs.length≤us.length→U32 us→0≤c∧c≤1 →
  (Mh vs j r i us c).1.length=us.length∧U32 (Mh vs j r i us c).1∧(0≤(Mh vs j r i us c).2∧(Mh vs j r i us c).2≤1) ∧
  Zo (Mh vs j r i us c).1=Zo us+4294967296^(i+j)*(Zo (vs.drop i)+c)-4294967296^(j+vs.length)*(Mh vs j r i us c).2 ∧
  ∀ t,t<i+j∨j+vs.length≤t→(Mh vs j r i us c).1.getD t 0=us.getD t 0:=by
 intro r
 induction r with
 | zero =>
  intro i us c hi _ hu hc
  refine⟨rfl,hu,hc,?_,fun t _=>rfl⟩
  have:i=vs.length:=by omega
  subst this
  rw[Xv (Nat.le_refl _),Nat.add_comm]
  simp only[Mh,Int.zero_add]
  omega
 | succ r ih =>
  intro i us c hi hl hu hc
  have hvi:=Zz hv i
  have hui:=Zz hu (i+j)
  simp only[Mh]
  generalize hd:us.getD (i+j) 0+vs.getD i 0+c=d at *
  obtain⟨g1,g2,g3,g4,g5⟩:=ih (i+1) (us.set (i+j) (d % 4294967296)) (d / 4294967296) (by omega) (by simpa using hl) (Q7 hu (by omega)) (by omega)
  refine⟨by simpa using g1,g2,g3,?_,fun t ht => ?_⟩
  ·rw[g4,J3 _ _ _ (by omega),Q5 vs i,show i+1+j=(i+j)+1 by omega,Int.pow_succ]
   generalize (4294967296:Int)^(i+j)=P at *
   generalize Zo (vs.drop (i+1))=V at *
   have e2:d=4294967296*(d / 4294967296)+d % 4294967296:=by omega
   generalize d / 4294967296=ph at *
   generalize d % 4294967296=pl at *
   generalize us.getD (i+j) 0=u at *
   generalize vs.getD i 0=v at *
   have e3:c=4294967296*ph+pl-u-v:=by omega
   rw[e3]
   grind
  ·rw[g5 t (by omega),Qf (by omega)]
structure Dig (n:Nat) (V W top nxt x y z:Int):Prop where
 vlow:0≤V-(top*4294967296+nxt)*4294967296^n∧V-(top*4294967296+nxt)*4294967296^n<4294967296^n
 wlow:0≤W-((x*4294967296+y)*4294967296+z)*4294967296^n∧W-((x*4294967296+y)*4294967296+z)*4294967296^n<4294967296^n
 htop:2147483648≤top∧top<4294967296
 hnxt:0≤nxt∧nxt<4294967296
 hx:0≤x∧x<4294967296
 hy:0≤y∧y<4294967296
 hz:0≤z∧z<4294967296
 small:W<4294967296*V
structure DigI (V W top num g r:Int):Prop where
 sum:g*top+r=num
 r0:0≤r
 g0:0≤g
 up:W<(g+1)*V
 gle:g≤4294967297
section
variable {n:Nat} {V W top nxt x y z:Int}
theorem Dig.x_le (h:Dig n V W top nxt x y z):x≤top:=by
 have hp:=Jw n
 obtain⟨h1,h2⟩:=h.vlow
 obtain⟨h3,h4⟩:=h.wlow
 have:=h.hnxt;have:=h.hy;have:=h.hz;have hs:=h.small
 apply Int.not_lt.1
 intro hx
 generalize (4294967296:Int)^n=P at *
 have e1:(x*4294967296+y)*4294967296+z≥(top+1)*4294967296*4294967296:=by omega
 have e2:=Int.mul_le_mul_of_nonneg_right e1 (show 0≤P by omega)
 have e3:top*4294967296+nxt+1≤(top+1)*4294967296:=by omega
 have e4:=Int.mul_le_mul_of_nonneg_right e3 (show 0≤P by omega)
 have e5:(top+1)*4294967296*4294967296*P=4294967296*((top+1)*4294967296*P):=by grind
 have e6:(top*4294967296+nxt+1)*P=(top*4294967296+nxt)*P+P:=by grind
 omega
theorem Dig.Vpos (h:Dig n V W top nxt x y z):4294967296*4294967296^n≤V:=by
 have hp:=Jw n
 obtain⟨h1,h2⟩:=h.vlow
 have:=h.hnxt;have:=h.htop
 generalize (4294967296:Int)^n=P at *
 have:=Int.mul_le_mul_of_nonneg_right (show (4294967296:Int)≤top*4294967296+nxt by omega) (show 0≤P by omega)
 omega
theorem Dig.init (h:Dig n V W top nxt x y z):DigI V W top (x*4294967296+y) ((x*4294967296+y) / top) ((x*4294967296+y) % top):=by
 have hxl:=h.x_le
 have ht:=h.htop;have hx:=h.hx;have hy:=h.hy
 have e:=Int.mul_ediv_add_emod (x*4294967296+y) top
 have r0:=Int.emod_nonneg (x*4294967296+y) (show top ≠ 0 by omega)
 have r1:=Int.emod_lt_of_pos (x*4294967296+y) (show 0<top by omega)
 have g0:0≤(x*4294967296+y) / top:=Int.ediv_nonneg (by omega) (by omega)
 have g1:(x*4294967296+y) / top≤4294967297:=by
  apply Int.lt_add_one_iff.1
  apply Int.ediv_lt_of_lt_mul (by omega)
  omega
 generalize hg:(x*4294967296+y) / top=g at *
 generalize hr:(x*4294967296+y) % top=r at *
 refine⟨by rw[Int.mul_comm];exact e,r0,g0,?_,g1⟩
 have hp:=Jw n
 obtain⟨h1,h2⟩:=h.vlow
 obtain⟨h3,h4⟩:=h.wlow
 have hnx:=h.hnxt;have hz:=h.hz
 generalize (4294967296:Int)^n=P at *
 have e1:x*4294967296+y+1≤(g+1)*top:=by
  have:(g+1)*top=top*g+top:=by grind
  omega
 have e2:(x*4294967296+y)*4294967296+z+1≤(x*4294967296+y+1)*4294967296:=by omega
 have e3:=Int.mul_le_mul_of_nonneg_right e2 (show 0≤P by omega)
 have e4:=Int.mul_le_mul_of_nonneg_right e1 (show 0≤4294967296*P by omega)
 have e5:top*(4294967296*P)≤V:=by
  have:(top*4294967296+nxt)*P=top*(4294967296*P)+nxt*P:=by grind
  have:=Int.mul_nonneg hnx.1 (show 0≤P by omega)
  omega
 have e6:=Int.mul_le_mul_of_nonneg_left e5 (show 0≤g+1 by omega)
 have e7:(g+1)*(top*(4294967296*P))=(g+1)*top*(4294967296*P):=by grind
 have e8:((x*4294967296+y)*4294967296+z+1)*P=((x*4294967296+y)*4294967296+z)*P+P:=by grind
 have e9:(x*4294967296+y+1)*4294967296*P=(x*4294967296+y+1)*(4294967296*P):=by grind
 omega
theorem Dig.step (h:Dig n V W top nxt x y z) {g r:Int} (i:DigI V W top (x*4294967296+y) g r) (hc:4294967296≤g∨r*4294967296+z<g*nxt):DigI V W top (x*4294967296+y) (g-1) (r+top):=by
 have ht:=h.htop
 have hVp:=h.Vpos
 have hp:=Jw n
 have e0:(g-1)*top+(r+top)=g*top+r:=by grind
 have hg1:1≤g:=by
  rcases hc with h1 | h1
  ·omega
  ·apply Int.not_lt.1
   intro hg
   have:g=0:=by have:=i.g0;omega
   subst this
   have:=i.r0;have:=h.hz
   omega
 refine⟨by rw[e0];exact i.sum,by have:=i.r0;omega,by omega,?_,by have:=i.gle;omega⟩
 rw[Int.sub_add_cancel]
 obtain⟨h1,h2⟩:=h.vlow
 obtain⟨h3,h4⟩:=h.wlow
 have hs:=h.small
 rcases hc with hc | hc
 ·have:=Int.mul_le_mul_of_nonneg_right hc (show 0≤V by omega)
  omega
 ·have hsum:=i.sum
  rw[← hsum] at h3 h4
  generalize (4294967296:Int)^n=P at *
  have e1:(g*top+r)*4294967296+z+1≤g*(top*4294967296+nxt):=by
   have:g*(top*4294967296+nxt)=g*top*4294967296+g*nxt:=by grind
   omega
  have e2:=Int.mul_le_mul_of_nonneg_right e1 (show 0≤P by omega)
  have e3:(top*4294967296+nxt)*P≤V:=by omega
  have e4:=Int.mul_le_mul_of_nonneg_left e3 (show 0≤g by omega)
  have e5:g*(top*4294967296+nxt)*P=g*((top*4294967296+nxt)*P):=by grind
  have e6:((g*top+r)*4294967296+z+1)*P=((g*top+r)*4294967296+z)*P+P:=by grind
  omega
theorem Dig.small_g (h:Dig n V W top nxt x y z) {g r:Int} (i:DigI V W top (x*4294967296+y) g r) (hr:4294967296≤r):g<4294967296:=by
 have hxl:=h.x_le
 have ht:=h.htop;have hy:=h.hy
 apply Int.not_le.1
 intro hg
 have:=Int.mul_le_mul_of_nonneg_right hg (show 0≤top by omega)
 have:=i.sum
 omega
theorem Dig.out (h:Dig n V W top nxt x y z) {g r:Int} (i:DigI V W top (x*4294967296+y) g r) (hg:g<4294967296) (hc:4294967296≤r∨g*nxt≤r*4294967296+z):g*V<W+V:=by
 have ht:=h.htop
 have hVp:=h.Vpos
 have hp:=Jw n
 have hnx:=h.hnxt;have hz:=h.hz
 have hc':g*nxt≤r*4294967296+z:=by
  rcases hc with hc | hc
  ·have:=Int.mul_le_mul (show g≤4294967295 by omega) (show nxt≤4294967295 by omega) hnx.1 (by omega)
   omega
  ·exact hc
 obtain⟨h1,h2⟩:=h.vlow
 obtain⟨h3,h4⟩:=h.wlow
 have hsum:=i.sum
 have hg0:=i.g0
 rw[← hsum] at h3 h4
 generalize (4294967296:Int)^n=P at *
 have e1:g*(top*4294967296+nxt)≤(g*top+r)*4294967296+z:=by
  have:g*(top*4294967296+nxt)=g*top*4294967296+g*nxt:=by grind
  omega
 have e2:=Int.mul_le_mul_of_nonneg_right e1 (show 0≤P by omega)
 have e5:g*(top*4294967296+nxt)*P=g*((top*4294967296+nxt)*P):=by grind
 have e6:=Int.mul_le_mul (Int.le_of_lt hg) (show V-(top*4294967296+nxt)*P≤P by omega) (by omega) (show (0:Int)≤4294967296 by omega)
 have e7:g*(V-(top*4294967296+nxt)*P)=g*V-g*((top*4294967296+nxt)*P):=by grind
 have e8:g*(V-(top*4294967296+nxt)*P)<4294967296*P:=by
  rcases Int.lt_or_eq_of_le hg0 with q | q
  ·have:=Int.mul_lt_mul_of_pos_left h2 q
   have:=Int.mul_le_mul_of_nonneg_right (Int.le_of_lt hg) (show 0≤P by omega)
   omega
  ·rw[← q,Int.zero_mul];omega
 omega
end
theorem dig_of {us vs:List Int} {j m:Nat} (hu:U32 us) (hv:U32 vs) (hm:vs.length=m+2) (hj:j+m+2<us.length) (ht:2147483648≤vs.getD (m+1) 0) (hW:Zo (us.drop (j+1))<Zo vs) :
  Dig m (Zo vs) (Zo (us.drop j)) (vs.getD (m+1) 0) (vs.getD m 0) (us.getD (j+m+2) 0) (us.getD (j+m+1) 0) (us.getD (j+m) 0):=by
 have hV:=Vi hv
 have z:=Ki (X5 hu (j+1)) (n:=m+2) (V:=Zo vs) (by rw[hm] at hV;omega) hW
 rw[List.drop_drop] at z
 have e1:=Xa (us.drop j) (j:=m) (by simp;omega)
 rw[List.drop_drop] at e1
 have d1:=Q5 us (j+m)
 have d2:=Q5 us (j+m+1)
 have d3:=Q5 us (j+m+2)
 rw[show j+m+2+1=j+1+(m+2) by omega,z] at d3
 have l1:=Wn (X5 hu j) m
 have l0:=Z3 (Ui (X5 hu j) m)
 have f1:=Xa vs (j:=m) (by omega)
 have c1:=Q5 vs m
 have c2:=Q5 vs (m+1)
 have c3:=Xv (xs:=vs) (i:=m+1+1) (by omega)
 rw[c3] at c2
 have k1:=Wn hv m
 have k0:=Z3 (Ui hv m)
 have g1:=Q5 us j
 have gj:=Zz hu j
 refine⟨?_,?_,⟨ht,(Zz hv _).2⟩,Zz hv _,Zz hu _,Zz hu _,Zz hu _,by omega⟩
 ·rw[f1,c1,c2,Int.mul_comm (_+_) (4294967296^m)]
  simp only[Int.mul_zero,Int.add_zero]
  rw[show vs.getD (m+1) 0*4294967296+vs.getD m 0=vs.getD m 0+4294967296*vs.getD (m+1) 0 by omega]
  omega
 ·rw[e1,d1,d2,d3,Int.mul_comm (_+_) (4294967296^m)]
  simp only[Int.mul_zero,Int.add_zero]
  rw[show (us.getD (j+m+2) 0*4294967296+us.getD (j+m+1) 0)*4294967296+us.getD (j+m) 0=us.getD (j+m) 0+4294967296*(us.getD (j+m+1) 0+4294967296*us.getD (j+m+2) 0) by omega]
  omega
structure StepOk (us vs ws:List Int) (j:Nat) (q:Int):Prop where
 len:ws.length=us.length
 u32:U32 ws
 val:Zo ws=Zo us-4294967296^j*(q*Zo vs)
 low:Zo (ws.drop j)<Zo vs
theorem S0 {j:Nat} {a b:Int} (h:4294967296^j*a=4294967296^j*b):a=b:=Int.eq_of_mul_eq_mul_left (by have:=Jw j;omega) h
theorem Mz {us ws:List Int} {j:Nat} {k:Int} (hl:ws.length=us.length) (hj:j≤us.length) (h:∀ t,t<j→ws.getD t 0=us.getD t 0) (hv:Zo ws=Zo us+4294967296^j*k):Zo (ws.drop j)=Zo (us.drop j)+k:=by
 have e1:=Xa us hj
 have e2:=Xa ws (j:=j) (by omega)
 rw[Zge hl h] at e2
 apply S0 (j:=j)
 rw[Int.mul_add]
 omega
theorem Zau {us:List Int} {j n:Nat} (hj:j+n<us.length) (hz:Zo (us.drop (j+n+1))=0):Zo (us.drop j)=Zo ((us.drop j).take n)+4294967296^n*us.getD (j+n) 0:=by
 have e1:=Xa (us.drop j) (j:=n) (by simp;omega)
 rw[List.drop_drop] at e1
 have d1:=Q5 us (j+n)
 rw[hz,Int.mul_zero,Int.add_zero] at d1
 rw[e1,d1]
theorem Ti {us vs:List Int} {j:Nat} (hu:U32 us) (hv:U32 vs) (hj:j+vs.length<us.length) (hW:Zo (us.drop (j+1))<Zo vs) {g:Int} (hg:0≤g∧g<4294967296)
  (h1:Zo (us.drop j)<(g+1)*Zo vs) (h2:g*Zo vs<Zo (us.drop j)+Zo vs) :
  let m:=B2 g vs j vs.length 0 us 0 0
  let d:=m.1.getD (j+vs.length) 0-m.2.2-m.2.1
  (d≥0→StepOk us vs (m.1.set (j+vs.length) (d % 4294967296)) j g) ∧
  (d<0→StepOk us vs ((Mh vs j vs.length 0 (m.1.set (j+vs.length) (d % 4294967296)) 0).1.set (j+vs.length) (((Mh vs j vs.length 0 (m.1.set (j+vs.length) (d % 4294967296)) 0).1.getD (j+vs.length) 0+(Mh vs j vs.length 0 (m.1.set (j+vs.length) (d % 4294967296)) 0).2) % 4294967296)) j (g-1)∧1≤g):=by
 intro m d
 have hVlt:=Vi hv
 have z:=Ki (X5 hu (j+1)) (n:=vs.length) (V:=Zo vs) (by omega) hW
 rw[List.drop_drop,show j+1+vs.length=j+vs.length+1 by omega] at z
 obtain⟨m1,m2,m3,m4,m5,m6⟩:=Zbz hg hv vs.length 0 us 0 0 (by omega) (show j+vs.length≤us.length by omega) hu (by omega) (by omega)
 change m.1.length=us.length at m1
 change U32 m.1 at m2
 change 0≤m.2.1∧m.2.1≤1 at m3
 change 0≤m.2.2∧m.2.2<4294967296 at m4
 change Zo m.1=Zo us-4294967296^(0+j)*(g*Zo (vs.drop 0)+0+0)+4294967296^(j+vs.length)*(m.2.1+m.2.2) at m5
 change ∀ t,t<0+j∨j+vs.length≤t→m.1.getD t 0=us.getD t 0 at m6
 have hd:d=m.1.getD (j+vs.length) 0-m.2.2-m.2.1:=rfl
 clear_value d
 generalize hms:m.1=ms at *
 generalize m.2.1=b at *
 generalize m.2.2=c at *
 rw[Nat.zero_add,List.drop_zero,Int.add_zero,Int.add_zero] at m5
 have m6':=m6 (j+vs.length) (by omega)
 -- the window behind
 have w1:Zo (ms.drop j)=Zo (us.drop j)+(4294967296^vs.length*(b+c)-g*Zo vs):=by
  apply Mz m1 (by omega) (fun t ht=>m6 t (by omega))
  rw[m5,Int.pow_add,Int.mul_sub,Int.mul_assoc]
  omega
 have zz:Zo (ms.drop (j+vs.length+1))=0:=by
  have:ms.drop (j+vs.length+1)=us.drop (j+vs.length+1):=by
   apply List.ext_getElem?
   intro t
   rw[List.getElem?_drop,List.getElem?_drop]
   have:=m6 (j+vs.length+1+t) (by omega)
   rw[List.getD_eq_getElem?_getD,List.getD_eq_getElem?_getD] at this
   rcases Nat.lt_or_ge (j+vs.length+1+t) us.length with k | k
   ·rw[List.getElem?_eq_getElem k,List.getElem?_eq_getElem (by omega)] at this ⊢
    simpa using this
   ·rw[List.getElem?_eq_none k,List.getElem?_eq_none (by omega)]
  rw[this];exact z
 have w2:=Zau (us:=ms) (j:=j) (n:=vs.length) (by omega) zz
 have lo:=Wn (X5 m2 j) vs.length
 have lo0:=Z3 (Ui (X5 m2 j) vs.length)
 have hx:=Zz m2 (j+vs.length)
 have hX:ms.getD (j+vs.length) 0=d+b+c:=by omega
 rw[hX] at w2
 have hp:=Jw vs.length
 generalize hP:(4294967296:Int)^vs.length=P at *
 generalize hL:Zo ((ms.drop j).take vs.length)=L at *
 have w3:Zo (us.drop j)-g*Zo vs=L+P*d:=by
  rw[w1] at w2
  have e:P*(d+b+c)=P*d+P*(b+c):=by grind
  omega
 have e2:(g+1)*Zo vs=g*Zo vs+Zo vs:=by grind
 have lset:∀ v:Int,Zo (ms.set (j+vs.length) v)=Zo us-4294967296^j*(g*Zo vs)+4294967296^j*(P*(v-d)):=by
  intro v
  rw[J3 _ _ _ (by omega),m5,hX,Int.pow_add,hP]
  grind
 refine⟨fun hge => ?_,fun hlt => ?_⟩
 ·have hd0:d=0∨1≤d:=by omega
  have hd1:d<4294967296:=by omega
  refine⟨by simpa using m1,Q7 m2 (by omega),?_,?_⟩
  ·rw[lset,Int.emod_eq_of_lt hge hd1,Int.sub_self,Int.mul_zero,Int.mul_zero,Int.add_zero]
  ·rw[Mz (us:=us) (k := -(g*Zo vs)) (by simpa using m1) (by omega) (fun t ht=>by rw[Qf (by omega)];exact m6 t (by omega)) (by rw[lset,Int.emod_eq_of_lt hge hd1,Int.sub_self,Int.mul_zero,Int.mul_zero,Int.add_zero,Int.mul_neg];omega)]
   omega
 ·have hg1:1≤g:=by
   apply Int.not_lt.1
   intro hh
   have hg':g=0:=by omega
   have:=Z3 (X5 hu j)
   rw[hg',Int.zero_mul] at w3
   have:=Int.mul_le_mul_of_nonneg_left (show d ≤ -1 by omega) (show 0≤P by omega)
   omega
  refine⟨?_,hg1⟩
  have hu2:U32 (ms.set (j+vs.length) (d % 4294967296)):=Q7 m2 (by omega)
  obtain⟨a1,a2,a3,a4,a5⟩:=Zdo hv vs.length 0 (ms.set (j+vs.length) (d % 4294967296)) 0 (by omega) (show j+vs.length≤_ by rw[List.length_set];omega) hu2 (by omega)
  generalize Mh vs j vs.length 0 (ms.set (j+vs.length) (d % 4294967296)) 0=A at *
  have a6:=a5 (j+vs.length) (by omega)
  have hlen:A.1.length=us.length:=by rw[a1,List.length_set,m1]
  have hget:(ms.set (j+vs.length) (d % 4294967296)).getD (j+vs.length) 0=d % 4294967296:=by
   simp[List.getD_eq_getElem?_getD,show j+vs.length<ms.length by omega]
  rw[hget] at a6
  rw[a6]
  rw[Nat.zero_add,List.drop_zero,Int.add_zero,lset,Int.pow_add,hP] at a4
  -- value with the last limb v
  have aset:∀ v:Int,Zo (A.1.set (j+vs.length) v)=Zo us-4294967296^j*((g-1)*Zo vs)+4294967296^j*(P*(v-d-A.2)):=by
   intro v
   rw[J3 _ _ _ (by omega),a4,a6,Int.pow_add,hP]
   grind
  -- d+carry=0
  have hwA:∀ v:Int,Zo ((A.1.set (j+vs.length) v).drop j)=Zo (us.drop j)-(g-1)*Zo vs+P*(v-d-A.2):=by
   intro v
   have:=Mz (us:=us) (ws:=A.1.set (j+vs.length) v) (j:=j) (k:=P*(v-d-A.2)-(g-1)*Zo vs) (by simpa using hlen) (by omega) (fun t ht=>by rw[Qf (by omega),a5 t (by omega),Qf (by omega)];exact m6 t (by omega)) (by rw[aset];grind)
   omega
  have hge0:0≤Zo (us.drop j)-(g-1)*Zo vs:=by
   have:(g-1)*Zo vs=g*Zo vs-Zo vs:=by grind
   omega
  have hltV:Zo (us.drop j)-(g-1)*Zo vs<Zo vs:=by
   have h3:(g-1)*Zo vs=g*Zo vs-Zo vs:=by grind
   have h4:=Int.mul_le_mul_of_nonneg_left (show d ≤ -1 by omega) (show 0≤P by omega)
   omega
  have hz3:A.2 = -d:=by
   have q0:=hwA 0
   have q1:=Z3 (X5 (Q7 a2 (i:=j+vs.length) (v:=0) (by omega)) j)
   have zz2:Zo ((A.1.set (j+vs.length) 0).drop (j+vs.length+1))=0:=by
    have:(A.1.set (j+vs.length) 0).drop (j+vs.length+1)=ms.drop (j+vs.length+1):=by
     apply List.ext_getElem?
     intro t
     rw[List.getElem?_drop,List.getElem?_drop]
     have h5:=a5 (j+vs.length+1+t) (by omega)
     rw[Qf (by omega)] at h5
     have h6:(A.1.set (j+vs.length) 0).getD (j+vs.length+1+t) 0=ms.getD (j+vs.length+1+t) 0:=by rw[Qf (by omega)];exact h5
     rw[List.getD_eq_getElem?_getD,List.getD_eq_getElem?_getD] at h6
     rcases Nat.lt_or_ge (j+vs.length+1+t) us.length with k | k
     ·rw[List.getElem?_eq_getElem (by simp;omega),List.getElem?_eq_getElem (by omega)] at h6 ⊢
      simpa using h6
     ·rw[List.getElem?_eq_none (by simp;omega),List.getElem?_eq_none (by omega)]
    rw[this];exact zz
   have q2:=Zau (us:=A.1.set (j+vs.length) 0) (j:=j) (n:=vs.length) (by simp;omega) zz2
   have q3:(A.1.set (j+vs.length) 0).getD (j+vs.length) 0=0:=by simp[List.getD_eq_getElem?_getD,show j+vs.length<A.1.length by omega]
   have q4:=Wn (X5 (Q7 a2 (i:=j+vs.length) (v:=0) (by omega)) j) vs.length
   rw[hP] at q2 q4
   rw[q3,Int.mul_zero,Int.add_zero] at q2
   rw[q0] at q1 q2
   rw[← q2] at q4
   generalize Zo (us.drop j)-(g-1)*Zo vs=X at *
   have e5:P*(0-d-A.2)=P*(-d-A.2):=by rw[Int.zero_sub]
   rw[e5] at q1 q4
   have c1 : -d-A.2<1:=by
    apply Int.not_le.1
    intro hc
    have:=Int.mul_le_mul_of_nonneg_left hc (show 0≤P by omega)
    omega
   have c2 : -1 < -d-A.2:=by
    apply Int.not_le.1
    intro hc
    have:=Int.mul_le_mul_of_nonneg_left hc (show 0≤P by omega)
    omega
   omega
  have hv0:(d % 4294967296+A.2) % 4294967296=0:=by omega
  rw[hv0]
  refine⟨by simpa using hlen,Q7 a2 (by omega),?_,?_⟩
  ·rw[aset,show (0:Int)-d-A.2=0 by omega,Int.mul_zero,Int.mul_zero,Int.add_zero]
  ·rw[hwA,show (0:Int)-d-A.2=0 by omega,Int.mul_zero,Int.add_zero]
   exact hltV
end Go.Ai

namespace Go.Proofs.Ythnnfemologhfaa
open Go.IntKind (i64 u64 u32)
open Go.Ai
theorem w32 {n:Int} (h:0≤n∧n<4294967296):u32.wrap n=n:=by rw [Bu];omega
theorem Wl {n:Int} (h:0≤n∧n<18446744073709551616):u64.wrap n=n:=by rw [Jm];omega
theorem p32:(2:Int)^(min (Int.toNat 32) (IntKind.bits .u64))=4294967296:=by decide
theorem p63:(2:Int)^(min (Int.toNat 63) (IntKind.bits .u64))=9223372036854775808:=by decide
theorem fd32 (s:Int):Int.fdiv s (2^(min (Int.toNat 32) (IntKind.bits .u64)))=s / 4294967296:=by
 rw[p32,Int.fdiv_eq_ediv_of_nonneg _ (by decide)]
theorem fd63 (s:Int):Int.fdiv s (2^(min (Int.toNat 63) (IntKind.bits .u64)))=s / 9223372036854775808:=by
 rw[p63,Int.fdiv_eq_ediv_of_nonneg _ (by decide)]
theorem Zf5 {r x:Int} (hr:0≤r∧r<4294967296) (hx:0≤x∧x<4294967296) :
  u64.wrap ((BitVec.ofInt (IntKind.bits .u64) (u64.wrap (r*2^(min (Int.toNat 32) (IntKind.bits .u64)))) ||| BitVec.ofInt (IntKind.bits .u64) (u64.wrap x)).toNat)=r*4294967296+x:=by
 rw[p32,Wl (n:=r*4294967296) (by omega),Wl (n:=x) (by omega)]
 have:=or64 (q:=r) (c:=x) (s:=32) hr.1 (by rw[show (2:Int)^32=4294967296 by decide];omega) (by omega) (by rw[show (2:Int)^32=4294967296 by decide];exact hx)
 rw[show (2:Int)^32=4294967296 by decide] at this
 exact this
theorem or32 {q c:Int} {s:Nat} (hq:0≤q) (hs:q*2^s<4294967296) (hs':s≤32) (hc:0≤c∧c<2^s) :
  u32.wrap ((BitVec.ofInt (IntKind.bits .u32) c ||| BitVec.ofInt (IntKind.bits .u32) (q*2^s)).toNat)=q*2^s+c:=by
 obtain⟨a,rfl⟩:∃ a:Nat,q=a:=⟨q.toNat,by omega⟩
 obtain⟨b,rfl⟩:∃ b:Nat,c=b:=⟨c.toNat,by omega⟩
 have e1:(a:Int)*2^s=((a*2^s:Nat):Int):=by rw[Int.natCast_mul,Int.natCast_pow];rfl
 have hb:b<2^s:=by
  have:(b:Int)<((2^s:Nat):Int):=by rw[Int.natCast_pow];exact hc.2
  omega
 have h64:2^s≤2^32:=Nat.pow_le_pow_right (by decide) hs'
 have e64:2^32=4294967296:=by decide
 rw[e1] at hs ⊢
 show u32.wrap ((BitVec.ofInt 32 (b:Int) ||| BitVec.ofInt 32 ((a*2^s:Nat):Int)).toNat:Int)=_
 rw[BitVec.or_comm,BitVec.toNat_or,BitVec.ofInt_natCast,BitVec.ofInt_natCast,BitVec.toNat_ofNat,BitVec.toNat_ofNat,Nat.mod_eq_of_lt (by omega),Nat.mod_eq_of_lt (by omega),Nat.mul_comm a,← Nat.two_pow_add_eq_or_of_lt hb,Nat.mul_comm (2^s) a,Bu]
 have hsum:a*2^s+b<4294967296:=by
  have hd:a*2^s+2^s≤2^32:=by
   have hk:2^32=2^(32-s)*2^s:=by rw[← Nat.pow_add];congr 1;omega
   have h1:a<2^(32-s):=by
    rcases Nat.lt_or_ge a (2^(32-s)) with g | g
    ·exact g
    ·have:=Nat.mul_le_mul_right (2^s) g
     omega
   have h2:=Nat.mul_le_mul_right (2^s) (show a+1≤2^(32-s) by omega)
   rw[Nat.add_mul,Nat.one_mul] at h2
   omega
  omega
 omega
theorem Zrr {s:Nat} (hs:s≤32):(4294967296:Int)=2^(32-s)*2^s:=by rw [← Int.pow_add,show 32-s+s=32 by omega];decide
theorem Na {x:Int} {s:Nat} (hx:0≤x∧x<4294967296) (hs:s<32) :
  0≤x*2^s∧x*2^s<18446744073709551616∧x*2^s / 4294967296<2^s∧∃ q:Int,0≤q∧x*2^s % 4294967296=q*2^s:=by
 have hp:=Ju s
 have hp2:(2:Int)^s≤2147483648:=by
  have:=K9 (show s≤31 by omega);rwa [show (2:Int)^31=2147483648 by decide] at this
 have h0:=Int.mul_nonneg hx.1 (show (0:Int)≤2^s by omega)
 have h1:=Int.mul_le_mul (show x≤4294967295 by omega) hp2 (by omega) (by omega)
 have h2:=Int.mul_lt_mul_of_pos_right hx.2 hp
 refine⟨h0,by omega,by omega,?_⟩
 have e:(4294967296:Int)=2^(32-s)*2^s:=by
  rw[← Int.pow_add,show 32-s+s=32 by omega];decide
 refine⟨x % 2^(32-s),Int.emod_nonneg _ (by have:=Ju (32-s);omega),?_⟩
 rw[e,Int.mul_comm x,Int.mul_comm (2^(32-s)),Int.mul_emod_mul_of_pos _ _ hp,Int.mul_comm]
end Go.Proofs.Ythnnfemologhfaa

namespace Go.Proofs.Ythnnfemologhfaa
open Go.IntKind (i64 u64 u32)
open Go.Ai
set_option maxRecDepth 100000
def Zg9 (n:Nat):Nat:=if n=0 then 0 else Nat.log2 n+1
def Al (i:Int):Int:=(Zg9 i.toNat:Nat)
theorem Zg8:∀ n:Nat,n<256→(Jn[n]?).map (fun c=>(c.toNat:Int))=some ((Zg9 n:Nat):Int):=by
 have h:(List.range 256).all (fun n=>decide ((Jn[n]?).map (fun c=>(c.toNat:Int))=some ((Zg9 n:Nat):Int)))=true:=by decide +kernel
 intro n hn
 have:=List.all_eq_true.1 h n (by simpa using hn)
 simpa using this
theorem El (x:Int):((if 0≤(IntKind.u8.wrap x) then (Jn)[(Int.toNat (IntKind.u8.wrap x))]? else none).map fun c=>(c.toNat:Int))=some (Al (IntKind.u8.wrap x)):=by
 have hw:0≤IntKind.u8.wrap x∧IntKind.u8.wrap x<256:=by
  simp only[IntKind.wrap,IntKind.bits,IntKind.signed,Bool.false_and,Bool.false_eq_true,if_false]
  omega
 rw[if_pos hw.1]
 exact Zg8 _ (by omega)
def Rq (x:Int):Int :=
 match decide (x≥65536) with
 | true=>(match decide ((Int.fdiv x (2^(min (Int.toNat 16) (IntKind.bits .u32))))≥256) with
 | true=>(i64.wrap (24+(i64.wrap (Al (IntKind.u8.wrap (Int.fdiv (Int.fdiv x (2^(min (Int.toNat 16) (IntKind.bits .u32)))) (2^(min (Int.toNat 8) (IntKind.bits .u32)))))))))
 | false=>(i64.wrap (16+(i64.wrap (Al (IntKind.u8.wrap (Int.fdiv x (2^(min (Int.toNat 16) (IntKind.bits .u32))))))))))
 | false=>(match decide (x≥256) with
 | true=>(i64.wrap (8+(i64.wrap (Al (IntKind.u8.wrap (Int.fdiv x (2^(min (Int.toNat 8) (IntKind.bits .u32)))))))))
 | false=>(i64.wrap (0+(i64.wrap (Al (IntKind.u8.wrap x))))))
theorem Znd (x:Int)  : Ze Yir 123 [.int .u32 x] (.int .i64 (Rq x)):=by
 unfold Rq
 cases c1:(decide (x≥65536))
 ·cases c2:(decide (x≥256))
  ·exact Ze.script (r := .int .i64 (i64.wrap (0+(i64.wrap (Al (IntKind.u8.wrap x)))))) (ps:=[(decide (x≥65536))=false,(decide (x≥256))=false,((if 0≤(IntKind.u8.wrap x) then (Jn)[(Int.toNat (IntKind.u8.wrap x))]? else none).map fun c=>(c.toNat:Int))=some (Al (IntKind.u8.wrap x))]) Zq rfl 300 rfl [.b false, .b false, .v (.int .u8 (Al (IntKind.u8.wrap x)))] (by kernel_rfl) ⟨c1,c2,(El _),trivial⟩
  ·exact Ze.script (r := .int .i64 (i64.wrap (8+(i64.wrap (Al (IntKind.u8.wrap (Int.fdiv x (2^(min (Int.toNat 8) (IntKind.bits .u32)))))))))) (ps:=[(decide (x≥65536))=false,(decide (x≥256))=true,¬ (8:Int)<0,((if 0≤(IntKind.u8.wrap (Int.fdiv x (2^(min (Int.toNat 8) (IntKind.bits .u32))))) then (Jn)[(Int.toNat (IntKind.u8.wrap (Int.fdiv x (2^(min (Int.toNat 8) (IntKind.bits .u32))))))]? else none).map fun c=>(c.toNat:Int))=some (Al (IntKind.u8.wrap (Int.fdiv x (2^(min (Int.toNat 8) (IntKind.bits .u32))))))]) Zq rfl 300 rfl [.b false, .b true, .v (.int .u8 (Al (IntKind.u8.wrap (Int.fdiv x (2^(min (Int.toNat 8) (IntKind.bits .u32)))))))] (by kernel_rfl) ⟨c1,c2,(by decide),(El _),trivial⟩
 ·cases c2:(decide ((Int.fdiv x (2^(min (Int.toNat 16) (IntKind.bits .u32))))≥256))
  ·exact Ze.script (r := .int .i64 (i64.wrap (16+(i64.wrap (Al (IntKind.u8.wrap (Int.fdiv x (2^(min (Int.toNat 16) (IntKind.bits .u32)))))))))) (ps:=[(decide (x≥65536))=true,¬ (16:Int)<0,(decide ((Int.fdiv x (2^(min (Int.toNat 16) (IntKind.bits .u32))))≥256))=false,((if 0≤(IntKind.u8.wrap (Int.fdiv x (2^(min (Int.toNat 16) (IntKind.bits .u32))))) then (Jn)[(Int.toNat (IntKind.u8.wrap (Int.fdiv x (2^(min (Int.toNat 16) (IntKind.bits .u32))))))]? else none).map fun c=>(c.toNat:Int))=some (Al (IntKind.u8.wrap (Int.fdiv x (2^(min (Int.toNat 16) (IntKind.bits .u32))))))]) Zq rfl 300 rfl [.b true, .b false, .v (.int .u8 (Al (IntKind.u8.wrap (Int.fdiv x (2^(min (Int.toNat 16) (IntKind.bits .u32)))))))] (by kernel_rfl) ⟨c1,(by decide),c2,(El _),trivial⟩
  ·exact Ze.script (r := .int .i64 (i64.wrap (24+(i64.wrap (Al (IntKind.u8.wrap (Int.fdiv (Int.fdiv x (2^(min (Int.toNat 16) (IntKind.bits .u32)))) (2^(min (Int.toNat 8) (IntKind.bits .u32)))))))))) (ps:=[(decide (x≥65536))=true,¬ (16:Int)<0,(decide ((Int.fdiv x (2^(min (Int.toNat 16) (IntKind.bits .u32))))≥256))=true,¬ (8:Int)<0,((if 0≤(IntKind.u8.wrap (Int.fdiv (Int.fdiv x (2^(min (Int.toNat 16) (IntKind.bits .u32)))) (2^(min (Int.toNat 8) (IntKind.bits .u32))))) then (Jn)[(Int.toNat (IntKind.u8.wrap (Int.fdiv (Int.fdiv x (2^(min (Int.toNat 16) (IntKind.bits .u32)))) (2^(min (Int.toNat 8) (IntKind.bits .u32))))))]? else none).map fun c=>(c.toNat:Int))=some (Al (IntKind.u8.wrap (Int.fdiv (Int.fdiv x (2^(min (Int.toNat 16) (IntKind.bits .u32)))) (2^(min (Int.toNat 8) (IntKind.bits .u32))))))]) Zq rfl 300 rfl [.b true, .b true, .v (.int .u8 (Al (IntKind.u8.wrap (Int.fdiv (Int.fdiv x (2^(min (Int.toNat 16) (IntKind.bits .u32)))) (2^(min (Int.toNat 8) (IntKind.bits .u32)))))))] (by kernel_rfl) ⟨c1,(by decide),c2,(by decide),(El _),trivial⟩
theorem Zm5 (x l:Int) (n1:Ze Yir 123 [.int .u32 x] (.int .i64 l)):Ze Yir 154 [.int .u32 x] (.int .i64 (i64.wrap (32-l))):=Ze.go (fn:=Zes) Zq rfl 400 rfl [.r (.int .i64 l)] (ac n1 a0)
theorem Yq111 (n na:Bool) (xs as1:List Int) (v:Int) (n1:List.length (lm as1)=as1.length*1)
  (n2:as1.length≤1048576)
  (n3:Ze Yir 122 [.agg [.bool n, .sl xs.length (lm xs)]] (.tup [.bool na, .sl as1.length (lm as1)]))
  (n4:Ze Yir 133 [.bool false, .sl as1.length (lm as1)] (Zp v)):Ze Yir 111 [.agg [.bool n, .sl xs.length (lm xs)]] (Zp v) :=
 Ze.go (fn:=Ze2) Zq rfl 400 rfl [.r (.tup [.bool na, .sl as1.length (lm as1)]), .r (Zp v)] (ac n3 (ac n1 (ac n2 (ac n4 a0)))) (by kernel_rfl)
theorem Yq76 (n na:Bool) (xs as1:List Int) (n1:Ze Yir 122 [.agg [.bool n, .sl xs.length (lm xs)]] (.tup [.bool na, .sl as1.length (lm as1)])):Ze Yir 76 [.agg [.bool n, .sl xs.length (lm xs)]] (.int .i64 (as1.length:Int)) :=
 Ze.go (fn:=Yi76) Zq rfl 400 rfl [.r (.tup [.bool na, .sl as1.length (lm as1)])] (ac n1 a0) (by kernel_rfl)
theorem Zid (n na:Bool) (xs as1:List Int) (c1:((as1.length:Int)==0)=true) (n1:Ze Yir 122 [.agg [.bool n, .sl xs.length (lm xs)]] (.tup [.bool na, .sl as1.length (lm as1)])):Ze Yir 77 [.agg [.bool n, .sl xs.length (lm xs)]] (.int .i64 0):=Ze.go (fn:=Zr0) Zq rfl 400 rfl [.r (.tup [.bool na, .sl as1.length (lm as1)]), .b true] (ac n1 (ac c1 a0))
theorem Zic (n na:Bool) (xs as1:List Int) (l:Int) (c1:((as1.length:Int)==0)=false) (n1:0≤(i64.wrap ((as1.length:Int)-1))∧(i64.wrap ((as1.length:Int)-1))<(as1.length:Int)) (n2:Ze Yir 122 [.agg [.bool n, .sl xs.length (lm xs)]] (.tup [.bool na, .sl as1.length (lm as1)])) (n3:Ze Yir 123 [.int .u32 (as1.getD (Int.toNat (i64.wrap ((as1.length:Int)-1))) 0)] (.int .i64 l)):Ze Yir 77 [.agg [.bool n, .sl xs.length (lm xs)]] (.int .i64 (i64.wrap ((i64.wrap (32*(i64.wrap ((as1.length:Int)-1))))+l))):=Ze.go (fn:=Zr0) Zq rfl 400 rfl [.r (.tup [.bool na, .sl as1.length (lm as1)]), .b false, .v (.int .u32 (as1.getD (Int.toNat (i64.wrap ((as1.length:Int)-1))) 0)), .r (.int .i64 l)] (ac n2 (ac c1 (ac n1 (ac (Xr n1) (ac n3 a0)))))
theorem Vw (n k:Nat) (h:n / 2^k ≠ 0):Nat.log2 n=Nat.log2 (n / 2^k)+k:=by
 have hn:n ≠ 0:=by intro e;subst e;simp at h
 have:=(Nat.log2_eq_iff h).1 rfl
 rw[Nat.log2_eq_iff hn]
 generalize Nat.log2 (n / 2^k)=j at *
 have hp:0<2^k:=Nat.two_pow_pos k
 constructor
 ·rw[Nat.pow_add]
  exact (Nat.le_div_iff_mul_le hp).1 this.1
 ·have:n<2^(j+1)*2^k:=(Nat.div_lt_iff_lt_mul hp).1 this.2
  rw[← Nat.pow_add] at this
  have e:j+k+1=j+1+k:=by omega
  rw[e];exact this
theorem Zg7 (v:Nat) (h:v<256) (h0:v ≠ 0):Al (IntKind.u8.wrap (v:Int))=((Nat.log2 v+1:Nat):Int):=by
 have hw:IntKind.u8.wrap (v:Int)=v:=by
  simp only[IntKind.wrap,IntKind.bits,IntKind.signed,Bool.false_and,Bool.false_eq_true,if_false]
  omega
 rw[hw]
 unfold Al Zg9
 rw[Int.toNat_natCast,if_neg h0]
theorem shr32 (n:Nat) (k:Nat) (hk:k≤32):Int.fdiv (n:Int) (2^(min (Int.toNat (k:Int)) (IntKind.bits .u32)))=((n / 2^k:Nat):Int):=by
 have e:min (Int.toNat (k:Int)) (IntKind.bits .u32)=k:=by
  show min (Int.toNat (k:Int)) 32=k
  rw[Int.toNat_natCast];omega
 rw[e,Int.fdiv_eq_ediv_of_nonneg _ (Int.pow_nonneg (by omega))]
 have:(2:Int)^k=((2^k:Nat):Int):=by simp
 rw[this,← Int.natCast_ediv]
theorem Zha (n:Nat) (h:n<4294967296) (h0:n ≠ 0):Rq (n:Int)=((Nat.log2 n+1:Nat):Int):=by
 have s16 (n:Nat):Int.fdiv (n:Int) (2^(min (Int.toNat 16) (IntKind.bits .u32)))=((n / 2^16:Nat):Int):=shr32 n 16 (by omega)
 have s8 (n:Nat):Int.fdiv (n:Int) (2^(min (Int.toNat 8) (IntKind.bits .u32)))=((n / 2^8:Nat):Int):=shr32 n 8 (by omega)
 have fin (v c:Nat) (hv:v<256) (hv0:v ≠ 0) (hc:c≤56):i64.wrap ((c:Int)+i64.wrap (Al (IntKind.u8.wrap (v:Int))))=((Nat.log2 v+1+c:Nat):Int):=by
  have:Nat.log2 v<8:=(Nat.log2_lt hv0).2 hv
  rw[Zg7 v hv hv0,w64 (n:=((Nat.log2 v+1:Nat):Int)) (by omega) (by omega),w64 (by omega) (by omega)]
  omega
 unfold Rq
 simp only[s16,s8]
 by_cases b:n<65536
 ·have b':decide ((n:Int)≥65536)=false:=by simp;omega
  rw[b']
  by_cases c:n<256
  ·have c':decide ((n:Int)≥256)=false:=by simp;omega
   rw[c']
   exact fin n 0 c h0 (by omega)
  ·have c':decide ((n:Int)≥256)=true:=by simp;omega
   rw[c',Vw n 8 (by omega)]
   have:=fin (n / 2^8) 8 (by omega) (by omega) (by omega)
   exact this.trans (by omega)
 ·have b':decide ((n:Int)≥65536)=true:=by simp;omega
  rw[b']
  dsimp only
  by_cases c:n / 2^16<256
  ·have c':decide (((n / 2^16:Nat):Int)≥256)=false:=by simp;omega
   rw[c',Vw n 16 (by omega)]
   have:=fin (n / 2^16) 16 (by omega) (by omega) (by omega)
   exact this.trans (by omega)
  ·have c':decide (((n / 2^16:Nat):Int)≥256)=true:=by simp;omega
   rw[c',Vw n 16 (by omega),Vw (n / 2^16) 8 (by omega)]
   have:=fin (n / 2^16 / 2^8) 24 (by omega) (by omega) (by omega)
   exact this.trans (by omega)
theorem Nq {n:Nat} (h:n<4294967296) (h0:n ≠ 0):Ze Yir 123 [.int .u32 (n:Nat)] (.int .i64 ((Nat.log2 n+1:Nat):Int)):=by
 have:=Znd (n:Nat)
 rwa [Zha n h h0] at this
theorem lz_run {x:Int} (hx:0<x∧x<4294967296):∃ s:Nat,s<32∧2147483648≤x*2^s∧x*2^s<4294967296∧Ze Yir 154 [.int .u32 x] (.int .i64 (s:Nat)):=by
 obtain⟨n,rfl⟩:∃ n:Nat,x=n:=⟨x.toNat,by omega⟩
 have hn0:n ≠ 0:=by omega
 have hl:=(Nat.log2_eq_iff hn0).1 rfl
 have hlt:Nat.log2 n<32:=(Nat.log2_lt hn0).2 (by omega)
 refine⟨31-Nat.log2 n,by omega,?_,?_,?_⟩
 ·have:2^31≤n*2^(31-Nat.log2 n):=by
   have h:=Nat.mul_le_mul_right (2^(31-Nat.log2 n)) hl.1
   rwa [← Nat.pow_add,show Nat.log2 n+(31-Nat.log2 n)=31 by omega] at h
  have e:(n:Int)*2^(31-Nat.log2 n)=((n*2^(31-Nat.log2 n):Nat):Int):=by rw[Int.natCast_mul,Int.natCast_pow];rfl
  rw[e];omega
 ·have:n*2^(31-Nat.log2 n)<2^32:=by
   have h:=Nat.mul_lt_mul_of_pos_right hl.2 (Nat.two_pow_pos (31-Nat.log2 n))
   rwa [← Nat.pow_add,show Nat.log2 n+1+(31-Nat.log2 n)=32 by omega] at h
  have e:(n:Int)*2^(31-Nat.log2 n)=((n*2^(31-Nat.log2 n):Nat):Int):=by rw[Int.natCast_mul,Int.natCast_pow];rfl
  rw[e];omega
 ·have h:=Zm5 (n:Nat) _ (Nq (by omega) hn0)
  rw[w64 (by omega) (by omega)] at h
  rwa [show (32:Int)-((Nat.log2 n+1:Nat):Int)=((31-Nat.log2 n:Nat):Int) by omega] at h
theorem Db {neg:Bool} {xs:List Int} (hu:U32 xs) (hN:xs.length≤1048576):Ze Yir 76 [.agg [.bool neg, .sl xs.length (lm xs)]] (.int .i64 (((Zb (rv neg xs).natAbs).length:Nat):Int)) :=
 Yq76 neg _ xs _ (Q8 hu hN)
theorem A6 {neg:Bool} {xs:List Int} (hu:U32 xs) (hN:xs.length≤1048576):Ze Yir 111 [.agg [.bool neg, .sl xs.length (lm xs)]] (Zp ((rv neg xs).natAbs:Nat)):=by
 have l1:=Uy (neg:=neg) hu
 have h:=Xm (neg:=false) (Jt (rv neg xs).natAbs) (by omega)
 rw[rv_pos] at h
 exact Yq111 neg _ xs _ _ (Rp _) (by omega) (Q8 hu hN) h
def Zfx (n:Nat):Nat:=if n=0 then 0 else Nat.log2 n+1
theorem Zgc {n:Nat} (h:n ≠ 0):1≤(Zb n).length∧∃ x:Nat,(Zb n).getD ((Zb n).length-1) 0=x∧x ≠ 0∧x<4294967296∧n / 2^(32*((Zb n).length-1))=x:=by
 have hc:=Qr n
 have hn0:Zb n ≠ []:=by rw[Ne,Wt];exact h
 have hl:=List.length_pos_iff.2 hn0
 have ht:=Zz hc.1 ((Zb n).length-1)
 have hz:(Zb n).getD ((Zb n).length-1) 0 ≠ 0:=by
  rcases hc.2 with g | g
  ·exact absurd g hn0
  ·exact g
 have hs:=Xa (Zb n) (j:=(Zb n).length-1) (by omega)
 have hd:=Q5 (Zb n) ((Zb n).length-1)
 rw[Xv (xs:=Zb n) (i:=(Zb n).length-1+1) (by omega),Int.mul_zero,Int.add_zero] at hd
 have h1:=Wn hc.1 ((Zb n).length-1)
 have h0:=Z3 (Ui hc.1 ((Zb n).length-1))
 rw[hd,Jx] at hs
 generalize (Zb n).length-1=j at *
 generalize (Zb n).getD j 0=x at *
 obtain⟨x,rfl⟩:∃ y:Nat,x=y:=⟨x.toNat,by omega⟩
 refine⟨hl,x,rfl,by omega,by omega,?_⟩
 generalize Zo (List.take j (Zb n))=L at *
 have e:((n / 2^(32*j):Nat):Int)=(x:Int):=by
  rw[Int.natCast_ediv,Int.natCast_pow,show ((2:Nat):Int)^(32*j)=4294967296^j by rw[Hs];rfl,hs]
  have hp:=Jw j
  rw[Int.mul_comm (4294967296^j),Int.add_mul_ediv_right _ _ (by omega),Int.ediv_eq_zero_of_lt h0 h1,Int.zero_add]
 omega
theorem E5 {neg:Bool} {xs:List Int} (hu:U32 xs) (hN:xs.length≤1048576):Ze Yir 77 [.agg [.bool neg, .sl xs.length (lm xs)]] (.int .i64 ((Zfx (rv neg xs).natAbs:Nat):Int)):=by
 have l1:=Uy (neg:=neg) hu
 have r1:=Q8 (neg:=neg) hu hN
 generalize rv neg xs=a at *
 by_cases h0:a.natAbs=0
 ·have h:=Zid neg _ xs _ (by rw[h0];rfl) r1
  rw[show Zfx a.natAbs=0 by unfold Zfx;rw[if_pos h0]]
  exact h
 ·obtain⟨t1,x,t2,t3,t4,t5⟩:=Zgc h0
  have e1:i64.wrap ((((Zb a.natAbs).length:Nat):Int)-1)=(((Zb a.natAbs).length-1:Nat):Int):=by rw[w64 (by omega) (by omega)];omega
  have hl:=Nq t4 t3
  have h:=Zic neg _ xs (Zb a.natAbs) _ (by rw[beq_eq_false_iff_ne];omega) (by rw[e1];omega) r1 (by rw[e1,Int.toNat_natCast,t2];exact hl)
  have hlog:Nat.log2 x<32:=(Nat.log2_lt t3).2 t4
  rw[e1,w64 (n:=32*(((Zb a.natAbs).length-1:Nat):Int)) (by omega) (by omega),w64 (by omega) (by omega)] at h
  have e2:Zfx a.natAbs=Nat.log2 x+1+32*((Zb a.natAbs).length-1):=by
   unfold Zfx
   rw[if_neg h0,Vw a.natAbs (32*((Zb a.natAbs).length-1)) (by rw[t5];exact t3),t5]
   omega
  rw[e2]
  rwa [show 32*(((Zb a.natAbs).length-1:Nat):Int)+((Nat.log2 x+1:Nat):Int)=((Nat.log2 x+1+32*((Zb a.natAbs).length-1):Nat):Int) by omega] at h
end Go.Proofs.Ythnnfemologhfaa

namespace Go.Proofs.Ythnnfemologhfaa
open Go.IntKind (i64 u64 u32)
open Go.Ai
set_option maxRecDepth 100000
def L5 (xs:List Int) (d:Int) (k:Nat) (qs:List Int) (r:Int) (i:Int):Zi:=(.val (.sl xs.length (lm xs))::(.val (.int .u32 d)::(dds 4 (.own 1 k (lm qs)::(.val (.int .u64 r)::(.val (.int .i64 i)::(dds 34 [])))))))
theorem Zoc (xs:List Int) (d:Int) (k:Nat) (qs:List Int) (r:Int) (i:Int)  (c1:(decide (i≥0))=true) (n1:0≤i∧i<(xs.length:Int)) (n2:¬ (u64.wrap d)=0) (n3:0≤i∧i<(k:Int)) (n4:qs.length=k):Za Yir Ze8 (L5 xs d k qs r i) .norm (L5 xs d k (qs.set (Int.toNat i) (u32.wrap (u64.wrap (Int.tdiv (u64.wrap ((BitVec.ofInt (IntKind.bits .u64) (u64.wrap (r*2^(min (Int.toNat 32) (IntKind.bits .u64)))) ||| BitVec.ofInt (IntKind.bits .u64) (u64.wrap (xs.getD (Int.toNat i) 0))).toNat)) (u64.wrap d))))) (Int.tmod (u64.wrap ((BitVec.ofInt (IntKind.bits .u64) (u64.wrap (r*2^(min (Int.toNat 32) (IntKind.bits .u64)))) ||| BitVec.ofInt (IntKind.bits .u64) (u64.wrap (xs.getD (Int.toNat i) 0))).toNat)) (u64.wrap d)) (i64.wrap (i-1))):=(Za.go Zf 400 [.b true, .v (.int .u32 (xs.getD (Int.toNat i) 0)), .l (lm (qs.set (Int.toNat i) (u32.wrap (u64.wrap (Int.tdiv (u64.wrap ((BitVec.ofInt (IntKind.bits .u64) (u64.wrap (r*2^(min (Int.toNat 32) (IntKind.bits .u64)))) ||| BitVec.ofInt (IntKind.bits .u64) (u64.wrap (xs.getD (Int.toNat i) 0))).toNat)) (u64.wrap d))))))] [0,1,6,7,8] (ac c1 (ac (show ¬ (32:Int)<0 from (by decide)) (ac n1 (ac (Xr n1) (ac n2 (ac n2 (ac n3 (ac (show X4 (lm qs) (Int.toNat i*1) [.int .u32 (u32.wrap (u64.wrap (Int.tdiv (u64.wrap ((BitVec.ofInt (IntKind.bits .u64) (u64.wrap (r*2^(min (Int.toNat 32) (IntKind.bits .u64)))) ||| BitVec.ofInt (IntKind.bits .u64) (u64.wrap (xs.getD (Int.toNat i) 0))).toNat)) (u64.wrap d))))]=some (lm (qs.set (Int.toNat i) (u32.wrap (u64.wrap (Int.tdiv (u64.wrap ((BitVec.ofInt (IntKind.bits .u64) (u64.wrap (r*2^(min (Int.toNat 32) (IntKind.bits .u64)))) ||| BitVec.ofInt (IntKind.bits .u64) (u64.wrap (xs.getD (Int.toNat i) 0))).toNat)) (u64.wrap d)))))) from (J8 n4 n3)) a0)))))))))
theorem Zob (xs:List Int) (d:Int) (k:Nat) (qs:List Int) (r:Int) (i:Int)  (c1:(decide (i≥0))=false):Za Yir Ze8 (L5 xs d k qs r i) (.exit 0) (L5 xs d k qs r i):=(Za.go Zf 400 [.b false] [0,1,6,7,8] (ac c1 a0))
theorem Zm6 (xs qs:List Int) (d r i:Int) (k:Nat) (n1:0≤(xs.length:Int)∧(xs.length:Int)≤1048576) (hl2:Za Yir (.loop Ze8) ((.val (.sl xs.length (lm xs))::(.val (.int .u32 d)::(dds 4 (.own 1 (Int.toNat (xs.length:Int)) (Qy [.int .u32 0] (Int.toNat (xs.length:Int)))::(.val (.int .u64 0)::(.val (.int .i64 (i64.wrap ((xs.length:Int)-1)))::(dds 34 [])))))))) (.exit 0) (L5 xs d k qs r i)):Ze Yir 153 [.sl xs.length (lm xs), .int .u32 d] (.tup [.sl k (lm qs), .int .u32 (u32.wrap r)]):=Ze.of_bodyW (fn:=Zet) (s:=(dds 1 (.val (.int .u32 d)::(dds 2 (.own 1 k (lm qs)::(.val (.int .u32 (u32.wrap r))::(dds 37 []))))))) (ex := .ret) rfl rfl (Za.seq (Za.go (t:=(vl xs::(.val (.int .u32 d)::(dds 2 (.own 1 0 []::(.val (.int .u32 0)::(dds 37 []))))))) Zf 400 [] [0,1,4,5] a0) (Za.seq (Za.go (t:=(vl xs::(.val (.int .u32 d)::(dds 2 (.own 1 0 []::(.val (.int .u32 0)::(.own 1 (Int.toNat (xs.length:Int)) (Qy [.int .u32 0] (Int.toNat (xs.length:Int)))::(dds 36 [])))))))) Zf 400 [] [0,1,4,5,6] (ac n1 a0)) (Za.seq (Za.go (t:=(vl xs::(.val (.int .u32 d)::(dds 2 (.own 1 0 []::(.val (.int .u32 0)::(.own 1 (Int.toNat (xs.length:Int)) (Qy [.int .u32 0] (Int.toNat (xs.length:Int)))::(.val (.int .u64 0)::(dds 35 []))))))))) Zf 400 [] [0,1,4,5,6,7] a0) (Za.seq (Za.seq (Za.go Zf 400 [] [0,1,6,7,8] a0) (Za.block hl2)) (Za.go Zf 400 [] [1,4,5] a0))))) (by intro i e;cases e) rfl
def L4 (xs:List Int) (s:Int) (k:Nat) (os:List Int) (n:Int) (i:Int):Zi:=(dds 1 (.val (.int .i64 s)::(dds 3 (.own 1 k (lm os)::(dds 7 (.val (.sl xs.length (lm xs))::(.val (.int .i64 n)::(.val (.int .i64 i)::(dds 26 [])))))))))
theorem Zoa (xs:List Int) (s:Int) (k:Nat) (os:List Int) (n:Int) (i:Int)  (c1:(decide (i<n))=true) (n1:0≤i∧i<(xs.length:Int)) (n2:¬ (u64.wrap s)<0) (n3:0≤i∧i<(k:Int)) (n4:os.length=k) (n5:0≤(i64.wrap (i+1))∧(i64.wrap (i+1))<(k:Int)) (n6:(os.set (Int.toNat i) (u32.wrap ((BitVec.ofInt (IntKind.bits .u32) (os.getD (Int.toNat i) 0) ||| BitVec.ofInt (IntKind.bits .u32) (u32.wrap (u64.wrap ((u64.wrap (xs.getD (Int.toNat i) 0))*2^(min (Int.toNat (u64.wrap s)) (IntKind.bits .u64)))))).toNat))).length=k):Za Yir Ze7 (L4 xs s k os n i) .norm (L4 xs s k ((os.set (Int.toNat i) (u32.wrap ((BitVec.ofInt (IntKind.bits .u32) (os.getD (Int.toNat i) 0) ||| BitVec.ofInt (IntKind.bits .u32) (u32.wrap (u64.wrap ((u64.wrap (xs.getD (Int.toNat i) 0))*2^(min (Int.toNat (u64.wrap s)) (IntKind.bits .u64)))))).toNat))).set (Int.toNat (i64.wrap (i+1))) (u32.wrap (Int.fdiv (u64.wrap ((u64.wrap (xs.getD (Int.toNat i) 0))*2^(min (Int.toNat (u64.wrap s)) (IntKind.bits .u64)))) (2^(min (Int.toNat 32) (IntKind.bits .u64)))))) n (i64.wrap (i+1))):=(Za.go Zf 400 [.b true, .v (.int .u32 (xs.getD (Int.toNat i) 0)), .v (.int .u32 (os.getD (Int.toNat i) 0)), .l (lm (os.set (Int.toNat i) (u32.wrap ((BitVec.ofInt (IntKind.bits .u32) (os.getD (Int.toNat i) 0) ||| BitVec.ofInt (IntKind.bits .u32) (u32.wrap (u64.wrap ((u64.wrap (xs.getD (Int.toNat i) 0))*2^(min (Int.toNat (u64.wrap s)) (IntKind.bits .u64)))))).toNat)))), .l (lm ((os.set (Int.toNat i) (u32.wrap ((BitVec.ofInt (IntKind.bits .u32) (os.getD (Int.toNat i) 0) ||| BitVec.ofInt (IntKind.bits .u32) (u32.wrap (u64.wrap ((u64.wrap (xs.getD (Int.toNat i) 0))*2^(min (Int.toNat (u64.wrap s)) (IntKind.bits .u64)))))).toNat))).set (Int.toNat (i64.wrap (i+1))) (u32.wrap (Int.fdiv (u64.wrap ((u64.wrap (xs.getD (Int.toNat i) 0))*2^(min (Int.toNat (u64.wrap s)) (IntKind.bits .u64)))) (2^(min (Int.toNat 32) (IntKind.bits .u64)))))))] [1,5,13,14,15] (ac c1 (ac n1 (ac (Xr n1) (ac n2 (ac n3 (ac (Jk n4 n3) (ac n3 (ac (show X4 (lm os) (Int.toNat i*1) [.int .u32 (u32.wrap ((BitVec.ofInt (IntKind.bits .u32) (os.getD (Int.toNat i) 0) ||| BitVec.ofInt (IntKind.bits .u32) (u32.wrap (u64.wrap ((u64.wrap (xs.getD (Int.toNat i) 0))*2^(min (Int.toNat (u64.wrap s)) (IntKind.bits .u64)))))).toNat))]=some (lm (os.set (Int.toNat i) (u32.wrap ((BitVec.ofInt (IntKind.bits .u32) (os.getD (Int.toNat i) 0) ||| BitVec.ofInt (IntKind.bits .u32) (u32.wrap (u64.wrap ((u64.wrap (xs.getD (Int.toNat i) 0))*2^(min (Int.toNat (u64.wrap s)) (IntKind.bits .u64)))))).toNat)))) from (J8 n4 n3)) (ac (show ¬ (32:Int)<0 from (by decide)) (ac n5 (ac (show X4 (lm (os.set (Int.toNat i) (u32.wrap ((BitVec.ofInt (IntKind.bits .u32) (os.getD (Int.toNat i) 0) ||| BitVec.ofInt (IntKind.bits .u32) (u32.wrap (u64.wrap ((u64.wrap (xs.getD (Int.toNat i) 0))*2^(min (Int.toNat (u64.wrap s)) (IntKind.bits .u64)))))).toNat)))) (Int.toNat (i64.wrap (i+1))*1) [.int .u32 (u32.wrap (Int.fdiv (u64.wrap ((u64.wrap (xs.getD (Int.toNat i) 0))*2^(min (Int.toNat (u64.wrap s)) (IntKind.bits .u64)))) (2^(min (Int.toNat 32) (IntKind.bits .u64)))))]=some (lm ((os.set (Int.toNat i) (u32.wrap ((BitVec.ofInt (IntKind.bits .u32) (os.getD (Int.toNat i) 0) ||| BitVec.ofInt (IntKind.bits .u32) (u32.wrap (u64.wrap ((u64.wrap (xs.getD (Int.toNat i) 0))*2^(min (Int.toNat (u64.wrap s)) (IntKind.bits .u64)))))).toNat))).set (Int.toNat (i64.wrap (i+1))) (u32.wrap (Int.fdiv (u64.wrap ((u64.wrap (xs.getD (Int.toNat i) 0))*2^(min (Int.toNat (u64.wrap s)) (IntKind.bits .u64)))) (2^(min (Int.toNat 32) (IntKind.bits .u64))))))) from (J8 n6 n5)) a0))))))))))))
theorem Zn9 (xs:List Int) (s:Int) (k:Nat) (os:List Int) (n:Int) (i:Int)  (c1:(decide (i<n))=false):Za Yir Ze7 (L4 xs s k os n i) (.exit 0) (L4 xs s k os n i):=(Za.go Zf 400 [.b false] [1,5,13,14,15] (ac c1 a0))
theorem Zm4 (xs os:List Int) (s n i:Int) (k:Nat) (n1:0≤(i64.wrap ((xs.length:Int)+1))∧(i64.wrap ((xs.length:Int)+1))≤1048576) (hl2:Za Yir (.loop Ze7) ((dds 1 (.val (.int .i64 s)::(dds 3 (.own 1 (Int.toNat (i64.wrap ((xs.length:Int)+1))) (Qy [.int .u32 0] (Int.toNat (i64.wrap ((xs.length:Int)+1))))::(dds 7 (.val (.sl xs.length (lm xs))::(.val (.int .i64 (xs.length:Int))::(.val (.int .i64 0)::(dds 26 [])))))))))) (.exit 0) (L4 xs s k os n i)):Ze Yir 155 [.sl xs.length (lm xs), .int .i64 s] (.fresh 1 k (lm os)):=Ze.of_bodyW (fn:=Zer) (s:=(dds 1 (.val (.int .i64 s)::(dds 2 (.own 1 k (lm os)::(dds 37 [])))))) (ex := .ret) rfl rfl (Za.seq (Za.go (t:=(vl xs::(vi s::(dds 2 (.own 1 0 []::(dds 37 [])))))) Zf 400 [] [0,1,4] a0) (Za.seq (Za.go (t:=(vl xs::(vi s::(dds 2 (.own 1 0 []::(.own 1 (Int.toNat (i64.wrap ((xs.length:Int)+1))) (Qy [.int .u32 0] (Int.toNat (i64.wrap ((xs.length:Int)+1))))::(dds 36 []))))))) Zf 400 [] [0,1,4,5] (ac n1 a0)) (Za.seq (Za.seq (Za.go Zf 400 [] [1,5,13,14,15] a0) (Za.block hl2)) (Za.go Zf 400 [] [1,4] a0)))) (by intro i e;cases e) rfl
def Xn (k:Nat) (us:List Int) (vs:List Int) (n:Int) (t:Int) (t2:Int) (kq:Nat) (qs:List Int) (s:Int) (j:Int) (g:Int) (r:Int):Zi:=(dds 4 (.own 1 kq (lm qs)::(dds 3 (.val (.int .i64 s)::(.own 1 k (lm us)::(.val (.sl vs.length (lm vs))::(.val (.int .i64 n)::(dds 1 (.val (.int .u64 t)::(.val (.int .u64 t2)::(.val (.int .i64 j)::(dds 1 (.val (.int .u64 g)::(.val (.int .u64 r)::(dds 263 [])))))))))))))))
theorem Zje (k:Nat) (us:List Int) (vs:List Int) (n:Int) (t:Int) (t2:Int) (kq:Nat) (qs:List Int) (s:Int) (j:Int) (g:Int) (r:Int)  (c1:(decide (g≥4294967296))=true) (c2:(decide ((u64.wrap (r+t))≥4294967296))=true):Za Yir Wg (Xn k us vs n t t2 kq qs s j g r) (.exit 2) (Xn k us vs n t t2 kq qs s j (u64.wrap (g-1)) (u64.wrap (r+t))):=(Za.go Zf 400 [.b true, .b true, .b true] [4,8,9,10,11,13,14,15,17,18] (ac c1 (ac (show true=true from rfl) (ac c2 a0))))
theorem Zjd (k:Nat) (us:List Int) (vs:List Int) (n:Int) (t:Int) (t2:Int) (kq:Nat) (qs:List Int) (s:Int) (j:Int) (g:Int) (r:Int)  (c1:(decide (g≥4294967296))=true) (c2:(decide ((u64.wrap (r+t))≥4294967296))=false):Za Yir Wg (Xn k us vs n t t2 kq qs s j g r) .norm (Xn k us vs n t t2 kq qs s j (u64.wrap (g-1)) (u64.wrap (r+t))):=(Za.go Zf 400 [.b true, .b true, .b false] [4,8,9,10,11,13,14,15,17,18] (ac c1 (ac (show true=true from rfl) (ac c2 a0))))
theorem Zjc (k:Nat) (us:List Int) (vs:List Int) (n:Int) (t:Int) (t2:Int) (kq:Nat) (qs:List Int) (s:Int) (j:Int) (g:Int) (r:Int)  (c1:(decide (g≥4294967296))=false) (c2:(decide ((u64.wrap (g*t2))>(u64.wrap ((BitVec.ofInt (IntKind.bits .u64) (u64.wrap (r*2^(min (Int.toNat 32) (IntKind.bits .u64)))) ||| BitVec.ofInt (IntKind.bits .u64) (u64.wrap (us.getD (Int.toNat (i64.wrap ((i64.wrap (j+n))-2))) 0))).toNat))))=true) (c3:(decide ((u64.wrap (r+t))≥4294967296))=true) (n1:0≤(i64.wrap ((i64.wrap (j+n))-2))∧(i64.wrap ((i64.wrap (j+n))-2))<(k:Int)) (n2:us.length=k):Za Yir Wg (Xn k us vs n t t2 kq qs s j g r) (.exit 2) (Xn k us vs n t t2 kq qs s j (u64.wrap (g-1)) (u64.wrap (r+t))):=(Za.go Zf 400 [.b false, .v (.int .u32 (us.getD (Int.toNat (i64.wrap ((i64.wrap (j+n))-2))) 0)), .b true, .b true] [4,8,9,10,11,13,14,15,17,18] (ac c1 (ac (show ¬ (32:Int)<0 from (by decide)) (ac n1 (ac (Jk n2 n1) (ac c2 (ac c3 a0)))))))
theorem Zjb (k:Nat) (us:List Int) (vs:List Int) (n:Int) (t:Int) (t2:Int) (kq:Nat) (qs:List Int) (s:Int) (j:Int) (g:Int) (r:Int)  (c1:(decide (g≥4294967296))=false) (c2:(decide ((u64.wrap (g*t2))>(u64.wrap ((BitVec.ofInt (IntKind.bits .u64) (u64.wrap (r*2^(min (Int.toNat 32) (IntKind.bits .u64)))) ||| BitVec.ofInt (IntKind.bits .u64) (u64.wrap (us.getD (Int.toNat (i64.wrap ((i64.wrap (j+n))-2))) 0))).toNat))))=true) (c3:(decide ((u64.wrap (r+t))≥4294967296))=false) (n1:0≤(i64.wrap ((i64.wrap (j+n))-2))∧(i64.wrap ((i64.wrap (j+n))-2))<(k:Int)) (n2:us.length=k):Za Yir Wg (Xn k us vs n t t2 kq qs s j g r) .norm (Xn k us vs n t t2 kq qs s j (u64.wrap (g-1)) (u64.wrap (r+t))):=(Za.go Zf 400 [.b false, .v (.int .u32 (us.getD (Int.toNat (i64.wrap ((i64.wrap (j+n))-2))) 0)), .b true, .b false] [4,8,9,10,11,13,14,15,17,18] (ac c1 (ac (show ¬ (32:Int)<0 from (by decide)) (ac n1 (ac (Jk n2 n1) (ac c2 (ac c3 a0)))))))
theorem Se (k:Nat) (us:List Int) (vs:List Int) (n:Int) (t:Int) (t2:Int) (kq:Nat) (qs:List Int) (s:Int) (j:Int) (g:Int) (r:Int)  (c1:(decide (g≥4294967296))=false) (c2:(decide ((u64.wrap (g*t2))>(u64.wrap ((BitVec.ofInt (IntKind.bits .u64) (u64.wrap (r*2^(min (Int.toNat 32) (IntKind.bits .u64)))) ||| BitVec.ofInt (IntKind.bits .u64) (u64.wrap (us.getD (Int.toNat (i64.wrap ((i64.wrap (j+n))-2))) 0))).toNat))))=false) (n1:0≤(i64.wrap ((i64.wrap (j+n))-2))∧(i64.wrap ((i64.wrap (j+n))-2))<(k:Int)) (n2:us.length=k):Za Yir Wg (Xn k us vs n t t2 kq qs s j g r) (.exit 2) (Xn k us vs n t t2 kq qs s j g r):=(Za.go Zf 400 [.b false, .v (.int .u32 (us.getD (Int.toNat (i64.wrap ((i64.wrap (j+n))-2))) 0)), .b false] [4,8,9,10,11,13,14,15,17,18] (ac c1 (ac (show ¬ (32:Int)<0 from (by decide)) (ac n1 (ac (Jk n2 n1) (ac c2 a0))))))
def K0 (k:Nat) (us:List Int) (vs:List Int) (n:Int) (t:Int) (t2:Int) (kq:Nat) (qs:List Int) (s:Int) (j:Int) (g:Int) (b:Int) (c:Int) (i:Int):Zi:=(dds 4 (.own 1 kq (lm qs)::(dds 3 (.val (.int .i64 s)::(.own 1 k (lm us)::(.val (.sl vs.length (lm vs))::(.val (.int .i64 n)::(dds 1 (.val (.int .u64 t)::(.val (.int .u64 t2)::(.val (.int .i64 j)::(dds 1 (.val (.int .u64 g)::(dds 1 (.val (.int .u64 b)::(.val (.int .u64 c)::(.val (.int .i64 i)::(dds 260 []))))))))))))))))))
theorem Zja (k:Nat) (us:List Int) (vs:List Int) (n:Int) (t:Int) (t2:Int) (kq:Nat) (qs:List Int) (s:Int) (j:Int) (g:Int) (b:Int) (c:Int) (i:Int)  (c1:(decide (i<n))=true) (n1:0≤i∧i<(vs.length:Int)) (n2:0≤(i64.wrap (i+j))∧(i64.wrap (i+j))<(k:Int)) (n3:us.length=k):Za Yir A1 (K0 k us vs n t t2 kq qs s j g b c i) .norm (K0 k (us.set (Int.toNat (i64.wrap (i+j))) (u32.wrap (u64.wrap ((u64.wrap ((u64.wrap (us.getD (Int.toNat (i64.wrap (i+j))) 0))-(u64.wrap (u32.wrap (u64.wrap ((u64.wrap (g*(u64.wrap (vs.getD (Int.toNat i) 0))))+c))))))-b)))) vs n t t2 kq qs s j g (Int.fdiv (u64.wrap ((u64.wrap ((u64.wrap (us.getD (Int.toNat (i64.wrap (i+j))) 0))-(u64.wrap (u32.wrap (u64.wrap ((u64.wrap (g*(u64.wrap (vs.getD (Int.toNat i) 0))))+c))))))-b)) (2^(min (Int.toNat 63) (IntKind.bits .u64)))) (Int.fdiv (u64.wrap ((u64.wrap (g*(u64.wrap (vs.getD (Int.toNat i) 0))))+c)) (2^(min (Int.toNat 32) (IntKind.bits .u64)))) (i64.wrap (i+1))):=(Za.go Zf 400 [.b true, .v (.int .u32 (vs.getD (Int.toNat i) 0)), .v (.int .u32 (us.getD (Int.toNat (i64.wrap (i+j))) 0)), .l (lm (us.set (Int.toNat (i64.wrap (i+j))) (u32.wrap (u64.wrap ((u64.wrap ((u64.wrap (us.getD (Int.toNat (i64.wrap (i+j))) 0))-(u64.wrap (u32.wrap (u64.wrap ((u64.wrap (g*(u64.wrap (vs.getD (Int.toNat i) 0))))+c))))))-b)))))] [4,8,9,10,11,13,14,15,17,19,20,21] (ac c1 (ac n1 (ac (Xr n1) (ac (show ¬ (32:Int)<0 from (by decide)) (ac n2 (ac (Jk n3 n2) (ac (show ¬ (63:Int)<0 from (by decide)) (ac n2 (ac (show X4 (lm us) (Int.toNat (i64.wrap (i+j))*1) [.int .u32 (u32.wrap (u64.wrap ((u64.wrap ((u64.wrap (us.getD (Int.toNat (i64.wrap (i+j))) 0))-(u64.wrap (u32.wrap (u64.wrap ((u64.wrap (g*(u64.wrap (vs.getD (Int.toNat i) 0))))+c))))))-b)))]=some (lm (us.set (Int.toNat (i64.wrap (i+j))) (u32.wrap (u64.wrap ((u64.wrap ((u64.wrap (us.getD (Int.toNat (i64.wrap (i+j))) 0))-(u64.wrap (u32.wrap (u64.wrap ((u64.wrap (g*(u64.wrap (vs.getD (Int.toNat i) 0))))+c))))))-b))))) from (J8 n3 n2)) a0))))))))))
theorem Zi9 (k:Nat) (us:List Int) (vs:List Int) (n:Int) (t:Int) (t2:Int) (kq:Nat) (qs:List Int) (s:Int) (j:Int) (g:Int) (b:Int) (c:Int) (i:Int)  (c1:(decide (i<n))=false):Za Yir A1 (K0 k us vs n t t2 kq qs s j g b c i) (.exit 4) (K0 k us vs n t t2 kq qs s j g b c i):=(Za.go Zf 400 [.b false] [4,8,9,10,11,13,14,15,17,19,20,21] (ac c1 a0))
def Fk (k:Nat) (us:List Int) (vs:List Int) (n:Int) (t:Int) (t2:Int) (kq:Nat) (qs:List Int) (s:Int) (j:Int) (g:Int) (c:Int) (i:Int):Zi:=(dds 4 (.own 1 kq (lm qs)::(dds 3 (.val (.int .i64 s)::(.own 1 k (lm us)::(.val (.sl vs.length (lm vs))::(.val (.int .i64 n)::(dds 1 (.val (.int .u64 t)::(.val (.int .u64 t2)::(.val (.int .i64 j)::(dds 1 (.val (.int .u64 g)::(dds 7 (.val (.int .u64 c)::(.val (.int .i64 i)::(dds 255 [])))))))))))))))))
theorem Zjg (k:Nat) (us:List Int) (vs:List Int) (n:Int) (t:Int) (t2:Int) (kq:Nat) (qs:List Int) (s:Int) (j:Int) (g:Int) (c:Int) (i:Int)  (c1:(decide (i<n))=true) (n1:0≤(i64.wrap (i+j))∧(i64.wrap (i+j))<(k:Int)) (n2:us.length=k) (n3:0≤i∧i<(vs.length:Int)):Za Yir Mu (Fk k us vs n t t2 kq qs s j g c i) .norm (Fk k (us.set (Int.toNat (i64.wrap (i+j))) (u32.wrap (u64.wrap ((u64.wrap ((u64.wrap (us.getD (Int.toNat (i64.wrap (i+j))) 0))+(u64.wrap (vs.getD (Int.toNat i) 0))))+c)))) vs n t t2 kq qs s j g (Int.fdiv (u64.wrap ((u64.wrap ((u64.wrap (us.getD (Int.toNat (i64.wrap (i+j))) 0))+(u64.wrap (vs.getD (Int.toNat i) 0))))+c)) (2^(min (Int.toNat 32) (IntKind.bits .u64)))) (i64.wrap (i+1))):=(Za.go Zf 400 [.b true, .v (.int .u32 (us.getD (Int.toNat (i64.wrap (i+j))) 0)), .v (.int .u32 (vs.getD (Int.toNat i) 0)), .l (lm (us.set (Int.toNat (i64.wrap (i+j))) (u32.wrap (u64.wrap ((u64.wrap ((u64.wrap (us.getD (Int.toNat (i64.wrap (i+j))) 0))+(u64.wrap (vs.getD (Int.toNat i) 0))))+c)))))] [4,8,9,10,11,13,14,15,17,25,26] (ac c1 (ac n1 (ac (Jk n2 n1) (ac n3 (ac (Xr n3) (ac (show ¬ (32:Int)<0 from (by decide)) (ac n1 (ac (show X4 (lm us) (Int.toNat (i64.wrap (i+j))*1) [.int .u32 (u32.wrap (u64.wrap ((u64.wrap ((u64.wrap (us.getD (Int.toNat (i64.wrap (i+j))) 0))+(u64.wrap (vs.getD (Int.toNat i) 0))))+c)))]=some (lm (us.set (Int.toNat (i64.wrap (i+j))) (u32.wrap (u64.wrap ((u64.wrap ((u64.wrap (us.getD (Int.toNat (i64.wrap (i+j))) 0))+(u64.wrap (vs.getD (Int.toNat i) 0))))+c))))) from (J8 n2 n1)) a0)))))))))
theorem Zjf (k:Nat) (us:List Int) (vs:List Int) (n:Int) (t:Int) (t2:Int) (kq:Nat) (qs:List Int) (s:Int) (j:Int) (g:Int) (c:Int) (i:Int)  (c1:(decide (i<n))=false):Za Yir Mu (Fk k us vs n t t2 kq qs s j g c i) (.exit 6) (Fk k us vs n t t2 kq qs s j g c i):=(Za.go Zf 400 [.b false] [4,8,9,10,11,13,14,15,17,25,26] (ac c1 a0))
def Kt (k:Nat) (us:List Int) (vs:List Int) (n:Int) (t:Int) (t2:Int) (kq:Nat) (qs:List Int) (s:Int) (j:Int):Zi:=(dds 4 (.own 1 kq (lm qs)::(dds 3 (.val (.int .i64 s)::(.own 1 k (lm us)::(.val (.sl vs.length (lm vs))::(.val (.int .i64 n)::(dds 1 (.val (.int .u64 t)::(.val (.int .u64 t2)::(.val (.int .i64 j)::(dds 266 []))))))))))))
theorem Zoj (k:Nat) (us:List Int) (vs:List Int) (n:Int) (t:Int) (t2:Int) (kq:Nat) (qs:List Int) (s:Int) (j:Int) (us1 us2:List Int) (g r b c cc:Int) (c1:(decide (j≥0))=true) (c2:((Int.fdiv (u64.wrap ((u64.wrap ((u64.wrap (us1.getD (Int.toNat (i64.wrap (j+n))) 0))-c))-b)) (2^(min (Int.toNat 63) (IntKind.bits .u64)))) != 0)=true) (n1:0≤(i64.wrap (j+n))∧(i64.wrap (j+n))<(k:Int)) (n2:us.length=k) (n3:0≤(i64.wrap ((i64.wrap (j+n))-1))∧(i64.wrap ((i64.wrap (j+n))-1))<(k:Int)) (n4:¬ t=0) (hl5:Za Yir (.loop Wg) (Xn k us vs n t t2 kq qs s j (u64.wrap (Int.tdiv (u64.wrap ((BitVec.ofInt (IntKind.bits .u64) (u64.wrap ((u64.wrap (us.getD (Int.toNat (i64.wrap (j+n))) 0))*2^(min (Int.toNat 32) (IntKind.bits .u64)))) ||| BitVec.ofInt (IntKind.bits .u64) (u64.wrap (us.getD (Int.toNat (i64.wrap ((i64.wrap (j+n))-1))) 0))).toNat)) t)) (Int.tmod (u64.wrap ((BitVec.ofInt (IntKind.bits .u64) (u64.wrap ((u64.wrap (us.getD (Int.toNat (i64.wrap (j+n))) 0))*2^(min (Int.toNat 32) (IntKind.bits .u64)))) ||| BitVec.ofInt (IntKind.bits .u64) (u64.wrap (us.getD (Int.toNat (i64.wrap ((i64.wrap (j+n))-1))) 0))).toNat)) t)) (.exit 2) (Xn k us vs n t t2 kq qs s j g r)) (hl6:Za Yir (.loop A1) (K0 k us vs n t t2 kq qs s j g 0 0 0) (.exit 4) (K0 k us1 vs n t t2 kq qs s j g b c n)) (n7:us1.length=k) (hl8:Za Yir (.loop Mu) (Fk k (us1.set (Int.toNat (i64.wrap (j+n))) (u32.wrap (u64.wrap ((u64.wrap ((u64.wrap (us1.getD (Int.toNat (i64.wrap (j+n))) 0))-c))-b)))) vs n t t2 kq qs s j (u64.wrap (g-1)) 0 0) (.exit 6) (Fk k us2 vs n t t2 kq qs s j (u64.wrap (g-1)) cc n)) (n9:us2.length=k) (n10:0≤j∧j<(kq:Int)) (n11:qs.length=kq):Za Yir E2 (Kt k us vs n t t2 kq qs s j) .norm (Kt k (us2.set (Int.toNat (i64.wrap (j+n))) (u32.wrap ((us2.getD (Int.toNat (i64.wrap (j+n))) 0)+(u32.wrap cc)))) vs n t t2 kq (qs.set (Int.toNat j) (u32.wrap (u64.wrap (g-1)))) s (i64.wrap (j-1))):=(Za.seq (Za.go (t:=(dds 4 (.own 1 kq (lm qs)::(dds 3 (vi s::(.own 1 k (lm us)::(vl vs::(vi n::(dds 1 (.val (.int .u64 t)::(.val (.int .u64 t2)::(vi j::(dds 266 []))))))))))))) Zf 400 [.b true] [4,8,9,10,11,13,14,15] (ac c1 a0)) (Za.seq (Za.block_norm (Za.seq (Za.go (t:=(dds 4 (.own 1 kq (lm qs)::(dds 3 (vi s::(.own 1 k (lm us)::(vl vs::(vi n::(dds 1 (.val (.int .u64 t)::(.val (.int .u64 t2)::(vi j::(.val (.int .u64 (u64.wrap ((BitVec.ofInt (IntKind.bits .u64) (u64.wrap ((u64.wrap (us.getD (Int.toNat (i64.wrap (j+n))) 0))*2^(min (Int.toNat 32) (IntKind.bits .u64)))) ||| BitVec.ofInt (IntKind.bits .u64) (u64.wrap (us.getD (Int.toNat (i64.wrap ((i64.wrap (j+n))-1))) 0))).toNat)))::(dds 265 [])))))))))))))) Zf 400 [.v (.int .u32 (us.getD (Int.toNat (i64.wrap (j+n))) 0)), .v (.int .u32 (us.getD (Int.toNat (i64.wrap ((i64.wrap (j+n))-1))) 0))] [4,8,9,10,11,13,14,15,16] (ac n1 (ac (Jk n2 n1) (ac (show ¬ (32:Int)<0 from (by decide)) (ac n3 (ac (Jk n2 n3) a0)))))) (Za.seq (Za.go Zf 400 [] [4,8,9,10,11,13,14,15,17,18] (ac n4 (ac n4 a0))) (Za.seq (Za.block hl5) (Za.seq (Za.go (t:=(dds 4 (.own 1 kq (lm qs)::(dds 3 (vi s::(.own 1 k (lm us)::(vl vs::(vi n::(dds 1 (.val (.int .u64 t)::(.val (.int .u64 t2)::(vi j::(dds 1 (.val (.int .u64 g)::(dds 1 (.val (.int .u64 0)::(.val (.int .u64 0)::(dds 261 [])))))))))))))))))) Zf 400 [] [4,8,9,10,11,13,14,15,17,19,20] a0) (Za.seq (Za.seq (Za.go Zf 400 [] [4,8,9,10,11,13,14,15,17,19,20,21] a0) (Za.block hl6)) (Za.seq (Za.go (t:=(dds 4 (.own 1 kq (lm qs)::(dds 3 (vi s::(.own 1 k (lm us1)::(vl vs::(vi n::(dds 1 (.val (.int .u64 t)::(.val (.int .u64 t2)::(vi j::(dds 1 (.val (.int .u64 g)::(dds 6 (.val (.int .u64 (u64.wrap ((u64.wrap ((u64.wrap (us1.getD (Int.toNat (i64.wrap (j+n))) 0))-c))-b)))::(dds 257 []))))))))))))))))) Zf 400 [.v (.int .u32 (us1.getD (Int.toNat (i64.wrap (j+n))) 0))] [4,8,9,10,11,13,14,15,17,24] (ac n1 (ac (Jk n7 n1) a0))) (Za.seq (Za.go (t:=(dds 4 (.own 1 kq (lm qs)::(dds 3 (vi s::(.own 1 k (lm (us1.set (Int.toNat (i64.wrap (j+n))) (u32.wrap (u64.wrap ((u64.wrap ((u64.wrap (us1.getD (Int.toNat (i64.wrap (j+n))) 0))-c))-b)))))::(vl vs::(vi n::(dds 1 (.val (.int .u64 t)::(.val (.int .u64 t2)::(vi j::(dds 1 (.val (.int .u64 g)::(dds 6 (.val (.int .u64 (u64.wrap ((u64.wrap ((u64.wrap (us1.getD (Int.toNat (i64.wrap (j+n))) 0))-c))-b)))::(dds 257 []))))))))))))))))) Zf 400 [.l (lm (us1.set (Int.toNat (i64.wrap (j+n))) (u32.wrap (u64.wrap ((u64.wrap ((u64.wrap (us1.getD (Int.toNat (i64.wrap (j+n))) 0))-c))-b)))))] [4,8,9,10,11,13,14,15,17,24] (ac n1 (ac (show X4 (lm us1) (Int.toNat (i64.wrap (j+n))*1) [.int .u32 (u32.wrap (u64.wrap ((u64.wrap ((u64.wrap (us1.getD (Int.toNat (i64.wrap (j+n))) 0))-c))-b)))]=some (lm (us1.set (Int.toNat (i64.wrap (j+n))) (u32.wrap (u64.wrap ((u64.wrap ((u64.wrap (us1.getD (Int.toNat (i64.wrap (j+n))) 0))-c))-b))))) from (J8 n7 n1)) a0))) (Za.seq (Za.seq (Za.go (t:=(dds 4 (.own 1 kq (lm qs)::(dds 3 (vi s::(.own 1 k (lm (us1.set (Int.toNat (i64.wrap (j+n))) (u32.wrap (u64.wrap ((u64.wrap ((u64.wrap (us1.getD (Int.toNat (i64.wrap (j+n))) 0))-c))-b)))))::(vl vs::(vi n::(dds 1 (.val (.int .u64 t)::(.val (.int .u64 t2)::(vi j::(dds 1 (.val (.int .u64 g)::(dds 181 (.val (.bool ((Int.fdiv (u64.wrap ((u64.wrap ((u64.wrap (us1.getD (Int.toNat (i64.wrap (j+n))) 0))-c))-b)) (2^(min (Int.toNat 63) (IntKind.bits .u64)))) != 0))::(dds 82 []))))))))))))))))) Zf 400 [] [4,8,9,10,11,13,14,15,17,199] (ac (show ¬ (63:Int)<0 from (by decide)) a0)) (Za.cond_t (by rfl) c2 (Za.seq (Za.go (t:=(dds 4 (.own 1 kq (lm qs)::(dds 3 (vi s::(.own 1 k (lm (us1.set (Int.toNat (i64.wrap (j+n))) (u32.wrap (u64.wrap ((u64.wrap ((u64.wrap (us1.getD (Int.toNat (i64.wrap (j+n))) 0))-c))-b)))))::(vl vs::(vi n::(dds 1 (.val (.int .u64 t)::(.val (.int .u64 t2)::(vi j::(dds 1 (.val (.int .u64 (u64.wrap (g-1)))::(dds 264 []))))))))))))))) Zf 400 [] [4,8,9,10,11,13,14,15,17] a0) (Za.seq (Za.go (t:=(dds 4 (.own 1 kq (lm qs)::(dds 3 (vi s::(.own 1 k (lm (us1.set (Int.toNat (i64.wrap (j+n))) (u32.wrap (u64.wrap ((u64.wrap ((u64.wrap (us1.getD (Int.toNat (i64.wrap (j+n))) 0))-c))-b)))))::(vl vs::(vi n::(dds 1 (.val (.int .u64 t)::(.val (.int .u64 t2)::(vi j::(dds 1 (.val (.int .u64 (u64.wrap (g-1)))::(dds 7 (.val (.int .u64 0)::(dds 256 []))))))))))))))))) Zf 400 [] [4,8,9,10,11,13,14,15,17,25] a0) (Za.seq (Za.seq (Za.go Zf 400 [] [4,8,9,10,11,13,14,15,17,25,26] a0) (Za.block hl8)) (Za.go (t:=(dds 4 (.own 1 kq (lm qs)::(dds 3 (vi s::(.own 1 k (lm (us2.set (Int.toNat (i64.wrap (j+n))) (u32.wrap ((us2.getD (Int.toNat (i64.wrap (j+n))) 0)+(u32.wrap cc)))))::(vl vs::(vi n::(dds 1 (.val (.int .u64 t)::(.val (.int .u64 t2)::(vi j::(dds 1 (.val (.int .u64 (u64.wrap (g-1)))::(dds 264 []))))))))))))))) Zf 400 [.v (.int .u32 (us2.getD (Int.toNat (i64.wrap (j+n))) 0)), .l (lm (us2.set (Int.toNat (i64.wrap (j+n))) (u32.wrap ((us2.getD (Int.toNat (i64.wrap (j+n))) 0)+(u32.wrap cc)))))] [4,8,9,10,11,13,14,15,17] (ac n1 (ac (Jk n9 n1) (ac n1 (ac (show X4 (lm us2) (Int.toNat (i64.wrap (j+n))*1) [.int .u32 (u32.wrap ((us2.getD (Int.toNat (i64.wrap (j+n))) 0)+(u32.wrap cc)))]=some (lm (us2.set (Int.toNat (i64.wrap (j+n))) (u32.wrap ((us2.getD (Int.toNat (i64.wrap (j+n))) 0)+(u32.wrap cc))))) from (J8 n9 n1)) a0)))))))))) (Za.go (t:=(dds 4 (.own 1 kq (lm (qs.set (Int.toNat j) (u32.wrap (u64.wrap (g-1)))))::(dds 3 (vi s::(.own 1 k (lm (us2.set (Int.toNat (i64.wrap (j+n))) (u32.wrap ((us2.getD (Int.toNat (i64.wrap (j+n))) 0)+(u32.wrap cc)))))::(vl vs::(vi n::(dds 1 (.val (.int .u64 t)::(.val (.int .u64 t2)::(vi j::(dds 266 []))))))))))))) Zf 400 [.l (lm (qs.set (Int.toNat j) (u32.wrap (u64.wrap (g-1)))))] [4,8,9,10,11,13,14,15] (ac n10 (ac (show X4 (lm qs) (Int.toNat j*1) [.int .u32 (u32.wrap (u64.wrap (g-1)))]=some (lm (qs.set (Int.toNat j) (u32.wrap (u64.wrap (g-1))))) from (J8 n11 n10)) a0)))))))))))) (Za.go Zf 400 [] [4,8,9,10,11,13,14,15] a0)))
theorem Zoi (k:Nat) (us:List Int) (vs:List Int) (n:Int) (t:Int) (t2:Int) (kq:Nat) (qs:List Int) (s:Int) (j:Int) (us1:List Int) (g r b c:Int) (c1:(decide (j≥0))=true) (c2:((Int.fdiv (u64.wrap ((u64.wrap ((u64.wrap (us1.getD (Int.toNat (i64.wrap (j+n))) 0))-c))-b)) (2^(min (Int.toNat 63) (IntKind.bits .u64)))) != 0)=false) (n1:0≤(i64.wrap (j+n))∧(i64.wrap (j+n))<(k:Int)) (n2:us.length=k) (n3:0≤(i64.wrap ((i64.wrap (j+n))-1))∧(i64.wrap ((i64.wrap (j+n))-1))<(k:Int)) (n4:¬ t=0) (hl5:Za Yir (.loop Wg) (Xn k us vs n t t2 kq qs s j (u64.wrap (Int.tdiv (u64.wrap ((BitVec.ofInt (IntKind.bits .u64) (u64.wrap ((u64.wrap (us.getD (Int.toNat (i64.wrap (j+n))) 0))*2^(min (Int.toNat 32) (IntKind.bits .u64)))) ||| BitVec.ofInt (IntKind.bits .u64) (u64.wrap (us.getD (Int.toNat (i64.wrap ((i64.wrap (j+n))-1))) 0))).toNat)) t)) (Int.tmod (u64.wrap ((BitVec.ofInt (IntKind.bits .u64) (u64.wrap ((u64.wrap (us.getD (Int.toNat (i64.wrap (j+n))) 0))*2^(min (Int.toNat 32) (IntKind.bits .u64)))) ||| BitVec.ofInt (IntKind.bits .u64) (u64.wrap (us.getD (Int.toNat (i64.wrap ((i64.wrap (j+n))-1))) 0))).toNat)) t)) (.exit 2) (Xn k us vs n t t2 kq qs s j g r)) (hl6:Za Yir (.loop A1) (K0 k us vs n t t2 kq qs s j g 0 0 0) (.exit 4) (K0 k us1 vs n t t2 kq qs s j g b c n)) (n7:us1.length=k) (n8:0≤j∧j<(kq:Int)) (n9:qs.length=kq):Za Yir E2 (Kt k us vs n t t2 kq qs s j) .norm (Kt k (us1.set (Int.toNat (i64.wrap (j+n))) (u32.wrap (u64.wrap ((u64.wrap ((u64.wrap (us1.getD (Int.toNat (i64.wrap (j+n))) 0))-c))-b)))) vs n t t2 kq (qs.set (Int.toNat j) (u32.wrap g)) s (i64.wrap (j-1))):=(Za.seq (Za.go (t:=(dds 4 (.own 1 kq (lm qs)::(dds 3 (vi s::(.own 1 k (lm us)::(vl vs::(vi n::(dds 1 (.val (.int .u64 t)::(.val (.int .u64 t2)::(vi j::(dds 266 []))))))))))))) Zf 400 [.b true] [4,8,9,10,11,13,14,15] (ac c1 a0)) (Za.seq (Za.block_norm (Za.seq (Za.go (t:=(dds 4 (.own 1 kq (lm qs)::(dds 3 (vi s::(.own 1 k (lm us)::(vl vs::(vi n::(dds 1 (.val (.int .u64 t)::(.val (.int .u64 t2)::(vi j::(.val (.int .u64 (u64.wrap ((BitVec.ofInt (IntKind.bits .u64) (u64.wrap ((u64.wrap (us.getD (Int.toNat (i64.wrap (j+n))) 0))*2^(min (Int.toNat 32) (IntKind.bits .u64)))) ||| BitVec.ofInt (IntKind.bits .u64) (u64.wrap (us.getD (Int.toNat (i64.wrap ((i64.wrap (j+n))-1))) 0))).toNat)))::(dds 265 [])))))))))))))) Zf 400 [.v (.int .u32 (us.getD (Int.toNat (i64.wrap (j+n))) 0)), .v (.int .u32 (us.getD (Int.toNat (i64.wrap ((i64.wrap (j+n))-1))) 0))] [4,8,9,10,11,13,14,15,16] (ac n1 (ac (Jk n2 n1) (ac (show ¬ (32:Int)<0 from (by decide)) (ac n3 (ac (Jk n2 n3) a0)))))) (Za.seq (Za.go Zf 400 [] [4,8,9,10,11,13,14,15,17,18] (ac n4 (ac n4 a0))) (Za.seq (Za.block hl5) (Za.seq (Za.go (t:=(dds 4 (.own 1 kq (lm qs)::(dds 3 (vi s::(.own 1 k (lm us)::(vl vs::(vi n::(dds 1 (.val (.int .u64 t)::(.val (.int .u64 t2)::(vi j::(dds 1 (.val (.int .u64 g)::(dds 1 (.val (.int .u64 0)::(.val (.int .u64 0)::(dds 261 [])))))))))))))))))) Zf 400 [] [4,8,9,10,11,13,14,15,17,19,20] a0) (Za.seq (Za.seq (Za.go Zf 400 [] [4,8,9,10,11,13,14,15,17,19,20,21] a0) (Za.block hl6)) (Za.seq (Za.go (t:=(dds 4 (.own 1 kq (lm qs)::(dds 3 (vi s::(.own 1 k (lm us1)::(vl vs::(vi n::(dds 1 (.val (.int .u64 t)::(.val (.int .u64 t2)::(vi j::(dds 1 (.val (.int .u64 g)::(dds 6 (.val (.int .u64 (u64.wrap ((u64.wrap ((u64.wrap (us1.getD (Int.toNat (i64.wrap (j+n))) 0))-c))-b)))::(dds 257 []))))))))))))))))) Zf 400 [.v (.int .u32 (us1.getD (Int.toNat (i64.wrap (j+n))) 0))] [4,8,9,10,11,13,14,15,17,24] (ac n1 (ac (Jk n7 n1) a0))) (Za.seq (Za.go (t:=(dds 4 (.own 1 kq (lm qs)::(dds 3 (vi s::(.own 1 k (lm (us1.set (Int.toNat (i64.wrap (j+n))) (u32.wrap (u64.wrap ((u64.wrap ((u64.wrap (us1.getD (Int.toNat (i64.wrap (j+n))) 0))-c))-b)))))::(vl vs::(vi n::(dds 1 (.val (.int .u64 t)::(.val (.int .u64 t2)::(vi j::(dds 1 (.val (.int .u64 g)::(dds 6 (.val (.int .u64 (u64.wrap ((u64.wrap ((u64.wrap (us1.getD (Int.toNat (i64.wrap (j+n))) 0))-c))-b)))::(dds 257 []))))))))))))))))) Zf 400 [.l (lm (us1.set (Int.toNat (i64.wrap (j+n))) (u32.wrap (u64.wrap ((u64.wrap ((u64.wrap (us1.getD (Int.toNat (i64.wrap (j+n))) 0))-c))-b)))))] [4,8,9,10,11,13,14,15,17,24] (ac n1 (ac (show X4 (lm us1) (Int.toNat (i64.wrap (j+n))*1) [.int .u32 (u32.wrap (u64.wrap ((u64.wrap ((u64.wrap (us1.getD (Int.toNat (i64.wrap (j+n))) 0))-c))-b)))]=some (lm (us1.set (Int.toNat (i64.wrap (j+n))) (u32.wrap (u64.wrap ((u64.wrap ((u64.wrap (us1.getD (Int.toNat (i64.wrap (j+n))) 0))-c))-b))))) from (J8 n7 n1)) a0))) (Za.seq (Za.seq (Za.go (t:=(dds 4 (.own 1 kq (lm qs)::(dds 3 (vi s::(.own 1 k (lm (us1.set (Int.toNat (i64.wrap (j+n))) (u32.wrap (u64.wrap ((u64.wrap ((u64.wrap (us1.getD (Int.toNat (i64.wrap (j+n))) 0))-c))-b)))))::(vl vs::(vi n::(dds 1 (.val (.int .u64 t)::(.val (.int .u64 t2)::(vi j::(dds 1 (.val (.int .u64 g)::(dds 181 (.val (.bool ((Int.fdiv (u64.wrap ((u64.wrap ((u64.wrap (us1.getD (Int.toNat (i64.wrap (j+n))) 0))-c))-b)) (2^(min (Int.toNat 63) (IntKind.bits .u64)))) != 0))::(dds 82 []))))))))))))))))) Zf 400 [] [4,8,9,10,11,13,14,15,17,199] (ac (show ¬ (63:Int)<0 from (by decide)) a0)) (Za.cond_f (by rfl) c2 (Za.go (t:=(dds 4 (.own 1 kq (lm qs)::(dds 3 (vi s::(.own 1 k (lm (us1.set (Int.toNat (i64.wrap (j+n))) (u32.wrap (u64.wrap ((u64.wrap ((u64.wrap (us1.getD (Int.toNat (i64.wrap (j+n))) 0))-c))-b)))))::(vl vs::(vi n::(dds 1 (.val (.int .u64 t)::(.val (.int .u64 t2)::(vi j::(dds 1 (.val (.int .u64 g)::(dds 264 []))))))))))))))) Zf 400 [] [4,8,9,10,11,13,14,15,17] a0))) (Za.go (t:=(dds 4 (.own 1 kq (lm (qs.set (Int.toNat j) (u32.wrap g)))::(dds 3 (vi s::(.own 1 k (lm (us1.set (Int.toNat (i64.wrap (j+n))) (u32.wrap (u64.wrap ((u64.wrap ((u64.wrap (us1.getD (Int.toNat (i64.wrap (j+n))) 0))-c))-b)))))::(vl vs::(vi n::(dds 1 (.val (.int .u64 t)::(.val (.int .u64 t2)::(vi j::(dds 266 []))))))))))))) Zf 400 [.l (lm (qs.set (Int.toNat j) (u32.wrap g)))] [4,8,9,10,11,13,14,15] (ac n8 (ac (show X4 (lm qs) (Int.toNat j*1) [.int .u32 (u32.wrap g)]=some (lm (qs.set (Int.toNat j) (u32.wrap g))) from (J8 n9 n8)) a0)))))))))))) (Za.go Zf 400 [] [4,8,9,10,11,13,14,15] a0)))
theorem Zoh (k:Nat) (us:List Int) (vs:List Int) (n:Int) (t:Int) (t2:Int) (kq:Nat) (qs:List Int) (s:Int) (j:Int)  (c1:(decide (j≥0))=false):Za Yir E2 (Kt k us vs n t t2 kq qs s j) (.exit 0) (Kt k us vs n t t2 kq qs s j):=(Za.seq_out (Za.go Zf 400 [.b false] [4,8,9,10,11,13,14,15] (ac c1 a0)) (by intro e;cases e))
def W3 (k:Nat) (us:List Int) (n:Int) (kq:Nat) (qs:List Int) (kr:Nat) (rs:List Int) (s:Int) (i:Int):Zi:=(dds 4 (.own 1 kq (lm qs)::(.own 1 kr (lm rs)::(dds 2 (.val (.int .i64 s)::(.own 1 k (lm us)::(dds 1 (.val (.int .i64 n)::(dds 16 (.val (.int .i64 i)::(dds 253 [])))))))))))
theorem Zi8 (k:Nat) (us:List Int) (n:Int) (kq:Nat) (qs:List Int) (kr:Nat) (rs:List Int) (s:Int) (i:Int)  (c1:(decide (i<n))=true) (c2:(decide (s>0))=true) (n1:0≤i∧i<(k:Int)) (n2:us.length=k) (n3:¬ (u64.wrap s)<0) (n4:0≤i∧i<(kr:Int)) (n5:rs.length=kr) (n6:(rs.set (Int.toNat i) (Int.fdiv (us.getD (Int.toNat i) 0) (2^(min (Int.toNat (u64.wrap s)) (IntKind.bits .u32))))).length=kr) (n7:0≤(i64.wrap (i+1))∧(i64.wrap (i+1))<(k:Int)) (n8:¬ (u64.wrap (i64.wrap (32-s)))<0):Za Yir Bs (W3 k us n kq qs kr rs s i) .norm (W3 k us n kq qs kr ((rs.set (Int.toNat i) (Int.fdiv (us.getD (Int.toNat i) 0) (2^(min (Int.toNat (u64.wrap s)) (IntKind.bits .u32))))).set (Int.toNat i) (u32.wrap ((BitVec.ofInt (IntKind.bits .u32) ((rs.set (Int.toNat i) (Int.fdiv (us.getD (Int.toNat i) 0) (2^(min (Int.toNat (u64.wrap s)) (IntKind.bits .u32))))).getD (Int.toNat i) 0) ||| BitVec.ofInt (IntKind.bits .u32) (u32.wrap ((us.getD (Int.toNat (i64.wrap (i+1))) 0)*2^(min (Int.toNat (u64.wrap (i64.wrap (32-s)))) (IntKind.bits .u32))))).toNat))) s (i64.wrap (i+1))):=(Za.go Zf 400 [.b true, .v (.int .u32 (us.getD (Int.toNat i) 0)), .l (lm (rs.set (Int.toNat i) (Int.fdiv (us.getD (Int.toNat i) 0) (2^(min (Int.toNat (u64.wrap s)) (IntKind.bits .u32)))))), .b true, .v (.int .u32 ((rs.set (Int.toNat i) (Int.fdiv (us.getD (Int.toNat i) 0) (2^(min (Int.toNat (u64.wrap s)) (IntKind.bits .u32))))).getD (Int.toNat i) 0)), .v (.int .u32 (us.getD (Int.toNat (i64.wrap (i+1))) 0)), .l (lm ((rs.set (Int.toNat i) (Int.fdiv (us.getD (Int.toNat i) 0) (2^(min (Int.toNat (u64.wrap s)) (IntKind.bits .u32))))).set (Int.toNat i) (u32.wrap ((BitVec.ofInt (IntKind.bits .u32) ((rs.set (Int.toNat i) (Int.fdiv (us.getD (Int.toNat i) 0) (2^(min (Int.toNat (u64.wrap s)) (IntKind.bits .u32))))).getD (Int.toNat i) 0) ||| BitVec.ofInt (IntKind.bits .u32) (u32.wrap ((us.getD (Int.toNat (i64.wrap (i+1))) 0)*2^(min (Int.toNat (u64.wrap (i64.wrap (32-s)))) (IntKind.bits .u32))))).toNat))))] [4,5,8,9,11,28] (ac c1 (ac n1 (ac (Jk n2 n1) (ac n3 (ac n4 (ac (show X4 (lm rs) (Int.toNat i*1) [.int .u32 (Int.fdiv (us.getD (Int.toNat i) 0) (2^(min (Int.toNat (u64.wrap s)) (IntKind.bits .u32))))]=some (lm (rs.set (Int.toNat i) (Int.fdiv (us.getD (Int.toNat i) 0) (2^(min (Int.toNat (u64.wrap s)) (IntKind.bits .u32)))))) from (J8 n5 n4)) (ac c2 (ac n4 (ac (Jk n6 n4) (ac n7 (ac (Jk n2 n7) (ac n8 (ac n4 (ac (show X4 (lm (rs.set (Int.toNat i) (Int.fdiv (us.getD (Int.toNat i) 0) (2^(min (Int.toNat (u64.wrap s)) (IntKind.bits .u32)))))) (Int.toNat i*1) [.int .u32 (u32.wrap ((BitVec.ofInt (IntKind.bits .u32) ((rs.set (Int.toNat i) (Int.fdiv (us.getD (Int.toNat i) 0) (2^(min (Int.toNat (u64.wrap s)) (IntKind.bits .u32))))).getD (Int.toNat i) 0) ||| BitVec.ofInt (IntKind.bits .u32) (u32.wrap ((us.getD (Int.toNat (i64.wrap (i+1))) 0)*2^(min (Int.toNat (u64.wrap (i64.wrap (32-s)))) (IntKind.bits .u32))))).toNat))]=some (lm ((rs.set (Int.toNat i) (Int.fdiv (us.getD (Int.toNat i) 0) (2^(min (Int.toNat (u64.wrap s)) (IntKind.bits .u32))))).set (Int.toNat i) (u32.wrap ((BitVec.ofInt (IntKind.bits .u32) ((rs.set (Int.toNat i) (Int.fdiv (us.getD (Int.toNat i) 0) (2^(min (Int.toNat (u64.wrap s)) (IntKind.bits .u32))))).getD (Int.toNat i) 0) ||| BitVec.ofInt (IntKind.bits .u32) (u32.wrap ((us.getD (Int.toNat (i64.wrap (i+1))) 0)*2^(min (Int.toNat (u64.wrap (i64.wrap (32-s)))) (IntKind.bits .u32))))).toNat)))) from (J8 n6 n4)) a0)))))))))))))))
theorem Zi7 (k:Nat) (us:List Int) (n:Int) (kq:Nat) (qs:List Int) (kr:Nat) (rs:List Int) (s:Int) (i:Int)  (c1:(decide (i<n))=true) (c2:(decide (s>0))=false) (n1:0≤i∧i<(k:Int)) (n2:us.length=k) (n3:¬ (u64.wrap s)<0) (n4:0≤i∧i<(kr:Int)) (n5:rs.length=kr):Za Yir Bs (W3 k us n kq qs kr rs s i) .norm (W3 k us n kq qs kr (rs.set (Int.toNat i) (Int.fdiv (us.getD (Int.toNat i) 0) (2^(min (Int.toNat (u64.wrap s)) (IntKind.bits .u32))))) s (i64.wrap (i+1))):=(Za.go Zf 400 [.b true, .v (.int .u32 (us.getD (Int.toNat i) 0)), .l (lm (rs.set (Int.toNat i) (Int.fdiv (us.getD (Int.toNat i) 0) (2^(min (Int.toNat (u64.wrap s)) (IntKind.bits .u32)))))), .b false] [4,5,8,9,11,28] (ac c1 (ac n1 (ac (Jk n2 n1) (ac n3 (ac n4 (ac (show X4 (lm rs) (Int.toNat i*1) [.int .u32 (Int.fdiv (us.getD (Int.toNat i) 0) (2^(min (Int.toNat (u64.wrap s)) (IntKind.bits .u32))))]=some (lm (rs.set (Int.toNat i) (Int.fdiv (us.getD (Int.toNat i) 0) (2^(min (Int.toNat (u64.wrap s)) (IntKind.bits .u32)))))) from (J8 n5 n4)) (ac c2 a0))))))))
theorem Zi6 (k:Nat) (us:List Int) (n:Int) (kq:Nat) (qs:List Int) (kr:Nat) (rs:List Int) (s:Int) (i:Int)  (c1:(decide (i<n))=false):Za Yir Bs (W3 k us n kq qs kr rs s i) (.exit 8) (W3 k us n kq qs kr rs s i):=(Za.go Zf 400 [.b false] [4,5,8,9,11,28] (ac c1 a0))
theorem Zdx (xs ys:List Int) (cm:Int) (c1:(decide (cm<0))=true) (n1:List.length (lm xs)=xs.length*1) (n2:xs.length≤1048576) (n3:Ze Yir 150 [.sl xs.length (lm xs), .sl ys.length (lm ys)] (.int .i64 cm)):Ze Yir 147 [.sl xs.length (lm xs), .sl ys.length (lm ys)] (.tup [.sl 0 [], .sl xs.length (lm xs)]):=Ze.of_bodyW (fn:=Pi) (s:=(dds 1 (.val (.sl ys.length (lm ys))::(dds 2 (.own 1 0 []::(.own 1 xs.length (lm xs)::(dds 276 []))))))) (ex := .ret) rfl rfl (Za.seq (Za.go (t:=(vl xs::(vl ys::(dds 2 (.own 1 0 []::(.own 1 0 []::(dds 276 []))))))) Zf 400 [] [0,1,4,5] a0) (Za.seq_out (Za.go Zf 400 [.r (.int .i64 cm), .b true] [1,4,5] (ac n3 (ac c1 (ac n1 (ac n2 a0))))) (by intro e;cases e))) (by intro i e;cases e) rfl
theorem Zdw (xs ys zs:List Int) (cm rr:Int) (c1:(decide (cm<0))=false) (c2:((ys.length:Int)==1)=true) (n1:Ze Yir 150 [.sl xs.length (lm xs), .sl ys.length (lm ys)] (.int .i64 cm)) (n2:0≤(0:Int)∧(0:Int)<(ys.length:Int)) (n3:Ze Yir 153 [.sl xs.length (lm xs), .int .u32 (ys.getD (Int.toNat 0) 0)] (.tup [.sl zs.length (lm zs), .int .u32 rr])):Ze Yir 147 [.sl xs.length (lm xs), .sl ys.length (lm ys)] (.tup [.sl zs.length (lm zs), .sl 1 [.int .u32 rr]]):=Ze.of_bodyW (fn:=Pi) (s:=(dds 1 (.val (.sl ys.length (lm ys))::(dds 2 (.val (.sl zs.length (lm zs))::(.own 1 1 [.int .u32 rr]::(dds 276 []))))))) (ex := .ret) rfl rfl (Za.seq (Za.go (t:=(vl xs::(vl ys::(dds 2 (.own 1 0 []::(.own 1 0 []::(dds 276 []))))))) Zf 400 [] [0,1,4,5] a0) (Za.seq (Za.go (t:=(vl xs::(vl ys::(dds 2 (.own 1 0 []::(.own 1 0 []::(dds 26 (.val (.bool (decide (cm<0)))::(dds 249 []))))))))) Zf 400 [.r (.int .i64 cm), .b false] [0,1,4,5,32] (ac n1 (ac c1 a0))) (Za.seq_out (Za.go Zf 400 [.b true, .v (.int .u32 (ys.getD (Int.toNat 0) 0)), .r (.tup [.sl zs.length (lm zs), .int .u32 rr])] [1,4,5] (ac c2 (ac n2 (ac (Xr n2) (ac n3 a0))))) (by intro e;cases e)))) (by intro i e;cases e) rfl
theorem Zdv (xs ys us ws us1 vs qs rs:List Int) (cm s n t t2 j:Int) (k kq kr:Nat) (c1:(decide (cm<0))=false) (c2:((ys.length:Int)==1)=false) (n1:Ze Yir 150 [.sl xs.length (lm xs), .sl ys.length (lm ys)] (.int .i64 cm)) (n2:0≤(i64.wrap ((ys.length:Int)-1))∧(i64.wrap ((ys.length:Int)-1))<(ys.length:Int)) (n3:Ze Yir 154 [.int .u32 (ys.getD (Int.toNat (i64.wrap ((ys.length:Int)-1))) 0)] (.int .i64 s)) (n4:0≤(ys.length:Int)) (n5:0≤(Int.toNat (ys.length:Int))∧(Int.toNat (ys.length:Int))≤ws.length∧ws.length≤ws.length∧(false=true→true=true)) (n6:Ze Yir 155 [.sl xs.length (lm xs), .int .i64 s] (.fresh 1 us.length (lm us))) (n7:Ze Yir 155 [.sl ys.length (lm ys), .int .i64 s] (.fresh 1 ws.length (lm ws))) (n8:0≤(i64.wrap ((i64.wrap ((xs.length:Int)-(ys.length:Int)))+1))∧(i64.wrap ((i64.wrap ((xs.length:Int)-(ys.length:Int)))+1))≤1048576) (n9:0≤(i64.wrap ((ys.length:Int)-1))∧(i64.wrap ((ys.length:Int)-1))<((((Int.toNat (ys.length:Int))-0):Nat):Int)) (n10:0≤(i64.wrap ((ys.length:Int)-2))∧(i64.wrap ((ys.length:Int)-2))<((((Int.toNat (ys.length:Int))-0):Nat):Int)) (hl11:Za Yir (.loop E2) ((dds 4 (.own 1 (Int.toNat (i64.wrap ((i64.wrap ((xs.length:Int)-(ys.length:Int)))+1))) (Qy [.int .u32 0] (Int.toNat (i64.wrap ((i64.wrap ((xs.length:Int)-(ys.length:Int)))+1))))::(dds 3 (.val (.int .i64 s)::(.own 1 us.length (lm us)::(.val (.sl ((Int.toNat (ys.length:Int))-0) (List.take (((Int.toNat (ys.length:Int))-0)*1) (List.drop (0*1) (lm ws))))::(.val (.int .i64 (ys.length:Int))::(dds 1 (.val (.int .u64 (u64.wrap (((ws.drop 0).take ((Int.toNat (ys.length:Int))-0)).getD (Int.toNat (i64.wrap ((ys.length:Int)-1))) 0)))::(.val (.int .u64 (u64.wrap (((ws.drop 0).take ((Int.toNat (ys.length:Int))-0)).getD (Int.toNat (i64.wrap ((ys.length:Int)-2))) 0)))::(.val (.int .i64 (i64.wrap ((xs.length:Int)-(ys.length:Int))))::(dds 266 []))))))))))))) (.exit 0) (Kt k us1 vs n t t2 kq qs s j)) (n12:0≤n∧n≤1048576) (hl13:Za Yir (.loop Bs) ((dds 4 (.own 1 kq (lm qs)::(.own 1 (Int.toNat n) (Qy [.int .u32 0] (Int.toNat n))::(dds 2 (.val (.int .i64 s)::(.own 1 k (lm us1)::(dds 1 (.val (.int .i64 n)::(dds 16 (.val (.int .i64 0)::(dds 253 [])))))))))))) (.exit 8) (W3 k us1 n kq qs kr rs s n)):Ze Yir 147 [.sl xs.length (lm xs), .sl ys.length (lm ys)] (.tup [.sl kq (lm qs), .sl kr (lm rs)]):=Ze.of_bodyW (fn:=Pi) (s:=(dds 4 (.own 1 kq (lm qs)::(.own 1 kr (lm rs)::(dds 276 []))))) (ex := .ret) rfl rfl (Za.seq (Za.go (t:=(vl xs::(vl ys::(dds 2 (.own 1 0 []::(.own 1 0 []::(dds 276 []))))))) Zf 400 [] [0,1,4,5] a0) (Za.seq (Za.go (t:=(vl xs::(vl ys::(dds 2 (.own 1 0 []::(.own 1 0 []::(dds 26 (.val (.bool (decide (cm<0)))::(dds 249 []))))))))) Zf 400 [.r (.int .i64 cm), .b false] [0,1,4,5,32] (ac n1 (ac c1 a0))) (Za.seq (Za.go (t:=(vl xs::(vl ys::(dds 2 (.own 1 0 []::(.own 1 0 []::(dds 26 (.val (.bool (decide (cm<0)))::(dds 249 []))))))))) Zf 400 [.b false] [0,1,4,5,32] (ac c2 a0)) (Za.seq (Za.go (t:=(vl xs::(vl ys::(dds 2 (.own 1 0 []::(.own 1 0 []::(dds 2 (vi s::(dds 23 (.val (.bool (decide (cm<0)))::(dds 249 []))))))))))) Zf 400 [.v (.int .u32 (ys.getD (Int.toNat (i64.wrap ((ys.length:Int)-1))) 0)), .r (.int .i64 s)] [0,1,4,5,8,32] (ac n2 (ac (Xr n2) (ac n3 a0)))) (Za.seq (Za.go (t:=(vl xs::(vl ys::(dds 2 (.own 1 0 []::(.own 1 0 []::(dds 2 (vi s::(.own 1 us.length (lm us)::(.val (.sl ((Int.toNat (ys.length:Int))-0) (List.take (((Int.toNat (ys.length:Int))-0)*1) (List.drop (0*1) (lm ws))))::(dds 21 (.val (.bool (decide (cm<0)))::(dds 30 (vi (ys.length:Int)::(.val (.sl ((Int.toNat (ys.length:Int))-0) (List.take (((Int.toNat (ys.length:Int))-0)*1) (List.drop (0*1) (lm ws))))::(dds 217 [])))))))))))))))) Zf 400 [.r (.fresh 1 us.length (lm us)), .r (.fresh 1 ws.length (lm ws))] [0,1,4,5,8,9,10,32,63,64] (ac n6 (ac n7 (ac n4 (ac n5 a0))))) (Za.seq (Za.go (t:=(vl xs::(vl ys::(dds 2 (.own 1 0 []::(.own 1 0 []::(dds 2 (vi s::(.own 1 us.length (lm us)::(.val (.sl ((Int.toNat (ys.length:Int))-0) (List.take (((Int.toNat (ys.length:Int))-0)*1) (List.drop (0*1) (lm ws))))::(vi (ys.length:Int)::(vi (i64.wrap ((xs.length:Int)-(ys.length:Int)))::(dds 19 (.val (.bool (decide (cm<0)))::(dds 30 (vi (ys.length:Int)::(.val (.sl ((Int.toNat (ys.length:Int))-0) (List.take (((Int.toNat (ys.length:Int))-0)*1) (List.drop (0*1) (lm ws))))::(dds 217 [])))))))))))))))))) Zf 400 [] [0,1,4,5,8,9,10,11,12,32,63,64] a0) (Za.seq (Za.go (t:=(vl xs::(vl ys::(dds 2 (.own 1 (Int.toNat (i64.wrap ((i64.wrap ((xs.length:Int)-(ys.length:Int)))+1))) (Qy [.int .u32 0] (Int.toNat (i64.wrap ((i64.wrap ((xs.length:Int)-(ys.length:Int)))+1))))::(.own 1 0 []::(dds 2 (vi s::(.own 1 us.length (lm us)::(.val (.sl ((Int.toNat (ys.length:Int))-0) (List.take (((Int.toNat (ys.length:Int))-0)*1) (List.drop (0*1) (lm ws))))::(vi (ys.length:Int)::(vi (i64.wrap ((xs.length:Int)-(ys.length:Int)))::(dds 19 (.val (.bool (decide (cm<0)))::(dds 30 (vi (ys.length:Int)::(.val (.sl ((Int.toNat (ys.length:Int))-0) (List.take (((Int.toNat (ys.length:Int))-0)*1) (List.drop (0*1) (lm ws))))::(dds 217 [])))))))))))))))))) Zf 400 [] [0,1,4,5,8,9,10,11,12,32,63,64] (ac n8 a0)) (Za.seq (Za.go (t:=(vl xs::(vl ys::(dds 2 (.own 1 (Int.toNat (i64.wrap ((i64.wrap ((xs.length:Int)-(ys.length:Int)))+1))) (Qy [.int .u32 0] (Int.toNat (i64.wrap ((i64.wrap ((xs.length:Int)-(ys.length:Int)))+1))))::(.own 1 0 []::(dds 2 (vi s::(.own 1 us.length (lm us)::(.val (.sl ((Int.toNat (ys.length:Int))-0) (List.take (((Int.toNat (ys.length:Int))-0)*1) (List.drop (0*1) (lm ws))))::(vi (ys.length:Int)::(vi (i64.wrap ((xs.length:Int)-(ys.length:Int)))::(.val (.int .u64 (u64.wrap (((ws.drop 0).take ((Int.toNat (ys.length:Int))-0)).getD (Int.toNat (i64.wrap ((ys.length:Int)-1))) 0)))::(.val (.int .u64 (u64.wrap (((ws.drop 0).take ((Int.toNat (ys.length:Int))-0)).getD (Int.toNat (i64.wrap ((ys.length:Int)-2))) 0)))::(dds 17 (.val (.bool (decide (cm<0)))::(dds 30 (vi (ys.length:Int)::(.val (.sl ((Int.toNat (ys.length:Int))-0) (List.take (((Int.toNat (ys.length:Int))-0)*1) (List.drop (0*1) (lm ws))))::(dds 217 [])))))))))))))))))))) Zf 400 [.v (.int .u32 (((ws.drop 0).take ((Int.toNat (ys.length:Int))-0)).getD (Int.toNat (i64.wrap ((ys.length:Int)-1))) 0)), .v (.int .u32 (((ws.drop 0).take ((Int.toNat (ys.length:Int))-0)).getD (Int.toNat (i64.wrap ((ys.length:Int)-2))) 0))] [0,1,4,5,8,9,10,11,12,13,14,32,63,64] (ac n9 (ac (B9 n9 n5) (ac n10 (ac (B9 n10 n5) a0))))) (Za.seq (Za.seq (Za.go Zf 400 [] [4,8,9,10,11,13,14,15] a0) (Za.block hl11)) (Za.seq (Za.go (t:=(dds 4 (.own 1 kq (lm qs)::(.own 1 (Int.toNat n) (Qy [.int .u32 0] (Int.toNat n))::(dds 2 (vi s::(.own 1 k (lm us1)::(dds 1 (vi n::(dds 270 [])))))))))) Zf 400 [] [4,5,8,9,11] (ac n12 a0)) (Za.seq (Za.seq (Za.go Zf 400 [] [4,5,8,9,11,28] a0) (Za.block hl13)) (Za.go Zf 400 [] [4,5] a0)))))))))))) (by intro i e;cases e) rfl
def TQA:Ji:=TWB
theorem Zfn:Qh Yir TQA:=Zf
end Go.Proofs.Ythnnfemologhfaa

namespace Go.Proofs.Ythnnfemologhfaa
open Go.IntKind (i64 u64 u32)
open Go.Ai
set_option maxRecDepth 100000
theorem Ziw {xs:List Int} {d:Int} (hx:U32 xs) (hd:0<d∧d<4294967296) (hN:xs.length≤1048576):∀ (i:Nat) (qs:List Int) (r:Int),i≤xs.length→qs.length=xs.length→U32 qs→0≤r∧r<d→(∀ t,t<i→qs.getD t 0=0) →
  ∃ qs' r',Za Yir (.loop Ze8) (L5 xs d xs.length qs r ((i:Int)-1)) (.exit 0) (L5 xs d xs.length qs' r' (-1))∧qs'.length=xs.length∧U32 qs'∧(0≤r'∧r'<d)∧d*Zo qs'+r'=d*Zo qs+4294967296^i*r+Zo (xs.take i):=by
 intro i
 induction i with
 | zero =>
  intro qs r _ hl hu hr _
  refine⟨qs,r,Za.loop_out (Zob xs d xs.length qs r _ (by simp)) (by intro e;cases e),hl,hu,hr,by simp[Zo]⟩
 | succ i ih =>
  intro qs r hi hl hu hr hz
  have ei:(((i+1:Nat):Int)-1)=(i:Nat):=by omega
  have ej:i64.wrap ((i:Int)-1)=(i:Int)-1:=w64 (by omega) (by omega)
  have hxi:=Zz hx i
  have hk:=Zoc xs d xs.length qs r (i:Nat) (by simp) (by omega) (by rw[Wl (by omega)];omega) (by omega) hl
  rw[ej,Int.toNat_natCast,Zf5 (by omega) hxi,Wl (n:=d) (by omega)] at hk
  have hv0:0≤r*4294967296+xs.getD i 0:=by omega
  rw[Int.tdiv_eq_ediv_of_nonneg hv0,Int.tmod_eq_emod_of_nonneg hv0] at hk
  generalize hv:r*4294967296+xs.getD i 0=v at *
  have hm:=Int.mul_ediv_add_emod v d
  have hm0:=Int.emod_nonneg v (show d ≠ 0 by omega)
  have hm1:=Int.emod_lt_of_pos v hd.1
  have hq0:0≤v / d:=Int.ediv_nonneg hv0 (by omega)
  have hq1:v / d<4294967296:=by
   apply Int.ediv_lt_of_lt_mul hd.1
   have:=Int.mul_le_mul_of_nonneg_right (show r≤d-1 by omega) (show (0:Int)≤4294967296 by omega)
   have:(d-1)*4294967296=4294967296*d-4294967296:=by omega
   omega
  rw[Wl (n:=v / d) (by omega),w32 ⟨hq0,hq1⟩] at hk
  obtain⟨qs',r',g1,g2,g3,g4,g5⟩:=ih (qs.set i (v / d)) (v % d) (by omega) (by simpa using hl) (Q7 hu ⟨hq0,hq1⟩) ⟨hm0,hm1⟩ (fun t ht=>by rw[Qf (by omega)];exact hz t (by omega))
  rw[ei]
  refine⟨qs',r',Za.loop hk g1,g2,g3,g4,?_⟩
  rw[g5,J3 _ _ _ (by omega),hz i (by omega),J5 xs i (by omega),Int.pow_succ]
  generalize (4294967296:Int)^i=P at *
  have e2:xs.getD i 0=d*(v / d)+v % d-r*4294967296:=by omega
  rw[e2]
  grind
theorem Nh {xs:List Int} {d:Int} (hx:U32 xs) (hd:0<d∧d<4294967296) (hN:xs.length≤1048576):∃ qs r,(qs:List Int).length=xs.length∧U32 qs∧(0≤r∧r<d)∧d*Zo qs+r=Zo xs∧Ze Yir 153 [.sl xs.length (lm xs), .int .u32 d] (.tup [.sl qs.length (lm qs), .int .u32 r]):=by
 obtain⟨qs,r,h1,h2,h3,h4,h5⟩:=Ziw hx hd hN xs.length (List.replicate xs.length 0) 0 (Nat.le_refl _) (by simp) (Xq _) (by omega) (fun t _=>Jz _ _)
 refine⟨qs,r,h2,h3,h4,?_,?_⟩
 ·rw[h5,Xx,List.take_length];omega
 ·have h:=Zm6 xs qs d r (-1) xs.length (by omega) (by
   rw[Int.toNat_natCast,Uk,w64 (by omega) (by omega)];exact h1)
  rw[w32 (n:=r) (by omega)] at h
  rw[h2]
  exact h
theorem Ziv {xs:List Int} {s:Nat} (hx:U32 xs) (hs:s<32) (hN:xs.length<1048576):∀ (r i:Nat) (os:List Int),i+r=xs.length→os.length=xs.length+1→U32 os→Zo os=2^s*Zo (xs.take i)→os.getD i 0<2^s→(∀ t,i<t→os.getD t 0=0) →
  ∃ os',Za Yir (.loop Ze7) (L4 xs (s:Nat) (xs.length+1) os (xs.length:Nat) (i:Nat)) (.exit 0) (L4 xs (s:Nat) (xs.length+1) os' (xs.length:Nat) (xs.length:Nat))∧os'.length=xs.length+1∧U32 os'∧Zo os'=2^s*Zo xs:=by
 intro r
 induction r with
 | zero =>
  intro i os hi hl hu hv _ _
  have:i=xs.length:=by omega
  subst this
  exact⟨os,Za.loop_out (Zn9 xs _ _ os _ _ (by simp)) (by intro e;cases e),hl,hu,by rw[hv,List.take_length]⟩
 | succ r ih =>
  intro i os hi hl hu hv hc hz
  have ei:i64.wrap ((i:Int)+1)=((i+1:Nat):Int):=by rw[w64 (by omega) (by omega)];omega
  have hxi:=Zz hx i
  have hoi:=Zz hu i
  obtain⟨p0,p1,p2,q,q0,q1⟩:=Na hxi hs
  have es:(2:Int)^(min (Int.toNat (u64.wrap (s:Int))) (IntKind.bits .u64))=2^s:=by
   rw[Wl (by omega),Int.toNat_natCast]
   congr 1
   show min s 64=s
   omega
  have hk:=Zoa xs (s:Nat) (xs.length+1) os (xs.length:Nat) (i:Nat) (by simp;omega) (by omega) (by rw[Wl (by omega)];omega) (by omega) hl (by rw[ei];omega) (by simpa using hl)
  rw[ei,Int.toNat_natCast,Int.toNat_natCast,Wl (n:=xs.getD i 0) (by omega),es,Wl ⟨p0,p1⟩,fd32,Bu (xs.getD i 0*2^s),q1] at hk
  have hqs:q*2^s<4294967296:=by rw[← q1];omega
  rw[or32 q0 hqs (by omega) ⟨hoi.1,hc⟩] at hk
  have hhi:0≤xs.getD i 0*2^s / 4294967296:=by omega
  have hp2:(2:Int)^s≤4294967296:=by have:=K9 (show s≤32 by omega);rwa [show (2:Int)^32=4294967296 by decide] at this
  rw[w32 ⟨hhi,by omega⟩] at hk
  have hsum:0≤q*2^s+os.getD i 0∧q*2^s+os.getD i 0<4294967296:=by
   have hq2:0≤q*2^s:=by rw[← q1];omega
   refine⟨by omega,?_⟩
   have e:(4294967296:Int)=2^(32-s)*2^s:=by
    rw[← Int.pow_add,show 32-s+s=32 by omega];decide
   rw[e] at hqs ⊢
   have hp:=Ju s
   have:=Int.lt_of_mul_lt_mul_right hqs (by omega)
   have:=Int.mul_le_mul_of_nonneg_right (show q+1≤2^(32-s) by omega) (show (0:Int)≤2^s by omega)
   rw[Int.add_mul,Int.one_mul] at this
   omega
  obtain⟨os',g1,g2,g3,g4⟩:=ih (i+1) ((os.set i (q*2^s+os.getD i 0)).set (i+1) (xs.getD i 0*2^s / 4294967296)) (by omega) (by simpa using hl) (Q7 (Q7 hu hsum) ⟨hhi,by omega⟩) (by
    rw[J3 _ _ _ (by simp;omega),J3 _ _ _ (by omega),Qf (by omega),hz (i+1) (by omega),hv,J5 xs i (by omega),Int.pow_succ]
    have e3:xs.getD i 0*2^s=4294967296*(xs.getD i 0*2^s / 4294967296)+q*2^s:=by omega
    generalize (4294967296:Int)^i=P at *
    generalize xs.getD i 0*2^s / 4294967296=H at *
    generalize os.getD i 0=o at *
    generalize q*2^s=Q at *
    have e4:(2:Int)^s*(Zo (xs.take i)+P*xs.getD i 0)=2^s*Zo (xs.take i)+P*(xs.getD i 0*2^s):=by grind
    rw[e4,e3]
    grind) (by
    rw[show ((os.set i (q*2^s+os.getD i 0)).set (i+1) (xs.getD i 0*2^s / 4294967296)).getD (i+1) 0=xs.getD i 0*2^s / 4294967296 by simp[List.getD_eq_getElem?_getD,show i+1<os.length by omega]]
    exact p2) (fun t ht=>by rw[Qf (by omega),Qf (by omega)];exact hz t (by omega))
  exact⟨os',Za.loop hk g1,g2,g3,g4⟩
theorem Dn {xs:List Int} {s:Nat} (hx:U32 xs) (hs:s<32) (hN:xs.length<1048576):∃ os,(os:List Int).length=xs.length+1∧U32 os∧Zo os=2^s*Zo xs∧Ze Yir 155 [.sl xs.length (lm xs), .int .i64 (s:Nat)] (.fresh 1 os.length (lm os)):=by
 obtain⟨os,h1,h2,h3,h4⟩:=Ziv hx hs hN xs.length 0 (List.replicate (xs.length+1) 0) (by omega) (by simp) (Xq _) (by rw[Xx];simp[Zo]) (by rw[Jz];exact Ju s) (fun t _=>Jz _ _)
 refine⟨os,h2,h3,h4,?_⟩
 have e:i64.wrap ((xs.length:Int)+1)=((xs.length+1:Nat):Int):=by rw[w64 (by omega) (by omega)];omega
 have h:=Zm4 xs os (s:Nat) (xs.length:Nat) (xs.length:Nat) (xs.length+1) (by rw[e];omega) (by rw[e,Int.toNat_natCast,Uk];exact h1)
 rw[h2]
 exact h
section
variable {k:Nat} {us vs:List Int} {kq:Nat} {qs:List Int} {s:Int} {j m:Nat}
theorem Zek (hl:us.length=k) (hk:k≤1048577) (hj:j+m+2<k) (h:Dig m (Zo vs) (Zo (us.drop j)) (vs.getD (m+1) 0) (vs.getD m 0) (us.getD (j+m+2) 0) (us.getD (j+m+1) 0) (us.getD (j+m) 0)):∀ (f:Nat) (g r:Int),g.toNat≤f →
  DigI (Zo vs) (Zo (us.drop j)) (vs.getD (m+1) 0) (us.getD (j+m+2) 0*4294967296+us.getD (j+m+1) 0) g r→r<4294967296 →
  ∃ g' r',Za Yir (.loop Wg) (Xn k us vs ((m+2:Nat):Int) (vs.getD (m+1) 0) (vs.getD m 0) kq qs s (j:Nat) g r) (.exit 2) (Xn k us vs ((m+2:Nat):Int) (vs.getD (m+1) 0) (vs.getD m 0) kq qs s (j:Nat) g' r') ∧
   (0≤g'∧g'<4294967296)∧Zo (us.drop j)<(g'+1)*Zo vs∧g'*Zo vs<Zo (us.drop j)+Zo vs:=by
 have ht:=h.htop
 have hnx:=h.hnxt
 have hz:=h.hz
 have e1:i64.wrap (i64.wrap ((j:Int)+((m+2:Nat):Int))-2)=((j+m:Nat):Int):=by
  rw[w64 (n:=(j:Int)+((m+2:Nat):Int)) (by omega) (by omega),w64 (by omega) (by omega)];omega
 intro f
 induction f with
 | zero =>
  intro g r hf i hr
  have hg:g=0:=by have:=i.g0;omega
  subst hg
  have c2:¬ (r*4294967296+us.getD (j+m) 0<0*vs.getD m 0):=by have:=i.r0;omega
  have k5:=Se k us vs ((m+2:Nat):Int) (vs.getD (m+1) 0) (vs.getD m 0) kq qs s (j:Nat) 0 r (by simp) (by
   rw[e1,Int.toNat_natCast,Zf5 ⟨i.r0,hr⟩ hz,Wl (n:=0*vs.getD m 0) (by omega),decide_eq_false_iff_not];omega) (by rw[e1];omega) hl
  exact⟨0,r,Za.loop_out k5 (by intro e;cases e),by omega,i.up,h.out i (by omega) (Or.inr (by omega))⟩
 | succ f ih =>
  intro g r hf i hr
  have hg1:=i.gle
  have hg0:=i.g0
  have hr0:=i.r0
  have hgn:0≤g*vs.getD m 0∧g*vs.getD m 0<18446744073709551616:=by
   have a:=Int.mul_nonneg hg0 hnx.1
   have b:=Int.mul_le_mul hg1 (show vs.getD m 0≤4294967295 by omega) hnx.1 (by omega)
   omega
  have er:u64.wrap (r+vs.getD (m+1) 0)=r+vs.getD (m+1) 0:=Wl (by omega)
  have ecmp:(decide (u64.wrap (g*vs.getD m 0)>u64.wrap ((BitVec.ofInt (IntKind.bits .u64) (u64.wrap (r*2^(min (Int.toNat 32) (IntKind.bits .u64)))) ||| BitVec.ofInt (IntKind.bits .u64) (u64.wrap (us.getD (Int.toNat (i64.wrap (i64.wrap ((j:Int)+((m+2:Nat):Int))-2))) 0))).toNat)):Bool)=decide (r*4294967296+us.getD (j+m) 0<g*vs.getD m 0):=by
   rw[e1,Int.toNat_natCast,Zf5 ⟨hr0,hr⟩ hz,Wl hgn]
  by_cases hc:4294967296≤g∨r*4294967296+us.getD (j+m) 0<g*vs.getD m 0
  ·have i2:=h.step i hc
   have hg2:=i2.g0
   have eg:u64.wrap (g-1)=g-1:=Wl (by omega)
   by_cases hbig:4294967296≤r+vs.getD (m+1) 0
   ·have hgs:=h.small_g i2 hbig
    have hrun:Za Yir Wg (Xn k us vs ((m+2:Nat):Int) (vs.getD (m+1) 0) (vs.getD m 0) kq qs s (j:Nat) g r) (.exit 2) (Xn k us vs ((m+2:Nat):Int) (vs.getD (m+1) 0) (vs.getD m 0) kq qs s (j:Nat) (u64.wrap (g-1)) (u64.wrap (r+vs.getD (m+1) 0))):=by
     by_cases hg:4294967296≤g
     ·exact Zje k us vs _ _ _ kq qs s _ g r (by simpa using hg) (by rw[er];simpa using hbig)
     ·exact Zjc k us vs _ _ _ kq qs s _ g r (by simp;omega) (by rw[ecmp,decide_eq_true_eq];omega) (by rw[er];simpa using hbig) (by rw[e1];omega) hl
    rw[eg,er] at hrun
    exact⟨g-1,_,Za.loop_out hrun (by intro e;cases e),⟨hg2,hgs⟩,i2.up,h.out i2 hgs (Or.inl hbig)⟩
   ·have hrun:Za Yir Wg (Xn k us vs ((m+2:Nat):Int) (vs.getD (m+1) 0) (vs.getD m 0) kq qs s (j:Nat) g r) .norm (Xn k us vs ((m+2:Nat):Int) (vs.getD (m+1) 0) (vs.getD m 0) kq qs s (j:Nat) (u64.wrap (g-1)) (u64.wrap (r+vs.getD (m+1) 0))):=by
     by_cases hg:4294967296≤g
     ·exact Zjd k us vs _ _ _ kq qs s _ g r (by simpa using hg) (by rw[er,decide_eq_false_iff_not];omega)
     ·exact Zjb k us vs _ _ _ kq qs s _ g r (by simp;omega) (by rw[ecmp,decide_eq_true_eq];omega) (by rw[er,decide_eq_false_iff_not];omega) (by rw[e1];omega) hl
    rw[eg,er] at hrun
    obtain⟨g',r',a1,a2⟩:=ih (g-1) (r+vs.getD (m+1) 0) (by omega) i2 (by omega)
    exact⟨g',r',Za.loop hrun a1,a2⟩
  ·have k5:=Se k us vs ((m+2:Nat):Int) (vs.getD (m+1) 0) (vs.getD m 0) kq qs s (j:Nat) g r (by simp;omega) (by rw[ecmp,decide_eq_false_iff_not];omega) (by rw[e1];omega) hl
   exact⟨g,r,Za.loop_out k5 (by intro e;cases e),by omega,i.up,h.out i (by omega) (Or.inr (by omega))⟩
end
section
variable {k:Nat} {vs:List Int} {t t2:Int} {kq:Nat} {qs:List Int} {s:Int} {j:Nat} {g:Int}
theorem Zej (hv:U32 vs) (hk:k≤1048577) (hg:0≤g∧g<4294967296) (hj:j+vs.length≤k):∀ (r i:Nat) (us:List Int) (b c:Int),r+i=vs.length→us.length=k→U32 us→0≤b∧b≤1→0≤c∧c<4294967296 →
  Za Yir (.loop A1) (K0 k us vs (vs.length:Nat) t t2 kq qs s (j:Nat) g b c (i:Nat)) (.exit 4) (K0 k (B2 g vs j r i us b c).1 vs (vs.length:Nat) t t2 kq qs s (j:Nat) g (B2 g vs j r i us b c).2.1 (B2 g vs j r i us b c).2.2 (vs.length:Nat)):=by
 intro r
 induction r with
 | zero =>
  intro i us b c hi _ _ _ _
  have:i=vs.length:=by omega
  subst this
  exact Za.loop_out (Zi9 k us vs _ t t2 kq qs s _ g b c _ (by simp)) (by intro e;cases e)
 | succ r ih =>
  intro i us b c hi hl hu hb hc
  have ei:i64.wrap ((i:Int)+1)=((i+1:Nat):Int):=by rw[w64 (by omega) (by omega)];omega
  have eij:i64.wrap ((i:Int)+(j:Int))=((i+j:Nat):Int):=by rw[w64 (by omega) (by omega)];omega
  have hvi:=Zz hv i
  have hui:=Zz hu (i+j)
  have hw:=Zby hg hvi hc
  have hgv:=Int.mul_nonneg hg.1 hvi.1
  have h1:=Zja k us vs (vs.length:Nat) t t2 kq qs s (j:Nat) g b c (i:Nat) (by simp;omega) (by omega) (by rw[eij];omega) hl
  rw[eij,ei,Int.toNat_natCast,Int.toNat_natCast,Wl (n:=vs.getD i 0) (by omega),Wl (n:=us.getD (i+j) 0) (by omega),Wl (n:=g*vs.getD i 0) (by omega),Wl hw,fd32,fd63,Bu (g*vs.getD i 0+c)] at h1
  generalize hp:g*vs.getD i 0+c=p at *
  rw[Wl (n:=p % 4294967296) (by omega),Jm,Jm] at h1
  have hstep:B2 g vs j (r+1) i us b c=B2 g vs j r (i+1) (us.set (i+j) ((us.getD (i+j) 0-p % 4294967296-b) % 4294967296)) (if us.getD (i+j) 0-p % 4294967296-b<0 then 1 else 0) (p / 4294967296):=by rw[B2,hp]
  generalize hd:us.getD (i+j) 0-p % 4294967296-b=d at *
  have e1:u32.wrap (((us.getD (i+j) 0-p % 4294967296) % 18446744073709551616-b) % 18446744073709551616)=d % 4294967296:=by rw[Bu];omega
  have e2:((us.getD (i+j) 0-p % 4294967296) % 18446744073709551616-b) % 18446744073709551616 / 9223372036854775808=(if d<0 then 1 else 0):=by split <;> omega
  rw[e1,e2] at h1
  rw[hstep]
  exact Za.loop h1 (ih (i+1) _ _ _ (by omega) (by simpa using hl) (Q7 hu (by omega)) (by split <;> omega) (by omega))
theorem Zel (hv:U32 vs) (hk:k≤1048577) (hj:j+vs.length≤k):∀ (r i:Nat) (us:List Int) (c:Int),r+i=vs.length→us.length=k→U32 us→0≤c∧c≤1 →
  Za Yir (.loop Mu) (Fk k us vs (vs.length:Nat) t t2 kq qs s (j:Nat) g c (i:Nat)) (.exit 6) (Fk k (Mh vs j r i us c).1 vs (vs.length:Nat) t t2 kq qs s (j:Nat) g (Mh vs j r i us c).2 (vs.length:Nat)):=by
 intro r
 induction r with
 | zero =>
  intro i us c hi _ _ _
  have:i=vs.length:=by omega
  subst this
  exact Za.loop_out (Zjf k us vs _ t t2 kq qs s _ g c _ (by simp)) (by intro e;cases e)
 | succ r ih =>
  intro i us c hi hl hu hc
  have ei:i64.wrap ((i:Int)+1)=((i+1:Nat):Int):=by rw[w64 (by omega) (by omega)];omega
  have eij:i64.wrap ((i:Int)+(j:Int))=((i+j:Nat):Int):=by rw[w64 (by omega) (by omega)];omega
  have hvi:=Zz hv i
  have hui:=Zz hu (i+j)
  have h1:=Zjg k us vs (vs.length:Nat) t t2 kq qs s (j:Nat) g c (i:Nat) (by simp;omega) (by rw[eij];omega) hl (by omega)
  rw[eij,ei,Int.toNat_natCast,Int.toNat_natCast,Wl (n:=vs.getD i 0) (by omega),Wl (n:=us.getD (i+j) 0) (by omega),Wl (n:=us.getD (i+j) 0+vs.getD i 0) (by omega),Wl (n:=us.getD (i+j) 0+vs.getD i 0+c) (by omega),fd32,Bu] at h1
  exact Za.loop h1 (ih (i+1) _ _ (by omega) (by simpa using hl) (Q7 hu (by omega)) (by omega))
end
theorem dsign {X c b:Int} (hX:0≤X∧X<4294967296) (hc:0≤c∧c<4294967296) (hb:0≤b∧b≤1) :
  Int.fdiv (u64.wrap (u64.wrap (u64.wrap X-c)-b)) (2^(min (Int.toNat 63) (IntKind.bits .u64)))=(if X-c-b<0 then 1 else 0)∧u32.wrap (u64.wrap (u64.wrap (u64.wrap X-c)-b))=(X-c-b) % 4294967296:=by
 rw[fd63,Wl (n:=X) (by omega),Jm,Jm,Bu]
 refine⟨?_,by omega⟩
 split <;> omega
section
variable {vs:List Int} {m:Nat} {k kq:Nat} {s:Int}
theorem Ziy (hv:U32 vs) (hm:vs.length=m+2) (ht:2147483648≤vs.getD (m+1) 0) (hk:k=kq+vs.length) (hkb:k≤1048577):∀ (i:Nat) (us qs:List Int),i≤kq→us.length=k→U32 us→qs.length=kq→U32 qs→(∀ t,t<i→qs.getD t 0=0)→Zo (us.drop i)<Zo vs →
  ∃ us' qs',Za Yir (.loop E2) (Kt k us vs (vs.length:Nat) (vs.getD (m+1) 0) (vs.getD m 0) kq qs s ((i:Int)-1)) (.exit 0) (Kt k us' vs (vs.length:Nat) (vs.getD (m+1) 0) (vs.getD m 0) kq qs' s (-1)) ∧
   us'.length=k∧U32 us'∧qs'.length=kq∧U32 qs'∧Zo us'<Zo vs∧Zo us=Zo vs*(Zo qs'-Zo qs)+Zo us':=by
 intro i
 induction i with
 | zero =>
  intro us qs _ h1 h2 h3 h4 _ h6
  exact⟨us,qs,Za.loop_out (Zoh k us vs _ _ _ kq qs s _ (by simp)) (by intro e;cases e),h1,h2,h3,h4,h6,by rw[Int.sub_self,Int.mul_zero,Int.zero_add]⟩
 | succ i ih =>
  intro us qs hi h1 h2 h3 h4 h5 h6
  have ei:(((i+1:Nat):Int)-1)=(i:Nat):=by omega
  have ej:i64.wrap ((i:Int)-1)=(i:Int)-1:=w64 (by omega) (by omega)
  have en:i64.wrap ((i:Int)+(vs.length:Int))=((i+vs.length:Nat):Int):=by rw[w64 (by omega) (by omega)];omega
  have en1:i64.wrap (((i+vs.length:Nat):Int)-1)=((i+m+1:Nat):Int):=by rw[w64 (by omega) (by omega)];omega
  have hD:=dig_of (us:=us) (vs:=vs) (j:=i) (m:=m) h2 hv hm (by omega) ht h6
  have hI:=hD.init
  have hr1:=Int.emod_lt_of_pos (us.getD (i+m+2) 0*4294967296+us.getD (i+m+1) 0) (show 0<vs.getD (m+1) 0 by omega)
  have ht2:=hD.htop
  obtain⟨g,r,q1,q2,q3,q4⟩:=Zek (k:=k) (kq:=kq) (qs:=qs) (s:=s) h1 hkb (by omega) hD _ _ _ (Nat.le_refl _) hI (by omega)
  rw[← hm] at q1
  have hn0:0≤us.getD (i+m+2) 0*4294967296+us.getD (i+m+1) 0:=by have:=hD.hx;have:=hD.hy;omega
  have hq0:=hI.g0
  have hq1:=hI.gle
  have hl5:Za Yir (.loop Wg) (Xn k us vs (vs.length:Nat) (vs.getD (m+1) 0) (vs.getD m 0) kq qs s (i:Nat) (u64.wrap (Int.tdiv (u64.wrap ((BitVec.ofInt (IntKind.bits .u64) (u64.wrap ((u64.wrap (us.getD (Int.toNat (i64.wrap ((i:Int)+(vs.length:Int)))) 0))*2^(min (Int.toNat 32) (IntKind.bits .u64)))) ||| BitVec.ofInt (IntKind.bits .u64) (u64.wrap (us.getD (Int.toNat (i64.wrap ((i64.wrap ((i:Int)+(vs.length:Int)))-1))) 0))).toNat)) (vs.getD (m+1) 0))) (Int.tmod (u64.wrap ((BitVec.ofInt (IntKind.bits .u64) (u64.wrap ((u64.wrap (us.getD (Int.toNat (i64.wrap ((i:Int)+(vs.length:Int)))) 0))*2^(min (Int.toNat 32) (IntKind.bits .u64)))) ||| BitVec.ofInt (IntKind.bits .u64) (u64.wrap (us.getD (Int.toNat (i64.wrap ((i64.wrap ((i:Int)+(vs.length:Int)))-1))) 0))).toNat)) (vs.getD (m+1) 0))) (.exit 2) (Xn k us vs (vs.length:Nat) (vs.getD (m+1) 0) (vs.getD m 0) kq qs s (i:Nat) g r):=by
   rw[en,en1,Int.toNat_natCast,Int.toNat_natCast,show i+vs.length=i+m+2 by omega,Wl (n:=us.getD (i+m+2) 0) (by have:=hD.hx;omega),Zf5 hD.hx hD.hy,Int.tdiv_eq_ediv_of_nonneg hn0,Int.tmod_eq_emod_of_nonneg hn0,Wl ⟨hq0,by omega⟩]
   exact q1
  have hms:=Zej (k:=k) (t:=vs.getD (m+1) 0) (t2:=vs.getD m 0) (kq:=kq) (qs:=qs) (s:=s) (j:=i) (g:=g) hv hkb q2 (by omega) vs.length 0 us 0 0 (by omega) h1 h2 (by omega) (by omega)
  have hmo:=Zbz (j:=i) q2 hv vs.length 0 us 0 0 (by omega) (by omega) h2 (by omega) (by omega)
  have hst:=Ti h2 hv (j:=i) (by omega) h6 q2 q3 q4
  generalize hM:B2 g vs i vs.length 0 us 0 0=M at *
  obtain⟨m1,m2,m3,m4,_,_⟩:=hmo
  obtain⟨d1,d2⟩:=dsign (Zz m2 (i+vs.length)) m4 m3
  dsimp only at hst
  obtain⟨S1,S2⟩:=hst
  -- the rest from a step
  have fin:∀ (ws:List Int) (q:Int),StepOk us vs ws i q→(0≤q∧q<4294967296)→Za Yir E2 (Kt k us vs (vs.length:Nat) (vs.getD (m+1) 0) (vs.getD m 0) kq qs s (i:Nat)) .norm (Kt k ws vs (vs.length:Nat) (vs.getD (m+1) 0) (vs.getD m 0) kq (qs.set i q) s ((i:Int)-1)) →
    ∃ us' qs',Za Yir (.loop E2) (Kt k us vs (vs.length:Nat) (vs.getD (m+1) 0) (vs.getD m 0) kq qs s (i:Nat)) (.exit 0) (Kt k us' vs (vs.length:Nat) (vs.getD (m+1) 0) (vs.getD m 0) kq qs' s (-1)) ∧
   us'.length=k∧U32 us'∧qs'.length=kq∧U32 qs'∧Zo us'<Zo vs∧Zo us=Zo vs*(Zo qs'-Zo qs)+Zo us':=by
   intro ws q hs hq hrun
   obtain⟨us',qs',a1,a2,a3,a4,a5,a6,a7⟩:=ih ws (qs.set i q) (by omega) (by rw[hs.len];exact h1) hs.u32 (by simpa using h3) (Q7 h4 hq) (fun t ht=>by rw[Qf (by omega)];exact h5 t (by omega)) hs.low
   refine⟨us',qs',Za.loop hrun a1,a2,a3,a4,a5,a6,?_⟩
   have e:=hs.val
   rw[J3 _ _ _ (by omega),h5 i (by omega),Int.sub_zero] at a7
   generalize (4294967296:Int)^i=P at *
   grind
  rw[ei]
  by_cases hd:M.1.getD (i+vs.length) 0-M.2.2-M.2.1<0
  ·obtain⟨S2,hg1⟩:=S2 hd
   have hu2:U32 (M.1.set (i+vs.length) ((M.1.getD (i+vs.length) 0-M.2.2-M.2.1) % 4294967296)):=Q7 m2 (by omega)
   have hab:=Zel (k:=k) (t:=vs.getD (m+1) 0) (t2:=vs.getD m 0) (kq:=kq) (qs:=qs) (s:=s) (j:=i) (g:=g-1) hv hkb (by omega) vs.length 0 (M.1.set (i+vs.length) ((M.1.getD (i+vs.length) 0-M.2.2-M.2.1) % 4294967296)) 0 (by omega) (by rw[List.length_set,m1];exact h1) hu2 (by omega)
   have hao:=Zdo (j:=i) hv vs.length 0 (M.1.set (i+vs.length) ((M.1.getD (i+vs.length) 0-M.2.2-M.2.1) % 4294967296)) 0 (by omega) (by rw[List.length_set,m1];omega) hu2 (by omega)
   obtain⟨b1,b2,b3,_,_⟩:=hao
   generalize hB:Mh vs i vs.length 0 (M.1.set (i+vs.length) ((M.1.getD (i+vs.length) 0-M.2.2-M.2.1) % 4294967296)) 0=Bb at *
   have eg:u64.wrap (g-1)=g-1:=Wl (by omega)
   have k1:=Zoj k us vs (vs.length:Nat) (vs.getD (m+1) 0) (vs.getD m 0) kq qs s (i:Nat) M.1 Bb.1 g r M.2.1 M.2.2 Bb.2 (by simp) (by rw[en,Int.toNat_natCast,d1,if_pos hd];rfl) (by rw[en];omega) h1 (by rw[en,en1];omega) (by omega) hl5 hms (by rw[m1];exact h1) (by rw[en,Int.toNat_natCast,d2,eg];exact hab) (by rw[b1,List.length_set,m1];exact h1) (by omega) h3
   rw[en,Int.toNat_natCast,eg,Int.toNat_natCast,w32 (n:=g-1) (by omega),ej,w32 (n:=Bb.2) (by omega),Bu] at k1
   exact fin _ _ S2 (by omega) k1
  ·have k2:=Zoi k us vs (vs.length:Nat) (vs.getD (m+1) 0) (vs.getD m 0) kq qs s (i:Nat) M.1 g r M.2.1 M.2.2 (by simp) (by rw[en,Int.toNat_natCast,d1,if_neg hd];rfl) (by rw[en];omega) h1 (by rw[en,en1];omega) (by omega) hl5 hms (by rw[m1];exact h1) (by omega) h3
   rw[en,Int.toNat_natCast,Int.toNat_natCast,d2,w32 (n:=g) q2,ej] at k2
   exact fin _ _ (S1 (by omega)) q2 k2
end
def TQB:Ji:=TQA
theorem Qg:Qh Yir TQB:=Zfn
end Go.Proofs.Ythnnfemologhfaa
