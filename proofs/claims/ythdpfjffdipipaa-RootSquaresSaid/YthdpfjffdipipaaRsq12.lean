/- Texts of the proof of RootSquares, packed by pack.py: part 12 of 18. -/
import Derived.Test.YthdpfjffdipipaaRsq11
namespace Go.Proofs.Ythdpfjffdipipaa
open Go.IntKind (i64 u64 u32)
open Go.Ai
set_option maxRecDepth 100000
theorem Zaz {n:Nat}:Bo n=1↔n=1:=by
 unfold Bo;split
 ·omega
 ·rename_i h;constructor
  ·intro h1;have h2:Nat.log2 n=0:=by omega
   have:=(Nat.log2_eq_iff h).1 h2;omega
  ·rintro rfl;decide
theorem Zgg {n:Nat}:1<Bo n↔1<n:=by
 have h1:=Zaz (n:=n);have h0:Bo n=0↔n=0:=by unfold Bo;split <;> omega
 omega
theorem Po (n:Int):(cn n).2.length=(Zb n.natAbs).length:=rfl
theorem Zf6 {rs:List Rn} {n:Nat} (h:n<rs.length):(Zf rs).drop n=Ze (rs.getD n z0)::(Zf rs).drop (n+1):=by
 rw[List.drop_eq_getElem_cons (by rw[Zu];exact h)];congr 1;rw[<- Je,List.getD_eq_getElem?_getD,List.getElem?_eq_getElem (by rw[Zu];exact h)];rfl
theorem Zf9 {K:Nat} {p:List Int} (h:∀ x∈p,Jo K x):Jo K ((Qy p:Nat):Int):=by
 by_cases h0:Zj p=[]
 ·rw[K4.2 (Xf.1 h0)];exact Wo K
 ·have hc:=Hr h0;have:∃ i,p.getD i 0 ≠ 0:=Classical.byContradiction fun hn=>h0 (Xf.2 fun i=>Classical.byContradiction fun hi=>hn ⟨i,hi⟩);obtain⟨i,hi⟩:=this;have hd:=V5 p i;have hf:=L9 h i;unfold Jo at *
  rw[Int.natAbs_natCast];have:=Nat.le_of_dvd (by omega) (Int.ofNat_dvd_left.1 hd);omega
theorem Zga {p:List Int} (n:Nat):Qy p∣Qy (p.drop n):=by
 rw[Hp];intro i;have:=V5 p (n+i);rw[List.getD_eq_getElem?_getD] at this |-;rwa [List.getElem?_drop]
theorem Zmz {K:Nat} {rs:List Rn} {z:Rn} (hg:∀ r∈rs,Ji K r) (hK:K<1048576) (hN:rs.length<=1048576):∀ n,n<=rs.length ->
  ∃ i',Za Yir (.loop Zc5) (E0 rs (cn (Qy ((Zf rs).drop n):Nat)) ((n:Int)-1) z) (.exit 0) (E0 rs (cn (Qy (Zf rs):Nat)) i' z):=by
 intro n;induction n with
 | zero =>
  intro _;rw[List.drop_zero];exact⟨_,Za.loop_out (Ztc rs _ _ z (by simp)) (by nofun)⟩
 | succ n ih =>
  intro hn;have e0:((n+1:Nat):Int)-1=(n:Int):=by omega
  have e1:i64.wrap ((n:Int)-1)=(n:Int)-1:=w64 (by omega) (by omega);have hf:Jo K ((Qy ((Zf rs).drop (n+1)):Nat):Int):=Zf9 fun x hx=>Xj hg x (List.mem_of_mem_drop hx);have hl:=hf.len;have hb:=Km (neg:=(cn (Qy ((Zf rs).drop (n+1)):Nat)).1) (xs:=(cn (Qy ((Zf rs).drop (n+1)):Nat)).2) (Q6 _) (by rw[Po];omega);rw[show rv (cn (Qy ((Zf rs).drop (n+1)):Nat)).1 (cn (Qy ((Zf rs).drop (n+1)):Nat)).2=(Qy ((Zf rs).drop (n+1)):Nat) from Zv _,Int.natAbs_natCast] at hb;rw[e0];by_cases h1:Qy ((Zf rs).drop (n+1))=1
  ·have hc:Qy (Zf rs)=1:=by
    have:=Zga (p:=Zf rs) (n+1);rw[h1] at this;exact Nat.dvd_one.1 this
   rw[h1] at hb |-;rw[hc];exact⟨_,Za.loop_out (Ztd rs _ (n:Nat) z _ (by simp) (by decide) hb) (by nofun)⟩
  ·obtain⟨g1,g2⟩:=Qh hg n;have hgc:=Ti (na:=(cn (Qy ((Zf rs).drop (n+1)):Nat)).1) (nb:=(rs.getD n z0).1) (xs:=(cn (Qy ((Zf rs).drop (n+1)):Nat)).2) (ys:=(rs.getD n z0).2) (Q6 _) g1 (by rw[Po];omega) (by omega);rw[show rv (cn (Qy ((Zf rs).drop (n+1)):Nat)).1 (cn (Qy ((Zf rs).drop (n+1)):Nat)).2=(Qy ((Zf rs).drop (n+1)):Nat) from Zv _,show rv (rs.getD n z0).1 (rs.getD n z0).2=Ze (rs.getD n z0) from rfl] at hgc;have hstep:(Int.gcd ((Qy ((Zf rs).drop (n+1)):Nat):Int) (Ze (rs.getD n z0)))=Qy ((Zf rs).drop n):=by
    rw[Zf6 (n:=n) (by omega),Qy,Int.gcd,Int.natAbs_natCast,Nat.gcd_comm]
   rw[hstep] at hgc;have k1:=Zte rs (cn (Qy ((Zf rs).drop (n+1)):Nat)) (n:Nat) z _ _ (by simp) (by
    rw[bne_iff_ne];have:=Zaz (n:=Qy ((Zf rs).drop (n+1)));omega) (by omega) hb (by rw[Int.toNat_natCast];exact hgc)
   rw[e1] at k1;obtain⟨i',h⟩:=ih (by omega);exact⟨i',Za.loop k1 h⟩
theorem Pz {K:Nat} {rs:List Rn} (hg:∀ r∈rs,Ji K r) (hK:K<1048576) (hN:rs.length<=1048576):Zc Yir 111 [.sl rs.length (pc rs)] (Zi (Qy (Zf rs):Nat)):=by
 obtain⟨i',h⟩:=Zmz (z:=z0) hg hK hN rs.length (Nat.le_refl _);rw[show (Zf rs).drop rs.length=[] by rw[<- Zu,List.drop_length],show cn ((Qy []:Nat):Int)=z0 from rfl] at h;exact Zrq rs (cn (Qy (Zf rs):Nat)) z0 i' (by rw[w64 (by omega) (by omega)];exact h)
theorem Fs {x g:Int} (hg:0<g) (h:g∣x):Int.tdiv x g=x / g:=by
 obtain⟨y,rfl⟩:=h;rw[Int.mul_tdiv_cancel_left _ (by omega),Int.mul_ediv_cancel_left _ (by omega)]
theorem Jv {K:Nat} {rs:List Rn} (hg:∀ r∈rs,Ji K r) (hK:K<1048576) (hN:rs.length<=1048576):Zc Yir 73 [.sl rs.length (pc rs)] (.fresh 2 (prim (Zf rs)).length (pk (prim (Zf rs)))):=by
 have ht:=Wt (fun r h=>(hg r h).mono (show K<=1048576 by omega)) hN;have hfT:∀ x∈Zj (Zf rs),Jo K x:=W2 (Xj hg);have gts:=Bk hfT;have hvs:=Qa (Zj (Zf rs));have hll:=Jj (Zf rs);rw[Zu] at hll;have hpk:pk (Zj (Zf rs))=pc ((Zj (Zf rs)).map cn):=rfl;rw[hpk,<- List.length_map (f:=cn)] at ht;have hlm:((Zj (Zf rs)).map cn).length=(Zj (Zf rs)).length:=List.length_map ..;have hc:=Pz gts hK (by omega);rw[hvs,Pk] at hc;have hfc:Jo K ((Qy (Zf rs):Nat):Int):=Zf9 (Xj hg);have hlc:=hfc.len;have hb:=Km (neg:=(cn (Qy (Zf rs):Nat)).1) (xs:=(cn (Qy (Zf rs):Nat)).2) (Q6 _) (by rw[Po];omega);rw[show rv (cn (Qy (Zf rs):Nat)).1 (cn (Qy (Zf rs):Nat)).2=(Qy (Zf rs):Nat) from Zv _,Int.natAbs_natCast] at hb;by_cases h1:1<Qy (Zf rs)
 ·have hgd:∀ t,Ze (((Zj (Zf rs)).map cn).getD t z0)=(Zj (Zf rs)).getD t 0:=fun t=>by rw[<- Je,hvs]
  have key:∀ ts:List Rn,ts.length=(Zj (Zf rs)).length->(∀ r∈ts,Ji K r)->(∀ t,Ze (ts.getD t z0)=(Zj (Zf rs)).getD t 0) ->
    Za Yir (.loop Zwq) (Zix ts.length ts (cn (Qy (Zf rs):Nat)) (ts.length:Nat) 0) (.exit 0) (Zix ts.length ((prim (Zf rs)).map cn) (cn (Qy (Zf rs):Nat)) (ts.length:Nat) (ts.length:Nat)):=by
   intro ts hl gt hv;have hlp:((prim (Zf rs)).map cn).length=ts.length:=by rw[List.length_map,Qt,hl]
   have h:=Za.up (prog:=Yir) (c:=Zwq) (ex := .exit 0) (fin:=Zix ts.length ((prim (Zf rs)).map cn) (cn (Qy (Zf rs):Nat)) (ts.length:Nat) (ts.length:Nat))
    (fun i=>Zix ts.length (((prim (Zf rs)).map cn).take i++ts.drop i) (cn (Qy (Zf rs):Nat)) (ts.length:Nat) (i:Nat)) ts.length (by nofun) ?_ ?_ 0 (Nat.zero_le _)
   ·exact h
   ·intro i hi;have ei:i64.wrap ((i:Int)+1)=((i+1:Nat):Int):=by rw[w64 (by omega) (by omega)];omega
    have hlen:(((prim (Zf rs)).map cn).take i++ts.drop i).length=ts.length:=by rw[List.length_append,List.length_take,List.length_drop];omega
    have hget:(((prim (Zf rs)).map cn).take i++ts.drop i).getD i z0=ts.getD i z0:=by
     rw[List.getD_eq_getElem?_getD,List.getD_eq_getElem?_getD,List.getElem?_append_right (by rw[List.length_take];omega),List.length_take,List.getElem?_drop];congr 2;omega
    obtain⟨g1,g2⟩:=Qh gt i;have hq:=D7 (na:=(ts.getD i z0).1) (nb:=(cn (Qy (Zf rs):Nat)).1) (xs:=(ts.getD i z0).2) (ys:=(cn (Qy (Zf rs):Nat)).2) g1 (Q6 _) (by rw[show rv (cn (Qy (Zf rs):Nat)).1 (cn (Qy (Zf rs):Nat)).2=(Qy (Zf rs):Nat) from Zv _];omega) (by omega) (by rw[Po];omega);rw[show rv (cn (Qy (Zf rs):Nat)).1 (cn (Qy (Zf rs):Nat)).2=(Qy (Zf rs):Nat) from Zv _,show rv (ts.getD i z0).1 (ts.getD i z0).2=Ze (ts.getD i z0) from rfl,hv,Jh] at hq;have k:=Yk73_1 ts.length (((prim (Zf rs)).map cn).take i++ts.drop i) (cn (Qy (Zf rs):Nat)) (ts.length:Nat) (i:Nat) _ _ (by simp;omega) (by omega) hlen (by rw[Int.toNat_natCast,hget];exact hq);refine k.to rfl ?_;rw[ei,Int.toNat_natCast,Fs (by omega) (V5 (Zf rs) i),<- K1];congr 1;apply List.ext_getElem?;intro t;have hpi:((prim (Zf rs)).map cn)[i]?=some (cn ((prim (Zf rs)).getD i 0)):=by
     rw[List.getElem?_map,List.getD_eq_getElem?_getD,List.getElem?_eq_getElem (by rw[List.length_map] at hlp;omega)];rfl
    rcases Nat.lt_trichotomy t i with g | g | g
    ·rw[List.getElem?_set_ne (by omega),List.getElem?_append_left (by rw[List.length_take];omega),List.getElem?_append_left (by rw[List.length_take];omega),List.getElem?_take_of_lt g,List.getElem?_take_of_lt (by omega)]
    ·subst g;rw[List.getElem?_set_self (by omega),List.getElem?_append_left (by rw[List.length_take];omega),List.getElem?_take_of_lt (by omega),hpi]
    ·rw[List.getElem?_set_ne (by omega),List.getElem?_append_right (by rw[List.length_take];omega),List.getElem?_append_right (by rw[List.length_take];omega),List.length_take,List.length_take,List.getElem?_drop,List.getElem?_drop];congr 1;omega
   ·rw[List.take_of_length_le (by omega),List.drop_length,List.append_nil];exact Yk73_2 ts.length _ _ (ts.length:Nat) (ts.length:Nat) (by simp)
  have hl:=key _ hlm gts hgd;have h:=Zlw rs ((Zj (Zf rs)).map cn) _ _ _ _ _ _ _ (by rw[decide_eq_true_eq];have:=(Zgg (n:=Qy (Zf rs))).2 h1;omega) ht (Zox _) (Dt _) hc hb hl;rw[hlm,<- Qt] at h;exact h
 ·have h:=Zlv rs ((Zj (Zf rs)).map cn) _ _ (by rw[decide_eq_false_iff_not];have:=(Zgg (n:=Qy (Zf rs))).1;omega) ht (Zox _) (Dt _) hc hb;have hp:prim (Zf rs)=Zj (Zf rs):=by
   rcases Nat.eq_zero_or_pos (Qy (Zf rs)) with g | g
   ·rw[Xu.2 (K4.1 g),Xf.2 (K4.1 g)]
   ·exact Mh (by omega)
  rw[hp];rw[hlm] at h;exact h
theorem Ze8 (rs:List Rn):Ze (rs.getD (rs.length-1) z0)=top (Zf rs):=by unfold top;rw [Je,Zu]
theorem M7 {rs:List Rn} (hg:∀ r∈rs,Ji 1048576 r) (hN:rs.length<=1048576) : 
  (top (Zf rs)<0->Zc Yir 109 [.sl rs.length (pc rs)] (.fresh 2 rs.length (pk (Xz (Zf rs)))))/\(¬ top (Zf rs)<0->Zc Yir 109 [.sl rs.length (pc rs)] (.sl rs.length (pc rs))):=by
 by_cases h0:0<rs.length
 ·have e1:i64.wrap ((rs.length:Int)-1)=((rs.length-1:Nat):Int):=by rw[w64 (by omega) (by omega)];omega
  obtain⟨g1,g2⟩:=Qh hg (rs.length-1);have hs:=Kl (neg:=(rs.getD (rs.length-1) z0).1) g1 g2;rw[show rv (rs.getD (rs.length-1) z0).1 (rs.getD (rs.length-1) z0).2=Ze (rs.getD (rs.length-1) z0) from rfl,Ze8] at hs;refine⟨fun h => ?_,fun h => ?_⟩
  ·have hn:=W7 hg hN;have hpk:pk (Xz (Zf rs))=pc ((Xz (Zf rs)).map cn):=rfl;have hll:((Xz (Zf rs)).map cn).length=rs.length:=by rw[List.length_map,Xh,Zu]
   rw[hpk] at hn |-;rw[<- hll] at hn |-;have hn':Zc Yir 86 [.sl rs.length (pc rs)] (.fresh 2 ((Xz (Zf rs)).map cn).length (pc ((Xz (Zf rs)).map cn))):=by
    have:=W7 hg hN;rw[hll];exact this
   rw[hll];have k:=Zg9 rs ((Xz (Zf rs)).map cn) (Wa (top (Zf rs))) (by simp;omega) (by unfold Wa;rw[if_pos h];rfl) (by rw[e1];omega) (by rw[e1,Int.toNat_natCast];exact hs) hn';rw[hll] at k;exact k
  ·exact Zg8 rs (Wa (top (Zf rs))) (by simp;omega) (by unfold Wa;rw[if_neg h];split <;> rfl) (by rw[e1];omega) (by rw[e1,Int.toNat_natCast];exact hs)
 ·have hz:rs=[]:=List.eq_nil_of_length_eq_zero (by omega);subst hz;refine⟨fun h=>absurd h (by decide),fun _=>Zg7 [] (by decide)⟩
theorem Dx {K:Nat} {rs:List Rn} (hg:∀ r∈rs,Ji K r) (hK:K+2<=1048576) (hN:rs.length<=1048576):Zc Yir 85 [.sl rs.length (pc rs)] (.fresh 2 (Z8 (Zf rs)).length (pk (Z8 (Zf rs)))):=by
 have hd:=Uy (fun r h=>(hg r h).mono (show K<=1048576 by omega)) hN;have hle:=Vh (Zf rs) rs.length;have hl:=Za.up (prog:=Yir) (c:=Yc85) (ex := .exit 0) (fin:=Zpk rs (Zt (Zf rs) rs.length-1) (pc ((List.range (Zt (Zf rs) rs.length-1)).map fun j=>cn (Ze (rs.getD (j+1) z0)*((j+1:Nat):Int)))) ((Zt (Zf rs) rs.length-1+1:Nat):Int))
  (fun i=>Zpk rs i (pc ((List.range i).map fun j=>cn (Ze (rs.getD (j+1) z0)*((j+1:Nat):Int)))) ((i+1:Nat):Int)) (Zt (Zf rs) rs.length-1) (by nofun) ?_ ?_ 0 (Nat.zero_le _)
 ·have hfit:∀ r∈(List.range (Zt (Zf rs) rs.length-1)).map (fun j=>cn (Ze (rs.getD (j+1) z0)*((j+1:Nat):Int))),Ji 1048576 r:=by
   intro r hr;obtain⟨j,hj,rfl⟩:=List.mem_map.1 hr;rw[List.mem_range] at hj;have h2:Jo 2 ((j+1:Nat):Int):=Mw (by omega);exact (Q5 ((Qh hg (j+1)).fits.mul h2)).mono (by omega)
  have ht:=Wt hfit (by rw[List.length_map,List.length_range];omega);have hlen:((List.range (Zt (Zf rs) rs.length-1)).map (fun j=>cn (Ze (rs.getD (j+1) z0)*((j+1:Nat):Int)))).length=Zt (Zf rs) rs.length-1:=by rw[List.length_map,List.length_range]
  have e:Zj (Zf ((List.range (Zt (Zf rs) rs.length-1)).map (fun j=>cn (Ze (rs.getD (j+1) z0)*((j+1:Nat):Int)))))=Z8 (Zf rs):=by
   unfold Z8;apply V2;intro i;rw[Fq,Wm,Zv,Je,Zu];by_cases h1:i<Zt (Zf rs) rs.length-1
   ·rw[if_pos h1,if_pos (by omega)]
   ·rw[if_neg h1];split
    ·have:Ze (rs.getD (i+1) z0)=0:=by rw[<- Je];exact Gy (Zf rs) rs.length (i+1) (by omega) (by omega)
     rw[this,Int.zero_mul]
    ·rfl
  rw[e,hlen] at ht;have hpk:pk (Z8 (Zf rs))=pc ((Z8 (Zf rs)).map cn):=rfl;rw[hpk,<- List.length_map (f:=cn)] at ht |-;exact Yrun85 rs _ _ _ _ hl ht
 ·intro i hi;have ei:i64.wrap (((i+1:Nat):Int)+1)=((i+1+1:Nat):Int):=by rw[w64 (by omega) (by omega)];omega
  obtain⟨g1,g2⟩:=Qh hg (i+1);have ho:=Zp2 (n:=((i+1:Nat):Int)) (by omega);have hfi:Jo 2 ((i+1:Nat):Int):=Mw (by omega);have hm:=N4 (na:=(rs.getD (i+1) z0).1) (nb:=decide (((i+1:Nat):Int)<0)) (xs:=(rs.getD (i+1) z0).2) (ys:=Zb ((i+1:Nat):Int).natAbs) g1 (Q6 _) (by have:=hfi.len;omega);rw[W9] at hm;have k:=Yk85_1 rs i (pc ((List.range i).map fun j=>cn (Ze (rs.getD (j+1) z0)*((j+1:Nat):Int)))) ((i+1:Nat):Int) (((Zt (Zf rs) rs.length:Nat):Int)-1) (Ze (rs.getD (i+1) z0)*((i+1:Nat):Int)) (by simp;omega) (by omega) (by omega) hd ho (by rw[Int.toNat_natCast];exact hm);refine k.to rfl ?_;rw[ei];congr 1;rw[List.range_succ,List.map_append,Ah];rfl
 ·exact Yk85_2 rs _ _ _ _ (by rw[decide_eq_false_iff_not];omega) hd
def TRB:Jx:=TRA
theorem Zy:Qn Yir TRB:=Zij
end Go.Proofs.Ythdpfjffdipipaa

namespace Go.Proofs.Ythdpfjffdipipaa
open Go.IntKind (i64 u64 u32)
open Go.Ai
set_option maxRecDepth 100000
theorem R8 (g:Nat->Int) (i:Nat):pc ((List.range i).map fun j=>cn (g j))++([.bool (decide (g i<0)),.sl (Zb (g i).natAbs).length (lm (Zb (g i).natAbs))]:List AV)=pc ((List.range (i+1)).map fun j=>cn (g j)):=by
 rw[H3 (fun j=>cn (g j)),<- Zem];rfl
end Go.Proofs.Ythdpfjffdipipaa

namespace Go.Proofs.Ythdpfjffdipipaa
open Go.IntKind (i64 u64 u32)
open Go.Ai
set_option maxRecDepth 100000
def Fl (qs:List Rn) (k:Nat) (rs:List Rn) (t:Rn) (a:Rn) (b:Rn) (at1:Int) (n:Int) (i:Int):Zg:=(dds 1 (.val (.sl qs.length (pc qs))::(dds 3 (.own 2 k (pc rs)::(.box [.bool t.1,.sl t.2.length (lm t.2)]::(dds 2 (.box [.bool a.1,.sl a.2.length (lm a.2)]::(dds 1 (.box [.bool b.1,.sl b.2.length (lm b.2)]::(dds 1 (.val (.int .i64 at1)::(dds 49 (.val (.int .i64 n)::(.val (.int .i64 i)::(dds 34 [])))))))))))))))
theorem Zr8 (qs:List Rn) (k:Nat) (rs:List Rn) (t:Rn) (a:Rn) (b:Rn) (at1:Int) (n:Int) (i:Int)  (c1:(decide (i<n))=true) (c2:(decide (i>=at1))=true) (n1:0<=i/\i<(k:Int)) (n2:rs.length=k) (n3:(rs.set (Int.toNat i) (cn ((Ze (rs.getD (Int.toNat i) z0))*(Ze a)))).length=k) (n4:0<=(i64.wrap (i-at1))/\(i64.wrap (i-at1))<(qs.length:Int)) (n5:Zc Yir 78 [Z4 (rs.getD (Int.toNat i) z0),Z4 a] (Zi ((Ze (rs.getD (Int.toNat i) z0))*(Ze a)))) (n6:Zc Yir 78 [Z4 b,Z4 (qs.getD (Int.toNat (i64.wrap (i-at1))) z0)] (Zi ((Ze b)*(Ze (qs.getD (Int.toNat (i64.wrap (i-at1))) z0))))) (n7:Zc Yir 103 [Z4 ((rs.set (Int.toNat i) (cn ((Ze (rs.getD (Int.toNat i) z0))*(Ze a)))).getD (Int.toNat i) z0),Zi ((Ze b)*(Ze (qs.getD (Int.toNat (i64.wrap (i-at1))) z0)))] (Zi ((Ze ((rs.set (Int.toNat i) (cn ((Ze (rs.getD (Int.toNat i) z0))*(Ze a)))).getD (Int.toNat i) z0))-((Ze b)*(Ze (qs.getD (Int.toNat (i64.wrap (i-at1))) z0)))))):Za Yir Rc (Fl qs k rs t a b at1 n i) .norm (Fl qs k ((rs.set (Int.toNat i) (cn ((Ze (rs.getD (Int.toNat i) z0))*(Ze a)))).set (Int.toNat i) (cn ((Ze ((rs.set (Int.toNat i) (cn ((Ze (rs.getD (Int.toNat i) z0))*(Ze a)))).getD (Int.toNat i) z0))-((Ze b)*(Ze (qs.getD (Int.toNat (i64.wrap (i-at1))) z0)))))) t a b at1 n (i64.wrap (i+1))):=(Za.go Zy 400 [.b true,.v (Z4 (rs.getD (Int.toNat i) z0)),.r (Zi ((Ze (rs.getD (Int.toNat i) z0))*(Ze a))),.l (pc (rs.set (Int.toNat i) (cn ((Ze (rs.getD (Int.toNat i) z0))*(Ze a))))),.b true,.v (Z4 ((rs.set (Int.toNat i) (cn ((Ze (rs.getD (Int.toNat i) z0))*(Ze a)))).getD (Int.toNat i) z0)),.v (Z4 (qs.getD (Int.toNat (i64.wrap (i-at1))) z0)),.r (Zi ((Ze b)*(Ze (qs.getD (Int.toNat (i64.wrap (i-at1))) z0)))),.r (Zi ((Ze ((rs.set (Int.toNat i) (cn ((Ze (rs.getD (Int.toNat i) z0))*(Ze a)))).getD (Int.toNat i) z0))-((Ze b)*(Ze (qs.getD (Int.toNat (i64.wrap (i-at1))) z0))))),.l (pc ((rs.set (Int.toNat i) (cn ((Ze (rs.getD (Int.toNat i) z0))*(Ze a)))).set (Int.toNat i) (cn ((Ze ((rs.set (Int.toNat i) (cn ((Ze (rs.getD (Int.toNat i) z0))*(Ze a)))).getD (Int.toNat i) z0))-((Ze b)*(Ze (qs.getD (Int.toNat (i64.wrap (i-at1))) z0)))))))] [1,5,6,9,11,13,63,64] (ac c1 (ac n1 (ac (Vj n2 n1) (ac n5 (ac n1 (ac (Vk (r:=cn ((Ze (rs.getD (Int.toNat i) z0))*(Ze a))) n2 n1) (ac c2 (ac n1 (ac (Vj n3 n1) (ac n4 (ac (Jy n4) (ac n6 (ac n7 (ac n1 (ac (Vk (r:=cn ((Ze ((rs.set (Int.toNat i) (cn ((Ze (rs.getD (Int.toNat i) z0))*(Ze a)))).getD (Int.toNat i) z0))-((Ze b)*(Ze (qs.getD (Int.toNat (i64.wrap (i-at1))) z0))))) n3 n1) a0))))))))))))))))
theorem Zr7 (qs:List Rn) (k:Nat) (rs:List Rn) (t:Rn) (a:Rn) (b:Rn) (at1:Int) (n:Int) (i:Int)  (c1:(decide (i<n))=true) (c2:(decide (i>=at1))=false) (n1:0<=i/\i<(k:Int)) (n2:rs.length=k) (n3:Zc Yir 78 [Z4 (rs.getD (Int.toNat i) z0),Z4 a] (Zi ((Ze (rs.getD (Int.toNat i) z0))*(Ze a)))):Za Yir Rc (Fl qs k rs t a b at1 n i) .norm (Fl qs k (rs.set (Int.toNat i) (cn ((Ze (rs.getD (Int.toNat i) z0))*(Ze a)))) t a b at1 n (i64.wrap (i+1))):=(Za.go Zy 400 [.b true,.v (Z4 (rs.getD (Int.toNat i) z0)),.r (Zi ((Ze (rs.getD (Int.toNat i) z0))*(Ze a))),.l (pc (rs.set (Int.toNat i) (cn ((Ze (rs.getD (Int.toNat i) z0))*(Ze a))))),.b false] [1,5,6,9,11,13,63,64] (ac c1 (ac n1 (ac (Vj n2 n1) (ac n3 (ac n1 (ac (Vk (r:=cn ((Ze (rs.getD (Int.toNat i) z0))*(Ze a))) n2 n1) (ac c2 a0))))))))
theorem Zr6 (qs:List Rn) (k:Nat) (rs:List Rn) (t:Rn) (a:Rn) (b:Rn) (at1:Int) (n:Int) (i:Int)  (c1:(decide (i<n))=false):Za Yir Rc (Fl qs k rs t a b at1 n i) (.exit 2) (Fl qs k rs t a b at1 n i):=(Za.go Zy 400 [.b false] [1,5,6,9,11,13,63,64] (ac c1 a0))
def Zc9 (qs:List Rn) (k:Nat) (rs:List Rn) (t:Rn):Zg:=(dds 1 (.val (.sl qs.length (pc qs))::(dds 3 (.own 2 k (pc rs)::(.box [.bool t.1,.sl t.2.length (lm t.2)]::(dds 92 []))))))
theorem Yk69_1 (qs:List Rn) (k:Nat) (rs:List Rn) (t:Rn) (os us:List Rn) (a b:Rn) (g ab x y ny r1 r2 s at1 n i:Int) (c1:(decide ((k:Int)>=(qs.length:Int)))=true) (c2:(decide (s<0))=true) (n1:0<=(i64.wrap ((k:Int)-1))/\(i64.wrap ((k:Int)-1))<(k:Int)) (n2:rs.length=k) (n3:Zc Yir 104 [Z4 t,Z4 (rs.getD (Int.toNat (i64.wrap ((k:Int)-1))) z0)] (Zi g)) (n4:Zc Yir 106 [Z4 t] (Zi ab)) (n5:Zc Yir 105 [Zi ab,Zi g] (.tup [Zi x,Zi r1])) (n6:Zc Yir 105 [Z4 (rs.getD (Int.toNat (i64.wrap ((k:Int)-1))) z0),Zi g] (.tup [Zi y,Zi r2])) (n7:Zc Yir 74 [Z4 t] (.int .i64 s)) (n8:Zc Yir 107 [Zi y] (Zi ny)) (hl9:Za Yir (.loop Rc) (Fl qs k rs t (cn x) (cn ny) (i64.wrap ((k:Int)-(qs.length:Int))) (k:Int) 0) (.exit 2) (Fl qs k os t a b at1 n i)) (n10:Zc Yir 73 [.sl k (pc os)] (.fresh 2 us.length (pc us))):Za Yir Zv2 (Zc9 qs k rs t) .norm (Zc9 qs us.length us t):=(Za.seq (Za.go (t:=(dds 1 (vp qs::(dds 3 (.own 2 k (pc rs)::(bR t::(dds 18 (.dup 5::(dds 73 []))))))))) Zy 400 [.b true] [1,5,6,25] (ac c1 a0)) (Za.block_norm (Za.asc (Za.asc (Za.asc (Za.asc (Za.asc (Za.csi (Za.seq (Za.go Zy 400 [.v (Z4 (rs.getD (Int.toNat (i64.wrap ((k:Int)-1))) z0)),.r (Zi g),.r (Zi ab),.r (.tup [Zi x,Zi r1]),.r (.tup [Zi y,Zi r2]),.r (.int .i64 s),.b true,.r (Zi ny)] [1,5,6,9,11,13,63,64] (ac n1 (ac (Vj n2 n1) (ac n3 (ac n4 (ac n5 (ac n6 (ac n7 (ac c2 (ac n8 a0)))))))))) (Za.seq (Za.block hl9) (Za.go Zy 400 [.r (.fresh 2 us.length (pc us))] [1,5,6] (ac n10 a0))))))))))))
theorem Yk69_2 (qs:List Rn) (k:Nat) (rs:List Rn) (t:Rn) (os us:List Rn) (a b:Rn) (g ab x y r1 r2 s at1 n i:Int) (c1:(decide ((k:Int)>=(qs.length:Int)))=true) (c2:(decide (s<0))=false) (n1:0<=(i64.wrap ((k:Int)-1))/\(i64.wrap ((k:Int)-1))<(k:Int)) (n2:rs.length=k) (n3:Zc Yir 104 [Z4 t,Z4 (rs.getD (Int.toNat (i64.wrap ((k:Int)-1))) z0)] (Zi g)) (n4:Zc Yir 106 [Z4 t] (Zi ab)) (n5:Zc Yir 105 [Zi ab,Zi g] (.tup [Zi x,Zi r1])) (n6:Zc Yir 105 [Z4 (rs.getD (Int.toNat (i64.wrap ((k:Int)-1))) z0),Zi g] (.tup [Zi y,Zi r2])) (n7:Zc Yir 74 [Z4 t] (.int .i64 s)) (hl8:Za Yir (.loop Rc) (Fl qs k rs t (cn x) (cn y) (i64.wrap ((k:Int)-(qs.length:Int))) (k:Int) 0) (.exit 2) (Fl qs k os t a b at1 n i)) (n9:Zc Yir 73 [.sl k (pc os)] (.fresh 2 us.length (pc us))):Za Yir Zv2 (Zc9 qs k rs t) .norm (Zc9 qs us.length us t):=(Za.seq (Za.go (t:=(dds 1 (vp qs::(dds 3 (.own 2 k (pc rs)::(bR t::(dds 18 (.dup 5::(dds 73 []))))))))) Zy 400 [.b true] [1,5,6,25] (ac c1 a0)) (Za.block_norm (Za.asc (Za.asc (Za.asc (Za.asc (Za.asc (Za.csi (Za.seq (Za.go Zy 400 [.v (Z4 (rs.getD (Int.toNat (i64.wrap ((k:Int)-1))) z0)),.r (Zi g),.r (Zi ab),.r (.tup [Zi x,Zi r1]),.r (.tup [Zi y,Zi r2]),.r (.int .i64 s),.b false] [1,5,6,9,11,13,63,64] (ac n1 (ac (Vj n2 n1) (ac n3 (ac n4 (ac n5 (ac n6 (ac n7 (ac c2 a0))))))))) (Za.seq (Za.block hl8) (Za.go Zy 400 [.r (.fresh 2 us.length (pc us))] [1,5,6] (ac n9 a0))))))))))))
theorem Zpv (qs:List Rn) (k:Nat) (rs:List Rn) (t:Rn)  (c1:(decide ((k:Int)>=(qs.length:Int)))=false):Za Yir Zv2 (Zc9 qs k rs t) (.exit 0) (Zc9 qs k rs t):=(Za.seq_out (Za.go Zy 400 [.b false] [1,5,6] (ac c1 a0)) (by nofun))
theorem Yrun69 (rs ss ps qs us:List Rn) (t:Rn) (k:Nat) (n1:Zc Yir 73 [.sl rs.length (pc rs)] (.fresh 2 ps.length (pc ps))) (n2:Zc Yir 73 [.sl ss.length (pc ss)] (.fresh 2 qs.length (pc qs))) (n3:0<=(i64.wrap ((qs.length:Int)-1))/\(i64.wrap ((qs.length:Int)-1))<(qs.length:Int)) (hl4:Za Yir (.loop Zv2) (Zc9 qs ps.length ps (qs.getD (Int.toNat (i64.wrap ((qs.length:Int)-1))) z0)) (.exit 0) (Zc9 qs k us t)):Zc Yir 69 [.sl rs.length (pc rs),.sl ss.length (pc ss)] (.fresh 2 k (pc us)):=Zc.of_bodyW (fn:=Yi69) (s:=(dds 4 (.own 2 k (pc us)::(dds 94 [])))) (ex := .ret) rfl rfl (Za.asc (Za.asc (Za.seq (Za.go Zy 400 [.r (.fresh 2 ps.length (pc ps)),.r (.fresh 2 qs.length (pc qs)),.v (Z4 (qs.getD (Int.toNat (i64.wrap ((qs.length:Int)-1))) z0))] [1,5,6] (ac n1 (ac n2 (ac n3 (ac (Jy n3) a0))))) (Za.seq (Za.block hl4) (Za.go Zy 400 [] [4] a0))))) (by nofun) rfl
def Zc8 (as1:List Rn) (bs:List Rn):Zg:=(dds 5 (.val (.sl as1.length (pc as1))::(.val (.sl bs.length (pc bs))::(dds 13 []))))
theorem Zpu (as1:List Rn) (bs:List Rn) (us:List Rn) (c1:(decide ((bs.length:Int)>0))=true) (n1:Zc Yir 69 [.sl as1.length (pc as1),.sl bs.length (pc bs)] (.fresh 2 us.length (pc us))):Za Yir Zv1 (Zc8 as1 bs) .norm (Zc8 bs us):=(Za.go Zy 400 [.b true,.r (.fresh 2 us.length (pc us))] [5,6] (ac c1 (ac n1 a0)))
theorem Zpt (as1:List Rn) (bs:List Rn)  (c1:(decide ((bs.length:Int)>0))=false):Za Yir Zv1 (Zc8 as1 bs) (.exit 0) (Zc8 as1 bs):=(Za.go Zy 400 [.b false] [5,6] (ac c1 a0))
theorem Zly (rs ss ps qs as1 bs ts:List Rn) (n1:Zc Yir 73 [.sl rs.length (pc rs)] (.fresh 2 ps.length (pc ps))) (n2:Zc Yir 73 [.sl ss.length (pc ss)] (.fresh 2 qs.length (pc qs))) (hl3:Za Yir (.loop Zv1) (Zc8 ps qs) (.exit 0) (Zc8 as1 bs)) (n4:Zc Yir 109 [.sl as1.length (pc as1)] (.fresh 2 ts.length (pc ts))):Zc Yir 71 [.sl rs.length (pc rs),.sl ss.length (pc ss)] (.fresh 2 ts.length (pc ts)):=Zc.of_bodyW (fn:=Zwi) (s:=(dds 4 (.own 2 ts.length (pc ts)::(dds 15 [])))) (ex := .ret) rfl rfl (Za.asc (Za.seq (Za.go Zy 400 [.r (.fresh 2 ps.length (pc ps)),.r (.fresh 2 qs.length (pc qs))] [5,6] (ac n1 (ac n2 a0))) (Za.seq (Za.block hl3) (Za.go Zy 400 [.r (.fresh 2 ts.length (pc ts))] [4] (ac n4 a0))))) (by nofun) rfl
theorem Zlx (rs ss ps qs as1 bs:List Rn) (n1:Zc Yir 73 [.sl rs.length (pc rs)] (.fresh 2 ps.length (pc ps))) (n2:Zc Yir 73 [.sl ss.length (pc ss)] (.fresh 2 qs.length (pc qs))) (hl3:Za Yir (.loop Zv1) (Zc8 ps qs) (.exit 0) (Zc8 as1 bs)) (n4:Zc Yir 109 [.sl as1.length (pc as1)] (.sl as1.length (pc as1))):Zc Yir 71 [.sl rs.length (pc rs),.sl ss.length (pc ss)] (.sl as1.length (pc as1)):=Zc.of_bodyW (fn:=Zwi) (s:=(dds 4 (.val (.sl as1.length (pc as1))::(dds 15 [])))) (ex := .ret) rfl rfl (Za.asc (Za.seq (Za.go Zy 400 [.r (.fresh 2 ps.length (pc ps)),.r (.fresh 2 qs.length (pc qs))] [5,6] (ac n1 (ac n2 a0))) (Za.seq (Za.block hl3) (Za.go Zy 400 [.r (.sl as1.length (pc as1))] [4] (ac n4 a0))))) (by nofun) rfl
def H7 (qs:List Rn) (k:Nat) (rs:List Rn) (t:Rn) (kq:Nat) (os:List Rn) (j:Int) (l:Rn) (n:Int) (i:Int):Zg:=(dds 1 (.val (.sl qs.length (pc qs))::(dds 3 (.own 2 k (pc rs)::(.box [.bool t.1,.sl t.2.length (lm t.2)]::(.own 2 kq (pc os)::(.val (.int .i64 j)::(.box [.bool l.1,.sl l.2.length (lm l.2)]::(dds 34 (.val (.int .i64 n)::(.val (.int .i64 i)::(dds 57 []))))))))))))
theorem Znj (qs:List Rn) (k:Nat) (rs:List Rn) (t:Rn) (kq:Nat) (os:List Rn) (j:Int) (l:Rn) (n:Int) (i:Int)  (c1:(decide (i<n))=true) (n1:0<=i/\i<(k:Int)) (n2:rs.length=k) (n3:Zc Yir 78 [Z4 (rs.getD (Int.toNat i) z0),Z4 t] (Zi ((Ze (rs.getD (Int.toNat i) z0))*(Ze t)))):Za Yir N2 (H7 qs k rs t kq os j l n i) .norm (H7 qs k (rs.set (Int.toNat i) (cn ((Ze (rs.getD (Int.toNat i) z0))*(Ze t)))) t kq os j l n (i64.wrap (i+1))):=(Za.go Zy 400 [.b true,.v (Z4 (rs.getD (Int.toNat i) z0)),.r (Zi ((Ze (rs.getD (Int.toNat i) z0))*(Ze t))),.l (pc (rs.set (Int.toNat i) (cn ((Ze (rs.getD (Int.toNat i) z0))*(Ze t)))))] [1,5,6,7,8,9,44,45] (ac c1 (ac n1 (ac (Vj n2 n1) (ac n3 (ac n1 (ac (Vk (r:=cn ((Ze (rs.getD (Int.toNat i) z0))*(Ze t))) n2 n1) a0)))))))
theorem Zni (qs:List Rn) (k:Nat) (rs:List Rn) (t:Rn) (kq:Nat) (os:List Rn) (j:Int) (l:Rn) (n:Int) (i:Int)  (c1:(decide (i<n))=false):Za Yir N2 (H7 qs k rs t kq os j l n i) (.exit 2) (H7 qs k rs t kq os j l n i):=(Za.go Zy 400 [.b false] [1,5,6,7,8,9,44,45] (ac c1 a0))
def H6 (qs:List Rn) (k:Nat) (rs:List Rn) (t:Rn) (kq:Nat) (os:List Rn) (j:Int) (l:Rn) (n:Int) (i:Int):Zg:=(dds 1 (.val (.sl qs.length (pc qs))::(dds 3 (.own 2 k (pc rs)::(.box [.bool t.1,.sl t.2.length (lm t.2)]::(.own 2 kq (pc os)::(.val (.int .i64 j)::(.box [.bool l.1,.sl l.2.length (lm l.2)]::(dds 49 (.val (.int .i64 n)::(.val (.int .i64 i)::(dds 42 []))))))))))))
theorem Znh (qs:List Rn) (k:Nat) (rs:List Rn) (t:Rn) (kq:Nat) (os:List Rn) (j:Int) (l:Rn) (n:Int) (i:Int)  (c1:(decide (i<n))=true) (n1:0<=i/\i<(kq:Int)) (n2:os.length=kq) (n3:Zc Yir 78 [Z4 (os.getD (Int.toNat i) z0),Z4 t] (Zi ((Ze (os.getD (Int.toNat i) z0))*(Ze t)))):Za Yir N1 (H6 qs k rs t kq os j l n i) .norm (H6 qs k rs t kq (os.set (Int.toNat i) (cn ((Ze (os.getD (Int.toNat i) z0))*(Ze t)))) j l n (i64.wrap (i+1))):=(Za.go Zy 400 [.b true,.v (Z4 (os.getD (Int.toNat i) z0)),.r (Zi ((Ze (os.getD (Int.toNat i) z0))*(Ze t))),.l (pc (os.set (Int.toNat i) (cn ((Ze (os.getD (Int.toNat i) z0))*(Ze t)))))] [1,5,6,7,8,9,59,60] (ac c1 (ac n1 (ac (Vj n2 n1) (ac n3 (ac n1 (ac (Vk (r:=cn ((Ze (os.getD (Int.toNat i) z0))*(Ze t))) n2 n1) a0)))))))
theorem Zng (qs:List Rn) (k:Nat) (rs:List Rn) (t:Rn) (kq:Nat) (os:List Rn) (j:Int) (l:Rn) (n:Int) (i:Int)  (c1:(decide (i<n))=false):Za Yir N1 (H6 qs k rs t kq os j l n i) (.exit 4) (H6 qs k rs t kq os j l n i):=(Za.go Zy 400 [.b false] [1,5,6,7,8,9,59,60] (ac c1 a0))
def H5 (qs:List Rn) (k:Nat) (rs:List Rn) (t:Rn) (kq:Nat) (os:List Rn) (j:Int) (l:Rn) (n:Int) (i:Int):Zg:=(dds 1 (.val (.sl qs.length (pc qs))::(dds 3 (.own 2 k (pc rs)::(.box [.bool t.1,.sl t.2.length (lm t.2)]::(.own 2 kq (pc os)::(.val (.int .i64 j)::(.box [.bool l.1,.sl l.2.length (lm l.2)]::(dds 68 (.val (.int .i64 n)::(.val (.int .i64 i)::(dds 23 []))))))))))))
theorem Znf (qs:List Rn) (k:Nat) (rs:List Rn) (t:Rn) (kq:Nat) (os:List Rn) (j:Int) (l:Rn) (n:Int) (i:Int)  (c1:(decide (i<n))=true) (n1:0<=(i64.wrap (j+i))/\(i64.wrap (j+i))<(k:Int)) (n2:rs.length=k) (n3:0<=i/\i<(qs.length:Int)) (n4:Zc Yir 78 [Z4 l,Z4 (qs.getD (Int.toNat i) z0)] (Zi ((Ze l)*(Ze (qs.getD (Int.toNat i) z0))))) (n5:Zc Yir 103 [Z4 (rs.getD (Int.toNat (i64.wrap (j+i))) z0),Zi ((Ze l)*(Ze (qs.getD (Int.toNat i) z0)))] (Zi ((Ze (rs.getD (Int.toNat (i64.wrap (j+i))) z0))-((Ze l)*(Ze (qs.getD (Int.toNat i) z0)))))):Za Yir N0 (H5 qs k rs t kq os j l n i) .norm (H5 qs k (rs.set (Int.toNat (i64.wrap (j+i))) (cn ((Ze (rs.getD (Int.toNat (i64.wrap (j+i))) z0))-((Ze l)*(Ze (qs.getD (Int.toNat i) z0)))))) t kq os j l n (i64.wrap (i+1))):=(Za.go Zy 400 [.b true,.v (Z4 (rs.getD (Int.toNat (i64.wrap (j+i))) z0)),.v (Z4 (qs.getD (Int.toNat i) z0)),.r (Zi ((Ze l)*(Ze (qs.getD (Int.toNat i) z0)))),.r (Zi ((Ze (rs.getD (Int.toNat (i64.wrap (j+i))) z0))-((Ze l)*(Ze (qs.getD (Int.toNat i) z0))))),.l (pc (rs.set (Int.toNat (i64.wrap (j+i))) (cn ((Ze (rs.getD (Int.toNat (i64.wrap (j+i))) z0))-((Ze l)*(Ze (qs.getD (Int.toNat i) z0)))))))] [1,5,6,7,8,9,78,79] (ac c1 (ac n1 (ac (Vj n2 n1) (ac n3 (ac (Jy n3) (ac n4 (ac n5 (ac n1 (ac (Vk (r:=cn ((Ze (rs.getD (Int.toNat (i64.wrap (j+i))) z0))-((Ze l)*(Ze (qs.getD (Int.toNat i) z0))))) n2 n1) a0))))))))))
theorem Zne (qs:List Rn) (k:Nat) (rs:List Rn) (t:Rn) (kq:Nat) (os:List Rn) (j:Int) (l:Rn) (n:Int) (i:Int)  (c1:(decide (i<n))=false):Za Yir N0 (H5 qs k rs t kq os j l n i) (.exit 6) (H5 qs k rs t kq os j l n i):=(Za.go Zy 400 [.b false] [1,5,6,7,8,9,78,79] (ac c1 a0))
def Sz (qs:List Rn) (k:Nat) (rs:List Rn) (t:Rn) (kq:Nat) (os:List Rn) (j:Int):Zg:=(dds 1 (.val (.sl qs.length (pc qs))::(dds 3 (.own 2 k (pc rs)::(.box [.bool t.1,.sl t.2.length (lm t.2)]::(.own 2 kq (pc os)::(.val (.int .i64 j)::(dds 94 []))))))))
theorem Ztg (qs:List Rn) (k:Nat) (rs:List Rn) (t:Rn) (kq:Nat) (os:List Rn) (j:Int) (rs1 rs2 os1:List Rn) (m1 i1 m2 i2 m3 i3:Int) (c1:(decide (j>=0))=true) (n1:0<=(i64.wrap ((i64.wrap (j+(qs.length:Int)))-1))/\(i64.wrap ((i64.wrap (j+(qs.length:Int)))-1))<(k:Int)) (n2:rs.length=k) (hl3:Za Yir (.loop N2) (H7 qs k rs t kq os j (rs.getD (Int.toNat (i64.wrap ((i64.wrap (j+(qs.length:Int)))-1))) z0) (k:Int) 0) (.exit 2) (H7 qs k rs1 t kq os j (rs.getD (Int.toNat (i64.wrap ((i64.wrap (j+(qs.length:Int)))-1))) z0) m1 i1)) (hl4:Za Yir (.loop N1) (H6 qs k rs1 t kq os j (rs.getD (Int.toNat (i64.wrap ((i64.wrap (j+(qs.length:Int)))-1))) z0) (kq:Int) 0) (.exit 4) (H6 qs k rs1 t kq os1 j (rs.getD (Int.toNat (i64.wrap ((i64.wrap (j+(qs.length:Int)))-1))) z0) m2 i2)) (n5:0<=j/\j<(kq:Int)) (n6:os1.length=kq) (hl7:Za Yir (.loop N0) (H5 qs k rs1 t kq (os1.set (Int.toNat j) (rs.getD (Int.toNat (i64.wrap ((i64.wrap (j+(qs.length:Int)))-1))) z0)) j (rs.getD (Int.toNat (i64.wrap ((i64.wrap (j+(qs.length:Int)))-1))) z0) (qs.length:Int) 0) (.exit 6) (H5 qs k rs2 t kq (os1.set (Int.toNat j) (rs.getD (Int.toNat (i64.wrap ((i64.wrap (j+(qs.length:Int)))-1))) z0)) j (rs.getD (Int.toNat (i64.wrap ((i64.wrap (j+(qs.length:Int)))-1))) z0) m3 i3)):Za Yir Zie (Sz qs k rs t kq os j) .norm (Sz qs k rs2 t kq (os1.set (Int.toNat j) (rs.getD (Int.toNat (i64.wrap ((i64.wrap (j+(qs.length:Int)))-1))) z0)) (i64.wrap (j-1))):=(Za.seq (Za.go (t:=(dds 1 (vp qs::(dds 3 (.own 2 k (pc rs)::(bR t::(.own 2 kq (pc os)::(vi j::(dds 94 []))))))))) Zy 400 [.b true] [1,5,6,7,8] (ac c1 a0)) (Za.seq (Za.block_norm (Za.csi (Za.seq (Za.go Zy 400 [.v (Z4 (rs.getD (Int.toNat (i64.wrap ((i64.wrap (j+(qs.length:Int)))-1))) z0))] [1,5,6,7,8,9,44,45] (ac n1 (ac (Vj n2 n1) a0))) (Za.seq (Za.block hl3) (Za.seq (Za.seq (Za.go Zy 400 [] [1,5,6,7,8,9,59,60] a0) (Za.block hl4)) (Za.asc (Za.seq (Za.go Zy 400 [.l (pc (os1.set (Int.toNat j) (rs.getD (Int.toNat (i64.wrap ((i64.wrap (j+(qs.length:Int)))-1))) z0)))] [1,5,6,7,8,9,78,79] (ac n5 (ac (Vk (r:=rs.getD (Int.toNat (i64.wrap ((i64.wrap (j+(qs.length:Int)))-1))) z0) n6 n5) a0))) (Za.block hl7)))))))) (Za.go Zy 400 [] [1,5,6,7,8] a0)))
theorem Ztf (qs:List Rn) (k:Nat) (rs:List Rn) (t:Rn) (kq:Nat) (os:List Rn) (j:Int)  (c1:(decide (j>=0))=false):Za Yir Zie (Sz qs k rs t kq os j) (.exit 0) (Sz qs k rs t kq os j):=(Za.seq_out (Za.go Zy 400 [.b false] [1,5,6,7,8] (ac c1 a0)) (by nofun))
theorem Zrr (rs qs ps us xs os:List Rn) (t:Rn) (k kq:Nat) (j:Int) (n1:Zc Yir 95 [.sl rs.length (pc rs)] (.fresh 2 ps.length (pc ps))) (n2:0<=(i64.wrap ((qs.length:Int)-1))/\(i64.wrap ((qs.length:Int)-1))<(qs.length:Int)) (n3:0<=(i64.wrap ((i64.wrap ((ps.length:Int)-(qs.length:Int)))+1))/\(i64.wrap ((i64.wrap ((ps.length:Int)-(qs.length:Int)))+1))<=1048576) (hl4:Za Yir (.loop Zie) ((dds 1 (.val (.sl qs.length (pc qs))::(dds 3 (.own 2 ps.length (pc ps)::(.box [.bool ((qs.getD (Int.toNat (i64.wrap ((qs.length:Int)-1))) z0).1),.sl ((qs.getD (Int.toNat (i64.wrap ((qs.length:Int)-1))) z0).2.length) (lm (qs.getD (Int.toNat (i64.wrap ((qs.length:Int)-1))) z0).2)]::(.own 2 (Int.toNat (i64.wrap ((i64.wrap ((ps.length:Int)-(qs.length:Int)))+1))) (J3 [.bool false,.sl 0 []] (Int.toNat (i64.wrap ((i64.wrap ((ps.length:Int)-(qs.length:Int)))+1))))::(.val (.int .i64 (i64.wrap ((((Int.toNat (i64.wrap ((i64.wrap ((ps.length:Int)-(qs.length:Int)))+1))):Nat):Int)-1)))::(dds 94 []))))))))) (.exit 0) (Sz qs k xs t kq os j)) (n5:Zc Yir 73 [.sl kq (pc os)] (.fresh 2 us.length (pc us))):Zc Yir 110 [.sl rs.length (pc rs),.sl qs.length (pc qs)] (.fresh 2 us.length (pc us)):=Zc.of_bodyW (fn:=Zh5) (s:=(dds 4 (.own 2 us.length (pc us)::(dds 98 [])))) (ex := .ret) rfl rfl (Za.asc (Za.asc (Za.asc (Za.csi (Za.seq (Za.go Zy 400 [.r (.fresh 2 ps.length (pc ps)),.v (Z4 (qs.getD (Int.toNat (i64.wrap ((qs.length:Int)-1))) z0))] [1,5,6,7,8] (ac n1 (ac n2 (ac (Jy n2) (ac n3 a0))))) (Za.seq (Za.block hl4) (Za.go Zy 400 [.r (.fresh 2 us.length (pc us))] [4] (ac n5 a0)))))))) (by nofun) rfl
theorem Tc (rs ps xs:List Rn) (c1:(decide ((xs.length:Int)<2))=true) (n1:Zc Yir 73 [.sl rs.length (pc rs)] (.fresh 2 ps.length (pc ps))) (n2:Zc Yir 109 [.sl ps.length (pc ps)] (.fresh 2 xs.length (pc xs))):Zc Yir 72 [.sl rs.length (pc rs)] (.sl xs.length (pc xs)):=Zc.go (fn:=Zbb) Zy rfl 400 rfl [.r (.fresh 2 ps.length (pc ps)),.r (.fresh 2 xs.length (pc xs)),.b true] (ac n1 (ac n2 (ac c1 a0)))
theorem Tb (rs ps xs ds gs:List Rn) (c1:(decide ((xs.length:Int)<2))=false) (c2:(decide ((gs.length:Int)<2))=true) (n1:Zc Yir 73 [.sl rs.length (pc rs)] (.fresh 2 ps.length (pc ps))) (n2:Zc Yir 109 [.sl ps.length (pc ps)] (.fresh 2 xs.length (pc xs))) (n3:Zc Yir 85 [.sl xs.length (pc xs)] (.fresh 2 ds.length (pc ds))) (n4:Zc Yir 71 [.sl xs.length (pc xs),.sl ds.length (pc ds)] (.fresh 2 gs.length (pc gs))):Zc Yir 72 [.sl rs.length (pc rs)] (.sl xs.length (pc xs)):=Zc.go (fn:=Zbb) Zy rfl 400 rfl [.r (.fresh 2 ps.length (pc ps)),.r (.fresh 2 xs.length (pc xs)),.b false,.r (.fresh 2 ds.length (pc ds)),.r (.fresh 2 gs.length (pc gs)),.b true] (ac n1 (ac n2 (ac c1 (ac n3 (ac n4 (ac c2 a0))))))
theorem Ta (rs ps xs ds gs us:List Rn) (c1:(decide ((xs.length:Int)<2))=false) (c2:(decide ((gs.length:Int)<2))=false) (n1:Zc Yir 73 [.sl rs.length (pc rs)] (.fresh 2 ps.length (pc ps))) (n2:Zc Yir 109 [.sl ps.length (pc ps)] (.fresh 2 xs.length (pc xs))) (n3:Zc Yir 85 [.sl xs.length (pc xs)] (.fresh 2 ds.length (pc ds))) (n4:Zc Yir 71 [.sl xs.length (pc xs),.sl ds.length (pc ds)] (.fresh 2 gs.length (pc gs))) (n5:Zc Yir 110 [.sl xs.length (pc xs),.sl gs.length (pc gs)] (.fresh 2 us.length (pc us))):Zc Yir 72 [.sl rs.length (pc rs)] (.fresh 2 us.length (pc us)):=Zc.go (fn:=Zbb) Zy rfl 400 rfl [.r (.fresh 2 ps.length (pc ps)),.r (.fresh 2 xs.length (pc xs)),.b false,.r (.fresh 2 ds.length (pc ds)),.r (.fresh 2 gs.length (pc gs)),.b false,.r (.fresh 2 us.length (pc us))] (ac n1 (ac n2 (ac c1 (ac n3 (ac n4 (ac c2 (ac n5 a0)))))))
theorem S9 (rs ps xs ds gs:List Rn) (c1:(decide ((xs.length:Int)<2))=false) (c2:(decide ((gs.length:Int)<2))=true) (n1:Zc Yir 73 [.sl rs.length (pc rs)] (.fresh 2 ps.length (pc ps))) (n2:Zc Yir 109 [.sl ps.length (pc ps)] (.fresh 2 xs.length (pc xs))) (n3:Zc Yir 85 [.sl xs.length (pc xs)] (.fresh 2 ds.length (pc ds))) (n4:Zc Yir 71 [.sl xs.length (pc xs),.sl ds.length (pc ds)] (.sl gs.length (pc gs))):Zc Yir 72 [.sl rs.length (pc rs)] (.sl xs.length (pc xs)):=Zc.go (fn:=Zbb) Zy rfl 400 rfl [.r (.fresh 2 ps.length (pc ps)),.r (.fresh 2 xs.length (pc xs)),.b false,.r (.fresh 2 ds.length (pc ds)),.r (.sl gs.length (pc gs)),.b true] (ac n1 (ac n2 (ac c1 (ac n3 (ac n4 (ac c2 a0))))))
theorem S8 (rs ps xs ds gs us:List Rn) (c1:(decide ((xs.length:Int)<2))=false) (c2:(decide ((gs.length:Int)<2))=false) (n1:Zc Yir 73 [.sl rs.length (pc rs)] (.fresh 2 ps.length (pc ps))) (n2:Zc Yir 109 [.sl ps.length (pc ps)] (.fresh 2 xs.length (pc xs))) (n3:Zc Yir 85 [.sl xs.length (pc xs)] (.fresh 2 ds.length (pc ds))) (n4:Zc Yir 71 [.sl xs.length (pc xs),.sl ds.length (pc ds)] (.sl gs.length (pc gs))) (n5:Zc Yir 110 [.sl xs.length (pc xs),.sl gs.length (pc gs)] (.fresh 2 us.length (pc us))):Zc Yir 72 [.sl rs.length (pc rs)] (.fresh 2 us.length (pc us)):=Zc.go (fn:=Zbb) Zy rfl 400 rfl [.r (.fresh 2 ps.length (pc ps)),.r (.fresh 2 xs.length (pc xs)),.b false,.r (.fresh 2 ds.length (pc ds)),.r (.sl gs.length (pc gs)),.b false,.r (.fresh 2 us.length (pc us))] (ac n1 (ac n2 (ac c1 (ac n3 (ac n4 (ac c2 (ac n5 a0)))))))
theorem S7 (rs ps ds gs:List Rn) (c1:(decide ((ps.length:Int)<2))=false) (c2:(decide ((gs.length:Int)<2))=true) (n1:Zc Yir 73 [.sl rs.length (pc rs)] (.fresh 2 ps.length (pc ps))) (n2:Zc Yir 109 [.sl ps.length (pc ps)] (.sl ps.length (pc ps))) (n3:Zc Yir 85 [.sl ps.length (pc ps)] (.fresh 2 ds.length (pc ds))) (n4:Zc Yir 71 [.sl ps.length (pc ps),.sl ds.length (pc ds)] (.fresh 2 gs.length (pc gs))):Zc Yir 72 [.sl rs.length (pc rs)] (.sl ps.length (pc ps)):=Zc.go (fn:=Zbb) Zy rfl 400 rfl [.r (.fresh 2 ps.length (pc ps)),.r (.sl ps.length (pc ps)),.b false,.r (.fresh 2 ds.length (pc ds)),.r (.fresh 2 gs.length (pc gs)),.b true] (ac n1 (ac n2 (ac c1 (ac n3 (ac n4 (ac c2 a0))))))
theorem S6 (rs ps ds gs us:List Rn) (c1:(decide ((ps.length:Int)<2))=false) (c2:(decide ((gs.length:Int)<2))=false) (n1:Zc Yir 73 [.sl rs.length (pc rs)] (.fresh 2 ps.length (pc ps))) (n2:Zc Yir 109 [.sl ps.length (pc ps)] (.sl ps.length (pc ps))) (n3:Zc Yir 85 [.sl ps.length (pc ps)] (.fresh 2 ds.length (pc ds))) (n4:Zc Yir 71 [.sl ps.length (pc ps),.sl ds.length (pc ds)] (.fresh 2 gs.length (pc gs))) (n5:Zc Yir 110 [.sl ps.length (pc ps),.sl gs.length (pc gs)] (.fresh 2 us.length (pc us))):Zc Yir 72 [.sl rs.length (pc rs)] (.fresh 2 us.length (pc us)):=Zc.go (fn:=Zbb) Zy rfl 400 rfl [.r (.fresh 2 ps.length (pc ps)),.r (.sl ps.length (pc ps)),.b false,.r (.fresh 2 ds.length (pc ds)),.r (.fresh 2 gs.length (pc gs)),.b false,.r (.fresh 2 us.length (pc us))] (ac n1 (ac n2 (ac c1 (ac n3 (ac n4 (ac c2 (ac n5 a0)))))))
theorem S5 (rs ps:List Rn) (c1:(decide ((ps.length:Int)<2))=true) (n1:Zc Yir 73 [.sl rs.length (pc rs)] (.fresh 2 ps.length (pc ps))) (n2:Zc Yir 109 [.sl ps.length (pc ps)] (.sl ps.length (pc ps))):Zc Yir 72 [.sl rs.length (pc rs)] (.sl ps.length (pc ps)):=Zc.go (fn:=Zbb) Zy rfl 400 rfl [.r (.fresh 2 ps.length (pc ps)),.r (.sl ps.length (pc ps)),.b true] (ac n1 (ac n2 (ac c1 a0)))
theorem S4 (rs ps ds gs:List Rn) (c1:(decide ((ps.length:Int)<2))=false) (c2:(decide ((gs.length:Int)<2))=true) (n1:Zc Yir 73 [.sl rs.length (pc rs)] (.fresh 2 ps.length (pc ps))) (n2:Zc Yir 109 [.sl ps.length (pc ps)] (.sl ps.length (pc ps))) (n3:Zc Yir 85 [.sl ps.length (pc ps)] (.fresh 2 ds.length (pc ds))) (n4:Zc Yir 71 [.sl ps.length (pc ps),.sl ds.length (pc ds)] (.sl gs.length (pc gs))):Zc Yir 72 [.sl rs.length (pc rs)] (.sl ps.length (pc ps)):=Zc.go (fn:=Zbb) Zy rfl 400 rfl [.r (.fresh 2 ps.length (pc ps)),.r (.sl ps.length (pc ps)),.b false,.r (.fresh 2 ds.length (pc ds)),.r (.sl gs.length (pc gs)),.b true] (ac n1 (ac n2 (ac c1 (ac n3 (ac n4 (ac c2 a0))))))
theorem S3 (rs ps ds gs us:List Rn) (c1:(decide ((ps.length:Int)<2))=false) (c2:(decide ((gs.length:Int)<2))=false) (n1:Zc Yir 73 [.sl rs.length (pc rs)] (.fresh 2 ps.length (pc ps))) (n2:Zc Yir 109 [.sl ps.length (pc ps)] (.sl ps.length (pc ps))) (n3:Zc Yir 85 [.sl ps.length (pc ps)] (.fresh 2 ds.length (pc ds))) (n4:Zc Yir 71 [.sl ps.length (pc ps),.sl ds.length (pc ds)] (.sl gs.length (pc gs))) (n5:Zc Yir 110 [.sl ps.length (pc ps),.sl gs.length (pc gs)] (.fresh 2 us.length (pc us))):Zc Yir 72 [.sl rs.length (pc rs)] (.fresh 2 us.length (pc us)):=Zc.go (fn:=Zbb) Zy rfl 400 rfl [.r (.fresh 2 ps.length (pc ps)),.r (.sl ps.length (pc ps)),.b false,.r (.fresh 2 ds.length (pc ds)),.r (.sl gs.length (pc gs)),.b false,.r (.fresh 2 us.length (pc us))] (ac n1 (ac n2 (ac c1 (ac n3 (ac n4 (ac c2 (ac n5 a0)))))))
end Go.Proofs.Ythdpfjffdipipaa

namespace Go.Ai
open Go.IntKind (i64 u64 u32)
theorem Ze5 (c:Nat) (hc:1<c):∃ p,1<p/\p∣c/\∀ d,d∣p->d=1\/d=p:=by
 have h:∀ n,∀ m,m<=n->1<m->m∣c->∃ p,1<p/\p∣c/\∀ d,d∣p->d=1\/d=p:=by
  intro n;induction n with
  | zero=>intro m h1 h2;omega
  | succ n ih =>
   intro m h1 h2 h3;by_cases h:∀ d,d∣m->d=1\/d=m
   ·exact⟨m,h2,h3,h⟩
   ·obtain⟨d,hd⟩:=Classical.not_forall.1 h;obtain⟨hd1,hd2⟩:=Classical.not_imp.1 hd;have h5:=Nat.le_of_dvd (by omega) hd1;have h6:d ≠ 0:=by intro h0;subst h0;have:=Nat.zero_dvd.1 hd1;omega
    exact ih d (by omega) (by omega) (Nat.dvd_trans hd1 h3)
 exact h c c (Nat.le_refl _) hc (Nat.dvd_refl _)
theorem Zec {p:Nat} (hp:∀ d,d∣p->d=1\/d=p) {a b:Int} (h:(p:Int)∣a*b):(p:Int)∣a\/(p:Int)∣b:=by
 rcases hp (Nat.gcd p a.natAbs) (Nat.gcd_dvd_left _ _) with g | g
 ·right;have h1:p∣a.natAbs*b.natAbs:=by rw[<- Int.natAbs_mul];exact Int.ofNat_dvd_left.1 h
  exact Int.ofNat_dvd_left.2 (Nat.Coprime.dvd_of_dvd_mul_left g h1)
 ·left;have:p∣a.natAbs:=by rw[<- g];exact Nat.gcd_dvd_right _ _
  exact Int.ofNat_dvd_left.2 this
theorem Ae (g:List Int) (b:Int) (k:List Int) (i:Nat):(Xx g (b::k)).getD i 0=b*g.getD i 0+(U8 1 (Xx g k)).getD i 0:=by
 have h:=Ue (p:=Xx g (b::k)) (q:=Gs (Zw b g) (U8 1 (Xx g k))) (fun x=>by
  rw[Z1,Qo,Zm,Ud,Z1];simp only[Zd,Int.pow_succ,Int.pow_zero];grind) i
 rw[h,Xa,Z2]
theorem A3 {p:Nat} (hp:∀ d,d∣p->d=1\/d=p):∀ (g k:List Int),(∀ i,(p:Int)∣(Xx g k).getD i 0)->(¬ ∀ i,(p:Int)∣g.getD i 0)->∀ i,(p:Int)∣k.getD i 0
 | [],k,_,h=>absurd (fun i=>by simp) h
 | a::g,k,h,hn=>by
  by_cases ha:(p:Int)∣a
  ·refine A3 hp g k (fun i => ?_) (fun h2=>hn fun i => ?_)
   ·have h1:=h (i+1);rw[J5,Qw,if_pos (by omega)] at h1;exact (Int.dvd_add_right (Int.dvd_trans ha (Int.dvd_mul_right _ _))).1 h1
   ·cases i with
    | zero=>simpa using ha
    | succ i=>simpa using h2 i
  ·clear hn;induction k with
   | nil=>intro i;simp
   | cons b k ih =>
    have h0:=h 0;rw[J5,Qw,if_neg (by omega),Int.add_zero] at h0;have hb:(p:Int)∣b:=by
     rcases Zec hp h0 with g1 | g1
     ·exact absurd g1 ha
     ·simpa using g1
    have h2:=ih (fun i=>by
     have h1:=h (i+1);rw[Ae,Qw,if_pos (by omega)] at h1;exact (Int.dvd_add_right (Int.dvd_trans hb (Int.dvd_mul_right _ _))).1 h1)
    intro i;cases i with
    | zero=>simpa using hb
    | succ i=>simpa using h2 i
theorem gauss {g : List Int} (hg :   Qy g = 1) : ∀ (c : Nat) (k : List Int), 0 < c -> (∀ i, (c : Int) ∣ (  Xx g k).getD i 0) -> ∀ i, (c : Int) ∣ k.getD i 0 := by
  intro c
  induction c using Nat.strongRecOn with
  | ind c ih =>
    intro k hc h
    by_cases h1 : c = 1
    · intro i; rw [h1]; exact Int.one_dvd _
    · obtain ⟨p, p1, ⟨d, hd⟩, p3⟩ :=       Ze5 c (by omega)
      have hd0 : 0 < d := by rcases Nat.eq_zero_or_pos d with g | g
                             · rw [g, Nat.mul_zero] at hd; omega
                             · exact g
      have hdc : d < c := by rw [hd]; exact (Nat.lt_mul_iff_one_lt_left hd0).2 p1
      have hpk :=          A3 p3 g k (fun i => Int.dvd_trans ⟨(d : Int), by rw [hd]; push_cast; rfl⟩ (h i)) (fun h2 => by
        have := (      Hp p g).2 h2
        rw [hg] at this
        have := Nat.le_of_dvd (by decide) this
        omega)
      have hk :    Zw (p : Int) (k.map fun x => x / (p : Int)) = k := by
        apply       W0 (by simp [   Zw])
        intro i
        rw [        Z2]
        have e : (k.map fun x => x / (p : Int)).getD i 0 = k.getD i 0 / (p : Int) := by
          simp only [List.getD_eq_getElem?_getD, List.getElem?_map]
          cases k[i]? <;> simp
        rw [e]
        exact Int.mul_ediv_cancel' (hpk i)
      generalize k.map (fun x => x / (p : Int)) = k1 at hk
      subst hk
      have h3 := ih d hdc k1 hd0 (fun i => by
        have h2 := h i
        have e : (  Xx g (   Zw (p : Int) k1)).getD i 0 = (p : Int) * (  Xx g k1).getD i 0 := by
          rw [<-         Z2]
          exact         Ue (fun x => by rw [        Z1,          Zm,          Zm,         Z1]; grind) i
        rw [e, hd, Int.natCast_mul] at h2
        exact Int.dvd_of_mul_dvd_mul_left (by omega) h2)
      intro i
      rw [        Z2, hd, Int.natCast_mul]
      exact Int.mul_dvd_mul_left _ (h3 i)
def syn:List Int->Int->List Int
 | [],_=>[]
 | _::p,a=>Gs p (Zw a (syn p a))
theorem D9:∀ (p:List Int) (a x:Int),Zd p x-Zd p a=(x-a)*Zd (syn p a) x
 | [],a,x=>by simp[syn,Zd]
 | c::p,a,x=>by
  have ih:=D9 p a x;simp only[syn,Zd];rw[Qo,Zm];grind
theorem Rr:∀ (p:List Int) (a:Int),(syn p a).length<=p.length-1
 | [],a=>by simp[syn]
 | c::p,a=>by
  have ih:=Rr p a;have:=Zj2 p (Zw a (syn p a));rw[Z6] at this;simp only[syn,List.length_cons];omega
theorem Tq (p:List Int) (a:Int) (i:Nat):p.getD i 0=(Zd p a::syn p a).getD i 0-a*(syn p a).getD i 0:=by
 have h:=Ue (p:=p) (q:=Zjw (Zd p a::syn p a) (Zw a (syn p a))) (fun x=>by
  rw[Ux,Zm];simp only[Zd];have:=D9 p a x;grind) i
 rw[h,Zfk,Z2]
theorem Zd0:∀ (n:Nat) (p:List Int) (l:List Int),p.length<=n->l.Nodup->(∀ x∈l,Zd p x=0)->n<=l.length->∀ i,p.getD i 0=0:=by
 intro n;induction n with
 | zero =>
  intro p l h _ _ _ i;rw[List.eq_nil_of_length_eq_zero (by omega:p.length=0)];simp
 | succ n ih =>
  intro p l h1 h2 h3 h4 i;cases l with
  | nil=>simp at h4
  | cons a l =>
   have ha:=h3 a List.mem_cons_self;have hq:=ih (syn p a) l (by have:=Rr p a;omega) (List.nodup_cons.1 h2).2 (fun x hx=>by
    have h5:=D9 p a x;rw[ha,h3 x (List.mem_cons_of_mem _ hx)] at h5;rcases Int.mul_eq_zero.1 (h5.symm.trans (by omega)) with g | g
    ·have hxa:x=a:=by omega
     subst hxa;exact absurd hx (List.nodup_cons.1 h2).1
    ·exact g) (by simp at h4;omega)
   rw[Tq p a i,ha,hq i];cases i with
   | zero=>simp
   | succ i=>simpa using hq i
theorem Zbj {R:Nat}:∀ (n:Nat) (g:List Int) (l:List Int) (M:Nat),g.length<=n+1->l.Nodup->l.length=n+1->(∀ x∈l,x.natAbs<=R/\(Zd g x).natAbs<=M)->(∀ x∈l,∀ y∈l,x ≠ y->1<=(x-y).natAbs)->∀ i,(g.getD i 0).natAbs<=M*(2*R+3)^n:=by
 intro n;induction n with
 | zero =>
  intro g l M h1 h2 h3 h4 _ i;cases l with
  | nil=>simp at h3
  | cons a l =>
   have ha:=h4 a List.mem_cons_self;cases g with
   | nil=>simp
   | cons c g =>
    have:g=[]:=by simpa using h1
    subst this;simp only[Zd,Int.mul_zero,Int.add_zero] at ha;rw[Nat.pow_zero,Nat.mul_one];cases i with
    | zero=>simpa using ha.2
    | succ i=>simp
 | succ n ih =>
  intro g l M h1 h2 h3 h4 h6 i;cases l with
  | nil=>simp at h3
  | cons a l =>
   obtain⟨ha1,ha2⟩:=h4 a List.mem_cons_self;have hq:=ih (syn g a) l (2*M) (by have:=Rr g a;omega) (List.nodup_cons.1 h2).2 (by simpa using h3) (fun x hx=>by
    obtain⟨hx1,hx2⟩:=h4 x (List.mem_cons_of_mem _ hx);refine⟨hx1,?_⟩;have h5:=congrArg Int.natAbs (D9 g a x);rw[Int.natAbs_mul] at h5;have hne:x ≠ a:=by intro e;subst e;exact absurd hx (List.nodup_cons.1 h2).1
    have h7:1<=(x-a).natAbs:=by omega
    have h8:=Nat.le_mul_of_pos_left (Zd (syn g a) x).natAbs h7;have h9:(Zd g x-Zd g a).natAbs<=2*M:=by omega
    omega) (fun x hx y hy=>h6 x (List.mem_cons_of_mem _ hx) y (List.mem_cons_of_mem _ hy))
   rw[Tq g a i];have hX:1<=(2*R+3)^n:=Nat.pow_pos (by omega);have e1:M*(2*R+3)^(n+1)=R*(2*M*(2*R+3)^n)+2*M*(2*R+3)^n+M*(2*R+3)^n:=by rw[Nat.pow_succ];grind
   have e2:M*1<=M*(2*R+3)^n:=Nat.mul_le_mul_left _ hX;have b1:=hq i;have b2:(a*(syn g a).getD i 0).natAbs<=R*(2*M*(2*R+3)^n):=by rw[Int.natAbs_mul];exact Nat.mul_le_mul ha1 b1
   have b3:((Zd g a::syn g a).getD i 0).natAbs<=2*M*(2*R+3)^n+M*(2*R+3)^n:=by
    cases i with
    | zero=>simp only[List.getD_cons_zero];omega
    | succ i=>have:=hq i;simp only[List.getD_cons_succ];omega
   rw[e1];generalize R*(2*M*(2*R+3)^n)=A at *
   generalize 2*M*(2*R+3)^n=B at *
   generalize M*(2*R+3)^n=C at *
   omega
theorem T7 {R B:Nat}:∀ (t:List Int) (x:Int),(∀ i,(t.getD i 0).natAbs<=B)->x.natAbs<=R->(Zd t x).natAbs<=B*(R+1)^t.length
 | [],x,_,_=>by simp[Zd]
 | c::t,x,h,hx=>by
  have ih:=T7 t x (fun i=>by simpa using h (i+1)) hx;have h0:c.natAbs<=B:=by simpa using h 0
  simp only[Zd,List.length_cons];have h1:(x*Zd t x).natAbs<=R*(B*(R+1)^t.length):=by rw[Int.natAbs_mul];exact Nat.mul_le_mul hx ih
  have h2:B*1<=B*(R+1)^t.length:=Nat.mul_le_mul_left _ (Nat.pow_pos (by omega));have e:B*(R+1)^(t.length+1)=R*(B*(R+1)^t.length)+B*(R+1)^t.length:=by rw[Nat.pow_succ];grind
  rw[e];generalize R*(B*(R+1)^t.length)=X at *
  omega
theorem Zj3 {t:List Int} {n:Nat} (ht:Zj t ≠ []) (hl:t.length<=n+1):∃ l:List Int,l.Nodup/\l.length=n+1/\∀ x∈l,x.natAbs<=2*n/\Zd t x ≠ 0:=by
 have hnd:((List.range (2*n+1)).map fun i:Nat=>(i:Int)).Nodup:=by
  rw[List.nodup_iff_pairwise_ne,List.pairwise_map];exact (List.nodup_iff_pairwise_ne.1 List.nodup_range).imp (fun h=>by omega)
 have hmem:∀ x∈(List.range (2*n+1)).map fun i:Nat=>(i:Int),x.natAbs<=2*n:=by
  intro x hx;obtain⟨i,hi,rfl⟩:=List.mem_map.1 hx;have:=List.mem_range.1 hi;omega
 have hlen:((List.range (2*n+1)).map fun i:Nat=>(i:Int)).length=2*n+1:=by simp
 generalize ((List.range (2*n+1)).map fun i:Nat=>(i:Int))=L at *
 have hsum:=List.length_eq_countP_add_countP (fun x=>decide (Zd t x=0)) (l:=L);rw[List.countP_eq_length_filter,List.countP_eq_length_filter] at hsum;have hA:(L.filter fun x=>decide (Zd t x=0)).length<=n:=by
  apply Nat.le_of_not_lt;intro h;apply ht;rw[Xf];exact Zd0 (n+1) t (L.filter fun x=>decide (Zd t x=0)) hl (hnd.filter _) (fun x hx=>by simpa using (List.mem_filter.1 hx).2) (by omega)
 refine⟨(L.filter fun x=>decide ¬ (decide (Zd t x=0))=true).take (n+1),(hnd.filter _).sublist (List.take_sublist _ _),?_,?_⟩
 ·rw[List.length_take];omega
 ·intro x hx;obtain⟨h1,h2⟩:=List.mem_filter.1 (List.mem_of_mem_take hx);exact⟨hmem x h1,by simpa using h2⟩
theorem Mz {t g k:List Int} {K:Nat} (ht:Zj t ≠ []) (hl:t.length<=9) (hg:g.length<=9) (hK:Kb K t) (h:∀ x,Zd t x=Zd g x*Zd k x):Kb (K+3) g:=by
 obtain⟨l,l1,l2,l3⟩:=Zj3 (n:=8) ht hl;have hb:∀ i,(t.getD i 0).natAbs<=4294967296^K:=fun i=>Nat.le_of_lt (hK i);have h1:=Zbj (R:=16) 8 g l (4294967296^K*17^9) hg l1 l2 (fun x hx=>by
  obtain⟨a,b⟩:=l3 x hx;refine⟨a,?_⟩;have h2:=T7 (R:=16) t x hb a;have h3:=congrArg Int.natAbs (h x);rw[Int.natAbs_mul] at h3;have h4:1<=(Zd k x).natAbs:=by
   rcases Nat.eq_zero_or_pos (Zd k x).natAbs with g | g
   ·rw[g,Nat.mul_zero] at h3;omega
   ·exact g
  have h5:=Nat.le_mul_of_pos_right (Zd g x).natAbs h4;have h6:4294967296^K*17^t.length<=4294967296^K*17^9:=Nat.mul_le_mul_left _ (Nat.pow_le_pow_right (by decide) hl);exact Nat.le_trans (Nat.le_trans h5 (Nat.le_of_eq h3.symm)) (Nat.le_trans h2 h6)) (fun x _ y _ hne=>by omega)
 intro i;have h2:=h1 i;unfold Jo;refine Nat.lt_of_le_of_lt h2 ?_;rw[Nat.mul_assoc,Nat.pow_add];exact Nat.mul_lt_mul_of_pos_left (by decide) (Nat.pow_pos (by decide))
theorem Zb2 {t g k:List Int} {c:Int} (hc:c ≠ 0) (hg:Qy g=1) (h:∀ x,c*Zd t x=Zd g x*Zd k x):∃ k',∀ x,Zd t x=Zd g x*Zd k' x:=by
 have h1:=Ue (p:=Xx g k) (q:=Zw c t) (fun x=>by rw[Z1,Zm];exact (h x).symm);have h2:=gauss hg c.natAbs k (by omega) (fun i=>by rw[h1,Z2];exact Int.dvd_trans (Int.natAbs_dvd.2 (Int.dvd_refl _)) (Int.dvd_mul_right _ _));have hk:Zw c (k.map fun x=>x / c)=k:=by
  apply W0 (by simp[Zw]);intro i;rw[Z2];have e:(k.map fun x=>x / c).getD i 0=k.getD i 0 / c:=by
   simp only[List.getD_eq_getElem?_getD,List.getElem?_map];cases k[i]? <;> simp
  rw[e];exact Int.mul_ediv_cancel' (Int.natAbs_dvd.1 (h2 i))
 refine⟨k.map fun x=>x / c,fun x => ?_⟩;have h3:=h x;rw[<- hk,Zm] at h3;apply Int.eq_of_mul_eq_mul_left hc;rw[h3];grind
theorem A2 {t g k:List Int} {c:Int} {K:Nat} (hc:c ≠ 0) (hg:Qy g=1) (ht:Zj t ≠ []) (hl:t.length<=9) (hgl:g.length<=9) (hK:Kb K t) (h:∀ x,c*Zd t x=Zd g x*Zd k x):Kb (K+3) g:=by
 obtain⟨k',hk⟩:=Zb2 hc hg h;exact Mz ht hl hgl hK hk
end Go.Ai

namespace Go.Ai
open Go.IntKind (i64 u64 u32)
def Dv (g t:List Int):Prop:=∃ (c:Int) (k:List Int),c ≠ 0/\∀ x,c*Zd t x=Zd g x*Zd k x
theorem Dv.refl (g:List Int):Dv g g:=⟨1,[1],by decide,fun x=>by simp [Zd]⟩
theorem Dv.zero (g:List Int):Dv g []:=⟨1,[],by decide,fun x=>by simp [Zd]⟩
theorem Dv.trans {a b c:List Int} (h1:Dv a b) (h2:Dv b c):Dv a c:=by
 obtain⟨m,k,hm,h⟩:=h1;obtain⟨n,l,hn,g⟩:=h2;refine⟨m*n,Xx k l,Int.mul_ne_zero hm hn,fun x => ?_⟩;have h':=h x;have g':=g x;rw[Z1,Int.mul_assoc,g'];rw[<- Int.mul_assoc,h'];grind
theorem Dv.comb {g s t r:List Int} {m:Int} (u v:List Int) (hm:m ≠ 0) (h1:Dv g s) (h2:Dv g t) (h:∀ x,m*Zd r x=Zd u x*Zd s x+Zd v x*Zd t x):Dv g r:=by
 obtain⟨c,k,hc,hk⟩:=h1;obtain⟨d,l,hd,hl⟩:=h2;refine⟨c*d*m,Gs (Zw d (Xx u k)) (Zw c (Xx v l)),Int.mul_ne_zero (Int.mul_ne_zero hc hd) hm,fun x => ?_⟩;rw[Qo,Zm,Zm,Z1,Z1];have a:=hk x;have b:=hl x;have e:=h x;rw[Int.mul_assoc,e];generalize Zd s x=s at *
 generalize Zd t x=t at *
 generalize Zd g x=g at *
 generalize Zd k x=k at *
 generalize Zd l x=l at *
 generalize Zd u x=u at *
 generalize Zd v x=v at *
 have e1:c*d*(u*s+v*t)=d*u*(c*s)+c*v*(d*t):=by grind
 rw[e1,a,b];grind
theorem Dv.scaled {g s r:List Int} {m n:Int} (hm:m ≠ 0) (h1:Dv g s) (h:∀ x,m*Zd r x=n*Zd s x):Dv g r :=
 Dv.comb [n] [] hm h1 h1 fun x=>by rw[h x];simp[Zd]
theorem Dv.left {g f t:List Int} {m n:Int} (_:m ≠ 0) (hn:n ≠ 0) (h1:Dv g t) (h:∀ x,m*Zd f x=n*Zd g x):Dv f t:=by
 obtain⟨c,k,hc,hk⟩:=h1;refine⟨n*c,Zw m k,Int.mul_ne_zero hn hc,fun x => ?_⟩;have a:=hk x;have b:=h x;rw[Zm];have e1:n*c*Zd t x=n*(c*Zd t x):=by grind
 rw[e1,a];have e2:n*(Zd g x*Zd k x)=(n*Zd g x)*Zd k x:=by grind
 rw[e2,<- b];grind
theorem Dv.mul_right {g s:List Int} (t:List Int) (h:Dv g s) {r:List Int} (hr:∀ x,Zd r x=Zd s x*Zd t x):Dv g r :=
 Dv.comb (m:=1) t [] (by decide) h h fun x=>by rw[hr x];simp[Zd];grind
theorem Zf5 (g k:List Int) {t:List Int} (h:∀ x,Zd t x=Zd g x*Zd k x):Dv g t:=⟨1,k,by decide,fun x=>by rw [h x];omega⟩
theorem Uf {p:List Int} (h:Xw p) (h0:p ≠ []):Zj p ≠ []:=by rw [h];exact h0
theorem Ad {p q:List Int} (hp:Zj p ≠ []) (hq:Zj q ≠ []):(Zj (Xx p q)).length=(Zj p).length+(Zj q).length-1:=by
 have e:Zj (Xx p q)=Zj (Xx (Zj p) (Zj q)):=Um fun x=>by rw[Z1,Z1,Vs,Vs]
 rw[e];have lp:=Ky p;have lq:=Ky q;generalize Zj p=P at *
 generalize Zj q=Q at *
 have h1:=List.length_pos_iff.2 hp;have h2:=List.length_pos_iff.2 hq;obtain⟨t1,t2⟩:=Mk P Q hp hq;have t3:(Xx P Q).getD (P.length+Q.length-2) 0 ≠ 0:=by rw[t1];exact Int.mul_ne_zero (U3 lp hp) (U3 lq hq)
 rw[Lx];have a1:¬ (Xx P Q).length<=P.length+Q.length-2:=fun h=>t3 (Qi h);have a2:¬ P.length+Q.length-1<(Xx P Q).length:=fun h=>by
  have hne:Xx P Q ≠ []:=by intro h0;rw[h0] at h;simp at h
  exact U3 (show Xw (Xx P Q) from Lx P Q) hne (t2 _ (by omega))
 omega
theorem Sb {p q:List Int} (hp:Zj p ≠ []) (h:∀ x,Zd p x*Zd q x=0):∀ x,Zd q x=0:=by
 intro x;by_cases hq:Zj q=[]
 ·exact Jl hq x
 ·have h1:=Ad hp hq;have h2:Zj (Xx p q)=Zj []:=Um fun x=>by rw[Z1,h x];rfl
  rw[h2] at h1;have:=List.length_pos_iff.2 hp;have:=List.length_pos_iff.2 hq;have h0:(Zj []).length=0:=rfl;rw[h0] at h1;omega
theorem Pt {p:List Int} (hp:Zj p ≠ []) (q r:List Int) (h:∀ x,Zd p x*Zd q x=Zd p x*Zd r x):∀ x,Zd q x=Zd r x:=by
 intro x;have:=Sb (q:=Zjw q r) hp (fun x=>by rw[Ux,Int.mul_sub,h x];omega) x;rw[Ux] at this;omega
theorem Dv.length {g t:List Int} (h:Dv g t) (ht:Zj t ≠ []):(Zj g).length<=(Zj t).length/\Zj g ≠ []:=by
 obtain⟨c,k,hc,hk⟩:=h;have e:Zj (Zw c t)=Zj (Xx g k):=Um fun x=>by rw[Zm,Z1];exact hk x
 rw[Hj hc] at e;have e2:=congrArg List.length e;rw[Z6] at e2;have ht1:=List.length_pos_iff.2 ht;by_cases hg:Zj g=[]
 ·have:Zj (Xx g k)=Zj []:=Um fun x=>by rw[Z1,Jl hg];simp[Zd]
  have h0:(Zj []).length=0:=rfl;rw[this,h0] at e2;omega
 ·by_cases hk0:Zj k=[]
  ·have:Zj (Xx g k)=Zj []:=Um fun x=>by rw[Z1,Jl hk0];simp[Zd]
   have h0:(Zj []).length=0:=rfl;rw[this,h0] at e2;omega
  ·rw[Ad hg hk0] at e2;have:=List.length_pos_iff.2 hk0;exact⟨by omega,hg⟩
def IsG (g s t:List Int):Prop:=Dv g s/\Dv g t/\∃ (c:Int) (u v:List Int),c ≠ 0/\∀ x,c*Zd g x=Zd u x*Zd s x+Zd v x*Zd t x
theorem IsG.comm {g s t:List Int} (h:IsG g s t):IsG g t s:=by
 obtain⟨a,b,c,u,v,hc,h⟩:=h;exact⟨b,a,c,v,u,hc,fun x=>by rw[h x];omega⟩
theorem IsG.dv {g s t f:List Int} (h:IsG g s t) (h1:Dv f s) (h2:Dv f t):Dv f g:=by
 obtain⟨_,_,c,u,v,hc,h⟩:=h;exact Dv.comb u v hc h1 h2 h
theorem IsG.start (s:List Int):IsG s s []:=⟨Dv.refl s,Dv.zero s,1,[1],[],by decide,fun x=>by simp [Zd]⟩
theorem IsG.length {f g s t:List Int} (h1:IsG f s t) (h2:IsG g s t) (hf:Zj f ≠ []):(Zj f).length=(Zj g).length:=by
 have a:=(h1.dv h2.1 h2.2.1).length hf;have b:=(h2.dv h1.1 h1.2.1).length a.2;omega
theorem IsG.step {g r d e q:List Int} {a m:Int} (ha:a ≠ 0) (hm:m ≠ 0) (hr:∀ x,a*Zd r x=Zd q x*Zd d x+m*Zd e x) (h:IsG g d e):IsG g r d:=by
 obtain⟨h1,h2,c,u,v,hc,h⟩:=h;refine⟨Dv.comb q [m] ha h1 h2 (fun x=>by rw[hr x];simp[Zd]),h1,c*m,Zw a v,Zjw (Zw m u) (Xx v q),Int.mul_ne_zero hc hm,fun x => ?_⟩;have e1:=hr x;have e2:=h x;rw[Zm,Ux,Zm,Z1];generalize Zd g x=g at *
 generalize Zd d x=d at *
 generalize Zd e x=e at *
 generalize Zd r x=r at *
 generalize Zd q x=q at *
 generalize Zd u x=u at *
 generalize Zd v x=v at *
 have e3:c*m*g=m*(c*g):=by grind
 rw[e3,e2];have e4:a*v*r=v*(a*r):=by grind
 rw[e4,e1];grind
theorem IsG.scaled {g s t s' t':List Int} {m n k l:Int} (hm:m ≠ 0) (hn:n ≠ 0) (hk:k ≠ 0) (hl:l ≠ 0) (h1:∀ x,m*Zd s' x=n*Zd s x) (h2:∀ x,k*Zd t' x=l*Zd t x) (h:IsG g s t):IsG g s' t':=by
 obtain⟨a,b,c,u,v,hc,h⟩:=h;refine⟨a.scaled hm h1,b.scaled hk h2,c*(n*l),Zw (m*l) u,Zw (k*n) v,Int.mul_ne_zero hc (Int.mul_ne_zero hn hl),fun x => ?_⟩;have e1:=h1 x;have e2:=h2 x;have e3:=h x;rw[Zm,Zm];generalize Zd g x=g at *
 generalize Zd s x=s at *
 generalize Zd t x=t at *
 generalize Zd s' x=s' at *
 generalize Zd t' x=t' at *
 generalize Zd u x=u at *
 generalize Zd v x=v at *
 have e4:c*(n*l)*g=n*l*(c*g):=by grind
 rw[e4,e3];have e5:m*l*u*s'=l*u*(m*s'):=by grind
 have e6:k*n*v*t'=n*v*(k*t'):=by grind
 rw[e5,e6,e1,e2];grind
theorem IsG.gscaled {g g' s t:List Int} {m n:Int} (hm:m ≠ 0) (hn:n ≠ 0) (h1:∀ x,m*Zd g' x=n*Zd g x) (h:IsG g s t):IsG g' s t:=by
 obtain⟨a,b,c,u,v,hc,h⟩:=h;refine⟨a.left hm hn h1,b.left hm hn h1,c*m,Zw n u,Zw n v,Int.mul_ne_zero hc hm,fun x => ?_⟩;have e1:=h1 x;have e2:=h x;rw[Zm,Zm,Int.mul_assoc,e1];have e3:c*(n*Zd g x)=n*(c*Zd g x):=by grind
 rw[e3,e2];grind
theorem IsG.mul {d p q:List Int} (c:List Int) {d' p' q':List Int} (hd:∀ x,Zd d' x=Zd c x*Zd d x) (hp:∀ x,Zd p' x=Zd c x*Zd p x) (hq:∀ x,Zd q' x=Zd c x*Zd q x) (h:IsG d p q):IsG d' p' q':=by
 obtain⟨⟨m,k,hm,hk⟩,⟨n,l,hn,hl⟩,e,u,v,he,h⟩:=h;refine⟨⟨m,k,hm,fun x => ?_⟩,⟨n,l,hn,fun x => ?_⟩,e,u,v,he,fun x => ?_⟩
 ·have:=hk x;rw[hd,hp];grind
 ·have:=hl x;rw[hd,hq];grind
 ·have:=h x;rw[hd,hp,hq];grind
theorem Wg (p:List Int):∃ m:Int,m ≠ 0/\∀ x,Zd p x=m*Zd (prim p) x:=by
 by_cases h:Zj p=[]
 ·refine⟨1,by decide,fun x => ?_⟩;rw[Jl h,Xu.2 (Xf.1 h)];rfl
 ·have:=Hr h;refine⟨(Qy p:Int),by omega,fun x => ?_⟩;rw[<- Zm,F1,Vs]
theorem Zbr {r d:List Int} (hl:d.length<=r.length) (ht:top d ≠ 0):∃ (a m:Int) (q:List Int),a ≠ 0/\m ≠ 0/\∀ x,a*Zd r x=Zd q x*Zd d x+m*Zd (Uj r d) x:=by
 obtain⟨m,hm,h⟩:=Wg (Kf r d ((top d).natAbs:Int) (sg (top d)*top r) r.length);refine⟨((top d).natAbs:Int),m,U8 (r.length-d.length) [sg (top d)*top r],by omega,hm,fun x => ?_⟩;have h1:=h x;rw[Pi hl] at h1;have e:Zd (Uj r d) x=Zd (prim (Kf r d ((top d).natAbs:Int) (sg (top d)*top r) r.length)) x:=rfl;rw[e,<- h1,Ud];simp only[Zd];grind
theorem Zbp {d:List Int} (ht:top d ≠ 0):∀ (f:Nat) (r:List Int),∃ (a m:Int) (q:List Int),a ≠ 0/\m ≠ 0/\∀ x,a*Zd r x=Zd q x*Zd d x+m*Zd (Ul f r d) x:=by
 intro f;induction f with
 | zero=>intro r;exact⟨1,1,[],by decide,by decide,fun x=>by simp[Zd,Ul]⟩
 | succ f ih =>
  intro r;simp only[Ul];split
  ·rename_i hl;obtain⟨a,m,q,ha,hm,h⟩:=Zbr hl ht;obtain⟨b,n,s,hb,hn,g⟩:=ih (Uj r d);refine⟨b*a,m*n,Gs (Zw b q) (Zw m s),Int.mul_ne_zero hb ha,Int.mul_ne_zero hm hn,fun x => ?_⟩;have h':=h x;have g':=g x;rw[Qo,Zm,Zm,Int.mul_assoc,h'];generalize Zd (Ul f (Uj r d) d) x=z at *
   generalize Zd (Uj r d) x=y at *
   have e:b*(Zd q x*Zd d x+m*y)=b*(Zd q x*Zd d x)+m*(b*y):=by grind
   rw[e,g'];grind
  ·exact⟨1,1,[],by decide,by decide,fun x=>by simp[Zd]⟩
theorem L1:∀ (f:Nat) (x y:List Int),y.length<=f->y.length<=x.length->Xw x->Xw y->IsG (F4 f x y) x y:=by
 intro f;induction f with
 | zero =>
  intro x y h1 _ _ _;have:y=[]:=List.eq_nil_of_length_eq_zero (by omega);subst this;exact IsG.start x
 | succ f ih =>
  intro x y h1 h2 lx ly;simp only[F4];split
  ·rename_i h;subst h;exact IsG.start x
  ·rename_i h;have ht:top y ≠ 0:=U3 ly h;obtain⟨r1,r2,_⟩:=T0 h (K:=Nat.max 1 (y.map Int.natAbs).sum) (fun i=>by
    have h3:(y.getD i 0).natAbs<=(y.map Int.natAbs).sum:=by
     clear ht h h1 h2 ly ih;induction y generalizing i with
     | nil=>simp
     | cons c y ih => 
      cases i with
      | zero=>simp
      | succ i=>have:=ih i;simp at this |-;omega
    unfold Jo;have h4:(y.map Int.natAbs).sum<=Nat.max 1 (y.map Int.natAbs).sum:=Nat.le_max_right _ _;exact Nat.lt_of_le_of_lt (Nat.le_trans h3 h4) (Nat.lt_pow_self (by decide))) x.length x (Nat.max 1 (x.map Int.natAbs).sum) (Nat.le_refl _) lx (fun i=>by
    have h3:(x.getD i 0).natAbs<=(x.map Int.natAbs).sum:=by
     clear ht h h1 h2 lx ih;induction x generalizing i with
     | nil=>simp
     | cons c y ih => 
      cases i with
      | zero=>simp
      | succ i=>have:=ih i;simp at this |-;omega
    unfold Jo;have h4:(x.map Int.natAbs).sum<=Nat.max 1 (x.map Int.natAbs).sum:=Nat.le_max_right _ _;exact Nat.lt_of_le_of_lt (Nat.le_trans h3 h4) (Nat.lt_pow_self (by decide)))
   obtain⟨a,m,q,ha,hm,e⟩:=Zbp ht x.length x;exact IsG.step ha hm e (ih y (Qs x y) (by unfold Qs;omega) (by unfold Qs;omega) ly r1)
def Zit (x y:List Int):List Int:=if y.length<=x.length then F4 y.length x y else F4 x.length y x
theorem Zjx {x y:List Int} (lx:Xw x) (ly:Xw y):IsG (Zit x y) x y:=by
 unfold Zit;split
 ·exact L1 _ _ _ (Nat.le_refl _) (by assumption) lx ly
 ·exact (L1 _ _ _ (Nat.le_refl _) (by omega) ly lx).comm
theorem Lw (p:List Int):∃ m:Int,m ≠ 0/\∀ x,Zd (Jq p) x=m*Zd p x:=by
 unfold Jq;split
 ·exact⟨-1,by decide,fun x=>by rw[Wh];omega⟩
 ·exact⟨1,by decide,fun x=>by omega⟩
theorem Gf (p:List Int):(Jq p).length=p.length:=by
 unfold Jq;split
 ·exact Xh p
 ·rfl
def V1 (s t:List Int):List Int:=Jq (Zit (prim s) (prim t))
theorem Vn (s t:List Int):IsG (V1 s t) s t:=by
 have h:=Zjx (Jw s) (Jw t);obtain⟨m,hm,h1⟩:=Wg s;obtain⟨n,hn,h2⟩:=Wg t;obtain⟨k,hk,h3⟩:=Lw (Zit (prim s) (prim t));have h4:=h.scaled (s':=s) (t':=t) (m:=1) (n:=m) (k:=1) (l:=n) (by decide) hm (by decide) hn (fun x=>by rw[h1 x];omega) (fun x=>by rw[h2 x];omega);exact h4.gscaled (m:=1) (n:=k) (by decide) hk (fun x=>by unfold V1;rw[h3 x];omega)
theorem Kz {p:List Int} (h:Xw p):Xw (Xz p):=by
 have e:Xz p=Zw (-1) p:=by
  unfold Xz Zw;apply List.map_congr_left;intro x _;omega
 rw[e];exact Wk (by decide) h
theorem Au {p:List Int} (h:Xw p):Xw (Jq p):=by
 unfold Jq;split
 ·exact Kz h
 ·exact h
theorem E9:∀ (f:Nat) (x y:List Int),prim x=x->prim y=y->prim (F4 f x y)=F4 f x y:=by
 intro f;induction f with
 | zero=>intro x y h _;exact h
 | succ f ih =>
  intro x y hx hy;simp only[F4];split
  ·exact hx
  ·exact ih y _ hy (Hm _ _ _ hx)
theorem Aa {x y:List Int} (hx:prim x=x) (hy:prim y=y):prim (Zit x y)=Zit x y:=by
 unfold Zit;split
 ·exact E9 _ _ _ hx hy
 ·exact E9 _ _ _ hy hx
theorem Pm (p:List Int):Qy (Xz p)=Qy p:=by
 have e:Xz p=Zw (-1) p:=by
  unfold Xz Zw;apply List.map_congr_left;intro x _;omega
 rw[e,Vt];simp
theorem Pl (p:List Int):Qy (Jq p)=Qy p:=by
 unfold Jq;split
 ·exact Pm p
 ·rfl
theorem Un (s t:List Int):Xw (V1 s t):=Au (Xb (Aa (Q8 s) (Q8 t)))
theorem Ks {p:List Int} (h:Xw p) (hc:Qy p=1):prim p=p:=by rw [Mh hc];exact h
theorem Kw {s t:List Int} (h:Zj s ≠ []):V1 s t ≠ []:=by
 have:=((Vn s t).1.length h).2;intro h0;rw[h0] at this;exact this rfl
theorem Pn {s t:List Int} (h:Zj s ≠ []):Qy (V1 s t)=1:=by
 have h1:=Kw (t:=t) h;unfold V1 at *
 rw[Pl];have h2:Zit (prim s) (prim t) ≠ []:=by
  intro h0;rw[h0] at h1;exact h1 rfl
 have h3:=Aa (Q8 s) (Q8 t);rw[<- h3];exact K5 (by rw[Xb h3];exact h2)
theorem Tn {p:List Int} (h:Xw p) (h0:p ≠ []):0<top (Jq p):=by
 have h1:=U3 h h0;unfold Jq;split
 ·rename_i hn;unfold top at *
  rw[Xh,Wn];omega
 ·rename_i hn;unfold top at *;omega
theorem N9 {s t:List Int} (h:Zj s ≠ []):0<top (V1 s t):=by
 have h1:=Kw (t:=t) h;unfold V1 at *
 refine Tn (Xb (Aa (Q8 s) (Q8 t))) ?_;intro h0;rw[h0] at h1;exact h1 rfl
theorem Zqo {s t:List Int} {K:Nat} (h:Zj s ≠ []) (hl:s.length<=9) (hK:Kb K s):Kb (K+3) (V1 s t)/\(V1 s t).length<=(Zj s).length:=by
 have hg:=(Vn s t).1;have h1:=(hg.length h).1;have hle:=Un s t;rw[hle] at h1;obtain⟨c,k,hc,hk⟩:=hg;have:=Jj s;exact⟨A2 hc (Pn h) h hl (by omega) hK hk,h1⟩
end Go.Ai

namespace Go.Proofs.Ythdpfjffdipipaa
open Go.IntKind (i64 u64 u32)
open Go.Ai
set_option maxRecDepth 100000
def Dq (E rs:List Rn) (i:Nat):List Rn:=E.take i++rs.drop i
theorem An (E rs:List Rn):Dq E rs 0=rs:=by simp [Dq]
theorem Ao {E rs:List Rn} (h:E.length=rs.length):Dq E rs rs.length=E:=by
 unfold Dq;rw[List.drop_length,List.append_nil,List.take_of_length_le (by omega)]
theorem Vx {E rs:List Rn} (h:E.length=rs.length) (i:Nat):(Dq E rs i).length=rs.length:=by
 unfold Dq;rw[List.length_append,List.length_take,List.length_drop];omega
theorem Bh {E rs:List Rn} (h:E.length=rs.length) {i:Nat} (hi:i<rs.length):(Dq E rs i).getD i z0=rs.getD i z0:=by
 unfold Dq;rw[List.getD_eq_getElem?_getD,List.getD_eq_getElem?_getD,List.getElem?_append_right (by rw[List.length_take];omega),List.length_take,List.getElem?_drop];congr 2;omega
theorem Bg {E rs:List Rn} (h:E.length=rs.length) {i:Nat} (hi:i<rs.length):(Dq E rs i).set i (E.getD i z0)=Dq E rs (i+1):=by
 have hpi:E[i]?=some (E.getD i z0):=by rw[List.getD_eq_getElem?_getD,List.getElem?_eq_getElem (by omega)];rfl
 apply List.ext_getElem?;intro t;have hl:=Vx h i;unfold Dq at *
 rcases Nat.lt_trichotomy t i with g | g | g
 ·rw[List.getElem?_set_ne (by omega),List.getElem?_append_left (by rw[List.length_take];omega),List.getElem?_append_left (by rw[List.length_take];omega),List.getElem?_take_of_lt g,List.getElem?_take_of_lt (by omega)]
 ·subst g;rw[List.getElem?_set_self (by omega),List.getElem?_append_left (by rw[List.length_take];omega),List.getElem?_take_of_lt (by omega),hpi]
 ·rw[List.getElem?_set_ne (by omega),List.getElem?_append_right (by rw[List.length_take];omega),List.getElem?_append_right (by rw[List.length_take];omega),List.length_take,List.length_take,List.getElem?_drop,List.getElem?_drop];congr 1;omega
theorem Gg (p:List Int) (i:Nat):Ze ((p.map cn).getD i z0)=p.getD i 0:=by rw [<- Je,Qa]
theorem V4 {p:List Int} {i:Nat} (h:i<p.length):(p.map cn).getD i z0=cn (p.getD i 0):=by
 rw[List.getD_eq_getElem?_getD,List.getElem?_map,List.getD_eq_getElem?_getD,List.getElem?_eq_getElem h];rfl
theorem Ql {K:Nat} {p:List Int} (h:Kb K p):∀ r∈p.map cn,Ji K r:=Bk h.mem
theorem Tw {rs:List Rn} {i:Nat} {r:Rn} (h:i<rs.length):(rs.set i r).getD i z0=r:=by
 simp[List.getD_eq_getElem?_getD,h]
theorem Fp {x y:Rn} {J K:Nat} (hx:Ji J x) (hy:Ji K y) (h:J+K<=1048576):Zc Yir 78 [Z4 x,Z4 y] (Zi (Ze x*Ze y)):=N4 hx.1 hy.1 (by have:=hx.2;have:=hy.2;omega)
theorem Rk {x y:Rn} {J K:Nat} (hx:Ji J x) (hy:Ji K y) (h:J<1048576) (h2:K<1048576):Zc Yir 103 [Z4 x,Z4 y] (Zi (Ze x-Ze y)):=Zi1 hx.1 hy.1 (by have:=hx.2;omega) (by have:=hy.2;omega)
section
variable {p d:List Int} {J Kd:Nat}
theorem Lp {a b:Int} {t:Rn} (hp:Kb J p) (hd:Kb Kd d) (ha:Jo Kd a) (hb:Jo J b) (hS:J+Kd+1<1048576) (hl:d.length<=p.length) (hN:p.length<=1048576) :
  Za Yir (.loop Rc) (Fl (d.map cn) p.length (p.map cn) t (cn a) (cn b) ((p.length-d.length:Nat):Int) (p.length:Nat) 0) (.exit 2)
   (Fl (d.map cn) p.length ((Kf p d a b p.length).map cn) t (cn a) (cn b) ((p.length-d.length:Nat):Int) (p.length:Nat) (p.length:Nat)):=by
 have hE:((Kf p d a b p.length).map cn).length=(p.map cn).length:=by rw[List.length_map,List.length_map,X8]
 have hpl:(p.map cn).length=p.length:=List.length_map ..;have h:=Za.up (prog:=Yir) (c:=Rc) (ex := .exit 2) (fin:=Fl (d.map cn) p.length ((Kf p d a b p.length).map cn) t (cn a) (cn b) ((p.length-d.length:Nat):Int) (p.length:Nat) (p.length:Nat))
  (fun i=>Fl (d.map cn) p.length (Dq ((Kf p d a b p.length).map cn) (p.map cn) i) t (cn a) (cn b) ((p.length-d.length:Nat):Int) (p.length:Nat) (i:Nat)) p.length (by nofun) ?_ ?_ 0 (Nat.zero_le _)
 ·rw[An] at h;exact h
 ·intro i hi;have ei:i64.wrap ((i:Int)+1)=((i+1:Nat):Int):=by rw[w64 (by omega) (by omega)];omega
  have hml:=Vx hE i;have hget:=Bh hE (i:=i) (by omega);have hEi:((Kf p d a b p.length).map cn).getD i z0=cn ((Kf p d a b p.length).getD i 0):=V4 (by rw[X8];exact hi);have hest:=Uo p d a b p.length i;rw[if_pos hi] at hest;have hset:=Bg hE (i:=i) (by omega);rw[hEi] at hset;have gp:=Qh (Ql hp) i;have ga:=Q5 ha;have gb:=Q5 hb;have vi:=Gg p i;generalize Dq ((Kf p d a b p.length).map cn) (p.map cn) i=M at *
  by_cases hat:p.length-d.length<=i
  ·rw[if_pos hat] at hest;have ea:i64.wrap ((i:Int)-((p.length-d.length:Nat):Int))=((i-(p.length-d.length):Nat):Int):=by rw[w64 (by omega) (by omega)];omega
   have gq:=Qh (Ql hd) (i-(p.length-d.length));have vq:=Gg d (i-(p.length-d.length));have m1:=Fp gp ga (by omega);have m2:=Fp gb gq (by omega);have f1:Jo (J+Kd) (Ze ((p.map cn).getD i z0)*Ze (cn a)):=gp.fits.mul (by rw[Zv];exact ha);have f2:Jo (J+Kd) (Ze (cn b)*Ze ((d.map cn).getD (i-(p.length-d.length)) z0)):=Jo.mul (by rw[Zv];exact hb) gq.fits;have m3:=Rk (Q5 f1) (Q5 f2) (by omega) (by omega);rw[Zv (Ze (cn b)*Ze ((d.map cn).getD (i-(p.length-d.length)) z0))] at m3;have k:=Zr8 (d.map cn) p.length M t (cn a) (cn b) ((p.length-d.length:Nat):Int) (p.length:Nat) (i:Nat) (by simp;omega) (by rw[decide_eq_true_eq];omega) (by omega) (by omega) (by rw[List.length_set];omega) (by rw[ea,List.length_map];omega)
    (by rw[Int.toNat_natCast,hget];exact m1) (by rw[ea,Int.toNat_natCast];exact m2) (by
     simp only[ea,Int.toNat_natCast,hget];rw[Tw (by omega)];exact m3)
   refine k.to rfl ?_;simp only[ea,ei,Int.toNat_natCast,hget];rw[Tw (by omega),List.set_set,Zv (Ze ((p.map cn).getD i z0)*Ze (cn a)),vi,vq,Zv,Zv,Int.mul_comm (p.getD i 0) a,<- hest];rw[hset]
  ·rw[if_neg hat] at hest;have m1:=Fp gp ga (by omega);have k:=Zr7 (d.map cn) p.length M t (cn a) (cn b) ((p.length-d.length:Nat):Int) (p.length:Nat) (i:Nat) (by simp;omega) (by rw[decide_eq_false_iff_not];omega) (by omega) (by omega) (by rw[Int.toNat_natCast,hget];exact m1);refine k.to rfl ?_;simp only[ei,Int.toNat_natCast,hget];rw[vi,Zv,Int.mul_comm (p.getD i 0) a,<- hest,hset]
 ·rw[show Dq ((Kf p d a b p.length).map cn) (p.map cn) p.length=(Kf p d a b p.length).map cn by have h:=Ao hE;rw[hpl] at h;exact h];exact Zr6 (d.map cn) p.length _ t _ _ _ _ _ (by simp)
theorem gcd_ne {a b:Int} (h:a ≠ 0):0<Int.gcd a b:=by
 rw[Int.gcd];exact Nat.gcd_pos_of_pos_left _ (by omega)
theorem Zjr (hp:Kb J p) (hd:Kb Kd d) (hS:J+Kd+1<1048576) (hd0:d ≠ []) (ht:top d ≠ 0) (hl:d.length<=p.length) (hN:p.length<=1048576) :
  Za Yir Zv2 (Zc9 (d.map cn) p.length (p.map cn) (cn (top d))) .norm (Zc9 (d.map cn) (Uj p d).length ((Uj p d).map cn) (cn (top d))):=by
 have hdl:=List.length_pos_iff.2 hd0;have e1:i64.wrap ((p.length:Int)-1)=((p.length-1:Nat):Int):=by rw[w64 (by omega) (by omega)];omega
 have e2:i64.wrap ((p.length:Int)-(((d.map cn).length:Nat):Int))=((p.length-d.length:Nat):Int):=by rw[List.length_map,w64 (by omega) (by omega)];omega
 have gt:=Q5 (Ax hd);have gl:=Qh (Ql hp) (p.length-1);have vl:Ze ((p.map cn).getD (p.length-1) z0)=top p:=Gg p (p.length-1);have hgp:=gcd_ne (a:=top d) (b:=top p) ht;have hgcd:=Ti (na:=(cn (top d)).1) (nb:=((p.map cn).getD (p.length-1) z0).1) gt.1 gl.1 (by have:=gt.2;omega) (by have:=gl.2;omega);rw[show rv (cn (top d)).1 (cn (top d)).2=top d from Zv _,show rv ((p.map cn).getD (p.length-1) z0).1 ((p.map cn).getD (p.length-1) z0).2=top p from vl] at hgcd;have hd1:((Int.gcd (top d) (top p):Nat):Int)∣top d:=Int.gcd_dvd_left ..;have hd2:((Int.gcd (top d) (top p):Nat):Int)∣top p:=Int.gcd_dvd_right ..;have hd3:((Int.gcd (top d) (top p):Nat):Int)∣(((top d).natAbs:Nat):Int):=Int.dvd_natAbs.2 hd1;have hgle:Jo Kd ((Int.gcd (top d) (top p):Nat):Int):=by
  have:=Ax hd;unfold Jo at *
  rw[Int.natAbs_natCast];have:=Nat.le_of_dvd (by omega) (Int.ofNat_dvd_left.1 hd1);omega
 have gg:=Q5 hgle;have habs:=N5 (neg:=(cn (top d)).1) gt.1 (by have:=gt.2;omega);rw[show rv (cn (top d)).1 (cn (top d)).2=top d from Zv _] at habs;have gab:=Q5 (My (Ax hd));have q1:=D7 (na:=(cn (((top d).natAbs:Nat):Int)).1) (nb:=(cn ((Int.gcd (top d) (top p):Nat):Int)).1) gab.1 gg.1 (by rw[show rv (cn ((Int.gcd (top d) (top p):Nat):Int)).1 (cn ((Int.gcd (top d) (top p):Nat):Int)).2=(Int.gcd (top d) (top p):Nat) from Zv _];omega) (by have:=gab.2;omega) (by have:=gg.2;omega);rw[show rv (cn ((Int.gcd (top d) (top p):Nat):Int)).1 (cn ((Int.gcd (top d) (top p):Nat):Int)).2=(Int.gcd (top d) (top p):Nat) from Zv _,show rv (cn (((top d).natAbs:Nat):Int)).1 (cn (((top d).natAbs:Nat):Int)).2=((top d).natAbs:Nat) from Zv _] at q1;have q2:=D7 (na:=((p.map cn).getD (p.length-1) z0).1) (nb:=(cn ((Int.gcd (top d) (top p):Nat):Int)).1) gl.1 gg.1 (by rw[show rv (cn ((Int.gcd (top d) (top p):Nat):Int)).1 (cn ((Int.gcd (top d) (top p):Nat):Int)).2=(Int.gcd (top d) (top p):Nat) from Zv _];omega) (by have:=gl.2;omega) (by have:=gg.2;omega);rw[show rv (cn ((Int.gcd (top d) (top p):Nat):Int)).1 (cn ((Int.gcd (top d) (top p):Nat):Int)).2=(Int.gcd (top d) (top p):Nat) from Zv _,show rv ((p.map cn).getD (p.length-1) z0).1 ((p.map cn).getD (p.length-1) z0).2=top p from vl] at q2;have hG:(0:Int)<((Int.gcd (top d) (top p):Nat):Int):=by omega
 have x1:=Int.mul_ediv_cancel' hd3;have x2:=Int.mul_ediv_cancel' hd2;rw[Fs hG hd3] at q1;rw[Fs hG hd2] at q2;have hsg:=Kl (neg:=(cn (top d)).1) gt.1 (by have:=gt.2;omega);rw[show rv (cn (top d)).1 (cn (top d)).2=top d from Zv _] at hsg;have fa:Jo Kd ((((top d).natAbs:Nat):Int) / ((Int.gcd (top d) (top p):Nat):Int)):=by
  rcases Mx (My (Ax hd)) (Int.gcd (top d) (top p)) with g | g
  ·exact g
  ·exact absurd hd3 g
 have fb:Jo J (top p / ((Int.gcd (top d) (top p):Nat):Int)):=by
  rcases Mx (Ax hp) (Int.gcd (top d) (top p)) with g | g
  ·exact g
  ·exact absurd hd2 g
 generalize hGd:((Int.gcd (top d) (top p):Nat):Int)=G at *
 generalize hx:(((top d).natAbs:Nat):Int) / G=x at *
 generalize hy:top p / G=y at *
 have pst:∀ b:Int,G*b=sg (top d)*top p->Uj p d=prim (Kf p d x b p.length):=by
  intro b hb;have h:=Zbq (r:=p) (d:=d) (c:=1) (g:=G) (a:=x) (b:=b) (by decide) hG x1 hb;rwa [show Zw 1 d=d by unfold Zw;simp] at h
 have fin:∀ b:Int,G*b=sg (top d)*top p->Jo J b->Zc Yir 73 [.sl p.length (pc ((Kf p d x b p.length).map cn))] (.fresh 2 ((Uj p d).map cn).length (pc ((Uj p d).map cn))):=by
  intro b hb fb';have hK:=Zfd hp hd fa fb' p.length;have h:=Jv (rs:=(Kf p d x b p.length).map cn) (Ql hK) (by omega) (by rw[List.length_map,X8];exact hN);rw[Qa,<- pst b hb,List.length_map,X8] at h;rw[List.length_map];exact h
 by_cases hneg:top d<0
 ·have hng:=Th (neg:=(cn y).1) (xs:=(cn y).2) (Q6 _) (by have:=fb.len;rw[Po];omega);rw[show rv (cn y).1 (cn y).2=y from Zv _] at hng;have hb:G * -y=sg (top d)*top p:=by unfold sg;rw[if_pos hneg,Int.mul_neg,x2];omega
  have hin:=Lp (t:=cn (top d)) hp hd fa fb.neg hS hl hN;have k:=Yk69_1 (d.map cn) p.length (p.map cn) (cn (top d)) _ _ _ _ G _ x y (-y) _ _ (Wa (top d)) _ _ _ (by rw[decide_eq_true_eq,List.length_map];omega) (by unfold Wa;rw[if_pos hneg];rfl) (by rw[e1];omega) (by rw[List.length_map]) (by rw[e1,Int.toNat_natCast];exact hgcd) habs q1 (by rw[e1,Int.toNat_natCast];exact q2) hsg hng (by rw[e2];exact hin) (fin (-y) hb fb.neg);rw[List.length_map] at k;exact k
 ·have hb:G*y=sg (top d)*top p:=by unfold sg;rw[if_neg hneg,x2];omega
  have hin:=Lp (t:=cn (top d)) hp hd fa fb hS hl hN;have k:=Yk69_2 (d.map cn) p.length (p.map cn) (cn (top d)) _ _ _ _ G _ x y _ _ (Wa (top d)) _ _ _ (by rw[decide_eq_true_eq,List.length_map];omega) (by unfold Wa;rw[if_neg hneg];split <;> rfl) (by rw[e1];omega) (by rw[List.length_map]) (by rw[e1,Int.toNat_natCast];exact hgcd) habs q1 (by rw[e1,Int.toNat_natCast];exact q2) hsg (by rw[e2];exact hin) (fin y hb fb);rw[List.length_map] at k;exact k
end
theorem Zjs {d:List Int} {Kd:Nat} (hd:Kb Kd d) (hd0:d ≠ []) (ht:top d ≠ 0):∀ (f:Nat) (p:List Int) (J:Nat),p.length<=f->Kb J p->J+(p.length+1-d.length)*(Kd+1)<1048576->p.length<=1048576 ->
  Za Yir (.loop Zv2) (Zc9 (d.map cn) p.length (p.map cn) (cn (top d))) (.exit 0) (Zc9 (d.map cn) (Ul f p d).length ((Ul f p d).map cn) (cn (top d))):=by
 have hdl:=List.length_pos_iff.2 hd0;intro f;induction f with
 | zero =>
  intro p J hf _ _ _;exact Za.loop_out (Zpv (d.map cn) p.length (p.map cn) (cn (top d)) (by rw[decide_eq_false_iff_not,List.length_map];omega)) (by nofun)
 | succ f ih =>
  intro p J hf hJ hS hN;simp only[Ul];split
  ·rename_i hl;have hplen:=Kr hd0 hl;have e:((Uj p d).length+1-d.length)+1<=p.length+1-d.length:=by omega
   have:=Nat.mul_le_mul_right (Kd+1) e;rw[Nat.add_mul,Nat.one_mul] at this;have h1:=Zjr hJ hd (by
    have h2:1*(Kd+1)<=(p.length+1-d.length)*(Kd+1):=Nat.mul_le_mul_right _ (by omega);omega) hd0 ht hl hN
   exact Za.loop h1 (ih (Uj p d) (J+Kd+1) (by omega) (Zak hJ hd) (by omega) (by omega))
  ·rename_i hl;exact Za.loop_out (Zpv (d.map cn) p.length (p.map cn) (cn (top d)) (by rw[decide_eq_false_iff_not,List.length_map];omega)) (by nofun)
theorem V9 {rs ss:List Rn} {J K:Nat} (hr:∀ r∈rs,Ji J r) (hs:∀ r∈ss,Ji K r) (hJ:J<1048576) (hK:K<1048576) (hn:rs.length<=1048576) (hm:ss.length<=1048576) (h0:prim (Zf ss) ≠ []) (hS:J+((prim (Zf rs)).length+1-(prim (Zf ss)).length)*(K+1)<1048576) :
  Zc Yir 69 [.sl rs.length (pc rs),.sl ss.length (pc ss)] (.fresh 2 (Qs (prim (Zf rs)) (prim (Zf ss))).length (pk (Qs (prim (Zf rs)) (prim (Zf ss))))):=by
 have p1:=Jv hr hJ hn;have p2:=Jv hs hK hm;have k1:Kb J (prim (Zf rs)):=(Ms (Xj hr)).prim;have k2:Kb K (prim (Zf ss)):=(Ms (Xj hs)).prim;have l1:(prim (Zf rs)).length<=rs.length:=by rw[Qt];have:=Jj (Zf rs);rwa [Zu] at this
 have l2:(prim (Zf ss)).length<=ss.length:=by rw[Qt];have:=Jj (Zf ss);rwa [Zu] at this
 have hl:=List.length_pos_iff.2 h0;have ht:top (prim (Zf ss)) ≠ 0:=U3 (Jw _) h0;have hlp:=Zjs k2 h0 ht (prim (Zf rs)).length (prim (Zf rs)) J (Nat.le_refl _) k1 hS (by omega);have e1:i64.wrap (((((prim (Zf ss)).map cn).length:Nat):Int)-1)=(((prim (Zf ss)).length-1:Nat):Int):=by rw[List.length_map,w64 (by omega) (by omega)];omega
 have p1':Zc Yir 73 [.sl rs.length (pc rs)] (.fresh 2 ((prim (Zf rs)).map cn).length (pc ((prim (Zf rs)).map cn))):=by rw[List.length_map];exact p1
 have p2':Zc Yir 73 [.sl ss.length (pc ss)] (.fresh 2 ((prim (Zf ss)).map cn).length (pc ((prim (Zf ss)).map cn))):=by rw[List.length_map];exact p2
 have k:=Yrun69 rs ss _ _ ((Qs (prim (Zf rs)) (prim (Zf ss))).map cn) (cn (top (prim (Zf ss)))) (Qs (prim (Zf rs)) (prim (Zf ss))).length p1' p2' (by rw[e1,List.length_map];omega) (by
  rw[e1,Int.toNat_natCast,V4 (show (prim (Zf ss)).length-1<(prim (Zf ss)).length by omega),List.length_map];exact hlp)
 exact k
theorem Zav:∀ (f:Nat) (x y:List Int) (M:Nat),0<M->y.length<=f->y.length<=x.length->x.length<=1048576->prim x=x->prim y=y->Kb (M-1) x->Kb (M-1) y->M*phi x.length y.length<=500000 ->
  ∃ bs,Za Yir (.loop Zv1) (Zc8 (x.map cn) (y.map cn)) (.exit 0) (Zc8 ((F4 f x y).map cn) bs):=by
 intro f;induction f with
 | zero =>
  intro x y M _ h1 _ _ _ _ _ _ _;have:y=[]:=List.eq_nil_of_length_eq_zero (by omega);subst this;exact⟨_,Za.loop_out (Zpt _ _ (by simp)) (by nofun)⟩
 | succ f ih =>
  intro x y M hM h1 h2 h3 px py kx ky hphi;simp only[F4];split
  ·rename_i h;subst h;exact⟨_,Za.loop_out (Zpt _ _ (by simp)) (by nofun)⟩
  ·rename_i h;have hyl:=List.length_pos_iff.2 h;obtain⟨r1,r2,r3⟩:=Bc hM (Xb px) h kx ky h2;have hM':0<M*(x.length-y.length+2):=Nat.mul_pos hM (by omega);have hMle:M<=M*(x.length-y.length+2):=Nat.le_mul_of_pos_right M (by omega);have hbig:M*(x.length-y.length+2)<=500000:=by
    refine Nat.le_trans (Nat.mul_le_mul_left _ ?_) hphi;unfold phi;exact Nat.le_mul_of_pos_right _ (Nat.pow_pos (by decide))
   have hrem:=V9 (rs:=x.map cn) (ss:=y.map cn) (Ql kx) (Ql ky) (by omega) (by omega) (by rw[List.length_map];exact h3) (by rw[List.length_map];omega) (by rw[Qa,py];exact h) (by
    rw[Qa,Qa,px,py,Nat.sub_add_cancel hM,show x.length+1-y.length=x.length-y.length+1 by omega,Nat.mul_comm _ M];have:M*(x.length-y.length+2)=M*(x.length-y.length+1)+M:=by rw[<- Nat.mul_succ]
    omega)
   rw[Qa,Qa,px,py] at hrem;have hrem':Zc Yir 69 [.sl (x.map cn).length (pc (x.map cn)),.sl (y.map cn).length (pc (y.map cn))] (.fresh 2 ((Qs x y).map cn).length (pc ((Qs x y).map cn))):=by
    have hlm:((Qs x y).map cn).length=(Qs x y).length:=List.length_map ..;rw[hlm];exact hrem
   have k:=Zpu (x.map cn) (y.map cn) _ (by simp;omega) hrem';obtain⟨bs,hb⟩:=ih y (Qs x y) (M*(x.length-y.length+2)) hM' (by omega) (by omega) (by omega) py (Hm _ _ _ px) (ky.mono (by omega)) r3 (Bd r2 hphi);exact⟨bs,Za.loop k hb⟩
def Zc6 (f:Nat) (args:List AV) (p:List Int):Prop:=Zc Yir f args (.fresh 2 (p.map cn).length (pc (p.map cn)))\/Zc Yir f args (.sl (p.map cn).length (pc (p.map cn)))
theorem Eg {p:List Int} {K:Nat} (hk:Kb K p) (hK:K<=1048576) (hN:p.length<=1048576) :
  (top p<0->Zc Yir 109 [.sl (p.map cn).length (pc (p.map cn))] (.fresh 2 ((Jq p).map cn).length (pc ((Jq p).map cn))))/\(¬ top p<0->Zc Yir 109 [.sl (p.map cn).length (pc (p.map cn))] (.sl (p.map cn).length (pc (p.map cn)))):=by
 have h:=M7 (rs:=p.map cn) (fun r hr=>(Ql hk r hr).mono hK) (by rw[List.length_map];exact hN);rw[Qa] at h;refine⟨fun hn => ?_,h.2⟩;have h1:=h.1 hn;have e:Jq p=Xz p:=by unfold Jq;rw[if_pos hn]
 have hl:((Xz p).map cn).length=(p.map cn).length:=by rw[List.length_map,List.length_map,Xh]
 rw[e,hl];exact h1
theorem T5 {p:List Int} (h:¬ top p<0):Jq p=p:=by unfold Jq;rw [if_neg h]
theorem Nc:∀ (f:Nat) (x y:List Int) (M:Nat),0<M->y.length<=f->y.length<=x.length->Xw x->Xw y->Kb (M-1) x->Kb (M-1) y->Kb (M*phi x.length y.length-1) (F4 f x y)/\(F4 f x y).length<=x.length:=by
 intro f;induction f with
 | zero =>
  intro x y M hM _ h2 _ _ kx _;refine⟨kx.mono ?_,Nat.le_refl _⟩;have:M*1<=M*phi x.length y.length:=Nat.mul_le_mul_left _ (by unfold phi;exact Nat.mul_pos (by omega) (Nat.pow_pos (by decide)));omega
 | succ f ih =>
  intro x y M hM h1 h2 lx ly kx ky;simp only[F4];split
  ·refine⟨kx.mono ?_,Nat.le_refl _⟩;have:M*1<=M*phi x.length y.length:=Nat.mul_le_mul_left _ (by unfold phi;exact Nat.mul_pos (by omega) (Nat.pow_pos (by decide)));omega
  ·rename_i h;have hyl:=List.length_pos_iff.2 h;obtain⟨r1,r2,r3⟩:=Bc hM lx h kx ky h2;have hM':0<M*(x.length-y.length+2):=Nat.mul_pos hM (by omega);have hMle:M<=M*(x.length-y.length+2):=Nat.le_mul_of_pos_right M (by omega);obtain⟨a,b⟩:=ih y (Qs x y) (M*(x.length-y.length+2)) hM' (by omega) (by omega) ly r1 (ky.mono (by omega)) r3;exact⟨a.mono (Nat.sub_le_sub_right (Bd r2 (Nat.le_refl _)) 1),by omega⟩
theorem Dz {rs ss:List Rn} {g:List Int} {bs:List Rn} {K:Nat} (hr:∀ r∈rs,Ji K r) (hs:∀ r∈ss,Ji K r) (hK:K<1048576) (hn:rs.length<=1048576) (hm:ss.length<=1048576) {Kg:Nat} (hg:Kb Kg g) (hKg:Kg<=1048576) (hgl:g.length<=1048576)
  (hl:Za Yir (.loop Zv1) (Zc8 ((prim (Zf rs)).map cn) ((prim (Zf ss)).map cn)) (.exit 0) (Zc8 (g.map cn) bs)) :
  Zc6 71 [.sl rs.length (pc rs),.sl ss.length (pc ss)] (Jq g):=by
 have p1:=Jv hr hK hn;have p2:=Jv hs hK hm;have p1':Zc Yir 73 [.sl rs.length (pc rs)] (.fresh 2 ((prim (Zf rs)).map cn).length (pc ((prim (Zf rs)).map cn))):=by rw[List.length_map];exact p1
 have p2':Zc Yir 73 [.sl ss.length (pc ss)] (.fresh 2 ((prim (Zf ss)).map cn).length (pc ((prim (Zf ss)).map cn))):=by rw[List.length_map];exact p2
 obtain⟨q1,q2⟩:=Eg hg hKg hgl;by_cases h:top g<0
 ·exact .inl (Zly rs ss _ _ (g.map cn) bs _ p1' p2' hl (q1 h))
 ·rw[T5 h];exact .inr (Zlx rs ss _ _ (g.map cn) bs p1' p2' hl (q2 h))
theorem Ej {rs ss:List Rn} {K c:Nat} (hr:∀ r∈rs,Ji K r) (hs:∀ r∈ss,Ji K r) (hn:rs.length<=c) (hm:ss.length<=c) (hc:c<=1048576) (hS:(K+1)*(2*3^c)<=500000) :
  Zc6 71 [.sl rs.length (pc rs),.sl ss.length (pc ss)] (Jq (Zit (prim (Zf rs)) (prim (Zf ss)))):=by
 have h3:0<3^c:=Nat.pow_pos (by decide);have hK:K+1<=500000:=by
  have:(K+1)*1<=(K+1)*(2*3^c):=Nat.mul_le_mul_left _ (by omega);omega
 have k1:Kb K (prim (Zf rs)):=(Ms (Xj hr)).prim;have k2:Kb K (prim (Zf ss)):=(Ms (Xj hs)).prim;have l1:(prim (Zf rs)).length<=rs.length:=by rw[Qt];have:=Jj (Zf rs);rwa [Zu] at this
 have l2:(prim (Zf ss)).length<=ss.length:=by rw[Qt];have:=Jj (Zf ss);rwa [Zu] at this
 unfold Zit;split
 ·rename_i hl;have hphi:(K+1)*phi (prim (Zf rs)).length (prim (Zf ss)).length<=500000:=Nat.le_trans (Nat.mul_le_mul_left _ (R4 hl (by omega))) hS;obtain⟨bs,hb⟩:=Zav (prim (Zf ss)).length (prim (Zf rs)) (prim (Zf ss)) (K+1) (by omega) (Nat.le_refl _) hl (by omega) (Q8 _) (Q8 _) k1 k2 hphi;obtain⟨s1,s2⟩:=Nc (prim (Zf ss)).length (prim (Zf rs)) (prim (Zf ss)) (K+1) (by omega) (Nat.le_refl _) hl (Jw _) (Jw _) k1 k2;exact Dz hr hs (by omega) (by omega) (by omega) s1 (by omega) (by omega) hb
 ·rename_i hl;have hphi:(K+1)*phi (prim (Zf ss)).length (prim (Zf rs)).length<=500000:=Nat.le_trans (Nat.mul_le_mul_left _ (R4 (by omega) (by omega))) hS;obtain⟨bs,hb⟩:=Zav (prim (Zf rs)).length (prim (Zf ss)) (prim (Zf rs)) (K+1) (by omega) (Nat.le_refl _) (by omega) (by omega) (Q8 _) (Q8 _) k2 k1 hphi;obtain⟨s1,s2⟩:=Nc (prim (Zf rs)).length (prim (Zf ss)) (prim (Zf rs)) (K+1) (by omega) (Nat.le_refl _) (by omega) (Jw _) (Jw _) k2 k1;have hy0:prim (Zf ss) ≠ []:=by intro h;rw[h] at hl;simp at hl
  have hsw:Qs (prim (Zf rs)) (prim (Zf ss))=prim (Zf rs):=by
   unfold Qs;cases hx:(prim (Zf rs)).length with
   | zero=>rfl
   | succ n=>simp only[Ul];rw[if_neg hl]
  have hrem:=V9 (rs:=(prim (Zf rs)).map cn) (ss:=(prim (Zf ss)).map cn) (Ql k1) (Ql k2) (by omega) (by omega) (by rw[List.length_map];omega) (by rw[List.length_map];omega) (by rw[Qa,Q8];exact hy0) (by
   rw[Qa,Qa,Q8,Q8,show (prim (Zf rs)).length+1-(prim (Zf ss)).length=0 by omega,Nat.zero_mul];omega)
  rw[Qa,Qa,Q8,Q8,hsw] at hrem;have hrem':Zc Yir 69 [.sl ((prim (Zf rs)).map cn).length (pc ((prim (Zf rs)).map cn)),.sl ((prim (Zf ss)).map cn).length (pc ((prim (Zf ss)).map cn))] (.fresh 2 ((prim (Zf rs)).map cn).length (pc ((prim (Zf rs)).map cn))):=by
   have hlm:((prim (Zf rs)).map cn).length=(prim (Zf rs)).length:=List.length_map ..;rw[hlm] at hrem |-;exact hrem
  have k:=Zpu ((prim (Zf rs)).map cn) ((prim (Zf ss)).map cn) _ (by rw[decide_eq_true_eq,List.length_map];omega) hrem';exact Dz hr hs (by omega) (by omega) (by omega) s1 (by omega) (by omega) (Za.loop k hb)
end Go.Proofs.Ythdpfjffdipipaa

namespace Go.Ai
open Go.IntKind (i64 u64 u32)
theorem T9 {p q:List Int} (h:∀ x,Zd p x=Zd q x) (x:Int):Zd (Z8 p) x=Zd (Z8 q) x :=
 Va (fun i=>by rw[J9,J9,Ue h]) x
theorem Lz (a:Int) (p:List Int) (x:Int):Zd (Z8 (a::p)) x=Zd p x+x*Zd (Z8 p) x:=by
 have h:∀ i,(Z8 (a::p)).getD i 0=(Gs p (0::Z8 p)).getD i 0:=by
  intro i;rw[Xa,J9,List.getD_cons_succ];cases i with
  | zero=>simp
  | succ i=>rw[List.getD_cons_succ,J9];push_cast;grind
 rw[Va h x,Qo];simp[Zd]
theorem Zj0 (p q:List Int) (x:Int):Zd (Z8 (Gs p q)) x=Zd (Z8 p) x+Zd (Z8 q) x:=by
 rw[<- Qo];exact Va (fun i=>by rw[Xa,J9,J9,J9,Xa,Int.add_mul]) x
theorem Vw (c:Int) (p:List Int) (x:Int):Zd (Z8 (Zw c p)) x=c*Zd (Z8 p) x:=by
 rw[<- Zm];exact Va (fun i=>by rw[Z2,J9,J9,Z2,Int.mul_assoc]) x
theorem Zjy:Z8 []=[]:=rfl
theorem T8 (p q:List Int) (x:Int):Zd (Z8 (Xx p q)) x=Zd (Z8 p) x*Zd q x+Zd p x*Zd (Z8 q) x:=by
 induction p with
 | nil=>simp[Xx,Zjy,Zd]
 | cons a p ih =>
  simp only[Xx];rw[Zj0,Vw,Lz,Lz,ih,Z1];simp only[Zd];generalize Zd (Z8 p) x=A at *
  generalize Zd (Z8 q) x=B at *
  grind
theorem Af {r p q:List Int} (h:∀ x,Zd r x=Zd p x*Zd q x) (x:Int):Zd (Z8 r) x=Zd (Z8 p) x*Zd q x+Zd p x*Zd (Z8 q) x:=by
 rw[<- T8];exact T9 (fun x=>by rw[h x,Z1]) x
theorem R6 {p q:List Int} {c d:Int} (h:∀ x,c*Zd p x=d*Zd q x) (x:Int):c*Zd (Z8 p) x=d*Zd (Z8 q) x:=by
 rw[<- Vw,<- Vw];exact T9 (fun x=>by rw[Zm,Zm,h x]) x
theorem Zjz (p:List Int):(Z8 p).length<=p.length-1:=by
 unfold Z8;have:=Jj ((List.range (p.length-1)).map fun j=>p.getD (j+1) 0*((j+1:Nat):Int));simpa using this
theorem Zfc {K:Nat} {p:List Int} (h:Kb K p) (hl:p.length<=1048576):Kb (K+2) (Z8 p):=fun i=>by
 rw[J9];by_cases hi:i<1048576
 ·refine ((h (i+1)).mul (k:=1) ?_).mono (by omega);unfold Jo;rw[Int.natAbs_natCast];omega
 ·rw[Qi (xs:=p) (by omega),Int.zero_mul];exact Wo _
def Ac (h:List Int):Nat->List Int
 | 0=>[1]
 | k+1=>Xx (Ac h k) h
theorem T4 (h:List Int):∀ (k:Nat) (x:Int),Zd (Z8 (Ac h k)) x*Zd h x=(k:Int)*Zd (Ac h k) x*Zd (Z8 h) x
 | 0,x=>by simp[Ac,Z8,Zd,Zj,Zt]
 | k+1,x=>by
  have ih:=T4 h k x;simp only[Ac];rw[T8,Z1];push_cast;generalize Zd (Z8 (Ac h k)) x=A at *
  generalize Zd (Ac h k) x=B at *
  generalize Zd (Z8 h) x=C at *
  generalize Zd h x=H at *
  have:(A*H+B*C)*H=(A*H)*H+B*C*H:=by grind
  rw[this,ih];grind
theorem Gd {h:List Int} (hh:Zj h ≠ []):∀ k,Zj (Ac h k) ≠ []/\(Zj (Ac h k)).length=k*((Zj h).length-1)+1
 | 0=>by
  have e:Zj (Ac h 0)=[1]:=rfl;rw[e];simp
 | k+1=>by
  obtain⟨a,b⟩:=Gd hh k;have h1:=List.length_pos_iff.2 hh;have e:=Ad a hh;have e2:(Zj (Ac h (k+1))).length=(k+1)*((Zj h).length-1)+1:=by
   simp only[Ac];rw[e,b,Nat.add_mul,Nat.one_mul];omega
  refine⟨?_,e2⟩;intro h0;rw[h0] at e2;simp at e2
theorem Ru {a G f h:List Int} {c:Int} (ha:Zj a ≠ []) (hG:IsG G a (Z8 a)) (hc:c ≠ 0) (hf:∀ x,c*Zd a x=Zd G x*Zd f x) (h1:Dv h f) (h2:Dv h (Z8 f)):(Zj h).length=1:=by
 obtain⟨g1,⟨c2,e,hc2,he⟩,c3,u,v,hc3,hb⟩:=hG;have hG0:Zj G ≠ []:=(g1.length ha).2;have hf0:Zj f ≠ []:=by
  intro h0;have:Zj a=Zj []:=by
   apply Um;intro x;have h3:=hf x;rw[Jl h0,Int.mul_zero] at h3;rcases Int.mul_eq_zero.1 h3 with g | g
   ·exact absurd g hc
   ·exact g
  exact ha this
 have hh0:Zj h ≠ []:=(h1.length hf0).2;have hC:∀ x,c*c2*c3=c2*Zd u x*Zd f x+c*Zd v x*Zd e x:=by
  have h3:=Pt hG0 [c*c2*c3] (Gs (Zw c2 (Xx u f)) (Zw c (Xx v e))) (fun x=>by
   have a1:=hf x;have a2:=he x;have a3:=hb x;rw[Qo,Zm,Zm,Z1,Z1];simp only[Zd];generalize Zd G x=G at *
   generalize Zd f x=f at *
   generalize Zd e x=e at *
   generalize Zd u x=u at *
   generalize Zd v x=v at *
   generalize Zd (Z8 a) x=a' at *
   generalize Zd a x=a at *
   have e1:G*(c*c2*c3+x*0)=c*c2*(c3*G):=by grind
   rw[e1,a3];have e2:c*c2*(u*a+v*a')=c2*u*(c*a)+c*v*(c2*a'):=by grind
   rw[e2,a1,a2];grind)
  intro x;have h4:=h3 x;rw[Qo,Zm,Zm,Z1,Z1] at h4;simp only[Zd,Int.mul_zero,Int.add_zero] at h4;grind
 have hd:∀ x,c*(Zd G x*Zd e x)=c2*(Zd (Z8 G) x*Zd f x+Zd G x*Zd (Z8 f) x):=by
  intro x;have a1:=Af (r:=Zw c a) (p:=G) (q:=f) (fun x=>by rw[Zm];exact hf x) x;rw[Vw] at a1;have a2:=he x;rw[<- a1,<- a2];grind
 obtain⟨c4,t,hc4,ht⟩:=h1;obtain⟨c5,w,hc5,hw⟩:=h2;have hft:∀ x,c4*Zd (Z8 f) x=Zd (Z8 h) x*Zd t x+Zd h x*Zd (Z8 t) x:=by
  intro x;have a1:=Af (r:=Zw c4 f) (p:=h) (q:=t) (fun x=>by rw[Zm];exact ht x) x;rw[Vw] at a1;exact a1
 have hk:∀ k,Dv (Ac h k) G:=by
  intro k;induction k with
  | zero=>exact⟨1,G,by decide,fun x=>by simp[Ac,Zd]⟩
  | succ k ih =>
   obtain⟨ck,s,hck,hs⟩:=ih;obtain⟨p1,_⟩:=Gd hh0 k;have hGs:∀ x,ck*Zd (Z8 G) x=Zd (Z8 (Ac h k)) x*Zd s x+Zd (Ac h k) x*Zd (Z8 s) x:=by
    intro x;have a1:=Af (r:=Zw ck G) (p:=Ac h k) (q:=s) (fun x=>by rw[Zm];exact hs x) x;rw[Vw] at a1;exact a1
   have hes:∀ x,c4*c5*c*(Zd e x*Zd s x)=Zd h x*(c2*((k:Int)*Zd s x*(c4*Zd w x-c5*Zd (Z8 t) x)+c5*(Zd (Z8 s) x*Zd t x)+c4*(Zd s x*Zd w x))):=by
    have h3:=Pt (p:=Xx (Ac h k) h) (by
      intro h0;have:=Ad p1 hh0;rw[h0] at this;have:=List.length_pos_iff.2 p1;have:=List.length_pos_iff.2 hh0;simp at *
      omega) (Zw (c4*c5*c) (Xx e s)) (Xx h (Zw c2 (Gs (Gs (Xx (Zw (k:Int) s) (Zjw (Zw c4 w) (Zw c5 (Z8 t)))) (Zw c5 (Xx (Z8 s) t))) (Zw c4 (Xx s w))))) (fun x=>by
     have a1:=hd x;have a2:=ht x;have a3:=hw x;have a4:=hft x;have a5:=hs x;have a6:=hGs x;have a7:=T4 h k x;simp only[Z1,Zm,Qo,Ux];generalize Zd (Z8 (Ac h k)) x=P' at *
     generalize Zd (Z8 G) x=G' at *
     generalize Zd (Z8 f) x=f' at *
     generalize Zd (Z8 h) x=h' at *
     generalize Zd (Z8 t) x=t' at *
     generalize Zd (Z8 s) x=s' at *
     generalize Zd (Ac h k) x=P at *
     generalize Zd G x=G at *
     generalize Zd f x=f at *
     generalize Zd e x=e at *
     generalize Zd h x=h at *
     generalize Zd t x=t at *
     generalize Zd w x=w at *
     generalize Zd s x=s at *
     have b1:P*h*(c4*c5*c*(e*s))=c4*c5*h*(c*((P*s)*e)):=by grind
     rw[b1,<- a5];have b2:c4*c5*h*(c*(ck*G*e))=c4*c5*h*ck*(c*(G*e)):=by grind
     rw[b2,a1];have b3:c4*c5*h*ck*(c2*(G'*f+G*f'))=c5*c2*((ck*G')*h*(c4*f)+(ck*G)*h*(c4*f')):=by grind
     rw[b3,a6,a5,a2];have b4:(P'*s+P*s')*h*(h*t)=(P'*h)*s*h*t+P*s'*h*h*t:=by grind
     rw[b4,a7];have b5:(k:Int)*P*h'*s*h*t=(k:Int)*P*s*h*(h'*t):=by grind
     have b6:h'*t=c4*f'-h*t':=by omega
     rw[b5,b6];have b7:c5*c2*((k:Int)*P*s*h*(c4*f'-h*t')+P*s'*h*h*t+P*s*h*(c4*f'))=c2*((k:Int)*P*s*h*(c4*(c5*f')-c5*(h*t'))+c5*(P*s'*h*h*t)+P*s*h*(c4*(c5*f'))):=by grind
     rw[b7,a3];grind)
    intro x;have h4:=h3 x;simp only[Z1,Zm,Qo,Ux] at h4;exact h4
   have d1:Dv h (Xx e s):=⟨c4*c5*c,Zw c2 (Gs (Gs (Xx (Zw (k:Int) s) (Zjw (Zw c4 w) (Zw c5 (Z8 t)))) (Zw c5 (Xx (Z8 s) t))) (Zw c4 (Xx s w))),Int.mul_ne_zero (Int.mul_ne_zero hc4 hc5) hc,fun x=>by
    simp only[Z1,Zm,Qo,Ux];exact hes x⟩
   have d2:Dv h (Xx f s):=Dv.mul_right s ⟨c4,t,hc4,ht⟩ (fun x=>Z1 _ _ x);have d3:Dv h s:=Dv.comb (m:=c*c2*c3) (Zw c2 u) (Zw c v) (Int.mul_ne_zero (Int.mul_ne_zero hc hc2) hc3) d2 d1 (fun x=>by
    rw[hC x];simp only[Z1,Zm];grind)
   obtain⟨c6,s2,hc6,hs2⟩:=d3;refine⟨c6*ck,s2,Int.mul_ne_zero hc6 hck,fun x => ?_⟩;have a1:=hs x;have a2:=hs2 x;simp only[Ac];rw[Z1,Int.mul_assoc,a1];have b1:c6*(Zd (Ac h k) x*Zd s x)=Zd (Ac h k) x*(c6*Zd s x):=by grind
   rw[b1,a2];grind
 have hh1:=List.length_pos_iff.2 hh0;apply Classical.byContradiction;intro hn;have h3:=((hk (Zj G).length).length hG0).1;rw[(Gd hh0 _).2] at h3;have:(Zj G).length*1<=(Zj G).length*((Zj h).length-1):=Nat.mul_le_mul_left _ (by omega);omega
def Zq (p:List Int):List Int :=
 if (Jq (prim p)).length<2\/(V1 (Jq (prim p)) (Z8 (Jq (prim p)))).length<2 then Jq (prim p)
 else prim (Eo (V1 (Jq (prim p)) (Z8 (Jq (prim p)))) ((Jq (prim p)).length-(V1 (Jq (prim p)) (Z8 (Jq (prim p)))).length+1) (Jq (prim p)) (List.replicate ((Jq (prim p)).length-(V1 (Jq (prim p)) (Z8 (Jq (prim p)))).length+1) 0))
theorem Sa {g:List Int} (h:g.length=1):∃ c,g=[c]:=by
 match g,h with
 | [c],_=>exact⟨c,rfl⟩
theorem Zbw {a:List Int} (la:Xw a) (h0:a ≠ []) (ca:Qy a=1) (ta:0<top a) (f:List Int)
  (hf:f=if a.length<2\/(V1 a (Z8 a)).length<2 then a else prim (Eo (V1 a (Z8 a)) (a.length-(V1 a (Z8 a)).length+1) a (List.replicate (a.length-(V1 a (Z8 a)).length+1) 0))) :
  Xw f/\Qy f=1/\0<top f/\f ≠ []/\f.length=a.length-(V1 a (Z8 a)).length+1/\∃ c d:Int,c ≠ 0/\d ≠ 0/\∀ x,c*Zd a x=d*(Zd (V1 a (Z8 a)) x*Zd f x):=by
 have hta:Zj a ≠ []:=Uf la h0;have hG:=Vn a (Z8 a);have lG:=Un a (Z8 a);have nG:=Kw (t:=Z8 a) hta;have tG:=N9 (t:=Z8 a) hta;have hGl:=(hG.1.length hta).1;rw[lG,la] at hGl;have hal:=List.length_pos_iff.2 h0;have hgl:=List.length_pos_iff.2 nG;generalize V1 a (Z8 a)=G at *
 by_cases hs:a.length<2\/G.length<2
 ·rw[if_pos hs] at hf;subst hf;have hG1:G.length=1:=by omega
  obtain⟨c,rfl⟩:=Sa hG1;refine⟨la,ca,ta,h0,by omega,c,1,?_,by decide,fun x=>by simp[Zd]⟩;have:top [c]=c:=rfl;omega
 ·rw[if_neg hs] at hf;obtain⟨c',r',c1,r1,r2,r3⟩:=Zb7 (p:=a) (q:=G) nG tG hGl;generalize Eo G (a.length-G.length+1) a (List.replicate (a.length-G.length+1) 0)=o at *
  have to:=Zjv c1 ta nG tG hGl r2 r3 r1;have hr0:Zj r'=[]:=by
   apply Classical.byContradiction;intro hn;have hd:Dv G r':=Dv.comb (m:=1) [c'] (Xz o) (by decide) hG.1 (Dv.refl G) (fun x=>by
    have:=r3 x;rw[Wh];simp only[Zd];grind)
   have h1:=(hd.length hn).1;rw[lG] at h1;have hl1:=List.length_pos_iff.2 hn;have h2:=U3 (Ky r') hn;rw[Jh,r1 _ (by omega)] at h2;exact h2 rfl
  have ho0:o ≠ []:=by intro h1;rw[h1] at r2;simp at r2
  have lo:Xw o:=Aw (Or.inr (by unfold top at to;omega));obtain⟨m,hm,hpe⟩:=Wg o;subst hf;refine⟨Jw o,K5 (Uf lo ho0),Li to,?_,by rw[Qt,lo,r2],c',m,by omega,hm,fun x => ?_⟩
  ·intro h1;rw[Xu,<- Xf,lo] at h1;exact ho0 h1
  ·rw[r3 x,Jl hr0,hpe x];grind
theorem Zed {p:List Int} (hp:Zj p ≠ []):Xw (Jq (prim p))/\Jq (prim p) ≠ []/\Qy (Jq (prim p))=1/\0<top (Jq (prim p))/\(Jq (prim p)).length=(Zj p).length/\∃ m:Int,m ≠ 0/\∃ n:Int,n ≠ 0/\∀ x,n*Zd p x=m*Zd (Jq (prim p)) x:=by
 have h1:prim p ≠ []:=by intro h;rw[Xu,<- Xf] at h;exact hp h
 obtain⟨m,hm,h2⟩:=Wg p;obtain⟨n,hn,h3⟩:=Lw (prim p);refine⟨Au (Jw p),?_,by rw[Pl];exact K5 hp,Tn (Jw p) h1,by rw[Gf,Qt],m,hm,n,hn,fun x=>by rw[h2 x,h3 x];grind⟩;intro h;have:=congrArg List.length h;rw[Gf] at this;exact h1 (List.eq_nil_of_length_eq_zero this)
theorem Es {f:List Int} (lf:Xw f) (cf:Qy f=1) (tf:0<top f):Jq (prim f)=f:=by
 rw[Ks lf cf];unfold Jq;rw[if_neg (by omega)]
theorem Be {p:List Int} (hp:Zj p ≠ []):Xw (Zq p)/\Qy (Zq p)=1/\0<top (Zq p)/\Zq p ≠ []/\Dv (Zq p) p /\
  (Zq p).length+(V1 (Jq (prim p)) (Z8 (Jq (prim p)))).length=(Zj p).length+1/\IsG (V1 (Jq (prim p)) (Z8 (Jq (prim p)))) p (Z8 p)/\(V1 (Zq p) (Z8 (Zq p))).length=1:=by
 obtain⟨la,h0,ca,ta,hl,m,hm,n,hn,hpe⟩:=Zed hp;obtain⟨lf,cf,tf,f0,fl,c,d,hc,hd,hcd⟩:=Zbw la h0 ca ta (Zq p) rfl;have hta:Zj (Jq (prim p)) ≠ []:=Uf la h0;have hG:=Vn (Jq (prim p)) (Z8 (Jq (prim p)));have lG:=Un (Jq (prim p)) (Z8 (Jq (prim p)));have nG:=Kw (t:=Z8 (Jq (prim p))) hta;have hGl:=(hG.1.length hta).1;rw[lG,la] at hGl;have hder:∀ x,n*Zd (Z8 p) x=m*Zd (Z8 (Jq (prim p))) x:=R6 hpe;generalize Jq (prim p)=a at *
 generalize V1 a (Z8 a)=G at *
 generalize Zq p=f at *
 have hal:=List.length_pos_iff.2 h0;have hgl:=List.length_pos_iff.2 nG;refine⟨lf,cf,tf,f0,?_,by omega,?_,?_⟩
 ·have h1:Dv f a:=⟨c,Zw d G,hc,fun x=>by rw[hcd x,Zm];grind⟩;exact h1.scaled hn hpe
 ·exact hG.scaled hn hm hn hm hpe hder
 ·have hK:=Vn f (Z8 f);have nK:=Kw (t:=Z8 f) (Uf lf f0);have lK:=Un f (Z8 f);have h1:=Ru (h:=V1 f (Z8 f)) (f:=Zw d f) (c:=c) hta hG hc (fun x=>by rw[hcd x,Zm];grind)
   (hK.1.scaled (m:=1) (n:=d) (by decide) (fun x=>by rw[Zm];omega)) (hK.2.1.scaled (m:=1) (n:=d) (by decide) (fun x=>by rw[Vw];omega))
  rwa [lK] at h1
theorem Zbv {f:List Int} (lf:Xw f) (cf:Qy f=1) (tf:0<top f) (h:(V1 f (Z8 f)).length<2):Zq f=f:=by
 unfold Zq;rw[Es lf cf tf];exact if_pos (Or.inr h)
theorem Zam {p:List Int} {K:Nat} (hp:Zj p ≠ []) (hl:p.length<=9) (hK:Kb K p):Kb (K+3) (Zq p)/\(Zq p).length<=(Zj p).length:=by
 obtain⟨lf,cf,tf,f0,hd,_,_,_⟩:=Be hp;have h1:=(hd.length hp).1;rw[lf] at h1;obtain⟨c,k,hc,hk⟩:=hd;have:=Jj p;exact⟨A2 hc cf hp hl (by omega) hK hk,h1⟩
theorem Ns (t:List Int):Dv [1] t:=⟨1,t,by decide,fun x=>by simp [Zd]⟩
end Go.Ai
