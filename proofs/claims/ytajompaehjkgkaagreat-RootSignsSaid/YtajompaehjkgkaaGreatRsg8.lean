/- Texts of the proof of RootSigns: part 8 of 13. -/
import Derived.Test.YtajompaehjkgkaaGreatRsg7
namespace Go.Proofs.YtajompaehjkgkaaGreat
open Go.Ai
set_option maxRecDepth 100000
open Decidable renaming decide->B
open Go.Ai.AV renaming agg->A6r,bool->A6m,fresh->A6p,int->A6l,sl->A6n,tup->A6t
open Go.Ai.Reg renaming box->A6s,own->A6q,val->A6o
open Go.IntKind renaming i64->R,wrap->D
open Int renaming ediv_nonneg->Jn,emod_nonneg->Fy,gcd->CX,mul_comm->A8,mul_ediv_add_emod->Gs,mul_nonneg->A3,natAbs_natCast->BF,neg_tdiv->Aeq,neg_tmod->Aes,tdiv->As,tdiv_eq_ediv_of_nonneg->B5,tdiv_neg->Aer,tmod->AA,tmod_eq_emod_of_nonneg->Bl,tmod_neg->Aet,toNat->A,toNat_natCast->F
open List renaming cons_append->HO,getD_eq_getElem?_getD->Z,getElem?_eq_getElem->Af,length_map->N,length_range->B6,mem_of_mem_take->Ct,range->Ao,take_of_length_le->Ei,take_succ_eq_append_getElem->qU
open Nat renaming gcd->Il,gcd_comm->Jr,gcd_rec->Avs,gcd_zero_right->GB,le_refl->An,mod_lt->H8,zero_le->Bv
theorem sH{n:Int}{xs:List Int}(hu:AL xs)(h0:0<=n)(h:n<=Ac xs):(lz n).length<=xs.length :=
 M1 (by have:=D9 hu;omega)
theorem sI{n:Int}(h:0<=n):Ac (lz n)=n:=by unfold lz;rw [Cn];omega
theorem Ye{na nb:Bool}{xs ys:List Int}(hx:AL xs)(hy:AL ys)(h0:rv nb ys ≠ 0)(h1:xs.length<1000000)(h2:ys.length<1000000) :
  H I 138 [A6r [A6m na,sL lm xs],A6r [A6m nb,sL lm ys]] (A6t [o (As (rv na xs) (rv nb ys)),o (AA (rv na xs) (rv nb ys))]):=by
 have cx:=Fq hx;have cy:=Fq hy;have t1:=Bf xs;have t2:=Bf ys;have hX:=AT hx;have hY:0<Ac ys:=by
  have:=AT hy;rcases Int.lt_or_le 0 (Ac ys) with h | h
  ·exact h
  ·have hz:Ac ys=0:=by omega
   exact absurd (by unfold rv;rw[hz];cases nb <;> rfl) h0
 have hy0:Y ys ≠ []:=by
  intro e;have:=Ea ys;rw[e] at this;simp only[Ac] at this;omega
 have hd:=cU cx cy hy0 (by omega) (by omega);rw[Ea,Ea] at hd;have hq0:0<=Ac xs / Ac ys:=Jn hX (by omega);have hq1:Ac xs / Ac ys<=Ac xs:=Int.ediv_le_self _ hX;have hr0:=Fy (Ac xs) (show Ac ys ≠ 0 by omega);have hr1:Ac xs % Ac ys<=Ac xs:=by
  have:=Gs (Ac xs) (Ac ys);have:=A3 (show 0<=Ac ys by omega) hq0;omega
 have l1:=sH hx hq0 hq1;have l2:=sH hx hr0 hr1;have m1:=FR (neg := !(na==nb)) (xs:=lz (Ac xs / Ac ys)) (BK _) (by omega);have m2:=FR (neg:=na) (xs:=lz (Ac xs % Ac ys)) (BK _) (by omega);have e1:rv (!(na==nb)) (lz (Ac xs / Ac ys))=As (rv na xs) (rv nb ys):=by
  unfold rv;rw[sI hq0,<- B5 hX];cases na <;> cases nb <;> simp[Aeq,Aer]
 have e2:rv na (lz (Ac xs % Ac ys))=AA (rv na xs) (rv nb ys):=by
  unfold rv;rw[sI hr0,<- Bl hX];cases na <;> cases nb <;> simp[Aes,Aet]
 rw[e1] at m1;rw[e2] at m2;exact Arj na nb xs ys _ _ _ _ (DX (by omega)) (DX (by omega)) hd m1 m2
theorem Zu(n:Int):AL (cn n).2:=BK _
theorem MF(n:Int):rv (cn n).1 (cn n).2=n:=u n
theorem Aaj:∀ (n X Y:Nat),Y<=n->(G X).length<1000000->(G Y).length<1000000->W I (.loop QF) (KZ (cn (X:Nat)) (cn (Y:Nat))) (.exit 0) (KZ (cn (Il X Y:Nat)) (cn 0)):=by
 intro n;induction n with
 | zero =>
  intro X Y hY _ _;have:Y=0:=by omega
  subst this;rw[GB];exact Am (X_ (cn (X:Nat)) (cn 0) (by decide) (Gm (neg:=(cn 0).1) (xs:=(cn 0).2) (Zu _) (by decide))) (by nofun)
 | succ n ih =>
  intro X Y hY h1 h2;by_cases h0:Y=0
  ·subst h0;rw[GB];exact Am (X_ (cn (X:Nat)) (cn 0) (by decide) (Gm (neg:=(cn 0).1) (xs:=(cn 0).2) (Zu _) (by decide))) (by nofun)
  ·have hs:=Gm (neg:=(cn (Y:Nat)).1) (xs:=(cn (Y:Nat)).2) (BK _) (by rw[HE,BF];omega);have hd:=Ye (na:=(cn (X:Nat)).1) (nb:=(cn (Y:Nat)).1) (xs:=(cn (X:Nat)).2) (ys:=(cn (Y:Nat)).2) (BK _) (BK _) (by rw[MF];omega) (by rw[HE,BF];omega) (by rw[HE,BF];omega);rw[MF,MF] at hd;rw[MF] at hs;have em:AA (X:Int) (Y:Int)=((X % Y:Nat):Int):=by rw[Bl (by omega)];omega
   rw[em] at hd;have k:=zN (cn (X:Nat)) (cn (Y:Nat)) _ _ (by rw[u,bne_iff_ne];unfold BL; (repeat' split) <;> omega) (by rw[u];exact hs) hd
   have hlt:X % Y<Y:=H8 _ (by omega);have hle:(G (X % Y)).length<=(G Y).length:=by
    apply M1;have:=D9 (Cc Y).1;rw[Cn] at this;omega
   have r:=ih Y (X % Y) (by omega) h2 (by omega);rw[Jr X Y,Avs Y X,Jr (X % Y) Y];exact W.loop k r
theorem Zv{na nb:Bool}{xs ys:List Int}(hx:AL xs)(hy:AL ys)(h1:xs.length<1000000)(h2:ys.length<1000000) :
  H I 164 [A6r [A6m na,sL lm xs],A6r [A6m nb,sL lm ys]] (o (CX (rv na xs) (rv nb ys):Nat)):=by
 have m1:=FR (neg:=false) hx (by omega);have m2:=FR (neg:=false) hy (by omega);have l1:=E6 (neg:=na) hx;have l2:=E6 (neg:=nb) hy;have e1:rv false xs=(((rv na xs).natAbs:Nat):Int):=by
  have:=AT hx;unfold rv;cases na <;> simp <;> omega
 have e2:rv false ys=(((rv nb ys).natAbs:Nat):Int):=by
  have:=AT hy;unfold rv;cases nb <;> simp <;> omega
 rw[e1] at m1;rw[e2] at m2;exact Ark na nb xs ys _ _ _ _ m1 m2 (Aaj _ (rv na xs).natAbs (rv nb ys).natAbs (An _) (by omega) (by omega))
theorem Zw(a b:List Int):AO (a++b)=Il (AO a) (AO b):=by
 induction a with
 | nil=>simp[AO]
 | cons x a ih=>simp only[HO,AO,ih,Nat.gcd_assoc]
theorem TN{rs:List Rn}{i:Nat}(h:i<rs.length):(M rs).take (i+1)=(M rs).take i++[O (rs.getD i z0)]:=by
 rw[qU (by rw[s];exact h)];congr 2;rw[<- C9,Z,Af (by rw[s];exact h)];rfl
theorem dP{K:Nat}{rs:List Rn}(hg:∀ r∈rs,AN K r)(hK:K<1000000)(hN:rs.length<=1048576):H I 137 [sL pc rs] (o (AO (M rs):Nat)):=by
 have h:=W.up (prog:=I) (c:=UV) (ex := .exit 0) (fin:=NZ rs (cn (AO (M rs):Nat)) (rs.length:Nat))
  (fun i=>NZ rs (cn (AO ((M rs).take i):Nat)) (i:Nat)) rs.length (by nofun) ?_ ?_ 0 (Bv _)
 ·exact Arn rs (cn (AO (M rs):Nat)) _ h
 ·intro i hi;have ei:D R ((i:Int)+1)=((i+1:Nat):Int):=by rw[Bg (by omega) (by omega)];omega
  obtain⟨g1,g2⟩:=Be hg i;have hf:Bj K ((AO ((M rs).take i):Nat):Int):=Q' fun x hx=>Cs hg x (Ct hx);have hl:=hf.len;have hc:=Zv (na:=(cn (AO ((M rs).take i):Nat)).1) (nb:=(rs.getD i z0).1) (xs:=(cn (AO ((M rs).take i):Nat)).2) (ys:=(rs.getD i z0).2) (BK _) g1 (by rw[HE];omega) (by omega);rw[MF] at hc;have k:=Arl rs (cn (AO ((M rs).take i):Nat)) (i:Nat) _ (by simp;omega) (by omega) (by rw[F];exact hc);refine k.to rfl ?_;rw[ei,TN hi,Zw];congr 2;show ((Il (((AO ((M rs).take i):Nat):Int)).natAbs (O (rs.getD i z0)).natAbs:Nat):Int)=_;rw[BF];simp[AO]
 ·rw[Ei (by rw[s];omega)];exact Arm rs _ _ (by simp)
theorem Gq(g:Nat->Int)(i:Nat):pc ((Ao i).map fun j=>cn (g j))++([A6m (B (g i<0)),A6n (G (g i).natAbs).length (lm (G (g i).natAbs))]:List AV)=pc ((Ao (i+1)).map fun j=>cn (g j)):=by
 rw[Nc (fun j=>cn (g j)),<- cV];rfl
theorem nJ{K:Nat}{x:Int}(h:Bj K x)(c:Int):Bj K (As x c):=by
 unfold Bj at *
 have:(As x c).natAbs=x.natAbs / c.natAbs:=Int.natAbs_tdiv x c;have:=Nat.div_le_self x.natAbs c.natAbs;omega
theorem GQ{K:Nat}{rs:List Rn}(hg:∀ r∈rs,AN K r)(hK:K<1000000)(hN:rs.length<=1048576):H I 86 [sL pc rs] (A6p 2 (prim (M rs)).length (pk (prim (M rs)))):=by
 have hi:=dP hg hK hN;have hfc:Bj K ((AO (M rs):Nat):Int):=Q' (Cs hg);have hlc:=hfc.len;have hs:=Gm (neg:=(cn (AO (M rs):Nat)).1) (xs:=(cn (AO (M rs):Nat)).2) (BK _) (by rw[HE];omega);rw[MF] at hs;by_cases h0:AO (M rs)=0
 ·rw[Do.2 (IB.1 h0)];exact zO rs _ (by rw[h0];rfl) hi hs
 ·have h:=W.up (prog:=I) (c:=aZ) (ex := .exit 0) (fin:=Tj rs (cn (AO (M rs):Nat)) rs.length (pc ((Ao rs.length).map fun j=>cn (As (O (rs.getD j z0)) (AO (M rs):Nat)))) (rs.length:Nat))
   (fun i=>Tj rs (cn (AO (M rs):Nat)) i (pc ((Ao i).map fun j=>cn (As (O (rs.getD j z0)) (AO (M rs):Nat)))) (i:Nat)) rs.length (by nofun) ?_ ?_ 0 (Bv _)
  ·have hgo:∀ r∈(Ao rs.length).map (fun j=>cn (As (O (rs.getD j z0)) (AO (M rs):Nat))),AN 1048576 r:=M6 fun j _=>(B9 (nJ (Be hg j).fits _)).mono (by omega);have ht:=E_ hgo (by rw[N,B6];exact hN);have e:Y (M ((Ao rs.length).map (fun j=>cn (As (O (rs.getD j z0)) (AO (M rs):Nat)))))=prim (M rs):=by
    rw[<- B_ (M rs)];apply Fi;intro i;rw[Jc,u,IC,<- C9];by_cases h1:i<rs.length
    ·rw[if_pos h1,Lc (by omega) (Hf _ _)]
    ·rw[if_neg h1,Bs (by rw[s];omega),Int.zero_ediv]
   (first|rw[e,N,B6] at ht|(rw[e] at ht;unfold sL at ht;rw[N,B6] at ht));have hpk:pk (prim (M rs))=pc ((prim (M rs)).map cn):=rfl;(first|rw[hpk,<- N (f:=cn)] at ht |-|(rw[hpk] at ht |-;unfold sL at ht;rw[<- N (f:=cn)] at ht |-));exact zP rs _ _ _ _ _ (by rw[beq_eq_false_iff_ne];unfold BL; (repeat' split) <;> omega) hi hs h ht
  ·intro i hi2;have ei:D R ((i:Int)+1)=((i+1:Nat):Int):=by rw[Bg (by omega) (by omega)];omega
   obtain⟨g1,g2⟩:=Be hg i;have hd:=Ye (na:=(rs.getD i z0).1) (nb:=(cn (AO (M rs):Nat)).1) (xs:=(rs.getD i z0).2) (ys:=(cn (AO (M rs):Nat)).2) g1 (BK _) (by rw[MF];omega) (by omega) (by rw[HE];omega);rw[MF] at hd;have k:=A0e rs (cn (AO (M rs):Nat)) i (pc ((Ao i).map fun j=>cn (As (O (rs.getD j z0)) (AO (M rs):Nat)))) (i:Nat) _ _ (by simp;omega) (by omega) (by omega) (by rw[F];exact hd);refine k.to rfl ?_;rw[ei,<- Gq (fun j=>As (O (rs.getD j z0)) (AO (M rs):Nat)) i];rfl
  ·exact A0f rs _ _ _ _ (by simp)
theorem Yf{K:Nat}{rs:List Rn}(hg:∀ r∈rs,AN K r)(hK:K+2<=1000000)(hN:rs.length<=1048576):H I 122 [sL pc rs] (A6p 2 (Aq (M rs)).length (pk (Aq (M rs)))):=by
 have h:=W.up (prog:=I) (c:=UN) (ex := .exit 0) (fin:=N' rs (rs.length-1) (pc ((Ao (rs.length-1)).map fun j=>cn (((j+1:Nat):Int)*O (rs.getD (j+1) z0)))) ((rs.length-1+1:Nat):Int))
  (fun i=>N' rs i (pc ((Ao i).map fun j=>cn (((j+1:Nat):Int)*O (rs.getD (j+1) z0)))) ((i+1:Nat):Int)) (rs.length-1) (by nofun) ?_ ?_ 0 (Bv _)
 ·have hgo:∀ r∈(Ao (rs.length-1)).map (fun j=>cn (((j+1:Nat):Int)*O (rs.getD (j+1) z0))),AN 1048576 r:=M6 fun j hj=>by
   have h2:Bj 2 ((j+1:Nat):Int):=OC (by omega);exact (B9 (h2.mul (Be hg (j+1)).fits)).mono (by omega)
  have ht:=E_ hgo (by rw[N,B6];omega);have e:Y (M ((Ao (rs.length-1)).map (fun j=>cn (((j+1:Nat):Int)*O (rs.getD (j+1) z0)))))=Aq (M rs):=by
   unfold Aq;apply Fi;intro i;rw[Jc,GN,u,C9,s,A8]
  (first|rw[e,N,B6] at ht|(rw[e] at ht;unfold sL at ht;rw[N,B6] at ht));have hpk:pk (Aq (M rs))=pc ((Aq (M rs)).map cn):=rfl;(first|rw[hpk,<- N (f:=cn)] at ht |-|(rw[hpk] at ht |-;unfold sL at ht;rw[<- N (f:=cn)] at ht |-));exact Arq rs _ _ _ _ h ht
 ·intro i hi;have ei:D R (((i+1:Nat):Int)+1)=((i+1+1:Nat):Int):=by rw[Bg (by omega) (by omega)];omega
  obtain⟨g1,g2⟩:=Be hg (i+1);have ho:=TV (n:=((i+1:Nat):Int)) (by omega);have hfi:Bj 2 ((i+1:Nat):Int):=OC (by omega);have hm:=NS (na:=(cn ((i+1:Nat):Int)).1) (nb:=(rs.getD (i+1) z0).1) (xs:=(cn ((i+1:Nat):Int)).2) (ys:=(rs.getD (i+1) z0).2) (Zu _) g1 (by rw[HE];have:=hfi.len;omega);rw[MF] at hm;have k:=Aro rs i (pc ((Ao i).map fun j=>cn (((j+1:Nat):Int)*O (rs.getD (j+1) z0)))) ((i+1:Nat):Int) (by simp;omega) (by omega) (by omega) ho (by rw[F];exact hm);refine k.to rfl ?_;rw[ei,<- Gq (fun j=>((j+1:Nat):Int)*O (rs.getD (j+1) z0)) i,F]
 ·exact Arp rs _ _ _ (by rw[decide_eq_false_iff_not];omega)
theorem Yg{rs:List Rn}(hg:∀ r∈rs,AN 1048576 r)(hN:rs.length<=1048576):H I 153 [sL pc rs] (A6p 2 (Y (BZ (M rs))).length (pk (Y (BZ (M rs))))):=by
 have h:=W.up (prog:=I) (c:=Vc) (ex := .exit 0) (fin:=N_ rs rs.length (pc ((Ao rs.length).map fun j=>cn (-O (rs.getD j z0)))) (rs.length:Nat))
  (fun i=>N_ rs i (pc ((Ao i).map fun j=>cn (-O (rs.getD j z0)))) (i:Nat)) rs.length (by nofun) ?_ ?_ 0 (Bv _)
 ·have hgo:∀ r∈(Ao rs.length).map (fun j=>cn (-O (rs.getD j z0))),AN 1048576 r:=M6 fun j _=>B9 (Be hg j).fits.neg;have ht:=E_ hgo (by rw[N,B6];exact hN);have e:Y (M ((Ao rs.length).map (fun j=>cn (-O (rs.getD j z0)))))=Y (BZ (M rs)):=by
   apply Fi;intro i;rw[Jc,u,GI,<- C9];split
   ·rfl
   ·rw[Bs (by rw[s];omega)];rfl
  (first|rw[e,N,B6] at ht|(rw[e] at ht;unfold sL at ht;rw[N,B6] at ht));have hpk:pk (Y (BZ (M rs)))=pc ((Y (BZ (M rs))).map cn):=rfl;(first|rw[hpk,<- N (f:=cn)] at ht |-|(rw[hpk] at ht |-;unfold sL at ht;rw[<- N (f:=cn)] at ht |-));exact Art rs _ _ _ _ h ht
 ·intro i hi;have ei:D R ((i:Int)+1)=((i+1:Nat):Int):=by rw[Bg (by omega) (by omega)];omega
  obtain⟨g1,g2⟩:=Be hg i;have k:=Arr rs i (pc ((Ao i).map fun j=>cn (-O (rs.getD j z0)))) (i:Nat) (by simp;omega) (by omega) (by omega) (by rw[F];exact Sd g1 g2);refine k.to rfl ?_;rw[ei,<- Gq (fun j => -O (rs.getD j z0)) i,F]
 ·exact Ars rs _ _ _ (by simp)
def G8(qs:List Rn)(k:Nat)(rs:List Rn)(t:Rn)(a:Rn)(b:Rn)(at1:Int)(n:Int)(i:Int):Ak:=(Q 1 (A6o (sL pc qs)::(Q 3 (A6q 2 k (pc rs)::(A6s [A6m t.1,A6n t.2.length (lm t.2)]::(Q 2 (A6s [A6m a.1,A6n a.2.length (lm a.2)]::(Q 1 (A6s [A6m b.1,A6n b.2.length (lm b.2)]::(Q 1 (A6o (A6l R at1)::(Q 49 (A6o (A6l R n)::(A6o (A6l R i)::(Q 34 [])))))))))))))))
theorem Aak(qs:List Rn)(k:Nat)(rs:List Rn)(t:Rn)(a:Rn)(b:Rn)(at1:Int)(n:Int)(i:Int)(c1:B (i<n)=true)(c2:B (i>=at1)=true)(n1:0<=i/\i<(k:Int))(n2:rs.length=k)(n3:(rs.set (A i) (cn ((O (rs.getD (A i) z0))*(O a)))).length=k)(n4:0<=(D R (i-at1))/\(D R (i-at1))<(qs.length:Int))(n5:H I 112 [At (rs.getD (A i) z0),At a] (o ((O (rs.getD (A i) z0))*(O a))))(n6:H I 112 [At b,At (qs.getD (A (D R (i-at1))) z0)] (o ((O b)*(O (qs.getD (A (D R (i-at1))) z0)))))(n7:H I 127 [At ((rs.set (A i) (cn ((O (rs.getD (A i) z0))*(O a)))).getD (A i) z0),o ((O b)*(O (qs.getD (A (D R (i-at1))) z0)))] (o ((O ((rs.set (A i) (cn ((O (rs.getD (A i) z0))*(O a)))).getD (A i) z0))-((O b)*(O (qs.getD (A (D R (i-at1))) z0)))))):W I KL (G8 qs k rs t a b at1 n i) .norm (G8 qs k ((rs.set (A i) (cn ((O (rs.getD (A i) z0))*(O a)))).set (A i) (cn ((O ((rs.set (A i) (cn ((O (rs.getD (A i) z0))*(O a)))).getD (A i) z0))-((O b)*(O (qs.getD (A (D R (i-at1))) z0)))))) t a b at1 n (D R (i+1))):=(C Bh 400 [.b true,.v (At (rs.getD (A i) z0)),.r (o ((O (rs.getD (A i) z0))*(O a))),.l (pc (rs.set (A i) (cn ((O (rs.getD (A i) z0))*(O a))))),.b true,.v (At ((rs.set (A i) (cn ((O (rs.getD (A i) z0))*(O a)))).getD (A i) z0)),.v (At (qs.getD (A (D R (i-at1))) z0)),.r (o ((O b)*(O (qs.getD (A (D R (i-at1))) z0)))),.r (o ((O ((rs.set (A i) (cn ((O (rs.getD (A i) z0))*(O a)))).getD (A i) z0))-((O b)*(O (qs.getD (A (D R (i-at1))) z0))))),.l (pc ((rs.set (A i) (cn ((O (rs.getD (A i) z0))*(O a)))).set (A i) (cn ((O ((rs.set (A i) (cn ((O (rs.getD (A i) z0))*(O a)))).getD (A i) z0))-((O b)*(O (qs.getD (A (D R (i-at1))) z0)))))))] [1,5,6,9,11,13,63,64] (P c1 (P n1 (P (FQ n2 n1) (P n5 (P n1 (P (Ft (r:=cn ((O (rs.getD (A i) z0))*(O a))) n2 n1) (P c2 (P n1 (P (FQ n3 n1) (P n4 (P (x n4) (P n6 (P n7 (P n1 (P (Ft (r:=cn ((O ((rs.set (A i) (cn ((O (rs.getD (A i) z0))*(O a)))).getD (A i) z0))-((O b)*(O (qs.getD (A (D R (i-at1))) z0))))) n3 n1) a0))))))))))))))))
theorem Aal(qs:List Rn)(k:Nat)(rs:List Rn)(t:Rn)(a:Rn)(b:Rn)(at1:Int)(n:Int)(i:Int)(c1:B (i<n)=true)(c2:B (i>=at1)=false)(n1:0<=i/\i<(k:Int))(n2:rs.length=k)(n3:H I 112 [At (rs.getD (A i) z0),At a] (o ((O (rs.getD (A i) z0))*(O a)))):W I KL (G8 qs k rs t a b at1 n i) .norm (G8 qs k (rs.set (A i) (cn ((O (rs.getD (A i) z0))*(O a)))) t a b at1 n (D R (i+1))):=(C Bh 400 [.b true,.v (At (rs.getD (A i) z0)),.r (o ((O (rs.getD (A i) z0))*(O a))),.l (pc (rs.set (A i) (cn ((O (rs.getD (A i) z0))*(O a))))),.b false] [1,5,6,9,11,13,63,64] (P c1 (P n1 (P (FQ n2 n1) (P n3 (P n1 (P (Ft (r:=cn ((O (rs.getD (A i) z0))*(O a))) n2 n1) (P c2 a0))))))))
theorem Aam(qs:List Rn)(k:Nat)(rs:List Rn)(t:Rn)(a:Rn)(b:Rn)(at1:Int)(n:Int)(i:Int)(c1:B (i<n)=false):W I KL (G8 qs k rs t a b at1 n i) (.exit 2) (G8 qs k rs t a b at1 n i):=(C Bh 400 [.b false] [1,5,6,9,11,13,63,64] (P c1 a0))
def J6(qs:List Rn)(k:Nat)(rs:List Rn)(t:Rn):Ak:=(Q 1 (A6o (sL pc qs)::(Q 3 (A6q 2 k (pc rs)::(A6s [A6m t.1,A6n t.2.length (lm t.2)]::(Q 92 []))))))
theorem Ast(qs:List Rn)(k:Nat)(rs:List Rn)(t:Rn)(os us:List Rn)(a b:Rn)(g ab x y ny r1 r2 s at1 n i:Int)(c1:B ((k:Int)>=(qs.length:Int))=true)(c2:B (s<0)=true)(n1:0<=(D R ((k:Int)-1))/\(D R ((k:Int)-1))<(k:Int))(n2:rs.length=k)(n3:H I 159 [At t,At (rs.getD (A (D R ((k:Int)-1))) z0)] (o g))(n4:H I 160 [At t] (o ab))(n5:H I 158 [o ab,o g] (A6t [o x,o r1]))(n6:H I 158 [At (rs.getD (A (D R ((k:Int)-1))) z0),o g] (A6t [o y,o r2]))(n7:H I 101 [At t] (A6l R s))(n8:H I 131 [o y] (o ny))(hl9:W I (.loop KL) (G8 qs k rs t (cn x) (cn ny) (D R ((k:Int)-(qs.length:Int))) (k:Int) 0) (.exit 2) (G8 qs k os t a b at1 n i))(n10:H I 115 [A6n k (pc os)] (A6p 2 us.length (pc us))):W I PC (J6 qs k rs t) .norm (J6 qs us.length us t):=(W.seq (C (t:=(Q 1 (vp qs::(Q 3 (A6q 2 k (pc rs)::(bR t::(Q 18 (.dup 5::(Q 73 []))))))))) Bh 400 [.b true] [1,5,6,25] (P c1 a0)) (Ci (L (L (L (L (L (q (W.seq (C Bh 400 [.v (At (rs.getD (A (D R ((k:Int)-1))) z0)),.r (o g),.r (o ab),.r (A6t [o x,o r1]),.r (A6t [o y,o r2]),.r (A6l R s),.b true,.r (o ny)] [1,5,6,9,11,13,63,64] (P n1 (P (FQ n2 n1) (P n3 (P n4 (P n5 (P n6 (P n7 (P c2 (P n8 a0)))))))))) (W.seq (W.block hl9) (C Bh 400 [.r (A6p 2 us.length (pc us))] [1,5,6] (P n10 a0))))))))))))
theorem Asu(qs:List Rn)(k:Nat)(rs:List Rn)(t:Rn)(os us:List Rn)(a b:Rn)(g ab x y r1 r2 s at1 n i:Int)(c1:B ((k:Int)>=(qs.length:Int))=true)(c2:B (s<0)=false)(n1:0<=(D R ((k:Int)-1))/\(D R ((k:Int)-1))<(k:Int))(n2:rs.length=k)(n3:H I 159 [At t,At (rs.getD (A (D R ((k:Int)-1))) z0)] (o g))(n4:H I 160 [At t] (o ab))(n5:H I 158 [o ab,o g] (A6t [o x,o r1]))(n6:H I 158 [At (rs.getD (A (D R ((k:Int)-1))) z0),o g] (A6t [o y,o r2]))(n7:H I 101 [At t] (A6l R s))(hl8:W I (.loop KL) (G8 qs k rs t (cn x) (cn y) (D R ((k:Int)-(qs.length:Int))) (k:Int) 0) (.exit 2) (G8 qs k os t a b at1 n i))(n9:H I 115 [A6n k (pc os)] (A6p 2 us.length (pc us))):W I PC (J6 qs k rs t) .norm (J6 qs us.length us t):=(W.seq (C (t:=(Q 1 (vp qs::(Q 3 (A6q 2 k (pc rs)::(bR t::(Q 18 (.dup 5::(Q 73 []))))))))) Bh 400 [.b true] [1,5,6,25] (P c1 a0)) (Ci (L (L (L (L (L (q (W.seq (C Bh 400 [.v (At (rs.getD (A (D R ((k:Int)-1))) z0)),.r (o g),.r (o ab),.r (A6t [o x,o r1]),.r (A6t [o y,o r2]),.r (A6l R s),.b false] [1,5,6,9,11,13,63,64] (P n1 (P (FQ n2 n1) (P n3 (P n4 (P n5 (P n6 (P n7 (P c2 a0))))))))) (W.seq (W.block hl8) (C Bh 400 [.r (A6p 2 us.length (pc us))] [1,5,6] (P n9 a0))))))))))))
theorem dQ(qs:List Rn)(k:Nat)(rs:List Rn)(t:Rn)(c1:B ((k:Int)>=(qs.length:Int))=false):W I PC (J6 qs k rs t) (.exit 0) (J6 qs k rs t):=(p (C Bh 400 [.b false] [1,5,6] (P c1 a0)) (by nofun))
theorem Asv(rs ss ps qs us:List Rn)(t:Rn)(k:Nat)(n1:H I 115 [sL pc rs] (A6p 2 ps.length (pc ps)))(n2:H I 115 [sL pc ss] (A6p 2 qs.length (pc qs)))(n3:0<=(D R ((qs.length:Int)-1))/\(D R ((qs.length:Int)-1))<(qs.length:Int))(hl4:W I (.loop PC) (J6 qs ps.length ps (qs.getD (A (D R ((qs.length:Int)-1))) z0)) (.exit 0) (J6 qs k us t)):H I 118 [sL pc rs,sL pc ss] (A6p 2 k (pc us)):=X (fn:=UK) (s:=(Q 4 (A6q 2 k (pc us)::(Q 94 [])))) (ex := .ret) rfl rfl (L (L (W.seq (C Bh 400 [.r (A6p 2 ps.length (pc ps)),.r (A6p 2 qs.length (pc qs)),.v (At (qs.getD (A (D R ((qs.length:Int)-1))) z0))] [1,5,6] (P n1 (P n2 (P n3 (P (x n3) a0))))) (W.seq (W.block hl4) (C Bh 400 [] [4] a0))))) (by nofun) rfl
def J7(as1:List Rn)(bs:List Rn):Ak:=(Q 5 (A6o (sL pc as1)::(A6o (sL pc bs)::(Q 13 []))))
theorem dR(as1:List Rn)(bs:List Rn)(us:List Rn)(c1:B ((bs.length:Int)>0)=true)(n1:H I 118 [sL pc as1,sL pc bs] (A6p 2 us.length (pc us))):W I PF (J7 as1 bs) .norm (J7 bs us):=(C Bh 400 [.b true,.r (A6p 2 us.length (pc us))] [5,6] (P c1 (P n1 a0)))
theorem dU(as1:List Rn)(bs:List Rn)(c1:B ((bs.length:Int)>0)=false):W I PF (J7 as1 bs) (.exit 0) (J7 as1 bs):=(C Bh 400 [.b false] [5,6] (P c1 a0))
theorem nL(rs ss ps qs as1 bs ts:List Rn)(n1:H I 115 [sL pc rs] (A6p 2 ps.length (pc ps)))(n2:H I 115 [sL pc ss] (A6p 2 qs.length (pc qs)))(hl3:W I (.loop PF) (J7 ps qs) (.exit 0) (J7 as1 bs))(n4:H I 155 [sL pc as1] (A6p 2 ts.length (pc ts))):H I 135 [sL pc rs,sL pc ss] (A6p 2 ts.length (pc ts)):=X (fn:=RI) (s:=(Q 4 (A6q 2 ts.length (pc ts)::(Q 15 [])))) (ex := .ret) rfl rfl (L (W.seq (C Bh 400 [.r (A6p 2 ps.length (pc ps)),.r (A6p 2 qs.length (pc qs))] [5,6] (P n1 (P n2 a0))) (W.seq (W.block hl3) (C Bh 400 [.r (A6p 2 ts.length (pc ts))] [4] (P n4 a0))))) (by nofun) rfl
theorem nM(rs ss ps qs as1 bs:List Rn)(n1:H I 115 [sL pc rs] (A6p 2 ps.length (pc ps)))(n2:H I 115 [sL pc ss] (A6p 2 qs.length (pc qs)))(hl3:W I (.loop PF) (J7 ps qs) (.exit 0) (J7 as1 bs))(n4:H I 155 [sL pc as1] (sL pc as1)):H I 135 [sL pc rs,sL pc ss] (sL pc as1):=X (fn:=RI) (s:=(Q 4 (A6o (sL pc as1)::(Q 15 [])))) (ex := .ret) rfl rfl (L (W.seq (C Bh 400 [.r (A6p 2 ps.length (pc ps)),.r (A6p 2 qs.length (pc qs))] [5,6] (P n1 (P n2 a0))) (W.seq (W.block hl3) (C Bh 400 [.r (sL pc as1)] [4] (P n4 a0))))) (by nofun) rfl
def IR(qs:List Rn)(k:Nat)(rs:List Rn)(t:Rn)(kq:Nat)(os:List Rn)(j:Int)(l:Rn)(n:Int)(i:Int):Ak:=(Q 1 (A6o (sL pc qs)::(Q 3 (A6q 2 k (pc rs)::(A6s [A6m t.1,A6n t.2.length (lm t.2)]::(A6q 2 kq (pc os)::(A6o (A6l R j)::(A6s [A6m l.1,A6n l.2.length (lm l.2)]::(Q 34 (A6o (A6l R n)::(A6o (A6l R i)::(Q 57 []))))))))))))
theorem Aan(qs:List Rn)(k:Nat)(rs:List Rn)(t:Rn)(kq:Nat)(os:List Rn)(j:Int)(l:Rn)(n:Int)(i:Int)(c1:B (i<n)=true)(n1:0<=i/\i<(k:Int))(n2:rs.length=k)(n3:H I 112 [At (rs.getD (A i) z0),At t] (o ((O (rs.getD (A i) z0))*(O t)))):W I O5 (IR qs k rs t kq os j l n i) .norm (IR qs k (rs.set (A i) (cn ((O (rs.getD (A i) z0))*(O t)))) t kq os j l n (D R (i+1))):=(C Bh 400 [.b true,.v (At (rs.getD (A i) z0)),.r (o ((O (rs.getD (A i) z0))*(O t))),.l (pc (rs.set (A i) (cn ((O (rs.getD (A i) z0))*(O t)))))] [1,5,6,7,8,9,44,45] (P c1 (P n1 (P (FQ n2 n1) (P n3 (P n1 (P (Ft (r:=cn ((O (rs.getD (A i) z0))*(O t))) n2 n1) a0)))))))
theorem Aao(qs:List Rn)(k:Nat)(rs:List Rn)(t:Rn)(kq:Nat)(os:List Rn)(j:Int)(l:Rn)(n:Int)(i:Int)(c1:B (i<n)=false):W I O5 (IR qs k rs t kq os j l n i) (.exit 2) (IR qs k rs t kq os j l n i):=(C Bh 400 [.b false] [1,5,6,7,8,9,44,45] (P c1 a0))
def IS(qs:List Rn)(k:Nat)(rs:List Rn)(t:Rn)(kq:Nat)(os:List Rn)(j:Int)(l:Rn)(n:Int)(i:Int):Ak:=(Q 1 (A6o (sL pc qs)::(Q 3 (A6q 2 k (pc rs)::(A6s [A6m t.1,A6n t.2.length (lm t.2)]::(A6q 2 kq (pc os)::(A6o (A6l R j)::(A6s [A6m l.1,A6n l.2.length (lm l.2)]::(Q 49 (A6o (A6l R n)::(A6o (A6l R i)::(Q 42 []))))))))))))
theorem Aap(qs:List Rn)(k:Nat)(rs:List Rn)(t:Rn)(kq:Nat)(os:List Rn)(j:Int)(l:Rn)(n:Int)(i:Int)(c1:B (i<n)=true)(n1:0<=i/\i<(kq:Int))(n2:os.length=kq)(n3:H I 112 [At (os.getD (A i) z0),At t] (o ((O (os.getD (A i) z0))*(O t)))):W I O6 (IS qs k rs t kq os j l n i) .norm (IS qs k rs t kq (os.set (A i) (cn ((O (os.getD (A i) z0))*(O t)))) j l n (D R (i+1))):=(C Bh 400 [.b true,.v (At (os.getD (A i) z0)),.r (o ((O (os.getD (A i) z0))*(O t))),.l (pc (os.set (A i) (cn ((O (os.getD (A i) z0))*(O t)))))] [1,5,6,7,8,9,59,60] (P c1 (P n1 (P (FQ n2 n1) (P n3 (P n1 (P (Ft (r:=cn ((O (os.getD (A i) z0))*(O t))) n2 n1) a0)))))))
theorem Aaq(qs:List Rn)(k:Nat)(rs:List Rn)(t:Rn)(kq:Nat)(os:List Rn)(j:Int)(l:Rn)(n:Int)(i:Int)(c1:B (i<n)=false):W I O6 (IS qs k rs t kq os j l n i) (.exit 4) (IS qs k rs t kq os j l n i):=(C Bh 400 [.b false] [1,5,6,7,8,9,59,60] (P c1 a0))
def IT(qs:List Rn)(k:Nat)(rs:List Rn)(t:Rn)(kq:Nat)(os:List Rn)(j:Int)(l:Rn)(n:Int)(i:Int):Ak:=(Q 1 (A6o (sL pc qs)::(Q 3 (A6q 2 k (pc rs)::(A6s [A6m t.1,A6n t.2.length (lm t.2)]::(A6q 2 kq (pc os)::(A6o (A6l R j)::(A6s [A6m l.1,A6n l.2.length (lm l.2)]::(Q 68 (A6o (A6l R n)::(A6o (A6l R i)::(Q 23 []))))))))))))
theorem Aar(qs:List Rn)(k:Nat)(rs:List Rn)(t:Rn)(kq:Nat)(os:List Rn)(j:Int)(l:Rn)(n:Int)(i:Int)(c1:B (i<n)=true)(n1:0<=(D R (j+i))/\(D R (j+i))<(k:Int))(n2:rs.length=k)(n3:0<=i/\i<(qs.length:Int))(n4:H I 112 [At l,At (qs.getD (A i) z0)] (o ((O l)*(O (qs.getD (A i) z0)))))(n5:H I 127 [At (rs.getD (A (D R (j+i))) z0),o ((O l)*(O (qs.getD (A i) z0)))] (o ((O (rs.getD (A (D R (j+i))) z0))-((O l)*(O (qs.getD (A i) z0)))))):W I O7 (IT qs k rs t kq os j l n i) .norm (IT qs k (rs.set (A (D R (j+i))) (cn ((O (rs.getD (A (D R (j+i))) z0))-((O l)*(O (qs.getD (A i) z0)))))) t kq os j l n (D R (i+1))):=(C Bh 400 [.b true,.v (At (rs.getD (A (D R (j+i))) z0)),.v (At (qs.getD (A i) z0)),.r (o ((O l)*(O (qs.getD (A i) z0)))),.r (o ((O (rs.getD (A (D R (j+i))) z0))-((O l)*(O (qs.getD (A i) z0))))),.l (pc (rs.set (A (D R (j+i))) (cn ((O (rs.getD (A (D R (j+i))) z0))-((O l)*(O (qs.getD (A i) z0)))))))] [1,5,6,7,8,9,78,79] (P c1 (P n1 (P (FQ n2 n1) (P n3 (P (x n3) (P n4 (P n5 (P n1 (P (Ft (r:=cn ((O (rs.getD (A (D R (j+i))) z0))-((O l)*(O (qs.getD (A i) z0))))) n2 n1) a0))))))))))
theorem Aas(qs:List Rn)(k:Nat)(rs:List Rn)(t:Rn)(kq:Nat)(os:List Rn)(j:Int)(l:Rn)(n:Int)(i:Int)(c1:B (i<n)=false):W I O7 (IT qs k rs t kq os j l n i) (.exit 6) (IT qs k rs t kq os j l n i):=(C Bh 400 [.b false] [1,5,6,7,8,9,78,79] (P c1 a0))
def Qc(qs:List Rn)(k:Nat)(rs:List Rn)(t:Rn)(kq:Nat)(os:List Rn)(j:Int):Ak:=(Q 1 (A6o (sL pc qs)::(Q 3 (A6q 2 k (pc rs)::(A6s [A6m t.1,A6n t.2.length (lm t.2)]::(A6q 2 kq (pc os)::(A6o (A6l R j)::(Q 94 []))))))))
theorem Asw(qs:List Rn)(k:Nat)(rs:List Rn)(t:Rn)(kq:Nat)(os:List Rn)(j:Int)(rs1 rs2 os1:List Rn)(m1 i1 m2 i2 m3 i3:Int)(c1:B (j>=0)=true)(n1:0<=(D R ((D R (j+(qs.length:Int)))-1))/\(D R ((D R (j+(qs.length:Int)))-1))<(k:Int))(n2:rs.length=k)(hl3:W I (.loop O5) (IR qs k rs t kq os j (rs.getD (A (D R ((D R (j+(qs.length:Int)))-1))) z0) (k:Int) 0) (.exit 2) (IR qs k rs1 t kq os j (rs.getD (A (D R ((D R (j+(qs.length:Int)))-1))) z0) m1 i1))(hl4:W I (.loop O6) (IS qs k rs1 t kq os j (rs.getD (A (D R ((D R (j+(qs.length:Int)))-1))) z0) (kq:Int) 0) (.exit 4) (IS qs k rs1 t kq os1 j (rs.getD (A (D R ((D R (j+(qs.length:Int)))-1))) z0) m2 i2))(n5:0<=j/\j<(kq:Int))(n6:os1.length=kq)(hl7:W I (.loop O7) (IT qs k rs1 t kq (os1.set (A j) (rs.getD (A (D R ((D R (j+(qs.length:Int)))-1))) z0)) j (rs.getD (A (D R ((D R (j+(qs.length:Int)))-1))) z0) (qs.length:Int) 0) (.exit 6) (IT qs k rs2 t kq (os1.set (A j) (rs.getD (A (D R ((D R (j+(qs.length:Int)))-1))) z0)) j (rs.getD (A (D R ((D R (j+(qs.length:Int)))-1))) z0) m3 i3)):W I Vf (Qc qs k rs t kq os j) .norm (Qc qs k rs2 t kq (os1.set (A j) (rs.getD (A (D R ((D R (j+(qs.length:Int)))-1))) z0)) (D R (j-1))):=(W.seq (C (t:=(Q 1 (vp qs::(Q 3 (A6q 2 k (pc rs)::(bR t::(A6q 2 kq (pc os)::(vi j::(Q 94 []))))))))) Bh 400 [.b true] [1,5,6,7,8] (P c1 a0)) (W.seq (Ci (q (W.seq (C Bh 400 [.v (At (rs.getD (A (D R ((D R (j+(qs.length:Int)))-1))) z0))] [1,5,6,7,8,9,44,45] (P n1 (P (FQ n2 n1) a0))) (W.seq (W.block hl3) (W.seq (W.seq (C Bh 400 [] [1,5,6,7,8,9,59,60] a0) (W.block hl4)) (L (W.seq (C Bh 400 [.l (pc (os1.set (A j) (rs.getD (A (D R ((D R (j+(qs.length:Int)))-1))) z0)))] [1,5,6,7,8,9,78,79] (P n5 (P (Ft (r:=rs.getD (A (D R ((D R (j+(qs.length:Int)))-1))) z0) n6 n5) a0))) (W.block hl7)))))))) (C Bh 400 [] [1,5,6,7,8] a0)))
theorem Asx(qs:List Rn)(k:Nat)(rs:List Rn)(t:Rn)(kq:Nat)(os:List Rn)(j:Int)(c1:B (j>=0)=false):W I Vf (Qc qs k rs t kq os j) (.exit 0) (Qc qs k rs t kq os j):=(p (C Bh 400 [.b false] [1,5,6,7,8] (P c1 a0)) (by nofun))
theorem Asy(rs qs ps us xs os:List Rn)(t:Rn)(k kq:Nat)(j:Int)(n1:H I 66 [sL pc rs] (A6p 2 ps.length (pc ps)))(n2:0<=(D R ((qs.length:Int)-1))/\(D R ((qs.length:Int)-1))<(qs.length:Int))(n3:0<=(D R ((D R ((ps.length:Int)-(qs.length:Int)))+1))/\(D R ((D R ((ps.length:Int)-(qs.length:Int)))+1))<=1048576)(hl4:W I (.loop Vf) ((Q 1 (A6o (sL pc qs)::(Q 3 (A6q 2 ps.length (pc ps)::(A6s [A6m ((qs.getD (A (D R ((qs.length:Int)-1))) z0).1),A6n ((qs.getD (A (D R ((qs.length:Int)-1))) z0).2.length) (lm (qs.getD (A (D R ((qs.length:Int)-1))) z0).2)]::(A6q 2 (A (D R ((D R ((ps.length:Int)-(qs.length:Int)))+1))) (Cp [A6m false,A6n 0 []] (A (D R ((D R ((ps.length:Int)-(qs.length:Int)))+1))))::(A6o (A6l R (D R ((((A (D R ((D R ((ps.length:Int)-(qs.length:Int)))+1))):Nat):Int)-1)))::(Q 94 []))))))))) (.exit 0) (Qc qs k xs t kq os j))(n5:H I 115 [A6n kq (pc os)] (A6p 2 us.length (pc us))):H I 156 [sL pc rs,sL pc qs] (A6p 2 us.length (pc us)):=X (fn:=Vg) (s:=(Q 4 (A6q 2 us.length (pc us)::(Q 98 [])))) (ex := .ret) rfl rfl (L (L (L (q (W.seq (C Bh 400 [.r (A6p 2 ps.length (pc ps)),.v (At (qs.getD (A (D R ((qs.length:Int)-1))) z0))] [1,5,6,7,8] (P n1 (P n2 (P (x n2) (P n3 a0))))) (W.seq (W.block hl4) (C Bh 400 [.r (A6p 2 us.length (pc us))] [4] (P n5 a0)))))))) (by nofun) rfl
theorem WY(rs ps xs:List Rn)(c1:B ((xs.length:Int)<2)=true)(n1:H I 115 [sL pc rs] (A6p 2 ps.length (pc ps)))(n2:H I 155 [sL pc ps] (A6p 2 xs.length (pc xs))):H I 114 [sL pc rs] (sL pc xs):=i (fn:=Ic) Bh rfl 400 rfl [.r (A6p 2 ps.length (pc ps)),.r (A6p 2 xs.length (pc xs)),.b true] (P n1 (P n2 (P c1 a0)))
theorem WZ(rs ps xs ds gs:List Rn)(c1:B ((xs.length:Int)<2)=false)(c2:B ((gs.length:Int)<2)=true)(n1:H I 115 [sL pc rs] (A6p 2 ps.length (pc ps)))(n2:H I 155 [sL pc ps] (A6p 2 xs.length (pc xs)))(n3:H I 116 [sL pc xs] (A6p 2 ds.length (pc ds)))(n4:H I 135 [sL pc xs,sL pc ds] (A6p 2 gs.length (pc gs))):H I 114 [sL pc rs] (sL pc xs):=i (fn:=Ic) Bh rfl 400 rfl [.r (A6p 2 ps.length (pc ps)),.r (A6p 2 xs.length (pc xs)),.b false,.r (A6p 2 ds.length (pc ds)),.r (A6p 2 gs.length (pc gs)),.b true] (P n1 (P n2 (P c1 (P n3 (P n4 (P c2 a0))))))
theorem W_(rs ps xs ds gs us:List Rn)(c1:B ((xs.length:Int)<2)=false)(c2:B ((gs.length:Int)<2)=false)(n1:H I 115 [sL pc rs] (A6p 2 ps.length (pc ps)))(n2:H I 155 [sL pc ps] (A6p 2 xs.length (pc xs)))(n3:H I 116 [sL pc xs] (A6p 2 ds.length (pc ds)))(n4:H I 135 [sL pc xs,sL pc ds] (A6p 2 gs.length (pc gs)))(n5:H I 156 [sL pc xs,sL pc gs] (A6p 2 us.length (pc us))):H I 114 [sL pc rs] (A6p 2 us.length (pc us)):=i (fn:=Ic) Bh rfl 400 rfl [.r (A6p 2 ps.length (pc ps)),.r (A6p 2 xs.length (pc xs)),.b false,.r (A6p 2 ds.length (pc ds)),.r (A6p 2 gs.length (pc gs)),.b false,.r (A6p 2 us.length (pc us))] (P n1 (P n2 (P c1 (P n3 (P n4 (P c2 (P n5 a0)))))))
theorem Xa(rs ps xs ds gs:List Rn)(c1:B ((xs.length:Int)<2)=false)(c2:B ((gs.length:Int)<2)=true)(n1:H I 115 [sL pc rs] (A6p 2 ps.length (pc ps)))(n2:H I 155 [sL pc ps] (A6p 2 xs.length (pc xs)))(n3:H I 116 [sL pc xs] (A6p 2 ds.length (pc ds)))(n4:H I 135 [sL pc xs,sL pc ds] (sL pc gs)):H I 114 [sL pc rs] (sL pc xs):=i (fn:=Ic) Bh rfl 400 rfl [.r (A6p 2 ps.length (pc ps)),.r (A6p 2 xs.length (pc xs)),.b false,.r (A6p 2 ds.length (pc ds)),.r (sL pc gs),.b true] (P n1 (P n2 (P c1 (P n3 (P n4 (P c2 a0))))))
theorem Xb(rs ps xs ds gs us:List Rn)(c1:B ((xs.length:Int)<2)=false)(c2:B ((gs.length:Int)<2)=false)(n1:H I 115 [sL pc rs] (A6p 2 ps.length (pc ps)))(n2:H I 155 [sL pc ps] (A6p 2 xs.length (pc xs)))(n3:H I 116 [sL pc xs] (A6p 2 ds.length (pc ds)))(n4:H I 135 [sL pc xs,sL pc ds] (sL pc gs))(n5:H I 156 [sL pc xs,sL pc gs] (A6p 2 us.length (pc us))):H I 114 [sL pc rs] (A6p 2 us.length (pc us)):=i (fn:=Ic) Bh rfl 400 rfl [.r (A6p 2 ps.length (pc ps)),.r (A6p 2 xs.length (pc xs)),.b false,.r (A6p 2 ds.length (pc ds)),.r (sL pc gs),.b false,.r (A6p 2 us.length (pc us))] (P n1 (P n2 (P c1 (P n3 (P n4 (P c2 (P n5 a0)))))))
theorem Xc(rs ps ds gs:List Rn)(c1:B ((ps.length:Int)<2)=false)(c2:B ((gs.length:Int)<2)=true)(n1:H I 115 [sL pc rs] (A6p 2 ps.length (pc ps)))(n2:H I 155 [sL pc ps] (sL pc ps))(n3:H I 116 [sL pc ps] (A6p 2 ds.length (pc ds)))(n4:H I 135 [sL pc ps,sL pc ds] (A6p 2 gs.length (pc gs))):H I 114 [sL pc rs] (sL pc ps):=i (fn:=Ic) Bh rfl 400 rfl [.r (A6p 2 ps.length (pc ps)),.r (sL pc ps),.b false,.r (A6p 2 ds.length (pc ds)),.r (A6p 2 gs.length (pc gs)),.b true] (P n1 (P n2 (P c1 (P n3 (P n4 (P c2 a0))))))
theorem Xd(rs ps ds gs us:List Rn)(c1:B ((ps.length:Int)<2)=false)(c2:B ((gs.length:Int)<2)=false)(n1:H I 115 [sL pc rs] (A6p 2 ps.length (pc ps)))(n2:H I 155 [sL pc ps] (sL pc ps))(n3:H I 116 [sL pc ps] (A6p 2 ds.length (pc ds)))(n4:H I 135 [sL pc ps,sL pc ds] (A6p 2 gs.length (pc gs)))(n5:H I 156 [sL pc ps,sL pc gs] (A6p 2 us.length (pc us))):H I 114 [sL pc rs] (A6p 2 us.length (pc us)):=i (fn:=Ic) Bh rfl 400 rfl [.r (A6p 2 ps.length (pc ps)),.r (sL pc ps),.b false,.r (A6p 2 ds.length (pc ds)),.r (A6p 2 gs.length (pc gs)),.b false,.r (A6p 2 us.length (pc us))] (P n1 (P n2 (P c1 (P n3 (P n4 (P c2 (P n5 a0)))))))
theorem Xe(rs ps:List Rn)(c1:B ((ps.length:Int)<2)=true)(n1:H I 115 [sL pc rs] (A6p 2 ps.length (pc ps)))(n2:H I 155 [sL pc ps] (sL pc ps)):H I 114 [sL pc rs] (sL pc ps):=i (fn:=Ic) Bh rfl 400 rfl [.r (A6p 2 ps.length (pc ps)),.r (sL pc ps),.b true] (P n1 (P n2 (P c1 a0)))
theorem Xf(rs ps ds gs:List Rn)(c1:B ((ps.length:Int)<2)=false)(c2:B ((gs.length:Int)<2)=true)(n1:H I 115 [sL pc rs] (A6p 2 ps.length (pc ps)))(n2:H I 155 [sL pc ps] (sL pc ps))(n3:H I 116 [sL pc ps] (A6p 2 ds.length (pc ds)))(n4:H I 135 [sL pc ps,sL pc ds] (sL pc gs)):H I 114 [sL pc rs] (sL pc ps):=i (fn:=Ic) Bh rfl 400 rfl [.r (A6p 2 ps.length (pc ps)),.r (sL pc ps),.b false,.r (A6p 2 ds.length (pc ds)),.r (sL pc gs),.b true] (P n1 (P n2 (P c1 (P n3 (P n4 (P c2 a0))))))
theorem Xg(rs ps ds gs us:List Rn)(c1:B ((ps.length:Int)<2)=false)(c2:B ((gs.length:Int)<2)=false)(n1:H I 115 [sL pc rs] (A6p 2 ps.length (pc ps)))(n2:H I 155 [sL pc ps] (sL pc ps))(n3:H I 116 [sL pc ps] (A6p 2 ds.length (pc ds)))(n4:H I 135 [sL pc ps,sL pc ds] (sL pc gs))(n5:H I 156 [sL pc ps,sL pc gs] (A6p 2 us.length (pc us))):H I 114 [sL pc rs] (A6p 2 us.length (pc us)):=i (fn:=Ic) Bh rfl 400 rfl [.r (A6p 2 ps.length (pc ps)),.r (sL pc ps),.b false,.r (A6p 2 ds.length (pc ds)),.r (sL pc gs),.b false,.r (A6p 2 us.length (pc us))] (P n1 (P n2 (P c1 (P n3 (P n4 (P c2 (P n5 a0)))))))
end Go.Proofs.YtajompaehjkgkaaGreat
namespace Go.Ai
open Decidable renaming decide->B
open Int renaming add_zero->B2,dvd_add_right->Aev,dvd_mul_right->R0,dvd_trans->Pu,eq_of_mul_eq_mul_left->Gw,mul_assoc->A9,mul_ediv_cancel'->Iz,mul_eq_zero->FJ,mul_ne_zero->AG,mul_sub->EG,mul_zero->AC,natAbs->E,natAbs_dvd->A0n,natAbs_mul->BM,natCast_mul->CZ,ofNat_dvd_left->Gt,pow_succ->Ax,pow_zero->CD
open List renaming countP_eq_length_filter->Hz,eq_nil_of_length_eq_zero->A1,getD_cons_succ->JO,getD_cons_zero->IG,getD_eq_getElem?_getD->Z,getElem?_map->C7,length->Bk,length_cons->Bq,length_eq_countP_add_countP->qV,length_pos_iff->Aj,length_take->A7,map_congr_left->F_,mem_cons_of_mem->AS,mem_cons_self->AZ,mem_filter->I0,mem_map->DS,mem_of_mem_take->Ct,mem_range->Lo,nodup_cons->K7,nodup_iff_pairwise_ne->WD,range->Ao,take_sublist->A6k
open Nat renaming eq_zero_or_pos->F4,gcd->Il,le_max_right->Asz,le_mul_of_pos_left->Xo,le_mul_of_pos_right->BV,le_of_dvd->QW,le_of_lt->kO,le_of_not_lt->M',le_refl->An,le_trans->Bp,lt_of_le_of_lt->Dk,lt_pow_self->TZ,max->sJ,mul_assoc->EA,mul_le_mul->Bu,mul_le_mul_left->z,mul_one->Iu,mul_zero->ZG,pow_add->C8,pow_le_pow_right->B4,pow_pos->Cx,pow_succ->F7,strongRecOn->TD
theorem nN(c:Nat)(hc:1<c):∃ p,1<p/\p∣c/\∀ d,d∣p->d=1\/d=p:=by
 have h:∀ n,∀ m,m<=n->1<m->m∣c->∃ p,1<p/\p∣c/\∀ d,d∣p->d=1\/d=p:=by
  intro n;induction n with
  | zero=>intro m h1 h2;omega
  | succ n ih =>
   intro m h1 h2 h3;by_cases h:∀ d,d∣m->d=1\/d=m
   ·exact⟨m,h2,h3,h⟩
   ·obtain⟨d,hd⟩:=Classical.not_forall.1 h;obtain⟨hd1,hd2⟩:=Classical.not_imp.1 hd;have h5:=QW (by omega) hd1;have h6:d ≠ 0:=by intro h0;subst h0;have:=Nat.zero_dvd.1 hd1;omega
    exact ih d (by omega) (by omega) (Nat.dvd_trans hd1 h3)
 exact h c c (An _) hc (Nat.dvd_refl _)
theorem nO{p:Nat}(hp:∀ d,d∣p->d=1\/d=p){a b:Int}(h:(p:Int)∣a*b):(p:Int)∣a\/(p:Int)∣b:=by
 rcases hp (Il p a.natAbs) (Nat.gcd_dvd_left _ _) with g | g
 ·right;have h1:p∣a.natAbs*b.natAbs:=by rw[<- BM];exact Gt.1 h
  exact Gt.2 (Nat.Coprime.dvd_of_dvd_mul_left g h1)
 ·left;have:p∣a.natAbs:=by rw[<- g];exact Nat.gcd_dvd_right _ _
  exact Gt.2 this
theorem Sm(g:List Int)(b:Int)(k:List Int)(i:Nat):(Bo g (b::k)).getD i 0=b*g.getD i 0+(Da 1 (Bo g k)).getD i 0:=by
 have h:=CW (p:=Bo g (b::k)) (q:=Dl (Av b g) (Da 1 (Bo g k))) (fun x=>by
  rw[AP,BJ,Ap,Df,AP];simp only[Aa,Ax,CD];grind) i
 rw[h,C',AJ]
theorem Q_{p:Nat}(hp:∀ d,d∣p->d=1\/d=p):∀ (g k:List Int),(∀ i,(p:Int)∣(Bo g k).getD i 0)->(¬ ∀ i,(p:Int)∣g.getD i 0)->∀ i,(p:Int)∣k.getD i 0
 | [],k,_,h=>absurd (fun i=>by simp) h
 | a::g,k,h,hn=>by
  by_cases ha:(p:Int)∣a
  ·refine Q_ hp g k (fun i => ?_) (fun h2=>hn fun i => ?_)
   ·have h1:=h (i+1);rw[ED,Cd,if_pos (by omega)] at h1;exact (Aev (Pu ha (R0 _ _))).1 h1
   ·cases i with
    | zero=>simpa using ha
    | succ i=>simpa using h2 i
  ·clear hn;induction k with
   | nil=>intro i;simp
   | cons b k ih =>
    have h0:=h 0;rw[ED,Cd,if_neg (by omega),B2] at h0;have hb:(p:Int)∣b:=by
     rcases nO hp h0 with g1 | g1
     ·exact absurd g1 ha
     ·simpa using g1
    have h2:=ih (fun i=>by
     have h1:=h (i+1);rw[Sm,Cd,if_pos (by omega)] at h1;exact (Aev (Pu hb (R0 _ _))).1 h1)
    intro i;cases i with
    | zero=>simpa using hb
    | succ i=>simpa using h2 i
theorem   A5k {g : List Int} (hg :   AO g = 1) : ∀ (c : Nat) (k : List Int), 0 < c -> (∀ i, (c : Int) ∣ (  Bo g k).getD i 0) -> ∀ i, (c : Int) ∣ k.getD i 0 := by
  intro c
  induction c using              TD with
  | ind c ih =>
    intro k hc h
    by_cases h1 : c = 1
    · intro i; rw [h1]; exact Int.one_dvd _
    · obtain ⟨p, p1, ⟨d, hd⟩, p3⟩ :=        nN c (by omega)
      have hd0 : 0 < d := by rcases                 F4 d with g | g
                             · rw [g,           ZG] at hd; omega
                             · exact g
      have hdc : d < c := by rw [hd]; exact (Nat.lt_mul_iff_one_lt_left hd0).2 p1
      have hpk :=          Q_ p3 g k (fun i =>            Pu ⟨(d : Int), by rw [hd]; push_cast; rfl⟩ (h i)) (fun h2 => by
        have := (      J_ p g).2 h2
        rw [hg] at this
        have :=            QW (by decide) this
        omega)
      have hk :    Av (p : Int) (k.map fun x => x / (p : Int)) = k := by
        apply       JZ (by simp [   Av])
        intro i
        rw [        AJ]
        have e : (k.map fun x => x / (p : Int)).getD i 0 = k.getD i 0 / (p : Int) := by
          simp only [                         Z,                C7]
          cases k[i]? <;> simp
        rw [e]
        exact                   Iz (hpk i)
      generalize k.map (fun x => x / (p : Int)) = k1 at hk
      subst hk
      have h3 := ih d hdc k1 hd0 (fun i => by
        have h2 := h i
        have e : (  Bo g (   Av (p : Int) k1)).getD i 0 = (p : Int) * (  Bo g k1).getD i 0 := by
          rw [<-         AJ]
          exact         CW (fun x => by rw [        AP,          Ap,          Ap,         AP]; grind) i
        rw [e, hd,              CZ] at h2
        exact Int.dvd_of_mul_dvd_mul_left (by omega) h2)
      intro i
      rw [        AJ, hd,              CZ]
      exact Int.mul_dvd_mul_left _ (h3 i)
def Og:List Int->Int->List Int
 | [],_=>[]
 | _::p,a=>Dl p (Av a (Og p a))
theorem OK:∀ (p:List Int) (a x:Int),Aa p x-Aa p a=(x-a)*Aa (Og p a) x
 | [],a,x=>by simp[Og,Aa]
 | c::p,a,x=>by
  have ih:=OK p a x;simp only[Og,Aa];rw[BJ,Ap];grind
theorem VW:∀ (p:List Int) (a:Int),(Og p a).length<=p.length-1
 | [],a=>by simp[Og]
 | c::p,a=>by
  have ih:=VW p a;have:=XO p (Av a (Og p a));rw[AX] at this;simp only[Og,Bq];omega
theorem Yh(p:List Int)(a:Int)(i:Nat):p.getD i 0=(Aa p a::Og p a).getD i 0-a*(Og p a).getD i 0:=by
 have h:=CW (p:=p) (q:=KT (Aa p a::Og p a) (Av a (Og p a))) (fun x=>by
  rw[EN,Ap];simp only[Aa];have:=OK p a x;grind) i
 rw[h,PS,AJ]
theorem VX:∀ (n:Nat) (p:List Int) (l:List Int),p.length<=n->l.Nodup->(∀ x∈l,Aa p x=0)->n<=l.length->∀ i,p.getD i 0=0:=by
 intro n;induction n with
 | zero =>
  intro p l h _ _ _ i;rw[A1 (by omega:p.length=0)];simp
 | succ n ih =>
  intro p l h1 h2 h3 h4 i;cases l with
  | nil=>simp at h4
  | cons a l =>
   have ha:=h3 a AZ;have hq:=ih (Og p a) l (by have:=VW p a;omega) (K7.1 h2).2 (fun x hx=>by
    have h5:=OK p a x;rw[ha,h3 x (AS _ hx)] at h5;rcases FJ.1 (h5.symm.trans (by omega)) with g | g
    ·have hxa:x=a:=by omega
     subst hxa;exact absurd hx (K7.1 h2).1
    ·exact g) (by simp at h4;omega)
   rw[Yh p a i,ha,hq i];cases i with
   | zero=>simp
   | succ i=>simpa using hq i
theorem Tp{R:Nat}:∀ (n:Nat) (g:List Int) (l:List Int) (M:Nat),g.length<=n+1->l.Nodup->l.length=n+1->(∀ x∈l,x.natAbs<=R/\(Aa g x).natAbs<=M)->(∀ x∈l,∀ y∈l,x ≠ y->1<=(x-y).natAbs)->∀ i,(g.getD i 0).natAbs<=M*(2*R+3)^n:=by
 intro n;induction n with
 | zero =>
  intro g l M h1 h2 h3 h4 _ i;cases l with
  | nil=>simp at h3
  | cons a l =>
   have ha:=h4 a AZ;cases g with
   | nil=>simp
   | cons c g =>
    have:g=[]:=by simpa using h1
    subst this;simp only[Aa,AC,B2] at ha;rw[Nat.pow_zero,Iu];cases i with
    | zero=>simpa using ha.2
    | succ i=>simp
 | succ n ih =>
  intro g l M h1 h2 h3 h4 h6 i;cases l with
  | nil=>simp at h3
  | cons a l =>
   obtain⟨ha1,ha2⟩:=h4 a AZ;have hq:=ih (Og g a) l (2*M) (by have:=VW g a;omega) (K7.1 h2).2 (by simpa using h3) (fun x hx=>by
    obtain⟨hx1,hx2⟩:=h4 x (AS _ hx);refine⟨hx1,?_⟩;have h5:=congrArg E (OK g a x);rw[BM] at h5;have hne:x ≠ a:=by intro e;subst e;exact absurd hx (K7.1 h2).1
    have h7:1<=(x-a).natAbs:=by omega
    have h8:=Xo (Aa (Og g a) x).natAbs h7;have h9:(Aa g x-Aa g a).natAbs<=2*M:=by omega
    omega) (fun x hx y hy=>h6 x (AS _ hx) y (AS _ hy))
   rw[Yh g a i];have hX:1<=(2*R+3)^n:=Cx (by omega);have e1:M*(2*R+3)^(n+1)=R*(2*M*(2*R+3)^n)+2*M*(2*R+3)^n+M*(2*R+3)^n:=by rw[F7];grind
   have e2:M*1<=M*(2*R+3)^n:=z _ hX;have b1:=hq i;have b2:(a*(Og g a).getD i 0).natAbs<=R*(2*M*(2*R+3)^n):=by rw[BM];exact Bu ha1 b1
   have b3:((Aa g a::Og g a).getD i 0).natAbs<=2*M*(2*R+3)^n+M*(2*R+3)^n:=by
    cases i with
    | zero=>simp only[IG];omega
    | succ i=>have:=hq i;simp only[JO];omega
   rw[e1];generalize R*(2*M*(2*R+3)^n)=A at *
   generalize 2*M*(2*R+3)^n=B at *
   generalize M*(2*R+3)^n=C at *
   omega
theorem Sn{R B:Nat}:∀ (t:List Int) (x:Int),(∀ i,(t.getD i 0).natAbs<=B)->x.natAbs<=R->(Aa t x).natAbs<=B*(R+1)^t.length
 | [],x,_,_=>by simp[Aa]
 | c::t,x,h,hx=>by
  have ih:=Sn t x (fun i=>by simpa using h (i+1)) hx;have h0:c.natAbs<=B:=by simpa using h 0
  simp only[Aa,Bq];have h1:(x*Aa t x).natAbs<=R*(B*(R+1)^t.length):=by rw[BM];exact Bu hx ih
  have h2:B*1<=B*(R+1)^t.length:=z _ (Cx (by omega));have e:B*(R+1)^(t.length+1)=R*(B*(R+1)^t.length)+B*(R+1)^t.length:=by rw[F7];grind
  rw[e];generalize R*(B*(R+1)^t.length)=X at *
  omega
theorem Aat{t:List Int}{n:Nat}(ht:Y t ≠ [])(hl:t.length<=n+1):∃ l:List Int,l.Nodup/\l.length=n+1/\∀ x∈l,x.natAbs<=2*n/\Aa t x ≠ 0:=by
 have hnd:((Ao (2*n+1)).map fun i:Nat=>(i:Int)).Nodup:=by
  rw[WD,List.pairwise_map];exact (WD.1 List.nodup_range).imp (fun h=>by omega)
 have hmem:∀ x∈(Ao (2*n+1)).map fun i:Nat=>(i:Int),x.natAbs<=2*n:=by
  intro x hx;obtain⟨i,hi,rfl⟩:=DS.1 hx;have:=Lo.1 hi;omega
 have hlen:((Ao (2*n+1)).map fun i:Nat=>(i:Int)).length=2*n+1:=by simp
 generalize ((Ao (2*n+1)).map fun i:Nat=>(i:Int))=L at *
 have hsum:=qV (fun x=>decide (Aa t x=0)) (l:=L);rw[Hz,Hz] at hsum;have hA:(L.filter fun x=>decide (Aa t x=0)).length<=n:=by
  apply M';intro h;apply ht;rw[CL];exact VX (n+1) t (L.filter fun x=>decide (Aa t x=0)) hl (hnd.filter _) (fun x hx=>by simpa using (I0.1 hx).2) (by omega)
 refine⟨(L.filter fun x=>decide ¬ (B (Aa t x=0))=true).take (n+1),(hnd.filter _).sublist (A6k _ _),?_,?_⟩
 ·rw[A7];omega
 ·intro x hx;obtain⟨h1,h2⟩:=I0.1 (Ct hx);exact⟨hmem x h1,by simpa using h2⟩
theorem VY{t g k:List Int}{K:Nat}(ht:Y t ≠ [])(hl:t.length<=9)(hg:g.length<=9)(hK:Kb K t)(h:∀ x,Aa t x=Aa g x*Aa k x):Kb (K+3) g:=by
 obtain⟨l,l1,l2,l3⟩:=Aat (n:=8) ht hl;have hb:∀ i,(t.getD i 0).natAbs<=4294967296^K:=fun i=>kO (hK i);have h1:=Tp (R:=16) 8 g l (4294967296^K*17^9) hg l1 l2 (fun x hx=>by
  obtain⟨a,b⟩:=l3 x hx;refine⟨a,?_⟩;have h2:=Sn (R:=16) t x hb a;have h3:=congrArg E (h x);rw[BM] at h3;have h4:1<=(Aa k x).natAbs:=by
   rcases F4 (Aa k x).natAbs with g | g
   ·rw[g,ZG] at h3;omega
   ·exact g
  have h5:=BV (Aa g x).natAbs h4;have h6:4294967296^K*17^t.length<=4294967296^K*17^9:=z _ (B4 (by decide) hl);exact Bp (Bp h5 (Nat.le_of_eq h3.symm)) (Bp h2 h6)) (fun x _ y _ hne=>by omega)
 intro i;have h2:=h1 i;unfold Bj;refine Dk h2 ?_;rw[EA,C8];exact Nat.mul_lt_mul_of_pos_left (by decide) (Cx (by decide))
theorem Ld{t g k:List Int}{c:Int}(hc:c ≠ 0)(hg:AO g=1)(h:∀ x,c*Aa t x=Aa g x*Aa k x):∃ k',∀ x,Aa t x=Aa g x*Aa k' x:=by
 have h1:=CW (p:=Bo g k) (q:=Av c t) (fun x=>by rw[AP,Ap];exact (h x).symm);have h2:=A5k hg c.natAbs k (by omega) (fun i=>by rw[h1,AJ];exact Pu (A0n.2 (Int.dvd_refl _)) (R0 _ _));have hk:Av c (k.map fun x=>x / c)=k:=by
  apply JZ (by simp[Av]);intro i;rw[AJ];have e:(k.map fun x=>x / c).getD i 0=k.getD i 0 / c:=by
   simp only[Z,C7];cases k[i]? <;> simp
  rw[e];exact Iz (A0n.1 (h2 i))
 refine⟨k.map fun x=>x / c,fun x => ?_⟩;have h3:=h x;rw[<- hk,Ap] at h3;apply Gw hc;rw[h3];grind
theorem Ra{t g k:List Int}{c:Int}{K:Nat}(hc:c ≠ 0)(hg:AO g=1)(ht:Y t ≠ [])(hl:t.length<=9)(hgl:g.length<=9)(hK:Kb K t)(h:∀ x,c*Aa t x=Aa g x*Aa k x):Kb (K+3) g:=by
 obtain⟨k',hk⟩:=Ld hc hg h;exact VY ht hl hgl hK hk
def Dv(g t:List Int):Prop:=∃ (c:Int) (k:List Int),c ≠ 0/\∀ x,c*Aa t x=Aa g x*Aa k x
theorem Dv.refl(g:List Int):Dv g g:=⟨1,[1],by decide,fun x=>by simp [Aa]⟩
theorem Dv.zero(g:List Int):Dv g []:=⟨1,[],by decide,fun x=>by simp [Aa]⟩
theorem Dv.trans{a b c:List Int}(h1:Dv a b)(h2:Dv b c):Dv a c:=by
 obtain⟨m,k,hm,h⟩:=h1;obtain⟨n,l,hn,g⟩:=h2;refine⟨m*n,Bo k l,AG hm hn,fun x => ?_⟩;have h':=h x;have g':=g x;rw[AP,A9,g'];rw[<- A9,h'];grind
theorem LO{g s t r:List Int}{m:Int}(u v:List Int)(hm:m ≠ 0)(h1:Dv g s)(h2:Dv g t)(h:∀ x,m*Aa r x=Aa u x*Aa s x+Aa v x*Aa t x):Dv g r:=by
 obtain⟨c,k,hc,hk⟩:=h1;obtain⟨d,l,hd,hl⟩:=h2;refine⟨c*d*m,Dl (Av d (Bo u k)) (Av c (Bo v l)),AG (AG hc hd) hm,fun x => ?_⟩;rw[BJ,Ap,Ap,AP,AP];have a:=hk x;have b:=hl x;have e:=h x;rw[A9,e];generalize Aa s x=s at *
 generalize Aa t x=t at *
 generalize Aa g x=g at *
 generalize Aa k x=k at *
 generalize Aa l x=l at *
 generalize Aa u x=u at *
 generalize Aa v x=v at *
 have e1:c*d*(u*s+v*t)=d*u*(c*s)+c*v*(d*t):=by grind
 rw[e1,a,b];grind
theorem Dv.scaled{g s r:List Int}{m n:Int}(hm:m ≠ 0)(h1:Dv g s)(h:∀ x,m*Aa r x=n*Aa s x):Dv g r :=
 LO [n] [] hm h1 h1 fun x=>by rw[h x];simp[Aa]
theorem Dv.left{g f t:List Int}{m n:Int}(_:m ≠ 0)(hn:n ≠ 0)(h1:Dv g t)(h:∀ x,m*Aa f x=n*Aa g x):Dv f t:=by
 obtain⟨c,k,hc,hk⟩:=h1;refine⟨n*c,Av m k,AG hn hc,fun x => ?_⟩;have a:=hk x;have b:=h x;rw[Ap];have e1:n*c*Aa t x=n*(c*Aa t x):=by grind
 rw[e1,a];have e2:n*(Aa g x*Aa k x)=(n*Aa g x)*Aa k x:=by grind
 rw[e2,<- b];grind
theorem Xh{g s:List Int}(t:List Int)(h:Dv g s){r:List Int}(hr:∀ x,Aa r x=Aa s x*Aa t x):Dv g r :=
 LO (m:=1) t [] (by decide) h h fun x=>by rw[hr x];simp[Aa];grind
theorem CU{p:List Int}(h:BN p)(h0:p ≠ []):Y p ≠ []:=by rw [h];exact h0
theorem Ji{p q:List Int}(hp:Y p ≠ [])(hq:Y q ≠ []):(Y (Bo p q)).length=(Y p).length+(Y q).length-1:=by
 have e:Y (Bo p q)=Y (Bo (Y p) (Y q)):=EZ fun x=>by rw[AP,AP,Dy,Dy]
 rw[e];have lp:=GM p;have lq:=GM q;generalize Y p=P at *
 generalize Y q=Q at *
 have h1:=Aj.2 hp;have h2:=Aj.2 hq;obtain⟨t1,t2⟩:=OJ P Q hp hq;have t3:(Bo P Q).getD (P.length+Q.length-2) 0 ≠ 0:=by rw[t1];exact AG (Eo lp hp) (Eo lq hq)
 rw[PT];have a1:¬ (Bo P Q).length<=P.length+Q.length-2:=fun h=>t3 (Bs h);have a2:¬ P.length+Q.length-1<(Bo P Q).length:=fun h=>by
  have hne:Bo P Q ≠ []:=by intro h0;rw[h0] at h;simp at h
  exact Eo (show BN (Bo P Q) from PT P Q) hne (t2 _ (by omega))
 omega
theorem MG{p q:List Int}(hp:Y p ≠ [])(h:∀ x,Aa p x*Aa q x=0):∀ x,Aa q x=0:=by
 intro x;by_cases hq:Y q=[]
 ·exact Dg hq x
 ·have h1:=Ji hp hq;have h2:Y (Bo p q)=Y []:=EZ fun x=>by rw[AP,h x];rfl
  rw[h2] at h1;have:=Aj.2 hp;have:=Aj.2 hq;have h0:(Y []).length=0:=rfl;rw[h0] at h1;omega
theorem Qd{p:List Int}(hp:Y p ≠ [])(q r:List Int)(h:∀ x,Aa p x*Aa q x=Aa p x*Aa r x):∀ x,Aa q x=Aa r x:=by
 intro x;have:=MG (q:=KT q r) hp (fun x=>by rw[EN,EG,h x];omega) x;rw[EN] at this;omega
theorem Dv.length{g t:List Int}(h:Dv g t)(ht:Y t ≠ []):(Y g).length<=(Y t).length/\Y g ≠ []:=by
 obtain⟨c,k,hc,hk⟩:=h;have e:Y (Av c t)=Y (Bo g k):=EZ fun x=>by rw[Ap,AP];exact hk x
 rw[Jg hc] at e;have e2:=congrArg Bk e;rw[AX] at e2;have ht1:=Aj.2 ht;by_cases hg:Y g=[]
 ·have:Y (Bo g k)=Y []:=EZ fun x=>by rw[AP,Dg hg];simp[Aa]
  have h0:(Y []).length=0:=rfl;rw[this,h0] at e2;omega
 ·by_cases hk0:Y k=[]
  ·have:Y (Bo g k)=Y []:=EZ fun x=>by rw[AP,Dg hk0];simp[Aa]
   have h0:(Y []).length=0:=rfl;rw[this,h0] at e2;omega
  ·rw[Ji hg hk0] at e2;have:=Aj.2 hk0;exact⟨by omega,hg⟩
def DY(g s t:List Int):Prop:=Dv g s/\Dv g t/\∃ (c:Int) (u v:List Int),c ≠ 0/\∀ x,c*Aa g x=Aa u x*Aa s x+Aa v x*Aa t x
theorem DY.comm{g s t:List Int}(h:DY g s t):DY g t s:=by
 obtain⟨a,b,c,u,v,hc,h⟩:=h;exact⟨b,a,c,v,u,hc,fun x=>by rw[h x];omega⟩
theorem DY.dv{g s t f:List Int}(h:DY g s t)(h1:Dv f s)(h2:Dv f t):Dv f g:=by
 obtain⟨_,_,c,u,v,hc,h⟩:=h;exact LO u v hc h1 h2 h
theorem VZ(s:List Int):DY s s []:=⟨Dv.refl s,Dv.zero s,1,[1],[],by decide,fun x=>by simp [Aa]⟩
theorem DY.length{f g s t:List Int}(h1:DY f s t)(h2:DY g s t)(hf:Y f ≠ []):(Y f).length=(Y g).length:=by
 have a:=(h1.dv h2.1 h2.2.1).length hf;have b:=(h2.dv h1.1 h1.2.1).length a.2;omega
theorem DY.step{g r d e q:List Int}{a m:Int}(ha:a ≠ 0)(hm:m ≠ 0)(hr:∀ x,a*Aa r x=Aa q x*Aa d x+m*Aa e x)(h:DY g d e):DY g r d:=by
 obtain⟨h1,h2,c,u,v,hc,h⟩:=h;refine⟨LO q [m] ha h1 h2 (fun x=>by rw[hr x];simp[Aa]),h1,c*m,Av a v,KT (Av m u) (Bo v q),AG hc hm,fun x => ?_⟩;have e1:=hr x;have e2:=h x;rw[Ap,EN,Ap,AP];generalize Aa g x=g at *
 generalize Aa d x=d at *
 generalize Aa e x=e at *
 generalize Aa r x=r at *
 generalize Aa q x=q at *
 generalize Aa u x=u at *
 generalize Aa v x=v at *
 have e3:c*m*g=m*(c*g):=by grind
 rw[e3,e2];have e4:a*v*r=v*(a*r):=by grind
 rw[e4,e1];grind
theorem DY.scaled{g s t s' t':List Int}{m n k l:Int}(hm:m ≠ 0)(hn:n ≠ 0)(hk:k ≠ 0)(hl:l ≠ 0)(h1:∀ x,m*Aa s' x=n*Aa s x)(h2:∀ x,k*Aa t' x=l*Aa t x)(h:DY g s t):DY g s' t':=by
 obtain⟨a,b,c,u,v,hc,h⟩:=h;refine⟨a.scaled hm h1,b.scaled hk h2,c*(n*l),Av (m*l) u,Av (k*n) v,AG hc (AG hn hl),fun x => ?_⟩;have e1:=h1 x;have e2:=h2 x;have e3:=h x;rw[Ap,Ap];generalize Aa g x=g at *
 generalize Aa s x=s at *
 generalize Aa t x=t at *
 generalize Aa s' x=s' at *
 generalize Aa t' x=t' at *
 generalize Aa u x=u at *
 generalize Aa v x=v at *
 have e4:c*(n*l)*g=n*l*(c*g):=by grind
 rw[e4,e3];have e5:m*l*u*s'=l*u*(m*s'):=by grind
 have e6:k*n*v*t'=n*v*(k*t'):=by grind
 rw[e5,e6,e1,e2];grind
theorem DY.gscaled{g g' s t:List Int}{m n:Int}(hm:m ≠ 0)(hn:n ≠ 0)(h1:∀ x,m*Aa g' x=n*Aa g x)(h:DY g s t):DY g' s t:=by
 obtain⟨a,b,c,u,v,hc,h⟩:=h;refine⟨a.left hm hn h1,b.left hm hn h1,c*m,Av n u,Av n v,AG hc hm,fun x => ?_⟩;have e1:=h1 x;have e2:=h x;rw[Ap,Ap,A9,e1];have e3:c*(n*Aa g x)=n*(c*Aa g x):=by grind
 rw[e3,e2];grind
theorem DY.mul{d p q:List Int}(c:List Int){d' p' q':List Int}(hd:∀ x,Aa d' x=Aa c x*Aa d x)(hp:∀ x,Aa p' x=Aa c x*Aa p x)(hq:∀ x,Aa q' x=Aa c x*Aa q x)(h:DY d p q):DY d' p' q':=by
 obtain⟨⟨m,k,hm,hk⟩,⟨n,l,hn,hl⟩,e,u,v,he,h⟩:=h;refine⟨⟨m,k,hm,fun x => ?_⟩,⟨n,l,hn,fun x => ?_⟩,e,u,v,he,fun x => ?_⟩
 ·have:=hk x;rw[hd,hp];grind
 ·have:=hl x;rw[hd,hq];grind
 ·have:=h x;rw[hd,hp,hq];grind
theorem HL(p:List Int):∃ m:Int,m ≠ 0/\∀ x,Aa p x=m*Aa (prim p) x:=by
 by_cases h:Y p=[]
 ·refine⟨1,by decide,fun x => ?_⟩;rw[Dg h,Do.2 (CL.1 h)];rfl
 ·have:=HS h;refine⟨(AO p:Int),by omega,fun x => ?_⟩;rw[<- Ap,Jh,Dy]
theorem dV{r d:List Int}(hl:d.length<=r.length)(ht:w d ≠ 0):∃ (a m:Int) (q:List Int),a ≠ 0/\m ≠ 0/\∀ x,a*Aa r x=Aa q x*Aa d x+m*Aa (D8 r d) x:=by
 obtain⟨m,hm,h⟩:=HL (C3 r d ((w d).natAbs:Int) (sg (w d)*w r) r.length);refine⟨((w d).natAbs:Int),m,Da (r.length-d.length) [sg (w d)*w r],by omega,hm,fun x => ?_⟩;have h1:=h x;rw[Qb hl] at h1;have e:Aa (D8 r d) x=Aa (prim (C3 r d ((w d).natAbs:Int) (sg (w d)*w r) r.length)) x:=rfl;rw[e,<- h1,Df];simp only[Aa];grind
theorem dW{d:List Int}(ht:w d ≠ 0):∀ (f:Nat) (r:List Int),∃ (a m:Int) (q:List Int),a ≠ 0/\m ≠ 0/\∀ x,a*Aa r x=Aa q x*Aa d x+m*Aa (DT f r d) x:=by
 intro f;induction f with
 | zero=>intro r;exact⟨1,1,[],by decide,by decide,fun x=>by simp[Aa,DT]⟩
 | succ f ih =>
  intro r;simp only[DT];split
  ·rename_i hl;obtain⟨a,m,q,ha,hm,h⟩:=dV hl ht;obtain⟨b,n,s,hb,hn,g⟩:=ih (D8 r d);refine⟨b*a,m*n,Dl (Av b q) (Av m s),AG hb ha,AG hm hn,fun x => ?_⟩;have h':=h x;have g':=g x;rw[BJ,Ap,Ap,A9,h'];generalize Aa (DT f (D8 r d) d) x=z at *
   generalize Aa (D8 r d) x=y at *
   have e:b*(Aa q x*Aa d x+m*y)=b*(Aa q x*Aa d x)+m*(b*y):=by grind
   rw[e,g'];grind
  ·exact⟨1,1,[],by decide,by decide,fun x=>by simp[Aa]⟩
theorem V_:∀ (f:Nat) (x y:List Int),y.length<=f->y.length<=x.length->BN x->BN y->DY (HK f x y) x y:=by
 intro f;induction f with
 | zero =>
  intro x y h1 _ _ _;have:y=[]:=A1 (by omega);subst this;exact VZ x
 | succ f ih =>
  intro x y h1 h2 lx ly;simp only[HK];split
  ·rename_i h;subst h;exact VZ x
  ·rename_i h;have ht:w y ≠ 0:=Eo ly h;obtain⟨r1,r2,_⟩:=Sl h (K:=sJ 1 (y.map E).sum) (fun i=>by
    have h3:(y.getD i 0).natAbs<=(y.map E).sum:=by
     clear ht h h1 h2 ly ih;induction y generalizing i with
     | nil=>simp
     | cons c y ih => 
      cases i with
      | zero=>simp
      | succ i=>have:=ih i;simp at this |-;omega
    unfold Bj;have h4:(y.map E).sum<=sJ 1 (y.map E).sum:=Asz _ _;exact Dk (Bp h3 h4) (TZ (by decide))) x.length x (sJ 1 (x.map E).sum) (An _) lx (fun i=>by
    have h3:(x.getD i 0).natAbs<=(x.map E).sum:=by
     clear ht h h1 h2 lx ih;induction x generalizing i with
     | nil=>simp
     | cons c y ih => 
      cases i with
      | zero=>simp
      | succ i=>have:=ih i;simp at this |-;omega
    unfold Bj;have h4:(x.map E).sum<=sJ 1 (x.map E).sum:=Asz _ _;exact Dk (Bp h3 h4) (TZ (by decide)))
   obtain⟨a,m,q,ha,hm,e⟩:=dW ht x.length x;exact DY.step ha hm e (ih y (Bz x y) (by unfold Bz;omega) (by unfold Bz;omega) ly r1)
def Nd(x y:List Int):List Int:=if y.length<=x.length then HK y.length x y else HK x.length y x
theorem Aau{x y:List Int}(lx:BN x)(ly:BN y):DY (Nd x y) x y:=by
 unfold Nd;split
 ·exact V_ _ _ _ (An _) (by assumption) lx ly
 ·exact (V_ _ _ _ (An _) (by omega) ly lx).comm
theorem Wa(p:List Int):∃ m:Int,m ≠ 0/\∀ x,Aa (y p) x=m*Aa p x:=by
 unfold y;split
 ·exact⟨-1,by decide,fun x=>by rw[Jd];omega⟩
 ·exact⟨1,by decide,fun x=>by omega⟩
theorem JP(p:List Int):(y p).length=p.length:=by
 unfold y;split
 ·exact DG p
 ·rfl
def BE(s t:List Int):List Int:=y (Nd (prim s) (prim t))
theorem FT(s t:List Int):DY (BE s t) s t:=by
 have h:=Aau (B_ s) (B_ t);obtain⟨m,hm,h1⟩:=HL s;obtain⟨n,hn,h2⟩:=HL t;obtain⟨k,hk,h3⟩:=Wa (Nd (prim s) (prim t));have h4:=h.scaled (s':=s) (t':=t) (m:=1) (n:=m) (k:=1) (l:=n) (by decide) hm (by decide) hn (fun x=>by rw[h1 x];omega) (fun x=>by rw[h2 x];omega);exact h4.gscaled (m:=1) (n:=k) (by decide) hk (fun x=>by unfold BE;rw[h3 x];omega)
theorem HM{p:List Int}(h:BN p):BN (BZ p):=by
 have e:BZ p=Av (-1) p:=by
  unfold BZ Av;apply F_;intro x _;omega
 rw[e];exact dK (by decide) h
theorem MH{p:List Int}(h:BN p):BN (y p):=by
 unfold y;split
 ·exact HM h
 ·exact h
theorem Lf:∀ (f:Nat) (x y:List Int),prim x=x->prim y=y->prim (HK f x y)=HK f x y:=by
 intro f;induction f with
 | zero=>intro x y h _;exact h
 | succ f ih =>
  intro x y hx hy;simp only[HK];split
  ·exact hx
  ·exact ih y _ hy (HT _ _ _ hx)
theorem Qe{x y:List Int}(hx:prim x=x)(hy:prim y=y):prim (Nd x y)=Nd x y:=by
 unfold Nd;split
 ·exact Lf _ _ _ hx hy
 ·exact Lf _ _ _ hy hx
theorem Wb(p:List Int):AO (BZ p)=AO p:=by
 have e:BZ p=Av (-1) p:=by
  unfold BZ Av;apply F_;intro x _;omega
 rw[e,K_];simp
theorem Wc(p:List Int):AO (y p)=AO p:=by
 unfold y;split
 ·exact Wb p
 ·rfl
theorem Ep(s t:List Int):BN (BE s t):=MH (Cl (Qe (BI s) (BI t)))
theorem IU{p:List Int}(h:BN p)(hc:AO p=1):prim p=p:=by rw [Si hc];exact h
theorem H6{s t:List Int}(h:Y s ≠ []):BE s t ≠ []:=by
 have:=((FT s t).1.length h).2;intro h0;rw[h0] at this;exact this rfl
theorem We{s t:List Int}(h:Y s ≠ []):AO (BE s t)=1:=by
 have h1:=H6 (t:=t) h;unfold BE at *
 rw[Wc];have h2:Nd (prim s) (prim t) ≠ []:=by
  intro h0;rw[h0] at h1;exact h1 rfl
 have h3:=Qe (BI s) (BI t);rw[<- h3];exact K0 (by rw[Cl h3];exact h2)
theorem Yi{p:List Int}(h:BN p)(h0:p ≠ []):0<w (y p):=by
 have h1:=Eo h h0;unfold y;split
 ·rename_i hn;unfold w at *
  rw[DG,GI];omega
 ·rename_i hn;unfold w at *;omega
theorem OL{s t:List Int}(h:Y s ≠ []):0<w (BE s t):=by
 have h1:=H6 (t:=t) h;unfold BE at *
 refine Yi (Cl (Qe (BI s) (BI t))) ?_;intro h0;rw[h0] at h1;exact h1 rfl
theorem dX{s t:List Int}{K:Nat}(h:Y s ≠ [])(hl:s.length<=9)(hK:Kb K s):Kb (K+3) (BE s t)/\(BE s t).length<=(Y s).length:=by
 have hg:=(FT s t).1;have h1:=(hg.length h).1;have hle:=Ep s t;rw[hle] at h1;obtain⟨c,k,hc,hk⟩:=hg;have:=Bf s;exact⟨Ra hc (We h) h hl (by omega) hK hk,h1⟩
theorem Ata(y:List Int):∃ K,Kb K y:=⟨(y.map E).sum,fun i=>by
 have h3:(y.getD i 0).natAbs<=(y.map E).sum:=by
  induction y generalizing i with
  | nil=>simp
  | cons c y ih => 
   cases i with
   | zero=>simp
   | succ i=>have:=ih i;simp at this |-;omega
 unfold Bj;exact Dk h3 (TZ (by decide))⟩
theorem dY{x y:List Int}(hx:BN x)(hy0:y ≠ []):BN (Bz x y)/\(Bz x y).length<y.length:=by
 obtain⟨K,hK⟩:=Ata y;obtain⟨J,hJ⟩:=Ata x;obtain⟨a,b,_⟩:=Sl hy0 hK x.length x J (An _) hx hJ;exact⟨a,b⟩
end Go.Ai
namespace Go.Proofs.YtajompaehjkgkaaGreat
open Go.Ai
set_option maxRecDepth 100000
open Go.Ai.AV renaming fresh->A6p,sl->A6n
open Go.IntKind renaming i64->R,wrap->D
open Int renaming gcd->CX,mul_comm->A8,mul_ediv_cancel'->Iz,mul_neg->DZ,natAbs_natCast->BF,ofNat_dvd_left->Gt,toNat_natCast->F
open List renaming append_nil->O_,drop_length->JC,eq_nil_of_length_eq_zero->A1,ext_getElem?->FX,getD_eq_getElem?_getD->Z,getElem?_append_left->AK,getElem?_append_right->AR,getElem?_drop->Bn,getElem?_eq_getElem->Af,getElem?_map->C7,getElem?_set_ne->F9,getElem?_set_self->WA,getElem?_take_of_lt->By,length_append->AY,length_drop->Eh,length_map->N,length_pos_iff->Aj,length_set->AW,length_take->A7,set_set->Rz,take_of_length_le->Ei
open Nat renaming add_mul->DN,le_mul_of_pos_right->BV,le_of_dvd->QW,le_refl->An,le_trans->Bp,mul_comm->CM,mul_le_mul_left->z,mul_le_mul_right->AD,mul_pos->Eu,mul_succ->OZ,one_mul->EV,pow_pos->Cx,sub_add_cancel->La,zero_le->Bv,zero_mul->SK
def Fu(E rs:List Rn)(i:Nat):List Rn:=E.take i++rs.drop i
theorem MI(E rs:List Rn):Fu E rs 0=rs:=by simp [Fu]
theorem MJ{E rs:List Rn}(h:E.length=rs.length):Fu E rs rs.length=E:=by
 unfold Fu;rw[JC,O_,Ei (by omega)]
theorem Hg{E rs:List Rn}(h:E.length=rs.length)(i:Nat):(Fu E rs i).length=rs.length:=by
 unfold Fu;rw[AY,A7,Eh];omega
theorem LP{E rs:List Rn}(h:E.length=rs.length){i:Nat}(hi:i<rs.length):(Fu E rs i).getD i z0=rs.getD i z0:=by
 unfold Fu;rw[Z,Z,AR (by rw[A7];omega),A7,Bn];congr 2;omega
theorem LQ{E rs:List Rn}(h:E.length=rs.length){i:Nat}(hi:i<rs.length):(Fu E rs i).set i (E.getD i z0)=Fu E rs (i+1):=by
 have hpi:E[i]?=some (E.getD i z0):=by rw[Z,Af (by omega)];rfl
 apply FX;intro t;have hl:=Hg h i;unfold Fu at *
 rcases Nat.lt_trichotomy t i with g | g | g
 ·rw[F9 (by omega),AK (by rw[A7];omega),AK (by rw[A7];omega),By g,By (by omega)]
 ·subst g;rw[WA (by omega),AK (by rw[A7];omega),By (by omega),hpi]
 ·rw[F9 (by omega),AR (by rw[A7];omega),AR (by rw[A7];omega),A7,A7,Bn,Bn];congr 1;omega
theorem FU(p:List Int)(i:Nat):O ((p.map cn).getD i z0)=p.getD i 0:=by rw [<- C9,v]
theorem ER{p:List Int}{i:Nat}(h:i<p.length):(p.map cn).getD i z0=cn (p.getD i 0):=by
 rw[Z,C7,Z,Af h];rfl
theorem AI{K:Nat}{p:List Int}(h:Kb K p):∀ r∈p.map cn,AN K r:=LL h.mem
theorem Yj{rs:List Rn}{i:Nat}{r:Rn}(h:i<rs.length):(rs.set i r).getD i z0=r:=by
 simp[Z,h]
theorem LR{x y:Rn}{J K:Nat}(hx:AN J x)(hy:AN K y)(h:J+K<=1048576):H I 112 [At x,At y] (o (O x*O y)):=Sg hx.1 hy.1 (by have:=hx.2;have:=hy.2;omega)
theorem dZ{x y:Rn}{J K:Nat}(hx:AN J x)(hy:AN K y)(h:J<1048576)(h2:K<1048576):H I 127 [At x,At y] (o (O x-O y)):=xS hx.1 hy.1 (by have:=hx.2;omega) (by have:=hy.2;omega)
section
variable {p d:List Int} {J Kd:Nat}
theorem Wf{a b:Int}{t:Rn}(hp:Kb J p)(hd:Kb Kd d)(ha:Bj Kd a)(hb:Bj J b)(hS:J+Kd+1<1048576)(hl:d.length<=p.length)(hN:p.length<=1048576) :
  W I (.loop KL) (G8 (d.map cn) p.length (p.map cn) t (cn a) (cn b) ((p.length-d.length:Nat):Int) (p.length:Nat) 0) (.exit 2)
   (G8 (d.map cn) p.length ((C3 p d a b p.length).map cn) t (cn a) (cn b) ((p.length-d.length:Nat):Int) (p.length:Nat) (p.length:Nat)):=by
 have hE:((C3 p d a b p.length).map cn).length=(p.map cn).length:=by rw[N,N,Eb]
 have hpl:(p.map cn).length=p.length:=N ..;have h:=W.up (prog:=I) (c:=KL) (ex := .exit 2) (fin:=G8 (d.map cn) p.length ((C3 p d a b p.length).map cn) t (cn a) (cn b) ((p.length-d.length:Nat):Int) (p.length:Nat) (p.length:Nat))
  (fun i=>G8 (d.map cn) p.length (Fu ((C3 p d a b p.length).map cn) (p.map cn) i) t (cn a) (cn b) ((p.length-d.length:Nat):Int) (p.length:Nat) (i:Nat)) p.length (by nofun) ?_ ?_ 0 (Bv _)
 ·rw[MI] at h;exact h
 ·intro i hi;have ei:D R ((i:Int)+1)=((i+1:Nat):Int):=by rw[Bg (by omega) (by omega)];omega
  have hml:=Hg hE i;have hget:=LP hE (i:=i) (by omega);have hEi:((C3 p d a b p.length).map cn).getD i z0=cn ((C3 p d a b p.length).getD i 0):=ER (by rw[Eb];exact hi);have hest:=Gp p d a b p.length i;rw[if_pos hi] at hest;have hset:=LQ hE (i:=i) (by omega);rw[hEi] at hset;have gp:=Be (AI hp) i;have ga:=B9 ha;have gb:=B9 hb;have vi:=FU p i;generalize Fu ((C3 p d a b p.length).map cn) (p.map cn) i=M at *
  by_cases hat:p.length-d.length<=i
  ·rw[if_pos hat] at hest;have ea:D R ((i:Int)-((p.length-d.length:Nat):Int))=((i-(p.length-d.length):Nat):Int):=by rw[Bg (by omega) (by omega)];omega
   have gq:=Be (AI hd) (i-(p.length-d.length));have vq:=FU d (i-(p.length-d.length));have m1:=LR gp ga (by omega);have m2:=LR gb gq (by omega);have f1:Bj (J+Kd) (O ((p.map cn).getD i z0)*O (cn a)):=gp.fits.mul (by rw[u];exact ha);have f2:Bj (J+Kd) (O (cn b)*O ((d.map cn).getD (i-(p.length-d.length)) z0)):=Bj.mul (by rw[u];exact hb) gq.fits;have m3:=dZ (B9 f1) (B9 f2) (by omega) (by omega);rw[u (O (cn b)*O ((d.map cn).getD (i-(p.length-d.length)) z0))] at m3;have k:=Aak (d.map cn) p.length M t (cn a) (cn b) ((p.length-d.length:Nat):Int) (p.length:Nat) (i:Nat) (by simp;omega) (by rw[decide_eq_true_eq];omega) (by omega) (by omega) (by rw[AW];omega) (by rw[ea,N];omega)
    (by rw[F,hget];exact m1) (by rw[ea,F];exact m2) (by
     simp only[ea,F,hget];rw[Yj (by omega)];exact m3)
   refine k.to rfl ?_;simp only[ea,ei,F,hget];rw[Yj (by omega),Rz,u (O ((p.map cn).getD i z0)*O (cn a)),vi,vq,u,u,A8 (p.getD i 0) a,<- hest];rw[hset]
  ·rw[if_neg hat] at hest;have m1:=LR gp ga (by omega);have k:=Aal (d.map cn) p.length M t (cn a) (cn b) ((p.length-d.length:Nat):Int) (p.length:Nat) (i:Nat) (by simp;omega) (by rw[decide_eq_false_iff_not];omega) (by omega) (by omega) (by rw[F,hget];exact m1);refine k.to rfl ?_;simp only[ei,F,hget];rw[vi,u,A8 (p.getD i 0) a,<- hest,hset]
 ·rw[show Fu ((C3 p d a b p.length).map cn) (p.map cn) p.length=(C3 p d a b p.length).map cn by have h:=MJ hE;rw[hpl] at h;exact h];exact Aam (d.map cn) p.length _ t _ _ _ _ _ (by simp)
theorem A0o{a b:Int}(h:a ≠ 0):0<CX a b:=by
 rw[CX];exact Nat.gcd_pos_of_pos_left _ (by omega)
theorem Aav(hp:Kb J p)(hd:Kb Kd d)(hS:J+Kd+1<1048576)(hd0:d ≠ [])(ht:w d ≠ 0)(hl:d.length<=p.length)(hN:p.length<=1048576) :
  W I PC (J6 (d.map cn) p.length (p.map cn) (cn (w d))) .norm (J6 (d.map cn) (D8 p d).length ((D8 p d).map cn) (cn (w d))):=by
 have hdl:=Aj.2 hd0;have e1:D R ((p.length:Int)-1)=((p.length-1:Nat):Int):=by rw[Bg (by omega) (by omega)];omega
 have e2:D R ((p.length:Int)-(((d.map cn).length:Nat):Int))=((p.length-d.length:Nat):Int):=by rw[N,Bg (by omega) (by omega)];omega
 have gt:=B9 (Et hd);have gl:=Be (AI hp) (p.length-1);have vl:O ((p.map cn).getD (p.length-1) z0)=w p:=FU p (p.length-1);have hgp:=A0o (a:=w d) (b:=w p) ht;have hgcd:=Ya (na:=(cn (w d)).1) (nb:=((p.map cn).getD (p.length-1) z0).1) gt.1 gl.1 (by have:=gt.2;omega) (by have:=gl.2;omega);rw[show rv (cn (w d)).1 (cn (w d)).2=w d from u _,show rv ((p.map cn).getD (p.length-1) z0).1 ((p.map cn).getD (p.length-1) z0).2=w p from vl] at hgcd;have hd1:((CX (w d) (w p):Nat):Int)∣w d:=Int.gcd_dvd_left ..;have hd2:((CX (w d) (w p):Nat):Int)∣w p:=Int.gcd_dvd_right ..;have hd3:((CX (w d) (w p):Nat):Int)∣(((w d).natAbs:Nat):Int):=Int.dvd_natAbs.2 hd1;have hgle:Bj Kd ((CX (w d) (w p):Nat):Int):=by
  have:=Et hd;unfold Bj at *
  rw[BF];have:=QW (by omega) (Gt.1 hd1);omega
 have gg:=B9 hgle;have habs:=Sf (neg:=(cn (w d)).1) gt.1 (by have:=gt.2;omega);rw[show rv (cn (w d)).1 (cn (w d)).2=w d from u _] at habs;have gab:=B9 (OI (Et hd));have q1:=OG (na:=(cn (((w d).natAbs:Nat):Int)).1) (nb:=(cn ((CX (w d) (w p):Nat):Int)).1) gab.1 gg.1 (by rw[show rv (cn ((CX (w d) (w p):Nat):Int)).1 (cn ((CX (w d) (w p):Nat):Int)).2=(CX (w d) (w p):Nat) from u _];omega) (by have:=gab.2;omega) (by have:=gg.2;omega);rw[show rv (cn ((CX (w d) (w p):Nat):Int)).1 (cn ((CX (w d) (w p):Nat):Int)).2=(CX (w d) (w p):Nat) from u _,show rv (cn (((w d).natAbs:Nat):Int)).1 (cn (((w d).natAbs:Nat):Int)).2=((w d).natAbs:Nat) from u _] at q1;have q2:=OG (na:=((p.map cn).getD (p.length-1) z0).1) (nb:=(cn ((CX (w d) (w p):Nat):Int)).1) gl.1 gg.1 (by rw[show rv (cn ((CX (w d) (w p):Nat):Int)).1 (cn ((CX (w d) (w p):Nat):Int)).2=(CX (w d) (w p):Nat) from u _];omega) (by have:=gl.2;omega) (by have:=gg.2;omega);rw[show rv (cn ((CX (w d) (w p):Nat):Int)).1 (cn ((CX (w d) (w p):Nat):Int)).2=(CX (w d) (w p):Nat) from u _,show rv ((p.map cn).getD (p.length-1) z0).1 ((p.map cn).getD (p.length-1) z0).2=w p from vl] at q2;have hG:(0:Int)<((CX (w d) (w p):Nat):Int):=by omega
 have x1:=Iz hd3;have x2:=Iz hd2;rw[Lc hG hd3] at q1;rw[Lc hG hd2] at q2;have hsg:=M9 (neg:=(cn (w d)).1) gt.1 (by have:=gt.2;omega);rw[show rv (cn (w d)).1 (cn (w d)).2=w d from u _] at hsg;have fa:Bj Kd ((((w d).natAbs:Nat):Int) / ((CX (w d) (w p):Nat):Int)):=by
  rcases Sj (OI (Et hd)) (CX (w d) (w p)) with g | g
  ·exact g
  ·exact absurd hd3 g
 have fb:Bj J (w p / ((CX (w d) (w p):Nat):Int)):=by
  rcases Sj (Et hp) (CX (w d) (w p)) with g | g
  ·exact g
  ·exact absurd hd2 g
 generalize hGd:((CX (w d) (w p):Nat):Int)=G at *
 generalize hx:(((w d).natAbs:Nat):Int) / G=x at *
 generalize hy:w p / G=y at *
 have pst:∀ b:Int,G*b=sg (w d)*w p->D8 p d=prim (C3 p d x b p.length):=by
  intro b hb;have h:=Tm (r:=p) (d:=d) (c:=1) (g:=G) (a:=x) (b:=b) (by decide) hG x1 hb;rwa [show Av 1 d=d by unfold Av;simp] at h
 have fin:∀ b:Int,G*b=sg (w d)*w p->Bj J b->H I 115 [A6n p.length (pc ((C3 p d x b p.length).map cn))] (A6p 2 ((D8 p d).map cn).length (pc ((D8 p d).map cn))):=by
  intro b hb fb';have hK:=QX hp hd fa fb' p.length;have h:=Eg (rs:=(C3 p d x b p.length).map cn) (AI hK) (by omega) (by rw[N,Eb];exact hN);(first|rw[v,<- pst b hb,N,Eb] at h|(rw[v,<- pst b hb] at h;unfold sL at h;rw[N,Eb] at h));rw[N];exact h
 by_cases hneg:w d<0
 ·have hng:=XR (neg:=(cn y).1) (xs:=(cn y).2) (BK _) (by have:=fb.len;rw[HE];omega);rw[show rv (cn y).1 (cn y).2=y from u _] at hng;have hb:G * -y=sg (w d)*w p:=by unfold sg;rw[if_pos hneg,DZ,x2];omega
  have hin:=Wf (t:=cn (w d)) hp hd fa fb.neg hS hl hN;have k:=Ast (d.map cn) p.length (p.map cn) (cn (w d)) _ _ _ _ G _ x y (-y) _ _ (BL (w d)) _ _ _ (by rw[decide_eq_true_eq,N];omega) (by unfold BL;rw[if_pos hneg];rfl) (by rw[e1];omega) (by rw[N]) (by rw[e1,F];exact hgcd) habs q1 (by rw[e1,F];exact q2) hsg hng (by rw[e2];exact hin) (fin (-y) hb fb.neg);(first|rw[N] at k|(unfold sL at k;rw[N] at k));exact k
 ·have hb:G*y=sg (w d)*w p:=by unfold sg;rw[if_neg hneg,x2];omega
  have hin:=Wf (t:=cn (w d)) hp hd fa fb hS hl hN;have k:=Asu (d.map cn) p.length (p.map cn) (cn (w d)) _ _ _ _ G _ x y _ _ (BL (w d)) _ _ _ (by rw[decide_eq_true_eq,N];omega) (by unfold BL;rw[if_neg hneg];split <;> rfl) (by rw[e1];omega) (by rw[N]) (by rw[e1,F];exact hgcd) habs q1 (by rw[e1,F];exact q2) hsg (by rw[e2];exact hin) (fin y hb fb);(first|rw[N] at k|(unfold sL at k;rw[N] at k));exact k
end
theorem Aaw{d:List Int}{Kd:Nat}(hd:Kb Kd d)(hd0:d ≠ [])(ht:w d ≠ 0):∀ (f:Nat) (p:List Int) (J:Nat),p.length<=f->Kb J p->J+(p.length+1-d.length)*(Kd+1)<1048576->p.length<=1048576 ->
  W I (.loop PC) (J6 (d.map cn) p.length (p.map cn) (cn (w d))) (.exit 0) (J6 (d.map cn) (DT f p d).length ((DT f p d).map cn) (cn (w d))):=by
 have hdl:=Aj.2 hd0;intro f;induction f with
 | zero =>
  intro p J hf _ _ _;exact Am (dQ (d.map cn) p.length (p.map cn) (cn (w d)) (by rw[decide_eq_false_iff_not,N];omega)) (by nofun)
 | succ f ih =>
  intro p J hf hJ hS hN;simp only[DT];split
  ·rename_i hl;have hplen:=IQ hd0 hl;have e:((D8 p d).length+1-d.length)+1<=p.length+1-d.length:=by omega
   have:=AD (Kd+1) e;rw[DN,EV] at this;have h1:=Aav hJ hd (by
    have h2:1*(Kd+1)<=(p.length+1-d.length)*(Kd+1):=AD _ (by omega);omega) hd0 ht hl hN
   exact W.loop h1 (ih (D8 p d) (J+Kd+1) (by omega) (Sk hJ hd) (by omega) (by omega))
  ·rename_i hl;exact Am (dQ (d.map cn) p.length (p.map cn) (cn (w d)) (by rw[decide_eq_false_iff_not,N];omega)) (by nofun)
theorem J8{rs ss:List Rn}{J K:Nat}(hr:∀ r∈rs,AN J r)(hs:∀ r∈ss,AN K r)(hJ:J<1048576)(hK:K<1048576)(hn:rs.length<=1048576)(hm:ss.length<=1048576)(h0:prim (M ss) ≠ [])(hS:J+((prim (M rs)).length+1-(prim (M ss)).length)*(K+1)<1048576) :
  H I 118 [sL pc rs,sL pc ss] (A6p 2 (Bz (prim (M rs)) (prim (M ss))).length (pk (Bz (prim (M rs)) (prim (M ss))))):=by
 have p1:=Eg hr hJ hn;have p2:=Eg hs hK hm;have k1:Kb J (prim (M rs)):=(HJ (Cs hr)).prim;have k2:Kb K (prim (M ss)):=(HJ (Cs hs)).prim;have l1:(prim (M rs)).length<=rs.length:=by rw[BB];have:=Bf (M rs);rwa [s] at this
 have l2:(prim (M ss)).length<=ss.length:=by rw[BB];have:=Bf (M ss);rwa [s] at this
 have hl:=Aj.2 h0;have ht:w (prim (M ss)) ≠ 0:=Eo (B_ _) h0;have hlp:=Aaw k2 h0 ht (prim (M rs)).length (prim (M rs)) J (An _) k1 hS (by omega);have e1:D R (((((prim (M ss)).map cn).length:Nat):Int)-1)=(((prim (M ss)).length-1:Nat):Int):=by rw[N,Bg (by omega) (by omega)];omega
 have p1':H I 115 [sL pc rs] (A6p 2 ((prim (M rs)).map cn).length (pc ((prim (M rs)).map cn))):=by rw[N];exact p1
 have p2':H I 115 [sL pc ss] (A6p 2 ((prim (M ss)).map cn).length (pc ((prim (M ss)).map cn))):=by rw[N];exact p2
 have k:=Asv rs ss _ _ ((Bz (prim (M rs)) (prim (M ss))).map cn) (cn (w (prim (M ss)))) (Bz (prim (M rs)) (prim (M ss))).length p1' p2' (by rw[e1,N];omega) (by
  rw[e1,F,ER (show (prim (M ss)).length-1<(prim (M ss)).length by omega),N];exact hlp)
 exact k
theorem Yk:∀ (f:Nat) (x y:List Int) (M:Nat),0<M->y.length<=f->y.length<=x.length->x.length<=1048576->prim x=x->prim y=y->Kb (M-1) x->Kb (M-1) y->M*ID x.length y.length<=500000 ->
  ∃ bs,W I (.loop PF) (J7 (x.map cn) (y.map cn)) (.exit 0) (J7 ((HK f x y).map cn) bs):=by
 intro f;induction f with
 | zero =>
  intro x y M _ h1 _ _ _ _ _ _ _;have:y=[]:=A1 (by omega);subst this;exact⟨_,Am (dU _ _ (by simp)) (by nofun)⟩
 | succ f ih =>
  intro x y M hM h1 h2 h3 px py kx ky hphi;simp only[HK];split
  ·rename_i h;subst h;exact⟨_,Am (dU _ _ (by simp)) (by nofun)⟩
  ·rename_i h;have hyl:=Aj.2 h;obtain⟨r1,r2,r3⟩:=Kc hM (Cl px) h kx ky h2;have hM':0<M*(x.length-y.length+2):=Eu hM (by omega);have hMle:M<=M*(x.length-y.length+2):=BV M (by omega);have hbig:M*(x.length-y.length+2)<=500000:=by
    refine Bp (z _ ?_) hphi;unfold ID;exact BV _ (Cx (by decide))
   have hrem:=J8 (rs:=x.map cn) (ss:=y.map cn) (AI kx) (AI ky) (by omega) (by omega) (by rw[N];exact h3) (by rw[N];omega) (by rw[v,py];exact h) (by
    rw[v,v,px,py,La hM,show x.length+1-y.length=x.length-y.length+1 by omega,CM _ M];have:M*(x.length-y.length+2)=M*(x.length-y.length+1)+M:=by rw[<- OZ]
    omega)
   rw[v,v,px,py] at hrem;have hrem':H I 118 [A6n (x.map cn).length (pc (x.map cn)),A6n (y.map cn).length (pc (y.map cn))] (A6p 2 ((Bz x y).map cn).length (pc ((Bz x y).map cn))):=by
    have hlm:((Bz x y).map cn).length=(Bz x y).length:=N ..;rw[hlm];exact hrem
   have k:=dR (x.map cn) (y.map cn) _ (by simp;omega) hrem';obtain⟨bs,hb⟩:=ih y (Bz x y) (M*(x.length-y.length+2)) hM' (by omega) (by omega) (by omega) py (HT _ _ _ px) (ky.mono (by omega)) r3 (Ke r2 hphi);exact⟨bs,W.loop k hb⟩
def MK(f:Nat)(args:List AV)(p:List Int):Prop:=H I f args (A6p 2 (p.map cn).length (pc (p.map cn)))\/H I f args (A6n (p.map cn).length (pc (p.map cn)))
theorem Rb{p:List Int}{K:Nat}(hk:Kb K p)(hK:K<=1048576)(hN:p.length<=1048576) :
  (w p<0->H I 155 [A6n (p.map cn).length (pc (p.map cn))] (A6p 2 ((y p).map cn).length (pc ((y p).map cn))))/\(¬ w p<0->H I 155 [A6n (p.map cn).length (pc (p.map cn))] (A6n (p.map cn).length (pc (p.map cn)))):=by
 have h:=VV (rs:=p.map cn) (fun r hr=>(AI hk r hr).mono hK) (by rw[N];exact hN);rw[v] at h;refine⟨fun hn => ?_,h.2⟩;have h1:=h.1 hn;have e:y p=BZ p:=by unfold y;rw[if_pos hn]
 have hl:((BZ p).map cn).length=(p.map cn).length:=by rw[N,N,DG]
 rw[e,hl];exact h1
theorem OM{p:List Int}(h:¬ w p<0):y p=p:=by unfold y;rw [if_neg h]
theorem Lg:∀ (f:Nat) (x y:List Int) (M:Nat),0<M->y.length<=f->y.length<=x.length->BN x->BN y->Kb (M-1) x->Kb (M-1) y->Kb (M*ID x.length y.length-1) (HK f x y)/\(HK f x y).length<=x.length:=by
 intro f;induction f with
 | zero =>
  intro x y M hM _ h2 _ _ kx _;refine⟨kx.mono ?_,An _⟩;have:M*1<=M*ID x.length y.length:=z _ (by unfold ID;exact Eu (by omega) (Cx (by decide)));omega
 | succ f ih =>
  intro x y M hM h1 h2 lx ly kx ky;simp only[HK];split
  ·refine⟨kx.mono ?_,An _⟩;have:M*1<=M*ID x.length y.length:=z _ (by unfold ID;exact Eu (by omega) (Cx (by decide)));omega
  ·rename_i h;have hyl:=Aj.2 h;obtain⟨r1,r2,r3⟩:=Kc hM lx h kx ky h2;have hM':0<M*(x.length-y.length+2):=Eu hM (by omega);have hMle:M<=M*(x.length-y.length+2):=BV M (by omega);obtain⟨a,b⟩:=ih y (Bz x y) (M*(x.length-y.length+2)) hM' (by omega) (by omega) ly r1 (ky.mono (by omega)) r3;exact⟨a.mono (Nat.sub_le_sub_right (Ke r2 (An _)) 1),by omega⟩
theorem Pv{rs ss:List Rn}{g:List Int}{bs:List Rn}{K:Nat}(hr:∀ r∈rs,AN K r)(hs:∀ r∈ss,AN K r)(hK:K<1048576)(hn:rs.length<=1048576)(hm:ss.length<=1048576){Kg:Nat}(hg:Kb Kg g)(hKg:Kg<=1048576)(hgl:g.length<=1048576)
  (hl:W I (.loop PF) (J7 ((prim (M rs)).map cn) ((prim (M ss)).map cn)) (.exit 0) (J7 (g.map cn) bs)) :
  MK 135 [sL pc rs,sL pc ss] (y g):=by
 have p1:=Eg hr hK hn;have p2:=Eg hs hK hm;have p1':H I 115 [sL pc rs] (A6p 2 ((prim (M rs)).map cn).length (pc ((prim (M rs)).map cn))):=by rw[N];exact p1
 have p2':H I 115 [sL pc ss] (A6p 2 ((prim (M ss)).map cn).length (pc ((prim (M ss)).map cn))):=by rw[N];exact p2
 obtain⟨q1,q2⟩:=Rb hg hKg hgl;by_cases h:w g<0
 ·exact .inl (nL rs ss _ _ (g.map cn) bs _ p1' p2' hl (q1 h))
 ·rw[OM h];exact .inr (nM rs ss _ _ (g.map cn) bs p1' p2' hl (q2 h))
theorem Rc{rs ss:List Rn}{K c:Nat}(hr:∀ r∈rs,AN K r)(hs:∀ r∈ss,AN K r)(hn:rs.length<=c)(hm:ss.length<=c)(hc:c<=1048576)(hS:(K+1)*(2*3^c)<=500000) :
  MK 135 [sL pc rs,sL pc ss] (y (Nd (prim (M rs)) (prim (M ss)))):=by
 have h3:0<3^c:=Cx (by decide);have hK:K+1<=500000:=by
  have:(K+1)*1<=(K+1)*(2*3^c):=z _ (by omega);omega
 have k1:Kb K (prim (M rs)):=(HJ (Cs hr)).prim;have k2:Kb K (prim (M ss)):=(HJ (Cs hs)).prim;have l1:(prim (M rs)).length<=rs.length:=by rw[BB];have:=Bf (M rs);rwa [s] at this
 have l2:(prim (M ss)).length<=ss.length:=by rw[BB];have:=Bf (M ss);rwa [s] at this
 unfold Nd;split
 ·rename_i hl;have hphi:(K+1)*ID (prim (M rs)).length (prim (M ss)).length<=500000:=Bp (z _ (Oe hl (by omega))) hS;obtain⟨bs,hb⟩:=Yk (prim (M ss)).length (prim (M rs)) (prim (M ss)) (K+1) (by omega) (An _) hl (by omega) (BI _) (BI _) k1 k2 hphi;obtain⟨s1,s2⟩:=Lg (prim (M ss)).length (prim (M rs)) (prim (M ss)) (K+1) (by omega) (An _) hl (B_ _) (B_ _) k1 k2;exact Pv hr hs (by omega) (by omega) (by omega) s1 (by omega) (by omega) hb
 ·rename_i hl;have hphi:(K+1)*ID (prim (M ss)).length (prim (M rs)).length<=500000:=Bp (z _ (Oe (by omega) (by omega))) hS;obtain⟨bs,hb⟩:=Yk (prim (M rs)).length (prim (M ss)) (prim (M rs)) (K+1) (by omega) (An _) (by omega) (by omega) (BI _) (BI _) k2 k1 hphi;obtain⟨s1,s2⟩:=Lg (prim (M rs)).length (prim (M ss)) (prim (M rs)) (K+1) (by omega) (An _) (by omega) (B_ _) (B_ _) k2 k1;have hy0:prim (M ss) ≠ []:=by intro h;rw[h] at hl;simp at hl
  have hsw:Bz (prim (M rs)) (prim (M ss))=prim (M rs):=by
   unfold Bz;cases hx:(prim (M rs)).length with
   | zero=>rfl
   | succ n=>simp only[DT];rw[if_neg hl]
  have hrem:=J8 (rs:=(prim (M rs)).map cn) (ss:=(prim (M ss)).map cn) (AI k1) (AI k2) (by omega) (by omega) (by rw[N];omega) (by rw[N];omega) (by rw[v,BI];exact hy0) (by
   rw[v,v,BI,BI,show (prim (M rs)).length+1-(prim (M ss)).length=0 by omega,SK];omega)
  rw[v,v,BI,BI,hsw] at hrem;have hrem':H I 118 [A6n ((prim (M rs)).map cn).length (pc ((prim (M rs)).map cn)),A6n ((prim (M ss)).map cn).length (pc ((prim (M ss)).map cn))] (A6p 2 ((prim (M rs)).map cn).length (pc ((prim (M rs)).map cn))):=by
   have hlm:((prim (M rs)).map cn).length=(prim (M rs)).length:=N ..;(first|rw[hlm] at hrem |-|(unfold sL at hrem;rw[hlm] at hrem |-));exact hrem
  have k:=dR ((prim (M rs)).map cn) ((prim (M ss)).map cn) _ (by rw[decide_eq_true_eq,N];omega) hrem';exact Pv hr hs (by omega) (by omega) (by omega) s1 (by omega) (by omega) (W.loop k hb)
end Go.Proofs.YtajompaehjkgkaaGreat
namespace Go.Ai
open Classical renaming byContradiction->Az
open Int renaming add_mul->GX,add_zero->B2,mul_assoc->A9,mul_eq_zero->FJ,mul_ne_zero->AG,mul_zero->AC,natAbs_natCast->BF,zero_mul->CJ
open List renaming eq_nil_of_length_eq_zero->A1,getD_cons_succ->JO,length->Bk,length_pos_iff->Aj,range->Ao,replicate->Ar
open Nat renaming add_mul->DN,mul_le_mul_left->z,one_mul->EV
open Or renaming inr->Nq
theorem Yl{p q:List Int}(h:∀ x,Aa p x=Aa q x)(x:Int):Aa (Aq p) x=Aa (Aq q) x :=
 Gl (fun i=>by rw[C_,C_,CW h]) x
theorem Wg(a:Int)(p:List Int)(x:Int):Aa (Aq (a::p)) x=Aa p x+x*Aa (Aq p) x:=by
 have h:∀ i,(Aq (a::p)).getD i 0=(Dl p (0::Aq p)).getD i 0:=by
  intro i;rw[C',C_,JO];cases i with
  | zero=>simp
  | succ i=>rw[JO,C_];push_cast;grind
 rw[Gl h x,BJ];simp[Aa]
theorem Aax(p q:List Int)(x:Int):Aa (Aq (Dl p q)) x=Aa (Aq p) x+Aa (Aq q) x:=by
 rw[<- BJ];exact Gl (fun i=>by rw[C',C_,C_,C_,C',GX]) x
theorem GR(c:Int)(p:List Int)(x:Int):Aa (Aq (Av c p)) x=c*Aa (Aq p) x:=by
 rw[<- Ap];exact Gl (fun i=>by rw[AJ,C_,C_,AJ,A9]) x
theorem Aay:Aq []=[]:=rfl
theorem Ym(p q:List Int)(x:Int):Aa (Aq (Bo p q)) x=Aa (Aq p) x*Aa q x+Aa p x*Aa (Aq q) x:=by
 induction p with
 | nil=>simp[Bo,Aay,Aa]
 | cons a p ih =>
  simp only[Bo];rw[Aax,GR,Wg,Wg,ih,AP];simp only[Aa];generalize Aa (Aq p) x=A at *
  generalize Aa (Aq q) x=B at *
  grind
theorem ML{r p q:List Int}(h:∀ x,Aa r x=Aa p x*Aa q x)(x:Int):Aa (Aq r) x=Aa (Aq p) x*Aa q x+Aa p x*Aa (Aq q) x:=by
 rw[<- Ym];exact Yl (fun x=>by rw[h x,AP]) x
theorem Re{p q:List Int}{c d:Int}(h:∀ x,c*Aa p x=d*Aa q x)(x:Int):c*Aa (Aq p) x=d*Aa (Aq q) x:=by
 rw[<- GR,<- GR];exact Yl (fun x=>by rw[Ap,Ap,h x]) x
theorem So(p:List Int):(Aq p).length<=p.length-1:=by
 unfold Aq;have:=Bf ((Ao (p.length-1)).map fun j=>p.getD (j+1) 0*((j+1:Nat):Int));simpa using this
theorem Wh{K:Nat}{p:List Int}(h:Kb K p)(hl:p.length<=1048576):Kb (K+2) (Aq p):=fun i=>by
 rw[C_];by_cases hi:i<1048576
 ·refine ((h (i+1)).mul (k:=1) ?_).mono (by omega);unfold Bj;rw[BF];omega
 ·rw[Bs (xs:=p) (by omega),CJ];exact GH _
def GS(h:List Int):Nat->List Int
 | 0=>[1]
 | k+1=>Bo (GS h k) h
theorem Yn(h:List Int):∀ (k:Nat) (x:Int),Aa (Aq (GS h k)) x*Aa h x=(k:Int)*Aa (GS h k) x*Aa (Aq h) x
 | 0,x=>by simp[GS,Aq,Aa,Y,l]
 | k+1,x=>by
  have ih:=Yn h k x;simp only[GS];rw[Ym,AP];push_cast;generalize Aa (Aq (GS h k)) x=A at *
  generalize Aa (GS h k) x=B at *
  generalize Aa (Aq h) x=C at *
  generalize Aa h x=H at *
  have:(A*H+B*C)*H=(A*H)*H+B*C*H:=by grind
  rw[this,ih];grind
theorem MM{h:List Int}(hh:Y h ≠ []):∀ k,Y (GS h k) ≠ []/\(Y (GS h k)).length=k*((Y h).length-1)+1
 | 0=>by
  have e:Y (GS h 0)=[1]:=rfl;rw[e];simp
 | k+1=>by
  obtain⟨a,b⟩:=MM hh k;have h1:=Aj.2 hh;have e:=Ji a hh;have e2:(Y (GS h (k+1))).length=(k+1)*((Y h).length-1)+1:=by
   simp only[GS];rw[e,b,DN,EV];omega
  refine⟨?_,e2⟩;intro h0;rw[h0] at e2;simp at e2
theorem Zx{a G f h:List Int}{c:Int}(ha:Y a ≠ [])(hG:DY G a (Aq a))(hc:c ≠ 0)(hf:∀ x,c*Aa a x=Aa G x*Aa f x)(h1:Dv h f)(h2:Dv h (Aq f)):(Y h).length=1:=by
 obtain⟨g1,⟨c2,e,hc2,he⟩,c3,u,v,hc3,hb⟩:=hG;have hG0:Y G ≠ []:=(g1.length ha).2;have hf0:Y f ≠ []:=by
  intro h0;have:Y a=Y []:=by
   apply EZ;intro x;have h3:=hf x;rw[Dg h0,AC] at h3;rcases FJ.1 h3 with g | g
   ·exact absurd g hc
   ·exact g
  exact ha this
 have hh0:Y h ≠ []:=(h1.length hf0).2;have hC:∀ x,c*c2*c3=c2*Aa u x*Aa f x+c*Aa v x*Aa e x:=by
  have h3:=Qd hG0 [c*c2*c3] (Dl (Av c2 (Bo u f)) (Av c (Bo v e))) (fun x=>by
   have a1:=hf x;have a2:=he x;have a3:=hb x;rw[BJ,Ap,Ap,AP,AP];simp only[Aa];generalize Aa G x=G at *
   generalize Aa f x=f at *
   generalize Aa e x=e at *
   generalize Aa u x=u at *
   generalize Aa v x=v at *
   generalize Aa (Aq a) x=a' at *
   generalize Aa a x=a at *
   have e1:G*(c*c2*c3+x*0)=c*c2*(c3*G):=by grind
   rw[e1,a3];have e2:c*c2*(u*a+v*a')=c2*u*(c*a)+c*v*(c2*a'):=by grind
   rw[e2,a1,a2];grind)
  intro x;have h4:=h3 x;rw[BJ,Ap,Ap,AP,AP] at h4;simp only[Aa,AC,B2] at h4;grind
 have hd:∀ x,c*(Aa G x*Aa e x)=c2*(Aa (Aq G) x*Aa f x+Aa G x*Aa (Aq f) x):=by
  intro x;have a1:=ML (r:=Av c a) (p:=G) (q:=f) (fun x=>by rw[Ap];exact hf x) x;rw[GR] at a1;have a2:=he x;rw[<- a1,<- a2];grind
 obtain⟨c4,t,hc4,ht⟩:=h1;obtain⟨c5,w,hc5,hw⟩:=h2;have hft:∀ x,c4*Aa (Aq f) x=Aa (Aq h) x*Aa t x+Aa h x*Aa (Aq t) x:=by
  intro x;have a1:=ML (r:=Av c4 f) (p:=h) (q:=t) (fun x=>by rw[Ap];exact ht x) x;rw[GR] at a1;exact a1
 have hk:∀ k,Dv (GS h k) G:=by
  intro k;induction k with
  | zero=>exact⟨1,G,by decide,fun x=>by simp[GS,Aa]⟩
  | succ k ih =>
   obtain⟨ck,s,hck,hs⟩:=ih;obtain⟨p1,_⟩:=MM hh0 k;have hGs:∀ x,ck*Aa (Aq G) x=Aa (Aq (GS h k)) x*Aa s x+Aa (GS h k) x*Aa (Aq s) x:=by
    intro x;have a1:=ML (r:=Av ck G) (p:=GS h k) (q:=s) (fun x=>by rw[Ap];exact hs x) x;rw[GR] at a1;exact a1
   have hes:∀ x,c4*c5*c*(Aa e x*Aa s x)=Aa h x*(c2*((k:Int)*Aa s x*(c4*Aa w x-c5*Aa (Aq t) x)+c5*(Aa (Aq s) x*Aa t x)+c4*(Aa s x*Aa w x))):=by
    have h3:=Qd (p:=Bo (GS h k) h) (by
      intro h0;have:=Ji p1 hh0;rw[h0] at this;have:=Aj.2 p1;have:=Aj.2 hh0;simp at *
      omega) (Av (c4*c5*c) (Bo e s)) (Bo h (Av c2 (Dl (Dl (Bo (Av (k:Int) s) (KT (Av c4 w) (Av c5 (Aq t)))) (Av c5 (Bo (Aq s) t))) (Av c4 (Bo s w))))) (fun x=>by
     have a1:=hd x;have a2:=ht x;have a3:=hw x;have a4:=hft x;have a5:=hs x;have a6:=hGs x;have a7:=Yn h k x;simp only[AP,Ap,BJ,EN];generalize Aa (Aq (GS h k)) x=P' at *
     generalize Aa (Aq G) x=G' at *
     generalize Aa (Aq f) x=f' at *
     generalize Aa (Aq h) x=h' at *
     generalize Aa (Aq t) x=t' at *
     generalize Aa (Aq s) x=s' at *
     generalize Aa (GS h k) x=P at *
     generalize Aa G x=G at *
     generalize Aa f x=f at *
     generalize Aa e x=e at *
     generalize Aa h x=h at *
     generalize Aa t x=t at *
     generalize Aa w x=w at *
     generalize Aa s x=s at *
     have b1:P*h*(c4*c5*c*(e*s))=c4*c5*h*(c*((P*s)*e)):=by grind
     rw[b1,<- a5];have b2:c4*c5*h*(c*(ck*G*e))=c4*c5*h*ck*(c*(G*e)):=by grind
     rw[b2,a1];have b3:c4*c5*h*ck*(c2*(G'*f+G*f'))=c5*c2*((ck*G')*h*(c4*f)+(ck*G)*h*(c4*f')):=by grind
     rw[b3,a6,a5,a2];have b4:(P'*s+P*s')*h*(h*t)=(P'*h)*s*h*t+P*s'*h*h*t:=by grind
     rw[b4,a7];have b5:(k:Int)*P*h'*s*h*t=(k:Int)*P*s*h*(h'*t):=by grind
     have b6:h'*t=c4*f'-h*t':=by omega
     rw[b5,b6];have b7:c5*c2*((k:Int)*P*s*h*(c4*f'-h*t')+P*s'*h*h*t+P*s*h*(c4*f'))=c2*((k:Int)*P*s*h*(c4*(c5*f')-c5*(h*t'))+c5*(P*s'*h*h*t)+P*s*h*(c4*(c5*f'))):=by grind
     rw[b7,a3];grind)
    intro x;have h4:=h3 x;simp only[AP,Ap,BJ,EN] at h4;exact h4
   have d1:Dv h (Bo e s):=⟨c4*c5*c,Av c2 (Dl (Dl (Bo (Av (k:Int) s) (KT (Av c4 w) (Av c5 (Aq t)))) (Av c5 (Bo (Aq s) t))) (Av c4 (Bo s w))),AG (AG hc4 hc5) hc,fun x=>by
    simp only[AP,Ap,BJ,EN];exact hes x⟩
   have d2:Dv h (Bo f s):=Xh s ⟨c4,t,hc4,ht⟩ (fun x=>AP _ _ x);have d3:Dv h s:=LO (m:=c*c2*c3) (Av c2 u) (Av c v) (AG (AG hc hc2) hc3) d2 d1 (fun x=>by
    rw[hC x];simp only[AP,Ap];grind)
   obtain⟨c6,s2,hc6,hs2⟩:=d3;refine⟨c6*ck,s2,AG hc6 hck,fun x => ?_⟩;have a1:=hs x;have a2:=hs2 x;simp only[GS];rw[AP,A9,a1];have b1:c6*(Aa (GS h k) x*Aa s x)=Aa (GS h k) x*(c6*Aa s x):=by grind
   rw[b1,a2];grind
 have hh1:=Aj.2 hh0;apply Az;intro hn;have h3:=((hk (Y G).length).length hG0).1;rw[(MM hh0 _).2] at h3;have:(Y G).length*1<=(Y G).length*((Y h).length-1):=z _ (by omega);omega
def Ab(p:List Int):List Int :=
 if (y (prim p)).length<2\/(BE (y (prim p)) (Aq (y (prim p)))).length<2 then y (prim p)
 else prim (GP (BE (y (prim p)) (Aq (y (prim p)))) ((y (prim p)).length-(BE (y (prim p)) (Aq (y (prim p)))).length+1) (y (prim p)) (Ar ((y (prim p)).length-(BE (y (prim p)) (Aq (y (prim p)))).length+1) 0))
theorem LS{g:List Int}(h:g.length=1):∃ c,g=[c]:=by
 match g,h with
 | [c],_=>exact⟨c,rfl⟩
theorem Tq{a:List Int}(la:BN a)(h0:a ≠ [])(ca:AO a=1)(ta:0<w a)(f:List Int)
  (hf:f=if a.length<2\/(BE a (Aq a)).length<2 then a else prim (GP (BE a (Aq a)) (a.length-(BE a (Aq a)).length+1) a (Ar (a.length-(BE a (Aq a)).length+1) 0))) :
  BN f/\AO f=1/\0<w f/\f ≠ []/\f.length=a.length-(BE a (Aq a)).length+1/\∃ c d:Int,c ≠ 0/\d ≠ 0/\∀ x,c*Aa a x=d*(Aa (BE a (Aq a)) x*Aa f x):=by
 have hta:Y a ≠ []:=CU la h0;have hG:=FT a (Aq a);have lG:=Ep a (Aq a);have nG:=H6 (t:=Aq a) hta;have tG:=OL (t:=Aq a) hta;have hGl:=(hG.1.length hta).1;rw[lG,la] at hGl;have hal:=Aj.2 h0;have hgl:=Aj.2 nG;generalize BE a (Aq a)=G at *
 by_cases hs:a.length<2\/G.length<2
 ·rw[if_pos hs] at hf;subst hf;have hG1:G.length=1:=by omega
  obtain⟨c,rfl⟩:=LS hG1;refine⟨la,ca,ta,h0,by omega,c,1,?_,by decide,fun x=>by simp[Aa]⟩;have:w [c]=c:=rfl;omega
 ·rw[if_neg hs] at hf;obtain⟨c',r',c1,r1,r2,r3⟩:=To (p:=a) (q:=G) nG tG hGl;generalize GP G (a.length-G.length+1) a (Ar (a.length-G.length+1) 0)=o at *
  have to:=Yc c1 ta nG tG hGl r2 r3 r1;have hr0:Y r'=[]:=by
   apply Az;intro hn;have hd:Dv G r':=LO (m:=1) [c'] (BZ o) (by decide) hG.1 (Dv.refl G) (fun x=>by
    have:=r3 x;rw[Jd];simp only[Aa];grind)
   have h1:=(hd.length hn).1;rw[lG] at h1;have hl1:=Aj.2 hn;have h2:=Eo (GM r') hn;rw[CG,r1 _ (by omega)] at h2;exact h2 rfl
  have ho0:o ≠ []:=by intro h1;rw[h1] at r2;simp at r2
  have lo:BN o:=Od (Nq (by unfold w at to;omega));obtain⟨m,hm,hpe⟩:=HL o;subst hf;refine⟨B_ o,K0 (CU lo ho0),Ps to,?_,by rw[BB,lo,r2],c',m,by omega,hm,fun x => ?_⟩
  ·intro h1;rw[Do,<- CL,lo] at h1;exact ho0 h1
  ·rw[r3 x,Dg hr0,hpe x];grind
theorem Oh{p:List Int}(hp:Y p ≠ []):BN (y (prim p))/\y (prim p) ≠ []/\AO (y (prim p))=1/\0<w (y (prim p))/\(y (prim p)).length=(Y p).length/\∃ m:Int,m ≠ 0/\∃ n:Int,n ≠ 0/\∀ x,n*Aa p x=m*Aa (y (prim p)) x:=by
 have h1:prim p ≠ []:=by intro h;rw[Do,<- CL] at h;exact hp h
 obtain⟨m,hm,h2⟩:=HL p;obtain⟨n,hn,h3⟩:=Wa (prim p);refine⟨MH (B_ p),?_,by rw[Wc];exact K0 hp,Yi (B_ p) h1,by rw[JP,BB],m,hm,n,hn,fun x=>by rw[h2 x,h3 x];grind⟩;intro h;have:=congrArg Bk h;rw[JP] at this;exact h1 (A1 this)
theorem TO{f:List Int}(lf:BN f)(cf:AO f=1)(tf:0<w f):y (prim f)=f:=by
 rw[IU lf cf];unfold y;rw[if_neg (by omega)]
theorem Cj{p:List Int}(hp:Y p ≠ []):BN (Ab p)/\AO (Ab p)=1/\0<w (Ab p)/\Ab p ≠ []/\Dv (Ab p) p /\
  (Ab p).length+(BE (y (prim p)) (Aq (y (prim p)))).length=(Y p).length+1/\DY (BE (y (prim p)) (Aq (y (prim p)))) p (Aq p)/\(BE (Ab p) (Aq (Ab p))).length=1:=by
 obtain⟨la,h0,ca,ta,hl,m,hm,n,hn,hpe⟩:=Oh hp;obtain⟨lf,cf,tf,f0,fl,c,d,hc,hd,hcd⟩:=Tq la h0 ca ta (Ab p) rfl;have hta:Y (y (prim p)) ≠ []:=CU la h0;have hG:=FT (y (prim p)) (Aq (y (prim p)));have lG:=Ep (y (prim p)) (Aq (y (prim p)));have nG:=H6 (t:=Aq (y (prim p))) hta;have hGl:=(hG.1.length hta).1;rw[lG,la] at hGl;have hder:∀ x,n*Aa (Aq p) x=m*Aa (Aq (y (prim p))) x:=Re hpe;generalize y (prim p)=a at *
 generalize BE a (Aq a)=G at *
 generalize Ab p=f at *
 have hal:=Aj.2 h0;have hgl:=Aj.2 nG;refine⟨lf,cf,tf,f0,?_,by omega,?_,?_⟩
 ·have h1:Dv f a:=⟨c,Av d G,hc,fun x=>by rw[hcd x,Ap];grind⟩;exact h1.scaled hn hpe
 ·exact hG.scaled hn hm hn hm hpe hder
 ·have hK:=FT f (Aq f);have nK:=H6 (t:=Aq f) (CU lf f0);have lK:=Ep f (Aq f);have h1:=Zx (h:=BE f (Aq f)) (f:=Av d f) (c:=c) hta hG hc (fun x=>by rw[hcd x,Ap];grind)
   (hK.1.scaled (m:=1) (n:=d) (by decide) (fun x=>by rw[Ap];omega)) (hK.2.1.scaled (m:=1) (n:=d) (by decide) (fun x=>by rw[GR];omega))
  rwa [lK] at h1
theorem eA{f:List Int}(lf:BN f)(cf:AO f=1)(tf:0<w f)(h:(BE f (Aq f)).length<2):Ab f=f:=by
 unfold Ab;rw[TO lf cf tf];exact if_pos (Nq h)
theorem MN{p:List Int}(hp:Y p ≠ []):Ab (Ab p)=Ab p:=by
 obtain⟨lf,cf,tf,f0,_,_,_,h1⟩:=Cj hp;exact eA lf cf tf (by omega)
theorem Yo{p:List Int}{K:Nat}(hp:Y p ≠ [])(hl:p.length<=9)(hK:Kb K p):Kb (K+3) (Ab p)/\(Ab p).length<=(Y p).length:=by
 obtain⟨lf,cf,tf,f0,hd,_,_,_⟩:=Cj hp;have h1:=(hd.length hp).1;rw[lf] at h1;obtain⟨c,k,hc,hk⟩:=hd;have:=Bf p;exact⟨Ra hc cf hp hl (by omega) hK hk,h1⟩
theorem FG(t:List Int):Dv [1] t:=⟨1,t,by decide,fun x=>by simp [Aa]⟩
end Go.Ai
namespace Go.Proofs.YtajompaehjkgkaaGreat
open Go.Ai
set_option maxRecDepth 100000
open BitVec renaming ofInt->T,or_comm->TL
open Bool renaming and_eq_true->Ad,eq_iff_iff->ZI,or_eq_false_iff->SC
open Decidable renaming decide->B
open Go.Ai.AV renaming agg->A6r,bool->A6m,fresh->A6p,int->A6l,sl->A6n,tup->A6t
open Go.Ai.Reg renaming box->A6s,own->A6q,val->A6o
open Go.IntKind renaming bits->Al,i64->R,u32->A5,u64->U,wrap->D
open Int renaming add_comm->J',add_mul_ediv_left->SB,add_mul_emod_self_left->TE,add_zero->B2,ediv_eq_zero_of_lt->GC,ediv_nonneg->Jn,ediv_one->ZK,emod_eq_of_lt->FY,emod_lt_of_pos->El,emod_nonneg->Fy,fdiv->d,fdiv_eq_ediv_of_nonneg->t,le_of_lt->A0,lt_trichotomy->FD,mul_add->CE,mul_assoc->A9,mul_comm->A8,mul_ediv_add_emod->Gs,mul_ediv_cancel_left->BP,mul_eq_zero->FJ,mul_le_mul_of_nonneg_left->Ag,mul_lt_mul_right->oU,mul_neg->DZ,mul_neg_of_pos_of_neg->Ir,mul_nonneg->A3,mul_one->CN,mul_pos->Ba,mul_pow->Qu,mul_zero->AC,natAbs->E,natAbs_mul->BM,natAbs_of_nonneg->KA,natAbs_pow->Np,natCast_mul->CZ,one_mul->CO,pow_add->BC,pow_pos->EF,pow_succ->Ax,pow_zero->CD,sub_zero->EJ,tdiv->As,tdiv_eq_ediv_of_nonneg->B5,tmod->AA,tmod_eq_emod_of_nonneg->Bl,toNat->A,toNat_natCast->F,zero_add->DA,zero_mul->CJ
open List renaming any_eq_false->WF,any_eq_true->Aew,drop_eq_getElem_cons->CV,eq_nil_of_length_eq_zero->A1,ext_getElem?->FX,getD_eq_getElem?_getD->Z,getElem?_append_left->AK,getElem?_append_right->AR,getElem?_drop->Bn,getElem?_eq_getElem->Af,getElem?_eq_none->AB,getElem?_map->C7,getElem?_set_self->WA,getElem?_take_of_lt->By,getElem_mem->Ds,length->Bk,length_append->AY,length_drop->Eh,length_map->N,length_pos_iff->Aj,length_range->B6,length_replicate->E',length_set->AW,length_take->A7,map_append->Ef,map_cons->Cw,map_map->Awg,map_nil->FK,map_replicate->A6h,map_set->Awf,mem_cons->CS,mem_iff_getElem->Jq,range->Ao,range_succ->Hi,replicate->Ar,set_set->Rz
open Nat renaming add_assoc->D6,add_comm->Hn,add_mul->DN,add_zero->FC,le_add_right->O',le_mul_of_pos_right->BV,le_refl->An,le_trans->Bp,log2->Cb,log2_lt->Pa,lt_of_le_of_lt->Dk,lt_or_ge->Ck,mod_lt->H8,mul_assoc->EA,mul_comm->CM,mul_le_mul->Bu,mul_le_mul_left->z,mul_le_mul_right->AD,mul_pos->Eu,mul_succ->OZ,one_mul->EV,pow_add->C8,pow_le_pow_right->B4,pow_lt_pow_right->PZ,pow_mul->A6e,pow_pos->Cx,pow_succ->F7,sub_add_cancel->La,sub_self->OY,sub_zero->JH,zero_add->Ch,zero_le->Bv,zero_mul->SK
theorem nP{E rs:List Rn}{m:Nat}(hl:E.length=rs.length)(h:∀ x,x<m->E.getD x z0=rs.getD x z0):Fu E rs m=rs:=by
 apply FX;intro t;unfold Fu;by_cases ht:t<m
 ·by_cases hm:t<E.length
  ·have:=h t ht;rw[Z,Z,Af hm,Af (by omega)] at this;rw[AK (by rw[A7];omega),By ht,Af hm,Af (by omega)];simpa using this
  ·rw[AB (by rw[AY,A7,Eh];omega),AB (by omega)]
 ·by_cases hm:m<=E.length
  ·rw[AR (by rw[A7];omega),A7,Bn];congr 1;omega
  ·rw[AB (by rw[AY,A7,Eh];omega),AB (by omega)]
theorem nQ{E rs:List Rn}{m:Nat}(hl:E.length=rs.length)(hm:m<=rs.length)(h:∀ x,m<=x->E.getD x z0=rs.getD x z0):Fu E rs m=E:=by
 apply FX;intro t;unfold Fu;by_cases ht:t<m
 ·rw[AK (by rw[A7];omega),By ht]
 ·rw[AR (by rw[A7];omega),A7,Bn,show m+(t-min m E.length)=t by omega];by_cases hm:t<E.length
  ·have:=h t (by omega);rw[Z,Z,Af hm,Af (by omega)] at this;rw[Af hm,Af (by omega)];simpa using this.symm
  ·rw[AB (by omega),AB (by omega)]
section
variable {p q:List Int} {J Kq:Nat}
theorem Sp{c:Int}(hp:Kb J p)(hc:Bj Kq c):Kb (J+Kq) (Av c p):=fun i=>by
 rw[AJ,Hn];exact hc.mul (hp i)
theorem A5l{t:Int}{l:Rn}{qs os:List Rn}{kq:Nat}{j:Int}(hp:Kb J p)(ht:Bj Kq t)(hS:J+Kq<1048576)(hN:p.length<=1048576) :
  W I (.loop O5) (IR qs p.length (p.map cn) (cn t) kq os j l (p.length:Nat) 0) (.exit 2) (IR qs p.length ((Av t p).map cn) (cn t) kq os j l (p.length:Nat) (p.length:Nat)):=by
 have hE:((Av t p).map cn).length=(p.map cn).length:=by rw[N,N,AX]
 have hpl:(p.map cn).length=p.length:=N ..;have h:=W.up (prog:=I) (c:=O5) (ex := .exit 2) (fin:=IR qs p.length ((Av t p).map cn) (cn t) kq os j l (p.length:Nat) (p.length:Nat))
  (fun i=>IR qs p.length (Fu ((Av t p).map cn) (p.map cn) i) (cn t) kq os j l (p.length:Nat) (i:Nat)) p.length (by nofun) ?_ ?_ 0 (Bv _)
 ·rw[MI] at h;exact h
 ·intro i hi;have ei:D R ((i:Int)+1)=((i+1:Nat):Int):=by rw[Bg (by omega) (by omega)];omega
  have hml:=Hg hE i;have hget:=LP hE (i:=i) (by omega);have hEi:((Av t p).map cn).getD i z0=cn ((Av t p).getD i 0):=ER (by rw[AX];exact hi);have hset:=LQ hE (i:=i) (by omega);rw[hEi,AJ] at hset;have gp:=Be (AI hp) i;have gt:=B9 ht;have vi:=FU p i;have m1:=LR gp gt (by omega);generalize Fu ((Av t p).map cn) (p.map cn) i=M at *
  have k:=Aan qs p.length M (cn t) kq os j l (p.length:Nat) (i:Nat) (by simp;omega) (by omega) (by omega) (by rw[F,hget];exact m1);refine k.to rfl ?_;simp only[ei,F,hget];rw[vi,u,A8,hset]
 ·rw[show Fu ((Av t p).map cn) (p.map cn) p.length=(Av t p).map cn by have h:=MJ hE;rw[hpl] at h;exact h];exact Aao _ _ _ _ _ _ _ _ _ _ (by simp)
theorem A5m{t:Int}{l:Rn}{qs rs:List Rn}{k:Nat}{j:Int}(hp:Kb J p)(ht:Bj Kq t)(hS:J+Kq<1048576)(hN:p.length<=1048576) :
  W I (.loop O6) (IS qs k rs (cn t) p.length (p.map cn) j l (p.length:Nat) 0) (.exit 4) (IS qs k rs (cn t) p.length ((Av t p).map cn) j l (p.length:Nat) (p.length:Nat)):=by
 have hE:((Av t p).map cn).length=(p.map cn).length:=by rw[N,N,AX]
 have hpl:(p.map cn).length=p.length:=N ..;have h:=W.up (prog:=I) (c:=O6) (ex := .exit 4) (fin:=IS qs k rs (cn t) p.length ((Av t p).map cn) j l (p.length:Nat) (p.length:Nat))
  (fun i=>IS qs k rs (cn t) p.length (Fu ((Av t p).map cn) (p.map cn) i) j l (p.length:Nat) (i:Nat)) p.length (by nofun) ?_ ?_ 0 (Bv _)
 ·rw[MI] at h;exact h
 ·intro i hi;have ei:D R ((i:Int)+1)=((i+1:Nat):Int):=by rw[Bg (by omega) (by omega)];omega
  have hml:=Hg hE i;have hget:=LP hE (i:=i) (by omega);have hEi:((Av t p).map cn).getD i z0=cn ((Av t p).getD i 0):=ER (by rw[AX];exact hi);have hset:=LQ hE (i:=i) (by omega);rw[hEi,AJ] at hset;have gp:=Be (AI hp) i;have gt:=B9 ht;have vi:=FU p i;have m1:=LR gp gt (by omega);generalize Fu ((Av t p).map cn) (p.map cn) i=M at *
  have k:=Aap qs k rs (cn t) p.length M j l (p.length:Nat) (i:Nat) (by simp;omega) (by omega) (by omega) (by rw[F,hget];exact m1);refine k.to rfl ?_;simp only[ei,F,hget];rw[vi,u,A8,hset]
 ·rw[show Fu ((Av t p).map cn) (p.map cn) p.length=(Av t p).map cn by have h:=MJ hE;rw[hpl] at h;exact h];exact Aaq _ _ _ _ _ _ _ _ _ _ (by simp)
theorem A5n{t:Rn}{l:Int}{os:List Rn}{kq j Jp:Nat}(hp:Kb Jp p)(hq:Kb Kq q)(hl:Bj J l)(hS:J+Kq<1048576)(hJp:Jp<1048576)(hN:p.length<=1048576)(hj:j+q.length<=p.length) :
  W I (.loop O7) (IT (q.map cn) p.length (p.map cn) t kq os (j:Nat) (cn l) (q.length:Nat) 0) (.exit 6) (IT (q.map cn) p.length ((GO p q l j).map cn) t kq os (j:Nat) (cn l) (q.length:Nat) (q.length:Nat)):=by
 have hE:((GO p q l j).map cn).length=(p.map cn).length:=by rw[N,N,G0]
 have hpl:(p.map cn).length=p.length:=N ..;have gE:∀ x,x<p.length->((GO p q l j).map cn).getD x z0=cn (p.getD x 0-l*(Da j q).getD x 0):=fun x hx=>by
  rw[ER (by rw[G0];exact hx),Lb _ _ _ _ _ hj]
 have eout:∀ x,(x<j\/j+q.length<=x)->((GO p q l j).map cn).getD x z0=(p.map cn).getD x z0:=by
  intro x hx;by_cases h:x<p.length
  ·rw[gE x h,ER h,Cd];rcases hx with hx | hx
   ·rw[if_neg (by omega),AC,EJ]
   ·rw[if_pos (by omega),Bs (xs:=q) (show q.length<=x-j by omega),AC,EJ]
  ·rw[Z,Z,AB (by omega),AB (by omega)]
 have h:=W.up (prog:=I) (c:=O7) (ex := .exit 6) (fin:=IT (q.map cn) p.length ((GO p q l j).map cn) t kq os (j:Nat) (cn l) (q.length:Nat) (q.length:Nat))
  (fun i=>IT (q.map cn) p.length (Fu ((GO p q l j).map cn) (p.map cn) (j+i)) t kq os (j:Nat) (cn l) (q.length:Nat) (i:Nat)) q.length (by nofun) ?_ ?_ 0 (Bv _)
 ·rw[FC,nP hE (fun x hx=>eout x (.inl hx))] at h;exact h
 ·intro i hi;have ei:D R ((i:Int)+1)=((i+1:Nat):Int):=by rw[Bg (by omega) (by omega)];omega
  have eji:D R ((j:Int)+(i:Int))=((j+i:Nat):Int):=by rw[Bg (by omega) (by omega)];omega
  have hml:=Hg hE (j+i);have hget:=LP hE (i:=j+i) (by omega);have hEi:=gE (j+i) (by omega);rw[Cd,if_pos (by omega),show j+i-j=i by omega] at hEi;have hset:=LQ hE (i:=j+i) (by omega);rw[hEi] at hset;have gp:=Be (AI hp) (j+i);have gq:=Be (AI hq) i;have gl:=B9 hl;have vi:=FU p (j+i);have vq:=FU q i;have m1:=LR gl gq (by omega);have f1:Bj (J+Kq) (O (cn l)*O ((q.map cn).getD i z0)):=Bj.mul (by rw[u];exact hl) gq.fits;have m2:=dZ gp (B9 f1) (by omega) (by omega);rw[u (O (cn l)*O ((q.map cn).getD i z0))] at m2;generalize Fu ((GO p q l j).map cn) (p.map cn) (j+i)=M at *
  have k:=Aar (q.map cn) p.length M t kq os (j:Nat) (cn l) (q.length:Nat) (i:Nat) (by simp;omega) (by rw[eji];omega) (by omega) (by rw[N];omega) (by rw[F];exact m1) (by rw[eji,F,F,hget];exact m2);refine k.to rfl ?_;simp only[ei,eji,F,hget];rw[vi,vq,u,hset,D6]
 ·rw[nQ hE (by omega) (fun x hx=>eout x (.inr hx))];exact Aas _ _ _ _ _ _ _ _ _ _ (by simp)
theorem Aaz{l:Int}(hp:Kb (J+Kq) p)(hq:Kb Kq q)(hl:Bj J l)(k:Nat)(hk:k+q.length<=p.length):Kb (J+Kq+1) (GO p q l k):=fun i=>by
 rw[Lb _ _ _ _ _ hk,Cd];split
 ·exact (hp i).add (hl.mul (hq _)).neg
 ·rw[AC,EJ];exact (hp i).mono (by omega)
theorem sK{l:Int}(hp:Kb J p)(hl:Bj J l)(k:Nat):Kb J (p.set k l):=fun i=>by
 by_cases h:i=k
 ·subst h;by_cases hi:i<p.length
  ·rw[Z,WA hi];exact hl
  ·rw[Bs (by rw[AW];omega)];exact GH _
 ·rw[Co (by omega)];exact hp i
end
theorem Aba{q:List Int}{Kq:Nat}(hq:Kb Kq q)(hq0:q ≠ []):∀ (k:Nat) (r out:List Int) (J:Nat),Kb J r->Kb J out->J+k*(Kq+1)<1048576->k<=out.length->out.length+q.length=r.length+1->r.length<=1048576 ->
  (∃ r',W I (.loop Vf) (Qc (q.map cn) r.length (r.map cn) (cn (w q)) out.length (out.map cn) ((k:Int)-1)) (.exit 0) (Qc (q.map cn) r.length r' (cn (w q)) out.length ((GP q k r out).map cn) (-1)))/\Kb (J+k*(Kq+1)) (GP q k r out)/\(GP q k r out).length=out.length:=by
 have hql:=Aj.2 hq0;intro k;induction k with
 | zero =>
  intro r out J _ ho _ _ _ _;exact⟨⟨_,Am (Asx _ _ _ _ _ _ _ (by simp)) (by nofun)⟩,ho.mono (by omega),rfl⟩
 | succ k ih =>
  intro r out J hr ho hS hk hl hN;simp only[GP];have hS':J+Kq+1+k*(Kq+1)<1048576:=by rw[DN,EV] at hS;omega
  have el:Bj J (r.getD (k+q.length-1) 0):=hr _;have e1:((k+1:Nat):Int)-1=(k:Int):=by omega
  have e2:D R (D R ((k:Int)+(((q.map cn).length:Nat):Int))-1)=((k+q.length-1:Nat):Int):=by
   rw[N,Bg (n:=(k:Int)+(q.length:Nat)) (by omega) (by omega),Bg (by omega) (by omega)];omega
  have e3:(r.map cn).getD (k+q.length-1) z0=cn (r.getD (k+q.length-1) 0):=ER (by omega);have e4:D R ((k:Int)-1)=(k:Int)-1:=Bg (by omega) (by omega);have ft:Bj Kq (w q):=hq _;generalize hlead:r.getD (k+q.length-1) 0=l at *
  have hps:=Sp hr ft;have hpo:=Sp ho ft;have la:=A5l (l:=cn l) (qs:=q.map cn) (os:=out.map cn) (kq:=out.length) (j:=(k:Nat)) hr ft (by omega) hN;have lb:=A5m (l:=cn l) (qs:=q.map cn) (rs:=(Av (w q) r).map cn) (k:=r.length) (j:=(k:Nat)) ho ft (by omega) (by omega);have hlc:=A5n (t:=cn (w q)) (l:=l) (os:=((Av (w q) out).set k l).map cn) (kq:=out.length) (j:=k) (p:=Av (w q) r) (J:=J) hps hq el (by omega) (by omega) (by rw[AX];exact hN) (by rw[AX];omega);rw[AX] at hlc;obtain⟨⟨r',hr'⟩,kb,len⟩:=ih (GO (Av (w q) r) q l k) ((Av (w q) out).set k l) (J+Kq+1) (Aaz hps hq el k (by rw[AX];omega)) (sK (hpo.mono (by omega)) (el.mono (by omega)) k) hS' (by rw[AW,AX];omega) (by rw[AW,AX,G0,AX];exact hl) (by rw[G0,AX];exact hN);rw[AW,AX,G0,AX] at hr';refine⟨⟨r',?_⟩,kb.mono (by rw[DN,EV];omega),by rw[len,AW,AX]⟩;have hset:((Av (w q) out).map cn).set k (cn l)=((Av (w q) out).set k l).map cn:=by rw[Awf]
  have k1:=Asw (q.map cn) r.length (r.map cn) (cn (w q)) out.length (out.map cn) (k:Nat) ((Av (w q) r).map cn) ((GO (Av (w q) r) q l k).map cn) ((Av (w q) out).map cn) _ _ _ _ _ _ (by simp) (by rw[e2];omega) (N ..)
   (by rw[e2,F,e3];exact la) (by rw[e2,F,e3];exact lb) (by omega) (by rw[N,AX]) (by rw[e2,F,F,e3,hset,N];exact hlc)
  rw[e2,F,F,e3,hset,e4] at k1;rw[e1];exact W.loop k1 hr'
theorem Atb:cn 0=z0:=rfl
theorem Xi{p q:List Int}{J K:Nat}(hp:Kb J p)(hq:Kb K q)(lp:BN p)(hq0:q ≠ [])(hl:q.length<=p.length)(hN:p.length<=1000000)(hS:J+(p.length-q.length+1)*(K+1)<1048576) :
  H I 156 [A6n (p.map cn).length (pc (p.map cn)),A6n (q.map cn).length (pc (q.map cn))] (A6p 2 ((prim (GP q (p.length-q.length+1) p (Ar (p.length-q.length+1) 0))).map cn).length (pc ((prim (GP q (p.length-q.length+1) p (Ar (p.length-q.length+1) 0))).map cn))):=by
 have hql:=Aj.2 hq0;have htr:=HI (rs:=p.map cn) (fun r h=>(AI hp r h).mono (show J<=1048576 by omega)) (by rw[N];omega);rw[v,lp] at htr;have htr':H I 66 [A6n (p.map cn).length (pc (p.map cn))] (A6p 2 (p.map cn).length (pc (p.map cn))):=by (first|rw[N] at htr |-|(unfold sL at htr;rw[N] at htr |-));exact htr
 obtain⟨⟨r',hlp⟩,kb,len⟩:=Aba hq hq0 (p.length-q.length+1) p (Ar (p.length-q.length+1) 0) J hp (fun i=>by rw[Dx];exact GH _) hS (by simp) (by simp;omega) (by omega);rw[E'] at hlp len;have e1:D R ((((q.map cn).length:Nat):Int)-1)=((q.length-1:Nat):Int):=by rw[N,Bg (by omega) (by omega)];omega
 have e2:D R (D R ((((p.map cn).length:Nat):Int)-(((q.map cn).length:Nat):Int))+1)=((p.length-q.length+1:Nat):Int):=by
  rw[N,N,Bg (n:=(p.length:Int)-(q.length:Nat)) (by omega) (by omega),Bg (by omega) (by omega)];omega
 have e3:D R (((p.length-q.length+1:Nat):Int)-1)=((p.length-q.length+1:Nat):Int)-1:=Bg (by omega) (by omega);have hz:(Ar (p.length-q.length+1) (0:Int)).map cn=Ar (p.length-q.length+1) z0:=by rw[A6h,Atb]
 have hpr:=Eg (rs:=(GP q (p.length-q.length+1) p (Ar (p.length-q.length+1) 0)).map cn) (AI kb) (by omega) (by rw[N];omega);rw[v] at hpr;have hpr':=hpr;unfold sL at hpr';rw[show ∀ o:List Int,(o.map cn).length=o.length from fun o=>N ..,len] at hpr';have k:=Asy (p.map cn) (q.map cn) (p.map cn) ((prim (GP q (p.length-q.length+1) p (Ar (p.length-q.length+1) 0))).map cn) r' ((GP q (p.length-q.length+1) p (Ar (p.length-q.length+1) 0)).map cn) (cn (w q)) p.length (p.length-q.length+1) (-1) htr' (by rw[e1,N];omega) (by rw[e2];omega) (by
   rw[e1,e2,F,F,e3,NP,<- hz,ER (show q.length-1<q.length by omega),show (p.map cn).length=p.length from N ..];exact hlp) (by
   have hlm:((prim (GP q (p.length-q.length+1) p (Ar (p.length-q.length+1) 0))).map cn).length=(prim (GP q (p.length-q.length+1) p (Ar (p.length-q.length+1) 0))).length:=N ..;rw[hlm];exact hpr')
 exact k
theorem Wi{rs:List Rn}{K c:Nat}(hr:∀ r∈rs,AN K r)(hn:rs.length<=c)(hc:c<=9)(hS:(K+3)*(2*3^c)<=500000):MK 114 [sL pc rs] (Ab (M rs)):=by
 have h3:0<3^c:=Cx (by decide);have hK:K+3<=250000:=by
  have:(K+3)*2<=(K+3)*(2*3^c):=z _ (by omega);omega
 have p1:=Eg hr (by omega) (by omega);have p1':H I 115 [sL pc rs] (A6p 2 ((prim (M rs)).map cn).length (pc ((prim (M rs)).map cn))):=by rw[N];exact p1
 have k1:Kb K (prim (M rs)):=(HJ (Cs hr)).prim;have l1:(prim (M rs)).length<=rs.length:=by rw[BB];have:=Bf (M rs);rwa [s] at this
 obtain⟨q1,q2⟩:=Rb k1 (by omega) (by omega);have ka:Kb K (y (prim (M rs))):=by
  unfold y;split
  ·intro i;rw[GI];exact (k1 i).neg
  ·exact k1
 have la:=JP (prim (M rs));have lda:BN (y (prim (M rs))):=MH (B_ _);have hpp:(¬ w (prim (M rs))<0)->y (prim (M rs))=prim (M rs):=OM;have hder:=Pt (rs:=(y (prim (M rs))).map cn) (AI ka) (by omega) (by rw[N];omega);rw[v] at hder;have hder':H I 116 [A6n ((y (prim (M rs))).map cn).length (pc ((y (prim (M rs))).map cn))] (A6p 2 ((Aq (y (prim (M rs)))).map cn).length (pc ((Aq (y (prim (M rs)))).map cn))):=by
  have hlm:((Aq (y (prim (M rs)))).map cn).length=(Aq (y (prim (M rs)))).length:=N ..;rw[hlm];exact hder
 have kd:Kb (K+2) (Aq (y (prim (M rs)))):=Wh ka (by omega);have ld:(Aq (y (prim (M rs)))).length<=c:=by have:=So (y (prim (M rs)));omega
 have hcom:=Rc (rs:=(y (prim (M rs))).map cn) (ss:=(Aq (y (prim (M rs)))).map cn) (K:=K+2) (c:=c) (fun r h=>(AI ka r h).mono (by omega)) (AI kd) (by rw[N];omega) (by rw[N];exact ld) (by omega) hS;rw[v,v] at hcom;change MK 135 _ (BE (y (prim (M rs))) (Aq (y (prim (M rs))))) at hcom;have hdiv:2<=(BE (y (prim (M rs))) (Aq (y (prim (M rs))))).length->H I 156 [A6n ((y (prim (M rs))).map cn).length (pc ((y (prim (M rs))).map cn)),A6n ((BE (y (prim (M rs))) (Aq (y (prim (M rs))))).map cn).length (pc ((BE (y (prim (M rs))) (Aq (y (prim (M rs))))).map cn))]
   (A6p 2 ((prim (GP (BE (y (prim (M rs))) (Aq (y (prim (M rs))))) ((y (prim (M rs))).length-(BE (y (prim (M rs))) (Aq (y (prim (M rs))))).length+1) (y (prim (M rs))) (Ar ((y (prim (M rs))).length-(BE (y (prim (M rs))) (Aq (y (prim (M rs))))).length+1) 0))).map cn).length (pc ((prim (GP (BE (y (prim (M rs))) (Aq (y (prim (M rs))))) ((y (prim (M rs))).length-(BE (y (prim (M rs))) (Aq (y (prim (M rs))))).length+1) (y (prim (M rs))) (Ar ((y (prim (M rs))).length-(BE (y (prim (M rs))) (Aq (y (prim (M rs))))).length+1) 0))).map cn))):=by
  intro h2;have hp0:Y (M rs) ≠ []:=by
   intro h0;have:prim (M rs)=[]:=Do.2 (CL.1 h0);rw[this] at h2;exact absurd h2 (by decide)
  obtain⟨a1,a2,_,_,_,_⟩:=Oh hp0;obtain⟨b1,b2⟩:=dX (t:=Aq (y (prim (M rs)))) (CU a1 a2) (by omega) ka;rw[a1] at b2;exact Xi ka b1 lda (by intro h0;rw[h0] at h2;exact absurd h2 (by decide)) b2 (by omega) (by
   have h4:(y (prim (M rs))).length-(BE (y (prim (M rs))) (Aq (y (prim (M rs))))).length+1<=10:=by omega
   have h5:=AD (K+3+1) h4;have h6:3^2<=3^c:=B4 (by decide) (by omega);have h7:(K+3)*18<=(K+3)*(2*3^c):=z _ (by omega);omega)
 unfold Ab;by_cases hs:(y (prim (M rs))).length<2
 ·rw[if_pos (.inl hs)];by_cases ht:w (prim (M rs))<0
  ·exact .inr (WY rs _ _ (by rw[decide_eq_true_eq,N];omega) p1' (q1 ht))
  ·rw[hpp ht] at hs |-;exact .inr (Xe rs _ (by rw[decide_eq_true_eq,N];omega) p1' (q2 ht))
 ·by_cases hg:(BE (y (prim (M rs))) (Aq (y (prim (M rs))))).length<2
  ·rw[if_pos (.inr hg)];by_cases ht:w (prim (M rs))<0
   ·rcases hcom with h | h
    ·exact .inr (WZ rs _ _ _ _ (by rw[decide_eq_false_iff_not,N];omega) (by rw[decide_eq_true_eq,N];omega) p1' (q1 ht) hder' h)
    ·exact .inr (Xa rs _ _ _ _ (by rw[decide_eq_false_iff_not,N];omega) (by rw[decide_eq_true_eq,N];omega) p1' (q1 ht) hder' h)
   ·rw[hpp ht] at *
    rcases hcom with h | h
    ·exact .inr (Xc rs _ _ _ (by rw[decide_eq_false_iff_not,N];omega) (by rw[decide_eq_true_eq,N];omega) p1' (q2 ht) hder' h)
    ·exact .inr (Xf rs _ _ _ (by rw[decide_eq_false_iff_not,N];omega) (by rw[decide_eq_true_eq,N];omega) p1' (q2 ht) hder' h)
  ·rw[if_neg (by omega)];have hdiv:=hdiv (by omega);by_cases ht:w (prim (M rs))<0
   ·rcases hcom with h | h
    ·exact .inl (W_ rs _ _ _ _ _ (by rw[decide_eq_false_iff_not,N];omega) (by rw[decide_eq_false_iff_not,N];omega) p1' (q1 ht) hder' h hdiv)
    ·exact .inl (Xb rs _ _ _ _ _ (by rw[decide_eq_false_iff_not,N];omega) (by rw[decide_eq_false_iff_not,N];omega) p1' (q1 ht) hder' h hdiv)
   ·rw[hpp ht] at *
    rcases hcom with h | h
    ·exact .inl (Xd rs _ _ _ _ (by rw[decide_eq_false_iff_not,N];omega) (by rw[decide_eq_false_iff_not,N];omega) p1' (q2 ht) hder' h hdiv)
    ·exact .inl (Xg rs _ _ _ _ (by rw[decide_eq_false_iff_not,N];omega) (by rw[decide_eq_false_iff_not,N];omega) p1' (q2 ht) hder' h hdiv)
def eB(p:List Int):AV := A6n (p.map cn).length (pc (p.map cn))
def plF(p:List Int):AV := A6p 2 (p.map cn).length (pc (p.map cn))
theorem Ec{f:Nat}{args:List AV}{X:List Int}(h:H I f args (A6p 2 X.length (pk X))):H I f args (A6p 2 (X.map cn).length (pc (X.map cn))):=by
 rw[N];exact h
theorem eE(p:List Int):O ((p.map cn).getD (p.length-1) z0)=w p:=FU p (p.length-1)
theorem MO{p:List Int}{K:Nat}(hk:Kb K p)(hL:BN p)(hK:K<=1048576)(hN:p.length<=1048576) :
  (w p<0->H I 120 [eB p] (plF (y p)))/\(¬ w p<0->H I 120 [eB p] (eB p)):=by
 have hg:∀ r∈p.map cn,AN 1048576 r:=fun r hr=>(AI hk r hr).mono hK;have hlm:(p.map cn).length=p.length:=N ..;by_cases h0:0<p.length
 ·have e1:D R ((((p.map cn).length:Nat):Int)-1)=((p.length-1:Nat):Int):=by rw[hlm,Bg (by omega) (by omega)];omega
  obtain⟨g1,g2⟩:=Be hg (p.length-1);have hs:=Gm (neg:=((p.map cn).getD (p.length-1) z0).1) g1 g2;have ht:O ((p.map cn).getD (p.length-1) z0)=w p:=eE p;rw[show rv ((p.map cn).getD (p.length-1) z0).1 ((p.map cn).getD (p.length-1) z0).2=w p from ht] at hs;refine⟨fun h => ?_,fun h => ?_⟩
  ·have hn:=Yg hg (by omega);rw[v,HM hL] at hn;have e:y p=BZ p:=by unfold y;rw[if_pos h]
   unfold eB plF;rw[e];exact mS _ _ (by rw[decide_eq_true_eq];omega) (by rw[e1,F,ht,decide_eq_true_eq];unfold BL;rw[if_pos h];decide) (by rw[e1];omega) (by rw[e1,F,ht];exact hs) (Ec hn)
  ·exact mT _ (by rw[decide_eq_true_eq];omega) (by rw[e1,F,ht,decide_eq_false_iff_not];unfold BL;rw[if_neg h];split <;> decide) (by rw[e1];omega) (by rw[e1,F,ht];exact hs)
 ·have hz:p=[]:=A1 (by omega);subst hz;refine⟨fun h=>absurd h (by decide),fun _=>mU [] (by decide)⟩
theorem nR(n:Int):O (false,(cn n).2)=(n.natAbs:Int):=by
 show rv false (G n.natAbs)=_;unfold rv;rw[Cn];simp
theorem Wj{x y:Rn}{J K:Nat}(hx:AN J x)(hy:AN K y)(h:J+K<=1048576):H I 96 [A6r [A6m x.1,A6n x.2.length (lm x.2)],At y] (o (O x*O y)):=NS hx.1 hy.1 (by have:=hx.2;have:=hy.2;omega)
theorem Atc{x y:Rn}{J K:Nat}(hx:AN J x)(hy:AN K y)(h:J<1048576)(h2:K<1048576):H I 129 [At x,At y] (o (O x-O y)):=Tc hx.1 hy.1 (by have:=hx.2;omega) (by have:=hy.2;omega)
def Nm(p d:List Int)(a b:Int)(j:Nat):Int:=if p.length-d.length<=j then a*p.getD j 0-b*d.getD (j-(p.length-d.length)) 0 else a*p.getD j 0
theorem eF(p d:List Int)(a b:Int)(n:Nat):((Ao n).map fun j=>cn (Nm p d a b j))=(C3 p d a b n).map cn:=by
 unfold C3 Nm;rw[Awg];rfl
section
variable {p d:List Int} {J Kd:Nat}
theorem Rf{b:Int}(hp:Kb J p)(hd:Kb Kd d)(hb:Bj J b)(hS:J+Kd+1<1000000)(hd0:d ≠ [])(hl:d.length<=p.length)(hN:p.length<=1048576) :
  W I (.loop KM) (Gn (p.map cn) (d.map cn) (cn (w d)) (cn b) ((p.length-d.length:Nat):Int) 0 [] 0) (.exit 2)
   (Gn (p.map cn) (d.map cn) (cn (w d)) (cn b) ((p.length-d.length:Nat):Int) (p.length-1) (pc ((C3 p d ((w d).natAbs:Int) b (p.length-1)).map cn)) ((p.length-1:Nat):Int)):=by
 have hdl:=Aj.2 hd0;have hlm:(p.map cn).length=p.length:=N ..;have hld:(d.map cn).length=d.length:=N ..;have e1:D R ((((p.map cn).length:Nat):Int)-1)=((p.length-1:Nat):Int):=by rw[hlm,Bg (by omega) (by omega)];omega
 have h:=W.up (prog:=I) (c:=KM) (ex := .exit 2) (fin:=Gn (p.map cn) (d.map cn) (cn (w d)) (cn b) ((p.length-d.length:Nat):Int) (p.length-1) (pc ((C3 p d ((w d).natAbs:Int) b (p.length-1)).map cn)) ((p.length-1:Nat):Int))
  (fun i=>Gn (p.map cn) (d.map cn) (cn (w d)) (cn b) ((p.length-d.length:Nat):Int) i (pc ((Ao i).map fun j=>cn (Nm p d ((w d).natAbs:Int) b j))) (i:Nat)) (p.length-1) (by nofun) ?_ ?_ 0 (Bv _)
 ·exact h
 ·intro i hi;have ei:D R ((i:Int)+1)=((i+1:Nat):Int):=by rw[Bg (by omega) (by omega)];omega
  have gp:=Be (AI hp) i;have ga:AN Kd (false,(cn (w d)).2):=by
   have:=B9 (Et hd);exact⟨this.1,this.2⟩
  have gb:=B9 hb;have vi:=FU p i;have m1:=Wj ga gp (by omega);have va:=nR (w d);by_cases hat:p.length-d.length<=i
  ·have ea:D R ((i:Int)-((p.length-d.length:Nat):Int))=((i-(p.length-d.length):Nat):Int):=by rw[Bg (by omega) (by omega)];omega
   have gq:=Be (AI hd) (i-(p.length-d.length));have vq:=FU d (i-(p.length-d.length));have m2:=Wj gb gq (by omega);have f1:Bj (Kd+J) (O (false,(cn (w d)).2)*O ((p.map cn).getD i z0)):=ga.fits.mul gp.fits;have f2:Bj (J+Kd) (O (cn b)*O ((d.map cn).getD (i-(p.length-d.length)) z0)):=gb.fits.mul gq.fits;have m3:=Atc (B9 f1) (B9 f2) (by omega) (by omega);rw[u (O (false,(cn (w d)).2)*_),u (O (cn b)*O ((d.map cn).getD (i-(p.length-d.length)) z0))] at m3;have k:=zQ (p.map cn) (d.map cn) (cn (w d)) (cn b) ((p.length-d.length:Nat):Int) i (pc ((Ao i).map fun j=>cn (Nm p d ((w d).natAbs:Int) b j))) (i:Nat) (by rw[e1,decide_eq_true_eq];omega) (by rw[decide_eq_true_eq];omega) (by omega) (by rw[ea];omega) (by omega)
    (by rw[F];exact m1) (by rw[ea,F];exact m2) (by rw[ea,F,F];exact m3)
   refine k.to rfl ?_;rw[ea,F,F,ei];rw[<- Gq (Nm p d ((w d).natAbs:Int) b) i];unfold Nm;rw[if_pos hat,va,vi,u,vq]
  ·have k:=zU (p.map cn) (d.map cn) (cn (w d)) (cn b) ((p.length-d.length:Nat):Int) i (pc ((Ao i).map fun j=>cn (Nm p d ((w d).natAbs:Int) b j))) (i:Nat) (by rw[e1,decide_eq_true_eq];omega) (by rw[decide_eq_false_iff_not];omega) (by omega) (by omega)
    (by rw[F];exact m1)
   refine k.to rfl ?_;rw[F,ei];rw[<- Gq (Nm p d ((w d).natAbs:Int) b) i];unfold Nm;rw[if_neg hat,va,vi]
 ·show W _ _ (Gn _ _ _ _ _ _ (pc ((Ao (p.length-1)).map fun j=>cn (Nm p d ((w d).natAbs:Int) b j))) _) _ _;rw[eF];exact zW _ _ _ _ _ _ _ _ (by rw[e1,decide_eq_false_iff_not];omega)
theorem eG(hp:Kb J p)(hd:Kb Kd d)(hS:J+Kd+1<1000000)(hd0:d ≠ [])(hl:d.length<=p.length)(hN:p.length<=1048576) :
  W I PD (J3 (p.map cn) (d.map cn) (cn (w d))) .norm (J3 ((D8 p d).map cn) (d.map cn) (cn (w d))):=by
 have hdl:=Aj.2 hd0;have hlm:(p.map cn).length=p.length:=N ..;have hld:(d.map cn).length=d.length:=N ..;have e1:D R ((((p.map cn).length:Nat):Int)-1)=((p.length-1:Nat):Int):=by rw[hlm,Bg (by omega) (by omega)];omega
 have e2:D R ((((p.map cn).length:Nat):Int)-(((d.map cn).length:Nat):Int))=((p.length-d.length:Nat):Int):=by rw[hlm,hld,Bg (by omega) (by omega)];omega
 have gt:=B9 (Et hd);have gl:=Be (AI hp) (p.length-1);have vl:=eE p;have hs:=Gm (neg:=(cn (w d)).1) gt.1 (by have:=gt.2;omega);rw[show rv (cn (w d)).1 (cn (w d)).2=w d from u _] at hs;have hT:∀ b,Bj J b->b=sg (w d)*w p->H I 46 [A6n (p.length-1) (pc ((C3 p d ((w d).natAbs:Int) b (p.length-1)).map cn))] (A6p 2 ((Y (C3 p d ((w d).natAbs:Int) b (p.length-1))).map cn).length (pc ((Y (C3 p d ((w d).natAbs:Int) b (p.length-1))).map cn)))
   /\ H I 86 [A6n ((Y (C3 p d ((w d).natAbs:Int) b (p.length-1))).map cn).length (pc ((Y (C3 p d ((w d).natAbs:Int) b (p.length-1))).map cn))] (A6p 2 ((D8 p d).map cn).length (pc ((D8 p d).map cn))):=by
  intro b fb hb;have kE:Kb (J+Kd+1) (C3 p d ((w d).natAbs:Int) b (p.length-1)):=QX hp hd (OI (Et hd)) fb _;have hlE:=Eb p d ((w d).natAbs:Int) b (p.length-1);have htl:=Bf (C3 p d ((w d).natAbs:Int) b (p.length-1));refine⟨?_,?_⟩
  ·have h:=E_ (rs:=(C3 p d ((w d).natAbs:Int) b (p.length-1)).map cn) (fun r hr=>(AI kE r hr).mono (by omega)) (by rw[N];omega);(first|rw[v,N,hlE] at h|(rw[v] at h;unfold sL at h;rw[N,hlE] at h));exact Ec h
  ·have h:=GQ (rs:=(Y (C3 p d ((w d).natAbs:Int) b (p.length-1))).map cn) (AI kE.trim) (by omega) (by rw[N];omega);rw[v] at h;have e:prim (Y (C3 p d ((w d).natAbs:Int) b (p.length-1)))=D8 p d:=by
    rw[VT hd0 hl,<- hb];exact Ka (CG _)
   rw[e] at h;exact Ec h
 by_cases hneg:w d<0
 ·have hng:=Sd (neg:=((p.map cn).getD (p.length-1) z0).1) gl.1 (by have:=gl.2;omega);rw[show rv ((p.map cn).getD (p.length-1) z0).1 ((p.map cn).getD (p.length-1) z0).2=w p from vl] at hng;have hb : -(w p)=sg (w d)*w p:=by unfold sg;rw[if_pos hneg];omega
  obtain⟨t1,t2⟩:=hT _ (Et hp).neg hb;exact Aru (p.map cn) (d.map cn) (cn (w d)) ((C3 p d ((w d).natAbs:Int) (-(w p)) (p.length-1)).map cn) _ _ (p.length-1) ((p.length-1:Nat):Int) (by rw[decide_eq_true_eq];omega) (by rw[u,decide_eq_true_eq];unfold BL;rw[if_pos hneg];decide) (by rw[e1];omega) (by rw[u];exact hs) (by rw[e1,F,vl];exact hng)
   (by rw[e1,e2,F,vl];exact Rf hp hd (Et hp).neg hS hd0 hl hN) t1 t2
 ·have hb:w p=sg (w d)*w p:=by unfold sg;rw[if_neg hneg];omega
  obtain⟨t1,t2⟩:=hT _ (Et hp) hb;have hu:(p.map cn).getD (p.length-1) z0=cn (w p):=ER (by omega);exact Arv (p.map cn) (d.map cn) (cn (w d)) ((C3 p d ((w d).natAbs:Int) (w p) (p.length-1)).map cn) _ _ (p.length-1) ((p.length-1:Nat):Int) (by rw[decide_eq_true_eq];omega) (by rw[u,decide_eq_false_iff_not];unfold BL;rw[if_neg hneg];split <;> decide) (by rw[e1];omega) (by rw[u];exact hs)
   (by rw[e1,e2,F,hu];exact Rf hp hd (Et hp) hS hd0 hl hN) t1 t2
end
theorem eH{d:List Int}{Kd:Nat}(hd:Kb Kd d)(hd0:d ≠ []):∀ (f:Nat) (p:List Int) (J:Nat),p.length<=f->Kb J p->J+(p.length+1-d.length)*(Kd+1)<1000000->p.length<=1048576 ->
  W I (.loop PD) (J3 (p.map cn) (d.map cn) (cn (w d))) (.exit 0) (J3 ((DT f p d).map cn) (d.map cn) (cn (w d))):=by
 have hdl:=Aj.2 hd0;intro f;induction f with
 | zero =>
  intro p J hf _ _ _;exact Am (dC (p.map cn) (d.map cn) (cn (w d)) (by rw[decide_eq_false_iff_not,N,N];omega)) (by nofun)
 | succ f ih =>
  intro p J hf hJ hS hN;simp only[DT];split
  ·rename_i hl;have hplen:=IQ hd0 hl;have e:((D8 p d).length+1-d.length)+1<=p.length+1-d.length:=by omega
   have:=AD (Kd+1) e;rw[DN,EV] at this;have h1:=eG hJ hd (by
    have h2:1*(Kd+1)<=(p.length+1-d.length)*(Kd+1):=AD _ (by omega);omega) hd0 hl hN
   exact W.loop h1 (ih (D8 p d) (J+Kd+1) (by omega) (Sk hJ hd) (by omega) (by omega))
  ·rename_i hl;exact Am (dC (p.map cn) (d.map cn) (cn (w d)) (by rw[decide_eq_false_iff_not,N,N];omega)) (by nofun)
theorem Zy{x y:List Int}(hy:Y y ≠ []):Bz x (Y y)=Bz x (prim y):=by
 unfold Bz;rw[<- Jh y,Zs (by have:=HS hy;omega)]
theorem Qf{rs ss:List Rn}{J K:Nat}(hr:∀ r∈rs,AN J r)(hs:∀ r∈ss,AN K r)(hJ:J<1000000)(hK:K<1000000)(hn:rs.length<=1048576)(hm:ss.length<=1048576)(h0:Y (M ss) ≠ [])(hS:J+((Y (M rs)).length+1-(Y (M ss)).length)*(K+1)<1000000) :
  H I 119 [sL pc rs,sL pc ss] (eB (Bz (prim (M rs)) (prim (M ss)))):=by
 have p1:=GQ hr hJ hn;have p2:=E_ (fun r h=>(hs r h).mono (show K<=1048576 by omega)) hm;have k1:Kb J (prim (M rs)):=(HJ (Cs hr)).prim;have k2:Kb K (Y (M ss)):=(HJ (Cs hs)).trim;have l1:(prim (M rs)).length<=rs.length:=by rw[BB];have:=Bf (M rs);rwa [s] at this
 have l2:(Y (M ss)).length<=ss.length:=by have:=Bf (M ss);rwa [s] at this
 have hl:=Aj.2 h0;have hlp:=eH k2 h0 (prim (M rs)).length (prim (M rs)) J (An _) k1 (by rw[BB];exact hS) (by omega);have e1:D R (((((Y (M ss)).map cn).length:Nat):Int)-1)=(((Y (M ss)).length-1:Nat):Int):=by rw[N,Bg (by omega) (by omega)];omega
 rw[<- Zy h0];exact Arw rs ss _ _ ((Bz (prim (M rs)) (Y (M ss))).map cn) (cn (w (Y (M ss)))) (Ec p1) (Ec p2) (by rw[e1,N];omega) (by
  rw[e1,F,ER (show (Y (M ss)).length-1<(Y (M ss)).length by omega)];exact hlp)
theorem Wk:∀ (f:Nat) (x y:List Int) (M:Nat),0<M->y.length<=f->y.length<=x.length->x.length<=1048576->prim x=x->prim y=y->Kb (M-1) x->Kb (M-1) y->M*ID x.length y.length<=500000 ->
  ∃ bs,W I (.loop PA) (J4 (x.map cn) (y.map cn)) (.exit 0) (J4 ((HK f x y).map cn) bs):=by
 intro f;induction f with
 | zero =>
  intro x y M _ h1 _ _ _ _ _ _ _;have:y=[]:=A1 (by omega);subst this;exact⟨_,Am (dH _ _ (by simp)) (by nofun)⟩
 | succ f ih =>
  intro x y M hM h1 h2 h3 px py kx ky hphi;simp only[HK];split
  ·rename_i h;subst h;exact⟨_,Am (dH _ _ (by simp)) (by nofun)⟩
  ·rename_i h;have hyl:=Aj.2 h;obtain⟨r1,r2,r3⟩:=Kc hM (Cl px) h kx ky h2;have hM':0<M*(x.length-y.length+2):=Eu hM (by omega);have hMle:M<=M*(x.length-y.length+2):=BV M (by omega);have hbig:M*(x.length-y.length+2)<=500000:=by
    refine Bp (z _ ?_) hphi;unfold ID;exact BV _ (Cx (by decide))
   have hrem:=Qf (rs:=x.map cn) (ss:=y.map cn) (AI kx) (AI ky) (by omega) (by omega) (by rw[N];exact h3) (by rw[N];omega) (by rw[v,Cl py];exact h) (by
    rw[v,v,Cl px,Cl py,La hM,show x.length+1-y.length=x.length-y.length+1 by omega,CM _ M];have:M*(x.length-y.length+2)=M*(x.length-y.length+1)+M:=by rw[<- OZ]
    omega)
   rw[v,v,px,py] at hrem;have k:=dF (x.map cn) (y.map cn) _ (by simp;omega) hrem;obtain⟨bs,hb⟩:=ih y (Bz x y) (M*(x.length-y.length+2)) hM' (by omega) (by omega) (by omega) py (HT _ _ _ px) (ky.mono (by omega)) r3 (Ke r2 hphi);exact⟨bs,W.loop k hb⟩
theorem Pw{rs ss:List Rn}{g:List Int}{bs:List Rn}{K:Nat}(hr:∀ r∈rs,AN K r)(hs:∀ r∈ss,AN K r)(hK:K<1000000)(hn:rs.length<=1048576)(hm:ss.length<=1048576){Kg:Nat}(hg:Kb Kg g)(hgL:BN g)(hKg:Kg<=1048576)(hgl:g.length<=1048576)
  (hl:W I (.loop PA) (J4 ((prim (M rs)).map cn) ((prim (M ss)).map cn)) (.exit 0) (J4 (g.map cn) bs)) :
  MK 70 [sL pc rs,sL pc ss] (y g):=by
 have p1:=GQ hr hK hn;have p2:=GQ hs hK hm;obtain⟨q1,q2⟩:=MO hg hgL hKg hgl;by_cases h:w g<0
 ·exact .inl (zX rs ss _ _ (g.map cn) bs _ (Ec p1) (Ec p2) hl (q1 h))
 ·rw[OM h];exact .inr (zY rs ss _ _ (g.map cn) bs (Ec p1) (Ec p2) hl (q2 h))
theorem Rg{rs ss:List Rn}{K c:Nat}(hr:∀ r∈rs,AN K r)(hs:∀ r∈ss,AN K r)(hn:rs.length<=c)(hm:ss.length<=c)(hc:c<=1048576)(hS:(K+1)*(2*3^c)<=500000) :
  MK 70 [sL pc rs,sL pc ss] (y (Nd (prim (M rs)) (prim (M ss)))):=by
 have h3:0<3^c:=Cx (by decide);have hK:K+1<=500000:=by
  have:(K+1)*1<=(K+1)*(2*3^c):=z _ (by omega);omega
 have k1:Kb K (prim (M rs)):=(HJ (Cs hr)).prim;have k2:Kb K (prim (M ss)):=(HJ (Cs hs)).prim;have l1:(prim (M rs)).length<=rs.length:=by rw[BB];have:=Bf (M rs);rwa [s] at this
 have l2:(prim (M ss)).length<=ss.length:=by rw[BB];have:=Bf (M ss);rwa [s] at this
 unfold Nd;split
 ·rename_i hl;have hphi:(K+1)*ID (prim (M rs)).length (prim (M ss)).length<=500000:=Bp (z _ (Oe hl (by omega))) hS;obtain⟨bs,hb⟩:=Wk (prim (M ss)).length (prim (M rs)) (prim (M ss)) (K+1) (by omega) (An _) hl (by omega) (BI _) (BI _) k1 k2 hphi;obtain⟨s1,s2⟩:=Lg (prim (M ss)).length (prim (M rs)) (prim (M ss)) (K+1) (by omega) (An _) hl (B_ _) (B_ _) k1 k2;exact Pw hr hs (by omega) (by omega) (by omega) s1 (Cl (Lf _ _ _ (BI _) (BI _))) (by omega) (by omega) hb
 ·rename_i hl;have hphi:(K+1)*ID (prim (M ss)).length (prim (M rs)).length<=500000:=Bp (z _ (Oe (by omega) (by omega))) hS;obtain⟨bs,hb⟩:=Wk (prim (M rs)).length (prim (M ss)) (prim (M rs)) (K+1) (by omega) (An _) (by omega) (by omega) (BI _) (BI _) k2 k1 hphi;obtain⟨s1,s2⟩:=Lg (prim (M rs)).length (prim (M ss)) (prim (M rs)) (K+1) (by omega) (An _) (by omega) (B_ _) (B_ _) k2 k1;have hy0:prim (M ss) ≠ []:=by intro h;rw[h] at hl;simp at hl
  have hsw:Bz (prim (M rs)) (prim (M ss))=prim (M rs):=by
   unfold Bz;cases hx:(prim (M rs)).length with
   | zero=>rfl
   | succ n=>simp only[DT];rw[if_neg hl]
  have hrem:=Qf (rs:=(prim (M rs)).map cn) (ss:=(prim (M ss)).map cn) (AI k1) (AI k2) (by omega) (by omega) (by rw[N];omega) (by rw[N];omega) (by rw[v,B_];exact hy0) (by
   rw[v,v,B_,B_,show (prim (M rs)).length+1-(prim (M ss)).length=0 by omega,SK];omega)
  rw[v,v,BI,BI,hsw] at hrem;have k:=dF ((prim (M rs)).map cn) ((prim (M ss)).map cn) _ (by rw[decide_eq_true_eq,N];omega) hrem;exact Pw hr hs (by omega) (by omega) (by omega) s1 (Cl (Lf _ _ _ (BI _) (BI _))) (by omega) (by omega) (W.loop k hb)
section
variable {p d:List Int} {J Kd:Nat}
theorem Atd{t:Int}{l:Rn}{rs ds:List Rn}{q:Int}(hp:Kb J p)(ht:Bj Kd t)(hS:J+Kd<1000000)(hN:p.length<=1048576) :
  W I (.loop O4) (IP rs ds (cn t) p.length (p.map cn) l q 0) (.exit 2) (IP rs ds (cn t) p.length ((Av t p).map cn) l q (p.length:Nat)):=by
 have hE:((Av t p).map cn).length=(p.map cn).length:=by rw[N,N,AX]
 have hpl:(p.map cn).length=p.length:=N ..;have h:=W.up (prog:=I) (c:=O4) (ex := .exit 2) (fin:=IP rs ds (cn t) p.length ((Av t p).map cn) l q (p.length:Nat))
  (fun i=>IP rs ds (cn t) p.length (Fu ((Av t p).map cn) (p.map cn) i) l q (i:Nat)) p.length (by nofun) ?_ ?_ 0 (Bv _)
 ·rw[MI] at h;exact h
 ·intro i hi;have ei:D R ((i:Int)+1)=((i+1:Nat):Int):=by rw[Bg (by omega) (by omega)];omega
  have hml:=Hg hE i;have hget:=LP hE (i:=i) (by omega);have hEi:((Av t p).map cn).getD i z0=cn ((Av t p).getD i 0):=ER (by rw[AX];exact hi);have hset:=LQ hE (i:=i) (by omega);rw[hEi,AJ] at hset;have gp:=Be (AI hp) i;have gt:=B9 ht;have vi:=FU p i;have m1:=Wj gp gt (by omega);generalize Fu ((Av t p).map cn) (p.map cn) i=M at *
  have k:=zZ rs ds (cn t) p.length M l q (i:Nat) (by simp;omega) (by omega) (by omega) (by rw[F,hget];exact m1);refine k.to rfl ?_;simp only[ei,F,hget];rw[vi,u,A8,hset]
 ·rw[show Fu ((Av t p).map cn) (p.map cn) p.length=(Av t p).map cn by have h:=MJ hE;rw[hpl] at h;exact h];exact Aaa _ _ _ _ _ _ _ _ (by simp)
theorem Ate{b:Int}{k:Nat}{os:List Rn}(hp:Kb J p)(hd:Kb Kd d)(hb:Bj J b)(hS:J+Kd+1<1000000)(hd0:d ≠ [])(hl:d.length<=p.length)(hN:p.length<=1048576) :
  W I (.loop Mq) (Hd (p.map cn) (d.map cn) (cn (w d)) k os (cn b) ((p.length-d.length:Nat):Int) 0 [] 0) (.exit 4)
   (Hd (p.map cn) (d.map cn) (cn (w d)) k os (cn b) ((p.length-d.length:Nat):Int) (p.length-1) (pc ((C3 p d (w d) b (p.length-1)).map cn)) ((p.length-1:Nat):Int)):=by
 have hdl:=Aj.2 hd0;have hlm:(p.map cn).length=p.length:=N ..;have hld:(d.map cn).length=d.length:=N ..;have e1:D R ((((p.map cn).length:Nat):Int)-1)=((p.length-1:Nat):Int):=by rw[hlm,Bg (by omega) (by omega)];omega
 have h:=W.up (prog:=I) (c:=Mq) (ex := .exit 4) (fin:=Hd (p.map cn) (d.map cn) (cn (w d)) k os (cn b) ((p.length-d.length:Nat):Int) (p.length-1) (pc ((C3 p d (w d) b (p.length-1)).map cn)) ((p.length-1:Nat):Int))
  (fun i=>Hd (p.map cn) (d.map cn) (cn (w d)) k os (cn b) ((p.length-d.length:Nat):Int) i (pc ((Ao i).map fun j=>cn (Nm p d (w d) b j))) (i:Nat)) (p.length-1) (by nofun) ?_ ?_ 0 (Bv _)
 ·exact h
 ·intro i hi;have ei:D R ((i:Int)+1)=((i+1:Nat):Int):=by rw[Bg (by omega) (by omega)];omega
  have gp:=Be (AI hp) i;have ga:=B9 (Et hd);have gb:=B9 hb;have vi:=FU p i;have m1:=Wj ga gp (by omega);have va:=u (w d);by_cases hat:p.length-d.length<=i
  ·have ea:D R ((i:Int)-((p.length-d.length:Nat):Int))=((i-(p.length-d.length):Nat):Int):=by rw[Bg (by omega) (by omega)];omega
   have gq:=Be (AI hd) (i-(p.length-d.length));have vq:=FU d (i-(p.length-d.length));have m2:=Wj gb gq (by omega);have f1:Bj (Kd+J) (O (cn (w d))*O ((p.map cn).getD i z0)):=ga.fits.mul gp.fits;have f2:Bj (J+Kd) (O (cn b)*O ((d.map cn).getD (i-(p.length-d.length)) z0)):=gb.fits.mul gq.fits;have m3:=Atc (B9 f1) (B9 f2) (by omega) (by omega);rw[u (O (cn (w d))*_),u (O (cn b)*O ((d.map cn).getD (i-(p.length-d.length)) z0))] at m3;have k:=Aab (p.map cn) (d.map cn) (cn (w d)) k os (cn b) ((p.length-d.length:Nat):Int) i (pc ((Ao i).map fun j=>cn (Nm p d (w d) b j))) (i:Nat) (by rw[e1,decide_eq_true_eq];omega) (by rw[decide_eq_true_eq];omega) (by omega) (by rw[ea];omega) (by omega)
    (by rw[F];exact m1) (by rw[ea,F];exact m2) (by rw[ea,F,F];exact m3)
   refine k.to rfl ?_;rw[ea,F,F,ei];rw[<- Gq (Nm p d (w d) b) i];unfold Nm;rw[if_pos hat,va,vi,u,vq]
  ·have k:=Aac (p.map cn) (d.map cn) (cn (w d)) k os (cn b) ((p.length-d.length:Nat):Int) i (pc ((Ao i).map fun j=>cn (Nm p d (w d) b j))) (i:Nat) (by rw[e1,decide_eq_true_eq];omega) (by rw[decide_eq_false_iff_not];omega) (by omega) (by omega)
    (by rw[F];exact m1)
   refine k.to rfl ?_;rw[F,ei];rw[<- Gq (Nm p d (w d) b) i];unfold Nm;rw[if_neg hat,va,vi]
 ·show W _ _ (Hd _ _ _ _ _ _ _ _ (pc ((Ao (p.length-1)).map fun j=>cn (Nm p d (w d) b j))) _) _ _;rw[eF];exact Aad _ _ _ _ _ _ _ _ _ _ (by rw[e1,decide_eq_false_iff_not];omega)
end
theorem eI{d:List Int}{Kd:Nat}(hd:Kb Kd d)(hd0:d ≠ []):∀ (f:Nat) (r out:List Int) (J:Nat),r.length<=f->Kb J r->Kb J out->J+(r.length+1-d.length)*(Kd+1)<1000000->r.length+1<=out.length+d.length->out.length<=1048576->r.length<=1048576 ->
  (∃ r',W I (.loop UP) (Qa (r.map cn) (d.map cn) (cn (w d)) out.length (out.map cn)) (.exit 0) (Qa r' (d.map cn) (cn (w d)) out.length ((K1 d f r out).map cn)))/\Kb (J+(r.length+1-d.length)*(Kd+1)) (K1 d f r out)/\(K1 d f r out).length=out.length:=by
 have hdl:=Aj.2 hd0;have hld:(d.map cn).length=d.length:=N ..;intro f;induction f with
 | zero =>
  intro r out J hf _ ho _ _ _ _;exact⟨⟨_,Am (dI (r.map cn) (d.map cn) (cn (w d)) out.length (out.map cn) (by rw[decide_eq_false_iff_not,N,N];omega)) (by nofun)⟩,ho.mono (O' _ _),rfl⟩
 | succ f ih =>
  intro r out J hf hJ ho hS hlo hN1 hN;have hlm:(r.map cn).length=r.length:=N ..;simp only[K1];split
  ·rename_i hl;have e1:D R ((((r.map cn).length:Nat):Int)-1)=((r.length-1:Nat):Int):=by rw[hlm,Bg (by omega) (by omega)];omega
   have e2:D R ((((r.map cn).length:Nat):Int)-(((d.map cn).length:Nat):Int))=((r.length-d.length:Nat):Int):=by rw[hlm,hld,Bg (by omega) (by omega)];omega
   have hlen:=LN hd0 hl;have e:((Y (C3 r d (w d) (w r) (r.length-1))).length+1-d.length)+1<=r.length+1-d.length:=by omega
   have hmul:=AD (Kd+1) e;rw[DN,EV] at hmul;have hsz:J+Kd+1<1000000:=by omega
   have kE:Kb (J+Kd+1) (C3 r d (w d) (w r) (r.length-1)):=QX hJ hd (Et hd) (Et hJ) _;have hlE:=Eb r d (w d) (w r) (r.length-1);have hps:=Sp ho (Et hd);have ht:=E_ (rs:=(C3 r d (w d) (w r) (r.length-1)).map cn) (fun x hx=>(AI kE x hx).mono (by omega)) (by rw[N];omega);(first|rw[v,N,hlE] at ht|(rw[v] at ht;unfold sL at ht;rw[N,hlE] at ht));have hu:(r.map cn).getD (r.length-1) z0=cn (w r):=ER (by omega);have hset:((Av (w d) out).map cn).set (r.length-d.length) (cn (w r))=((Av (w d) out).set (r.length-d.length) (w r)).map cn:=by rw[Awf]
   obtain⟨⟨r',hr'⟩,kb,len⟩:=ih (Y (C3 r d (w d) (w r) (r.length-1))) ((Av (w d) out).set (r.length-d.length) (w r)) (J+Kd+1) (by omega) kE.trim (sK (hps.mono (by omega)) ((Et hJ).mono (by omega)) _) (by omega) (by rw[AW,AX];omega) (by rw[AW,AX];exact hN1) (by omega);rw[AW,AX] at hr' len;refine⟨⟨r',W.loop ?_ hr'⟩,kb.mono (by omega),len⟩;have k:=Arx (r.map cn) (d.map cn) (cn (w d)) out.length (out.map cn) ((Av (w d) out).map cn) ((C3 r d (w d) (w r) (r.length-1)).map cn) _ (r.length-1) (out.length:Nat) ((r.length-1:Nat):Int) (by rw[decide_eq_true_eq];omega) (by rw[e1];omega)
    (by rw[e1,e2,F,hu];exact Atd ho (Et hd) (by omega) hN1) (by rw[e2];omega) (by rw[N,AX])
    (by rw[e1,e2,F,F,hu];exact Ate hJ hd (Et hJ) hsz hd0 hl hN) (Ec ht)
   rw[e1,e2,F,F,hu,hset] at k;exact k
  ·rename_i hl;exact⟨⟨_,Am (dI (r.map cn) (d.map cn) (cn (w d)) out.length (out.map cn) (by rw[decide_eq_false_iff_not,N,N];omega)) (by nofun)⟩,ho.mono (O' _ _),rfl⟩
theorem nS{p q:List Int}{J K:Nat}(hp:Kb J p)(hq:Kb K q)(lp:BN p)(lq:BN q)(hq0:q ≠ [])(tq:0<w q)(tp:0<w p)(hl:q.length<=p.length)(hN:p.length<=1000000)(hS:J+(p.length+1-q.length)*(K+1)<1000000) :
  H I 123 [A6n (p.map cn).length (pc (p.map cn)),A6n (q.map cn).length (pc (q.map cn))] (eB (prim (K1 q p.length p (Ar (p.length-q.length+1) 0)))):=by
 have hql:=Aj.2 hq0;have hlp:(p.map cn).length=p.length:=N ..;have hlq:(q.map cn).length=q.length:=N ..;have h1:1*(K+1)<=(p.length+1-q.length)*(K+1):=AD _ (by omega);have t1:=E_ (rs:=p.map cn) (fun r h=>(AI hp r h).mono (show J<=1048576 by omega)) (by omega);have t2:=E_ (rs:=q.map cn) (fun r h=>(AI hq r h).mono (show K<=1048576 by omega)) (by omega);rw[v,lp] at t1;rw[v,lq] at t2;have hz:(Ar (p.length-q.length+1) (0:Int)).map cn=Ar (p.length-q.length+1) z0:=by rw[A6h,Atb]
 obtain⟨⟨r',hlp2⟩,kb,len⟩:=eI hq hq0 p.length p (Ar (p.length-q.length+1) 0) J (An _) hp (fun i=>by rw[Dx];exact GH _) hS (by simp;omega) (by simp;omega) (by omega);rw[E'] at hlp2 len;obtain⟨c',r1,a1,a2,_,a4⟩:=Of (p:=p) hq0 tq hl;have tO:=Yc a1 tp hq0 tq hl len a4 a2;generalize K1 q p.length p (Ar (p.length-q.length+1) 0)=o at *
 have e1:D R ((((q.map cn).length:Nat):Int)-1)=((q.length-1:Nat):Int):=by rw[hlq,Bg (by omega) (by omega)];omega
 have e2:D R (D R ((((p.map cn).length:Nat):Int)-(((q.map cn).length:Nat):Int))+1)=((p.length-q.length+1:Nat):Int):=by
  rw[hlp,hlq,Bg (n:=(p.length:Int)-(q.length:Nat)) (by omega) (by omega),Bg (by omega) (by omega)];omega
 have t3:=E_ (rs:=o.map cn) (fun r h=>(AI kb r h).mono (by omega)) (by rw[N];omega);(first|rw[v,N,len] at t3|(rw[v] at t3;unfold sL at t3;rw[N,len] at t3));have htl:=Bf o;have p3:=GQ (rs:=(Y o).map cn) (AI kb.trim) (by omega) (by rw[N];omega);rw[v,Ka (CG o)] at p3;have hpl:(prim o).length<=o.length:=by rw[BB];exact htl
 have hps:=(MO (p:=prim o) kb.prim (B_ o) (by omega) (by omega)).2 (by have:=Ps tO;omega);exact Ary (p.map cn) (q.map cn) (p.map cn) (q.map cn) r' (o.map cn) _ _ (cn (w q)) (p.length-q.length+1) (Ec t1) (Ec t2) (by rw[e1,hlq];omega) (by rw[e2];omega)
  (by rw[e1,e2,F,F,NP,<- hz,ER (show q.length-1<q.length by omega)];exact hlp2) (Ec t3) (Ec p3) hps
theorem Abb{p:List Int}{c:Int}(hc:0<c)(hp:prim p=p)(hl:1<=p.length):prim (K1 [c] p.length p (Ar (p.length-1+1) 0))=p:=by
 obtain⟨c',r',a1,a2,_,a4⟩:=Of (p:=p) (d:=[c]) (by simp) (show 0<w [c] from hc) hl;have lq:BN [c]:=Od (.inr (by show c ≠ 0;omega));have h:=QZ a1 hc (QY (o2:=p) (r2:=[]) (c2:=c) lq (by simp) a4 (fun x=>by simp[Aa]) a2 (fun i _=>rfl));rw[hp] at h;exact h
theorem Rh{rs:List Rn}{K c:Nat}(hr:∀ r∈rs,AN K r)(hn:rs.length<=c)(hc:c<=9)(hS:(K+3)*(2*3^c)<=500000):H I 73 [sL pc rs] (eB (Ab (M rs))):=by
 have h3:0<3^c:=Cx (by decide);have hK:K+3<=250000:=by
  have:(K+3)*2<=(K+3)*(2*3^c):=z _ (by omega);omega
 have p1:=Ec (GQ hr (by omega) (by omega));have k1:Kb K (prim (M rs)):=(HJ (Cs hr)).prim;have l1:(prim (M rs)).length<=rs.length:=by rw[BB];have:=Bf (M rs);rwa [s] at this
 obtain⟨q1,q2⟩:=MO k1 (B_ _) (by omega) (by omega);have ka:Kb K (y (prim (M rs))):=by
  unfold y;split
  ·intro i;rw[GI];exact (k1 i).neg
  ·exact k1
 have la:=JP (prim (M rs));have lda:BN (y (prim (M rs))):=MH (B_ _);have hpp:(¬ w (prim (M rs))<0)->y (prim (M rs))=prim (M rs):=OM;have hder:=Yf (rs:=(y (prim (M rs))).map cn) (AI ka) (by omega) (by rw[N];omega);rw[v] at hder;have hder':=Ec hder;have kd:Kb (K+2) (Aq (y (prim (M rs)))):=Wh ka (by omega);have ld:(Aq (y (prim (M rs)))).length<=c:=by have:=So (y (prim (M rs)));omega
 have hcom:=Rg (rs:=(y (prim (M rs))).map cn) (ss:=(Aq (y (prim (M rs)))).map cn) (K:=K+2) (c:=c) (fun r h=>(AI ka r h).mono (by omega)) (AI kd) (by rw[N];omega) (by rw[N];exact ld) (by omega) hS;rw[v,v] at hcom;change MK 70 _ (BE (y (prim (M rs))) (Aq (y (prim (M rs))))) at hcom;have hover:2<=(y (prim (M rs))).length->H I 123 [A6n ((y (prim (M rs))).map cn).length (pc ((y (prim (M rs))).map cn)),A6n ((BE (y (prim (M rs))) (Aq (y (prim (M rs))))).map cn).length (pc ((BE (y (prim (M rs))) (Aq (y (prim (M rs))))).map cn))] (eB (Ab (M rs))):=by
  intro h2;have hp0:Y (M rs) ≠ []:=by
   intro h0;have:prim (M rs)=[]:=Do.2 (CL.1 h0);rw[this] at h2;exact absurd h2 (by decide)
  obtain⟨a1,a2,a3,a4,_,_⟩:=Oh hp0;have hta:Y (y (prim (M rs))) ≠ []:=CU a1 a2;obtain⟨b1,b2⟩:=dX (t:=Aq (y (prim (M rs)))) hta (by omega) ka;rw[a1] at b2;have nG:=H6 (t:=Aq (y (prim (M rs)))) hta;have lG:=Ep (y (prim (M rs))) (Aq (y (prim (M rs))));have tG:=OL (t:=Aq (y (prim (M rs)))) hta;have h:=nS ka b1 lda lG nG tG a4 b2 (by omega) (by
   have h4:(y (prim (M rs))).length+1-(BE (y (prim (M rs))) (Aq (y (prim (M rs))))).length<=10:=by omega
   have h5:=AD (K+3+1) h4;have h6:3^2<=3^c:=B4 (by decide) (by omega);have h7:(K+3)*18<=(K+3)*(2*3^c):=z _ (by omega);omega)
  have e:prim (K1 (BE (y (prim (M rs))) (Aq (y (prim (M rs))))) (y (prim (M rs))).length (y (prim (M rs))) (Ar ((y (prim (M rs))).length-(BE (y (prim (M rs))) (Aq (y (prim (M rs))))).length+1) 0))=Ab (M rs):=by
   unfold Ab;by_cases hg:(BE (y (prim (M rs))) (Aq (y (prim (M rs))))).length<2
   ·rw[if_pos (.inr hg)];have hgl:=Aj.2 nG;obtain⟨c,hc⟩:=LS (show (BE (y (prim (M rs))) (Aq (y (prim (M rs))))).length=1 by omega);rw[hc] at tG |-;exact Abb tG (IU a1 a3) (by omega)
   ·rw[if_neg (by omega)];exact (Ass lG nG tG b2).symm
  rw[e] at h;exact h
 by_cases hs:(y (prim (M rs))).length<2
 ·have e:Ab (M rs)=y (prim (M rs)):=by unfold Ab;rw[if_pos (.inl hs)]
  rw[e];by_cases ht:w (prim (M rs))<0
  ·exact Zj rs _ _ (by rw[decide_eq_true_eq,N];omega) p1 (q1 ht)
  ·rw[hpp ht] at hs |-;exact Zn rs _ (by rw[decide_eq_true_eq,N];omega) p1 (q2 ht)
 ·have hover:=hover (by omega);by_cases ht:w (prim (M rs))<0
  ·rcases hcom with h | h
   ·exact Zk rs _ _ _ _ _ (by rw[decide_eq_false_iff_not,N];omega) p1 (q1 ht) hder' h hover
   ·exact Zl rs _ _ _ _ _ (by rw[decide_eq_false_iff_not,N];omega) p1 (q1 ht) hder' h hover
  ·rw[hpp ht] at *
   rcases hcom with h | h
   ·exact Zm rs _ _ _ _ (by rw[decide_eq_false_iff_not,N];omega) p1 (q2 ht) hder' h hover
   ·exact Zo rs _ _ _ _ (by rw[decide_eq_false_iff_not,N];omega) p1 (q2 ht) hder' h hover
def DC:Nat->List Int->List Int->List (List Int)
 | 0,_,_=>[]
 | f+1,a,b=>if b=[] then [] else b::DC f b (BZ (Bz a b))
def BD(p:List Int):List (List Int):=if Ab p=[] then [] else Ab p::DC (Ab p).length (Ab p) (prim (Aq (Ab p)))
theorem J9{p:List Int}(h:prim p=p):prim (BZ p)=BZ p:=by
 by_cases h0:p=[]
 ·subst h0;rfl
 ·have hl:BN p:=Cl h;have h1:=K0 (xs:=p) (by rw[hl];exact h0);rw[h] at h1;exact IU (HM hl) (by rw[Wb];exact h1)
theorem Wl{K:Nat}{p:List Int}(h:Kb K p):Kb K (BZ p):=fun i=>by rw [GI];exact (h i).neg
def Dm(l:List (List Int)):List (List Rn):=l.map fun p=>p.map cn
theorem eJ(ls:List (List Rn))(rs:List Rn):pp ls++([sL pc rs]:List AV)=pp (ls++[rs]):=by simp [pp]
def sM(p:List Int):Prop:=Kb 500000 p/\p.length<=9/\BN p
theorem Zz:∀ (f:Nat) (x y:List Int) (M:Nat),0<M->y.length<=x.length->x.length<=9->prim x=x->prim y=y->Kb (M-1) x->Kb (M-1) y->M*ID x.length y.length<=500000 ->
  ∀ p∈DC f x y,sM p:=by
 intro f;induction f with
 | zero=>intro x y M _ _ _ _ _ _ _ _ p hp;cases hp
 | succ f ih =>
  intro x y M hM h2 h3 px py kx ky hphi p hp;simp only[DC] at hp;split at hp
  ·cases hp
  ·rename_i h;obtain⟨r1,r2,r3⟩:=Kc hM (Cl px) h kx ky h2;have hM':0<M*(x.length-y.length+2):=Eu hM (by omega);have hMle:M<=M*(x.length-y.length+2):=BV M (by omega);have hb:M*1<=M*ID x.length y.length:=z _ (by unfold ID;exact Eu (by omega) (Cx (by decide)));rcases CS.1 hp with rfl | hp
   ·exact⟨ky.mono (by omega),by omega,Cl py⟩
   ·exact ih y (BZ (Bz x y)) (M*(x.length-y.length+2)) hM' (by rw[DG];omega) (by omega) py (J9 (HT _ _ _ px)) (ky.mono (by omega)) (Wl r3) (by rw[DG];exact Ke r2 hphi) p hp
theorem Ts:∀ (f:Nat) (x y:List Int),(DC f x y).length<=f
 | 0,_,_=>An _
 | f+1,x,y=>by
  simp only[DC];split
  ·simp
  ·have:=Ts f y (BZ (Bz x y));simp;omega
theorem eL:∀ (f:Nat) (x y:List Int) (M:Nat) (ls:List (List Rn)),0<M->y.length<=f->y.length<=x.length->x.length<=9->prim x=x->prim y=y->Kb (M-1) x->Kb (M-1) y->M*ID x.length y.length<=500000->ls.length+f<=1000 ->
  ∃ as' bs',W I (.loop X4) (Pp (x.map cn) ls.length (pp ls) (y.map cn)) (.exit 0) (Pp as' (ls++Dm (DC f x y)).length (pp (ls++Dm (DC f x y))) bs'):=by
 intro f;induction f with
 | zero =>
  intro x y M ls _ h1 _ _ _ _ _ _ _ _;have:y=[]:=A1 (by omega);subst this;have e:ls++Dm (DC 0 x [])=ls:=by simp[Dm,DC]
  rw[e];exact⟨_,_,Am (sF _ _ _ _ (by simp)) (by nofun)⟩
 | succ f ih =>
  intro x y M ls hM h1 h2 h3 px py kx ky hphi hls;simp only[DC];split
  ·rename_i h;subst h;have e:ls++Dm []=ls:=by simp[Dm]
   rw[e];exact⟨_,_,Am (sF _ _ _ _ (by simp)) (by nofun)⟩
  ·rename_i h;have hyl:=Aj.2 h;obtain⟨r1,r2,r3⟩:=Kc hM (Cl px) h kx ky h2;have hM':0<M*(x.length-y.length+2):=Eu hM (by omega);have hMle:M<=M*(x.length-y.length+2):=BV M (by omega);have hbig:M*(x.length-y.length+2)<=500000:=by
    refine Bp (z _ ?_) hphi;unfold ID;exact BV _ (Cx (by decide))
   have hrem:=J8 (rs:=x.map cn) (ss:=y.map cn) (AI kx) (AI ky) (by omega) (by omega) (by rw[N];omega) (by rw[N];omega) (by rw[v,py];exact h) (by
    rw[v,v,px,py,La hM,show x.length+1-y.length=x.length-y.length+1 by omega,CM _ M];have:M*(x.length-y.length+2)=M*(x.length-y.length+1)+M:=by rw[<- OZ]
    omega)
   rw[v,v,px,py] at hrem;have hneg:=Kz (rs:=(Bz x y).map cn) (fun r hr=>(AI r3 r hr).mono (by omega)) (by rw[N];omega);rw[v] at hneg;have hneg':H I 117 [A6n ((Bz x y).map cn).length (pc ((Bz x y).map cn))] (A6p 2 ((BZ (Bz x y)).map cn).length (pc ((BZ (Bz x y)).map cn))):=by
    have e:((BZ (Bz x y)).map cn).length=((Bz x y).map cn).length:=by rw[N,N,DG]
    rw[e];exact hneg
   have k:=Azx (x.map cn) ls.length (pp ls) (y.map cn) _ _ (by simp;omega) (by omega) (Ec hrem) hneg';rw[eJ] at k;obtain⟨as',bs',hb⟩:=ih y (BZ (Bz x y)) (M*(x.length-y.length+2)) (ls++[y.map cn]) hM' (by rw[DG];omega) (by rw[DG];omega) (by omega) py (J9 (HT _ _ _ px)) (ky.mono (by omega)) (Wl r3) (by rw[DG];exact Ke r2 hphi) (by rw[AY];simp;omega);have e:ls++[y.map cn]++Dm (DC f y (BZ (Bz x y)))=ls++Dm (y::DC f y (BZ (Bz x y))):=by simp[Dm]
   rw[e] at hb;have el:(ls++[y.map cn]).length=ls.length+1:=by simp
   rw[el] at hb;exact⟨as',bs',W.loop k hb⟩
theorem JQ{rs:List Rn}(hr:∀ r∈rs,AN 5 r)(hn:rs.length<=9)(h0:Ab (M rs) ≠ []) :
  prim (Ab (M rs))=Ab (M rs)/\Kb 10 (Ab (M rs))/\Kb 10 (Aq (Ab (M rs)))/\(Ab (M rs)).length<=9/\(Aq (Ab (M rs))).length<=(Ab (M rs)).length-1/\(prim (Aq (Ab (M rs)))).length<=(Aq (Ab (M rs))).length /\
  11*ID (Ab (M rs)).length (prim (Aq (Ab (M rs)))).length<=500000/\BN (Ab (M rs)):=by
 have ht:Y (M rs) ≠ []:=by
  intro h;have hz:prim (M rs)=[]:=by rw[Do,<- CL];exact h
  apply h0;unfold Ab;rw[hz];rfl
 obtain⟨lf,cf,_,_,_,_,_,_⟩:=Cj ht;obtain⟨k1,k2⟩:=Yo ht (by rw[s];exact hn) (HJ (Cs hr));have t1:=Bf (M rs);rw[s] at t1;have k3:=Wh k1 (by omega);have d1:(Aq (Ab (M rs))).length<=(Ab (M rs)).length-1:=by
  unfold Aq;have:=Bf ((Ao ((Ab (M rs)).length-1)).map fun j=>(Ab (M rs)).getD (j+1) 0*((j+1:Nat):Int));rwa [N,B6] at this
 have d2:(prim (Aq (Ab (M rs)))).length<=(Aq (Ab (M rs))).length:=by rw[BB];exact Bf _
 refine⟨IU lf cf,k1.mono (by omega),k3.mono (by omega),by omega,d1,d2,?_,lf⟩;have:=Oe (n:=(Ab (M rs)).length) (m:=(prim (Aq (Ab (M rs)))).length) (c:=9) (by omega) (by omega);have h3:2*3^9=39366:=by decide
 omega
theorem Im{rs:List Rn}(hr:∀ r∈rs,AN 5 r)(hn:rs.length<=9):∀ p∈BD (M rs),sM p:=by
 intro p hp;unfold BD at hp;split at hp
 ·cases hp
 ·rename_i h0;obtain⟨p1,k1,k2,l1,l2,l3,hphi,lf⟩:=JQ hr hn h0;rcases CS.1 hp with rfl | hp
  ·exact⟨k1.mono (by omega),l1,lf⟩
  ·exact Zz _ _ _ 11 (by decide) (by omega) l1 p1 (BI _) k1 k2.prim hphi p hp
theorem GT{rs:List Rn}(hr:∀ r∈rs,AN 5 r)(hn:rs.length<=9):(BD (M rs)).length<=10:=by
 unfold BD;split
 ·simp
 ·rename_i h0;obtain⟨_,_,_,l1,_⟩:=JQ hr hn h0;have:=Ts (Ab (M rs)).length (Ab (M rs)) (prim (Aq (Ab (M rs))));simp;omega
theorem Lh{rs:List Rn}(hr:∀ r∈rs,AN 5 r)(hn:rs.length<=9):H I 67 [sL pc rs] (A6p 1 (Dm (BD (M rs))).length (pp (Dm (BD (M rs))))):=by
 have hf:=Wi hr hn (by omega) (by decide);by_cases h0:Ab (M rs)=[]
 ·have e:BD (M rs)=[]:=by unfold BD;rw[if_pos h0]
  rw[e];rw[h0] at hf;rcases hf with h | h
  ·exact cX rs [] (by decide) h
  ·exact cZ rs [] (by decide) h
 ·obtain⟨p1,k1,k2,l1,l2,l3,hphi,lf⟩:=JQ hr hn h0;have e:BD (M rs)=Ab (M rs)::DC (Ab (M rs)).length (Ab (M rs)) (prim (Aq (Ab (M rs)))):=by unfold BD;rw[if_neg h0]
  have hd:=Pt (rs:=(Ab (M rs)).map cn) (AI k1) (by omega) (by rw[N];omega);rw[v] at hd;have hp:=Eg (rs:=(Aq (Ab (M rs))).map cn) (AI k2) (by omega) (by rw[N];omega);rw[v] at hp;obtain⟨as',bs',hl⟩:=eL (Ab (M rs)).length (Ab (M rs)) (prim (Aq (Ab (M rs)))) 11 [(Ab (M rs)).map cn] (by decide) (by omega) (by omega) l1 p1 (BI _) k1 k2.prim hphi (by simp;omega);have e2:[(Ab (M rs)).map cn]++Dm (DC (Ab (M rs)).length (Ab (M rs)) (prim (Aq (Ab (M rs)))))=Dm (BD (M rs)):=by rw[e];simp[Dm]
  rw[e2] at hl;have c1:(((((Ab (M rs)).map cn).length:Nat):Int)==0)=false:=by
   rw[beq_eq_false_iff_ne,N];have:=Aj.2 h0;omega
  rcases hf with h | h
  ·exact cY rs _ _ _ as' bs' _ c1 h (Ec hd) (Ec hp) hl
  ·exact dA rs _ _ _ as' bs' _ c1 h (Ec hd) (Ec hp) hl
theorem nT(ls:List (List Rn))(us bs:List Rn){n:Nat}(hn:n=ls.length+2)(hN:n<=1048576):Bm (pp (ls++[us])++([sL pc bs]:List AV)) (A (D R ((n:Int)-2))*1) 1 true=some (sL pc us):=by
 have e:A (D R ((n:Int)-2))*1=ls.length:=by rw[Bg (by omega) (by omega)];omega
 rw[e];simp only[Bm,if_true];rw[AK (by simp[pp])];simp[pp]
theorem Z0:∀ (f:Nat) (x y:List Int) (M:Nat) (ls:List (List Rn)),0<M->y.length<=f->y.length<=x.length->x.length<=9->prim x=x->prim y=y->Kb (M-1) x->Kb (M-1) y->M*ID x.length y.length<=500000->ls.length+f<=1000 ->
  ∃ bs',W I (.loop UC) (NY (ls.length+1) (pp (ls++[x.map cn])) (y.map cn)) (.exit 0) (NY (ls++[x.map cn]++Dm (DC f x y)).length (pp (ls++[x.map cn]++Dm (DC f x y))) bs'):=by
 intro f;induction f with
 | zero =>
  intro x y M ls _ h1 _ _ _ _ _ _ _ _;have:y=[]:=A1 (by omega);subst this;have e:ls++[x.map cn]++Dm (DC 0 x [])=ls++[x.map cn]:=by simp[Dm,DC]
  rw[e,AY];exact⟨_,Am (dB _ _ _ (by simp)) (by nofun)⟩
 | succ f ih =>
  intro x y M ls hM h1 h2 h3 px py kx ky hphi hls;simp only[DC];split
  ·rename_i h;subst h;have e:ls++[x.map cn]++Dm []=ls++[x.map cn]:=by simp[Dm]
   rw[e,AY];exact⟨_,Am (dB _ _ _ (by simp)) (by nofun)⟩
  ·rename_i h;have hyl:=Aj.2 h;obtain⟨r1,r2,r3⟩:=Kc hM (Cl px) h kx ky h2;have hM':0<M*(x.length-y.length+2):=Eu hM (by omega);have hMle:M<=M*(x.length-y.length+2):=BV M (by omega);have hbig:M*(x.length-y.length+2)<=500000:=by
    refine Bp (z _ ?_) hphi;unfold ID;exact BV _ (Cx (by decide))
   have hrem:=Qf (rs:=x.map cn) (ss:=y.map cn) (AI kx) (AI ky) (by omega) (by omega) (by rw[N];omega) (by rw[N];omega) (by rw[v,Cl py];exact h) (by
    rw[v,v,Cl px,Cl py,La hM,show x.length+1-y.length=x.length-y.length+1 by omega,CM _ M];have:M*(x.length-y.length+2)=M*(x.length-y.length+1)+M:=by rw[<- OZ]
    omega)
   rw[v,v,px,py] at hrem;have hneg:=Yg (rs:=(Bz x y).map cn) (fun r hr=>(AI r3 r hr).mono (by omega)) (by rw[N];omega);rw[v,HM r1] at hneg;have hls1:(ls++[x.map cn]).length=ls.length+1:=by simp
   have e2:D R ((((ls.length+1+1):Nat):Int)-2)=(ls.length:Int):=by rw[Bg (by omega) (by omega)];omega
   have k:=Arc (ls.length+1) (pp (ls++[x.map cn])) (y.map cn) (x.map cn) ((Bz x y).map cn) _ (by simp;omega) (by omega) (by rw[e2];omega) (nT ls (x.map cn) (y.map cn) (by omega) (by omega)) hrem (Ec hneg);rw[eJ] at k;obtain⟨bs',hb⟩:=ih y (BZ (Bz x y)) (M*(x.length-y.length+2)) (ls++[x.map cn]) hM' (by rw[DG];omega) (by rw[DG];omega) (by omega) py (J9 (HT _ _ _ px)) (ky.mono (by omega)) (Wl r3) (by rw[DG];exact Ke r2 hphi) (by rw[hls1];omega);have e:ls++[x.map cn]++[y.map cn]++Dm (DC f y (BZ (Bz x y)))=ls++[x.map cn]++Dm (y::DC f y (BZ (Bz x y))):=by simp[Dm]
   (first|rw[e,hls1] at hb|(rw[e] at hb;unfold sL at hb;rw[hls1] at hb));exact⟨bs',W.loop k hb⟩
theorem eO{rs:List Rn}(hr:∀ r∈rs,AN 5 r)(hn:rs.length<=9):H I 108 [sL pc rs] (A6p 1 (Dm (BD (M rs))).length (pp (Dm (BD (M rs))))):=by
 have hf:=Rh hr hn (by omega) (by decide);by_cases h0:Ab (M rs)=[]
 ·have e:BD (M rs)=[]:=by unfold BD;rw[if_pos h0]
  rw[e];rw[h0] at hf;exact mP rs [] (by decide) hf
 ·obtain⟨p1,k1,k2,l1,l2,l3,hphi,lf⟩:=JQ hr hn h0;have e:BD (M rs)=Ab (M rs)::DC (Ab (M rs)).length (Ab (M rs)) (prim (Aq (Ab (M rs)))):=by unfold BD;rw[if_neg h0]
  have hd:=Yf (rs:=(Ab (M rs)).map cn) (AI k1) (by omega) (by rw[N];omega);rw[v] at hd;have hp:=GQ (rs:=(Aq (Ab (M rs))).map cn) (AI k2) (by omega) (by rw[N];omega);rw[v] at hp;obtain⟨bs',hl⟩:=Z0 (Ab (M rs)).length (Ab (M rs)) (prim (Aq (Ab (M rs)))) 11 [] (by decide) (by omega) (by omega) l1 p1 (BI _) k1 k2.prim hphi (by simp;omega);have e2:[]++[(Ab (M rs)).map cn]++Dm (DC (Ab (M rs)).length (Ab (M rs)) (prim (Aq (Ab (M rs)))))=Dm (BD (M rs)):=by rw[e];simp[Dm]
  rw[e2] at hl;have c1:(((((Ab (M rs)).map cn).length:Nat):Int)==0)=false:=by
   rw[beq_eq_false_iff_ne,N];have:=Aj.2 h0;omega
  exact mQ rs _ _ _ bs' _ c1 hf (Ec hd) (Ec hp) hl
def Qg(x:Int × Int)(s:Int):Int × Int:=(if s ≠ 0/\x.2 ≠ 0/\s ≠ x.2 then x.1+1 else x.1,if s ≠ 0 then s else x.2)
def HU(l:List (List Int))(N:Int)(e:Nat)(i:Nat):Int:=BL (hv (l.getD i []) N (2^e))
def BU(l:List (List Int))(N:Int)(e:Nat):Nat->Int × Int
 | 0=>(0,0)
 | i+1=>Qg (BU l N e i) (HU l N e i)
theorem Kf(l:List (List Int))(N:Int)(e:Nat):∀ i:Nat,0<=(BU l N e i).1/\(BU l N e i).1<=(i:Int)
 | 0=>by simp[BU]
 | i+1=>by
  have:=Kf l N e i;simp only[BU,Qg];split <;> omega
theorem ON{l:List (List Int)}{i:Nat}(h:i<l.length):(Dm l).getD i []=(l.getD i []).map cn:=by
 unfold Dm;rw[Z,C7,Z,Af h];rfl
theorem LU(l:List (List Int)):(Dm l).length=l.length:=N ..
section
variable {l:List (List Int)} {r:Rn} (hl:∀ p∈l,sM p) (hr:AN 100 r) (hN:l.length<=100) (e:Nat) (he:e<=4096)
include hl hr he
theorem A0p{i:Nat}(hi:i<l.length):H I 65 [A6n ((Dm l).getD i []).length (pc ((Dm l).getD i [])),A6r [A6m r.1,A6n r.2.length (lm r.2),A6l R (e:Nat)]] (A6l R (HU l (O r) e i)):=by
 rw[ON hi];have hm:l.getD i []∈l:=by rw[Z,Af hi];exact Ds hi
 obtain⟨h1,h2,h3⟩:=hl _ hm;have h:=ME (rs:=(l.getD i []).map cn) (AI h1) hr e (by
  rw[N];have h4:((l.getD i []).length+1)*(100+(e / 32+1)+1)<=10*230:=Bu (by omega) (by omega);omega) (by omega)
 rw[v] at h;exact h
theorem Abc{i:Nat}(hi:i<l.length):∃ w:Int,H I 80 [A6n ((Dm l).getD i []).length (pc ((Dm l).getD i [])),A6r [A6m r.1,A6n r.2.length (lm r.2)],A6l R (e:Nat)] (o w)/\H I 79 [o w] (A6l R (HU l (O r) e i)):=by
 rw[ON hi];have hm:l.getD i []∈l:=by rw[Z,Af hi];exact Ds hi
 obtain⟨h1,h2,h3⟩:=hl _ hm;have hS:500000+2+(((l.getD i []).map cn).length+1)*(100+(e / 32+1)+1)<=1048576:=by
  rw[N];have h4:((l.getD i []).length+1)*(100+(e / 32+1)+1)<=10*230:=Bu (by omega) (by omega);omega
 have h:=Th (rs:=(l.getD i []).map cn) (AI h1) hr e hS (by omega);rw[v,h3] at h;have hf:=VP (K:=500000) hr.fits e (ts:=l.getD i []) h1.mem;have hlen:(l.getD i []).length*(100+(e / 32+1)+1)<=9*230:=Bu (by omega) (by omega);exact⟨_,h,XJ (n:=hv (l.getD i []) (O r) (2^e)) (by have:=hf.len;omega)⟩
theorem Fv(hN:l.length<=100):H I 68 [A6n (Dm l).length (pp (Dm l)),A6r [A6m r.1,A6n r.2.length (lm r.2),A6l R (e:Nat)]] (A6l R (BU l (O r) e l.length).1):=by
 have hpl:=LU l;have h:=W.up (prog:=I) (c:=SQ) (ex := .exit 0) (fin:=KY (Dm l) r (e:Nat) (BU l (O r) e l.length).1 (BU l (O r) e l.length).2 (((Dm l).length:Nat):Int) (l.length:Nat))
  (fun i=>KY (Dm l) r (e:Nat) (BU l (O r) e i).1 (BU l (O r) e i).2 (((Dm l).length:Nat):Int) (i:Nat)) l.length (by nofun) ?_ ?_ 0 (Bv _)
 ·exact A0d (Dm l) r (e:Nat) _ _ _ h
 ·intro i hi;have ei:D R ((i:Int)+1)=((i+1:Nat):Int):=by rw[Bg (by omega) (by omega)];omega
  have hs:=A0p hl hr e he hi;have hb:=Kf l (O r) e i;have w1:D R ((BU l (O r) e i).1+1)=(BU l (O r) e i).1+1:=Bg (by omega) (by omega);have c1:decide ((i:Int)<(((Dm l).length:Nat):Int))=true:=by rw[decide_eq_true_eq];omega
  simp only[BU,Qg];by_cases g1:HU l (O r) e i=0
  ·rw[if_neg (fun h=>h.1 g1),if_neg (fun h=>h g1)];have k:=A0b (Dm l) r (e:Nat) (BU l (O r) e i).1 (BU l (O r) e i).2 (((Dm l).length:Nat):Int) (i:Nat) (HU l (O r) e i) c1 (by rw[bne_eq_false_iff_eq];exact g1) (by omega) (by rw[F];exact hs);rwa [ei] at k
  ·by_cases g2:(BU l (O r) e i).2=0
   ·rw[if_neg (fun h=>h.2.1 g2),if_pos g1];have k:=A0a (Dm l) r (e:Nat) (BU l (O r) e i).1 (BU l (O r) e i).2 (((Dm l).length:Nat):Int) (i:Nat) (HU l (O r) e i) c1 (by rw[bne_iff_ne];exact g1) (by rw[bne_eq_false_iff_eq];exact g2) (by omega) (by rw[F];exact hs);rwa [ei] at k
   ·by_cases g3:HU l (O r) e i=(BU l (O r) e i).2
    ·rw[if_neg (fun h=>h.2.2 g3),if_pos g1];have k:=Azz (Dm l) r (e:Nat) (BU l (O r) e i).1 (BU l (O r) e i).2 (((Dm l).length:Nat):Int) (i:Nat) (HU l (O r) e i) c1 (by rw[bne_iff_ne];exact g1) (by rw[bne_iff_ne];exact g2) (by rw[bne_eq_false_iff_eq];exact g3) (by omega) (by rw[F];exact hs);rwa [ei] at k
    ·rw[if_pos ⟨g1,g2,g3⟩,if_pos g1];have k:=Azy (Dm l) r (e:Nat) (BU l (O r) e i).1 (BU l (O r) e i).2 (((Dm l).length:Nat):Int) (i:Nat) (HU l (O r) e i) c1 (by rw[bne_iff_ne];exact g1) (by rw[bne_iff_ne];exact g2) (by rw[bne_iff_ne];exact g3) (by omega) (by rw[F];exact hs);rwa [ei,w1] at k
 ·exact A0c (Dm l) r _ _ _ _ _ (by rw[decide_eq_false_iff_not];omega)
theorem Yp(hN:l.length<=100):H I 110 [A6n (Dm l).length (pp (Dm l)),A6r [A6m r.1,A6n r.2.length (lm r.2),A6l R (e:Nat)]] (A6l R (BU l (O r) e l.length).1):=by
 have hpl:=LU l;have h:=W.up (prog:=I) (c:=NE) (ex := .exit 0) (fin:=Ik (Dm l) r (e:Nat) (BU l (O r) e l.length).1 (BU l (O r) e l.length).2 (l.length:Nat))
  (fun i=>Ik (Dm l) r (e:Nat) (BU l (O r) e i).1 (BU l (O r) e i).2 (i:Nat)) l.length (by nofun) ?_ ?_ 0 (Bv _)
 ·exact Ari (Dm l) r (e:Nat) _ _ _ h
 ·intro i hi;have ei:D R ((i:Int)+1)=((i+1:Nat):Int):=by rw[Bg (by omega) (by omega)];omega
  obtain⟨w,hs,hs2⟩:=Abc hl hr e he hi;have hb:=Kf l (O r) e i;have w1:D R ((BU l (O r) e i).1+1)=(BU l (O r) e i).1+1:=Bg (by omega) (by omega);have c1:decide ((i:Int)<(((Dm l).length:Nat):Int))=true:=by rw[decide_eq_true_eq];omega
  simp only[BU,Qg];by_cases g1:HU l (O r) e i=0
  ·rw[if_neg (fun h=>h.1 g1),if_neg (fun h=>h g1)];have k:=Arg (Dm l) r (e:Nat) (BU l (O r) e i).1 (BU l (O r) e i).2 (i:Nat) w (HU l (O r) e i) c1 (by rw[bne_eq_false_iff_eq];exact g1) (by omega) (by rw[F];exact hs) hs2;rwa [ei] at k
  ·by_cases g2:(BU l (O r) e i).2=0
   ·rw[if_neg (fun h=>h.2.1 g2),if_pos g1];have k:=Arf (Dm l) r (e:Nat) (BU l (O r) e i).1 (BU l (O r) e i).2 (i:Nat) w (HU l (O r) e i) c1 (by rw[bne_iff_ne];exact g1) (by rw[bne_eq_false_iff_eq];exact g2) (by omega) (by rw[F];exact hs) hs2;rwa [ei] at k
   ·by_cases g3:HU l (O r) e i=(BU l (O r) e i).2
    ·rw[if_neg (fun h=>h.2.2 g3),if_pos g1];have k:=Are (Dm l) r (e:Nat) (BU l (O r) e i).1 (BU l (O r) e i).2 (i:Nat) w (HU l (O r) e i) c1 (by rw[bne_iff_ne];exact g1) (by rw[bne_iff_ne];exact g2) (by rw[bne_eq_false_iff_eq];exact g3) (by omega) (by rw[F];exact hs) hs2;rwa [ei] at k
    ·rw[if_pos ⟨g1,g2,g3⟩,if_pos g1];have k:=Ard (Dm l) r (e:Nat) (BU l (O r) e i).1 (BU l (O r) e i).2 (i:Nat) w (HU l (O r) e i) c1 (by rw[bne_iff_ne];exact g1) (by rw[bne_iff_ne];exact g2) (by rw[bne_iff_ne];exact g3) (by omega) (by rw[F];exact hs) hs2;rwa [ei,w1] at k
 ·exact Arh (Dm l) r _ _ _ _ (by rw[decide_eq_false_iff_not];omega)
end
def TZB:Cm:=TZA
theorem nU:BY I TZB:=mR
theorem Abd(na nb:Bool)(xs ys:List Int)(s t:Int)(c1:B (s<t)=true)(n1:H I 79 [A6r [A6m na,sL lm xs]] (A6l R s))(n2:H I 79 [A6r [A6m nb,sL lm ys]] (A6l R t)):H I 83 [A6r [A6m na,sL lm xs],A6r [A6m nb,sL lm ys]] (A6l R (-1)):=i (fn:=SR) a rfl 400 rfl [.r (A6l R s),.r (A6l R t),.b true] (P n1 (P n2 (P c1 a0)))
theorem Abe(na nb:Bool)(xs ys:List Int)(s t:Int)(c1:B (s<t)=false)(c2:B (s>t)=true)(n1:H I 79 [A6r [A6m na,sL lm xs]] (A6l R s))(n2:H I 79 [A6r [A6m nb,sL lm ys]] (A6l R t)):H I 83 [A6r [A6m na,sL lm xs],A6r [A6m nb,sL lm ys]] (A6l R 1):=i (fn:=SR) a rfl 400 rfl [.r (A6l R s),.r (A6l R t),.b false,.b true] (P n1 (P n2 (P c1 (P c2 a0))))
theorem Abf(na nb:Bool)(xs ys:List Int)(s t c:Int)(c1:B (s<t)=false)(c2:B (s>t)=false)(c3:B (s<0)=true)(n1:H I 79 [A6r [A6m na,sL lm xs]] (A6l R s))(n2:H I 79 [A6r [A6m nb,sL lm ys]] (A6l R t))(n3:H I 99 [sL lm xs] (A6p 1 ((Y xs).length) (lm (Y xs))))(n4:H I 99 [sL lm ys] (A6p 1 ((Y ys).length) (lm (Y ys))))(n5:H I 134 [A6n ((Y xs).length) (lm (Y xs)),A6n ((Y ys).length) (lm (Y ys))] (A6l R c)):H I 83 [A6r [A6m na,sL lm xs],A6r [A6m nb,sL lm ys]] (A6l R (D R (0-c))):=i (fn:=SR) a rfl 400 rfl [.r (A6l R s),.r (A6l R t),.b false,.b false,.r (A6p 1 ((Y xs).length) (lm (Y xs))),.r (A6p 1 ((Y ys).length) (lm (Y ys))),.r (A6l R c),.b true] (P n1 (P n2 (P c1 (P c2 (P n3 (P n4 (P n5 (P c3 a0))))))))
theorem Abg(na nb:Bool)(xs ys:List Int)(s t c:Int)(c1:B (s<t)=false)(c2:B (s>t)=false)(c3:B (s<0)=false)(n1:H I 79 [A6r [A6m na,sL lm xs]] (A6l R s))(n2:H I 79 [A6r [A6m nb,sL lm ys]] (A6l R t))(n3:H I 99 [sL lm xs] (A6p 1 ((Y xs).length) (lm (Y xs))))(n4:H I 99 [sL lm ys] (A6p 1 ((Y ys).length) (lm (Y ys))))(n5:H I 134 [A6n ((Y xs).length) (lm (Y xs)),A6n ((Y ys).length) (lm (Y ys))] (A6l R c)):H I 83 [A6r [A6m na,sL lm xs],A6r [A6m nb,sL lm ys]] (A6l R c):=i (fn:=SR) a rfl 400 rfl [.r (A6l R s),.r (A6l R t),.b false,.b false,.r (A6p 1 ((Y xs).length) (lm (Y xs))),.r (A6p 1 ((Y ys).length) (lm (Y ys))),.r (A6l R c),.b false] (P n1 (P n2 (P c1 (P c2 (P n3 (P n4 (P n5 (P c3 a0))))))))
theorem nV(na nb m1 m2:Bool)(xs ys us vs:List Int)(d:Int)(c1:(m1)=true)(c2:(m2)=true)(n1:H I 143 [A6r [A6m na,sL lm xs]] (A6t [A6m m1,sL lm us]))(n2:H I 143 [A6r [A6m nb,sL lm ys]] (A6t [A6m m2,sL lm vs]))(n3:H I 151 [sL lm vs,sL lm us] (A6l R d)):H I 103 [A6r [A6m na,sL lm xs],A6r [A6m nb,sL lm ys]] (A6l R d):=i (fn:=ND) a rfl 400 rfl [.r (A6t [A6m m1,sL lm us]),.r (A6t [A6m m2,sL lm vs]),.b true,.b false,.b true,.b false,.b true,.r (A6l R d)] (P n1 (P n2 (P c1 (P (H4 c2) (P c2 (P (H4 c1) (P c1 (P n3 a0))))))))
theorem nW(na nb m1 m2:Bool)(xs ys us vs:List Int)(c1:(m1)=true)(c2:(m2)=false)(n1:H I 143 [A6r [A6m na,sL lm xs]] (A6t [A6m m1,sL lm us]))(n2:H I 143 [A6r [A6m nb,sL lm ys]] (A6t [A6m m2,sL lm vs])):H I 103 [A6r [A6m na,sL lm xs],A6r [A6m nb,sL lm ys]] (A6l R (-1)):=i (fn:=ND) a rfl 400 rfl [.r (A6t [A6m m1,sL lm us]),.r (A6t [A6m m2,sL lm vs]),.b true,.b true] (P n1 (P n2 (P c1 (P (jN c2) a0))))
theorem nX(na nb m1 m2:Bool)(xs ys us vs:List Int)(c1:(m1)=false)(c2:(m2)=true)(n1:H I 143 [A6r [A6m na,sL lm xs]] (A6t [A6m m1,sL lm us]))(n2:H I 143 [A6r [A6m nb,sL lm ys]] (A6t [A6m m2,sL lm vs])):H I 103 [A6r [A6m na,sL lm xs],A6r [A6m nb,sL lm ys]] (A6l R 1):=i (fn:=ND) a rfl 400 rfl [.r (A6t [A6m m1,sL lm us]),.r (A6t [A6m m2,sL lm vs]),.b false,.b false,.b true,.b true] (P n1 (P n2 (P c1 (P FA (P c2 (P (jN c1) a0))))))
theorem nY(na nb m1 m2:Bool)(xs ys us vs:List Int)(c:Int)(c1:(m1)=false)(c2:(m2)=false)(n1:H I 143 [A6r [A6m na,sL lm xs]] (A6t [A6m m1,sL lm us]))(n2:H I 143 [A6r [A6m nb,sL lm ys]] (A6t [A6m m2,sL lm vs]))(n3:H I 151 [sL lm us,sL lm vs] (A6l R c)):H I 103 [A6r [A6m na,sL lm xs],A6r [A6m nb,sL lm ys]] (A6l R c):=i (fn:=ND) a rfl 400 rfl [.r (A6t [A6m m1,sL lm us]),.r (A6t [A6m m2,sL lm vs]),.b false,.b false,.b false,.b false,.b false,.r (A6l R c)] (P n1 (P n2 (P c1 (P FA (P c2 (P FA (P c1 (P n3 a0))))))))
def G9(m:Bool)(k:Int)(s:Int)(ms:List Int)(lost:Bool)(i:Int):Ak:=(Q 4 (A6s [A6m false,A6n 0 []]::(A6o (A6m m)::(A6o (sL lm ms)::(A6o (A6l R k)::(A6o (A6l U s)::(A6o (A6m lost)::(A6o (A6l R i)::(Q 92 [])))))))))
theorem Abh(m:Bool)(k:Int)(s:Int)(ms:List Int)(lost:Bool)(i:Int)(c1:B (i<k)=true)(c2:B (i<(ms.length:Int))=true)(c3:(lost)=false)(n1:0<=i/\i<(ms.length:Int)):W I KN (G9 m k s ms lost i) .norm (G9 m k s ms ((ms.getD (A i) 0) != 0) (D R (i+1))):=(C a 400 [.b true,.b true,.b false,.v (A6l A5 (ms.getD (A i) 0))] [4,5,6,7,8,9,10] (P c1 (P c2 (P c3 (P n1 (P (AM n1) a0))))))
theorem Abi(m:Bool)(k:Int)(s:Int)(ms:List Int)(lost:Bool)(i:Int)(c1:B (i<k)=false):W I KN (G9 m k s ms lost i) (.exit 0) (G9 m k s ms lost i):=(C a 400 [.b false,.b false] [4,5,6,7,8,9,10] (P c1 (P FA a0)))
def FH(m:Bool)(k:Int)(s:Int)(ms:List Int)(lost:Bool)(n:Nat)(cs:List AV)(i:Int):Ak:=(Q 4 (A6s [A6m false,A6n 0 []]::(A6o (A6m m)::(A6o (sL lm ms)::(A6o (A6l R k)::(A6o (A6l U s)::(A6o (A6m lost)::(Q 1 (A6q 1 n cs::(A6o (A6l R i)::(Q 90 [])))))))))))
theorem Abj(m:Bool)(k:Int)(s:Int)(ms:List Int)(lost:Bool)(n:Nat)(cs:List AV)(i:Int)(c1:B (i<(ms.length:Int))=true)(c2:B ((D R (i+1))<(ms.length:Int))=true)(n1:0<=i/\i<(ms.length:Int))(n2:0<=(D R (i+1))/\(D R (i+1))<(ms.length:Int))(n3:¬ s<0)(n4:n+1<=35184372088832):W I JN (FH m k s ms lost n cs i) .norm (FH m k s ms lost (n+1) (cs++([A6l A5 (D A5 (d (D U ((T (Al .u64) (D U (ms.getD (A i) 0)) ||| T (Al .u64) (D U ((D U (ms.getD (A (D R (i+1))) 0))*2^(min (A 32) (Al .u64))))).toNat)) (2^(min (A s) (Al .u64)))))]:List AV)) (D R (i+1))):=(C a 400 [.b true,.v (A6l A5 (ms.getD (A i) 0)),.b true,.v (A6l A5 (ms.getD (A (D R (i+1))) 0))] [4,5,6,7,8,9,11,12] (P c1 (P n1 (P (AM n1) (P c2 (P n2 (P (AM n2) (P HX (P n3 (P (show Bk ([A6l A5 (D A5 (d (D U ((T (Al .u64) (D U (ms.getD (A i) 0)) ||| T (Al .u64) (D U ((D U (ms.getD (A (D R (i+1))) 0))*2^(min (A 32) (Al .u64))))).toNat)) (2^(min (A s) (Al .u64)))))]:List AV)=1*1 from rfl) (P n4 a0)))))))))))
theorem Abk(m:Bool)(k:Int)(s:Int)(ms:List Int)(lost:Bool)(n:Nat)(cs:List AV)(i:Int)(c1:B (i<(ms.length:Int))=true)(c2:B ((D R (i+1))<(ms.length:Int))=false)(n1:0<=i/\i<(ms.length:Int))(n2:¬ s<0)(n3:n+1<=35184372088832):W I JN (FH m k s ms lost n cs i) .norm (FH m k s ms lost (n+1) (cs++([A6l A5 (D A5 (d (D U (ms.getD (A i) 0)) (2^(min (A s) (Al .u64)))))]:List AV)) (D R (i+1))):=(C a 400 [.b true,.v (A6l A5 (ms.getD (A i) 0)),.b false] [4,5,6,7,8,9,11,12] (P c1 (P n1 (P (AM n1) (P c2 (P n2 (P (show Bk ([A6l A5 (D A5 (d (D U (ms.getD (A i) 0)) (2^(min (A s) (Al .u64)))))]:List AV)=1*1 from rfl) (P n3 a0))))))))
theorem Abl(m:Bool)(k:Int)(s:Int)(ms:List Int)(lost:Bool)(n:Nat)(cs:List AV)(i:Int)(c1:B (i<(ms.length:Int))=false):W I JN (FH m k s ms lost n cs i) (.exit 2) (FH m k s ms lost n cs i):=(C a 400 [.b false] [4,5,6,7,8,9,11,12] (P c1 a0))
theorem nZ(neg m lost:Bool)(xs ms os:List Int)(sh i1 i2 u:Int)(c1:B ((D R (As sh 32))<(ms.length:Int))=true)(c2:((D A5 ((T (Al .u32) (ms.getD (A (D R (As sh 32))) 0) &&& T (Al .u32) (D A5 ((D A5 (1*2^(min (A (D U (AA sh 32))) (Al .u32))))-1))).toNat)) != 0)=false)(c3:(m)=true)(c4:(lost)=false)(n1:H I 143 [A6r [A6m neg,sL lm xs]] (A6t [A6m m,sL lm ms]))(hl2:W I (.loop KN) (G9 m (D R (As sh 32)) (D U (AA sh 32)) ms false 0) (.exit 0) (G9 m (D R (As sh 32)) (D U (AA sh 32)) ms lost i1))(hl3:W I (.loop JN) (FH m (D R (As sh 32)) (D U (AA sh 32)) ms lost 0 ([]:List AV) (D R (As sh 32))) (.exit 2) (FH m (D R (As sh 32)) (D U (AA sh 32)) ms lost os.length (lm os) i2))(n4:0<=(D R (As sh 32))/\(D R (As sh 32))<(ms.length:Int))(n5:¬ (D U (AA sh 32))<0)(n6:H I 152 [A6m m,sL lm os] (o u)):H I 163 [A6r [A6m neg,sL lm xs],A6l R sh] (o u):=X (fn:=RW) (s:=(Q 4 (A6s [A6m (B (u<0)),A6n ((G (E u)).length) (lm (G (E u)))]::(Q 98 [])))) (ex := .ret) rfl rfl (L (L (L (q (W.seq (C a 400 [.r (A6t [A6m m,sL lm ms])] [4,5,6,7,8,9,10] (P n1 (P FB (P FB a0)))) (W.seq (W.block hl2) (q (W.seq (C a 400 [] [4,5,6,7,8,9,11,12] a0) (W.seq (W.block hl3) (C a 400 [.b true,.v (A6l A5 (ms.getD (A (D R (As sh 32))) 0)),.b false,.b true,.b false,.r (o u)] [4] (P c1 (P n4 (P (AM n4) (P n5 (P c2 (P c3 (P c4 (P n6 a0)))))))))))))))))) (by nofun) rfl
theorem oD(neg m lost:Bool)(xs ms os:List Int)(sh i1 i2 u:Int)(c1:B ((D R (As sh 32))<(ms.length:Int))=true)(c2:((D A5 ((T (Al .u32) (ms.getD (A (D R (As sh 32))) 0) &&& T (Al .u32) (D A5 ((D A5 (1*2^(min (A (D U (AA sh 32))) (Al .u32))))-1))).toNat)) != 0)=false)(c3:(m)=false)(n1:H I 143 [A6r [A6m neg,sL lm xs]] (A6t [A6m m,sL lm ms]))(hl2:W I (.loop KN) (G9 m (D R (As sh 32)) (D U (AA sh 32)) ms false 0) (.exit 0) (G9 m (D R (As sh 32)) (D U (AA sh 32)) ms lost i1))(hl3:W I (.loop JN) (FH m (D R (As sh 32)) (D U (AA sh 32)) ms lost 0 ([]:List AV) (D R (As sh 32))) (.exit 2) (FH m (D R (As sh 32)) (D U (AA sh 32)) ms lost os.length (lm os) i2))(n4:0<=(D R (As sh 32))/\(D R (As sh 32))<(ms.length:Int))(n5:¬ (D U (AA sh 32))<0)(n6:H I 152 [A6m m,sL lm os] (o u)):H I 163 [A6r [A6m neg,sL lm xs],A6l R sh] (o u):=X (fn:=RW) (s:=(Q 4 (A6s [A6m (B (u<0)),A6n ((G (E u)).length) (lm (G (E u)))]::(Q 98 [])))) (ex := .ret) rfl rfl (L (L (L (q (W.seq (C a 400 [.r (A6t [A6m m,sL lm ms])] [4,5,6,7,8,9,10] (P n1 (P FB (P FB a0)))) (W.seq (W.block hl2) (q (W.seq (C a 400 [] [4,5,6,7,8,9,11,12] a0) (W.seq (W.block hl3) (C a 400 [.b true,.v (A6l A5 (ms.getD (A (D R (As sh 32))) 0)),.b false,.b false,.b false,.r (o u)] [4] (P c1 (P n4 (P (AM n4) (P n5 (P c2 (P c3 (P FA (P n6 a0)))))))))))))))))) (by nofun) rfl
theorem A0q(r t:Rn)(e f X Y c:Int)(n1:H I 104 [At r,A6l R (D R ((if f>e then f else e)-e))] (o X))(n2:H I 104 [At t,A6l R (D R ((if f>e then f else e)-f))] (o Y))(n3:H I 103 [o X,o Y] (A6l R c)):H I 55 [A6r [A6m r.1,A6n r.2.length (lm r.2),A6l R e],A6r [A6m t.1,A6n t.2.length (lm t.2),A6l R f]] (A6l R c):=i (fn:=aN) a rfl 400 rfl [.r (o X),.r (o Y),.r (A6l R c)] (P n1 (P n2 (P n3 a0)))
def L0(n:Rn)(e:Int)(z:Int):Ak:=(Q 1 (A6o (A6l R e)::(A6s [A6m n.1,A6n n.2.length (lm n.2)]::(Q 1 (A6s [A6m false,A6n 0 [],A6l R 0]::(A6o (A6l R z)::(Q 33 [])))))))
theorem Atf(n:Rn)(e:Int)(z:Int)(c1:B (z<e)=true)(c2:((D A5 ((T (Al .u32) (d (n.2.getD (A (D R (As z 32))) 0) (2^(min (A (D U (AA z 32))) (Al .u32)))) &&& T (Al .u32) 1).toNat))==0)=true)(n1:0<=(D R (As z 32))/\(D R (As z 32))<(n.2.length:Int))(n2:¬ (D U (AA z 32))<0):W I RF (L0 n e z) .norm (L0 n e (D R (z+1))):=(C a 400 [.b true,.v (A6l A5 (n.2.getD (A (D R (As z 32))) 0)),.b true] [1,2,4,5] (P c1 (P FB (P n1 (P (AM n1) (P FB (P n2 (P c2 a0))))))))
theorem Atg(n:Rn)(e:Int)(z:Int)(c1:B (z<e)=true)(c2:((D A5 ((T (Al .u32) (d (n.2.getD (A (D R (As z 32))) 0) (2^(min (A (D U (AA z 32))) (Al .u32)))) &&& T (Al .u32) 1).toNat))==0)=false)(n1:0<=(D R (As z 32))/\(D R (As z 32))<(n.2.length:Int))(n2:¬ (D U (AA z 32))<0):W I RF (L0 n e z) (.exit 0) (L0 n e z):=(C a 400 [.b true,.v (A6l A5 (n.2.getD (A (D R (As z 32))) 0)),.b false] [1,2,4,5] (P c1 (P FB (P n1 (P (AM n1) (P FB (P n2 (P c2 a0))))))))
theorem Ath(n:Rn)(e:Int)(z:Int)(c1:B (z<e)=false):W I RF (L0 n e z) (.exit 0) (L0 n e z):=(C a 400 [.b false,.b false] [1,2,4,5] (P c1 (P FA a0)))
theorem oF(r:Rn)(e n:Int)(c1:((((G (E n)).length:Nat):Int)==0)=true)(n1:H I 113 [At r] (o n)):H I 130 [At r,A6l R e] (A6r [A6m false,A6n 0 [],A6l R 0]):=X (fn:=RG) (s:=(Q 4 (A6s [A6m false,A6n 0 [],A6l R 0]::(Q 34 [])))) (ex := .ret) rfl rfl (L (L (L (p (C a 400 [.r (o n),.b true] [4] (P n1 (P c1 a0))) (by nofun))))) (by nofun) rfl
theorem oH(r:Rn)(e n z u:Int)(c1:((((G (E n)).length:Nat):Int)==0)=false)(n1:H I 113 [At r] (o n))(hl2:W I (.loop RF) (L0 (cn n) e 0) (.exit 0) (L0 (cn n) e z))(n3:H I 163 [At (cn n),A6l R z] (o u)):H I 130 [At r,A6l R e] (A6r [A6m (B (u<0)),A6n ((G (E u)).length) (lm (G (E u))),A6l R (D R (e-z))]):=X (fn:=RG) (s:=(Q 4 (A6s [A6m (B (u<0)),A6n ((G (E u)).length) (lm (G (E u))),A6l R (D R (e-z))]::(Q 34 [])))) (ex := .ret) rfl rfl (L (L (L (W.seq (C a 400 [.r (o n),.b false] [1,2,4,5] (P n1 (P c1 a0))) (W.seq (W.block hl2) (C a 400 [.r (o u)] [4] (P n3 a0))))))) (by nofun) rfl
theorem Ati(r t:Rn)(e f X Y Z n m:Int)(n1:H I 104 [At r,A6l R (D R ((if f>e then f else e)-e))] (o X))(n2:H I 104 [At t,A6l R (D R ((if f>e then f else e)-f))] (o Y))(n3:H I 111 [o X,o Y] (o Z))(n4:H I 130 [o Z,A6l R (D R ((if f>e then f else e)+1))] (A6r [A6m (B (n<0)),A6n ((G (E n)).length) (lm (G (E n))),A6l R m])):H I 133 [A6r [A6m r.1,A6n r.2.length (lm r.2),A6l R e],A6r [A6m t.1,A6n t.2.length (lm t.2),A6l R f]] (A6r [A6m (B (n<0)),A6n ((G (E n)).length) (lm (G (E n))),A6l R m]):=i (fn:=UT) a rfl 400 rfl [.r (o X),.r (o Y),.r (o Z),.r (A6r [A6m (B (n<0)),A6n ((G (E n)).length) (lm (G (E n))),A6l R m])] (P n1 (P n2 (P n3 (P n4 a0))))
theorem A0r(r t:Rn)(e f X Y c:Int)(n1:H I 84 [At r,A6l R f] (C6 X))(n2:H I 84 [At t,A6l R e] (C6 Y))(n3:H I 83 [o X,o Y] (A6l R c)):H I 33 [A6r [A6m r.1,A6n r.2.length (lm r.2),A6l R e],A6r [A6m t.1,A6n t.2.length (lm t.2),A6l R f]] (A6l R c):=i (fn:=aG) a rfl 400 rfl [.r (C6 X),.r (C6 Y),.r (A6l R c)] (P n1 (P n2 (P n3 a0)))
def JA(n:Rn)(e:Int):Ak:=(Q 2 (A6s [A6m false,A6n 0 [],A6l R 0]::(A6s [A6m n.1,A6n n.2.length (lm n.2)]::(A6o (A6l R e)::(Q 28 [])))))
theorem Atj(n:Rn)(e:Int)(u:Int)(c1:B (e>0)=true)(c2:((n.2.length:Int)==0)=true)(n1:H I 128 [At n,A6l R 1] (o u)):W I PK (JA n e) .norm (JA (cn u) (D R (e-1))):=(C a 400 [.b true,.b true,.b true,.b true,.b true,.r (o u)] [2,3,4] (P c1 (P c2 (P c1 (P c2 (P HY (P n1 a0)))))))
theorem Atk(n:Rn)(e:Int)(u:Int)(c1:B (e>0)=true)(c2:((n.2.length:Int)==0)=false)(c3:((D A5 ((T (Al .u32) (n.2.getD (A 0) 0) &&& T (Al .u32) 1).toNat))==0)=true)(n1:0<=(0:Int)/\(0:Int)<(n.2.length:Int))(n2:H I 128 [At n,A6l R 1] (o u)):W I PK (JA n e) .norm (JA (cn u) (D R (e-1))):=(C a 400 [.b true,.b false,.v (A6l A5 (n.2.getD (A 0) 0)),.b true,.b false,.b true,.r (o u)] [2,3,4] (P c1 (P c2 (P n1 (P (AM n1) (P c1 (P c2 (P c3 (P n2 a0)))))))))
theorem Atl(n:Rn)(e:Int)(c1:B (e>0)=true)(c2:((n.2.length:Int)==0)=false)(c3:((D A5 ((T (Al .u32) (n.2.getD (A 0) 0) &&& T (Al .u32) 1).toNat))==0)=false)(n1:0<=(0:Int)/\(0:Int)<(n.2.length:Int)):W I PK (JA n e) (.exit 0) (JA n e):=(C a 400 [.b true,.b false,.v (A6l A5 (n.2.getD (A 0) 0)),.b true,.b false,.b false] [2,3,4] (P c1 (P c2 (P n1 (P (AM n1) (P c1 (P c2 (P c3 a0))))))))
theorem Atm(n:Rn)(e:Int)(c1:B (e>0)=false):W I PK (JA n e) (.exit 0) (JA n e):=(C a 400 [.b false,.b false] [2,3,4] (P c1 (P FA a0)))
theorem Atn(r:Rn)(e n u z:Int)(n1:H I 97 [At r] (o n))(hl2:W I (.loop PK) (JA (cn n) e) (.exit 0) (JA (cn u) z)):H I 162 [A6r [A6m r.1,A6n r.2.length (lm r.2),A6l R e]] (A6r [A6m ((cn u).1),A6n ((cn u).2.length) (lm (cn u).2),A6l R z]):=X (fn:=Vl) (s:=(Q 2 (A6s [A6m ((cn u).1),A6n ((cn u).2.length) (lm (cn u).2),A6l R z]::(Q 30 [])))) (ex := .ret) rfl rfl (L (W.seq (C a 400 [.r (o n)] [2,3,4] (P n1 a0)) (W.seq (W.block hl2) (C a 400 [] [2] a0)))) (by nofun) rfl
theorem Ato(r t:Rn)(e f X Y Z n m:Int)(n1:H I 84 [At r,A6l R (D R ((if f>e then f else e)-e))] (C6 X))(n2:H I 84 [At t,A6l R (D R ((if f>e then f else e)-f))] (C6 Y))(n3:H I 95 [o X,o Y] (o Z))(n4:H I 162 [A6r [A6m (B (Z<0)),A6n ((G (E Z)).length) (lm (G (E Z))),A6l R (D R ((if f>e then f else e)+1))]] (A6r [A6m (B (n<0)),A6n ((G (E n)).length) (lm (G (E n))),A6l R m])):H I 121 [A6r [A6m r.1,A6n r.2.length (lm r.2),A6l R e],A6r [A6m t.1,A6n t.2.length (lm t.2),A6l R f]] (A6r [A6m (B (n<0)),A6n ((G (E n)).length) (lm (G (E n))),A6l R m]):=i (fn:=UM) a rfl 400 rfl [.r (C6 X),.r (C6 Y),.r (o Z),.r (A6r [A6m (B (n<0)),A6n ((G (E n)).length) (lm (G (E n))),A6l R m])] (P n1 (P n2 (P n3 (P n4 a0))))
theorem A0s{a b X Y:Int}(ha:a=X\/a = -X)(hb:b=Y\/b = -Y)(hX:0<=X)(hY:0<=Y) :
  (BL a<BL b->CC a b = -1)/\(BL a>BL b->CC a b=1)/\(¬ BL a<BL b->¬ BL a>BL b->(BL a<0->CC a b = -CC X Y)/\(¬ BL a<0->CC a b=CC X Y)):=by
 unfold BL CC;grind
theorem Ri(a b:Int) : -1<=CC a b/\CC a b<=1:=by unfold CC;grind
theorem Atp(neg:Bool)(xs:List Int):rv neg xs=Ac xs\/rv neg xs = -Ac xs:=by unfold rv;cases neg <;> simp
theorem Abm{na nb:Bool}{xs ys:List Int}(hx:AL xs)(hy:AL ys)(h1:xs.length<=1048576)(h2:ys.length<=1048576):H I 83 [A6r [A6m na,sL lm xs],A6r [A6m nb,sL lm ys]] (A6l R (CC (rv na xs) (rv nb ys))):=by
 obtain⟨a1,a2,a3⟩:=A0s (Atp na xs) (Atp nb ys) (AT hx) (AT hy);have s1:=Gm (neg:=na) hx h1;have s2:=Gm (neg:=nb) hy h2;by_cases c1:BL (rv na xs)<BL (rv nb ys)
 ·rw[a1 c1];exact Abd na nb xs ys _ _ (by rw[decide_eq_true_eq];exact c1) s1 s2
 by_cases c2:BL (rv na xs)>BL (rv nb ys)
 ·rw[a2 c2];exact Abe na nb xs ys _ _ (by rw[decide_eq_false_iff_not];exact c1) (by rw[decide_eq_true_eq];exact c2) s1 s2
 obtain⟨a4,a5⟩:=a3 c1 c2;have t1:=Bf xs;have t2:=Bf ys;have hc:=NN (Fq hx) (Fq hy) (by omega);rw[Ea,Ea] at hc;by_cases c3:BL (rv na xs)<0
 ·have hb:=Ri (Ac xs) (Ac ys);have k:=Abf na nb xs ys _ _ _ (by rw[decide_eq_false_iff_not];exact c1) (by rw[decide_eq_false_iff_not];exact c2) (by rw[decide_eq_true_eq];exact c3) s1 s2 (DX (by omega)) (DX (by omega)) hc;rw[Bg (by omega) (by omega),Int.zero_sub] at k;rw[a4 c3];exact k
 ·rw[a5 c3];exact Abg na nb xs ys _ _ _ (by rw[decide_eq_false_iff_not];exact c1) (by rw[decide_eq_false_iff_not];exact c2) (by rw[decide_eq_false_iff_not];exact c3) s1 s2 (DX (by omega)) (DX (by omega)) hc
theorem Abn{na nb:Bool}{xs ys:List Int}(hx:AL xs)(hy:AL ys)(h1:xs.length<=1048576)(h2:ys.length<=1048576):H I 103 [A6r [A6m na,sL lm xs],A6r [A6m nb,sL lm ys]] (A6l R (CC (rv na xs) (rv nb ys))):=by
 have s1:=Dh (neg:=na) hx h1;have s2:=Dh (neg:=nb) hy h2;have l1:=E6 (neg:=na) hx;have l2:=E6 (neg:=nb) hy;have k1:=IL (Cc (rv na xs).natAbs) (Cc (rv nb ys).natAbs) (by omega);have k2:=IL (Cc (rv nb ys).natAbs) (Cc (rv na xs).natAbs) (by omega);rw[Cn,Cn] at k1 k2;by_cases c1:rv na xs<0
 ·by_cases c2:rv nb ys<0
  ·have e:CC (rv na xs) (rv nb ys)=CC ((rv nb ys).natAbs:Int) ((rv na xs).natAbs:Int):=by unfold CC;grind
   rw[e];exact nV na nb _ _ xs ys _ _ _ (decide_eq_true c1) (decide_eq_true c2) s1 s2 k2
  ·have e:CC (rv na xs) (rv nb ys) = -1:=by unfold CC;grind
   rw[e];exact nW na nb _ _ xs ys _ _ (decide_eq_true c1) (decide_eq_false c2) s1 s2
 ·by_cases c2:rv nb ys<0
  ·have e:CC (rv na xs) (rv nb ys)=1:=by unfold CC;grind
   rw[e];exact nX na nb _ _ xs ys _ _ (decide_eq_false c1) (decide_eq_true c2) s1 s2
  ·have e:CC (rv na xs) (rv nb ys)=CC ((rv na xs).natAbs:Int) ((rv nb ys).natAbs:Int):=by unfold CC;grind
   rw[e];exact nY na nb _ _ xs ys _ _ _ (decide_eq_false c1) (decide_eq_false c2) s1 s2 k1
theorem eQ{ms:List Int}(hu:AL ms):∀ k,k<=ms.length->Ac (ms.take k)=0->∀ i,i<k->ms.getD i 0=0:=by
 intro k;induction k with
 | zero=>intro _ _ i hi;omega
 | succ k ih =>
  intro hk hv i hi;have ht:=DM ms k (by omega);have hp:=Cr k;have hm:=AE hu k;have h1:=(NW (DH hu k) (A3 (A0 hp) hm.1)).1 (by rw[<- ht];exact hv);rcases Ck i k with g | g
  ·exact ih (by omega) h1.1 i g
  ·have:i=k:=by omega
   subst this;rcases FJ.1 h1.2 with z | z
   ·omega
   ·exact z
theorem A5o{m:Bool}{ms:List Int}{s:Int}{k:Nat}(hk:k<=ms.length)(hN:ms.length<=1048576)(hz:∀ i,i<k->ms.getD i 0=0) :
  W I (.loop KN) (G9 m (k:Nat) s ms false 0) (.exit 0) (G9 m (k:Nat) s ms false (k:Nat)):=by
 have h:=W.up (prog:=I) (c:=KN) (ex := .exit 0) (fin:=G9 m (k:Nat) s ms false (k:Nat)) (fun i=>G9 m (k:Nat) s ms false (i:Nat)) k (by nofun) ?_ ?_ 0 (Bv _)
 ·exact h
 ·intro i hi;have ei:D R ((i:Int)+1)=((i+1:Nat):Int):=by rw[Bg (by omega) (by omega)];omega
  have k1:=Abh m (k:Nat) s ms false (i:Nat) (by simp;omega) (by simp;omega) rfl (by omega);rw[ei,F,hz i hi] at k1;exact k1
 ·exact Abi m _ s ms false _ (by simp)
theorem A5p{m:Bool}{ms:List Int}{kk:Int}{s k:Nat}(hu:AL ms)(hs:s<32)(hN:ms.length<=1048576)(hk:k<=ms.length):∀ (r i:Nat),i+r=ms.length-k ->
  W I (.loop JN) (FH m kk (s:Nat) ms false i (lm ((Ao i).map (Dc (ms.drop k) s))) ((k+i:Nat):Int)) (.exit 2) (FH m kk (s:Nat) ms false (ms.length-k) (lm ((Ao (ms.length-k)).map (Dc (ms.drop k) s))) (ms.length:Nat)):=by
 intro r;induction r with
 | zero =>
  intro i hi;have hi':i=ms.length-k:=by omega
  subst hi';have e0:((k+(ms.length-k):Nat):Int)=(ms.length:Nat):=by omega
  rw[e0];exact Am (Abl m kk _ ms false _ _ _ (by simp)) (by nofun)
 | succ r ih =>
  intro i hi;have ei:D R (((k+i:Nat):Int)+1)=((k+(i+1):Nat):Int):=by rw[Bg (by omega) (by omega)];omega
  have hx:=AE hu (k+i);have hy:=AE hu (k+i+1);have gx:(ms.drop k).getD i 0=ms.getD (k+i) 0:=by simp[Z,Bn]
  have gy:(ms.drop k).getD (i+1) 0=ms.getD (k+i+1) 0:=by simp[Z,Bn,D6]
  have em:min (A (s:Int)) (Al .u64)=s:=by rw[F];show min s 64=s;omega
  have hR:Dc (ms.drop k) s i=(ms.getD (k+i+1) 0*4294967296+ms.getD (k+i) 0) / 2^s % 4294967296:=by
   rw[cS hx hs];unfold Dc;rw[gx,gy]
  have hstep:W I JN (FH m kk (s:Nat) ms false i (lm ((Ao i).map (Dc (ms.drop k) s))) ((k+i:Nat):Int)) .norm (FH m kk (s:Nat) ms false (i+1) (lm ((Ao (i+1)).map (Dc (ms.drop k) s))) ((k+(i+1):Nat):Int)):=by
   have el:lm ((Ao (i+1)).map (Dc (ms.drop k) s))=lm ((Ao i).map (Dc (ms.drop k) s))++([A6l A5 (Dc (ms.drop k) s i)]:List AV):=by
    rw[Hi,Ef,Cw,FK,H5]
   rw[el,hR];by_cases h1:k+i+1<ms.length
   ·have kk1:=Abj m kk (s:Nat) ms false i (lm ((Ao i).map (Dc (ms.drop k) s))) ((k+i:Nat):Int) (by simp;omega) (by rw[ei];simp;omega) (by omega) (by rw[ei];omega) (by omega) (by omega);rw[ei,F,F,em] at kk1;have w1:D U ((T (Al .u64) (D U (ms.getD (k+i) 0)) ||| T (Al .u64) (D U ((D U (ms.getD (k+(i+1)) 0))*2^(min (A 32) (Al .u64))))).toNat)=ms.getD (k+i+1) 0*4294967296+ms.getD (k+i) 0:=by
     rw[TL,C2 (n:=ms.getD (k+(i+1)) 0) (by rw[<- D6];omega),<- D6];exact MA hy hx
    have hpos:0<=ms.getD (k+i+1) 0*4294967296+ms.getD (k+i) 0:=by omega
    rw[w1,t _ (by have:=BG s;omega),DL] at kk1;exact kk1
   ·have hz:ms.getD (k+i+1) 0=0:=Bs (by omega);have kk1:=Abk m kk (s:Nat) ms false i (lm ((Ao i).map (Dc (ms.drop k) s))) ((k+i:Nat):Int) (by simp;omega) (by rw[ei];simp;omega) (by omega) (by omega) (by omega);rw[ei,F,em,C2 (n:=ms.getD (k+i) 0) (by omega),t _ (by have:=BG s;omega),DL] at kk1;rw[hz,CJ,DA];exact kk1
  exact W.loop hstep (ih (i+1) (by omega))
theorem eR{N:Int}(h0:N ≠ 0){z:Nat}(hd:(2:Int)^z∣N):z / 32<(G N.natAbs).length:=by
 apply Nat.lt_of_not_le;intro hle;have h1:=D9 (Cc N.natAbs).1;rw[Cn] at h1;have h2:=Gb hle;have h3:=HP z;have h4:=BG (z % 32);have h5:=Ag (show (1:Int)<=2^(z % 32) by omega) (A0 (Cr (z / 32)));rw[CN,<- h3] at h5;obtain⟨q,hq⟩:=hd;have hq0:q ≠ 0:=by intro h;rw[h,AC] at hq;exact h0 hq
 have h6:(N.natAbs:Int)=2^z*(q.natAbs:Int):=by
  rw[hq,BM,CZ,KA (A0 (BG z))]
 have h7:=Ag (show (1:Int)<=(q.natAbs:Int) by omega) (A0 (BG z));rw[CN,<- h6] at h7;omega
theorem eU{N:Int}(h0:N ≠ 0){n:Nat}(hd:(2:Int)^n∣N)(hn:(n:Int)<=9223372036854775807)(hN:(G N.natAbs).length<=1048576):H I 163 [o N,A6l R (n:Nat)] (o (N / 2^n)):=by
 have hin:=eR h0 hd;have e1:D R (As (n:Int) 32)=((n / 32:Nat):Int):=by
  rw[B5 (by omega),Bg (by omega) (by omega)];omega
 have e2:D U (AA (n:Int) 32)=((n % 32:Nat):Int):=by
  rw[Bl (by omega),B3];omega
 have hs:n % 32<32:=H8 _ (by decide);have tu:AL (G N.natAbs):=BK _;have hlb:=Dh (neg:=decide (N<0)) tu hN;rw[Fr] at hlb;have hp:=HP n;have hP:=Cr (n / 32);have hS:=BG (n % 32);have hval:=Cn N.natAbs;generalize hms:G N.natAbs=ms at *
 have hall:=cT (ms:=ms) hs (show n / 32<=ms.length by omega);have ux:AL ((Ao (ms.length-n / 32)).map (Dc (ms.drop (n / 32)) (n % 32))):=PX fun i=>(QV (EQ tu _) hs i).2.2.2;have hmk:=E8 (neg:=decide (N<0)) ux (by simp;omega);have hlen:((Ao (ms.length-n / 32)).map (Dc (ms.drop (n / 32)) (n % 32))).length=ms.length-n / 32:=by simp
 have hb:=A5p (m:=decide (N<0)) (ms:=ms) (kk:=((n / 32:Nat):Int)) (s:=n % 32) (k:=n / 32) tu hs hN (by omega) (ms.length-n / 32) 0 (by omega);generalize hQ:(Ao (ms.length-n / 32)).map (Dc (ms.drop (n / 32)) (n % 32))=Q at *
 (first|rw[<- hlen] at hb|(unfold sL at hb;rw[<- hlen] at hb));have hm0:=Fy (ms.getD (n / 32) 0) (show (2:Int)^(n % 32) ≠ 0 by omega);have hm1:=El (ms.getD (n / 32) 0) hS;have ht0:=AT (DH tu (n / 32));have ht1:=FS tu (n / 32);have hl:0<=4294967296^(n / 32)*(ms.getD (n / 32) 0 % 2^(n % 32))+Ac (ms.take (n / 32))/\4294967296^(n / 32)*(ms.getD (n / 32) 0 % 2^(n % 32))+Ac (ms.take (n / 32))<2^n:=by
  rw[hp];generalize (4294967296:Int)^(n / 32)=P at *
  generalize ms.getD (n / 32) 0 % 2^(n % 32)=z at *
  generalize (2:Int)^(n % 32)=S at *
  have a:=A3 (A0 hP) hm0;have b:=Ag (show z+1<=S by omega) (A0 hP);rw[CE,CN] at b;omega
 have hdm:(2:Int)^n∣(N.natAbs:Int):=Int.dvd_natAbs.2 hd;have hv2:(N.natAbs:Int)=2^n*Ac Q+(4294967296^(n / 32)*(ms.getD (n / 32) 0 % 2^(n % 32))+Ac (ms.take (n / 32))):=by rw[<- hval,hall,hp];grind
 have hl0:4294967296^(n / 32)*(ms.getD (n / 32) 0 % 2^(n % 32))+Ac (ms.take (n / 32))=0:=by
  have h1:(N.natAbs:Int) % 2^n=0:=Int.emod_eq_zero_of_dvd hdm;rw[hv2,J',TE,FY hl.1 hl.2] at h1;exact h1
 have hz1:ms.getD (n / 32) 0 % 2^(n % 32)=0/\Ac (ms.take (n / 32))=0:=by
  have a:=A3 (A0 hP) hm0;have b:4294967296^(n / 32)*(ms.getD (n / 32) 0 % 2^(n % 32))=0:=by omega
  rcases FJ.1 b with z | z
  ·omega
  ·exact⟨z,by omega⟩
 rw[hl0,B2] at hv2;have ha:=A5o (m:=decide (N<0)) (ms:=ms) (s:=((n % 32:Nat):Int)) (k:=n / 32) (by omega) hN (eQ tu _ (by omega) hz1.2);have emask:D A5 ((D A5 (1*2^(min (A (D U (AA (n:Int) 32))) (Al .u32))))-1)=2^(n % 32)-1:=by
  have:min (A ((n % 32:Nat):Int)) (Al .u32)=n % 32:=by rw[F];show min (n % 32) 32=n % 32;omega
  have h31:(2:Int)^(n % 32)<=2147483648:=Gv (show n % 32<=31 by omega);rw[e2,this,CO,DL,DL];omega
 have ec2:D A5 ((T (Al .u32) (ms.getD (A (D R (As (n:Int) 32))) 0) &&& T (Al .u32) (D A5 ((D A5 (1*2^(min (A (D U (AA (n:Int) 32))) (Al .u32))))-1))).toNat)=0:=by
  rw[emask,e1,F,lX (AE tu _) (by omega)];exact hz1.1
 have c1:decide ((D R (As (n:Int) 32))<(ms.length:Int))=true:=by rw[e1];simp;omega
 have hb2:W I (.loop JN) (FH (B (N<0)) (D R (As (n:Int) 32)) (D U (AA (n:Int) 32)) ms false 0 [] (D R (As (n:Int) 32))) (.exit 2) (FH (B (N<0)) (D R (As (n:Int) 32)) (D U (AA (n:Int) 32)) ms false Q.length (lm Q) (ms.length:Nat)):=by
  rw[e1,e2];exact hb
 have ha2:W I (.loop KN) (G9 (B (N<0)) (D R (As (n:Int) 32)) (D U (AA (n:Int) 32)) ms false 0) (.exit 0) (G9 (B (N<0)) (D R (As (n:Int) 32)) (D U (AA (n:Int) 32)) ms false ((n / 32:Nat):Int)):=by
  rw[e1,e2];exact ha
 have hres:rv (B (N<0)) Q=N / 2^n:=by
  have hpn:=BG n;by_cases hneg:N<0
  ·rw[decide_eq_true hneg];have:N=2^n*(-Ac Q):=by rw[DZ];omega
   show -Ac Q=_;conv=>rhs;rw[this]
   rw[BP _ (by omega)]
  ·rw[decide_eq_false hneg];have:N=2^n*Ac Q:=by omega
   show Ac Q=_;conv=>rhs;rw[this]
   rw[BP _ (by omega)]
 rw[hres] at hmk;have hlm:(G N.natAbs)=ms:=hms;unfold o;rw[hlm];by_cases hneg:N<0
 ·exact nZ _ (B (N<0)) false ms ms Q (n:Nat) _ _ _ c1 (by rw[ec2];rfl) (decide_eq_true hneg) rfl hlb ha2 hb2 (by rw[e1];omega) (by rw[e2];omega) hmk
 ·exact oD _ (B (N<0)) false ms ms Q (n:Nat) _ _ _ c1 (by rw[ec2];rfl) (decide_eq_false hneg) hlb ha2 hb2 (by rw[e1];omega) (by rw[e2];omega) hmk
theorem Wm(n:Int):(cn n).2.length=(G n.natAbs).length:=rfl
theorem Oi(n:Int):AL (cn n).2:=BK _
theorem sN{ms:List Int}(hu:AL ms){z:Nat}(hz:z / 32<ms.length):ms.getD (z / 32) 0 / 2^(z % 32) % 2=Ac ms / 2^z % 2:=by
 have h1:=Di ms (show z / 32<=ms.length by omega);have e32:=QS (show z % 32<=32 by omega);rw[A8] at e32;have eT:(2:Int)^(32-z % 32)=2*2^(31-z % 32):=by rw[show 32-z % 32=(31-z % 32)+1 by omega,Ax];omega
 have h2:Ac (ms.drop (z / 32))=ms.getD (z / 32) 0+2^(z % 32)*(2*2^(31-z % 32))*Ac (ms.drop (z / 32+1)):=by
  rw[<- eT,<- e32,CV hz,Z,Af hz];rfl
 have ht0:=AT (DH hu (z / 32));have ht1:=FS hu (z / 32);have hp:=HP z;have hP:=Cr (z / 32);have hS:=BG (z % 32);have hb0:=Fy (ms.getD (z / 32) 0) (show (2:Int)^(z % 32) ≠ 0 by omega);have hb1:=El (ms.getD (z / 32) 0) hS;have hx:=Gs (ms.getD (z / 32) 0) (2^(z % 32));rw[hp,h1,h2];clear h1 h2 hp e32 eT;generalize Ac (ms.take (z / 32))=T at *
 generalize Ac (ms.drop (z / 32+1))=R at *
 generalize ms.getD (z / 32) 0=x at *
 generalize (4294967296:Int)^(z / 32)=P at *
 generalize (2:Int)^(31-z % 32)=U at *
 generalize (2:Int)^(z % 32)=S at *
 generalize x / S=a at *
 generalize x % S=b at *
 have e:T+P*(x+S*(2*U)*R)=(T+P*b)+P*S*(a+2*(U*R)):=by rw[<- hx];grind
 have hPS:=Ba hP hS;have c1:=A3 (A0 hP) hb0;have c2:=Ag (show b+1<=S by omega) (A0 hP);rw[CE,CN] at c2;rw[e,SB _ _ (by omega),GC (by omega) (by omega),DA,TE]
theorem Wn{p:Int}(hp:0<=p/\p<4294967296):(D A5 ((T (Al .u32) p &&& T (Al .u32) 1).toNat)==0)=decide (p % 2=0):=by
 have h:=lX hp (s:=1) (by decide);rw[show ((2:Int)^1-1)=1 by decide,show ((2:Int)^1)=2 by decide] at h;rw[h,ZI,beq_iff_eq,decide_eq_true_eq]
theorem Abo{x:Int}(hx:0<=x/\x<4294967296){s:Nat}(hs:s<32):(D A5 ((T (Al .u32) (d x (2^(min (A (s:Int)) (Al .u32)))) &&& T (Al .u32) 1).toNat)==0)=decide (x / 2^s % 2=0):=by
 have em:min (A (s:Int)) (Al .u32)=s:=by rw[F];show min s 32=s;omega
 have hp:=BG s;rw[em,t _ (by omega)];have h1:=Jn hx.1 (A0 hp);have h2:=Int.ediv_le_self (2^s) hx.1;exact Wn ⟨h1,by omega⟩
def DD:Int->Nat->Nat
 | _,0=>0
 | N,e+1=>if N % 2=0 then DD (N / 2) e+1 else 0
theorem Oj:∀ (e:Nat) (N:Int),DD N e<=e
 | 0,_=>An _
 | e+1,N=>by
  simp only[DD];split
  ·have:=Oj e (N / 2);omega
  ·omega
theorem Kh:∀ (e:Nat) (N:Int),(2:Int)^DD N e∣N
 | 0,N=>⟨N,by simp[DD]⟩
 | e+1,N=>by
  simp only[DD];split
  ·obtain⟨q,hq⟩:=Kh e (N / 2);refine⟨q,?_⟩;rw[Ax,A9,A8 2 q,<- A9,<- hq];omega
  ·exact⟨N,by simp⟩
theorem oJ{e:Nat}{N:Int}(h:N % 2=0):N / 2^(DD (N / 2) e+1)=N / 2 / 2^DD (N / 2) e:=by
 obtain⟨q,hq⟩:=Kh e (N / 2);have hp:=BG (DD (N / 2) e);have hN:N=2^(DD (N / 2) e+1)*q:=by
  rw[Ax,A9,A8 2 q,<- A9,<- hq];omega
 generalize DD (N / 2) e=k at *
 have h1:N / 2^(k+1)=q:=by
  conv=>lhs;rw[hN]
  exact BP _ (by have:=BG (k+1);omega)
 have h2:N / 2 / 2^k=q:=by
  conv=>lhs;rw[hq]
  exact BP _ (by omega)
 rw[h1,h2]
theorem Wo:∀ e:Nat,DD 0 e=e
 | 0=>rfl
 | e+1=>by simp only[DD];rw[if_pos (by decide),show (0:Int) / 2=0 by decide,Wo e]
theorem Abp(N:Int)(h:N % 2=0):(G (N / 2).natAbs).length<=(G N.natAbs).length:=by
 apply M1;have:=D9 (Cc N.natAbs).1;rw[Cn] at this;omega
theorem eV{N:Int}(h0:N ≠ 0):((G N.natAbs).getD 0 0 % 2=0)↔N % 2=0:=by
 have hl:0<(G N.natAbs).length:=by
  have:=Db N.natAbs;omega
 have h:=sN (BK N.natAbs) (z:=0) (by simpa using hl);rw[Cn] at h;simp only[Nat.zero_div,Nat.zero_mod,CD,ZK] at h;omega
theorem Z1:∀ (e:Nat) (N:Int),(G N.natAbs).length<1048576->e<=1000000 ->
  W I (.loop PK) (JA (cn N) (e:Nat)) (.exit 0) (JA (cn (N / 2^DD N e)) ((e-DD N e:Nat):Int)):=by
 intro e;induction e with
 | zero =>
  intro N _ _;have e1:N / 2^DD N 0=N:=by simp[DD]
  rw[e1];exact Am (Atm (cn N) ((0:Nat):Int) (by decide)) (by nofun)
 | succ e ih =>
  intro N hN he;have ew:D R (((e+1:Nat):Int)-1)=(e:Int):=by rw[Bg (by omega) (by omega)];omega
  have hd:=VO (neg:=(cn N).1) (xs:=(cn N).2) (Oi N) 1 (by decide) (by rw[Wm];exact hN);rw[show rv (cn N).1 (cn N).2=N from u N,show (2:Int)^1=2 by decide] at hd;have c1:decide (((e+1:Nat):Int)>0)=true:=by rw[decide_eq_true_eq];omega
  have hlen:(cn N).2.length=(G N.natAbs).length:=rfl;by_cases h2:N % 2=0
  ·have er:DD N (e+1)=DD (N / 2) e+1:=by simp only[DD];rw[if_pos h2]
   rw[er,oJ h2,show e+1-(DD (N / 2) e+1)=e-DD (N / 2) e by omega];have r:=ih (N / 2) (by have:=Abp N h2;omega) (by omega);by_cases h0:N=0
   ·have k:=Atj (cn N) ((e+1:Nat):Int) (N / 2) c1 (by rw[h0];rfl) hd;rw[ew] at k;exact W.loop k r
   ·have hl:0<(G N.natAbs).length:=by have:=Db N.natAbs;omega
    have k:=Atk (cn N) ((e+1:Nat):Int) (N / 2) c1 (by rw[beq_eq_false_iff_ne];omega) (by rw[Wn (AE (Oi N) _),decide_eq_true_eq];exact (eV h0).2 h2) (by omega) hd;rw[ew] at k;exact W.loop k r
  ·have h0:N ≠ 0:=by intro h;rw[h] at h2;exact h2 (by decide)
   have er:DD N (e+1)=0:=by simp only[DD];rw[if_neg h2]
   have hl:0<(G N.natAbs).length:=by have:=Db N.natAbs;omega
   rw[er,CD,ZK,JH];exact Am (Atl (cn N) ((e+1:Nat):Int) c1 (by rw[beq_eq_false_iff_ne];omega) (by rw[Wn (AE (Oi N) _),decide_eq_false_iff_not];exact fun h=>h2 ((eV h0).1 h)) (by omega)) (by nofun)
def dyA(n e:Int):AV := A6r [A6m (B (n<0)),A6n (G n.natAbs).length (lm (G n.natAbs)),A6l R e]
theorem eX{N:Int}{e:Nat}(hN:(G N.natAbs).length<1048576)(he:e<=1000000):H I 162 [dyA N (e:Nat)] (dyA (N / 2^DD N e) ((e-DD N e:Nat):Int)):=by
 have h1:=VE (neg:=(cn N).1) (xs:=(cn N).2) (Oi N) (by rw[Wm];omega);rw[show rv (cn N).1 (cn N).2=N from u N] at h1;exact Atn (cn N) (e:Nat) N (N / 2^DD N e) _ h1 (Z1 e N hN he)
theorem Xj{N:Int}(h0:N ≠ 0){e:Nat}(he:e<=1000000)(hN:(G N.natAbs).length<1048576):∀ (r z:Nat),z+r=e->(2:Int)^z∣N ->
  W I (.loop RF) (L0 (cn N) (e:Nat) (z:Nat)) (.exit 0) (L0 (cn N) (e:Nat) ((z+DD (N / 2^z) r:Nat):Int)):=by
 intro r;induction r with
 | zero =>
  intro z hz _;exact Am (Ath (cn N) (e:Nat) (z:Nat) (by simp;omega)) (by nofun)
 | succ r ih =>
  intro z hz hd;have hin:=eR h0 hd;have e1:D R (As (z:Int) 32)=((z / 32:Nat):Int):=by
   rw[B5 (by omega),Bg (by omega) (by omega)];omega
  have e2:D U (AA (z:Int) 32)=((z % 32:Nat):Int):=by
   rw[Bl (by omega),B3];omega
  have ei:D R ((z:Int)+1)=((z+1:Nat):Int):=by rw[Bg (by omega) (by omega)];omega
  have hs:z % 32<32:=H8 _ (by decide);have c1:decide ((z:Int)<(e:Int))=true:=by rw[decide_eq_true_eq];omega
  have hb:=sN (BK N.natAbs) hin;rw[Cn] at hb;obtain⟨q,hq⟩:=hd;have hpz:=BG z;have hq1:N / 2^z=q:=by
   conv=>lhs;rw[hq]
   exact BP _ (by omega)
  have hq2:(N.natAbs:Int) / 2^z=(q.natAbs:Int):=by
   have:(N.natAbs:Int)=2^z*(q.natAbs:Int):=by rw[hq,BM,CZ,KA (A0 hpz)]
   rw[this];exact BP _ (by omega)
  rw[hq2] at hb;have ht:=Abo (AE (BK N.natAbs) (z / 32)) hs;have ct:(D A5 ((T (Al .u32) (d ((cn N).2.getD (A (D R (As (z:Int) 32))) 0) (2^(min (A (D U (AA (z:Int) 32))) (Al .u32)))) &&& T (Al .u32) 1).toNat)==0)=decide (q % 2=0):=by
   rw[e1,e2,F];refine ht.trans ?_;rw[hb,decide_eq_decide];omega
  have hlen:(cn N).2.length=(G N.natAbs).length:=rfl;rw[hq1];by_cases h2:q % 2=0
  ·have er:DD q (r+1)=DD (q / 2) r+1:=by simp only[DD];rw[if_pos h2]
   have hq3:N=2^(z+1)*(q / 2):=by rw[Ax,A9,show 2*(q / 2)=q by omega];exact hq
   have hq4:N / 2^(z+1)=q / 2:=by
    conv=>lhs;rw[hq3]
    exact BP _ (by have:=BG (z+1);omega)
   have hr:=ih (z+1) (by omega) ⟨q / 2,hq3⟩;rw[hq4] at hr;have k:=Atf (cn N) (e:Nat) (z:Nat) c1 (by rw[ct,decide_eq_true_eq];exact h2) (by rw[e1];omega) (by rw[e2];omega);rw[ei] at k;rw[er,show z+(DD (q / 2) r+1)=z+1+DD (q / 2) r by omega];exact W.loop k hr
  ·have er:DD q (r+1)=0:=by simp only[DD];rw[if_neg h2]
   rw[er,FC];exact Am (Atg (cn N) (e:Nat) (z:Nat) c1 (by rw[ct,decide_eq_false_iff_not];exact h2) (by rw[e1];omega) (by rw[e2];omega)) (by nofun)
theorem Z2{N:Int}{e:Nat}(hN:(G N.natAbs).length<1048576)(he:e<=1000000):H I 130 [o N,A6l R (e:Nat)] (dyA (N / 2^DD N e) ((e-DD N e:Nat):Int)):=by
 have h1:=M8 (neg:=(cn N).1) (xs:=(cn N).2) (Oi N) (by rw[Wm];omega);rw[show rv (cn N).1 (cn N).2=N from u N] at h1;by_cases h0:N=0
 ·subst h0;rw[Wo,Int.zero_ediv,OY];exact oF (cn 0) (e:Nat) 0 rfl h1
 ·have hl:=Xj h0 he hN e 0 (by omega) (by simp);rw[CD,ZK,Ch] at hl;have hle:=Oj e N;have hs:=eU h0 (Kh e N) (by omega) (by omega);have k:=oH (cn N) (e:Nat) N _ _ (by rw[beq_eq_false_iff_ne];have:=Db N.natAbs;omega) h1 hl hs;have ew:D R ((e:Int)-((DD N e:Nat):Int))=((e-DD N e:Nat):Int):=by rw[Bg (by omega) (by omega)];omega
  rw[ew] at k;exact k
def Fe(o:Bool)(ps:List (List Rn))(n:Int)(k:Int)(rs:List Rn)(d:Int)(i:Int):Ak:=(Q 2 (A6o (A6m o)::(Q 1 (A6o (sL pc rs)::(A6o (A6l R d)::(A6o (A6l R i)::(A6o (sL pp ps)::(A6o (A6l R n)::(A6o (A6l R k)::(Q 19 []))))))))))
theorem Abq(o:Bool)(ps:List (List Rn))(n:Int)(k:Int)(rs:List Rn)(d:Int)(i:Int)(z:Int)(c1:B (i<=d)=true)(c2:B (z>256)=true)(n1:0<=i/\i<(rs.length:Int))(n2:H I 177 [At (rs.getD (A i) z0)] (A6l R z)):W I Ie (Fe o ps n k rs d i) .ret (Fe true ps n k rs d i):=(C CR 400 [.b true,.v (At (rs.getD (A i) z0)),.r (A6l R z),.b true] [2,4,5,6,7,8,9] (P c1 (P n1 (P (x n1) (P n2 (P c2 a0))))))
theorem Abr(o:Bool)(ps:List (List Rn))(n:Int)(k:Int)(rs:List Rn)(d:Int)(i:Int)(z:Int)(c1:B (i<=d)=true)(c2:B (z>256)=false)(n1:0<=i/\i<(rs.length:Int))(n2:H I 177 [At (rs.getD (A i) z0)] (A6l R z)):W I Ie (Fe o ps n k rs d i) .norm (Fe o ps n k rs d (D R (i+1))):=(C CR 400 [.b true,.v (At (rs.getD (A i) z0)),.r (A6l R z),.b false] [2,4,5,6,7,8,9] (P c1 (P n1 (P (x n1) (P n2 (P c2 a0))))))
theorem Abs(o:Bool)(ps:List (List Rn))(n:Int)(k:Int)(rs:List Rn)(d:Int)(i:Int)(c1:B (i<=d)=false):W I Ie (Fe o ps n k rs d i) (.exit 2) (Fe o ps n k rs d i):=(C CR 400 [.b false] [2,4,5,6,7,8,9] (P c1 a0))
def MP:ICode:=e [oB 10 .lss 9 8] (.seq (.cond 10 .skip (.exit 0)) (.seq (.block 1 (e [oA 11 7 9 1,S 12 (.ld 11 11 1 true),V 4 12] (e [V 13 4,n 14 53 [13],V 5 14] (.seq (e [V 15 5,oI 16 .gtr 15 16] (.cond 16 (e [S 2 (.mov (cb true))] .ret) .skip)) (e [S 6 (.mov (ci 0))] (.block 2 (.loop (.seq (e [V 17 6,V 18 5,oB 19 .leq 17 18] (.cond 19 .skip (.exit 2))) (.seq (.block 3 (e [V 22 4,V 23 6,oA 24 22 23 2,oL 25 24 24 2,n 26 177 [25],oI 27 .gtr 26 256] (.cond 27 (e [S 2 (.mov (cb true))] .ret) .skip))) (rg [V 20 6,oI 21 .add 20 1,V 6 21])))))))))) (rg [oI 28 .add 9 1,V 9 28])))
def Hu(o:Bool)(ps:List (List Rn))(n:Int)(k:Int):Ak:=(Q 2 (A6o (A6m o)::(Q 4 (A6o (sL pp ps)::(A6o (A6l R n)::(A6o (A6l R k)::(Q 19 [])))))))
theorem Atq(o:Bool)(ps:List (List Rn))(n:Int)(k:Int)(d:Int)(c1:B (k<n)=true)(c2:B (d>16)=true)(n1:0<=k/\k<(ps.length:Int))(n2:H I 53 [A6n ((ps.getD (A k) []).length) (pc (ps.getD (A k) []))] (A6l R d)):W I MP (Hu o ps n k) .ret (Hu true ps n k):=(L (W.seq (C (t:=(Q 2 (A6o (A6m o)::(Q 4 (A6o (sL pp ps)::(vi n::(vi k::(Q 19 [])))))))) CR 400 [.b true] [2,7,8,9] (P c1 a0)) (p (DU (L (L (L (p (C CR 400 [.v (A6n ((ps.getD (A k) []).length) (pc (ps.getD (A k) []))),.r (A6l R d),.b true] [2,7,8,9] (P n1 (P (Fj n1) (P n2 (P c2 a0))))) (by nofun)))))) (by nofun))))
theorem Atr(o:Bool)(ps:List (List Rn))(n:Int)(k:Int)(d i:Int)(c1:B (k<n)=true)(c2:B (d>16)=false)(n1:0<=k/\k<(ps.length:Int))(n2:H I 53 [A6n ((ps.getD (A k) []).length) (pc (ps.getD (A k) []))] (A6l R d))(hl3:W I (.loop Ie) (Fe o ps n k (ps.getD (A k) []) d 0) (.exit 2) (Fe o ps n k (ps.getD (A k) []) d i)):W I MP (Hu o ps n k) .norm (Hu o ps n (D R (k+1))):=(L (W.seq (C (t:=(Q 2 (A6o (A6m o)::(Q 4 (A6o (sL pp ps)::(vi n::(vi k::(Q 19 [])))))))) CR 400 [.b true] [2,7,8,9] (P c1 a0)) (W.seq (Ci (L (L (L (W.seq (C CR 400 [.v (A6n ((ps.getD (A k) []).length) (pc (ps.getD (A k) []))),.r (A6l R d),.b false] [2,4,5,6,7,8,9] (P n1 (P (Fj n1) (P n2 (P c2 a0))))) (W.block hl3)))))) (C CR 400 [] [2,7,8,9] a0))))
theorem Ats(o:Bool)(ps:List (List Rn))(n:Int)(k:Int)(c1:B (k<n)=false):W I MP (Hu o ps n k) (.exit 0) (Hu o ps n k):=(L (p (C CR 400 [.b false] [2,7,8,9] (P c1 a0)) (by nofun)))
def sO(o:Bool)(ps:List (List Rn))(n:Int)(k:Int):Ak:=(Q 2 (A6o (A6m o)::(Q 4 (A6o (sL pp ps)::(A6o (A6l R n)::(A6o (A6l R k)::(Q 19 [])))))))
theorem Abt(o:Bool)(ps:List (List Rn))(n:Int)(k:Int)(d i:Int)(c1:B (k<n)=true)(c2:B (d>16)=false)(n1:0<=k/\k<(ps.length:Int))(n2:H I 53 [A6n ((ps.getD (A k) []).length) (pc (ps.getD (A k) []))] (A6l R d))(hl3:W I (.loop Ie) (Fe o ps n k (ps.getD (A k) []) d 0) .ret (Fe true ps n k (ps.getD (A k) []) d i)):W I rU (sO o ps n k) .ret (sO true ps n k):=(L (W.seq (C (t:=(Q 2 (A6o (A6m o)::(Q 4 (A6o (sL pp ps)::(vi n::(vi k::(Q 19 [])))))))) CR 400 [.b true] [2,7,8,9] (P c1 a0)) (p (DU (L (L (L (W.seq (C CR 400 [.v (A6n ((ps.getD (A k) []).length) (pc (ps.getD (A k) []))),.r (A6l R d),.b false] [2,4,5,6,7,8,9] (P n1 (P (Fj n1) (P n2 (P c2 a0))))) (DU (cL (t':=(Q 2 (A6o (A6m true)::(Q 4 (A6o (sL pp ps)::(A6o (A6l R n)::(A6o (A6l R k)::(Q 19 [])))))))) [2,7,8,9] hl3 (by kernel_rfl)))))))) (by nofun))))
theorem oK(ps:List (List Rn))(n k:Int)(hl1:W I (.loop MP) (Hu false ps (ps.length:Int) 0) (.exit 0) (Hu false ps n k)):H I 147 [sL pp ps] (A6m false):=X (fn:=RK) (s:=(Q 2 (A6o (A6m false)::(Q 26 [])))) (ex := .ret) rfl rfl (q (W.seq (C CR 400 [] [2,7,8,9] a0) (W.seq (W.block hl1) (C CR 400 [] [2] a0)))) (by nofun) rfl
theorem oO(ps:List (List Rn))(n k:Int)(hl1:W I (.loop MP) (Hu false ps (ps.length:Int) 0) .ret (Hu true ps n k)):H I 147 [sL pp ps] (A6m true):=X (fn:=RK) (s:=(Q 2 (A6o (A6m true)::(Q 4 (A6o (sL pp ps)::(A6o (A6l R n)::(A6o (A6l R k)::(Q 19 [])))))))) (ex := .ret) rfl rfl (q (W.seq (C CR 400 [] [2,7,8,9] a0) (p (DU hl1) (by nofun)))) (by nofun) rfl
def Yq(x:Int):Bool:=decide (256<(G x.natAbs).length)
def DP(p:List Int):Bool:=decide (17<(Y p).length) || (Y p).any Yq
theorem oP{p:List Int}{f:Int->Bool}(h:p.any f=false)(i:Nat)(hi:i<p.length):f (p.getD i 0)=false:=by
 rw[WF] at h;rw[Z,Af hi];simpa using h _ (Ds hi)
theorem Abu{p:List Int}{f:Int->Bool}(h:p.any f=true):∃ i,i<p.length/\f (p.getD i 0)=true:=by
 obtain⟨x,hx,hf⟩:=Aew.1 h;obtain⟨i,hi,rfl⟩:=Jq.1 hx;refine⟨i,hi,?_⟩;rw[Z,Af hi];simpa using hf
section
variable {rs:List Rn} {ps:List (List Rn)} {n k:Int}
theorem Wp(hg:∀ r∈rs,AN 1048576 r)(hN:rs.length<=1048576) :
  (DP (M rs)=false->(Y (M rs)).length<=17->W I (.loop Ie) (Fe false ps n k rs (((l (M rs) rs.length:Nat):Int)-1) 0) (.exit 2) (Fe false ps n k rs (((l (M rs) rs.length:Nat):Int)-1) (l (M rs) rs.length:Nat))) /\
  (DP (M rs)=true->(Y (M rs)).length<=17->∃ j:Nat,W I (.loop Ie) (Fe false ps n k rs (((l (M rs) rs.length:Nat):Int)-1) 0) .ret (Fe true ps n k rs (((l (M rs) rs.length:Nat):Int)-1) (j:Nat))):=by
 have hle:=GG (M rs) rs.length;have hlen:(Y (M rs)).length=l (M rs) rs.length:=by rw[Fs,s]
 have step:∀ t:Nat,t<l (M rs) rs.length->Yq (O (rs.getD t z0))=false->W I Ie (Fe false ps n k rs (((l (M rs) rs.length:Nat):Int)-1) (t:Nat)) .norm (Fe false ps n k rs (((l (M rs) rs.length:Nat):Int)-1) ((t+1:Nat):Int)):=by
  intro t ht hb;have ei:D R ((t:Int)+1)=((t+1:Nat):Int):=by rw[Bg (by omega) (by omega)];omega
  obtain⟨g1,g2⟩:=Be hg t;have k2:=Abr false ps n k rs (((l (M rs) rs.length:Nat):Int)-1) (t:Nat) (((G (O (rs.getD t z0)).natAbs).length:Nat):Int) (by simp;omega) (by unfold Yq at hb;simp only[decide_eq_false_iff_not] at hb |-;omega) (by omega) (by rw[F];exact VN g1 g2);rwa [ei] at k2
 refine⟨fun hl _ => ?_,fun hl h17 => ?_⟩
 ·unfold DP at hl;rw[SC] at hl;have h:=Gc (prog:=I) (c:=Ie) (ex := .exit 2) (fun t=>Fe false ps n k rs (((l (M rs) rs.length:Nat):Int)-1) (t:Nat)) (l (M rs) rs.length) (by nofun) (Abs false ps n k rs _ _ (by simp;omega)) 0 (Bv _) (fun t _ h2=>step t h2 (by
   have:=oP hl.2 t (by omega);rwa [CG,C9] at this))
  exact h
 ·unfold DP at hl;rw[decide_eq_false (by omega),Bool.false_or] at hl;obtain⟨i,hi,hf⟩:=Abu hl;rcases Je (fun j=>Yq (O (rs.getD j z0))) (l (M rs) rs.length) _ 0 (by rw[Ch]) with h | ⟨j,_,h2,h3,h4⟩
  ·have:=h i (by omega) (by omega);rw[CG,C9] at hf;rw[hf] at this;cases this
  ·obtain⟨g1,g2⟩:=Be hg j;have k1:=Abq false ps n k rs (((l (M rs) rs.length:Nat):Int)-1) (j:Nat) (((G (O (rs.getD j z0)).natAbs).length:Nat):Int) (by simp;omega) (by unfold Yq at h3;simp only[decide_eq_true_eq] at h3 |-;omega) (by omega) (by rw[F];exact VN g1 g2);exact⟨j,Gc (prog:=I) (c:=Ie) (ex := .ret) (fun t=>Fe false ps n k rs (((l (M rs) rs.length:Nat):Int)-1) (t:Nat)) j (by nofun) k1 0 (Bv _) (fun t _ h6=>step t (by omega) (h4 t (by omega) h6))⟩
end
theorem LV{α:Type}{l:List (List α)}{i:Nat}(h:i<l.length):l.getD i []∈l:=by
 rw[Z,Af h];exact Ds h
theorem Tt{ps:List (List Rn)}(hg:∀ p∈ps,(∀ r∈p,AN 1048576 r)/\p.length<=1048576)(hN:ps.length<=1048576):H I 147 [sL pp ps] (A6m (ps.any fun p=>DP (M p))):=by
 have hdeg:∀ t,t<ps.length->H I 53 [A6n (ps.getD t []).length (pc (ps.getD t []))] (A6l R (((l (M (ps.getD t [])) (ps.getD t []).length:Nat):Int)-1)):=fun t ht=>GL (hg _ (LV ht)).1 (hg _ (LV ht)).2;have step:∀ t:Nat,t<ps.length->DP (M (ps.getD t []))=false->W I MP (Hu false ps (ps.length:Nat) (t:Nat)) .norm (Hu false ps (ps.length:Nat) ((t+1:Nat):Int)):=by
  intro t ht hl;have ei:D R ((t:Int)+1)=((t+1:Nat):Int):=by rw[Bg (by omega) (by omega)];omega
  obtain⟨g1,g2⟩:=hg _ (LV ht);have hlen:(Y (M (ps.getD t []))).length=l (M (ps.getD t [])) (ps.getD t []).length:=by rw[Fs,s]
  have h17:(Y (M (ps.getD t []))).length<=17:=by
   unfold DP at hl;rw[SC,decide_eq_false_iff_not] at hl;omega
  have k2:=Atr false ps (ps.length:Nat) (t:Nat) (((l (M (ps.getD t [])) (ps.getD t []).length:Nat):Int)-1) _ (by simp;omega) (by rw[decide_eq_false_iff_not];omega) (by omega) (by rw[F];exact hdeg t ht) (by rw[F];exact (Wp g1 g2).1 hl h17);rwa [ei] at k2
 rcases Je (fun j=>DP (M (ps.getD j []))) ps.length _ 0 (by rw[Ch]) with h | ⟨j,_,h2,h3,h4⟩
 ·have hany:(ps.any fun p=>DP (M p))=false:=by
   rw[WF];intro p hp;obtain⟨i,hi,rfl⟩:=Jq.1 hp;have:=h i (by omega) hi;rw[Z,Af hi] at this;simpa using this
  rw[hany];exact oK ps _ _ (Gc (prog:=I) (c:=MP) (ex := .exit 0) (fun t=>Hu false ps (ps.length:Nat) (t:Nat)) ps.length (by nofun) (Ats false ps _ _ (by simp)) 0 (Bv _) (fun t _ h6=>step t h6 (h t (by omega) h6)))
 ·have hany:(ps.any fun p=>DP (M p))=true:=by
   rw[Aew];exact⟨_,LV h2,h3⟩
  rw[hany];obtain⟨g1,g2⟩:=hg _ (LV h2);have hlen:(Y (M (ps.getD j []))).length=l (M (ps.getD j [])) (ps.getD j []).length:=by rw[Fs,s]
  have out:W I MP (Hu false ps (ps.length:Nat) (j:Nat)) .ret (Hu true ps (ps.length:Nat) (j:Nat)):=by
   by_cases h17:(Y (M (ps.getD j []))).length<=17
   ·obtain⟨i,hi⟩:=(Wp (ps:=ps) (n:=(ps.length:Nat)) (k:=(j:Nat)) g1 g2).2 h3 h17;exact Abt false ps (ps.length:Nat) (j:Nat) (((l (M (ps.getD j [])) (ps.getD j []).length:Nat):Int)-1) _ (by simp;omega) (by rw[decide_eq_false_iff_not];omega) (by omega) (by rw[F];exact hdeg j h2) (by rw[F];exact hi)
   ·exact Atq false ps (ps.length:Nat) (j:Nat) (((l (M (ps.getD j [])) (ps.getD j []).length:Nat):Int)-1) (by simp;omega) (by rw[decide_eq_true_eq];omega) (by omega) (by rw[F];exact hdeg j h2)
  exact oO ps _ _ (Gc (prog:=I) (c:=MP) (ex := .ret) (fun t=>Hu false ps (ps.length:Nat) (t:Nat)) j (by nofun) out 0 (Bv _) (fun t _ h6=>step t (by omega) (h4 t (by omega) h6)))
theorem A0t(rs ts:List Rn)(n1:H I 46 [sL pc rs] (A6p 2 ts.length (pc ts))):H I 21 [sL pc rs] (A6l R (D R ((ts.length:Int)-1))):=i (fn:=aE) IA rfl 400 rfl [.r (A6p 2 ts.length (pc ts))] (P n1 a0)
def Tu(n:Int)(x:Int):Ak:=(Q 4 (A6o (A6l R n)::(A6o (A6l A5 x)::(Q 23 []))))
theorem A0u(n:Int)(x:Int)(c1:B (x>0)=true):W I aK (Tu n x) .norm (Tu (D R (n+1)) (d x (2^(min (A 1) (Al .u32))))):=(C IA 400 [.b true] [4,5] (P c1 (P (show ¬ (1:Int)<0 from (by decide)) a0)))
theorem sP(n:Int)(x:Int)(c1:B (x>0)=false):W I aK (Tu n x) (.exit 0) (Tu n x):=(C IA 400 [.b false] [4,5] (P c1 a0))
theorem Abv(b:Bool)(xs ms:List Int)(c1:((ms.length:Int)==0)=true)(n1:H I 99 [sL lm xs] (A6p 1 ms.length (lm ms))):H I 51 [A6r [A6m b,sL lm xs]] (A6l R 0):=X (fn:=X1) (s:=(Q 2 (A6o (A6l R 0)::(Q 26 [])))) (ex := .ret) rfl rfl (L (L (L (q (p (C IA 400 [.r (A6p 1 ms.length (lm ms)),.b true] [2] (P n1 (P c1 a0))) (by nofun)))))) (by nofun) rfl
theorem Abw(b:Bool)(xs ms:List Int)(n x:Int)(c1:((ms.length:Int)==0)=false)(n1:H I 99 [sL lm xs] (A6p 1 ms.length (lm ms)))(n2:0<=(D R ((ms.length:Int)-1))/\(D R ((ms.length:Int)-1))<(ms.length:Int))(hl3:W I (.loop aK) (Tu (D R (32*(D R ((ms.length:Int)-1)))) (ms.getD (A (D R ((ms.length:Int)-1))) 0)) (.exit 0) (Tu n x)):H I 51 [A6r [A6m b,sL lm xs]] (A6l R n):=X (fn:=X1) (s:=(Q 2 (A6o (A6l R n)::(Q 26 [])))) (ex := .ret) rfl rfl (L (L (L (q (W.seq (C IA 400 [.r (A6p 1 ms.length (lm ms)),.b false,.v (A6l A5 (ms.getD (A (D R ((ms.length:Int)-1))) 0))] [4,5] (P n1 (P c1 (P n2 (P (AM n2) a0))))) (W.seq (W.block hl3) (C IA 400 [] [2] a0))))))) (by nofun) rfl
theorem Xk{rs:List Rn}(hg:∀ r∈rs,AN 1048576 r)(hN:rs.length<=1048576):H I 21 [sL pc rs] (A6l R (((Y (M rs)).length:Nat)-1:Int)):=by
 have htr:=E_ hg hN;have hl:=Bf (M rs);rw[s] at hl;have hpk:pk (Y (M rs))=pc ((Y (M rs)).map cn):=rfl;(first|rw[hpk,<- N (f:=cn)] at htr|(rw[hpk] at htr;unfold sL at htr;rw[<- N (f:=cn)] at htr));have h:=A0t rs _ htr;rw[Bg (by omega) (by rw[N];omega),N] at h;exact h
theorem oQ{x:Nat}(h:x ≠ 0):D4 x=D4 (x / 2)+1:=by
 unfold D4;rw[if_neg h];by_cases h2:x / 2=0
 ·have:x=1:=by omega
  subst this;decide
 ·rw[if_neg h2,GK x 1 (by simpa using h2)]
theorem eY:∀ (f x:Nat) (n:Nat),x<=f->x<4294967296->n+D4 x<=2251799813685248->W I (.loop aK) (Tu (n:Nat) (x:Nat)) (.exit 0) (Tu ((n+D4 x:Nat):Int) 0):=by
 intro f;induction f with
 | zero =>
  intro x n hx _ _;have:x=0:=by omega
  subst this;exact Am (sP _ _ (by simp)) (by nofun)
 | succ f ih =>
  intro x n hx hb hn;by_cases h0:x=0
  ·subst h0;exact Am (sP _ _ (by simp)) (by nofun)
  ·have k:=A0u (n:Nat) (x:Nat) (by simp;omega);have e1:d (x:Int) (2^(min (A 1) (Al .u32)))=((x / 2:Nat):Int):=kR x 1 (by omega);rw[e1,Bg (by omega) (by omega),show (n:Int)+1=((n+1:Nat):Int) by omega] at k;have hbl:=oQ h0;have h:=ih (x / 2) (n+1) (by omega) (by omega) (by omega);rw[show n+1+D4 (x / 2)=n+D4 x by omega] at h;exact W.loop k h
theorem oR{neg:Bool}{xs:List Int}(hu:AL xs)(hN:xs.length<=35184372088832):H I 51 [A6r [A6m neg,sL lm xs]] (A6l R ((D4 (rv neg xs).natAbs:Nat):Int)):=by
 have hm:=DX (xs:=xs) hN;rw[OD (neg:=neg) hu] at hm;have l1:=E6 (neg:=neg) hu;generalize rv neg xs=a at *
 by_cases h0:a.natAbs=0
 ·have h:=Abv neg xs _ (by rw[h0];rfl) hm;rw[show D4 a.natAbs=0 by unfold D4;rw[if_pos h0]];exact h
 ·obtain⟨t1,x,t2,t3,t4,t5⟩:=XU h0;have e1:D R ((((G a.natAbs).length:Nat):Int)-1)=(((G a.natAbs).length-1:Nat):Int):=by rw[Bg (by omega) (by omega)];omega
  have hlog:Cb x<32:=(Pa t3).2 t4;have hbx:D4 x=Cb x+1:=by unfold D4;rw[if_neg t3]
  have e3:D R (32*(((G a.natAbs).length-1:Nat):Int))=((32*((G a.natAbs).length-1):Nat):Int):=by rw[Bg (by omega) (by omega)];omega
  have hl:=eY x x (32*((G a.natAbs).length-1)) (An _) t4 (by omega);have h:=Abw neg xs (G a.natAbs) _ _ (by rw[beq_eq_false_iff_ne];omega) hm (by rw[e1];omega) (by rw[e1,F,t2,e3];exact hl);have e2:D4 a.natAbs=32*((G a.natAbs).length-1)+D4 x:=by
   rw[hbx];unfold D4;rw[if_neg h0,GK a.natAbs (32*((G a.natAbs).length-1)) (by rw[t5];exact t3),t5];omega
  rw[e2];exact h
theorem oT{n k:Nat}(h:n<32*k):Bj k ((2:Int)^n):=by
 unfold Bj;rw[Np];show 2^n<4294967296^k;rw[show (4294967296:Nat)=2^32 by decide,<- A6e];exact PZ (by decide) h
theorem Sq{a b:Nat}(ha:a<=4096)(hb:b<=4096):D R ((if (b:Int)>(a:Int) then (b:Int) else (a:Int))-(a:Int))=((max a b-a:Nat):Int):=by
 split <;> rw[Bg (by omega) (by omega)] <;> omega
theorem Sr{a b:Nat}(ha:a<=4096)(hb:b<=4096):D R ((if (b:Int)>(a:Int) then (b:Int) else (a:Int))-(b:Int))=((max a b-b:Nat):Int):=by
 split <;> rw[Bg (by omega) (by omega)] <;> omega
theorem eZ{a b:Nat}(ha:a<=4096)(hb:b<=4096):D R ((if (b:Int)>(a:Int) then (b:Int) else (a:Int))+1)=((max a b+1:Nat):Int):=by
 split <;> rw[Bg (by omega) (by omega)] <;> omega
theorem fA{a b c:Int}(hc:0<c):CC (a*c) (b*c)=CC a b:=by
 unfold CC;have h1:a*c<b*c↔a<b:=oU hc;have h2:b*c<a*c↔b<a:=oU hc;simp only[h1,h2]
theorem Att(X Y:Int)(a b:Nat):CC (X*2^(max a b-a)) (Y*2^(max a b-b))=CC (X*2^b) (Y*2^a):=by
 have h:=fA (a:=X*2^(max a b-a)) (b:=Y*2^(max a b-b)) (BG (min a b));rw[<- h,A9,A9,<- BC,<- BC,show max a b-a+min a b=b by omega,show max a b-b+min a b=a by omega]
def A6(r:Rn)(e:Int):AV := A6r [A6m r.1,A6n r.2.length (lm r.2),A6l R e]
theorem Px{r:Rn}(hr:AN 200 r){n:Nat}(hn:n<=4096):H I 104 [At r,A6l R (n:Nat)] (o (O r*2^n))/\H I 84 [At r,A6l R (n:Nat)] (C6 (O r*2^n))/\Bj 330 (O r*2^n):=by
 have h2:=hr.2;exact⟨XZ hr.1 n (by omega) (by omega),QQ hr.1 n (by omega),(hr.fits.mul (oT (k:=129) (by omega))).mono (by omega)⟩
def Dd(x:Int)(a:Nat)(y:Int)(b:Nat):Int:=CC (x*2^b) (y*2^a)
def In(x:Int)(a:Nat)(y:Int)(b:Nat):Int:=x*2^(max a b-a)+y*2^(max a b-b)
def Py(x:Int)(a:Nat)(y:Int)(b:Nat):Int:=In x a y b / 2^DD (In x a y b) (max a b+1)
def Nf(x:Int)(a:Nat)(y:Int)(b:Nat):Nat:=max a b+1-DD (In x a y b) (max a b+1)
section
variable {r t:Rn} (hr:AN 200 r) (ht:AN 200 t) {a b:Nat} (ha:a<=4096) (hb:b<=4096)
include hr ht ha hb
theorem LW:H I 55 [A6 r (a:Nat),A6 t (b:Nat)] (A6l R (Dd (O r) a (O t) b)):=by
 obtain⟨x1,_,x3⟩:=Px hr (n:=max a b-a) (by omega);obtain⟨y1,_,y3⟩:=Px ht (n:=max a b-b) (by omega);have g1:=B9 x3;have g2:=B9 y3;have p:=Abn (na:=(cn (O r*2^(max a b-a))).1) (nb:=(cn (O t*2^(max a b-b))).1) g1.1 g2.1 (by have:=g1.2;omega) (by have:=g2.2;omega);rw[show ∀ n,rv (cn n).1 (cn n).2=n from u,show ∀ n,rv (cn n).1 (cn n).2=n from u,Att] at p;exact A0q r t (a:Nat) (b:Nat) _ _ _ (by rw[Sq ha hb];exact x1) (by rw[Sr ha hb];exact y1) p
theorem F3:H I 33 [A6 r (a:Nat),A6 t (b:Nat)] (A6l R (Dd (O r) a (O t) b)):=by
 obtain⟨_,x2,x4⟩:=Px hr (n:=b) hb;obtain⟨_,y2,y4⟩:=Px ht (n:=a) ha;have g3:=B9 x4;have g4:=B9 y4;have q:=Abm (na:=(cn (O r*2^b)).1) (nb:=(cn (O t*2^a)).1) g3.1 g4.1 (by have:=g3.2;omega) (by have:=g4.2;omega);rw[show ∀ n,rv (cn n).1 (cn n).2=n from u,show ∀ n,rv (cn n).1 (cn n).2=n from u] at q;exact A0r r t (a:Nat) (b:Nat) _ _ _ x2 y2 q
theorem Yr:Bj 331 (In (O r) a (O t) b):=by
 obtain⟨_,_,x3⟩:=Px hr (n:=max a b-a) (by omega);obtain⟨_,_,y3⟩:=Px ht (n:=max a b-b) (by omega);exact x3.add y3
theorem Rj:H I 133 [A6 r (a:Nat),A6 t (b:Nat)] (dyA (Py (O r) a (O t) b) ((Nf (O r) a (O t) b:Nat):Int)):=by
 obtain⟨x1,_,x3⟩:=Px hr (n:=max a b-a) (by omega);obtain⟨y1,_,y3⟩:=Px ht (n:=max a b-b) (by omega);have hX:=x3.len;have hY:=y3.len;have p:=xR (a:=O r*2^(max a b-a)) (b:=O t*2^(max a b-b)) (by omega) (by omega);have hZl:=(Yr hr ht ha hb).len;have k1:=Z2 (N:=In (O r) a (O t) b) (e:=max a b+1) (by omega) (by omega);exact Ati r t (a:Nat) (b:Nat) _ _ _ _ _ (by rw[Sq ha hb];exact x1) (by rw[Sr ha hb];exact y1) p (by rw[eZ ha hb];exact k1)
theorem oV:H I 121 [A6 r (a:Nat),A6 t (b:Nat)] (dyA (Py (O r) a (O t) b) ((Nf (O r) a (O t) b:Nat):Int)):=by
 obtain⟨_,x2,x3⟩:=Px hr (n:=max a b-a) (by omega);obtain⟨_,y2,y3⟩:=Px ht (n:=max a b-b) (by omega);have q:=PU (na:=(cn (O r*2^(max a b-a))).1) (nb:=(cn (O t*2^(max a b-b))).1) (B9 x3).1 (B9 y3).1 (by have:=(B9 x3).2;omega) (by have:=(B9 y3).2;omega);rw[show ∀ n,rv (cn n).1 (cn n).2=n from u,show ∀ n,rv (cn n).1 (cn n).2=n from u] at q;have hZl:=(Yr hr ht ha hb).len;have k2:=eX (N:=In (O r) a (O t) b) (e:=max a b+1) (by omega) (by omega);exact Ato r t (a:Nat) (b:Nat) _ _ _ _ _ (by rw[Sq ha hb];exact x2) (by rw[Sr ha hb];exact y2) q (by rw[eZ ha hb];exact k2)
end
def IE(rs:List Rn)(ss:List Rn)(n:Int)(m:Int)(k:Nat)(os:List Rn)(l:Int)(i:Int):Ak:=(A6o (sL pc rs)::(A6o (sL pc ss)::(Q 3 (A6o (A6l R n)::(A6o (A6l R m)::(A6q 2 k (pc os)::(Q 12 (A6o (A6l R l)::(A6o (A6l R i)::(Q 30 []))))))))))
theorem Atu(rs:List Rn)(ss:List Rn)(n:Int)(m:Int)(k:Nat)(os:List Rn)(l:Int)(i:Int)(c1:B (i<l)=true)(c2:B (i<n)=true)(c3:B (i<m)=true)(n1:0<=i/\i<(rs.length:Int))(n2:0<=i/\i<(k:Int))(n3:os.length=k)(n4:(os.set (A i) (rs.getD (A i) z0)).length=k)(n5:0<=i/\i<(ss.length:Int))(n6:H I 111 [At ((os.set (A i) (rs.getD (A i) z0)).getD (A i) z0),At (ss.getD (A i) z0)] (o ((O ((os.set (A i) (rs.getD (A i) z0)).getD (A i) z0))+(O (ss.getD (A i) z0))))):W I NF (IE rs ss n m k os l i) .norm (IE rs ss n m k ((os.set (A i) (rs.getD (A i) z0)).set (A i) (cn ((O ((os.set (A i) (rs.getD (A i) z0)).getD (A i) z0))+(O (ss.getD (A i) z0))))) l (D R (i+1))):=(C CR 400 [.b true,.b true,.v (At (rs.getD (A i) z0)),.l (pc (os.set (A i) (rs.getD (A i) z0))),.b true,.v (At ((os.set (A i) (rs.getD (A i) z0)).getD (A i) z0)),.v (At (ss.getD (A i) z0)),.r (o ((O ((os.set (A i) (rs.getD (A i) z0)).getD (A i) z0))+(O (ss.getD (A i) z0)))),.l (pc ((os.set (A i) (rs.getD (A i) z0)).set (A i) (cn ((O ((os.set (A i) (rs.getD (A i) z0)).getD (A i) z0))+(O (ss.getD (A i) z0))))))] [0,1,5,6,7,20,21] (P c1 (P c2 (P n1 (P (x n1) (P n2 (P (Ft (r:=rs.getD (A i) z0) n3 n2) (P c3 (P n2 (P (FQ n4 n2) (P n5 (P (x n5) (P n6 (P n2 (P (Ft (r:=cn ((O ((os.set (A i) (rs.getD (A i) z0)).getD (A i) z0))+(O (ss.getD (A i) z0)))) n4 n2) a0)))))))))))))))
theorem Atv(rs:List Rn)(ss:List Rn)(n:Int)(m:Int)(k:Nat)(os:List Rn)(l:Int)(i:Int)(c1:B (i<l)=true)(c2:B (i<n)=true)(c3:B (i<m)=false)(n1:0<=i/\i<(rs.length:Int))(n2:0<=i/\i<(k:Int))(n3:os.length=k):W I NF (IE rs ss n m k os l i) .norm (IE rs ss n m k (os.set (A i) (rs.getD (A i) z0)) l (D R (i+1))):=(C CR 400 [.b true,.b true,.v (At (rs.getD (A i) z0)),.l (pc (os.set (A i) (rs.getD (A i) z0))),.b false] [0,1,5,6,7,20,21] (P c1 (P c2 (P n1 (P (x n1) (P n2 (P (Ft (r:=rs.getD (A i) z0) n3 n2) (P c3 a0))))))))
theorem Atw(rs:List Rn)(ss:List Rn)(n:Int)(m:Int)(k:Nat)(os:List Rn)(l:Int)(i:Int)(c1:B (i<l)=true)(c2:B (i<n)=false)(c3:B (i<m)=true)(n1:0<=i/\i<(k:Int))(n2:os.length=k)(n3:0<=i/\i<(ss.length:Int))(n4:H I 111 [At (os.getD (A i) z0),At (ss.getD (A i) z0)] (o ((O (os.getD (A i) z0))+(O (ss.getD (A i) z0))))):W I NF (IE rs ss n m k os l i) .norm (IE rs ss n m k (os.set (A i) (cn ((O (os.getD (A i) z0))+(O (ss.getD (A i) z0))))) l (D R (i+1))):=(C CR 400 [.b true,.b false,.b true,.v (At (os.getD (A i) z0)),.v (At (ss.getD (A i) z0)),.r (o ((O (os.getD (A i) z0))+(O (ss.getD (A i) z0)))),.l (pc (os.set (A i) (cn ((O (os.getD (A i) z0))+(O (ss.getD (A i) z0))))))] [0,1,5,6,7,20,21] (P c1 (P c2 (P c3 (P n1 (P (FQ n2 n1) (P n3 (P (x n3) (P n4 (P n1 (P (Ft (r:=cn ((O (os.getD (A i) z0))+(O (ss.getD (A i) z0)))) n2 n1) a0)))))))))))
theorem Atx(rs:List Rn)(ss:List Rn)(n:Int)(m:Int)(k:Nat)(os:List Rn)(l:Int)(i:Int)(c1:B (i<l)=false):W I NF (IE rs ss n m k os l i) (.exit 0) (IE rs ss n m k os l i):=(C CR 400 [.b false] [0,1,5,6,7,20,21] (P c1 a0))
def GU(rs ss:List Rn)(a b j:Nat):Rn:=if j<b then cn (O (if j<a then rs.getD j z0 else z0)+O (ss.getD j z0)) else (if j<a then rs.getD j z0 else z0)
theorem Abx{rs ss:List Rn}{a b:Nat}(ha:a<=rs.length)(hb:b<=ss.length)(hN:rs.length<=1048576)(hM:ss.length<=1048576)(hr:∀ r∈rs,AN 1048575 r)(hs:∀ r∈ss,AN 1048575 r) :
  W I (.loop NF) (IE rs ss a b (max a b) (Ar (max a b) z0) (max a b:Nat) 0) (.exit 0) (IE rs ss a b (max a b) ((Ao (max a b)).map (GU rs ss a b)) (max a b:Nat) (max a b:Nat)):=by
 have h:=W.up (prog:=I) (c:=NF) (ex := .exit 0) (fin:=IE rs ss a b (max a b) ((Ao (max a b)).map (GU rs ss a b)) (max a b:Nat) (max a b:Nat))
  (fun i=>IE rs ss a b (max a b) (E7 (GU rs ss a b) i (max a b-i)) (max a b:Nat) (i:Nat)) (max a b) (by nofun) ?_ ?_ 0 (Bv _)
 ·simp only[M4,JH] at h;exact h
 ·intro i hi;obtain⟨r,hr'⟩:∃ r,max a b-i=r+1:=⟨max a b-i-1,by omega⟩;have e2:max a b-(i+1)=r:=by omega
  have ei:D R ((i:Int)+1)=((i+1:Nat):Int):=by rw[Bg (by omega) (by omega)];omega
  have hlen:(E7 (GU rs ss a b) i (r+1)).length=max a b:=by rw[Kw];omega
  have hz:=jZ (GU rs ss a b) i r;have hset:=NQ (GU rs ss a b) i r;obtain⟨gr1,gr2⟩:=Be hr i;obtain⟨gs1,gs2⟩:=Be hs i;simp only[hr',e2];generalize E7 (GU rs ss a b) i (r+1)=os at *
  by_cases h1:i<a <;> by_cases h2:i<b
  ·have ho:(os.set i (rs.getD i z0)).getD i z0=rs.getD i z0:=by simp[Z,show i<os.length by omega]
   have k:=Atu rs ss a b (max a b) os (max a b:Nat) (i:Nat) (by simp;omega) (by simp;omega) (by simp;omega) (by omega) (by omega) hlen (by simpa using hlen) (by omega) (by
    simp only[F,ho];exact OF gr1 gs1 (by omega) (by omega))
   refine k.to rfl ?_;simp only[F,ei,ho,Rz];rw[<- hset];simp only[GU,if_pos h1,if_pos h2]
  ·have k:=Atv rs ss a b (max a b) os (max a b:Nat) (i:Nat) (by simp;omega) (by simp;omega) (by simp;omega) (by omega) (by omega) hlen;refine k.to rfl ?_;simp only[F,ei];rw[<- hset];simp only[GU,if_pos h1,if_neg h2]
  ·have k:=Atw rs ss a b (max a b) os (max a b:Nat) (i:Nat) (by simp;omega) (by simp;omega) (by simp;omega) (by omega) hlen (by omega) (by
    simp only[F,hz];exact OF (LJ 0).1 gs1 (by decide) (by omega))
   refine k.to rfl ?_;simp only[F,ei,hz];rw[<- hset];simp only[GU,if_neg h1,if_pos h2]
  ·omega
 ·have k:=Atx rs ss a b (max a b) ((Ao (max a b)).map (GU rs ss a b)) (max a b:Nat) (max a b:Nat) (by simp);simp only[OY,M5];exact k
theorem Aty(rs ss os ts:List Rn)(drs dss:Int)(k M:Nat)(n1:H I 53 [sL pc rs] (A6l R drs))(n2:H I 53 [sL pc ss] (A6l R dss))(n3:0<=(if (D R (dss+1))>(D R (drs+1)) then (D R (dss+1)) else (D R (drs+1)))/\(if (D R (dss+1))>(D R (drs+1)) then (D R (dss+1)) else (D R (drs+1)))<=1048576)(hl4:W I (.loop NF) ((A6o (sL pc rs)::(A6o (sL pc ss)::(Q 3 (A6o (A6l R (D R (drs+1)))::(A6o (A6l R (D R (dss+1)))::(A6q 2 (A (if (D R (dss+1))>(D R (drs+1)) then (D R (dss+1)) else (D R (drs+1)))) (Cp [A6m false,A6n 0 []] (A (if (D R (dss+1))>(D R (drs+1)) then (D R (dss+1)) else (D R (drs+1)))))::(Q 12 (A6o (A6l R (((A (if (D R (dss+1))>(D R (drs+1)) then (D R (dss+1)) else (D R (drs+1)))):Nat):Int))::(A6o (A6l R 0)::(Q 30 []))))))))))) (.exit 0) (IE rs ss (D R (drs+1)) (D R (dss+1)) M os M M))(n5:H I 66 [A6n M (pc os)] (A6p 2 k (pc ts))):H I 149 [sL pc rs,sL pc ss] (A6p 2 k (pc ts)):=X (fn:=Vb) (s:=(Q 4 (A6q 2 k (pc ts)::(Q 47 [])))) (ex := .ret) rfl rfl (L (L (q (W.seq (C CR 400 [.r (A6l R drs),.r (A6l R dss)] [0,1,5,6,7,20,21] (P n1 (P n2 (P n3 a0)))) (W.seq (W.block hl4) (C CR 400 [.r (A6p 2 k (pc ts))] [4] (P n5 a0))))))) (by nofun) rfl
theorem Ki(xs:List Int){j:Nat}(h:l xs xs.length<=j):xs.getD j 0=0:=by
 rcases Ck j xs.length with g | g
 ·exact My xs xs.length j h g
 ·exact Bs g
theorem oW(rs ss:List Rn)(j:Nat):O (GU rs ss (l (M rs) rs.length) (l (M ss) ss.length) j)=(M rs).getD j 0+(M ss).getD j 0:=by
 have h1:=C9 rs j;have h2:=C9 ss j;unfold GU;by_cases g1:j<l (M rs) rs.length <;> by_cases g2:j<l (M ss) ss.length
 ·rw[if_pos g1,if_pos g2,u,h1,h2]
 ·have:=Ki (M ss) (j:=j) (by rw[s];omega);rw[if_pos g1,if_neg g2,h1,this,B2]
 ·have:=Ki (M rs) (j:=j) (by rw[s];omega);rw[if_neg g1,if_pos g2,u,V9,h2,this]
 ·have k1:=Ki (M ss) (j:=j) (by rw[s];omega);have k2:=Ki (M rs) (j:=j) (by rw[s];omega);rw[if_neg g1,if_neg g2,V9,k1,k2];rfl
theorem fB{K:Nat}{rs ss:List Rn}(hr:∀ r∈rs,AN K r)(hs:∀ r∈ss,AN K r)(a b j:Nat):AN (K+1) (GU rs ss a b j):=by
 have h1:=Be hr j;have h2:=Be hs j;unfold GU;split
 ·split
  ·exact B9 (h1.fits.add h2.fits)
  ·exact B9 ((LJ K).fits.add h2.fits)
 ·split
  ·exact h1.mono (by omega)
  ·exact LJ _
theorem oX{K:Nat}{rs ss:List Rn}(hr:∀ r∈rs,AN K r)(hs:∀ r∈ss,AN K r)(hK:K<1048576)(hN:rs.length<=1048576)(hM:ss.length<=1048576) :
  H I 149 [sL pc rs,sL pc ss] (A6p 2 (Dl (M rs) (M ss)).length (pk (Dl (M rs) (M ss)))):=by
 have hr':∀ r∈rs,AN 1048575 r:=fun r h=>(hr r h).mono (by omega);have hs':∀ r∈ss,AN 1048575 r:=fun r h=>(hs r h).mono (by omega);have d1:=GL (fun r h=>(hr r h).mono (by omega)) hN;have d2:=GL (fun r h=>(hs r h).mono (by omega)) hM;have l1:=GG (M rs) rs.length;have l2:=GG (M ss) ss.length;have hl:=Abx l1 l2 hN hM hr' hs';have hg:∀ r∈(Ao (max (l (M rs) rs.length) (l (M ss) ss.length))).map (GU rs ss (l (M rs) rs.length) (l (M ss) ss.length)),AN 1048576 r:=M6 fun i _=>(fB hr hs _ _ i).mono (by omega);have ht:=HI hg (by simp;omega);have e:Y (M ((Ao (max (l (M rs) rs.length) (l (M ss) ss.length))).map (GU rs ss (l (M rs) rs.length) (l (M ss) ss.length))))=Dl (M rs) (M ss):=by
  rw[<- PR];apply Fi;intro j;rw[C',Jc];split
  ·exact oW rs ss j
  ·rename_i h;rw[Ki (M rs) (j:=j) (by rw[s];omega),Ki (M ss) (j:=j) (by rw[s];omega)];rfl
 rw[e] at ht;have e1:D R ((((l (M rs) rs.length:Nat):Int)-1)+1)=((l (M rs) rs.length:Nat):Int):=by rw[Bg (by omega) (by omega)];omega
 have e2:D R ((((l (M ss) ss.length:Nat):Int)-1)+1)=((l (M ss) ss.length:Nat):Int):=by rw[Bg (by omega) (by omega)];omega
 have e3:(if ((l (M ss) ss.length:Nat):Int)>((l (M rs) rs.length:Nat):Int) then ((l (M ss) ss.length:Nat):Int) else ((l (M rs) rs.length:Nat):Int))=((max (l (M rs) rs.length) (l (M ss) ss.length):Nat):Int):=by split <;> omega
 (first|rw[N,B6] at ht|(unfold sL at ht;rw[N,B6] at ht));exact Aty rs ss _ _ _ _ _ (max (l (M rs) rs.length) (l (M ss) ss.length)) d1 d2 (by rw[e1,e2,e3];omega) (by rw[e1,e2,e3,F,NP];exact hl) ht
def BW(fs:List Rn)(r:Rn)(e:Int)(t:Rn)(f:Int):AV := A6r [sL pc fs,A6m r.1,A6n r.2.length (lm r.2),A6l R e,A6m t.1,A6n t.2.length (lm t.2),A6l R f]
def rtB(fs:List Rn)(r:Rn)(e:Int)(t:Rn)(f:Int):Reg := A6s [sL pc fs,A6m r.1,A6n r.2.length (lm r.2),A6l R e,A6m t.1,A6n t.2.length (lm t.2),A6l R f]
theorem Aby(r:Rn)(e z:Int)(c1:B (e>=0)=true)(c2:B (e<=1024)=true)(n1:H I 102 [At r] (A6l R z)):H I 64 [A6 r e] (A6m (B (z<=1024))):=i (fn:=U5) a rfl 400 rfl [.b true,.b true,.r (A6l R z)] (P c1 (P c2 (P n1 a0)))
theorem Abz(r:Rn)(e:Int)(c1:B (e>=0)=true)(c2:B (e<=1024)=false):H I 64 [A6 r e] (A6m false):=i (fn:=U5) a rfl 400 rfl [.b true,.b false] (P c1 (P c2 a0))
theorem Aca(r:Rn)(e:Int)(c1:B (e>=0)=false):H I 64 [A6 r e] (A6m false):=i (fn:=U5) a rfl 400 rfl [.b false,.b false] (P c1 (P FA a0))
theorem oY(rs:List Rn)(b:Bool)(c1:(b)=false)(n1:H I 147 [A6n 1 [sL pc rs]] (A6m b)):H I 148 [sL pc rs] (A6t [sL pc rs,A6l R 0]):=i (fn:=Va) a rfl 400 rfl [.r (A6m b),.b false] (P n1 (P c1 a0))
theorem oZ(rs ss:List Rn)(b:Bool)(c1:(b)=true)(n1:H I 147 [A6n 2 [sL pc rs,sL pc ss]] (A6m b)):H I 100 [sL pc rs,sL pc ss] (A6t [A6n 0 [],A6l R 2]):=i (fn:=R9) a rfl 400 rfl [.r (A6m b),.b true] (P n1 (P c1 a0))
theorem pC(rs ss us:List Rn)(b:Bool)(e:Int)(c1:(b)=false)(n1:H I 147 [A6n 2 [sL pc rs,sL pc ss]] (A6m b))(n2:H I 149 [sL pc rs,sL pc ss] (A6p 2 us.length (pc us)))(n3:H I 148 [sL pc us] (A6t [sL pc us,A6l R e])):H I 100 [sL pc rs,sL pc ss] (A6t [sL pc us,A6l R e]):=i (fn:=R9) a rfl 400 rfl [.r (A6m b),.b false,.r (A6p 2 us.length (pc us)),.r (A6t [sL pc us,A6l R e])] (P n1 (P c1 (P n2 (P n3 a0))))
theorem sQ(rs us:List Rn)(e:Int)(n1:H I 100 [sL pc rs,A6n 0 []] (A6t [sL pc us,A6l R e])):H I 52 [sL pc rs] (A6m (e==0)):=i (fn:=aL) a rfl 400 rfl [.r (A6t [sL pc us,A6l R e])] (P n1 a0)
theorem Acb(fs:List Rn)(r t:Rn)(e f:Int)(d:Int)(b:Bool)(c1:(b)=true)(c2:B (d<1)=true)(n1:H I 52 [sL pc fs] (A6m b))(n2:H I 53 [sL pc fs] (A6l R d)):H I 18 [BW fs r e t f] (A6m false):=i (fn:=NA) a rfl 400 rfl [.r (A6m b),.b false,.r (A6l R d),.b true,.b true,.b true] (P n1 (P (H4 c1) (P n2 (P c2 (P HY (P HY a0))))))
theorem Acd(fs:List Rn)(r t:Rn)(e f:Int)(ts:List Rn)(d c s:Int)(b v1 v2:Bool)(c1:(b)=true)(c2:B (d<1)=false)(c3:(v1)=true)(c4:(v2)=true)(c5:(c==0)=true)(n1:H I 52 [sL pc fs] (A6m b))(n2:H I 53 [sL pc fs] (A6l R d))(n3:H I 64 [A6 r e] (A6m v1))(n4:H I 64 [A6 t f] (A6m v2))(n5:H I 55 [A6 r e,A6 t f] (A6l R c))(n6:H I 66 [sL pc fs] (A6p 2 ts.length (pc ts)))(n7:H I 65 [sL pc ts,A6 r e] (A6l R s)):H I 18 [BW fs r e t f] (A6m (s==0)):=i (fn:=NA) a rfl 400 rfl [.r (A6m b),.b false,.r (A6l R d),.b false,.r (A6m v1),.b false,.r (A6m v2),.b false,.r (A6l R c),.b true,.r (A6p 2 ts.length (pc ts)),.r (A6l R s)] (P n1 (P (H4 c1) (P n2 (P c2 (P n3 (P (H4 c3) (P n4 (P (H4 c4) (P n5 (P c5 (P n6 (P n7 a0))))))))))))
theorem Ace(fs:List Rn)(r t:Rn)(e f:Int)(d c:Int)(b v1 v2:Bool)(c1:(b)=true)(c2:B (d<1)=false)(c3:(v1)=true)(c4:(v2)=true)(c5:(c==0)=false)(c6:(c==1)=true)(n1:H I 52 [sL pc fs] (A6m b))(n2:H I 53 [sL pc fs] (A6l R d))(n3:H I 64 [A6 r e] (A6m v1))(n4:H I 64 [A6 t f] (A6m v2))(n5:H I 55 [A6 r e,A6 t f] (A6l R c)):H I 18 [BW fs r e t f] (A6m false):=i (fn:=NA) a rfl 400 rfl [.r (A6m b),.b false,.r (A6l R d),.b false,.r (A6m v1),.b false,.r (A6m v2),.b false,.r (A6l R c),.b false,.b true] (P n1 (P (H4 c1) (P n2 (P c2 (P n3 (P (H4 c3) (P n4 (P (H4 c4) (P n5 (P c5 (P c6 a0)))))))))))
theorem Acf(fs:List Rn)(r t:Rn)(e f:Int)(ls:List (List Rn))(d c x y:Int)(b v1 v2:Bool)(c1:(b)=true)(c2:B (d<1)=false)(c3:(v1)=true)(c4:(v2)=true)(c5:(c==0)=false)(c6:(c==1)=false)(n1:H I 52 [sL pc fs] (A6m b))(n2:H I 53 [sL pc fs] (A6l R d))(n3:H I 64 [A6 r e] (A6m v1))(n4:H I 64 [A6 t f] (A6m v2))(n5:H I 55 [A6 r e,A6 t f] (A6l R c))(n6:H I 67 [sL pc fs] (A6p 1 ls.length (pp ls)))(n7:H I 68 [sL pp ls,A6 r e] (A6l R x))(n8:H I 68 [sL pp ls,A6 t f] (A6l R y)):H I 18 [BW fs r e t f] (A6m ((D R (x-y))==1)):=i (fn:=NA) a rfl 400 rfl [.r (A6m b),.b false,.r (A6l R d),.b false,.r (A6m v1),.b false,.r (A6m v2),.b false,.r (A6l R c),.b false,.b false,.r (A6p 1 ls.length (pp ls)),.r (A6l R x),.r (A6l R y)] (P n1 (P (H4 c1) (P n2 (P c2 (P n3 (P (H4 c3) (P n4 (P (H4 c4) (P n5 (P c5 (P c6 (P n6 (P n7 (P n8 a0))))))))))))))
theorem Acg(fs:List Rn)(r t:Rn)(e f:Int)(d:Int)(b v1 v2:Bool)(c1:(b)=true)(c2:B (d<1)=false)(c3:(v1)=true)(c4:(v2)=false)(n1:H I 52 [sL pc fs] (A6m b))(n2:H I 53 [sL pc fs] (A6l R d))(n3:H I 64 [A6 r e] (A6m v1))(n4:H I 64 [A6 t f] (A6m v2)):H I 18 [BW fs r e t f] (A6m false):=i (fn:=NA) a rfl 400 rfl [.r (A6m b),.b false,.r (A6l R d),.b false,.r (A6m v1),.b false,.r (A6m v2),.b true] (P n1 (P (H4 c1) (P n2 (P c2 (P n3 (P (H4 c3) (P n4 (P (jN c4) a0))))))))
theorem Ach(fs:List Rn)(r t:Rn)(e f:Int)(d:Int)(b v1:Bool)(c1:(b)=true)(c2:B (d<1)=false)(c3:(v1)=false)(n1:H I 52 [sL pc fs] (A6m b))(n2:H I 53 [sL pc fs] (A6l R d))(n3:H I 64 [A6 r e] (A6m v1)):H I 18 [BW fs r e t f] (A6m false):=i (fn:=NA) a rfl 400 rfl [.r (A6m b),.b false,.r (A6l R d),.b false,.r (A6m v1),.b true,.b true] (P n1 (P (H4 c1) (P n2 (P c2 (P n3 (P (jN c3) (P HY a0)))))))
theorem Aci(fs:List Rn)(r t:Rn)(e f:Int)(b:Bool)(c1:(b)=false)(n1:H I 52 [sL pc fs] (A6m b)):H I 18 [BW fs r e t f] (A6m false):=i (fn:=NA) a rfl 400 rfl [.r (A6m b),.b true,.b true,.b true,.b true] (P n1 (P (jN c1) (P HY (P HY (P HY a0)))))
theorem Atz(fs:List Rn)(r t:Rn)(e f:Int)(c:Int)(n1:H I 55 [A6 r e,A6 t f] (A6l R c)):H I 125 [BW fs r e t f] (A6m (c==0)):=i (fn:=UR) a rfl 400 rfl [.r (A6l R c)] (P n1 a0)
theorem Acj(fs:List Rn)(r t:Rn)(e f:Int)(q:Rn)(g c_qr:Int)(b:Bool)(c1:(b)=false)(c2:B (c_qr<=0)=true)(n1:H I 125 [BW fs r e t f] (A6m b))(n2:H I 55 [A6 q g,A6 r e] (A6l R c_qr)):H I 76 [BW fs r e t f,A6 q g] (A6l R 1):=i (fn:=NB) a rfl 400 rfl [.r (A6m b),.b false,.r (A6l R c_qr),.b true] (P n1 (P c1 (P n2 (P c2 a0))))
theorem Ack(fs:List Rn)(r t:Rn)(e f:Int)(q:Rn)(g c_qr c_qt:Int)(b:Bool)(c1:(b)=false)(c2:B (c_qr<=0)=false)(c3:B (c_qt>0)=true)(n1:H I 125 [BW fs r e t f] (A6m b))(n2:H I 55 [A6 q g,A6 r e] (A6l R c_qr))(n3:H I 55 [A6 q g,A6 t f] (A6l R c_qt)):H I 76 [BW fs r e t f,A6 q g] (A6l R (-1)):=i (fn:=NB) a rfl 400 rfl [.r (A6m b),.b false,.r (A6l R c_qr),.b false,.r (A6l R c_qt),.b true] (P n1 (P c1 (P n2 (P c2 (P n3 (P c3 a0))))))
theorem Acl(fs:List Rn)(r t:Rn)(e f:Int)(q:Rn)(g c_qr c_qt s_t:Int)(b:Bool)(c1:(b)=false)(c2:B (c_qr<=0)=false)(c3:B (c_qt>0)=false)(c4:(c_qt==0)=true)(c5:(s_t==0)=true)(n1:H I 125 [BW fs r e t f] (A6m b))(n2:H I 55 [A6 q g,A6 r e] (A6l R c_qr))(n3:H I 55 [A6 q g,A6 t f] (A6l R c_qt))(n4:H I 65 [sL pc fs,A6 t f] (A6l R s_t)):H I 76 [BW fs r e t f,A6 q g] (A6l R 0):=i (fn:=NB) a rfl 400 rfl [.r (A6m b),.b false,.r (A6l R c_qr),.b false,.r (A6l R c_qt),.b false,.r (A6l R s_t),.b true,.b true] (P n1 (P c1 (P n2 (P c2 (P n3 (P c3 (P n4 (P c4 (P c5 a0)))))))))
theorem Acm(fs:List Rn)(r t:Rn)(e f:Int)(q:Rn)(g c_qr c_qt s_t:Int)(b:Bool)(c1:(b)=false)(c2:B (c_qr<=0)=false)(c3:B (c_qt>0)=false)(c4:(c_qt==0)=true)(c5:(s_t==0)=false)(n1:H I 125 [BW fs r e t f] (A6m b))(n2:H I 55 [A6 q g,A6 r e] (A6l R c_qr))(n3:H I 55 [A6 q g,A6 t f] (A6l R c_qt))(n4:H I 65 [sL pc fs,A6 t f] (A6l R s_t)):H I 76 [BW fs r e t f,A6 q g] (A6l R (-1)):=i (fn:=NB) a rfl 400 rfl [.r (A6m b),.b false,.r (A6l R c_qr),.b false,.r (A6l R c_qt),.b false,.r (A6l R s_t),.b true,.b false] (P n1 (P c1 (P n2 (P c2 (P n3 (P c3 (P n4 (P c4 (P c5 a0)))))))))
theorem Acn(fs:List Rn)(r t:Rn)(e f:Int)(q:Rn)(g c_qr c_qt s_t s_q:Int)(b:Bool)(c1:(b)=false)(c2:B (c_qr<=0)=false)(c3:B (c_qt>0)=false)(c4:(c_qt==0)=false)(c5:(s_q==0)=true)(n1:H I 125 [BW fs r e t f] (A6m b))(n2:H I 55 [A6 q g,A6 r e] (A6l R c_qr))(n3:H I 55 [A6 q g,A6 t f] (A6l R c_qt))(n4:H I 65 [sL pc fs,A6 t f] (A6l R s_t))(n5:H I 65 [sL pc fs,A6 q g] (A6l R s_q)):H I 76 [BW fs r e t f,A6 q g] (A6l R 0):=i (fn:=NB) a rfl 400 rfl [.r (A6m b),.b false,.r (A6l R c_qr),.b false,.r (A6l R c_qt),.b false,.r (A6l R s_t),.b false,.r (A6l R s_q),.b true] (P n1 (P c1 (P n2 (P c2 (P n3 (P c3 (P n4 (P c4 (P n5 (P c5 a0))))))))))
theorem Aco(fs:List Rn)(r t:Rn)(e f:Int)(q:Rn)(g c_qr c_qt s_t s_q:Int)(b:Bool)(c1:(b)=false)(c2:B (c_qr<=0)=false)(c3:B (c_qt>0)=false)(c4:(c_qt==0)=false)(c5:(s_q==0)=false)(c6:(s_q==s_t)=true)(n1:H I 125 [BW fs r e t f] (A6m b))(n2:H I 55 [A6 q g,A6 r e] (A6l R c_qr))(n3:H I 55 [A6 q g,A6 t f] (A6l R c_qt))(n4:H I 65 [sL pc fs,A6 t f] (A6l R s_t))(n5:H I 65 [sL pc fs,A6 q g] (A6l R s_q)):H I 76 [BW fs r e t f,A6 q g] (A6l R (-1)):=i (fn:=NB) a rfl 400 rfl [.r (A6m b),.b false,.r (A6l R c_qr),.b false,.r (A6l R c_qt),.b false,.r (A6l R s_t),.b false,.r (A6l R s_q),.b false,.b true] (P n1 (P c1 (P n2 (P c2 (P n3 (P c3 (P n4 (P c4 (P n5 (P c5 (P c6 a0)))))))))))
theorem Acp(fs:List Rn)(r t:Rn)(e f:Int)(q:Rn)(g c_qr c_qt s_t s_q:Int)(b:Bool)(c1:(b)=false)(c2:B (c_qr<=0)=false)(c3:B (c_qt>0)=false)(c4:(c_qt==0)=false)(c5:(s_q==0)=false)(c6:(s_q==s_t)=false)(n1:H I 125 [BW fs r e t f] (A6m b))(n2:H I 55 [A6 q g,A6 r e] (A6l R c_qr))(n3:H I 55 [A6 q g,A6 t f] (A6l R c_qt))(n4:H I 65 [sL pc fs,A6 t f] (A6l R s_t))(n5:H I 65 [sL pc fs,A6 q g] (A6l R s_q)):H I 76 [BW fs r e t f,A6 q g] (A6l R 1):=i (fn:=NB) a rfl 400 rfl [.r (A6m b),.b false,.r (A6l R c_qr),.b false,.r (A6l R c_qt),.b false,.r (A6l R s_t),.b false,.r (A6l R s_q),.b false,.b false] (P n1 (P c1 (P n2 (P c2 (P n3 (P c3 (P n4 (P c4 (P n5 (P c5 (P c6 a0)))))))))))
theorem Acq(fs:List Rn)(r t:Rn)(e f:Int)(b:Bool)(c1:(b)=true)(n1:H I 125 [BW fs r e t f] (A6m b)):H I 82 [BW fs r e t f] (BW fs r e t f):=i (fn:=U8) a rfl 400 rfl [.r (A6m b),.b true] (P n1 (P c1 a0))
theorem Acr(fs:List Rn)(r t:Rn)(e f:Int)(n m s:Int)(b:Bool)(c1:(b)=false)(c2:B (s<=0)=true)(n1:H I 125 [BW fs r e t f] (A6m b))(n2:H I 133 [A6 r e,A6 t f] (A6 (cn n) m))(n3:H I 76 [BW fs r e t f,A6 (cn n) m] (A6l R s)):H I 82 [BW fs r e t f] (BW fs r e (cn n) m):=i (fn:=U8) a rfl 400 rfl [.r (A6m b),.b false,.r (A6 (cn n) m),.r (A6l R s),.b true] (P n1 (P c1 (P n2 (P n3 (P c2 a0)))))
theorem Acs(fs:List Rn)(r t:Rn)(e f:Int)(n m s:Int)(b:Bool)(c1:(b)=false)(c2:B (s<=0)=false)(n1:H I 125 [BW fs r e t f] (A6m b))(n2:H I 133 [A6 r e,A6 t f] (A6 (cn n) m))(n3:H I 76 [BW fs r e t f,A6 (cn n) m] (A6l R s)):H I 82 [BW fs r e t f] (BW fs (cn n) m t f):=i (fn:=U8) a rfl 400 rfl [.r (A6m b),.b false,.r (A6 (cn n) m),.r (A6l R s),.b false] (P n1 (P c1 (P n2 (P n3 (P c2 a0)))))
theorem fD(r:Rn)(e n:Int)(n1:H I 113 [At r] (o n)):H I 106 [A6 r e] (A6 (cn n) e):=i (fn:=UB) a rfl 400 rfl [.r (o n)] (P n1 a0)
theorem A0v(fs:List Rn)(r t:Rn)(e f:Int)(ts:List Rn)(n m u v:Int)(n1:H I 66 [sL pc fs] (A6p 2 ts.length (pc ts)))(n2:H I 106 [A6 r e] (A6 (cn n) m))(n3:H I 106 [A6 t f] (A6 (cn u) v)):H I 57 [BW fs r e t f] (BW ts (cn n) m (cn u) v):=i (fn:=aO) a rfl 400 rfl [.r (A6p 2 ts.length (pc ts)),.r (A6 (cn n) m),.r (A6 (cn u) v)] (P n1 (P n2 (P n3 a0)))
theorem Acu(fs:List Rn)(r t:Rn)(e f:Int)(gs:List Rn)(n1:H I 114 [sL pc fs] (sL pc gs)):H I 75 [BW fs r e t f] (BW gs r e t f):=i (fn:=X7) a rfl 400 rfl [.r (sL pc gs)] (P n1 a0)
theorem Acv(fs:List Rn)(r t:Rn)(e f:Int)(gs:List Rn)(n1:H I 114 [sL pc fs] (A6p 2 gs.length (pc gs))):H I 75 [BW fs r e t f] (BW gs r e t f):=i (fn:=X7) a rfl 400 rfl [.r (A6p 2 gs.length (pc gs))] (P n1 a0)
theorem A0w(rs:List Rn)(ls:List (List Rn))(r t:Rn)(e f x y:Int)(n1:H I 108 [sL pc rs] (A6p 1 ls.length (pp ls)))(n2:H I 110 [sL pp ls,A6 r e] (A6l R x))(n3:H I 110 [sL pp ls,A6 t f] (A6l R y)):H I 63 [sL pc rs,A6 r e,A6 t f] (A6l R (D R (x-y))):=i (fn:=aP) a rfl 400 rfl [.r (A6p 1 ls.length (pp ls)),.r (A6l R x),.r (A6l R y)] (P n1 (P n2 (P n3 a0)))
theorem A0x(fs:List Rn)(r t:Rn)(e f:Int)(gs:List Rn)(n1:H I 73 [sL pc fs] (sL pc gs)):H I 20 [BW fs r e t f] (BW gs r e t f):=i (fn:=aD) a rfl 400 rfl [.r (sL pc gs)] (P n1 a0)
theorem Acw(fs:List Rn)(r t:Rn)(e f:Int)(q:Rn)(g c_qr c_qt c_rt:Int)(c1:(c_rt==0)=false)(c2:B (c_qr<=0)=true)(n1:H I 33 [A6 q g,A6 r e] (A6l R c_qr))(n2:H I 33 [A6 q g,A6 t f] (A6l R c_qt))(n3:H I 33 [A6 r e,A6 t f] (A6l R c_rt)):H I 27 [BW fs r e t f,A6 q g] (A6l R 1):=i (fn:=Pi) a rfl 400 rfl [.r (A6l R c_qr),.r (A6l R c_qt),.r (A6l R c_rt),.b false,.b true] (P n1 (P n2 (P n3 (P c1 (P c2 a0)))))
theorem Acx(fs:List Rn)(r t:Rn)(e f:Int)(q:Rn)(g c_qr c_qt c_rt:Int)(c1:(c_rt==0)=false)(c2:B (c_qr<=0)=false)(c3:B (c_qt>0)=true)(n1:H I 33 [A6 q g,A6 r e] (A6l R c_qr))(n2:H I 33 [A6 q g,A6 t f] (A6l R c_qt))(n3:H I 33 [A6 r e,A6 t f] (A6l R c_rt)):H I 27 [BW fs r e t f,A6 q g] (A6l R (-1)):=i (fn:=Pi) a rfl 400 rfl [.r (A6l R c_qr),.r (A6l R c_qt),.r (A6l R c_rt),.b false,.b false,.b true] (P n1 (P n2 (P n3 (P c1 (P c2 (P c3 a0))))))
theorem Acy(fs:List Rn)(r t:Rn)(e f:Int)(q:Rn)(g c_qr c_qt c_rt v w s_t s_q:Int)(c1:(c_rt==0)=false)(c2:B (c_qr<=0)=false)(c3:B (c_qt>0)=false)(c4:(s_q==0)=true)(n1:H I 33 [A6 q g,A6 r e] (A6l R c_qr))(n2:H I 33 [A6 q g,A6 t f] (A6l R c_qt))(n3:H I 33 [A6 r e,A6 t f] (A6l R c_rt))(n4:H I 80 [sL pc fs,At q,A6l R g] (o v))(n5:H I 79 [o v] (A6l R s_q))(n6:H I 80 [sL pc fs,At t,A6l R f] (o w))(n7:H I 79 [o w] (A6l R s_t)):H I 27 [BW fs r e t f,A6 q g] (A6l R 0):=i (fn:=Pi) a rfl 400 rfl [.r (A6l R c_qr),.r (A6l R c_qt),.r (A6l R c_rt),.b false,.b false,.b false,.r (o v),.r (A6l R s_q),.r (o w),.r (A6l R s_t),.b true] (P n1 (P n2 (P n3 (P c1 (P c2 (P c3 (P n4 (P n5 (P n6 (P n7 (P c4 a0)))))))))))
theorem Acz(fs:List Rn)(r t:Rn)(e f:Int)(q:Rn)(g c_qr c_qt c_rt v w s_t s_q:Int)(c1:(c_rt==0)=false)(c2:B (c_qr<=0)=false)(c3:B (c_qt>0)=false)(c4:(s_q==0)=false)(c5:(s_t==0)=true)(n1:H I 33 [A6 q g,A6 r e] (A6l R c_qr))(n2:H I 33 [A6 q g,A6 t f] (A6l R c_qt))(n3:H I 33 [A6 r e,A6 t f] (A6l R c_rt))(n4:H I 80 [sL pc fs,At q,A6l R g] (o v))(n5:H I 79 [o v] (A6l R s_q))(n6:H I 80 [sL pc fs,At t,A6l R f] (o w))(n7:H I 79 [o w] (A6l R s_t)):H I 27 [BW fs r e t f,A6 q g] (A6l R 1):=i (fn:=Pi) a rfl 400 rfl [.r (A6l R c_qr),.r (A6l R c_qt),.r (A6l R c_rt),.b false,.b false,.b false,.r (o v),.r (A6l R s_q),.r (o w),.r (A6l R s_t),.b false,.b true] (P n1 (P n2 (P n3 (P c1 (P c2 (P c3 (P n4 (P n5 (P n6 (P n7 (P c4 (P c5 a0))))))))))))
theorem Ada(fs:List Rn)(r t:Rn)(e f:Int)(q:Rn)(g c_qr c_qt c_rt v w s_t s_q:Int)(c1:(c_rt==0)=false)(c2:B (c_qr<=0)=false)(c3:B (c_qt>0)=false)(c4:(s_q==0)=false)(c5:(s_t==0)=false)(c6:(s_q==s_t)=true)(n1:H I 33 [A6 q g,A6 r e] (A6l R c_qr))(n2:H I 33 [A6 q g,A6 t f] (A6l R c_qt))(n3:H I 33 [A6 r e,A6 t f] (A6l R c_rt))(n4:H I 80 [sL pc fs,At q,A6l R g] (o v))(n5:H I 79 [o v] (A6l R s_q))(n6:H I 80 [sL pc fs,At t,A6l R f] (o w))(n7:H I 79 [o w] (A6l R s_t)):H I 27 [BW fs r e t f,A6 q g] (A6l R (-1)):=i (fn:=Pi) a rfl 400 rfl [.r (A6l R c_qr),.r (A6l R c_qt),.r (A6l R c_rt),.b false,.b false,.b false,.r (o v),.r (A6l R s_q),.r (o w),.r (A6l R s_t),.b false,.b false,.b true] (P n1 (P n2 (P n3 (P c1 (P c2 (P c3 (P n4 (P n5 (P n6 (P n7 (P c4 (P c5 (P c6 a0)))))))))))))
theorem Adb(fs:List Rn)(r t:Rn)(e f:Int)(q:Rn)(g c_qr c_qt c_rt v w s_t s_q:Int)(c1:(c_rt==0)=false)(c2:B (c_qr<=0)=false)(c3:B (c_qt>0)=false)(c4:(s_q==0)=false)(c5:(s_t==0)=false)(c6:(s_q==s_t)=false)(n1:H I 33 [A6 q g,A6 r e] (A6l R c_qr))(n2:H I 33 [A6 q g,A6 t f] (A6l R c_qt))(n3:H I 33 [A6 r e,A6 t f] (A6l R c_rt))(n4:H I 80 [sL pc fs,At q,A6l R g] (o v))(n5:H I 79 [o v] (A6l R s_q))(n6:H I 80 [sL pc fs,At t,A6l R f] (o w))(n7:H I 79 [o w] (A6l R s_t)):H I 27 [BW fs r e t f,A6 q g] (A6l R 1):=i (fn:=Pi) a rfl 400 rfl [.r (A6l R c_qr),.r (A6l R c_qt),.r (A6l R c_rt),.b false,.b false,.b false,.r (o v),.r (A6l R s_q),.r (o w),.r (A6l R s_t),.b false,.b false,.b false] (P n1 (P n2 (P n3 (P c1 (P c2 (P c3 (P n4 (P n5 (P n6 (P n7 (P c4 (P c5 (P c6 a0)))))))))))))
theorem Adc(fs:List Rn)(r t:Rn)(e f:Int)(c:Int)(c1:(c==0)=true)(n1:H I 33 [A6 r e,A6 t f] (A6l R c)):H I 72 [BW fs r e t f] (BW fs r e t f):=i (fn:=U6) a rfl 400 rfl [.r (A6l R c),.b true] (P n1 (P c1 a0))
theorem Ade(fs:List Rn)(r t:Rn)(e f:Int)(n m s c:Int)(c1:(c==0)=false)(c2:B (s<=0)=true)(n1:H I 33 [A6 r e,A6 t f] (A6l R c))(n2:H I 121 [A6 r e,A6 t f] (A6 (cn n) m))(n3:H I 27 [BW fs r e t f,A6 (cn n) m] (A6l R s)):H I 72 [BW fs r e t f] (BW fs r e (cn n) m):=i (fn:=U6) a rfl 400 rfl [.r (A6l R c),.b false,.r (A6 (cn n) m),.r (A6l R s),.b true] (P n1 (P c1 (P n2 (P n3 (P c2 a0)))))
theorem Adf(fs:List Rn)(r t:Rn)(e f:Int)(n m s c:Int)(c1:(c==0)=false)(c2:B (s<=0)=false)(n1:H I 33 [A6 r e,A6 t f] (A6l R c))(n2:H I 121 [A6 r e,A6 t f] (A6 (cn n) m))(n3:H I 27 [BW fs r e t f,A6 (cn n) m] (A6l R s)):H I 72 [BW fs r e t f] (BW fs (cn n) m t f):=i (fn:=U6) a rfl 400 rfl [.r (A6l R c),.b false,.r (A6 (cn n) m),.r (A6l R s),.b false] (P n1 (P c1 (P n2 (P n3 (P c2 a0)))))
def Iy(o:Bool)(rs:List Rn)(i:Int):Ak:=(A6o (sL pc rs)::(Q 1 (A6o (A6m o)::(A6o (A6l R i)::(Q 24 [])))))
theorem A0y(o:Bool)(rs:List Rn)(i:Int)(z:Int)(c1:B (i<(rs.length:Int))=true)(c2:B (z>100)=true)(n1:0<=i/\i<(rs.length:Int))(n2:H I 51 [At (rs.getD (A i) z0)] (A6l R z)):W I N9 (Iy o rs i) .ret (Iy false rs i):=(C a 400 [.b true,.v (At (rs.getD (A i) z0)),.r (A6l R z),.b true,.b true] [0,2,3] (P c1 (P n1 (P (x n1) (P n2 (P c2 (P HY a0)))))))
theorem A0z(o:Bool)(rs:List Rn)(i:Int)(z:Int)(c1:B (i<(rs.length:Int))=true)(c2:B (z>100)=false)(c3:(B ((((rs.getD (A i) z0).2.length:Nat):Int)>5))=true)(n1:0<=i/\i<(rs.length:Int))(n2:H I 51 [At (rs.getD (A i) z0)] (A6l R z)):W I N9 (Iy o rs i) .ret (Iy false rs i):=(C a 400 [.b true,.v (At (rs.getD (A i) z0)),.r (A6l R z),.b false,.v (A6n ((rs.getD (A i) z0).2.length) (lm (rs.getD (A i) z0).2)),.b true] [0,2,3] (P c1 (P n1 (P (x n1) (P n2 (P c2 (P n1 (P (XN n1) (P c3 a0)))))))))
theorem A1a(o:Bool)(rs:List Rn)(i:Int)(z:Int)(c1:B (i<(rs.length:Int))=true)(c2:B (z>100)=false)(c3:(B ((((rs.getD (A i) z0).2.length:Nat):Int)>5))=false)(n1:0<=i/\i<(rs.length:Int))(n2:H I 51 [At (rs.getD (A i) z0)] (A6l R z)):W I N9 (Iy o rs i) .norm (Iy o rs (D R (i+1))):=(C a 400 [.b true,.v (At (rs.getD (A i) z0)),.r (A6l R z),.b false,.v (A6n ((rs.getD (A i) z0).2.length) (lm (rs.getD (A i) z0).2)),.b false] [0,2,3] (P c1 (P n1 (P (x n1) (P n2 (P c2 (P n1 (P (XN n1) (P c3 a0)))))))))
theorem A1b(o:Bool)(rs:List Rn)(i:Int)(c1:B (i<(rs.length:Int))=false):W I N9 (Iy o rs i) (.exit 0) (Iy o rs i):=(C a 400 [.b false] [0,2,3] (P c1 a0))
theorem fE(rs:List Rn)(c1:B ((rs.length:Int)>9)=true):H I 13 [sL pc rs] (A6m false):=X (fn:=U1) (s:=(Q 2 (A6o (A6m false)::(Q 25 [])))) (ex := .ret) rfl rfl (L (q (p (C a 400 [.b true] [2] (P c1 a0)) (by nofun)))) (by nofun) rfl
theorem fG(rs:List Rn)(i:Int)(c1:B ((rs.length:Int)>9)=false)(hl1:W I (.loop N9) (Iy false rs 0) .ret (Iy false rs i)):H I 13 [sL pc rs] (A6m false):=X (fn:=U1) (s:=(A6o (sL pc rs)::(Q 1 (A6o (A6m false)::(A6o (A6l R i)::(Q 24 [])))))) (ex := .ret) rfl rfl (L (q (W.seq (C a 400 [.b false] [0,2,3] (P c1 a0)) (p (DU hl1) (by nofun))))) (by nofun) rfl
theorem fH(rs:List Rn)(i:Int)(c1:B ((rs.length:Int)>9)=false)(hl1:W I (.loop N9) (Iy false rs 0) (.exit 0) (Iy false rs i)):H I 13 [sL pc rs] (A6m true):=X (fn:=U1) (s:=(Q 2 (A6o (A6m true)::(Q 25 [])))) (ex := .ret) rfl rfl (L (q (W.seq (C a 400 [.b false] [0,2,3] (P c1 a0)) (W.seq (W.block hl1) (C a 400 [] [2] a0))))) (by nofun) rfl
def TXA:Cm:=TZB
theorem pD:BY I TXA:=nU
def Pz(r:Rn)(e:Int):Bool:=decide (e>=0)&&decide (e<=1024)&&decide (D4 (O r).natAbs<=1024)
theorem fI{r:Rn}{e:Int}(h:Pz r e=true):∃ a:Nat,e=(a:Nat)/\a<=1024/\D4 (O r).natAbs<=1024:=by
 unfold Pz at h;simp only[Ad,decide_eq_true_eq] at h;exact⟨e.toNat,by omega,by omega,h.2⟩
theorem Rk{r:Rn}{e:Int}(hr:AN 100 r):H I 64 [A6 r e] (A6m (Pz r e)):=by
 have hb:=MB (neg:=r.1) hr.1 (by have:=hr.2;omega);unfold Pz;by_cases c1:e>=0
 ·by_cases c2:e<=1024
  ·have k:=Aby r e _ (decide_eq_true c1) (decide_eq_true c2) hb;have ez:decide (((D4 (O r).natAbs:Nat):Int)<=1024)=decide (D4 (O r).natAbs<=1024):=decide_eq_decide.2 (by omega);rw[decide_eq_true c1,decide_eq_true c2];show H _ _ _ (A6m (B (D4 (O r).natAbs<=1024)));rw[<- ez];exact k
  ·rw[decide_eq_true c1,decide_eq_false c2];exact Abz r e (decide_eq_true c1) (decide_eq_false c2)
 ·rw[decide_eq_false c1];exact Aca r e (decide_eq_false c1)
theorem Z3(p:List Int):DP (Y p)=DP p:=by
 unfold DP;rw[HH]
theorem pF:DP []=false:=by decide
theorem Li{rs:List Rn}{K:Nat}(hg:∀ r∈rs,AN K r)(hK:K<=1000)(hN:rs.length<=1000):H I 52 [sL pc rs] (A6m (!DP (M rs))):=by
 have h1:=Tt (ps:=[rs,[]]) (fun p hp=>by
  rcases CS.1 hp with rfl | hp
  ·exact⟨fun r h=>(hg r h).mono (by omega),by omega⟩
  ·rcases CS.1 hp with rfl | hp
   ·exact⟨fun r h=>(by cases h),by decide⟩
   ·cases hp) (by simp)
 have e1:([rs,[]].any fun p=>DP (M p))=DP (M rs):=by
  have:M ([]:List Rn)=[]:=rfl;simp[this,pF]
 rw[e1] at h1;cases c:DP (M rs) with
 | true =>
  rw[c] at h1;exact sQ rs [] 2 (oZ rs [] true rfl h1)
 | false =>
  rw[c] at h1;have h2:=oX (rs:=rs) (ss:=[]) hg (fun r h=>by cases h) (by omega) (by omega) (by decide);have ep:Dl (M rs) (M ([]:List Rn))=Y (M rs):=by
   rw[<- PR];apply Fi;intro i;rw[C'];have:(M ([]:List Rn)).getD i 0=0:=by simp[M]
   omega
  rw[ep] at h2;have hl:=Bf (M rs);rw[s] at hl;have hgt:∀ r∈(Y (M rs)).map cn,AN K r:=LL (GJ (Cs hg));have h3:=Tt (ps:=[(Y (M rs)).map cn]) (fun p hp=>by
   rcases CS.1 hp with rfl | hp
   ·exact⟨fun r h=>(hgt r h).mono (by omega),by rw[N];omega⟩
   ·cases hp) (by simp)
  have e3:([(Y (M rs)).map cn].any fun p=>DP (M p))=false:=by
   rw[List.any_cons,List.any_nil,Bool.or_false,v,Z3];exact c
  rw[e3] at h3;have h4:=oY _ false rfl h3;exact sQ rs _ _ (pC rs [] _ false 0 rfl h1 (Ec h2) h4)
theorem Ol{l:List (List Int)}(hl:l.length<=100)(x:Int)(e:Nat)(y:Int)(f:Nat):D R ((BU l x e l.length).1-(BU l y f l.length).1)=(BU l x e l.length).1-(BU l y f l.length).1:=by
 have b1:=Kf l x e l.length;have b2:=Kf l y f l.length;exact Bg (by omega) (by omega)
def Rl(p:List Int)(x:Int)(a:Nat)(y:Int)(b:Nat):Int:=(BU (BD p) x a (BD p).length).1-(BU (BD p) y b (BD p).length).1
def T_(rs:List Rn)(r:Rn)(e:Int)(t:Rn)(f:Int):Bool :=
 !DP (M rs)&&decide (2<=(Y (M rs)).length)&&Pz r e&&Pz t f &&
  (if Dd (O r) e.toNat (O t) f.toNat=0 then decide (BL (hv (Y (M rs)) (O r) (2^e.toNat))=0)
  else decide (Dd (O r) e.toNat (O t) f.toNat = -1/\Rl (M rs) (O r) e.toNat (O t) f.toNat=1))
section
variable {rs:List Rn} {r t:Rn} (hg:∀ r∈rs,AN 5 r) (hn:rs.length<=9) (hr:AN 100 r) (ht:AN 100 t) (e f:Int)
include hg hn hr ht
theorem pG:H I 18 [A6r [sL pc rs,A6m r.1,A6n r.2.length (lm r.2),A6l R e,A6m t.1,A6n t.2.length (lm t.2),A6l R f]] (A6m (T_ rs r e t f)):=by
 have h1:=Li hg (by omega) (by omega);have h2:=GL (fun r h=>(hg r h).mono (by omega)) (show rs.length<=1048576 by omega);have h3:=Rk (e:=e) hr;have h4:=Rk (e:=f) ht;have htl:=Fs (M rs);rw[s] at htl;unfold T_;cases c1:DP (M rs) with
 | true =>
  rw[c1] at h1;exact Aci rs r t e f false rfl h1
 | false =>
  rw[c1] at h1;by_cases c2:2<=(Y (M rs)).length
  ·have d2:decide (((l (M rs) rs.length:Nat):Int)-1<1)=false:=by rw[decide_eq_false_iff_not];omega
   cases c3:Pz r e with
   | false =>
    rw[c3] at h3;rw[decide_eq_true c2];exact Ach rs r t e f _ true false rfl d2 rfl h1 h2 h3
   | true =>
    rw[c3] at h3;cases c4:Pz t f with
    | false =>
     rw[c4] at h4;rw[decide_eq_true c2];exact Acg rs r t e f _ true true false rfl d2 rfl rfl h1 h2 h3 h4
    | true =>
     rw[c4] at h4;obtain⟨a,rfl,ha,_⟩:=fI c3;obtain⟨b,rfl,hb,_⟩:=fI c4;rw[F,F,decide_eq_true c2];have h5:=LW (hr.mono (show 100<=200 by omega)) (ht.mono (show 100<=200 by omega)) (a:=a) (b:=b) (by omega) (by omega);by_cases c5:Dd (O r) a (O t) b=0
     ·rw[c5] at h5;rw[if_pos c5];have h6:=HI (fun r h=>(hg r h).mono (by omega)) (show rs.length<=1048576 by omega);have hk:∀ r∈(Y (M rs)).map cn,AN 5 r:=LL (GJ (Cs hg));have hl:=Bf (M rs);rw[s] at hl;have h7:=ME (rs:=(Y (M rs)).map cn) hk hr a (by
       rw[N];have:((Y (M rs)).length+1)*(100+(a / 32+1)+1)<=10*230:=Bu (by omega) (by omega);omega) (by omega)
      rw[v] at h7;have k:=Acd rs r t (a:Nat) (b:Nat) _ _ 0 _ true true true rfl d2 rfl rfl rfl h1 h2 h3 h4 h5 (Ec h6) h7;refine k
     ·rw[if_neg c5];have hbd:=Ri (O r*2^b) (O t*2^a);by_cases c6:Dd (O r) a (O t) b=1
      ·rw[c6] at h5;rw[decide_eq_false (show ¬ (Dd (O r) a (O t) b = -1/\_) by rw[c6];exact fun g=>absurd g.1 (by decide))];exact Ace rs r t (a:Nat) (b:Nat) _ 1 true true true rfl d2 rfl rfl rfl rfl h1 h2 h3 h4 h5
      ·have c7:Dd (O r) a (O t) b = -1:=by
        have h0:Dd (O r) a (O t) b=CC (O r*2^b) (O t*2^a):=rfl;omega
       rw[c7] at h5;have hch:=Lh hg hn;have hnice:=Im hg hn;have hlen:=GT hg hn;have x1:=Fv hnice hr a (by omega) (by omega);have x2:=Fv hnice ht b (by omega) (by omega);have k:=Acf rs r t (a:Nat) (b:Nat) _ _ (-1) _ _ true true true rfl d2 rfl rfl rfl rfl h1 h2 h3 h4 h5 hch x1 x2;rw[Ol (by omega)] at k;have ee:decide (Dd (O r) a (O t) b = -1/\Rl (M rs) (O r) a (O t) b=1)=(Rl (M rs) (O r) a (O t) b==1):=by
        rw[c7];cases hq:(Rl (M rs) (O r) a (O t) b==1) with
        | true=>rw[decide_eq_true_eq];exact⟨rfl,by simpa using hq⟩
        | false=>rw[decide_eq_false_iff_not];exact fun g=>by rw[beq_eq_false_iff_ne] at hq;exact hq g.2
       rw[ee];exact k
  ·have d2:decide (((l (M rs) rs.length:Nat):Int)-1<1)=true:=by rw[decide_eq_true_eq];omega
   rw[decide_eq_false c2];exact Acb rs r t e f _ true rfl d2 h1 h2
end
def Om(p:List Int):Prop:=Kb 500000 p/\p.length<=9
theorem Ys{p:List Int}(hl:p.length<=9){a:Nat}(ha:a<=4096):500000+2+(p.length+1)*(100+(a / 32+1)+1)<=1048576:=by
 have:(p.length+1)*(100+(a / 32+1)+1)<=10*230:=Bu (by omega) (by omega);omega
def ES(p:List Int)(x:Int)(a:Nat):Int:=BL (hv p x (2^a))
theorem JR{p:List Int}(hp:Om p){r:Rn}(hr:AN 100 r){a:Nat}(ha:a<=4096):H I 65 [A6n (p.map cn).length (pc (p.map cn)),A6 r (a:Nat)] (A6l R (ES p (O r) a)):=by
 have h:=ME (rs:=p.map cn) (AI hp.1) hr a (by rw[N];exact Ys hp.2 ha) (by omega);rw[v] at h;exact h
theorem On{rs:List Rn}(hg:∀ r∈rs,AN 500000 r)(hl:rs.length<=9){r:Rn}(hr:AN 100 r){a:Nat}(ha:a<=4096) :
  H I 80 [sL pc rs,A6r [A6m r.1,A6n r.2.length (lm r.2)],A6l R (a:Nat)] (o (hv (Y (M rs)) (O r) (2^a))) /\
  H I 79 [o (hv (Y (M rs)) (O r) (2^a))] (A6l R (ES (Y (M rs)) (O r) a)):=by
 have hz:=Ys (p:=M rs) (by rw[s];exact hl) ha;rw[s] at hz;have h:=Th hg hr a hz (by omega);have hf:=VP (K:=500000) hr.fits a (ts:=Y (M rs)) (GJ (Cs hg));have ht:=Bf (M rs);rw[s] at ht;have hlen:(Y (M rs)).length*(100+(a / 32+1)+1)<=9*230:=Bu (by omega) (by omega);exact⟨h,XJ (by have:=hf.len;omega)⟩
section
variable {rs:List Rn} {r t:Rn} (hg:∀ r∈rs,AN 5 r) (hn:rs.length<=9) (hr:AN 100 r) (ht:AN 100 t) (e f:Int)
include hg hn hr ht
end
def TXB:Cm:=TXA
theorem pH:BY I TXB:=pD
theorem Ss(c x q:Int):∀ p:List Int,hv p (c*x) (c*q)=c^(p.length-1)*hv p x q
 | []=>by simp[hv]
 | [a]=>by simp[hv]
 | a::b::p=>by
  have ih:=Ss c x q (b::p);have e:∀ y d,hv (a::b::p) y d=a*d^(p.length+1)+y*hv (b::p) y d:=fun _ _=>rfl;have e1:(b::p).length-1=p.length:=rfl;have e2:(a::b::p).length-1=p.length+1:=rfl;rw[e1] at ih;rw[e,e,ih,e2,Qu,Ax c p.length];generalize hv (b::p) x q=H;generalize c^p.length=C;generalize q^(p.length+1)=Q;grind
theorem Tv{c:Int}(hc:0<c)(v:Int):BL (c*v)=BL v:=by
 unfold BL;rcases FD v 0 with h | h | h
 ·have:=Ir hc h;rw[if_pos this,if_pos h]
 ·subst h;rw[AC]
 ·have:=Ba hc h;rw[if_neg (by omega),if_pos this,if_neg (by omega),if_pos h]
theorem St{p:List Int}{x y:Int}{a b:Nat}(h:x*2^b=y*2^a):ES p x a=ES p y b:=by
 unfold ES;have pa:(0:Int)<2^a:=EF (by decide);have pb:(0:Int)<2^b:=EF (by decide);have qa:(0:Int)<(2^a)^(p.length-1):=EF pa;have qb:(0:Int)<(2^b)^(p.length-1):=EF pb;rw[<- Tv qb (hv p x (2^a)),<- Ss,<- Tv qa (hv p y (2^b)),<- Ss];rw[A8 (2^b) x,h,A8 (2^b) (2^a),A8 (2^a) y]
def G3(p:List Int)(lo:Int)(a:Nat)(hi:Int)(b:Nat)(x:Int)(c:Nat):Int :=
 if Dd x c lo a<=0 then 1 else if Dd x c hi b>0 then -1 else if ES p x c=0 then 0 else if ES p x c=ES p hi b then -1 else 1
section
variable {p:List Int} (hp:Om p) {r t q:Rn} (hr:AN 100 r) (ht:AN 100 t) (hq:AN 100 q) {a b c:Nat} (ha:a<=4096) (hb:b<=4096) (hc:c<=4096)
include hr ht ha hb
theorem Qh:H I 125 [A6r [A6n (p.map cn).length (pc (p.map cn)),A6m r.1,A6n r.2.length (lm r.2),A6l R (a:Nat),A6m t.1,A6n t.2.length (lm t.2),A6l R (b:Nat)]] (A6m (Dd (O r) a (O t) b==0)) :=
 Atz _ r t _ _ _ (LW (hr.mono (by omega)) (ht.mono (by omega)) ha hb)
include hp hq hc
theorem Adg(hne:Dd (O r) a (O t) b ≠ 0):H I 76 [A6r [A6n (p.map cn).length (pc (p.map cn)),A6m r.1,A6n r.2.length (lm r.2),A6l R (a:Nat),A6m t.1,A6n t.2.length (lm t.2),A6l R (b:Nat)],A6 q (c:Nat)]
  (A6l R (G3 p (O r) a (O t) b (O q) c)):=by
 have h1:=Qh (p:=p) hr ht ha hb;rw[beq_eq_false_iff_ne.2 hne] at h1;have h2:=LW (hq.mono (show 100<=200 by omega)) (hr.mono (show 100<=200 by omega)) hc ha;have h3:=LW (hq.mono (show 100<=200 by omega)) (ht.mono (show 100<=200 by omega)) hc hb;have s1:=JR hp ht hb;have s2:=JR hp hq hc;unfold G3;by_cases c1:Dd (O q) c (O r) a<=0
 ·rw[if_pos c1];exact Acj _ r t _ _ q _ _ false rfl (decide_eq_true c1) h1 h2
 rw[if_neg c1];by_cases c2:Dd (O q) c (O t) b>0
 ·rw[if_pos c2];exact Ack _ r t _ _ q _ _ _ false rfl (decide_eq_false c1) (decide_eq_true c2) h1 h2 h3
 rw[if_neg c2];by_cases c3:Dd (O q) c (O t) b=0
 ·have hs:ES p (O q) c=ES p (O t) b:=by
   apply St;unfold Dd CC at c3;split at c3
   ·exact absurd c3 (by decide)
   ·split at c3
    ·exact absurd c3 (by decide)
    ·omega
  rw[hs];by_cases c4:ES p (O t) b=0
  ·rw[if_pos c4];exact Acl _ r t _ _ q _ _ _ _ false rfl (decide_eq_false c1) (decide_eq_false c2) (by rw[beq_iff_eq];exact c3) (by rw[beq_iff_eq];exact c4) h1 h2 h3 s1
  ·rw[if_neg c4,if_pos rfl];exact Acm _ r t _ _ q _ _ _ _ false rfl (decide_eq_false c1) (decide_eq_false c2) (by rw[beq_iff_eq];exact c3) (by rw[beq_eq_false_iff_ne];exact c4) h1 h2 h3 s1
 ·have d3:(Dd (O q) c (O t) b==0)=false:=beq_eq_false_iff_ne.2 c3;by_cases c4:ES p (O q) c=0
  ·rw[if_pos c4];exact Acn _ r t _ _ q _ _ _ _ _ false rfl (decide_eq_false c1) (decide_eq_false c2) d3 (by rw[beq_iff_eq];exact c4) h1 h2 h3 s1 s2
  rw[if_neg c4];by_cases c5:ES p (O q) c=ES p (O t) b
  ·rw[if_pos c5];exact Aco _ r t _ _ q _ _ _ _ _ false rfl (decide_eq_false c1) (decide_eq_false c2) d3 (by rw[beq_eq_false_iff_ne];exact c4) (by rw[beq_iff_eq];exact c5) h1 h2 h3 s1 s2
  ·rw[if_neg c5];exact Acp _ r t _ _ q _ _ _ _ _ false rfl (decide_eq_false c1) (decide_eq_false c2) d3 (by rw[beq_eq_false_iff_ne];exact c4) (by rw[beq_eq_false_iff_ne];exact c5) h1 h2 h3 s1 s2
theorem Adh(hL:BN p)(hne:Dd (O r) a (O t) b ≠ 0):H I 27 [A6r [A6n (p.map cn).length (pc (p.map cn)),A6m r.1,A6n r.2.length (lm r.2),A6l R (a:Nat),A6m t.1,A6n t.2.length (lm t.2),A6l R (b:Nat)],A6 q (c:Nat)]
  (A6l R (G3 p (O r) a (O t) b (O q) c)):=by
 have h1:=F3 (hr.mono (show 100<=200 by omega)) (ht.mono (show 100<=200 by omega)) ha hb;have d1:(Dd (O r) a (O t) b==0)=false:=beq_eq_false_iff_ne.2 hne;have h2:=F3 (hq.mono (show 100<=200 by omega)) (hr.mono (show 100<=200 by omega)) hc ha;have h3:=F3 (hq.mono (show 100<=200 by omega)) (ht.mono (show 100<=200 by omega)) hc hb;obtain⟨s1,s2⟩:=On (rs:=p.map cn) (AI hp.1) (by rw[N];exact hp.2) ht hb;obtain⟨s3,s4⟩:=On (rs:=p.map cn) (AI hp.1) (by rw[N];exact hp.2) hq hc;rw[v,hL] at s1 s2 s3 s4;unfold G3;by_cases c1:Dd (O q) c (O r) a<=0
 ·rw[if_pos c1];exact Acw _ r t _ _ q _ _ _ _ d1 (decide_eq_true c1) h2 h3 h1
 rw[if_neg c1];by_cases c2:Dd (O q) c (O t) b>0
 ·rw[if_pos c2];exact Acx _ r t _ _ q _ _ _ _ d1 (decide_eq_false c1) (decide_eq_true c2) h2 h3 h1
 rw[if_neg c2];by_cases c4:ES p (O q) c=0
 ·rw[if_pos c4];exact Acy _ r t _ _ q _ _ _ _ _ _ _ _ d1 (decide_eq_false c1) (decide_eq_false c2) (by rw[beq_iff_eq];exact c4) h2 h3 h1 s3 s4 s1 s2
 rw[if_neg c4];have d4:(ES p (O q) c==0)=false:=beq_eq_false_iff_ne.2 c4;by_cases c6:ES p (O t) b=0
 ·rw[if_neg (by omega)];exact Acz _ r t _ _ q _ _ _ _ _ _ _ _ d1 (decide_eq_false c1) (decide_eq_false c2) d4 (by rw[beq_iff_eq];exact c6) h2 h3 h1 s3 s4 s1 s2
 by_cases c5:ES p (O q) c=ES p (O t) b
 ·rw[if_pos c5];exact Ada _ r t _ _ q _ _ _ _ _ _ _ _ d1 (decide_eq_false c1) (decide_eq_false c2) d4 (by rw[beq_eq_false_iff_ne];exact c6) (by rw[beq_iff_eq];exact c5) h2 h3 h1 s3 s4 s1 s2
 ·rw[if_neg c5];exact Adb _ r t _ _ q _ _ _ _ _ _ _ _ d1 (decide_eq_false c1) (decide_eq_false c2) d4 (by rw[beq_eq_false_iff_ne];exact c6) (by rw[beq_eq_false_iff_ne];exact c5) h2 h3 h1 s3 s4 s1 s2
end
structure Iv where
 r:Rn
 a:Nat
 t:Rn
 b:Nat
def Iv.mn(x:Iv):Int:=Py (O x.r) x.a (O x.t) x.b
def Iv.me(x:Iv):Nat:=Nf (O x.r) x.a (O x.t) x.b
def stp(p:List Int)(x:Iv):Iv :=
 if Dd (O x.r) x.a (O x.t) x.b=0 then x
 else if G3 p (O x.r) x.a (O x.t) x.b x.mn x.me<=0 then ⟨x.r,x.a,cn x.mn,x.me⟩ else ⟨cn x.mn,x.me,x.t,x.b⟩
def Iv.av(p:List Int)(x:Iv):AV := A6r [A6n (p.map cn).length (pc (p.map cn)),A6m x.r.1,A6n x.r.2.length (lm x.r.2),A6l R (x.a:Nat),A6m x.t.1,A6n x.t.2.length (lm x.t.2),A6l R (x.b:Nat)]
structure IvOk (C m:Nat) (x:Iv):Prop where
 gr:AN 100 x.r
 gt:AN 100 x.t
 a:x.a<=m
 b:x.b<=m
 vr:(O x.r).natAbs<=2^C*2^x.a
 vt:(O x.t).natAbs<=2^C*2^x.b
theorem OO{x a y b}:Nf x a y b<=max a b+1:=by unfold Nf;omega
theorem Ua{x:Int}{a:Nat}{y:Int}{b C:Nat}(hx:x.natAbs<=2^C*2^a)(hy:y.natAbs<=2^C*2^b):(Py x a y b).natAbs<=2^C*2^Nf x a y b:=by
 have hz:=Oj (max a b+1) (In x a y b);have hd:=Kh (max a b+1) (In x a y b);have h1:(In x a y b).natAbs<=2^C*2^(max a b+1):=by
  unfold In;have e1:(x*2^(max a b-a)).natAbs<=2^C*2^max a b:=by
   rw[BM,Np];have:2^C*2^max a b=2^C*2^a*2^(max a b-a):=by rw[EA,<- C8 2 a];congr 2;omega
   rw[this];exact Bu hx (An _)
  have e2:(y*2^(max a b-b)).natAbs<=2^C*2^max a b:=by
   rw[BM,Np];have:2^C*2^max a b=2^C*2^b*2^(max a b-b):=by rw[EA,<- C8 2 b];congr 2;omega
   rw[this];exact Bu hy (An _)
  have e3:2^C*2^(max a b+1)=2^C*2^max a b+2^C*2^max a b:=by rw[F7,<- EA];omega
  omega
 unfold Py Nf;generalize In x a y b=S at *
 generalize DD S (max a b+1)=z at *
 obtain⟨N,rfl⟩:=hd;have pz:(0:Int)<2^z:=EF (by decide);rw[BP _ (by omega)];rw[BM,Np] at h1;have e4:2^C*2^(max a b+1)=2^z*(2^C*2^(max a b+1-z)):=by
  rw[Nat.mul_left_comm,<- C8 2 z];congr 2;omega
 rw[e4] at h1;exact Nat.le_of_mul_le_mul_left h1 (Cx (by decide))
theorem Gd{n:Int}{k:Nat}(h:n.natAbs<=2^k){K:Nat}(hk:k<32*K):Bj K n:=by
 unfold Bj;have:(4294967296:Nat)^K=2^(32*K):=by rw[A6e]
 rw[this];exact Dk h (PZ (by decide) hk)
theorem A1c{p:List Int}{C m:Nat}{x:Iv}(h:IvOk C m x)(hC:C+m+1<3000):IvOk C (m+1) (stp p x):=by
 obtain⟨gr,gt,ha,hb,vr,vt⟩:=h;have e1:=Ua vr vt;have e2:x.me<=max x.a x.b+1:=OO;have e3:x.mn.natAbs<=2^C*2^x.me:=e1;have hf:AN 100 (cn x.mn):=B9 (Gd (k:=C+x.me) (by rw[C8];exact e3) (by omega));unfold stp;split
 ·exact⟨gr,gt,by omega,by omega,vr,vt⟩
 ·split
  ·exact⟨gr,hf,by show x.a<=_;omega,by show x.me<=_;omega,vr,by show (O (cn x.mn)).natAbs<=_;rw[u];exact e3⟩
  ·exact⟨hf,gt,by show x.me<=_;omega,by show x.b<=_;omega,by show (O (cn x.mn)).natAbs<=_;rw[u];exact e3,vt⟩
section
variable {p:List Int} (hp:Om p) {C m:Nat} {x:Iv} (h:IvOk C m x) (hC:C+m+1<3000)
include hp h hC
theorem Adi:H I 82 [x.av p] ((stp p x).av p):=by
 obtain⟨gr,gt,ha,hb,vr,vt⟩:=h;have h1:=Qh (p:=p) gr gt (a:=x.a) (b:=x.b) (by omega) (by omega);unfold stp;by_cases c1:Dd (O x.r) x.a (O x.t) x.b=0
 ·rw[if_pos c1];rw[beq_iff_eq.2 c1] at h1;exact Acq _ x.r x.t _ _ true rfl h1
 ·rw[if_neg c1];rw[beq_eq_false_iff_ne.2 c1] at h1;have e3:x.mn.natAbs<=2^C*2^x.me:=Ua vr vt;have e2:x.me<=max x.a x.b+1:=OO;have hf:AN 100 (cn x.mn):=B9 (Gd (k:=C+x.me) (by rw[C8];exact e3) (by omega));have h2:=Rj (gr.mono (show 100<=200 by omega)) (gt.mono (show 100<=200 by omega)) (a:=x.a) (b:=x.b) (by omega) (by omega);have h3:=Adg hp gr gt hf (a:=x.a) (b:=x.b) (c:=x.me) (by omega) (by omega) (by omega) c1;rw[u] at h3;by_cases c2:G3 p (O x.r) x.a (O x.t) x.b x.mn x.me<=0
  ·rw[if_pos c2];exact Acr _ x.r x.t _ _ _ _ _ false rfl (decide_eq_true c2) h1 h2 h3
  ·rw[if_neg c2];exact Acs _ x.r x.t _ _ _ _ _ false rfl (decide_eq_false c2) h1 h2 h3
theorem pI(hL:BN p):H I 72 [x.av p] ((stp p x).av p):=by
 obtain⟨gr,gt,ha,hb,vr,vt⟩:=h;have h1:=F3 (gr.mono (show 100<=200 by omega)) (gt.mono (show 100<=200 by omega)) (a:=x.a) (b:=x.b) (by omega) (by omega);unfold stp;by_cases c1:Dd (O x.r) x.a (O x.t) x.b=0
 ·rw[if_pos c1];exact Adc _ x.r x.t _ _ _ (by rw[beq_iff_eq];exact c1) h1
 ·rw[if_neg c1];have d1:(Dd (O x.r) x.a (O x.t) x.b==0)=false:=beq_eq_false_iff_ne.2 c1;have e3:x.mn.natAbs<=2^C*2^x.me:=Ua vr vt;have e2:x.me<=max x.a x.b+1:=OO;have hf:AN 100 (cn x.mn):=B9 (Gd (k:=C+x.me) (by rw[C8];exact e3) (by omega));have h2:=oV (gr.mono (show 100<=200 by omega)) (gt.mono (show 100<=200 by omega)) (a:=x.a) (b:=x.b) (by omega) (by omega);have h3:=Adh hp gr gt hf (a:=x.a) (b:=x.b) (c:=x.me) (by omega) (by omega) (by omega) hL c1;rw[u] at h3;by_cases c2:G3 p (O x.r) x.a (O x.t) x.b x.mn x.me<=0
  ·rw[if_pos c2];exact Ade _ x.r x.t _ _ _ _ _ _ d1 (decide_eq_true c2) h1 h2 h3
  ·rw[if_neg c2];exact Adf _ x.r x.t _ _ _ _ _ _ d1 (decide_eq_false c2) h1 h2 h3
end
def TXC:Cm:=TXB
theorem DB:BY I TXC:=pH
end Go.Proofs.YtajompaehjkgkaaGreat
namespace Go.Ai
open Int renaming toNat->A
open List renaming append_assoc->MZ,cons_append->HO,drop->g,drop_eq_getElem_cons->CV,drop_succ_cons->pJ,getD_eq_getElem?_getD->Z,getElem?_eq_getElem->Af,length_append->AY,length_cons->Bq
open Nat renaming add_mul->DN
structure Rt where
 fs:List Rn
 r:Rn
 e:Int
 t:Rn
 f:Int
def Rt.cs(x:Rt):List AV:=[.sl x.fs.length (pc x.fs),.bool x.r.1,.sl x.r.2.length (lm x.r.2),.int .i64 x.e,.bool x.t.1,.sl x.t.2.length (lm x.t.2),.int .i64 x.f]
def zR:Rt:=⟨[],z0,0,z0,0⟩
def G4:List Rt->List AV
 | []=>[]
 | x::l=>x.cs++G4 l
theorem Tw:∀ l:List Rt,(G4 l).length=l.length*7
 | []=>rfl
 | x::l=>by
  have h:=Tw l;have e:x.cs.length=7:=rfl;simp only[G4,AY,Bq,DN];omega
theorem Oo:∀ l k:List Rt,G4 (l++k)=G4 l++G4 k
 | [],_=>rfl
 | x::l,k=>by rw[HO,G4,G4,Oo l k,MZ]
theorem Yt:∀ (l:List Rt) (i:Nat),(G4 l).drop (i*7)=G4 (l.drop i)
 | [],i=>by simp[G4]
 | x::l,0=>rfl
 | x::l,i+1=>by
  rw[pJ,<- Yt l i];have e:G4 (x::l) = .sl x.fs.length (pc x.fs) :: .bool x.r.1 :: .sl x.r.2.length (lm x.r.2) :: .int .i64 x.e :: .bool x.t.1 :: .sl x.t.2.length (lm x.t.2) :: .int .i64 x.f::G4 l:=rfl;rw[e,show (i+1)*7=i*7+1+1+1+1+1+1+1 by omega];simp only[pJ]
theorem MQ{l:List Rt}{X:Int}(h:0<=X/\X<(l.length:Int)):Bm (g (A X*7) (G4 l)) 0 7 false=some (.agg (l.getD (A X) zR).cs):=by
 have hl:=Gz h;rw[Yt,CV hl];have e:l.getD (A X) zR=l[A X]:=by rw[Z,Af hl];rfl
 rw[e];rfl
end Go.Ai
namespace Go.Proofs.YtajompaehjkgkaaGreat
open Go.Ai
set_option maxRecDepth 100000
open Decidable renaming decide->B
open Go.Ai.AV renaming bool->A6m,fresh->A6p,int->A6l,sl->A6n,tup->A6t
open Go.Ai.Reg renaming own->A6q,val->A6o
open Go.IntKind renaming i64->R,wrap->D
open Int renaming toNat->A
open List renaming length->Bk
theorem Adj(r:Rn)(e z:Int)(c1:B (e>=0)=true)(c2:B (e<=64)=true)(n1:H I 102 [At r] (A6l R z)):H I 54 [A6 r e] (A6m (B (z<=128))):=i (fn:=U4) DB rfl 400 rfl [.b true,.b true,.r (A6l R z)] (P c1 (P c2 (P n1 a0)))
theorem Adk(r:Rn)(e:Int)(c1:B (e>=0)=true)(c2:B (e<=64)=false):H I 54 [A6 r e] (A6m false):=i (fn:=U4) DB rfl 400 rfl [.b true,.b false] (P c1 (P c2 a0))
theorem Adl(r:Rn)(e:Int)(c1:B (e>=0)=false):H I 54 [A6 r e] (A6m false):=i (fn:=U4) DB rfl 400 rfl [.b false,.b false] (P c1 (P FA a0))
theorem Wq(ls:List (List Rn))(r t:Rn)(e f x y m:Int)(c1:((D R (x-y))==0)=true):H I 105 [sL pp ls,A6 r e,A6 t f,A6l R x,A6l R y,A6l R m] (.frs (.tp true) 7 0 []):=i (fn:=PB) DB rfl 400 rfl [.b true] (P c1 a0)
theorem Wr(ls:List (List Rn))(r t:Rn)(e f x y m:Int)(c1:((D R (x-y))==0)=false)(c2:((D R (x-y))==1)=true)(n1:0<=(0:Int)/\(0:Int)<(ls.length:Int)):H I 105 [sL pp ls,A6 r e,A6 t f,A6l R x,A6l R y,A6l R m] (.frs (.tp true) 7 1 [A6n ((ls.getD (A 0) []).length) (pc (ls.getD (A 0) [])),A6m r.1,A6n r.2.length (lm r.2),A6l R e,A6m t.1,A6n t.2.length (lm t.2),A6l R f]):=i (fn:=PB) DB rfl 400 rfl [.b false,.b true,.v (A6n ((ls.getD (A 0) []).length) (pc (ls.getD (A 0) [])))] (P c1 (P c2 (P n1 (P (Fj n1) a0))))
theorem pK(ls:List (List Rn))(r t:Rn)(e f x y m n g v:Int)(b1 b2:Bool)(k1 k2:Nat)(cs1 cs2:List AV)(c1:((D R (x-y))==0)=false)(c2:((D R (x-y))==1)=false)(c3:B (g>m)=false)(c4:(b1)=true)(n1:Bk cs2=k2*7)(n2:k1+k2<=1048576)(n3:H I 133 [A6 r e,A6 t f] (A6 (cn n) g))(n4:H I 68 [sL pp ls,A6 (cn n) g] (A6l R v))(n5:H I 105 [sL pp ls,A6 r e,A6 (cn n) g,A6l R x,A6l R v,A6l R m] (.frs (.tp b1) 7 k1 cs1))(n6:H I 105 [sL pp ls,A6 (cn n) g,A6 t f,A6l R v,A6l R y,A6l R m] (.frs (.tp b2) 7 k2 cs2)):H I 105 [sL pp ls,A6 r e,A6 t f,A6l R x,A6l R y,A6l R m] (.frs (.tp b2) 7 (k1+k2) (cs1++cs2)):=i (fn:=PB) DB rfl 400 rfl [.b false,.b false,.r (A6 (cn n) g),.b false,.r (A6l R v),.r (.frs (.tp b1) 7 k1 cs1),.b false,.r (.frs (.tp b2) 7 k2 cs2)] (P c1 (P c2 (P n3 (P c3 (P n4 (P n5 (P (H4 c4) (P n6 (P n1 (P n2 a0))))))))))
theorem Adm(rs:List Rn)(ls:List (List Rn))(r t:Rn)(e f m:Int)(c1:B ((ls.length:Int)<2)=true)(n1:H I 67 [sL pc rs] (A6p 1 ls.length (pp ls))):H I 56 [sL pc rs,A6 r e,A6 t f,A6l R m] (.frs (.tp true) 7 0 []):=i (fn:=X3) DB rfl 400 rfl [.r (A6p 1 ls.length (pp ls)),.b true] (P n1 (P c1 a0))
theorem Adn(rs:List Rn)(ls:List (List Rn))(r t:Rn)(e f x y m:Int)(b:Bool)(n:Nat)(cs:List AV)(c1:B ((ls.length:Int)<2)=false)(n1:H I 67 [sL pc rs] (A6p 1 ls.length (pp ls)))(n2:H I 68 [sL pp ls,A6 r e] (A6l R x))(n3:H I 68 [sL pp ls,A6 t f] (A6l R y))(n4:H I 105 [sL pp ls,A6 r e,A6 t f,A6l R x,A6l R y,A6l R m] (.frs (.tp b) 7 n cs)):H I 56 [sL pc rs,A6 r e,A6 t f,A6l R m] (A6t [A6n n cs,A6m b]):=i (fn:=X3) DB rfl 400 rfl [.r (A6p 1 ls.length (pp ls)),.b false,.r (A6l R x),.r (A6l R y),.r (.frs (.tp b) 7 n cs)] (P n1 (P c1 (P n2 (P n3 (P n4 a0)))))
def Ng(rs:List Rn)(l:List Rt)(k:Nat)(cs:List AV)(N:Int)(i:Int):Ak:=(A6o (sL pc rs)::(Q 9 (A6q 7 k cs::(Q 34 (A6o (A6n l.length (G4 l))::(A6o (A6l R N)::(A6o (A6l R i)::(Q 16 []))))))))
theorem A1d(rs:List Rn)(l:List Rt)(k:Nat)(cs:List AV)(N:Int)(i:Int)(ts:List Rn)(n m u v:Int)(sm:Bool)(c1:B (i<N)=true)(c2:(sm)=true)(n1:0<=i/\i<(l.length:Int))(n2:k+1<=1048576)(n3:H I 52 [A6n (((l.getD (A i) zR).fs).length) (pc ((l.getD (A i) zR).fs))] (A6m sm))(n4:H I 57 [BW ((l.getD (A i) zR).fs) ((l.getD (A i) zR).r) ((l.getD (A i) zR).e) ((l.getD (A i) zR).t) ((l.getD (A i) zR).f)] (BW ts (cn n) m (cn u) v)):W I U2 (Ng rs l k cs N i) .norm (Ng rs l (k+1) (cs++([sL pc ts,A6m ((cn n).1),A6n ((cn n).2.length) (lm (cn n).2),A6l R m,A6m ((cn u).1),A6n ((cn u).2.length) (lm (cn u).2),A6l R v]:List AV)) N (D R (i+1))):=(C DB 400 [.b true,.v (BW ((l.getD (A i) zR).fs) ((l.getD (A i) zR).r) ((l.getD (A i) zR).e) ((l.getD (A i) zR).t) ((l.getD (A i) zR).f)),.r (A6m sm),.b false,.r (BW ts (cn n) m (cn u) v)] [0,10,45,46,47] (P c1 (P n1 (P (MQ n1) (P n3 (P (H4 c2) (P n4 (P (show Bk ([sL pc ts,A6m ((cn n).1),A6n ((cn n).2.length) (lm (cn n).2),A6l R m,A6m ((cn u).1),A6n ((cn u).2.length) (lm (cn u).2),A6l R v]:List AV)=1*7 from rfl) (P n2 a0)))))))))
theorem A1e(rs:List Rn)(l:List Rt)(k:Nat)(cs:List AV)(N:Int)(i:Int)(c1:B (i<N)=false):W I U2 (Ng rs l k cs N i) (.exit 1) (Ng rs l k cs N i):=(C DB 400 [.b false] [0,10,45,46,47] (P c1 a0))
theorem fJ(rs:List Rn)(r t:Rn)(e f d c i:Int)(b v1 v2 ok:Bool)(l:List Rt)(k:Nat)(cs:List AV)(c1:(b)=true)(c2:B (d<0)=false)(c3:(v1)=true)(c4:(v2)=true)(c5:B (c>0)=false)(c6:(ok)=true)(n1:H I 52 [sL pc rs] (A6m b))(n2:H I 53 [sL pc rs] (A6l R d))(n3:H I 54 [A6 r e] (A6m v1))(n4:H I 54 [A6 t f] (A6m v2))(n5:H I 55 [A6 r e,A6 t f] (A6l R c))(n6:H I 56 [sL pc rs,A6 r e,A6 t f,A6l R 896] (.frs (.tp ok) 7 l.length (G4 l)))(hl7:W I (.loop U2) (Ng rs l 0 ([]:List AV) (l.length:Int) 0) (.exit 1) (Ng rs l k cs (l.length:Int) i)):H I 15 [sL pc rs,A6 r e,A6 t f] (A6t [A6n k cs,A6l R 0]):=X (fn:=Xz) (s:=(Q 6 (A6q 7 k cs::(A6o (A6l R 0)::(Q 56 []))))) (ex := .ret) rfl rfl (L (L (L (L (q (W.seq (C DB 400 [.r (A6m b),.b false,.r (A6l R d),.b false,.r (A6m v1),.b false,.r (A6m v2),.b false,.r (A6l R c),.b false,.r (.frs (.tp ok) 7 l.length (G4 l)),.b false] [0,10,45,46,47] (P n1 (P (H4 c1) (P n2 (P c2 (P n3 (P (H4 c3) (P n4 (P (H4 c4) (P n5 (P c5 (P n6 (P (H4 c6) a0))))))))))))) (W.seq (W.block hl7) (C DB 400 [] [6,7] a0)))))))) (by nofun) rfl
theorem fK(rs:List Rn)(r t:Rn)(e f d c i:Int)(b v1 v2 ok:Bool)(l:List Rt)(k:Nat)(cs:List AV)(c1:(b)=true)(c2:B (d<0)=false)(c3:(v1)=true)(c4:(v2)=true)(c5:B (c>0)=false)(c6:(ok)=true)(n1:H I 52 [sL pc rs] (A6m b))(n2:H I 53 [sL pc rs] (A6l R d))(n3:H I 54 [A6 r e] (A6m v1))(n4:H I 54 [A6 t f] (A6m v2))(n5:H I 55 [A6 r e,A6 t f] (A6l R c))(n6:H I 56 [sL pc rs,A6 r e,A6 t f,A6l R 896] (A6t [A6n l.length (G4 l),A6m ok]))(hl7:W I (.loop U2) (Ng rs l 0 ([]:List AV) (l.length:Int) 0) (.exit 1) (Ng rs l k cs (l.length:Int) i)):H I 15 [sL pc rs,A6 r e,A6 t f] (A6t [A6n k cs,A6l R 0]):=X (fn:=Xz) (s:=(Q 6 (A6q 7 k cs::(A6o (A6l R 0)::(Q 56 []))))) (ex := .ret) rfl rfl (L (L (L (L (q (W.seq (C DB 400 [.r (A6m b),.b false,.r (A6l R d),.b false,.r (A6m v1),.b false,.r (A6m v2),.b false,.r (A6l R c),.b false,.r (A6t [A6n l.length (G4 l),A6m ok]),.b false] [0,10,45,46,47] (P n1 (P (H4 c1) (P n2 (P c2 (P n3 (P (H4 c3) (P n4 (P (H4 c4) (P n5 (P c5 (P n6 (P (H4 c6) a0))))))))))))) (W.seq (W.block hl7) (C DB 400 [] [6,7] a0)))))))) (by nofun) rfl
theorem Aua(rs:List Rn)(ls:List (List Rn))(r t:Rn)(e f x y:Int)(n1:H I 67 [sL pc rs] (A6p 1 ls.length (pp ls)))(n2:H I 68 [sL pp ls,A6 r e] (A6l R x))(n3:H I 68 [sL pp ls,A6 t f] (A6l R y)):H I 136 [sL pc rs,A6 r e,A6 t f] (A6l R (D R (x-y))):=i (fn:=UU) DB rfl 400 rfl [.r (A6p 1 ls.length (pp ls)),.r (A6l R x),.r (A6l R y)] (P n1 (P n2 (P n3 a0)))
def A4l:Cm:=TXC
theorem Oq:BY I A4l:=DB
theorem sR(n e:Int)(n1:H I 49 [A6l R n] (o n)):H I 50 [A6l R n,A6l R e] (A6 (cn n) e):=i (fn:=aJ) Oq rfl 400 rfl [.r (o n)] (P n1 a0)
theorem A1f(rs:List Rn)(l:List Rt)(e:Int)(n1:H I 50 [A6l R (-40),A6l R 0] (A6 (cn (-40)) 0))(n2:H I 50 [A6l R 40,A6l R 0] (A6 (cn 40) 0))(n3:H I 15 [sL pc rs,A6 (cn (-40)) 0,A6 (cn 40) 0] (A6t [A6n l.length (G4 l),A6l R e])):H I 22 [sL pc rs] (A6t [A6n l.length (G4 l),A6m (e==0)]):=i (fn:=aF) Oq rfl 400 rfl [.r (A6 (cn (-40)) 0),.r (A6 (cn 40) 0),.r (A6t [A6n l.length (G4 l),A6l R e])] (P n1 (P n2 (P n3 a0)))
def Yc5:ICode := .seq (e [V 48 9,V 49 7,S 50 (.len 49),oB 51 .lss 48 50] (.cond 51 .skip (.exit 0))) (.seq (.block 1 (e [V 54 7,V 55 9,oA 56 54 55 7,oL 57 56 56 7,n 58 20 [57],S 10 (.new [A6n 0 [],A6m false,A6n 0 [],A6l R 0,A6m false,A6n 0 [],A6l R 0] []),oS 10 10 7 58] (.seq (.region true [V 60 7,V 61 9,oA 62 60 61 7,oL 63 62 62 7,oL 64 4 4 3,n 65 24 [63,64],V 59 65,oE 66 59 0,oE 67 59 1,V 11 66,V 12 67]) (e [V 69 7,V 70 9,oA 71 69 70 7,oL 72 71 71 7,V 73 2,n 74 25 [72,73],V 68 74,oE 75 68 0,oE 76 68 1,S 13 (.new [A6m false,A6n 0 []] []),oS 13 13 2 75,V 14 76] (e [V 78 7,V 79 9,oA 80 78 79 7,oL 81 80 80 7,V 82 2,n 83 26 [81,82],V 77 83,oE 84 77 0,oE 85 77 1,S 15 (.new [A6m false,A6n 0 []] []),oS 15 15 2 84,V 16 85] (e [V 86 12,oI 87 .neq 86 0,V 88 87,h 89 (.mov 11) 88 false,h 90 (.ld 10 10 7 false) 88 false,h 91 (.ld 4 4 3 false) 88 false,h 92 (.call 27 [90,91]) 88 false,h 93 (.bin .neq 89 92) 88 false,S 94 (.pick 88 (cb true) 93),V 95 94,h 96 (.mov 14) 95 false,h 97 (.mov 16) 95 false,h 98 (.bin .neq 96 97) 95 false,S 99 (.pick 95 (cb true) 98),V 100 99,h 101 (.ld 13 13 2 false) 100 false,h 102 (.ld 15 15 2 false) 100 false,h 103 (.call 28 [101,102]) 100 false,h 104 (.un .not 103) 100 false,S 105 (.pick 100 (cb true) 104)] (.cond 105 (e [S 6 (.mov (cb false))] .ret) .skip))))))) (rg [V 52 9,oI 53 .add 52 1,V 9 53]))
def TXUA:Cm:=A4l
theorem Br:BY I TXUA:=Oq
end Go.Proofs.YtajompaehjkgkaaGreat
