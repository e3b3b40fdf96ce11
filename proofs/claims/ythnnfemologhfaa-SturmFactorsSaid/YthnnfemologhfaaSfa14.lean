/- Texts of the proof of SturmFactors, packed by pack.py: part 14 of 17. -/
import Derived.Test.YthnnfemologhfaaSfa13
namespace Go.Proofs.Ythnnfemologhfaa
open Go.IntKind (i64 u64 u32)
open Go.Ai
set_option maxRecDepth 100000
def U3:Nat→List Int→List Int→List (List Int)
 | 0,_,_=>[]
 | f+1,a,b=>if b=[] then [] else b::U3 f b (X4 (Q5 a b))
def Xo (p:List Int):List (List Int):=if Z9 p=[] then [] else Z9 p::U3 (Z9 p).length (Z9 p) (prim (Qa (Z9 p)))
theorem Hq {p:List Int} (h:prim p=p):prim (X4 p)=X4 p:=by
 by_cases h0:p=[]
 ·subst h0;rfl
 ·have hl:Ub p:=Xa h
  have h1:=Ko (xs:=p) (by rw[hl];exact h0)
  rw[h] at h1
  exact Fv (Ki hl) (by rw[M7];exact h1)
theorem Zdo {K:Nat} {p:List Int} (h:Kb K p):Kb K (X4 p):=fun i=>by rw [Wb];exact (h i).neg
def pps (l:List (List Int)):List (List Rn):=l.map fun p=>p.map cn
theorem Zod (ls:List (List Rn)) (rs:List Rn):pp ls++([.sl rs.length (pc rs)]:List AV)=pp (ls++[rs]):=by simp [pp]
def Nice (p:List Int):Prop:=Kb 500000 p∧p.length≤9∧Ub p
theorem Rb:∀ (f:Nat) (x y:List Int) (M:Nat),0<M→y.length≤x.length→x.length≤9→prim x=x→prim y=y→Kb (M-1) x→Kb (M-1) y→M*phi x.length y.length≤500000 →
  ∀ p∈U3 f x y,Nice p:=by
 intro f
 induction f with
 | zero=>intro x y M _ _ _ _ _ _ _ _ p hp;cases hp
 | succ f ih =>
  intro x y M hM h2 h3 px py kx ky hphi p hp
  simp only[U3] at hp
  split at hp
  ·cases hp
  ·rename_i h
   obtain⟨r1,r2,r3⟩:=Dp hM (Xa px) h kx ky h2
   have hM':0<M*(x.length-y.length+2):=Nat.mul_pos hM (by omega)
   have hMle:M≤M*(x.length-y.length+2):=Nat.le_mul_of_pos_right M (by omega)
   have hb:M*1≤M*phi x.length y.length:=Nat.mul_le_mul_left _ (by unfold phi;exact Nat.mul_pos (by omega) (Nat.pow_pos (by decide)))
   rcases List.mem_cons.1 hp with rfl | hp
   ·exact⟨ky.mono (by omega),by omega,Xa py⟩
   ·exact ih y (X4 (Q5 x y)) (M*(x.length-y.length+2)) hM' (by rw[Xc];omega) (by omega) py (Hq (Ky _ _ _ px)) (ky.mono (by omega)) (Zdo r3) (by rw[Xc];exact Dq r2 hphi) p hp
theorem Es:∀ (f:Nat) (x y:List Int),(U3 f x y).length≤f
 | 0,_,_=>Nat.le_refl _
 | f+1,x,y=>by
  simp only[U3]
  split
  ·simp
  ·have:=Es f y (X4 (Q5 x y));simp;omega
theorem Zav:∀ (f:Nat) (x y:List Int) (M:Nat) (ls:List (List Rn)),0<M→y.length≤f→y.length≤x.length→x.length≤9→prim x=x→prim y=y→Kb (M-1) x→Kb (M-1) y→M*phi x.length y.length≤500000→ls.length+f≤1000 →
  ∃ as' bs',Za Yir (.loop Zul) (Zhe (x.map cn) ls.length (pp ls) (y.map cn)) (.exit 0) (Zhe as' (ls++pps (U3 f x y)).length (pp (ls++pps (U3 f x y))) bs'):=by
 intro f
 induction f with
 | zero =>
  intro x y M ls _ h1 _ _ _ _ _ _ _ _
  have:y=[]:=List.eq_nil_of_length_eq_zero (by omega)
  subst this
  have e:ls++pps (U3 0 x [])=ls:=by simp[pps,U3]
  rw[e]
  exact⟨_,_,Za.loop_out (Znw _ _ _ _ (by simp)) (by intro e;cases e)⟩
 | succ f ih =>
  intro x y M ls hM h1 h2 h3 px py kx ky hphi hls
  simp only[U3]
  split
  ·rename_i h
   subst h
   have e:ls++pps []=ls:=by simp[pps]
   rw[e]
   exact⟨_,_,Za.loop_out (Znw _ _ _ _ (by simp)) (by intro e;cases e)⟩
  ·rename_i h
   have hyl:=List.length_pos_iff.2 h
   obtain⟨r1,r2,r3⟩:=Dp hM (Xa px) h kx ky h2
   have hM':0<M*(x.length-y.length+2):=Nat.mul_pos hM (by omega)
   have hMle:M≤M*(x.length-y.length+2):=Nat.le_mul_of_pos_right M (by omega)
   have hbig:M*(x.length-y.length+2)≤500000:=by
    refine Nat.le_trans (Nat.mul_le_mul_left _ ?_) hphi
    unfold phi
    exact Nat.le_mul_of_pos_right _ (Nat.pow_pos (by decide))
   have hrem:=Vx (rs:=x.map cn) (ss:=y.map cn) (Qj kx) (Qj ky) (by omega) (by omega) (by rw[List.length_map];omega) (by rw[List.length_map];omega) (by rw[Qn,py];exact h) (by
    rw[Qn,Qn,px,py,Nat.sub_add_cancel hM,show x.length+1-y.length=x.length-y.length+1 by omega,Nat.mul_comm _ M]
    have:M*(x.length-y.length+2)=M*(x.length-y.length+1)+M:=by rw[← Nat.mul_succ]
    omega)
   rw[Qn,Qn,px,py] at hrem
   have hneg:=Ws (rs:=(Q5 x y).map cn) (fun r hr=>(Qj r3 r hr).mono (by omega)) (by rw[List.length_map];omega)
   rw[Qn] at hneg
   have hneg':Zd Yir 127 [.sl ((Q5 x y).map cn).length (pc ((Q5 x y).map cn))] (.fresh 2 ((X4 (Q5 x y)).map cn).length (pc ((X4 (Q5 x y)).map cn))):=by
    have e:((X4 (Q5 x y)).map cn).length=((Q5 x y).map cn).length:=by rw[List.length_map,List.length_map,Xc]
    rw[e];exact hneg
   have k:=Yk96_1 (x.map cn) ls.length (pp ls) (y.map cn) _ _ (by simp;omega) (by omega) (P0 hrem) hneg'
   rw[Zod] at k
   obtain⟨as',bs',hb⟩:=ih y (X4 (Q5 x y)) (M*(x.length-y.length+2)) (ls++[y.map cn]) hM' (by rw[Xc];omega) (by rw[Xc];omega) (by omega) py (Hq (Ky _ _ _ px)) (ky.mono (by omega)) (Zdo r3) (by rw[Xc];exact Dq r2 hphi) (by rw[List.length_append];simp;omega)
   have e:ls++[y.map cn]++pps (U3 f y (X4 (Q5 x y)))=ls++pps (y::U3 f y (X4 (Q5 x y))):=by simp[pps]
   rw[e] at hb
   have el:(ls++[y.map cn]).length=ls.length+1:=by simp
   rw[el] at hb
   exact⟨as',bs',Za.loop k hb⟩
theorem Ga {rs:List Rn} (hr:∀ r∈rs,J4 4 r) (hn:rs.length≤9) (h0:Z9 (Zl rs) ≠ []) :
  prim (Z9 (Zl rs))=Z9 (Zl rs)∧Kb 9 (Z9 (Zl rs))∧Kb 9 (Qa (Z9 (Zl rs)))∧(Z9 (Zl rs)).length≤9∧(Qa (Z9 (Zl rs))).length≤(Z9 (Zl rs)).length-1∧(prim (Qa (Z9 (Zl rs)))).length≤(Qa (Z9 (Zl rs))).length ∧
  10*phi (Z9 (Zl rs)).length (prim (Qa (Z9 (Zl rs)))).length≤500000∧Ub (Z9 (Zl rs)):=by
 have ht:Ze (Zl rs) ≠ []:=by
  intro h
  have hz:prim (Zl rs)=[]:=by rw[Uf,← Xj];exact h
  apply h0
  unfold Z9;rw[hz];rfl
 obtain⟨lf,cf,_,_,_,_,_,_⟩:=Wi ht
 obtain⟨k1,k2⟩:=Ziw ht (by rw[Z3];exact hn) (Mq (X2 hr))
 have t1:=Qw (Zl rs)
 rw[Z3] at t1
 have k3:=Zdp k1 (by omega)
 have d1:(Qa (Z9 (Zl rs))).length≤(Z9 (Zl rs)).length-1:=by
  unfold Qa
  have:=Qw ((List.range ((Z9 (Zl rs)).length-1)).map fun j=>(Z9 (Zl rs)).getD (j+1) 0*((j+1:Nat):Int))
  rwa [List.length_map,List.length_range] at this
 have d2:(prim (Qa (Z9 (Zl rs)))).length≤(Qa (Z9 (Zl rs))).length:=by rw[Qx];exact Qw _
 refine⟨Fv lf cf,k1.mono (by omega),k3.mono (by omega),by omega,d1,d2,?_,lf⟩
 have:=Pi (n:=(Z9 (Zl rs)).length) (m:=(prim (Qa (Z9 (Zl rs)))).length) (c:=9) (by omega) (by omega)
 have h3:2*3^9=39366:=by decide
 omega
theorem Ra {rs:List Rn} (hr:∀ r∈rs,J4 4 r) (hn:rs.length≤9):∀ p∈Xo (Zl rs),Nice p:=by
 intro p hp
 unfold Xo at hp
 split at hp
 ·cases hp
 ·rename_i h0
  obtain⟨p1,k1,k2,l1,l2,l3,hphi,lf⟩:=Ga hr hn h0
  rcases List.mem_cons.1 hp with rfl | hp
  ·exact⟨k1.mono (by omega),l1,lf⟩
  ·exact Rb _ _ _ 10 (by decide) (by omega) l1 p1 (Ja _) k1 k2.prim hphi p hp
theorem Zax {rs:List Rn} (hr:∀ r∈rs,J4 4 r) (hn:rs.length≤9):(Xo (Zl rs)).length≤10:=by
 unfold Xo
 split
 ·simp
 ·rename_i h0
  obtain⟨_,_,_,l1,_⟩:=Ga hr hn h0
  have:=Es (Z9 (Zl rs)).length (Z9 (Zl rs)) (prim (Qa (Z9 (Zl rs))))
  simp;omega
theorem Za3 {rs:List Rn} (hr:∀ r∈rs,J4 4 r) (hn:rs.length≤9):Zd Yir 96 [.sl rs.length (pc rs)] (.fresh 1 (pps (Xo (Zl rs))).length (pp (pps (Xo (Zl rs))))):=by
 have hf:=Zet hr hn (by omega) (by decide)
 by_cases h0:Z9 (Zl rs)=[]
 ·have e:Xo (Zl rs)=[]:=by unfold Xo;rw[if_pos h0]
  rw[e]
  rw[h0] at hf
  rcases hf with h | h
  ·exact Za7 rs [] (by decide) h
  ·exact Za5 rs [] (by decide) h
 ·obtain⟨p1,k1,k2,l1,l2,l3,hphi,lf⟩:=Ga hr hn h0
  have e:Xo (Zl rs)=Z9 (Zl rs)::U3 (Z9 (Zl rs)).length (Z9 (Zl rs)) (prim (Qa (Z9 (Zl rs)))):=by unfold Xo;rw[if_neg h0]
  have hd:=F6 (rs:=(Z9 (Zl rs)).map cn) (Qj k1) (by omega) (by rw[List.length_map];omega)
  rw[Qn] at hd
  have hp:=Jb (rs:=(Qa (Z9 (Zl rs))).map cn) (Qj k2) (by omega) (by rw[List.length_map];omega)
  rw[Qn] at hp
  obtain⟨as',bs',hl⟩:=Zav (Z9 (Zl rs)).length (Z9 (Zl rs)) (prim (Qa (Z9 (Zl rs)))) 10 [(Z9 (Zl rs)).map cn] (by decide) (by omega) (by omega) l1 p1 (Ja _) k1 k2.prim hphi (by simp;omega)
  have e2:[(Z9 (Zl rs)).map cn]++pps (U3 (Z9 (Zl rs)).length (Z9 (Zl rs)) (prim (Qa (Z9 (Zl rs)))))=pps (Xo (Zl rs)):=by rw[e];simp[pps]
  rw[e2] at hl
  have c1:(((((Z9 (Zl rs)).map cn).length:Nat):Int)==0)=false:=by
   rw[beq_eq_false_iff_ne,List.length_map]
   have:=List.length_pos_iff.2 h0
   omega
  rcases hf with h | h
  ·exact Za6 rs _ _ _ as' bs' _ c1 h (P0 hd) (P0 hp) hl
  ·exact Za4 rs _ _ _ as' bs' _ c1 h (P0 hd) (P0 hp) hl
def Tu (x:Int × Int) (s:Int):Int × Int:=(if s ≠ 0∧x.2 ≠ 0∧s ≠ x.2 then x.1+1 else x.1,if s ≠ 0 then s else x.2)
def T0 (l:List (List Int)) (N:Int) (e:Nat) (i:Nat):Int:=Vp (hv (l.getD i []) N (2^e))
def Xx (l:List (List Int)) (N:Int) (e:Nat):Nat→Int × Int
 | 0=>(0,0)
 | i+1=>Tu (Xx l N e i) (T0 l N e i)
theorem R8 (l:List (List Int)) (N:Int) (e:Nat):∀ i:Nat,0≤(Xx l N e i).1∧(Xx l N e i).1≤(i:Int)
 | 0=>by simp[Xx]
 | i+1=>by
  have:=R8 l N e i
  simp only[Xx,Tu]
  split <;> omega
theorem Zie {l:List (List Int)} {i:Nat} (h:i<l.length):(pps l).getD i []=(l.getD i []).map cn:=by
 unfold pps
 rw[List.getD_eq_getElem?_getD,List.getElem?_map,List.getD_eq_getElem?_getD,List.getElem?_eq_getElem h];rfl
theorem Zcu (l:List (List Int)):(pps l).length=l.length:=List.length_map ..
section
variable {l:List (List Int)} {r:Rn} (hl:∀ p∈l,Nice p) (hr:J4 8 r) (hN:l.length≤100) (e:Nat) (he:e≤300)
include hl hr he
theorem at_run {i:Nat} (hi:i<l.length):Zd Yir 78 [.sl ((pps l).getD i []).length (pc ((pps l).getD i [])), .agg [.bool r.1, .sl r.2.length (lm r.2), .int .i64 (e:Nat)]] (.int .i64 (T0 l (Zt r) e i)):=by
 rw[Zie hi]
 have hm:l.getD i []∈l:=by rw[List.getD_eq_getElem?_getD,List.getElem?_eq_getElem hi];exact List.getElem_mem hi
 obtain⟨h1,h2,h3⟩:=hl _ hm
 have h:=Re (rs:=(l.getD i []).map cn) (Qj h1) hr e (by
  rw[List.length_map]
  have h4:((l.getD i []).length+1)*(8+(e / 32+1)+1)≤10*20:=Nat.mul_le_mul (by omega) (by omega)
  omega) (by omega)
 rw[Qn] at h
 exact h
theorem B8 (hN:l.length≤100):Zd Yir 100 [.sl (pps l).length (pp (pps l)), .agg [.bool r.1, .sl r.2.length (lm r.2), .int .i64 (e:Nat)]] (.int .i64 (Xx l (Zt r) e l.length).1):=by
 have hpl:=Zcu l
 have h:=Za.up (prog:=Yir) (c:=L1) (ex := .exit 0) (fin:=G4 (pps l) r (e:Nat) (Xx l (Zt r) e l.length).1 (Xx l (Zt r) e l.length).2 (((pps l).length:Nat):Int) (l.length:Nat))
  (fun i=>G4 (pps l) r (e:Nat) (Xx l (Zt r) e i).1 (Xx l (Zt r) e i).2 (((pps l).length:Nat):Int) (i:Nat)) l.length (by intro e;cases e) ?_ ?_ 0 (Nat.zero_le _)
 ·exact Zpq (pps l) r (e:Nat) _ _ _ h
 ·intro i hi
  have ei:i64.wrap ((i:Int)+1)=((i+1:Nat):Int):=by rw[w64 (by omega) (by omega)];omega
  have hs:=at_run hl hr e he hi
  have hb:=R8 l (Zt r) e i
  have w1:i64.wrap ((Xx l (Zt r) e i).1+1)=(Xx l (Zt r) e i).1+1:=w64 (by omega) (by omega)
  have c1:decide ((i:Int)<(((pps l).length:Nat):Int))=true:=by rw[decide_eq_true_eq];omega
  simp only[Xx,Tu]
  by_cases g1:T0 l (Zt r) e i=0
  ·rw[if_neg (fun h=>h.1 g1),if_neg (fun h=>h g1)]
   have k:=Zrt (pps l) r (e:Nat) (Xx l (Zt r) e i).1 (Xx l (Zt r) e i).2 (((pps l).length:Nat):Int) (i:Nat) (T0 l (Zt r) e i) c1 (by rw[bne_eq_false_iff_eq];exact g1) (by omega) (by rw[Int.toNat_natCast];exact hs)
   rwa [ei] at k
  ·by_cases g2:(Xx l (Zt r) e i).2=0
   ·rw[if_neg (fun h=>h.2.1 g2),if_pos g1]
    have k:=Zru (pps l) r (e:Nat) (Xx l (Zt r) e i).1 (Xx l (Zt r) e i).2 (((pps l).length:Nat):Int) (i:Nat) (T0 l (Zt r) e i) c1 (by rw[bne_iff_ne];exact g1) (by rw[bne_eq_false_iff_eq];exact g2) (by omega) (by rw[Int.toNat_natCast];exact hs)
    rwa [ei] at k
   ·by_cases g3:T0 l (Zt r) e i=(Xx l (Zt r) e i).2
    ·rw[if_neg (fun h=>h.2.2 g3),if_pos g1]
     have k:=Zrv (pps l) r (e:Nat) (Xx l (Zt r) e i).1 (Xx l (Zt r) e i).2 (((pps l).length:Nat):Int) (i:Nat) (T0 l (Zt r) e i) c1 (by rw[bne_iff_ne];exact g1) (by rw[bne_iff_ne];exact g2) (by rw[bne_eq_false_iff_eq];exact g3) (by omega) (by rw[Int.toNat_natCast];exact hs)
     rwa [ei] at k
    ·rw[if_pos ⟨g1,g2,g3⟩,if_pos g1]
     have k:=Zrw (pps l) r (e:Nat) (Xx l (Zt r) e i).1 (Xx l (Zt r) e i).2 (((pps l).length:Nat):Int) (i:Nat) (T0 l (Zt r) e i) c1 (by rw[bne_iff_ne];exact g1) (by rw[bne_iff_ne];exact g2) (by rw[bne_iff_ne];exact g3) (by omega) (by rw[Int.toNat_natCast];exact hs)
     rwa [ei,w1] at k
 ·exact Zrs (pps l) r _ _ _ _ _ (by rw[decide_eq_false_iff_not];omega)
end
end Go.Proofs.Ythnnfemologhfaa

namespace Go.Proofs.Ythnnfemologhfaa
open Go.IntKind (i64 u64 u32)
open Go.Ai
set_option maxRecDepth 100000
theorem Zaw {p:List Int}:Xo p=[]↔Ze p=[]:=by
 constructor
 ·intro h
  apply Classical.byContradiction
  intro h1
  obtain⟨_,_,_,h2,_⟩:=Wi h1
  unfold Xo at h
  rw[if_neg h2] at h
  cases h
 ·intro h
  have hz:prim p=[]:=by rw[Uf,← Xj];exact h
  have e:Z9 p=[]:=by unfold Z9;rw[hz];rfl
  unfold Xo
  rw[if_pos e]
section
variable {r t:Rn} (hr:J4 8 r) (ht:J4 8 t)
include hr ht
theorem Nq {a b:Nat} (ha:a≤4096) (hb:b≤4096):Zd Yir 98 [dyR r (a:Nat),dyR t (b:Nat)] (.int .i64 (Uw (Zt r*2^b) (Zt t*2^a)))∧Zd Yir 102 [dyR r (a:Nat),dyR t (b:Nat)] (.int .i64 (Uw (Zt r*2^b) (Zt t*2^a))):=by
 obtain⟨x1,_,x3⟩:=E7 hr (n:=max a b-a) (by omega)
 obtain⟨y1,_,y3⟩:=E7 ht (n:=max a b-b) (by omega)
 obtain⟨_,x2,x4⟩:=E7 hr (n:=b) hb
 obtain⟨_,y2,y4⟩:=E7 ht (n:=a) ha
 have g1:=Jq x3
 have g2:=Jq y3
 have g3:=Jq x4
 have g4:=Jq y4
 have p:=Zhk (na:=(cn (Zt r*2^(max a b-a))).1) (nb:=(cn (Zt t*2^(max a b-b))).1) g1.1 g2.1 (by have:=g1.2;omega) (by have:=g2.2;omega)
 have q:=Zib (na:=(cn (Zt r*2^b)).1) (nb:=(cn (Zt t*2^a)).1) g3.1 g4.1 (by have:=g3.2;omega) (by have:=g4.2;omega)
 rw[show ∀ n,rv (cn n).1 (cn n).2=n from Qe,show ∀ n,rv (cn n).1 (cn n).2=n from Qe,Zox] at p
 rw[show ∀ n,rv (cn n).1 (cn n).2=n from Qe,show ∀ n,rv (cn n).1 (cn n).2=n from Qe] at q
 exact⟨Yrun98 r t (a:Nat) (b:Nat) _ _ _ (by rw[Zio ha hb];exact x1) (by rw[Zin ha hb];exact y1) p,Zpp r t (a:Nat) (b:Nat) _ _ _ x2 y2 q⟩
end
end Go.Proofs.Ythnnfemologhfaa

namespace Go.Ai
open Go.IntKind (i64 u64 u32)
def hs (c:Nat→Int) (x q:Int):Nat→Int
 | 0=>c 0
 | T+1=>q*hs c x q T+c (T+1)*x^(T+1)
theorem Bz {c d:Nat→Int} {x q:Int}:∀ {T:Nat},(∀ i,i≤T→c i=d i)→hs c x q T=hs d x q T
 | 0,h=>h 0 (Nat.le_refl _)
 | T+1,h=>by
  simp only[hs]
  rw[Bz (T:=T) fun i hi=>h i (by omega),h (T+1) (Nat.le_refl _)]
theorem Fy (a b:Int) (c d:Nat→Int) (x q:Int):∀ T:Nat,hs (fun i=>a*c i+b*d i) x q T=a*hs c x q T+b*hs d x q T
 | 0=>rfl
 | T+1=>by
  simp only[hs]
  rw[Fy a b c d x q T]
  grind
theorem Zdt {c:Nat→Int} {T:Nat} (h:∀ i,T<i→c i=0) (x q:Int):∀ k:Nat,hs c x q (T+k)=q^k*hs c x q T
 | 0=>by simp
 | k+1=>by
  rw[← Nat.add_assoc]
  simp only[hs]
  rw[Zdt h x q k,h _ (by omega),Int.pow_succ]
  grind
theorem Du (c:Nat→Int) (x q:Int):∀ T:Nat,hs c x q (T+1)=c 0*q^(T+1)+x*hs (fun i=>c (i+1)) x q T
 | 0=>by simp only[hs];grind
 | T+1=>by
  have h:=Du c x q T
  have e1:hs c x q (T+1+1)=q*hs c x q (T+1)+c (T+1+1)*x^(T+1+1):=rfl
  have e2:hs (fun i=>c (i+1)) x q (T+1)=q*hs (fun i=>c (i+1)) x q T+c (T+1+1)*x^(T+1):=rfl
  rw[e1,h,e2,Int.pow_succ q (T+1),Int.pow_succ x (T+1)]
  grind
theorem Ziz (c:Nat→Int) (x q:Int) (T:Nat):hs (fun i=>if i=0 then 0 else c (i-1)) x q (T+1)=x*hs c x q T:=by
 rw[Du]
 simp only[if_pos,Int.zero_mul,Int.zero_add]
 rw[Bz (d:=c) fun i _=>by rw[if_neg (by omega),Nat.add_sub_cancel]]
def hp (p:List Int) (x q:Int) (T:Nat):Int:=hs (fun i=>p.getD i 0) x q T
theorem hp_hv:∀ (p:List Int) (x q:Int),hv p x q=hp p x q (p.length-1)
 | [],_,_=>rfl
 | [a],x,q=>by simp[hv,hp,hs]
 | a::b::p,x,q=>by
  have ih:=hp_hv (b::p) x q
  have e:hp (a::b::p) x q ((a::b::p).length-1)=a*q^(b::p).length+x*hp (b::p) x q ((b::p).length-1):=by
   unfold hp
   show hs _ x q ((b::p).length-1+1)=_
   rw[Du]
   rfl
  rw[e,← ih];rfl
theorem Nk {p:List Int} {T:Nat} (h:p.length≤T+1) (x q:Int) (k:Nat):hp p x q (T+k)=q^k*hp p x q T :=
 Zdt (fun i hi=>Qi (by omega)) x q k
theorem Ta (x q:Int):∀ T:Nat,hp [] x q T=0
 | 0=>rfl
 | T+1=>by
  have:=Ta x q T
  unfold hp at *
  simp only[hs]
  rw[this];simp
theorem Tb {r:List Int} {tr:Nat} (hr:r.length≤tr+1) (x q:Int):∀ (p:List Int) (tp:Nat),p.length≤tp+1→hp (Jk p r) x q (tp+tr)=hp p x q tp*hp r x q tr
 | [],tp,_=>by rw[Ta,Int.zero_mul];exact Ta x q _
 | a::p,tp,h=>by
  have hc:∀ i,(Jk (a::p) r).getD i 0=a*r.getD i 0+1*(if i=0 then 0 else (Jk p r).getD (i-1) 0):=by
   intro i
   rw[Jy,Qo]
   by_cases h0:i=0
   ·subst h0;rw[if_neg (by omega),if_pos rfl];omega
   ·rw[if_pos (by omega),if_neg h0];omega
  cases tp with
  | zero =>
   have hp0:p=[]:=List.eq_nil_of_length_eq_zero (by have h':p.length+1≤0+1:=h;omega)
   subst hp0
   have h0:∀ i,(Jk [] r).getD i 0=0:=fun i=>rfl
   unfold hp
   rw[Bz (d:=fun i=>a*r.getD i 0+0*r.getD i 0) fun i _=>by rw[hc,h0];split <;> simp,Fy,Nat.zero_add]
   simp[hs]
  | succ tp =>
   have ih:=Tb hr x q p tp (by have h':p.length+1≤tp+1+1:=h;omega)
   have hm:=Nk hr x q (tp+1)
   have ha:hp (a::p) x q (tp+1)=a*q^(tp+1)+x*hp p x q tp:=by unfold hp;rw[Du];rfl
   have hsh:=Ziz (fun i=>(Jk p r).getD i 0) x q (tp+tr)
   have e:hp (Jk (a::p) r) x q (tp+1+tr)=a*hp r x q (tp+1+tr)+1*(x*hp (Jk p r) x q (tp+tr)):=by
    unfold hp
    rw[Bz fun i _=>hc i,Fy,show tp+1+tr=tp+tr+1 by omega]
    rw[hsh]
   rw[e,ih,show tp+1+tr=tr+(tp+1) by omega,hm,ha]
   grind
theorem hp_id {r d e Q:List Int} {c c':Int} (h:∀ x,c*Zc r x=Zc Q x*Zc d x+c'*Zc e x) (x q:Int) {tq td:Nat} (hQ:Q.length≤tq+1) (hd:d.length≤td+1) :
  c*hp r x q (tq+td)=hp Q x q tq*hp d x q td+c'*hp e x q (tq+td):=by
 have hi:=Xu (p:=Zu c r) (q:=Hr (Jk Q d) (Zu c' e)) (fun x=>by rw[Zh,Z6,Zq,Zh];exact h x)
 have hc:∀ i,c*r.getD i 0+0*r.getD i 0=1*(Jk Q d).getD i 0+c'*e.getD i 0:=by
  intro i
  have:=hi i
  rw[Z2,Xn,Z2] at this
  omega
 rw[← Tb hd x q Q tq hQ]
 unfold hp
 have h1:=Fy c 0 (fun i=>r.getD i 0) (fun i=>r.getD i 0) x q (tq+td)
 have h2:=Fy 1 c' (fun i=>(Jk Q d).getD i 0) (fun i=>e.getD i 0) x q (tq+td)
 rw[Bz fun i _=>hc i,h2] at h1
 omega
theorem Jj {a b A B:Int} (ha:(a.natAbs:Int)≤A) (hb:(b.natAbs:Int)≤B):((a*b).natAbs:Int)≤A*B:=by
 rw[Int.natAbs_mul,Int.natCast_mul]
 exact Int.mul_le_mul ha hb (by omega) (by omega)
theorem Vd {a b A B:Int} (ha:(a.natAbs:Int)≤A) (hb:(b.natAbs:Int)≤B):((a+b).natAbs:Int)≤A+B:=by omega
theorem Hd {a A:Int} (ha:(a.natAbs:Int)≤A):∀ n:Nat,((a^n).natAbs:Int)≤A^n
 | 0=>by simp
 | n+1=>by rw[Int.pow_succ,Int.pow_succ];exact Jj (Hd ha n) ha
theorem Dw (c:Nat→Int) (R:Int) (hR:0≤R):∀ T:Nat,∃ K:Int,0≤K∧∀ q x:Int,0<q→(x.natAbs:Int)≤R*q→((hs c x q T).natAbs:Int)≤K*q^T
 | 0=>⟨((c 0).natAbs:Int),by omega,fun q x _ _=>by simp[hs]⟩
 | T+1=>by
  obtain⟨K,hK,h⟩:=Dw c R hR T
  refine⟨K+((c (T+1)).natAbs:Int)*R^(T+1),?_,fun q x hq hx => ?_⟩
  ·have:=Int.mul_nonneg (show (0:Int)≤((c (T+1)).natAbs:Int) by omega) (Int.pow_nonneg (m:=T+1) hR)
   omega
  ·simp only[hs]
   have h1:=Jj (a:=q) (A:=q) (by omega) (h q x hq hx)
   have h2:=Jj (a:=c (T+1)) (A:=((c (T+1)).natAbs:Int)) (by omega) (Hd hx (T+1))
   have h3:=Vd h1 h2
   have e:(R*q)^(T+1)=R^(T+1)*q^(T+1):=Int.mul_pow ..
   rw[e] at h3
   refine Int.le_trans h3 (Int.le_of_eq ?_)
   rw[Int.pow_succ q T]
   grind
theorem Sr {x A:Int} (hx:(x.natAbs:Int)≤A) (hx1:((x+1).natAbs:Int)≤A):∀ n:Nat,(((x+1)^(n+1)-x^(n+1)).natAbs:Int)≤((n+1:Nat):Int)*A^n
 | 0=>by
  have e:(x+1)^(0+1)-x^(0+1)=1:=by rw[Int.pow_succ,Int.pow_zero,Int.pow_succ,Int.pow_zero];omega
  rw[e];simp
 | n+1=>by
  have ih:=Sr hx hx1 n
  have e:(x+1)^(n+1+1)-x^(n+1+1)=(x+1)*((x+1)^(n+1)-x^(n+1))+x^(n+1):=by rw[Int.pow_succ (x+1) (n+1),Int.pow_succ x (n+1)];grind
  rw[e]
  have h:=Vd (Jj hx1 ih) (Hd hx (n+1))
  refine Int.le_trans h (Int.le_of_eq ?_)
  rw[Int.pow_succ A n,Int.natCast_add,Int.natCast_add,Int.natCast_add]
  grind
theorem Znf (c:Nat→Int) (R:Int) (hR:0≤R):∀ T:Nat,∃ K:Int,0≤K∧∀ q x:Int,0<q→(x.natAbs:Int)≤R*q→((x+1).natAbs:Int)≤R*q→((hs c (x+1) q (T+1)-hs c x q (T+1)).natAbs:Int)≤K*q^T
 | 0=>⟨((c 1).natAbs:Int),by omega,fun q x _ _ _=>by
   simp only[hs]
   have:q*c 0+c (0+1)*(x+1)^(0+1)-(q*c 0+c (0+1)*x^(0+1))=c 1:=by simp;grind
   rw[this];simp⟩
 | T+1=>by
  obtain⟨K,hK,h⟩:=Znf c R hR T
  refine⟨K+((c (T+2)).natAbs:Int)*(((T+1+1:Nat):Int)*R^(T+1)),?_,fun q x hq hx hx1 => ?_⟩
  ·have:=Int.mul_nonneg (show (0:Int)≤((c (T+2)).natAbs:Int) by omega) (Int.mul_nonneg (show (0:Int)≤((T+1+1:Nat):Int) by omega) (Int.pow_nonneg (m:=T+1) hR))
   omega
  ·have e:hs c (x+1) q (T+1+1)-hs c x q (T+1+1)=q*(hs c (x+1) q (T+1)-hs c x q (T+1))+c (T+2)*((x+1)^(T+1+1)-x^(T+1+1)):=by
    show (q*hs c (x+1) q (T+1)+c (T+1+1)*(x+1)^(T+1+1))-(q*hs c x q (T+1)+c (T+1+1)*x^(T+1+1))=_
    grind
   rw[e]
   have h1:=Jj (a:=q) (A:=q) (by omega) (h q x hq hx hx1)
   have h2:=Jj (a:=c (T+2)) (A:=((c (T+2)).natAbs:Int)) (by omega) (Sr hx hx1 (T+1))
   have h3:=Vd h1 h2
   have e2:(R*q)^(T+1)=R^(T+1)*q^(T+1):=Int.mul_pow ..
   rw[e2] at h3
   refine Int.le_trans h3 (Int.le_of_eq ?_)
   rw[Int.pow_succ q T]
   grind
end Go.Ai

namespace Go.Ai
open Go.IntKind (i64 u64 u32)
theorem Zcv {x A:Int} (hA:0≤A) (hx:(x.natAbs:Int)≤A) (hx1:((x+1).natAbs:Int)≤A):∀ n:Nat,(((x+1)^(n+2)-x^(n+2)-((n+2:Nat):Int)*x^(n+1)).natAbs:Int)≤(((n+1)*(n+2):Nat):Int)*A^n
 | 0=>by
  have e:(x+1)^(0+2)-x^(0+2)-((0+2:Nat):Int)*x^(0+1)=1:=by
   rw[show (x+1)^(0+2)=(x+1)*(x+1) by rw[Int.pow_succ,Int.pow_succ,Int.pow_zero,Int.one_mul],show x^(0+2)=x*x by rw[Int.pow_succ,Int.pow_succ,Int.pow_zero,Int.one_mul],show x^(0+1)=x by rw[Int.pow_succ,Int.pow_zero,Int.one_mul]]
   grind
  rw[e];simp
 | n+1=>by
  have ih:=Zcv hA hx hx1 n
  have e:(x+1)^(n+1+2)-x^(n+1+2)-((n+1+2:Nat):Int)*x^(n+1+1)=(x+1)*((x+1)^(n+2)-x^(n+2)-((n+2:Nat):Int)*x^(n+1))+((n+2:Nat):Int)*x^(n+1):=by
   rw[show n+1+2=n+2+1 by omega,Int.pow_succ (x+1) (n+2),Int.pow_succ x (n+2),show n+1+1=n+2 by omega,show x^(n+2)=x^(n+1)*x from Int.pow_succ ..]
   have:((n+2+1:Nat):Int)=((n+2:Nat):Int)+1:=by omega
   rw[this]
   grind
  rw[e]
  have h:=Vd (Jj hx1 ih) (Jj (a:=((n+2:Nat):Int)) (A:=((n+2:Nat):Int)) (by omega) (Hd hx (n+1)))
  refine Int.le_trans h ?_
  rw[show A^(n+1)=A^n*A from Int.pow_succ ..]
  have hAn:0≤A^n*A:=Int.mul_nonneg (Int.pow_nonneg hA) hA
  have e2:A*((((n+1)*(n+2):Nat):Int)*A^n)+((n+2:Nat):Int)*(A^n*A)=((((n+1)*(n+2)+(n+2):Nat)):Int)*(A^n*A):=by
   rw[Int.natCast_add];grind
  rw[e2]
  apply Int.mul_le_mul_of_nonneg_right _ hAn
  have:(n+1)*(n+2)+(n+2)≤(n+1+1)*(n+1+2):=by
   have:(n+1)*(n+2)+(n+2)=(n+2)*(n+2):=by rw[← Nat.succ_mul]
   rw[this]
   exact Nat.mul_le_mul (by omega) (by omega)
  omega
def Znk (c:Nat→Int) (i:Nat):Int:=((i+1:Nat):Int)*c (i+1)
theorem Zng (c:Nat→Int) (R:Int) (hR:0≤R):∀ T:Nat,∃ K:Int,0≤K∧∀ q x:Int,0<q→(x.natAbs:Int)≤R*q→((x+1).natAbs:Int)≤R*q →
  ((hs c (x+1) q (T+2)-hs c x q (T+2)-hs (Znk c) x q (T+1)).natAbs:Int)≤K*q^T
 | 0=>⟨((c 2).natAbs:Int),by omega,fun q x _ _ _=>by
   have e:hs c (x+1) q (0+2)-hs c x q (0+2)-hs (Znk c) x q (0+1)=c 2:=by
    have p1:∀ y:Int,y^(0+1)=y:=fun y=>by rw[Int.pow_succ,Int.pow_zero,Int.one_mul]
    have p2:∀ y:Int,y^(0+1+1)=y*y:=fun y=>by rw[Int.pow_succ,p1]
    show (q*(q*c 0+c (0+1)*(x+1)^(0+1))+c (0+1+1)*(x+1)^(0+1+1))-(q*(q*c 0+c (0+1)*x^(0+1))+c (0+1+1)*x^(0+1+1))-(q*(((0+1:Nat):Int)*c (0+1))+((0+1+1:Nat):Int)*c (0+1+1)*x^(0+1))=_
    rw[p1,p1,p2,p2]
    have h1:((0+1:Nat):Int)=1:=rfl
    have h2:((0+1+1:Nat):Int)=2:=rfl
    rw[h1,h2]
    grind
   rw[e];simp⟩
 | T+1=>by
  obtain⟨K,hK,h⟩:=Zng c R hR T
  refine⟨K+((c (T+3)).natAbs:Int)*((((T+2)*(T+3):Nat):Int)*R^(T+1)),?_,fun q x hq hx hx1 => ?_⟩
  ·have:=Int.mul_nonneg (show (0:Int)≤((c (T+3)).natAbs:Int) by omega) (Int.mul_nonneg (show (0:Int)≤(((T+2)*(T+3):Nat):Int) by omega) (Int.pow_nonneg (m:=T+1) hR))
   omega
  ·have e:hs c (x+1) q (T+1+2)-hs c x q (T+1+2)-hs (Znk c) x q (T+1+1)=q*(hs c (x+1) q (T+2)-hs c x q (T+2)-hs (Znk c) x q (T+1))+c (T+3)*((x+1)^(T+1+2)-x^(T+1+2)-((T+1+2:Nat):Int)*x^(T+1+1)):=by
    show (q*hs c (x+1) q (T+2)+c (T+3)*(x+1)^(T+1+2))-(q*hs c x q (T+2)+c (T+3)*x^(T+1+2))-(q*hs (Znk c) x q (T+1)+((T+1+1+1:Nat):Int)*c (T+3)*x^(T+1+1))=_
    have:((T+1+1+1:Nat):Int)=((T+1+2:Nat):Int):=rfl
    rw[this]
    grind
   rw[e]
   have hRq:0≤R*q:=Int.mul_nonneg hR (by omega)
   have h1:=Jj (a:=q) (A:=q) (by omega) (h q x hq hx hx1)
   have h2:=Jj (a:=c (T+3)) (A:=((c (T+3)).natAbs:Int)) (by omega) (Zcv hRq hx hx1 (T+1))
   have h3:=Vd h1 h2
   have e2:(R*q)^(T+1)=R^(T+1)*q^(T+1):=Int.mul_pow ..
   rw[e2] at h3
   refine Int.le_trans h3 (Int.le_of_eq ?_)
   rw[Int.pow_succ q T]
   grind
def wv (last:Int):List Int→Int
 | []=>0
 | s::ss=>if s=0 then wv last ss else (if last ≠ 0∧s ≠ last then 1 else 0)+wv s ss
inductive Mid:Int→List Int→List Int→Prop
 | nil (σ:Int):Mid σ [] []
 | st (σ s:Int) {ss tt:List Int}:(s=1∨s = -1)→Mid s ss tt→Mid σ (s::ss) (s::tt)
 | un (σ a b:Int) {ss tt:List Int}:(-1≤a∧a≤1)→(-1≤b∧b≤1)→Mid (-σ) ss tt→Mid σ (a :: -σ::ss) (b :: -σ::tt)
theorem Zbw {σ a:Int} (hσ:σ=1∨σ = -1) (ha : -1≤a∧a≤1) (ss:List Int):wv σ (a :: -σ::ss)=1+wv (-σ) ss:=by
 simp only[wv]
 rcases hσ with rfl | rfl
 ·rcases show a = -1∨a=0∨a=1 by omega with rfl | rfl | rfl <;> simp
 ·rcases show a = -1∨a=0∨a=1 by omega with rfl | rfl | rfl <;> simp
theorem Znd {σ:Int} {s t:List Int} (h:Mid σ s t):(σ=1∨σ = -1)→wv σ s=wv σ t:=by
 induction h with
 | nil σ=>intro _;rfl
 | st σ s hs _ ih =>
  intro _
  have h0:s ≠ 0:=by omega
  simp only[wv,if_neg h0]
  rw[ih hs]
 | un σ a b ha hb _ ih =>
  intro hσ
  rw[Zbw hσ ha,Zbw hσ hb,ih (by omega)]
inductive Top:List Int→List Int→Int→Prop
 | st (s:Int) {ss tt:List Int}:(s=1∨s = -1)→Mid s ss tt→Top (s::ss) (s::tt) 0
 | un (σ a b:Int) {ss tt:List Int}:(σ=1∨σ = -1)→(a = -σ∨a=0)→(b=0∨b=σ)→Mid σ ss tt→Top (a::σ::ss) (b::σ::tt) (if a=0 then 0 else 1)
theorem top_wv {s t:List Int} {d:Int} (h:Top s t d):wv 0 s=wv 0 t+d:=by
 cases h with
 | st s hs hm =>
  have h0:s ≠ 0:=by omega
  simp only[wv,if_neg h0]
  rw[Znd hm hs];omega
 | un σ a b hσ ha hb hm =>
  have e:=Znd hm hσ
  simp only[wv]
  rcases hσ with rfl | rfl
  ·rcases ha with rfl | rfl <;> rcases hb with rfl | rfl <;> simp <;> omega
  ·rcases ha with rfl | rfl <;> rcases hb with rfl | rfl <;> simp <;> omega
end Go.Ai

namespace Go.Ai
open Go.IntKind (i64 u64 u32)
theorem Zae (p:List Int) (x:Int):Zc p x=(Je p:Int)*Zc (prim p) x:=by
 rw[← Zh]
 exact U1 (fun i=>by rw[Z2,Do]) x
theorem Zcs {r d:List Int} (hd:Ub d) (hd0:d ≠ []) (hl:d.length≤r.length):∃ (c c':Int) (Q:List Int),0<c∧0<c'∧∀ x,c*Zc r x=Zc Q x*Zc d x+c'*Zc (U0 r d) x:=by
 have ht:top d ≠ 0:=Ut hd hd0
 have he:=M2 hl ((top d).natAbs:Int) (sg (top d)*top r)
 have hp:∀ x,Zc (K3 r d ((top d).natAbs:Int) (sg (top d)*top r) r.length) x=(Je (K3 r d ((top d).natAbs:Int) (sg (top d)*top r) r.length):Int)*Zc (U0 r d) x:=fun x=>Zae _ x
 by_cases h0:Je (K3 r d ((top d).natAbs:Int) (sg (top d)*top r) r.length)=0
 ·have hz:U0 r d=[]:=Uf.2 (Kn.1 h0)
  refine⟨((top d).natAbs:Int),1,Uy (r.length-d.length) [sg (top d)*top r],by omega,by decide,fun x => ?_⟩
  have h1:=he x
  have h2:=hp x
  rw[h0] at h2
  rw[X7,hz]
  simp only[Zc]
  have h3:(((0:Nat):Int))*Zc (U0 r d) x=0:=by simp
  rw[h3] at h2
  rw[h2] at h1
  grind
 ·refine⟨((top d).natAbs:Int),(Je (K3 r d ((top d).natAbs:Int) (sg (top d)*top r) r.length):Int),Uy (r.length-d.length) [sg (top d)*top r],by omega,by omega,fun x => ?_⟩
  have h1:=he x
  have h2:=hp x
  rw[X7]
  simp only[Zc]
  rw[← h2,h1]
  grind
theorem Mc {d:List Int} (hd:Ub d) (hd0:d ≠ []):∀ (f:Nat) (r:List Int),∃ (c c':Int) (Q:List Int),0<c∧0<c'∧∀ x,c*Zc r x=Zc Q x*Zc d x+c'*Zc (U5 f r d) x
 | 0,r=>⟨1,1,[],by decide,by decide,fun x=>by simp[Zc,U5]⟩
 | f+1,r=>by
  simp only[U5]
  split
  ·rename_i hl
   obtain⟨c,c',Q,h1,h2,h3⟩:=Zcs hd hd0 hl
   obtain⟨e,e',S,g1,g2,g3⟩:=Mc hd hd0 f (U0 r d)
   refine⟨e*c,c'*e',Hr (Zu e Q) (Zu c' S),Int.mul_pos g1 h1,Int.mul_pos h2 g2,fun x => ?_⟩
   have a:=h3 x
   have b:=g3 x
   rw[Z6,Zh,Zh,Int.mul_assoc e c,a,Int.mul_add,Int.mul_comm e (c'*_),Int.mul_assoc c',Int.mul_comm _ e,b]
   grind
  ·exact⟨1,1,[],by decide,by decide,fun x=>by simp[Zc]⟩
theorem La {a b:List Int} (hb:Ub b) (hb0:b ≠ []):∃ (c c':Int) (Q:List Int),0<c∧0<c'∧∀ x,c*Zc a x=Zc Q x*Zc b x+(-c')*Zc (X4 (Q5 a b)) x:=by
 obtain⟨c,c',Q,h1,h2,h3⟩:=Mc hb hb0 a.length a
 refine⟨c,c',Q,h1,h2,fun x => ?_⟩
 rw[h3 x,V4]
 unfold Q5
 grind
theorem B9 {a b:List Int} (hb:Ub b) (hb0:b ≠ []) (h:IsG [1] a b):IsG [1] b (X4 (Q5 a b)):=by
 obtain⟨c,c',Q,h1,h2,h3⟩:=La (a:=a) hb hb0
 have h4:IsG [1] (X4 (Q5 a b)) b:=IsG.step (r:=X4 (Q5 a b)) (d:=b) (e:=a) (q:=Q) (a:=c') (m := -c) (by omega) (by omega) (fun x=>by
  have:=h3 x
  grind) h.comm
 exact h4.comm
end Go.Ai

namespace Go.Ai
open Go.IntKind (i64 u64 u32)
def Hh (p:List Int) (x q:Int):Int:=hp p x q (p.length-1)
def Stb (p:List Int) (x q:Int):Prop:=(0<Hh p x q∧0<Hh p (x+1) q)∨(Hh p x q<0∧Hh p (x+1) q<0)
def InR (R q x:Int):Prop:=0<q∧(x.natAbs:Int)≤R*q∧((x+1).natAbs:Int)≤R*q
theorem Us {q:Int} (h:0<q) (n:Nat):0<q^n:=Int.pow_pos h
theorem small (p:List Int) (R:Int) (hR:0≤R):∃ K:Int,0≤K∧∀ q x:Int,InR R q x→¬ Stb p x q→((Hh p x q).natAbs:Int)*q≤K*q^(p.length-1)∧((Hh p (x+1) q).natAbs:Int)*q≤K*q^(p.length-1):=by
 cases hn:p.length-1 with
 | zero =>
  refine⟨0,Int.le_refl _,fun q x _ hst => ?_⟩
  have e:∀ y,Hh p y q=p.getD 0 0:=fun y=>by unfold Hh hp;rw[hn];rfl
  unfold Stb at hst
  rw[e,e] at hst ⊢
  have:p.getD 0 0=0:=by omega
  rw[this];simp
 | succ T =>
  obtain⟨K,hK,h⟩:=Znf (fun i=>p.getD i 0) R hR T
  refine⟨K,hK,fun q x hr hst => ?_⟩
  have h1:=h q x hr.1 hr.2.1 hr.2.2
  have e:∀ y,Hh p y q=hs (fun i=>p.getD i 0) y q (T+1):=fun y=>by unfold Hh hp;rw[hn]
  unfold Stb at hst
  rw[e,e] at hst
  rw[e,e]
  generalize hs (fun i=>p.getD i 0) x q (T+1)=a at *
  generalize hs (fun i=>p.getD i 0) (x+1) q (T+1)=b at *
  have ha:(a.natAbs:Int)≤((b-a).natAbs:Int):=by omega
  have hb:(b.natAbs:Int)≤((b-a).natAbs:Int):=by omega
  have hq:=hr.1
  rw[Int.pow_succ,← Int.mul_assoc]
  exact⟨Int.mul_le_mul_of_nonneg_right (Int.le_trans ha h1) (by omega),Int.mul_le_mul_of_nonneg_right (Int.le_trans hb h1) (by omega)⟩
theorem hp_one (x q:Int) (T:Nat):hp [1] x q T=q^T:=by
 have:=Nk (p:=[1]) (T:=0) (by simp) x q T
 rw[Nat.zero_add] at this
 rw[this]
 show q^T*1=_
 omega
theorem Nf {f g:List Int} (R:Int) (hR:0≤R) (h:IsG [1] f g):∃ L Q0:Int,0<L∧0<Q0∧∀ q x:Int,InR R q x→Q0≤q→¬ Stb f x q→q^(g.length-1)≤L*((Hh g x q).natAbs:Int):=by
 obtain⟨_,_,c,u,v,hc,hid⟩:=h
 obtain⟨K,hK,hsm⟩:=small f R hR
 obtain⟨Ku,hKu,hu⟩:=Dw (fun i=>u.getD i 0) R hR (max u.length v.length+(g.length-1))
 obtain⟨Kv,hKv,hv⟩:=Dw (fun i=>v.getD i 0) R hR (max u.length v.length+(f.length-1))
 refine⟨2*Kv+1,2*(Ku*K)+1,by omega,by have:=Int.mul_nonneg hKu hK;omega,fun q x hr hq hst => ?_⟩
 obtain⟨hq0,hx,hx1⟩:=hr
 have h1:=(hsm q x ⟨hq0,hx,hx1⟩ hst).1
 have h2:=hu q x hq0 hx
 have h3:=hv q x hq0 hx
 have e1:=hp_id (r:=[1]) (d:=f) (e:=Jk v g) (Q:=u) (c:=c) (c':=1) (fun y=>by rw[Zq,hid y];omega) x q (tq:=max u.length v.length+(g.length-1)) (td:=f.length-1) (by omega) (by omega)
 have e2:=Tb (r:=g) (tr:=g.length-1) (by omega) x q v (max u.length v.length+(f.length-1)) (by omega)
 have eT:max u.length v.length+(f.length-1)+(g.length-1)=max u.length v.length+(g.length-1)+(f.length-1):=by omega
 rw[eT] at e2
 rw[e2,hp_one,Int.one_mul] at e1
 change c*q^(max u.length v.length+(g.length-1)+(f.length-1))=hs (fun i=>u.getD i 0) x q (max u.length v.length+(g.length-1))*Hh f x q+hs (fun i=>v.getD i 0) x q (max u.length v.length+(f.length-1))*Hh g x q at e1
 have ep:q^(max u.length v.length+(g.length-1)+(f.length-1))=q^(max u.length v.length+(f.length-1))*q^(g.length-1):=by rw[← Int.pow_add,← eT]
 have ep2:q^(max u.length v.length+(g.length-1))*q^(f.length-1)=q^(max u.length v.length+(f.length-1))*q^(g.length-1):=by rw[← Int.pow_add,← ep]
 have pa:=Us hq0 (max u.length v.length+(f.length-1))
 have pb:=Us hq0 (max u.length v.length+(g.length-1))
 have pm:=Us hq0 (g.length-1)
 have pn:=Us hq0 (f.length-1)
 rw[ep] at e1
 generalize hs (fun i=>u.getD i 0) x q (max u.length v.length+(g.length-1))=U at *
 generalize hs (fun i=>v.getD i 0) x q (max u.length v.length+(f.length-1))=V at *
 generalize q^(max u.length v.length+(f.length-1))=A at *
 generalize q^(max u.length v.length+(g.length-1))=B at *
 generalize q^(g.length-1)=M at *
 generalize q^(f.length-1)=N at *
 generalize Hh f x q=F at *
 generalize Hh g x q=G at *
 -- |c| A M <= |U| |F| + |V| |G|
 have n1:((c*(A*M)).natAbs:Int)≤(U.natAbs:Int)*(F.natAbs:Int)+(V.natAbs:Int)*(G.natAbs:Int):=by
  rw[e1]
  exact Vd (Jj (Int.le_refl _) (Int.le_refl _)) (Jj (Int.le_refl _) (Int.le_refl _))
 have n2:A*M≤((c*(A*M)).natAbs:Int):=by
  rw[Int.natAbs_mul,Int.natCast_mul]
  have hAM:=Int.mul_pos pa pm
  have:((A*M).natAbs:Int)=A*M:=Int.natAbs_of_nonneg (by omega)
  rw[this]
  have:=Int.mul_le_mul_of_nonneg_right (show (1:Int)≤(c.natAbs:Int) by omega) (show 0≤A*M by omega)
  omega
 -- times q
 have n3:(U.natAbs:Int)*(F.natAbs:Int)*q≤A*(Ku*K*M):=by
  have h5:(U.natAbs:Int)*((F.natAbs:Int)*q)≤Ku*B*(K*N):=Int.mul_le_mul h2 h1 (Int.mul_nonneg (by omega) (by omega)) (Int.mul_nonneg hKu (by omega))
  have e5:Ku*B*(K*N)=A*(Ku*K*M):=by
   have:Ku*B*(K*N)=Ku*K*(B*N):=by grind
   rw[this,ep2];grind
  rw[Int.mul_assoc]
  omega
 have n4:(V.natAbs:Int)*(G.natAbs:Int)*q≤A*(Kv*((G.natAbs:Int)*q)):=by
  have h5:=Int.mul_le_mul_of_nonneg_right h3 (Int.mul_nonneg (show (0:Int)≤(G.natAbs:Int) by omega) (show 0≤q by omega))
  rw[Int.mul_assoc]
  refine Int.le_trans h5 (Int.le_of_eq ?_)
  grind
 have n5:A*(M*q)≤A*(Ku*K*M+Kv*((G.natAbs:Int)*q)):=by
  have h6:=Int.mul_le_mul_of_nonneg_right (Int.le_trans n2 n1) (show 0≤q by omega)
  rw[Int.add_mul] at h6
  rw[Int.mul_add]
  have:A*M*q=A*(M*q):=Int.mul_assoc ..
  omega
 have n6:=Int.le_of_mul_le_mul_left n5 pa
 -- half of it is enough
 have n7:2*(Ku*K*M)≤M*q:=by
  have h7:=Int.mul_le_mul_of_nonneg_left (show 2*(Ku*K)≤q by omega) (show 0≤M by omega)
  have:M*(2*(Ku*K))=2*(Ku*K*M):=by grind
  omega
 have n8:M*q≤2*Kv*(G.natAbs:Int)*q:=by
  have:2*Kv*(G.natAbs:Int)*q=2*(Kv*((G.natAbs:Int)*q)):=by grind
  omega
 have n9:M≤2*Kv*(G.natAbs:Int):=Int.le_of_mul_le_mul_right n8 hq0
 have:(2*Kv+1)*(G.natAbs:Int)=2*Kv*(G.natAbs:Int)+(G.natAbs:Int):=by rw[Int.add_mul,Int.one_mul]
 omega
end Go.Ai

namespace Go.Ai
open Go.IntKind (i64 u64 u32)
theorem Zoo (g:List Int) (R L:Int) (hR:0≤R) (hL:0<L):∃ Q0:Int,0<Q0∧∀ q x:Int,InR R q x→Q0≤q→q^(g.length-1)≤L*((Hh g x q).natAbs:Int)→Stb g x q:=by
 obtain⟨K,hK,hsm⟩:=small g R hR
 refine⟨L*K+1,by have:=Int.mul_nonneg (show 0≤L by omega) hK;omega,fun q x hr hq hf => ?_⟩
 apply Classical.byContradiction
 intro hst
 have h1:=(hsm q x hr hst).1
 have hq0:=hr.1
 have pm:=Us hq0 (g.length-1)
 generalize q^(g.length-1)=M at *
 generalize ((Hh g x q).natAbs:Int)=G at *
 have h2:=Int.mul_le_mul_of_nonneg_right hf (show 0≤q by omega)
 have h3:=Int.mul_le_mul_of_nonneg_left h1 (show 0≤L by omega)
 have e1:L*(G*q)=L*G*q:=by grind
 have e2:L*(K*M)=M*(L*K):=by grind
 have h4:M*q≤M*(L*K):=by omega
 have h5:=Int.le_of_mul_le_mul_left h4 pm
 omega
theorem Sw {f g:List Int} (R:Int) (hR:0≤R) (h:IsG [1] f g):∃ L Q0:Int,0<L∧0<Q0∧∀ q x:Int,InR R q x→Q0≤q→¬ Stb f x q→Stb g x q∧q^(g.length-1)≤L*((Hh g x q).natAbs:Int):=by
 obtain⟨L,Q1,hL,hQ1,h1⟩:=Nf R hR h
 obtain⟨Q2,hQ2,h2⟩:=Zoo g R L hR hL
 refine⟨L,Q1+Q2,hL,by omega,fun q x hr hq hst => ?_⟩
 have h3:=h1 q x hr (by omega) hst
 exact⟨h2 q x hr (by omega) h3,h3⟩
theorem Zh8 {a b e Q:List Int} {c c':Int} (R:Int) (hR:0≤R) (hc:0<c) (hc':0<c') (hid:∀ x,c*Zc a x=Zc Q x*Zc b x+(-c')*Zc e x) (h:IsG [1] b e) :
  ∃ Q0:Int,0<Q0∧∀ q x:Int,InR R q x→Q0≤q→¬ Stb b x q→(0<Hh e x q→Hh a x q<0)∧(Hh e x q<0→0<Hh a x q):=by
 obtain⟨K,hK,hsm⟩:=small b R hR
 obtain⟨L,Q1,hL,hQ1,hf⟩:=Nf R hR h
 obtain⟨KQ,hKQ,hq⟩:=Dw (fun i=>Q.getD i 0) R hR (Q.length+a.length+e.length)
 have hLK:=Int.mul_nonneg (show 0≤L by omega) (Int.mul_nonneg hKQ hK)
 refine⟨Q1+L*(KQ*K)+1,by omega,fun q x hr hqq hst => ?_⟩
 have h1:=(hsm q x hr hst).1
 have h2:=hf q x hr (by omega) hst
 have hq0:=hr.1
 have h3:=hq q x hq0 hr.2.1
 have e1:=hp_id hid x q (tq:=Q.length+a.length+e.length) (td:=b.length-1) (by omega) (by omega)
 have ea:=Nk (p:=a) (T:=a.length-1) (by omega) x q (Q.length+a.length+e.length+(b.length-1)-(a.length-1))
 have ee:=Nk (p:=e) (T:=e.length-1) (by omega) x q (Q.length+a.length+e.length+(b.length-1)-(e.length-1))
 rw[show a.length-1+(Q.length+a.length+e.length+(b.length-1)-(a.length-1))=Q.length+a.length+e.length+(b.length-1) by omega] at ea
 rw[show e.length-1+(Q.length+a.length+e.length+(b.length-1)-(e.length-1))=Q.length+a.length+e.length+(b.length-1) by omega] at ee
 rw[ea,ee] at e1
 change c*(q^_*Hh a x q)=hs (fun i=>Q.getD i 0) x q (Q.length+a.length+e.length)*Hh b x q+(-c')*(q^_*Hh e x q) at e1
 have pA:=Us hq0 (Q.length+a.length+e.length+(b.length-1)-(a.length-1))
 have pE:=Us hq0 (Q.length+a.length+e.length+(b.length-1)-(e.length-1))
 have pT:=Us hq0 (Q.length+a.length+e.length)
 have pB:=Us hq0 (b.length-1)
 have eP:q^(Q.length+a.length+e.length+(b.length-1)-(e.length-1))*q^(e.length-1)=q^(Q.length+a.length+e.length)*q^(b.length-1):=by
  rw[← Int.pow_add,← Int.pow_add];congr 1;omega
 generalize q^(Q.length+a.length+e.length+(b.length-1)-(a.length-1))=A at *
 generalize q^(Q.length+a.length+e.length+(b.length-1)-(e.length-1))=E at *
 generalize q^(Q.length+a.length+e.length)=T at *
 generalize q^(b.length-1)=B at *
 generalize q^(e.length-1)=M at *
 generalize hs (fun i=>Q.getD i 0) x q (Q.length+a.length+e.length)=U at *
 generalize Hh a x q=Ha at *
 generalize Hh b x q=Hb at *
 generalize Hh e x q=He at *
 have pP:=Int.mul_pos pT pB
 -- |U Hb| q <= KQ K T B
 have n1:((U*Hb).natAbs:Int)*q≤KQ*K*(T*B):=by
  have h5:(U.natAbs:Int)*((Hb.natAbs:Int)*q)≤KQ*T*(K*B):=Int.mul_le_mul h3 h1 (Int.mul_nonneg (by omega) (by omega)) (Int.mul_nonneg hKQ (by omega))
  have e5:((U*Hb).natAbs:Int)*q=(U.natAbs:Int)*((Hb.natAbs:Int)*q):=by rw[Int.natAbs_mul,Int.natCast_mul];grind
  have e6:KQ*T*(K*B)=KQ*K*(T*B):=by grind
  omega
 -- T B <= L E |He|
 have n2:T*B≤L*(E*(He.natAbs:Int)):=by
  have h6:=Int.mul_le_mul_of_nonneg_left h2 (show 0≤E by omega)
  have e7:E*(L*(He.natAbs:Int))=L*(E*(He.natAbs:Int)):=by grind
  omega
 -- so |U Hb|<E |He|
 have n3:((U*Hb).natAbs:Int)<E*(He.natAbs:Int):=by
  apply Int.not_le.1
  intro hle
  have h7:=Int.mul_le_mul_of_nonneg_right (Int.mul_le_mul_of_nonneg_left hle (show 0≤L by omega)) (show 0≤q by omega)
  have h8:=Int.mul_le_mul_of_nonneg_right n2 (show 0≤q by omega)
  have h9:=Int.mul_le_mul_of_nonneg_left n1 (show 0≤L by omega)
  have e8:L*((U*Hb).natAbs:Int)*q=L*(((U*Hb).natAbs:Int)*q):=Int.mul_assoc ..
  have e9:L*(KQ*K*(T*B))=T*B*(L*(KQ*K)):=by grind
  have h10:T*B*q≤T*B*(L*(KQ*K)):=by omega
  have h11:=Int.le_of_mul_le_mul_left h10 pP
  omega
 have n4:E*(He.natAbs:Int)≤c'*(E*(He.natAbs:Int)):=by
  have:=Int.mul_le_mul_of_nonneg_right (show (1:Int)≤c' by omega) (Int.mul_nonneg (show 0≤E by omega) (show (0:Int)≤(He.natAbs:Int) by omega))
  omega
 generalize U*Hb=W at *
 refine⟨fun hp => ?_,fun hn => ?_⟩
 ·have e10:(He.natAbs:Int)=He:=by omega
  rw[e10] at n3 n4
  apply Int.not_le.1
  intro hge
  have h12:=Int.mul_nonneg (show 0≤c by omega) (Int.mul_nonneg (show 0≤A by omega) hge)
  rw[e1,Int.neg_mul] at h12
  omega
 ·have e10:(He.natAbs:Int) = -He:=by omega
  rw[e10,Int.mul_neg] at n3
  rw[e10,Int.mul_neg,Int.mul_neg] at n4
  apply Int.not_le.1
  intro hle
  have h12:=Int.mul_nonneg (show 0≤c by omega) (Int.mul_nonneg (show 0≤A by omega) (show 0 ≤ -Ha by omega))
  rw[Int.mul_neg,Int.mul_neg,e1,Int.neg_mul] at h12
  omega
end Go.Ai

namespace Go.Ai
open Go.IntKind (i64 u64 u32)
theorem Zdu (f:List Int) (x q:Int) (m:Nat):hs (Znk fun i=>f.getD i 0) x q m=(Je (Qa f):Int)*hs (fun i=>(prim (Qa f)).getD i 0) x q m:=by
 have h:=Fy (Je (Qa f):Int) 0 (fun i=>(prim (Qa f)).getD i 0) (fun i=>(prim (Qa f)).getD i 0) x q m
 rw[Int.zero_mul,Int.add_zero] at h
 rw[← h]
 apply Bz
 intro i _
 have h1:=Do (Qa f) i
 have h2:=Xh f i
 unfold Znk
 rw[h1,h2]
 grind
theorem Zam {f:List Int} (R:Int) (hR:0≤R) (hl:2≤f.length) (hl1:(prim (Qa f)).length=f.length-1) (h:IsG [1] f (prim (Qa f))) (hc:0<Je (Qa f)) :
  ∃ Q0:Int,0<Q0∧∀ q x:Int,InR R q x→Q0≤q→¬ Stb f x q→(0<Hh (prim (Qa f)) x q→Hh f x q<Hh f (x+1) q)∧(Hh (prim (Qa f)) x q<0→Hh f (x+1) q<Hh f x q):=by
 obtain⟨L,Q1,hL,hQ1,hf⟩:=Nf R hR h
 cases hm:f.length-2 with
 | zero =>
  refine⟨Q1,hQ1,fun q x hr hq hst => ?_⟩
  have hd:=Zdu f x q 0
  have e1:∀ y,Hh f y q=hs (fun i=>f.getD i 0) y q 1:=fun y=>by unfold Hh hp;rw[show f.length-1=1 by omega]
  have e2:Hh (prim (Qa f)) x q=hs (fun i=>(prim (Qa f)).getD i 0) x q 0:=by unfold Hh hp;rw[hl1,show f.length-1-1=0 by omega]
  have e3:hs (fun i=>f.getD i 0) (x+1) q 1-hs (fun i=>f.getD i 0) x q 1=hs (Znk fun i=>f.getD i 0) x q 0:=by
   show (q*f.getD 0 0+f.getD (0+1) 0*(x+1)^(0+1))-(q*f.getD 0 0+f.getD (0+1) 0*x^(0+1))=((0+1:Nat):Int)*f.getD (0+1) 0
   have p1:∀ y:Int,y^(0+1)=y:=fun y=>by rw[Int.pow_succ,Int.pow_zero,Int.one_mul]
   rw[p1,p1]
   have h1:((0+1:Nat):Int)=1:=rfl
   rw[h1]
   grind
  rw[e1,e1,e2]
  rw[hd] at e3
  generalize hs (fun i=>(prim (Qa f)).getD i 0) x q 0=D at *
  refine⟨fun hp => ?_,fun hn => ?_⟩
  ·have:=Int.mul_pos (show (0:Int)<(Je (Qa f):Int) by omega) hp
   omega
  ·have:=Int.mul_pos (show (0:Int)<(Je (Qa f):Int) by omega) (show 0 < -D by omega)
   rw[Int.mul_neg] at this
   omega
 | succ T =>
  obtain⟨K,hK,hder⟩:=Zng (fun i=>f.getD i 0) R hR T
  have hLK:=Int.mul_nonneg (show 0≤L by omega) hK
  refine⟨Q1+L*K+1,by omega,fun q x hr hq hst => ?_⟩
  have hq0:=hr.1
  have h2:=hf q x hr (by omega) hst
  have h3:=hder q x hq0 hr.2.1 hr.2.2
  have hd:=Zdu f x q (T+1)
  have e1:∀ y,Hh f y q=hs (fun i=>f.getD i 0) y q (T+2):=fun y=>by unfold Hh hp;rw[show f.length-1=T+2 by omega]
  have e2:Hh (prim (Qa f)) x q=hs (fun i=>(prim (Qa f)).getD i 0) x q (T+1):=by unfold Hh hp;rw[hl1,show f.length-1-1=T+1 by omega]
  rw[hl1,show f.length-1-1=T+1 by omega,Int.pow_succ,e2] at h2
  rw[e1,e1,e2]
  rw[hd] at h3
  have pT:=Us hq0 T
  generalize q^T=M at *
  generalize hs (fun i=>f.getD i 0) (x+1) q (T+2)=b at *
  generalize hs (fun i=>f.getD i 0) x q (T+2)=a at *
  generalize hs (fun i=>(prim (Qa f)).getD i 0) x q (T+1)=D at *
  -- K M < |D|
  have n1:K*M<(D.natAbs:Int):=by
   apply Int.not_le.1
   intro hle
   have h5:=Int.mul_le_mul_of_nonneg_left hle (show 0≤L by omega)
   have e5:L*(K*M)=M*(L*K):=by grind
   have h6:M*q≤M*(L*K):=by omega
   have:=Int.le_of_mul_le_mul_left h6 pT
   omega
  have n2:=Int.mul_le_mul_of_nonneg_right (show (1:Int)≤(Je (Qa f):Int) by omega) (show (0:Int)≤(D.natAbs:Int) by omega)
  refine⟨fun hp => ?_,fun hn => ?_⟩
  ·have e6:(D.natAbs:Int)=D:=by omega
   rw[e6] at n1 n2
   omega
  ·have e6:(D.natAbs:Int) = -D:=by omega
   rw[e6,Int.one_mul,Int.mul_neg] at n2
   omega
end Go.Ai

namespace Go.Ai
open Go.IntKind (i64 u64 u32)
def sgz (n:Int):Int:=if n<0 then -1 else if 0<n then 1 else 0
theorem Zm7 (n:Int) : -1≤sgz n∧sgz n≤1:=by unfold sgz; (repeat' split) <;> omega
def chn:Nat→List Int→List Int→List (List Int)
 | 0,_,_=>[]
 | f+1,a,b=>if b=[] then [] else b::chn f b (X4 (Q5 a b))
def sgs (l:List (List Int)) (x q:Int):List Int:=l.map fun p=>sgz (Hh p x q)
theorem Be {p:List Int} {x q:Int} (h:Stb p x q):sgz (Hh p (x+1) q)=sgz (Hh p x q)∧(sgz (Hh p x q)=1∨sgz (Hh p x q) = -1):=by
 unfold Stb at h
 unfold sgz
 rcases h with ⟨h1,h2⟩ | ⟨h1,h2⟩
 ·rw[if_neg (by omega),if_pos h2,if_neg (by omega),if_pos h1];exact⟨rfl, .inl rfl⟩
 ·rw[if_pos h2,if_pos h1];exact⟨rfl, .inr rfl⟩
theorem hh_nil (x q:Int):Hh [] x q=0:=Ta x q _
theorem Fk {a b:List Int} (ha:Ub a):Ub (Q5 a b):=by
 unfold Q5
 generalize a.length=f
 induction f generalizing a with
 | zero=>exact ha
 | succ f ih =>
  simp only[U5]
  split
  ·exact ih (Eg a b)
  ·exact ha
theorem Zh4 {d:List Int} (hd0:d ≠ []):∀ (f:Nat) (r:List Int),r.length≤f→(U5 f r d).length<d.length:=by
 have hdl:=List.length_pos_iff.2 hd0
 intro f
 induction f with
 | zero=>intro r h;simp only[U5];omega
 | succ f ih =>
  intro r h
  simp only[U5]
  split
  ·rename_i hl
   have:=W8 hd0 hl
   exact ih _ (by omega)
  ·omega
theorem Nc {a b:List Int} (hb0:b ≠ []):(Q5 a b).length<b.length:=Zh4 hb0 _ _ (Nat.le_refl _)
theorem Zem (R:Int) (hR:0≤R):∀ (n f:Nat),f≤n→∀ (a b:List Int),b.length≤f→Ub a→Ub b→IsG [1] a b →
  ∃ Q0:Int,0<Q0∧∀ q x:Int,InR R q x→Q0≤q→Stb a x q→Mid (sgz (Hh a x q)) (sgs (chn f a b) x q) (sgs (chn f a b) (x+1) q):=by
 intro n
 induction n with
 | zero =>
  intro f hf a b hb _ _ _
  have:f=0:=by omega
  subst this
  exact⟨1,by decide,fun q x _ _ _=>Mid.nil _⟩
 | succ n ih =>
  intro f hf a b hb ha lb h
  by_cases hb0:b=[]
  ·have e:chn f a b=[]:=by
    cases f with
    | zero=>rfl
    | succ f=>simp only[chn];rw[if_pos hb0]
   rw[e]
   exact⟨1,by decide,fun q x _ _ _=>Mid.nil _⟩
  ·have hbl:=List.length_pos_iff.2 hb0
   obtain⟨f,rfl⟩:∃ k,f=k+1:=⟨f-1,by omega⟩
   have hpl:=Nc (a:=a) hb0
   have he:=B9 lb hb0 h
   have le:Ub (X4 (Q5 a b)):=Ki (Fk ha)
   obtain⟨Q1,hQ1,h1⟩:=ih f (by omega) b (X4 (Q5 a b)) (by rw[Xc];omega) lb le he
   obtain⟨L,Q2,hL,hQ2,h2⟩:=Sw R hR he
   obtain⟨c,c',Q,hc,hc',hid⟩:=La (a:=a) lb hb0
   obtain⟨Q3,hQ3,h3⟩:=Zh8 R hR hc hc' hid he
   have e1:chn (f+1) a b=b::chn f b (X4 (Q5 a b)):=by simp only[chn];rw[if_neg hb0]
   rw[e1]
   by_cases he0:X4 (Q5 a b)=[]
   ·refine⟨Q1+Q2,by omega,fun q x hr hq hst => ?_⟩
    have hsb:Stb b x q:=by
     apply Classical.byContradiction
     intro hn
     have:=(h2 q x hr (by omega) hn).2
     rw[he0,hh_nil] at this
     simp at this
    obtain⟨g1,g2⟩:=Be hsb
    have hm:=h1 q x hr (by omega) hsb
    show Mid _ (sgz (Hh b x q)::_) (sgz (Hh b (x+1) q)::_)
    rw[g1]
    exact Mid.st _ _ g2 hm
   ·have hel:=List.length_pos_iff.2 he0
    rw[Xc] at hel
    obtain⟨f,rfl⟩:∃ k,f=k+1:=⟨f-1,by omega⟩
    have he2:=B9 le he0 he
    have hpl2:=Nc (a:=b) he0
    rw[Xc] at hpl2
    obtain⟨Q4,hQ4,h4⟩:=ih f (by omega) (X4 (Q5 a b)) (X4 (Q5 b (X4 (Q5 a b)))) (by rw[Xc];omega) le (Ki (Fk lb)) he2
    refine⟨Q1+Q2+Q3+Q4,by omega,fun q x hr hq hst => ?_⟩
    by_cases hsb:Stb b x q
    ·obtain⟨g1,g2⟩:=Be hsb
     have hm:=h1 q x hr (by omega) hsb
     show Mid _ (sgz (Hh b x q)::_) (sgz (Hh b (x+1) q)::_)
     rw[g1]
     exact Mid.st _ _ g2 hm
    ·obtain⟨hse,_⟩:=h2 q x hr (by omega) hsb
     obtain⟨r1,r2⟩:=h3 q x hr (by omega) hsb
     obtain⟨g1,g2⟩:=Be hse
     have hm:=h4 q x hr (by omega) hse
     have hsg:sgz (Hh (X4 (Q5 a b)) x q) = -sgz (Hh a x q):=by
      unfold Stb at hse
      unfold sgz
      rcases hse with ⟨k1,_⟩ | ⟨k1,_⟩
      ·have:=r1 k1
       rw[if_neg (by omega),if_pos k1,if_pos this];rfl
      ·have:=r2 k1
       rw[if_pos k1,if_neg (by omega),if_pos this]
     have e2:chn (f+1) b (X4 (Q5 a b))=X4 (Q5 a b)::chn f (X4 (Q5 a b)) (X4 (Q5 b (X4 (Q5 a b)))):=by simp only[chn];rw[if_neg he0]
     rw[e2]
     show Mid _ (sgz (Hh b x q)::sgz (Hh (X4 (Q5 a b)) x q)::_) (sgz (Hh b (x+1) q)::sgz (Hh (X4 (Q5 a b)) (x+1) q)::_)
     rw[g1]
     rw[hsg] at hm ⊢
     exact Mid.un _ _ _ (Zm7 _) (Zm7 _) hm
end Go.Ai

namespace Go.Ai
open Go.IntKind (i64 u64 u32)
theorem sg_one {a:Int} (h:a=1∨a = -1) (n:Int) (h2:sgz n=a):(a=1∧0<n)∨(a = -1∧n<0):=by
 unfold sgz at h2
 split at h2
 ·right;omega
 ·split at h2
  ·left;omega
  ·omega
theorem Zhp {f:List Int} (R:Int) (hR:0≤R) (lf:Ub f) (hl:2≤f.length) (hl1:(prim (Qa f)).length=f.length-1) (h:IsG [1] f (prim (Qa f))) (hc:0<Je (Qa f)) (n:Nat) (hn:f.length-1≤n) :
  ∃ Q0:Int,0<Q0∧∀ q x:Int,InR R q x→Q0≤q→∃ d:Int,Top (sgs (f::chn n f (prim (Qa f))) x q) (sgs (f::chn n f (prim (Qa f))) (x+1) q) d∧(d=0∨d=1)∧(d=1→¬ Stb f x q∧Hh f x q ≠ 0)∧(d=0→Stb f x q∨Hh f x q=0):=by
 have l1:Ub (prim (Qa f)):=Jl _
 have h10:prim (Qa f) ≠ []:=by intro h0;rw[h0] at hl1;simp at hl1;omega
 obtain⟨Q1,hQ1,m1⟩:=Zem R hR n n (Nat.le_refl _) f (prim (Qa f)) (by omega) lf l1 h
 obtain⟨L,Q2,hL,hQ2,p2⟩:=Sw R hR h
 obtain⟨Q3,hQ3,p3⟩:=Zam R hR hl hl1 h hc
 obtain⟨n,rfl⟩:∃ k,n=k+1:=⟨n-1,by omega⟩
 have e1:chn (n+1) f (prim (Qa f))=prim (Qa f)::chn n (prim (Qa f)) (X4 (Q5 f (prim (Qa f)))):=by simp only[chn];rw[if_neg h10]
 have he:=B9 l1 h10 h
 have hpl:=Nc (a:=f) h10
 obtain⟨Q4,hQ4,m4⟩:=Zem R hR n n (Nat.le_refl _) (prim (Qa f)) (X4 (Q5 f (prim (Qa f)))) (by rw[Xc];omega) l1 (Ki (Fk lf)) he
 refine⟨Q1+Q2+Q3+Q4,by omega,fun q x hr hq => ?_⟩
 by_cases hst:Stb f x q
 ·obtain⟨g1,g2⟩:=Be hst
  have hm:=m1 q x hr (by omega) hst
  refine⟨0,?_, .inl rfl,fun h=>absurd h (by decide),fun _ => .inl hst⟩
  show Top (sgz (Hh f x q)::_) (sgz (Hh f (x+1) q)::_) 0
  rw[g1]
  exact Top.st _ g2 hm
 ·obtain⟨hs1,_⟩:=p2 q x hr (by omega) hst
  obtain⟨g1,g2⟩:=Be hs1
  obtain⟨r1,r2⟩:=p3 q x hr (by omega) hst
  have hm:=m4 q x hr (by omega) hs1
  rw[e1]
  refine⟨if sgz (Hh f x q)=0 then 0 else 1,?_,by split;exact .inl rfl;exact .inr rfl,?_,?_⟩
  ·show Top (sgz (Hh f x q)::sgz (Hh (prim (Qa f)) x q)::_) (sgz (Hh f (x+1) q)::sgz (Hh (prim (Qa f)) (x+1) q)::_) _
   rw[g1]
   unfold Stb at hst
   rcases sg_one g2 _ rfl with ⟨k1,k2⟩ | ⟨k1,k2⟩
   ·have hd:=r1 k2
    refine Top.un _ _ _ g2 ?_ ?_ hm
    ·rw[k1];unfold sgz; (repeat' split) <;> omega
    ·rw[k1];unfold sgz; (repeat' split) <;> omega
   ·have hd:=r2 k2
    refine Top.un _ _ _ g2 ?_ ?_ hm
    ·rw[k1];unfold sgz; (repeat' split) <;> omega
    ·rw[k1];unfold sgz; (repeat' split) <;> omega
  ·intro hd
   refine⟨hst,fun h0 => ?_⟩
   rw[h0] at hd
   exact absurd hd (by decide)
  ·intro hd
   right
   apply Classical.byContradiction
   intro h0
   rw[if_neg (by unfold sgz; (repeat' split) <;> omega)] at hd
   exact absurd hd (by decide)
end Go.Ai

namespace Go.Ai
open Go.IntKind (i64 u64 u32)
theorem Zi0 (p:List Int) (x q c:Int) (hc:0<c):sgz (Hh p (c*x) (c*q))=sgz (Hh p x q):=by
 have e:∀ T,hs (fun i=>p.getD i 0) (c*x) (c*q) T=c^T*hs (fun i=>p.getD i 0) x q T:=by
  intro T
  induction T with
  | zero=>simp[hs]
  | succ T ih =>
   simp only[hs]
   rw[ih,Int.mul_pow,Int.pow_succ c T]
   grind
 have hp:0<c^(p.length-1):=Int.pow_pos hc
 unfold Hh Go.Ai.hp
 rw[e]
 generalize hs (fun i=>p.getD i 0) x q (p.length-1)=H
 generalize c^(p.length-1)=C at *
 unfold sgz
 by_cases h1:H<0
 ·have:=Int.mul_neg_of_pos_of_neg hp h1
  rw[if_pos this,if_pos h1]
 ·by_cases h2:0<H
  ·have:=Int.mul_pos hp h2
   rw[if_neg (by omega),if_neg h1,if_pos this,if_pos h2]
  ·have:H=0:=by omega
   rw[this];simp
theorem Mb (l:List (List Int)) (x q c:Int) (hc:0<c):sgs l (c*x) (c*q)=sgs l x q:=by
 unfold sgs
 exact List.map_congr_left fun p _=>Zi0 p x q c hc
end Go.Ai

namespace Go.Ai
open Go.IntKind (i64 u64 u32)
theorem Pk {f:List Int} (lf:Ub f) (hl:2≤f.length):(Qa f).length=f.length-1:=by
 have ht:=Ut lf (by intro h;rw[h] at hl;simp at hl)
 unfold Qa
 have hL:Ub ((List.range (f.length-1)).map fun j=>f.getD (j+1) 0*((j+1:Nat):Int)):=by
  refine Nj (.inr ?_)
  rw[List.length_map,List.length_range,Wa,if_pos (by omega),show f.length-1-1+1=f.length-1 by omega]
  exact Int.mul_ne_zero ht (by omega)
 rw[hL,List.length_map,List.length_range]
theorem Zal {p:List Int} (hp:Ze p ≠ []) (hl:2≤(Z9 p).length):Ub (Z9 p)∧(prim (Qa (Z9 p))).length=(Z9 p).length-1∧IsG [1] (Z9 p) (prim (Qa (Z9 p)))∧0<Je (Qa (Z9 p)):=by
 obtain⟨lf,cf,tf,f0,_,_,_,h1⟩:=Wi hp
 generalize Z9 p=f at *
 have hd:=Pk lf hl
 have ld:Ub (Qa f):=D3 _
 have hd0:Ze (Qa f) ≠ []:=by rw[ld];intro h;rw[h] at hd;simp at hd;omega
 have hG:=K0 f (Qa f)
 obtain⟨c,hc⟩:=Pq h1
 have tG:=Sa (t:=Qa f) (X9 lf f0)
 rw[hc] at hG tG
 have hc0:0<c:=tG
 refine⟨lf,by rw[Qx,ld,hd],?_,K7 hd0⟩
 have h2:IsG [1] f (Qa f):=hG.gscaled (m:=c) (n:=1) (by omega) (by decide) (fun x=>by simp[Zc])
 obtain⟨m,hm,hm2⟩:=V2 (Qa f)
 exact h2.scaled (m:=1) (n:=1) (k:=m) (l:=1) (by decide) (by decide) hm (by decide) (fun x=>rfl) (fun x=>by rw[← hm2 x];omega)
end Go.Ai

namespace Go.Ai
open Go.IntKind (i64 u64 u32)
def P9 (p:List Int):List (List Int):=if Z9 p=[] then [] else Z9 p::chn (Z9 p).length (Z9 p) (prim (Qa (Z9 p)))
end Go.Ai

namespace Go.Ai
open Go.IntKind (i64 u64 u32)
def lin (s:Int):List Int:=[-s,2]
theorem A9 (s x:Int):Zc (lin s) x=2*x-s:=by unfold lin;simp only [Zc];grind
def Xz:List Int→List Int
 | []=>[1]
 | s::ss=>Jk (lin s) (Xz ss)
theorem Vb (s:Int) (ss:List Int) (x:Int):Zc (Xz (s::ss)) x=Zc (lin s) x*Zc (Xz ss) x:=Zq _ _ x
theorem Wk (s:Int):Ub (lin s):=Nj (Or.inr (by show (2:Int) ≠ 0;decide))
theorem Kx:∀ S:List Int,Ub (Xz S)∧(Xz S).length=S.length+1
 | []=>⟨rfl,rfl⟩
 | s::ss=>by
  obtain⟨h1,h2⟩:=Kx ss
  have e:Ub (Xz (s::ss)):=V3 _ _
  have n1:Ze (lin s) ≠ []:=by rw[Wk s];exact List.cons_ne_nil _ _
  have n2:Ze (Xz ss) ≠ []:=by rw[h1];intro h;rw[h] at h2;simp at h2
  have h3:=Ka n1 n2
  refine⟨e,?_⟩
  rw[Wk s,h1,h2] at h3
  have h4:(Ze (Xz (s::ss))).length=(lin s).length+(ss.length+1)-1:=h3
  rw[e] at h4
  rw[h4]
  show 2+(ss.length+1)-1=ss.length+1+1
  omega
theorem Wh {s:Int}:∀ {S:List Int},s∈S→∀ x,Zc (Xz S) x=Zc (lin s) x*Zc (Xz (S.erase s)) x
 | [],h,_=>by cases h
 | t::S,h,x=>by
  by_cases e:t=s
  ·subst e
   rw[List.erase_cons_head];exact Vb _ _ x
  ·have h':s∈S:=by
    rcases List.mem_cons.1 h with g | g
    ·exact absurd g.symm e
    ·exact g
   rw[List.erase_cons_tail (by simpa using e),Vb,Vb,Wh h' x]
   grind
theorem Zil {a b c r:List Int} (h1:IsG [1] a b) (h2:IsG [1] a c) (hr:∀ x,Zc r x=Zc b x*Zc c x):IsG [1] a r:=by
 obtain⟨_,_,c1,u,v,hc1,e1⟩:=h1
 obtain⟨_,_,c2,u',v',hc2,e2⟩:=h2
 refine⟨F1 _,F1 _,c1*c2,Hr (Jk u (Hr (Jk u' a) (Jk v' c))) (Jk (Jk v b) u'),Jk v v',Int.mul_ne_zero hc1 hc2,fun x => ?_⟩
 have a1:=e1 x
 have a2:=e2 x
 simp only[Z6,Zq,hr x]
 have o:Zc [1] x=1:=by simp[Zc]
 rw[o] at a1 a2 ⊢
 generalize Zc u x=U at *
 generalize Zc v x=V at *
 generalize Zc u' x=U' at *
 generalize Zc v' x=V' at *
 generalize Zc a x=A at *
 generalize Zc b x=B at *
 generalize Zc c x=C at *
 have a3:c1*c2=(U*A+V*B)*(U'*A+V'*C):=by rw[← a1,← a2];grind
 rw[Int.mul_one,a3]
 grind
theorem Zog {s t:Int} (h:s ≠ t):IsG [1] (lin s) (lin t) :=
 ⟨F1 _,F1 _,s-t,[-1],[1],by omega,fun x=>by rw[A9,A9];simp only[Zc];grind⟩
theorem Zik (a:List Int):IsG [1] a [1]:=⟨F1 _,F1 _,1,[],[1],by decide,fun x=>by simp [Zc]⟩
theorem Zc4 {a b r u:List Int} {k:Int} (hk:k ≠ 0) (h:IsG [1] a b) (hr:∀ x,Zc r x=Zc a x*Zc u x+k*Zc b x):IsG [1] a r:=by
 obtain⟨_,_,c,U,V,hc,e⟩:=h
 refine⟨F1 _,F1 _,k*c,Zha (Zu k U) (Jk V u),V,Int.mul_ne_zero hk hc,fun x => ?_⟩
 have a1:=e x
 simp only[X8,Zh,Zq,hr x]
 generalize Zc U x=U at *
 generalize Zc V x=V at *
 generalize Zc u x=u at *
 generalize Zc a x=A at *
 generalize Zc b x=B at *
 rw[Int.mul_assoc,a1]
 grind
theorem Nh {a:List Int}:∀ {S:List Int},(∀ t∈S,IsG [1] a (lin t))→IsG [1] a (Xz S)
 | [],_=>Zik a
 | _::_,h=>Zil (h _ List.mem_cons_self) (Nh fun t ht=>h t (List.mem_cons_of_mem _ ht)) (Vb _ _)
structure Fac (S p:List Int):Prop where
 nd:S.Nodup
 ne:Ze p ≠ []
 ex:∃ h w:List Int,(∀ x,Zc p x=Zc h x*Zc (Xz S) x)∧(∀ x,Zc (Qa p) x=Zc h x*Zc w x) ∧
  ∀ s∈S,∃ (u:List Int) (m:Int),0<m∧∀ x,Zc w x=Zc (lin s) x*Zc u x+2*m*Zc (Xz (S.erase s)) x
def ins (S:List Int) (n:Int):List Int:=if n∈S then S else n::S
theorem Zd6:Fac [] [1]:=⟨List.nodup_nil,by decide,[1],[],fun x=>by simp [Zc,Xz],fun x=>by simp [Zc,Qa,Ze,Zv],fun s h=>by cases h⟩
theorem Zig (s x:Int):Zc (Qa (lin s)) x=2:=by
 unfold lin
 rw[Gm,Gm,St]
 simp only[Zc]
 grind
theorem Zi6 {S p r:List Int} {n:Int} (f:Fac S p) (hr:∀ x,Zc r x=Zc (lin n) x*Zc p x):Fac (ins S n) r:=by
 obtain⟨nd,ne,h,w,e1,e2,e3⟩:=f
 have hn:Ze r ≠ []:=by
  have h1:=Ka (p:=lin n) (q:=p) (by rw[Wk];exact List.cons_ne_nil _ _) ne
  have h2:Ze r=Ze (Jk (lin n) p):=J5 fun x=>by rw[hr x,Zq]
  rw[h2]
  intro h3
  rw[h3,Wk] at h1
  have h4:=List.length_pos_iff.2 ne
  have h5:(lin n).length=2:=rfl
  rw[h5] at h1
  simp at h1
  omega
 have hd:∀ x,Zc (Qa r) x=2*(Zc h x*Zc (Xz S) x)+Zc (lin n) x*(Zc h x*Zc w x):=fun x=>by
  rw[Gl hr x,Zig,e1 x,e2 x]
 unfold ins
 by_cases c:n∈S
 ·rw[if_pos c]
  refine⟨nd,hn,Jk (lin n) h,Hr (Zu 2 (Xz (S.erase n))) w,fun x=>by rw[hr x,e1 x,Zq];grind,fun x => ?_,fun s hs => ?_⟩
  ·rw[hd x,Wh c x,Zq,Z6,Zh]
   grind
  ·obtain⟨u,m,hm,e4⟩:=e3 s hs
   by_cases g:s=n
   ·subst g
    exact⟨u,m+1,by omega,fun x=>by rw[Z6,Zh,e4 x];grind⟩
   ·have h6:s∈S.erase n:=(List.mem_erase_of_ne g).2 hs
    refine⟨Hr u (Zu 2 (Xz ((S.erase n).erase s))),m,hm,fun x => ?_⟩
    rw[Z6,Zh,e4 x,Wh h6 x,Z6,Zh]
    grind
 ·rw[if_neg c]
  refine⟨List.nodup_cons.2 ⟨c,nd⟩,hn,h,Hr (Zu 2 (Xz S)) (Jk (lin n) w),fun x=>by rw[hr x,e1 x,Vb];grind,fun x => ?_,fun s hs => ?_⟩
  ·rw[hd x,Z6,Zh,Zq]
   grind
  ·by_cases g:s=n
   ·subst g
    exact⟨w,1,by decide,fun x=>by rw[List.erase_cons_head,Z6,Zh,Zq];grind⟩
   ·have h6:s∈S:=by
     rcases List.mem_cons.1 hs with k | k
     ·exact absurd k g
     ·exact k
    obtain⟨u,m,hm,e4⟩:=e3 s h6
    refine⟨Hr (Zu 2 (Xz (S.erase s))) (Jk (lin n) u),m,hm,fun x => ?_⟩
    rw[List.erase_cons_tail (by simpa using fun k:n=s=>g k.symm),Z6,Zh,Zq,e4 x,Vb,Wh h6 x,Z6,Zh,Zq]
    grind
theorem Zoq {S p:List Int} (f:Fac S p):∃ h:List Int,IsG h p (Qa p)∧∀ x,Zc p x=Zc h x*Zc (Xz S) x:=by
 obtain⟨nd,ne,h,w,e1,e2,e3⟩:=f
 refine⟨h,?_,e1⟩
 have h1:IsG [1] w (Xz S):=Nh fun s hs=>by
  obtain⟨u,m,hm,e4⟩:=e3 s hs
  have h2:IsG [1] (lin s) (Xz (S.erase s)):=Nh fun t ht=>Zog (by
   have:=(List.Nodup.mem_erase_iff nd).1 ht
   exact fun k=>this.1 k.symm)
  exact (Zc4 (k:=2*m) (by omega) h2 e4).comm
 exact h1.comm.mul h (fun x=>by simp[Zc]) e1 e2
theorem Xi {c:Int} (hc:c ≠ 0) (p:List Int):(Ze (Zu c p)).length=(Ze p).length:=by
 rw[Vy hc,Z0]
theorem Mr {S p:List Int} (f:Fac S p):∃ c d:Int,c ≠ 0∧d ≠ 0∧∀ x,c*Zc (Z9 p) x=d*Zc (Xz S) x:=by
 have hp:=f.ne
 obtain⟨h,hG,hpe⟩:=Zoq f
 obtain⟨la,h0,ca,ta,hl,m,hm,n,hn,hpa⟩:=Pg hp
 obtain⟨lf,cf,tf,f0,fl,c,d,hc,hd,hcd⟩:=A7 la h0 ca ta (Z9 p) rfl
 obtain⟨_,_,_,_,_,_,hG2,_⟩:=Wi hp
 generalize hGe:Wj (Jf (prim p)) (Qa (Jf (prim p)))=G at *
 have lG:Ub G:=by rw[← hGe];exact Kj _ _
 generalize Jf (prim p)=a at *
 generalize Z9 p=F at *
 have hh0:Ze h ≠ []:=(hG.1.length hp).2
 have hG0:Ze G ≠ []:=(hG2.1.length hp).2
 have hlen:=hG.length hG2 hh0
 obtain⟨c3,k,hc3,hk⟩:=hG2.dv hG.1 hG.2.1
 have hk0:Ze k ≠ []:=by
  intro h1
  apply hG0
  have:Ze (Zu c3 G)=Ze []:=J5 fun x=>by rw[Zh,hk x,Qy h1,Int.mul_zero];rfl
  have h2:=Xi hc3 G
  rw[this] at h2
  exact List.eq_nil_of_length_eq_zero h2.symm
 have hkl:(Ze k).length=1:=by
  have h1:=Ka hh0 hk0
  have h2:Ze (Zu c3 G)=Ze (Jk h k):=J5 fun x=>by rw[Zh,hk x,Zq]
  rw[← h2,Xi hc3] at h1
  have:=List.length_pos_iff.2 hh0
  omega
 obtain⟨κ,hκ⟩:=Pq hkl
 have hκe:∀ x,Zc k x=κ:=fun x=>by rw[← Vc,hκ];simp[Zc]
 have hκ0:κ ≠ 0:=by
  intro h1
  have h2:=Ut (Kh k) hk0
  rw[hκ,h1] at h2
  exact h2 rfl
 refine⟨m*d*κ,c3*(c*n),Int.mul_ne_zero (Int.mul_ne_zero hm hd) hκ0,Int.mul_ne_zero hc3 (Int.mul_ne_zero hc hn),fun x => ?_⟩
 have h5:=Ac hh0 (Zu (m*d*κ) F) (Zu (c3*(c*n)) (Xz S)) (fun x=>by
  rw[Zh,Zh]
  have b1:=hpe x
  have b2:=hpa x
  have b3:=hcd x
  have b4:=hk x
  rw[hκe x] at b4
  generalize Zc h x=H at *
  generalize Zc F x=F at *
  generalize Zc (Xz S) x=P at *
  generalize Zc p x=p at *
  generalize Zc a x=a at *
  generalize Zc G x=G at *
  have k1:H*(m*d*κ*F)=m*(d*((H*κ)*F)):=by grind
  have k2:H*(c3*(c*n)*P)=c3*(c*(n*(H*P))):=by grind
  rw[k1,k2,← b4,← b1,b2]
  have k3:c3*(c*(m*a))=m*(c3*(c*a)):=by grind
  rw[k3,b3]
  grind) x
 rw[Zh,Zh] at h5
 exact h5
end Go.Ai

namespace Go.Ai
open Go.IntKind (i64 u64 u32)
def pv:List Int→Int→Int→Int
 | [],_,_=>1
 | s::ss,x,q=>(2*x-s*q)*pv ss x q
theorem Dx:∀ (S:List Int) (x q:Int),Hh (Xz S) x q=pv S x q
 | [],x,q=>rfl
 | s::ss,x,q=>by
  obtain⟨_,l1⟩:=Kx (s::ss)
  obtain⟨_,l2⟩:=Kx ss
  have h1:=Dx ss x q
  unfold Hh at h1 ⊢
  rw[l2,Nat.add_sub_cancel] at h1
  rw[l1,Nat.add_sub_cancel]
  have h2:=Tb (r:=Xz ss) (tr:=ss.length) (by omega) x q (lin s) 1 (by show 2≤1+1;decide)
  rw[h1] at h2
  have e:hp (lin s) x q 1=2*x-s*q:=by
   show q*(-s)+2*x^(0+1)=_
   rw[Int.pow_succ,Int.pow_zero]
   grind
  rw[e] at h2
  rw[show (s::ss).length=1+ss.length by simp;omega]
  exact h2
theorem Gh {a b:Int}:((0<a∧0<b)∨(a<0∧b<0))↔0<a*b:=by
 constructor
 ·rintro (⟨h1,h2⟩ | ⟨h1,h2⟩)
  ·exact Int.mul_pos h1 h2
  ·have:=Int.mul_pos (show 0 < -a by omega) (show 0 < -b by omega)
   rwa [Int.neg_mul_neg] at this
 ·intro h
  rcases Int.lt_trichotomy a 0 with g | g | g
  ·rcases Int.lt_trichotomy b 0 with k | k | k
   ·exact .inr ⟨g,k⟩
   ·subst k;simp at h
   ·have:=Int.mul_pos (show 0 < -a by omega) k
    rw[Int.neg_mul] at this;omega
  ·subst g;simp at h
  ·rcases Int.lt_trichotomy b 0 with k | k | k
   ·have:=Int.mul_pos g (show 0 < -b by omega)
    rw[Int.mul_neg] at this;omega
   ·subst k;simp at h
   ·exact .inl ⟨g,k⟩
theorem Zcb (p:List Int) (x q:Int):Stb p x q↔0<Hh p x q*Hh p (x+1) q:=Gh
theorem Zol {f g:List Int} {c d:Int} (h:∀ x,c*Zc f x=d*Zc g x) (hl:f.length=g.length) (x q:Int):c*Hh f x q=d*Hh g x q:=by
 have hi:=Xu (p:=Zu c f) (q:=Zu d g) (fun x=>by rw[Zh,Zh];exact h x)
 unfold Hh hp
 rw[hl]
 have h1:=Fy c 0 (fun i=>f.getD i 0) (fun i=>f.getD i 0) x q (g.length-1)
 have h2:=Fy d 0 (fun i=>g.getD i 0) (fun i=>g.getD i 0) x q (g.length-1)
 have h3:hs (fun i=>c*f.getD i 0+0*f.getD i 0) x q (g.length-1)=hs (fun i=>d*g.getD i 0+0*g.getD i 0) x q (g.length-1):=Bz fun i _=>by
  have:=hi i
  rw[Z2,Z2] at this
  omega
 omega
theorem Mi {c d a b:Int} (hc:c ≠ 0) (hd:d ≠ 0) (h:c*a=d*b):a=0↔b=0:=by
 constructor
 ·intro e;rw[e,Int.mul_zero] at h
  rcases Int.mul_eq_zero.1 h.symm with g | g
  ·exact absurd g hd
  ·exact g
 ·intro e;rw[e,Int.mul_zero] at h
  rcases Int.mul_eq_zero.1 h with g | g
  ·exact absurd g hc
  ·exact g
theorem Zm3 {c:Int} (hc:c ≠ 0):0<c*c:=Gh.1 (by omega)
theorem Zid {c d a b a' b':Int} (hc:c ≠ 0) (hd:d ≠ 0) (h:c*a=d*b) (h':c*a'=d*b'):0<a*a'↔0<b*b':=by
 have e:(c*c)*(a*a')=(d*d)*(b*b'):=by
  have:(c*c)*(a*a')=(c*a)*(c*a'):=by grind
  rw[this,h,h'];grind
 have p1:=Zm3 hc
 have p2:=Zm3 hd
 constructor
 ·intro k
  have:=Int.mul_pos p1 k
  rw[e] at this
  have:=Gh.2 this
  omega
 ·intro k
  have:=Int.mul_pos p2 k
  rw[← e] at this
  have:=Gh.2 this
  omega
theorem Zcp {m:Int}:∀ {S:List Int} {x:Int},pv S x (2*m)=0↔∃ s∈S,m*s=x
 | [],x=>by simp[pv]
 | s::ss,x=>by
  have ih:=Zcp (m:=m) (S:=ss) (x:=x)
  simp only[pv]
  rw[Int.mul_eq_zero,ih]
  have e:2*x-s*(2*m)=2*(x-m*s):=by grind
  rw[e]
  constructor
  ·rintro (h | ⟨t,h1,h2⟩)
   ·exact⟨s,List.mem_cons_self,by omega⟩
   ·exact⟨t,List.mem_cons_of_mem _ h1,h2⟩
  ·rintro⟨t,h1,h2⟩
   rcases List.mem_cons.1 h1 with rfl | h1
   ·left;omega
   ·exact .inr ⟨t,h1,h2⟩
theorem Zna {m:Int}:∀ {S:List Int} {x:Int},(∀ s∈S,m*s ≠ x∧m*s ≠ x+1)→0<pv S x (2*m)*pv S (x+1) (2*m)
 | [],x,_=>by simp[pv]
 | s::ss,x,h=>by
  have ih:=Zna (m:=m) (S:=ss) (x:=x) fun t ht=>h t (List.mem_cons_of_mem _ ht)
  obtain⟨h1,h2⟩:=h s List.mem_cons_self
  simp only[pv]
  have e1:2*x-s*(2*m)=2*(x-m*s):=by grind
  have e2:2*(x+1)-s*(2*m)=2*(x+1-m*s):=by grind
  rw[e1,e2]
  have h3:0<(2*(x-m*s))*(2*(x+1-m*s)):=Gh.1 (by omega)
  have h4:=Int.mul_pos h3 ih
  generalize pv ss x (2*m)=A at *
  generalize pv ss (x+1) (2*m)=B at *
  have e3:2*(x-m*s)*A*(2*(x+1-m*s)*B)=2*(x-m*s)*(2*(x+1-m*s))*(A*B):=by grind
  rw[e3];exact h4
def Zow (m u v:Int) (S:List Int):Nat:=S.countP fun s=>decide (u<m*s∧m*s≤v)
theorem M8 (m u v:Int) (huv:u≤v):∀ S:List Int,Zow m u (v+1) S=Zow m u v S+S.countP fun s=>decide (m*s=v+1)
 | []=>rfl
 | s::ss=>by
  have ih:=M8 m u v huv ss
  unfold Zow at ih ⊢
  rw[List.countP_cons,List.countP_cons,List.countP_cons,ih]
  by_cases h1:m*s=v+1
  ·have a1:decide (u<m*s∧m*s≤v+1)=true:=by rw[decide_eq_true_eq];omega
   have a2:decide (u<m*s∧m*s≤v)=false:=by rw[decide_eq_false_iff_not];omega
   rw[a1,a2,decide_eq_true h1];simp;omega
  ·rw[decide_eq_false h1]
   by_cases h2:u<m*s∧m*s≤v
   ·rw[decide_eq_true h2,decide_eq_true (show u<m*s∧m*s≤v+1 by omega)];simp;omega
   ·rw[decide_eq_false h2,decide_eq_false (show ¬ (u<m*s∧m*s≤v+1) by omega)];simp
theorem Ep {m y:Int} {S:List Int} (h:∀ s∈S,m*s ≠ y):S.countP (fun s=>decide (m*s=y))=0:=by
 rw[List.countP_eq_zero]
 intro s hs
 simpa using h s hs
theorem M4 {m y:Int} (hm:m ≠ 0):∀ {S:List Int},S.Nodup→∀ s∈S,m*s=y→S.countP (fun s=>decide (m*s=y))=1
 | [],_,_,h,_=>by cases h
 | t::ss,nd,s,hs,e=>by
  obtain⟨n1,n2⟩:=List.nodup_cons.1 nd
  rw[List.countP_cons]
  by_cases h:m*t=y
  ·have h0:ss.countP (fun s=>decide (m*s=y))=0:=Ep fun r hr hk=>by
    have:m*r=m*t:=by rw[hk,h]
    have:=Int.eq_of_mul_eq_mul_left hm this
    subst this
    exact n1 hr
   rw[h0,decide_eq_true h];rfl
  ·have hs':s∈ss:=by
    rcases List.mem_cons.1 hs with rfl | k
    ·exact absurd e h
    ·exact k
   rw[M4 hm n2 s hs' e,decide_eq_false h];rfl
theorem Zop {m s t x:Int} (hm:2≤m) (h1:m*s=x+1) (h2:m*t=x):False:=by
 have h3:m*(s-t)=1:=by rw[Int.mul_sub];omega
 rcases Int.lt_trichotomy (s-t) 0 with g | g | g
 ·have:=Int.mul_pos (show 0<m by omega) (show 0 < -(s-t) by omega)
  rw[Int.mul_neg] at this;omega
 ·rw[g] at h3;simp at h3
 ·have:=Int.mul_le_mul_of_nonneg_left (show 1≤s-t by omega) (show 0≤m by omega)
  omega
theorem cells {S p:List Int} (f:Fac S p) (hS:S ≠ []) (R:Int) (hR:0≤R):∃ Q0:Int,0<Q0∧∀ m u:Int,2≤m→Q0≤2*m→∀ k:Nat,(u.natAbs:Int)≤R*(2*m)→((u+(k:Int)).natAbs:Int)≤R*(2*m) →
  wv 0 (sgs (P9 p) u (2*m))=wv 0 (sgs (P9 p) (u+(k:Int)) (2*m))+(Zow m u (u+(k:Int)) S:Int):=by
 have hp:=f.ne
 obtain⟨c,d,hc,hd,hcd⟩:=Mr f
 obtain⟨lf0,_,_,f0,_⟩:=Wi hp
 obtain⟨lg,gl⟩:=Kx S
 have hlen:(Z9 p).length=(Xz S).length:=by
  have h1:=Xi hc (Z9 p)
  have h2:=Xi hd (Xz S)
  have h3:Ze (Zu c (Z9 p))=Ze (Zu d (Xz S)):=J5 fun x=>by rw[Zh,Zh];exact hcd x
  rw[lf0] at h1
  rw[lg] at h2
  rw[← h1,h3,h2]
 have hSl:=List.length_pos_iff.2 hS
 obtain⟨lf,hl1,hG,hcn⟩:=Zal hp (by omega)
 obtain⟨Q0,hQ0,ht⟩:=Zhp R hR lf (by omega) hl1 hG hcn (Z9 p).length (by omega)
 have hpr:=fun x q=>Zol hcd hlen x q
 have e1:P9 p=Z9 p::chn (Z9 p).length (Z9 p) (prim (Qa (Z9 p))):=by unfold P9;rw[if_neg f0]
 rw[e1]
 refine⟨Q0,hQ0,fun m u hm hq k => ?_⟩
 induction k with
 | zero =>
  intro _ _
  have:Zow m u (u+((0:Nat):Int)) S=0:=by
   unfold Zow
   rw[List.countP_eq_zero]
   intro s _
   rw[decide_eq_true_eq];omega
  rw[this];simp
 | succ k ih =>
  intro h1 h2
  have h4:=ih h1 (by omega)
  obtain⟨dd,htop,hd2,hd3,hd4⟩:=ht (2*m) (u+(k:Int)) ⟨by omega,by omega,by omega⟩ hq
  have h5:=top_wv htop
  have e:u+((k+1:Nat):Int)=u+(k:Int)+1:=by omega
  rw[e,M8 m u (u+(k:Int)) (by omega)]
  generalize u+(k:Int)=x at *
  have z0:=Mi hc hd (hpr x (2*m))
  have z1:=Mi hc hd (hpr (x+1) (2*m))
  rw[Dx,Zcp] at z0 z1
  have st:Stb (Z9 p) x (2*m)↔0<pv S x (2*m)*pv S (x+1) (2*m):=by
   rw[Zcb,Zid hc hd (hpr x (2*m)) (hpr (x+1) (2*m)),Dx,Dx]
  by_cases hs:∃ s∈S,m*s=x+1
  ·obtain⟨s,hs1,hs2⟩:=hs
   rw[M4 (by omega) f.nd s hs1 hs2]
   have hd1:dd=1:=by
    rcases hd2 with g | g
    ·exfalso
     rcases hd4 g with k1 | k1
     ·have k2:=(Zcb _ _ _).1 k1
      rw[z1.2 ⟨s,hs1,hs2⟩] at k2
      simp at k2
     ·obtain⟨t,_,t2⟩:=z0.1 k1
      exact Zop hm hs2 t2
    ·exact g
   omega
  ·rw[Ep fun s hs1 hs2=>hs ⟨s,hs1,hs2⟩]
   have hd0:dd=0:=by
    rcases hd2 with g | g
    ·exact g
    ·exfalso
     obtain⟨k1,k2⟩:=hd3 g
     apply k1
     rw[st]
     exact Zna fun s hs1=>⟨fun k3=>k2 (z0.2 ⟨s,hs1,k3⟩),fun k3=>hs ⟨s,hs1,k3⟩⟩
   omega
theorem No {S p:List Int} (f:Fac S p) {lo hi:Int} (hle:lo≤hi):wv 0 (sgs (P9 p) lo 1)=wv 0 (sgs (P9 p) hi 1)+(S.countP (fun s=>decide (2*lo<s∧s≤2*hi)):Nat):=by
 by_cases hS:S=[]
 ·subst hS
  obtain⟨c,d,hc,hd,hcd⟩:=Mr f
  obtain⟨lf0,_,_,f0,_⟩:=Wi f.ne
  have hlen:(Z9 p).length=1:=by
   have h1:=Xi hc (Z9 p)
   have h2:=Xi hd (Xz [])
   have h3:Ze (Zu c (Z9 p))=Ze (Zu d (Xz [])):=J5 fun x=>by rw[Zh,Zh];exact hcd x
   rw[lf0] at h1
   rw[← h1,h3,h2];rfl
  have hz:prim (Qa (Z9 p))=[]:=by
   rw[Uf]
   intro i
   rw[Xh,Qi (by omega),Int.zero_mul]
  have e:P9 p=[Z9 p]:=by
   unfold P9
   rw[if_neg f0,hlen,hz];rfl
  rw[e]
  have eh:∀ z,Hh (Z9 p) z 1=(Z9 p).getD 0 0:=fun z=>by unfold Hh hp;rw[hlen];rfl
  unfold sgs
  simp only[List.map_cons,List.map_nil]
  rw[eh,eh]
  simp
 ·obtain⟨Q0,hQ0,hm⟩:=cells f hS ((lo.natAbs:Int)+(hi.natAbs:Int)) (by omega)
  have hpos:0<2*(2*Q0):=by omega
  have hb:∀ z:Int,(z.natAbs:Int)≤(lo.natAbs:Int)+(hi.natAbs:Int)→((2*(2*Q0)*z).natAbs:Int)≤((lo.natAbs:Int)+(hi.natAbs:Int))*(2*(2*Q0)):=by
   intro z hz
   have h2:=Jj (a:=2*(2*Q0)) (A:=2*(2*Q0)) (by omega) hz
   rw[Int.mul_comm (_+_)]
   exact h2
  have hd:0≤2*(2*Q0)*(hi-lo):=Int.mul_nonneg (by omega) (by omega)
  have e1:2*(2*Q0)*lo+((2*(2*Q0)*(hi-lo)).toNat:Int)=2*(2*Q0)*hi:=by rw[Int.toNat_of_nonneg hd,Int.mul_sub];omega
  have h3:=hm (2*Q0) (2*(2*Q0)*lo) (by omega) (by omega) (2*(2*Q0)*(hi-lo)).toNat (hb lo (by omega)) (by rw[e1];exact hb hi (by omega))
  rw[e1] at h3
  have h4:=Mb (P9 p) lo 1 _ hpos
  have h5:=Mb (P9 p) hi 1 _ hpos
  rw[Int.mul_one] at h4 h5
  rw[h4,h5] at h3
  rw[h3]
  congr 2
  unfold Zow
  apply List.countP_congr
  intro s _
  rw[decide_eq_true_eq,decide_eq_true_eq]
  have k1:2*(2*Q0)*lo=2*Q0*(2*lo):=by grind
  have k2:2*(2*Q0)*hi=2*Q0*(2*hi):=by grind
  rw[k1,k2]
  have hq:0<2*Q0:=by omega
  constructor
  ·rintro⟨a,b⟩
   exact⟨Int.lt_of_mul_lt_mul_left a (by omega),Int.le_of_mul_le_mul_left b hq⟩
  ·rintro⟨a,b⟩
   exact⟨Int.mul_lt_mul_of_pos_left a hq,Int.mul_le_mul_of_nonneg_left b (by omega)⟩
end Go.Ai

namespace Go.Proofs.Ythnnfemologhfaa
open Go.IntKind (i64 u64 u32)
open Go.Ai
set_option maxRecDepth 100000
def Znt (xs:List Int) (k:Nat) (cs:List AV) (i:Int):Zk:=(.val (.sl xs.length (li xs))::(dds 1 (.own 2 0 []::(.own 2 k cs::(.val (.int .i64 i)::(dds 16 []))))))
theorem Yk52_1 (xs:List Int) (k:Nat) (cs:List AV) (i:Int)  (c1:(decide (i<(xs.length:Int)))=true) (n1:0≤i∧i<(xs.length:Int)) (n2:k+1≤1048576) (n3:Zd Yir 56 [.int .i64 (xs.getD (Int.toNat i) 0)] (Zp (xs.getD (Int.toNat i) 0))):Za Yir Yc52 (Znt xs k cs i) .norm (Znt xs (k+1) (cs++([.bool (decide ((xs.getD (Int.toNat i) 0)<0)), .sl ((Zb (Int.natAbs (xs.getD (Int.toNat i) 0))).length) (lm (Zb (Int.natAbs (xs.getD (Int.toNat i) 0))))]:List AV)) (i64.wrap (i+1))):=(Za.go Zg 400 [.b true, .v (.int .i64 (xs.getD (Int.toNat i) 0)), .r (Zp (xs.getD (Int.toNat i) 0))] [0,2,3,4] (ac c1 (ac n1 (ac (Gf n1) (ac n3 (ac (show List.length ([.bool (decide ((xs.getD (Int.toNat i) 0)<0)), .sl ((Zb (Int.natAbs (xs.getD (Int.toNat i) 0))).length) (lm (Zb (Int.natAbs (xs.getD (Int.toNat i) 0))))]:List AV)=1*2 from rfl) (ac n2 a0)))))))
theorem Yk52_2 (xs:List Int) (k:Nat) (cs:List AV) (i:Int)  (c1:(decide (i<(xs.length:Int)))=false):Za Yir Yc52 (Znt xs k cs i) (.exit 0) (Znt xs k cs i):=(Za.go Zg 400 [.b false] [0,2,3,4] (ac c1 a0))
theorem Yrun52 (xs:List Int) (os ts:List Rn) (i:Int) (k:Nat) (hl1:Za Yir (.loop Yc52) (Znt xs 0 ([]:List AV) 0) (.exit 0) (Znt xs k (pc os) i)) (n2:Zd Yir 43 [.sl k (pc os)] (.fresh 2 ts.length (pc ts))):Zd Yir 52 [.sl xs.length (li xs)] (.fresh 2 ts.length (pc ts)):=Zd.of_bodyW (fn:=Yi52) (s:=(dds 2 (.own 2 ts.length (pc ts)::(dds 18 [])))) (ex := .ret) rfl rfl (Za.seq (Za.go (t:=(.val (.sl xs.length (li xs))::(dds 1 (.own 2 0 []::(dds 18 []))))) Zg 400 [] [0,2] a0) (Za.seq (Za.go (t:=(.val (.sl xs.length (li xs))::(dds 1 (.own 2 0 []::(.own 2 0 []::(dds 17 [])))))) Zg 400 [] [0,2,3] a0) (Za.seq (Za.seq (Za.go Zg 400 [] [0,2,3,4] a0) (Za.block hl1)) (Za.go Zg 400 [.r (.fresh 2 ts.length (pc ts))] [2] (ac n2 a0))))) (by intro i e;cases e) rfl
theorem Znv (n:Int) (n1:Zd Yir 56 [.int .i64 n] (Zp n)):Zd Yir 54 [.int .i64 n] (.agg [.bool (decide (n<0)), .sl ((Zb (Int.natAbs n)).length) (lm (Zb (Int.natAbs n))), .int .i64 0]):=Zd.go (fn:=Yi54) Zg rfl 400 rfl [.r (Zp n)] (ac n1 a0)
def Hn (xs:List Int) (lo:Int) (hi:Int) (o:Bool) (ps:List Rn) (w:Int) (i:Int) (n:Int) (sn:Bool) (k:Int):Zk:=(.val (.sl xs.length (li xs))::(.val (.int .i64 lo)::(.val (.int .i64 hi)::(dds 3 (.val (.bool o)::(.val (.sl ps.length (pc ps))::(.val (.int .i64 w)::(.val (.int .i64 i)::(.val (.int .i64 n)::(.val (.bool sn)::(.val (.int .i64 k)::(dds 85 []))))))))))))
theorem Zro (xs:List Int) (lo:Int) (hi:Int) (o:Bool) (ps:List Rn) (w:Int) (i:Int) (n:Int) (sn:Bool) (k:Int)  (c1:(decide (k<i))=true) (c2:(sn)=true):Za Yir N3 (Hn xs lo hi o ps w i n sn k) .norm (Hn xs lo hi o ps w i n true (i64.wrap (k+1))):=(Za.go Zg 400 [.b true, .b true] [0,1,2,6,7,8,9,10,11,12] (ac c1 (ac c2 a0)))
theorem Zrn (xs:List Int) (lo:Int) (hi:Int) (o:Bool) (ps:List Rn) (w:Int) (i:Int) (n:Int) (sn:Bool) (k:Int)  (c1:(decide (k<i))=true) (c2:(sn)=false) (n1:0≤k∧k<(xs.length:Int)):Za Yir N3 (Hn xs lo hi o ps w i n sn k) .norm (Hn xs lo hi o ps w i n ((Int.tmod (xs.getD (Int.toNat k) 0) 50)==n) (i64.wrap (k+1))):=(Za.go Zg 400 [.b true, .b false, .v (.int .i64 (xs.getD (Int.toNat k) 0))] [0,1,2,6,7,8,9,10,11,12] (ac c1 (ac c2 (ac n1 (ac (Gf n1) (ac (show ¬ (50:Int)=0 from (by decide)) a0))))))
theorem Zrm (xs:List Int) (lo:Int) (hi:Int) (o:Bool) (ps:List Rn) (w:Int) (i:Int) (n:Int) (sn:Bool) (k:Int)  (c1:(decide (k<i))=false):Za Yir N3 (Hn xs lo hi o ps w i n sn k) (.exit 2) (Hn xs lo hi o ps w i n sn k):=(Za.go Zg 400 [.b false] [0,1,2,6,7,8,9,10,11,12] (ac c1 a0))
def Lr (xs:List Int) (lo:Int) (hi:Int) (o:Bool) (ps:List Rn) (w:Int) (i:Int):Zk:=(.val (.sl xs.length (li xs))::(.val (.int .i64 lo)::(.val (.int .i64 hi)::(dds 3 (.val (.bool o)::(.val (.sl ps.length (pc ps))::(.val (.int .i64 w)::(.val (.int .i64 i)::(dds 88 [])))))))))
theorem Yk10_1 (xs:List Int) (lo:Int) (hi:Int) (o:Bool) (ps:List Rn) (w:Int) (i:Int) (os ts:List Rn) (sn:Bool) (c1:(decide (i<(xs.length:Int)))=true) (c2:(decide ((Int.tmod (xs.getD (Int.toNat i) 0) 50)≤(i64.wrap (2*lo))))=true) (c3:(sn)=true) (n1:0≤i∧i<(xs.length:Int)) (n2:Zd Yir 52 [.sl 2 [.int .i64 (i64.wrap (0-(Int.tmod (xs.getD (Int.toNat i) 0) 50))), .int .i64 2]] (.fresh 2 os.length (pc os))) (n3:Zd Yir 53 [.sl ps.length (pc ps), .sl os.length (pc os)] (.fresh 2 ts.length (pc ts))) (hl4:Za Yir (.loop N3) (Hn xs lo hi o ts w i (Int.tmod (xs.getD (Int.toNat i) 0) 50) true 0) (.exit 2) (Hn xs lo hi o ts w i (Int.tmod (xs.getD (Int.toNat i) 0) 50) sn i)):Za Yir Zn1 (Lr xs lo hi o ps w i) .norm (Lr xs lo hi o ts w (i64.wrap (i+1))):=(Za.seq (Za.go (t:=(.val (.sl xs.length (li xs))::(vi lo::(vi hi::(dds 3 (.val (.bool o)::(vp ps::(vi w::(vi i::(dds 88 [])))))))))) Zg 400 [.b true] [0,1,2,6,7,8,9] (ac c1 a0)) (Za.seq (Za.block_norm (Za.seq (Za.go (t:=(.val (.sl xs.length (li xs))::(vi lo::(vi hi::(dds 3 (.val (.bool o)::(vp ps::(vi w::(vi i::(vi (Int.tmod (xs.getD (Int.toNat i) 0) 50)::(dds 87 []))))))))))) Zg 400 [.v (.int .i64 (xs.getD (Int.toNat i) 0))] [0,1,2,6,7,8,9,10] (ac n1 (ac (Gf n1) (ac (show ¬ (50:Int)=0 from (by decide)) a0)))) (Za.seq (Za.go (t:=(.val (.sl xs.length (li xs))::(vi lo::(vi hi::(dds 3 (.val (.bool o)::(vp ts::(vi w::(vi i::(vi (Int.tmod (xs.getD (Int.toNat i) 0) 50)::(dds 39 (.val (.sl 2 [.int .i64 (i64.wrap (0-(Int.tmod (xs.getD (Int.toNat i) 0) 50))), .int .i64 2])::(dds 47 []))))))))))))) Zg 400 [.r (.fresh 2 os.length (pc os)), .r (.fresh 2 ts.length (pc ts))] [0,1,2,6,7,8,9,10,50] (ac n2 (ac n3 a0))) (Za.seq (Za.go (t:=(.val (.sl xs.length (li xs))::(vi lo::(vi hi::(dds 3 (.val (.bool o)::(vp ts::(vi w::(vi i::(vi (Int.tmod (xs.getD (Int.toNat i) 0) 50)::(.val (.bool true)::(dds 38 (.val (.sl 2 [.int .i64 (i64.wrap (0-(Int.tmod (xs.getD (Int.toNat i) 0) 50))), .int .i64 2])::(dds 47 [])))))))))))))) Zg 400 [.b true] [0,1,2,6,7,8,9,10,11,50] (ac c2 a0)) (Za.seq (Za.seq (Za.go Zg 400 [] [0,1,2,6,7,8,9,10,11,12] a0) (Za.block hl4)) (Za.go (t:=(.val (.sl xs.length (li xs))::(vi lo::(vi hi::(dds 3 (.val (.bool o)::(vp ts::(vi w::(vi i::(dds 88 [])))))))))) Zg 400 [.b false] [0,1,2,6,7,8,9] (ac (show (!sn)=false from (by rw [c3];rfl)) a0))))))) (Za.go Zg 400 [] [0,1,2,6,7,8,9] a0)))
theorem Yk10_3 (xs:List Int) (lo:Int) (hi:Int) (o:Bool) (ps:List Rn) (w:Int) (i:Int) (os ts:List Rn) (sn:Bool) (c1:(decide (i<(xs.length:Int)))=true) (c2:(decide ((Int.tmod (xs.getD (Int.toNat i) 0) 50)≤(i64.wrap (2*lo))))=false) (c3:(sn)=true) (n1:0≤i∧i<(xs.length:Int)) (n2:Zd Yir 52 [.sl 2 [.int .i64 (i64.wrap (0-(Int.tmod (xs.getD (Int.toNat i) 0) 50))), .int .i64 2]] (.fresh 2 os.length (pc os))) (n3:Zd Yir 53 [.sl ps.length (pc ps), .sl os.length (pc os)] (.fresh 2 ts.length (pc ts))) (hl4:Za Yir (.loop N3) (Hn xs lo hi o ts w i (Int.tmod (xs.getD (Int.toNat i) 0) 50) (decide ((Int.tmod (xs.getD (Int.toNat i) 0) 50)>(i64.wrap (2*hi)))) 0) (.exit 2) (Hn xs lo hi o ts w i (Int.tmod (xs.getD (Int.toNat i) 0) 50) sn i)):Za Yir Zn1 (Lr xs lo hi o ps w i) .norm (Lr xs lo hi o ts w (i64.wrap (i+1))):=(Za.seq (Za.go (t:=(.val (.sl xs.length (li xs))::(vi lo::(vi hi::(dds 3 (.val (.bool o)::(vp ps::(vi w::(vi i::(dds 88 [])))))))))) Zg 400 [.b true] [0,1,2,6,7,8,9] (ac c1 a0)) (Za.seq (Za.block_norm (Za.seq (Za.go (t:=(.val (.sl xs.length (li xs))::(vi lo::(vi hi::(dds 3 (.val (.bool o)::(vp ps::(vi w::(vi i::(vi (Int.tmod (xs.getD (Int.toNat i) 0) 50)::(dds 87 []))))))))))) Zg 400 [.v (.int .i64 (xs.getD (Int.toNat i) 0))] [0,1,2,6,7,8,9,10] (ac n1 (ac (Gf n1) (ac (show ¬ (50:Int)=0 from (by decide)) a0)))) (Za.seq (Za.go (t:=(.val (.sl xs.length (li xs))::(vi lo::(vi hi::(dds 3 (.val (.bool o)::(vp ts::(vi w::(vi i::(vi (Int.tmod (xs.getD (Int.toNat i) 0) 50)::(dds 39 (.val (.sl 2 [.int .i64 (i64.wrap (0-(Int.tmod (xs.getD (Int.toNat i) 0) 50))), .int .i64 2])::(dds 47 []))))))))))))) Zg 400 [.r (.fresh 2 os.length (pc os)), .r (.fresh 2 ts.length (pc ts))] [0,1,2,6,7,8,9,10,50] (ac n2 (ac n3 a0))) (Za.seq (Za.go (t:=(.val (.sl xs.length (li xs))::(vi lo::(vi hi::(dds 3 (.val (.bool o)::(vp ts::(vi w::(vi i::(vi (Int.tmod (xs.getD (Int.toNat i) 0) 50)::(.val (.bool (decide ((Int.tmod (xs.getD (Int.toNat i) 0) 50)>(i64.wrap (2*hi)))))::(dds 38 (.val (.sl 2 [.int .i64 (i64.wrap (0-(Int.tmod (xs.getD (Int.toNat i) 0) 50))), .int .i64 2])::(dds 47 [])))))))))))))) Zg 400 [.b false] [0,1,2,6,7,8,9,10,11,50] (ac c2 a0)) (Za.seq (Za.seq (Za.go Zg 400 [] [0,1,2,6,7,8,9,10,11,12] a0) (Za.block hl4)) (Za.go (t:=(.val (.sl xs.length (li xs))::(vi lo::(vi hi::(dds 3 (.val (.bool o)::(vp ts::(vi w::(vi i::(dds 88 [])))))))))) Zg 400 [.b false] [0,1,2,6,7,8,9] (ac (show (!sn)=false from (by rw [c3];rfl)) a0))))))) (Za.go Zg 400 [] [0,1,2,6,7,8,9] a0)))
theorem Yk10_4 (xs:List Int) (lo:Int) (hi:Int) (o:Bool) (ps:List Rn) (w:Int) (i:Int) (os ts:List Rn) (sn:Bool) (c1:(decide (i<(xs.length:Int)))=true) (c2:(decide ((Int.tmod (xs.getD (Int.toNat i) 0) 50)≤(i64.wrap (2*lo))))=false) (c3:(sn)=false) (n1:0≤i∧i<(xs.length:Int)) (n2:Zd Yir 52 [.sl 2 [.int .i64 (i64.wrap (0-(Int.tmod (xs.getD (Int.toNat i) 0) 50))), .int .i64 2]] (.fresh 2 os.length (pc os))) (n3:Zd Yir 53 [.sl ps.length (pc ps), .sl os.length (pc os)] (.fresh 2 ts.length (pc ts))) (hl4:Za Yir (.loop N3) (Hn xs lo hi o ts w i (Int.tmod (xs.getD (Int.toNat i) 0) 50) (decide ((Int.tmod (xs.getD (Int.toNat i) 0) 50)>(i64.wrap (2*hi)))) 0) (.exit 2) (Hn xs lo hi o ts w i (Int.tmod (xs.getD (Int.toNat i) 0) 50) sn i)):Za Yir Zn1 (Lr xs lo hi o ps w i) .norm (Lr xs lo hi o ts (i64.wrap (w+1)) (i64.wrap (i+1))):=(Za.seq (Za.go (t:=(.val (.sl xs.length (li xs))::(vi lo::(vi hi::(dds 3 (.val (.bool o)::(vp ps::(vi w::(vi i::(dds 88 [])))))))))) Zg 400 [.b true] [0,1,2,6,7,8,9] (ac c1 a0)) (Za.seq (Za.block_norm (Za.seq (Za.go (t:=(.val (.sl xs.length (li xs))::(vi lo::(vi hi::(dds 3 (.val (.bool o)::(vp ps::(vi w::(vi i::(vi (Int.tmod (xs.getD (Int.toNat i) 0) 50)::(dds 87 []))))))))))) Zg 400 [.v (.int .i64 (xs.getD (Int.toNat i) 0))] [0,1,2,6,7,8,9,10] (ac n1 (ac (Gf n1) (ac (show ¬ (50:Int)=0 from (by decide)) a0)))) (Za.seq (Za.go (t:=(.val (.sl xs.length (li xs))::(vi lo::(vi hi::(dds 3 (.val (.bool o)::(vp ts::(vi w::(vi i::(vi (Int.tmod (xs.getD (Int.toNat i) 0) 50)::(dds 39 (.val (.sl 2 [.int .i64 (i64.wrap (0-(Int.tmod (xs.getD (Int.toNat i) 0) 50))), .int .i64 2])::(dds 47 []))))))))))))) Zg 400 [.r (.fresh 2 os.length (pc os)), .r (.fresh 2 ts.length (pc ts))] [0,1,2,6,7,8,9,10,50] (ac n2 (ac n3 a0))) (Za.seq (Za.go (t:=(.val (.sl xs.length (li xs))::(vi lo::(vi hi::(dds 3 (.val (.bool o)::(vp ts::(vi w::(vi i::(vi (Int.tmod (xs.getD (Int.toNat i) 0) 50)::(.val (.bool (decide ((Int.tmod (xs.getD (Int.toNat i) 0) 50)>(i64.wrap (2*hi)))))::(dds 38 (.val (.sl 2 [.int .i64 (i64.wrap (0-(Int.tmod (xs.getD (Int.toNat i) 0) 50))), .int .i64 2])::(dds 47 [])))))))))))))) Zg 400 [.b false] [0,1,2,6,7,8,9,10,11,50] (ac c2 a0)) (Za.seq (Za.seq (Za.go Zg 400 [] [0,1,2,6,7,8,9,10,11,12] a0) (Za.block hl4)) (Za.go (t:=(.val (.sl xs.length (li xs))::(vi lo::(vi hi::(dds 3 (.val (.bool o)::(vp ts::(vi (i64.wrap (w+1))::(vi i::(dds 88 [])))))))))) Zg 400 [.b true] [0,1,2,6,7,8,9] (ac (show (!sn)=true from (by rw [c3];rfl)) a0))))))) (Za.go Zg 400 [] [0,1,2,6,7,8,9] a0)))
theorem Yk10_5 (xs:List Int) (lo:Int) (hi:Int) (o:Bool) (ps:List Rn) (w:Int) (i:Int)  (c1:(decide (i<(xs.length:Int)))=false):Za Yir Zn1 (Lr xs lo hi o ps w i) (.exit 0) (Lr xs lo hi o ps w i):=(Za.seq_out (Za.go Zg 400 [.b false] [0,1,2,6,7,8,9] (ac c1 a0)) (by intro e;cases e))
theorem Zka (xs:List Int) (lo hi:Int) (c1:(decide ((xs.length:Int)>7))=true) (n1:Zd Yir 47 [] (.bool true)):Zd Yir 10 [.sl xs.length (li xs), .int .i64 lo, .int .i64 hi] (.bool true):=Zd.of_bodyW (fn:=Zmy) (s:=(dds 6 (.val (.bool true)::(dds 91 [])))) (ex := .ret) rfl rfl (Za.seq (Za.go (t:=(.val (.sl xs.length (li xs))::(vi lo::(vi hi::(dds 3 (.val (.bool false)::(dds 91 []))))))) Zg 400 [] [0,1,2,6] a0) (Za.seq (Za.go (t:=(.val (.sl xs.length (li xs))::(vi lo::(vi hi::(dds 3 (.val (.bool false)::(dds 91 []))))))) Zg 400 [.r (.bool true), .b false] [0,1,2,6] (ac n1 (ac (show false=false from rfl) a0))) (Za.seq_out (Za.go Zg 400 [.b true, .b true, .b true, .b true, .r (.bool true)] [6] (ac c1 (ac (show true=true from rfl) (ac (show true=true from rfl) (ac (show true=true from rfl) (ac n1 a0)))))) (by intro e;cases e)))) (by intro i e;cases e) rfl
theorem Zj9 (xs:List Int) (lo hi:Int) (c1:(decide ((xs.length:Int)>7))=false) (c2:(decide (lo<(-1000)))=true) (n1:Zd Yir 47 [] (.bool true)):Zd Yir 10 [.sl xs.length (li xs), .int .i64 lo, .int .i64 hi] (.bool true):=Zd.of_bodyW (fn:=Zmy) (s:=(dds 6 (.val (.bool true)::(dds 91 [])))) (ex := .ret) rfl rfl (Za.seq (Za.go (t:=(.val (.sl xs.length (li xs))::(vi lo::(vi hi::(dds 3 (.val (.bool false)::(dds 91 []))))))) Zg 400 [] [0,1,2,6] a0) (Za.seq (Za.go (t:=(.val (.sl xs.length (li xs))::(vi lo::(vi hi::(dds 3 (.val (.bool false)::(dds 91 []))))))) Zg 400 [.r (.bool true), .b false] [0,1,2,6] (ac n1 (ac (show false=false from rfl) a0))) (Za.seq_out (Za.go Zg 400 [.b false, .b true, .b true, .b true, .r (.bool true)] [6] (ac c1 (ac c2 (ac (show true=true from rfl) (ac (show true=true from rfl) (ac n1 a0)))))) (by intro e;cases e)))) (by intro i e;cases e) rfl
theorem Zj8 (xs:List Int) (lo hi:Int) (c1:(decide ((xs.length:Int)>7))=false) (c2:(decide (lo<(-1000)))=false) (c3:(decide (hi>1000))=true) (n1:Zd Yir 47 [] (.bool true)):Zd Yir 10 [.sl xs.length (li xs), .int .i64 lo, .int .i64 hi] (.bool true):=Zd.of_bodyW (fn:=Zmy) (s:=(dds 6 (.val (.bool true)::(dds 91 [])))) (ex := .ret) rfl rfl (Za.seq (Za.go (t:=(.val (.sl xs.length (li xs))::(vi lo::(vi hi::(dds 3 (.val (.bool false)::(dds 91 []))))))) Zg 400 [] [0,1,2,6] a0) (Za.seq (Za.go (t:=(.val (.sl xs.length (li xs))::(vi lo::(vi hi::(dds 3 (.val (.bool false)::(dds 91 []))))))) Zg 400 [.r (.bool true), .b false] [0,1,2,6] (ac n1 (ac (show false=false from rfl) a0))) (Za.seq_out (Za.go Zg 400 [.b false, .b false, .b true, .b true, .r (.bool true)] [6] (ac c1 (ac c2 (ac c3 (ac (show true=true from rfl) (ac n1 a0)))))) (by intro e;cases e)))) (by intro i e;cases e) rfl
theorem Zj7 (xs:List Int) (lo hi:Int) (c1:(decide ((xs.length:Int)>7))=false) (c2:(decide (lo<(-1000)))=false) (c3:(decide (hi>1000))=false) (c4:(decide (lo>hi))=true) (n1:Zd Yir 47 [] (.bool true)):Zd Yir 10 [.sl xs.length (li xs), .int .i64 lo, .int .i64 hi] (.bool true):=Zd.of_bodyW (fn:=Zmy) (s:=(dds 6 (.val (.bool true)::(dds 91 [])))) (ex := .ret) rfl rfl (Za.seq (Za.go (t:=(.val (.sl xs.length (li xs))::(vi lo::(vi hi::(dds 3 (.val (.bool false)::(dds 91 []))))))) Zg 400 [] [0,1,2,6] a0) (Za.seq (Za.go (t:=(.val (.sl xs.length (li xs))::(vi lo::(vi hi::(dds 3 (.val (.bool false)::(dds 91 []))))))) Zg 400 [.r (.bool true), .b false] [0,1,2,6] (ac n1 (ac (show false=false from rfl) a0))) (Za.seq_out (Za.go Zg 400 [.b false, .b false, .b false, .b true, .r (.bool true)] [6] (ac c1 (ac c2 (ac c3 (ac c4 (ac n1 a0)))))) (by intro e;cases e)))) (by intro i e;cases e) rfl
theorem Zj6 (xs:List Int) (lo hi v w h i:Int) (as1 ps:List Rn) (c1:(decide ((xs.length:Int)>7))=false) (c2:(decide (lo<(-1000)))=false) (c3:(decide (hi>1000))=false) (c4:(decide (lo>hi))=false) (c5:(h==0)=true) (n1:Zd Yir 47 [] (.bool true)) (n2:Zd Yir 52 [.sl 1 [.int .i64 1]] (.fresh 2 as1.length (pc as1))) (hl3:Za Yir (.loop Zn1) (Lr xs lo hi false as1 0 0) (.exit 0) (Lr xs lo hi false ps w i)) (n4:Zd Yir 54 [.int .i64 lo] (.agg [.bool (decide (lo<0)), .sl ((Zb (Int.natAbs lo)).length) (lm (Zb (Int.natAbs lo))), .int .i64 0])) (n5:Zd Yir 54 [.int .i64 hi] (.agg [.bool (decide (hi<0)), .sl ((Zb (Int.natAbs hi)).length) (lm (Zb (Int.natAbs hi))), .int .i64 0])) (n6:Zd Yir 50 [.sl ps.length (pc ps), .agg [.bool (decide (lo<0)), .sl ((Zb (Int.natAbs lo)).length) (lm (Zb (Int.natAbs lo))), .int .i64 0], .agg [.bool (decide (hi<0)), .sl ((Zb (Int.natAbs hi)).length) (lm (Zb (Int.natAbs hi))), .int .i64 0]] (.tup [.int .i64 v, .int .i64 h])):Zd Yir 10 [.sl xs.length (li xs), .int .i64 lo, .int .i64 hi] (.bool (v==w)):=Zd.of_bodyW (fn:=Zmy) (s:=(dds 6 (.val (.bool (v==w))::(dds 91 [])))) (ex := .ret) rfl rfl (Za.seq (Za.go (t:=(.val (.sl xs.length (li xs))::(vi lo::(vi hi::(dds 3 (.val (.bool false)::(dds 91 []))))))) Zg 400 [] [0,1,2,6] a0) (Za.seq (Za.go (t:=(.val (.sl xs.length (li xs))::(vi lo::(vi hi::(dds 3 (.val (.bool false)::(dds 91 []))))))) Zg 400 [.r (.bool true), .b false] [0,1,2,6] (ac n1 (ac (show false=false from rfl) a0))) (Za.seq (Za.go (t:=(.val (.sl xs.length (li xs))::(vi lo::(vi hi::(dds 3 (.val (.bool false)::(dds 91 []))))))) Zg 400 [.b false, .b false, .b false, .b false] [0,1,2,6] (ac c1 (ac c2 (ac c3 (ac c4 a0))))) (Za.seq (Za.go (t:=(.val (.sl xs.length (li xs))::(vi lo::(vi hi::(dds 3 (.val (.bool false)::(vp as1::(dds 90 [])))))))) Zg 400 [.r (.fresh 2 as1.length (pc as1))] [0,1,2,6,7] (ac n2 a0)) (Za.seq (Za.go (t:=(.val (.sl xs.length (li xs))::(vi lo::(vi hi::(dds 3 (.val (.bool false)::(vp as1::(vi 0::(dds 89 []))))))))) Zg 400 [] [0,1,2,6,7,8] a0) (Za.seq (Za.seq (Za.go Zg 400 [] [0,1,2,6,7,8,9] a0) (Za.block hl3)) (Za.go Zg 400 [.r (.agg [.bool (decide (lo<0)), .sl ((Zb (Int.natAbs lo)).length) (lm (Zb (Int.natAbs lo))), .int .i64 0]), .r (.agg [.bool (decide (hi<0)), .sl ((Zb (Int.natAbs hi)).length) (lm (Zb (Int.natAbs hi))), .int .i64 0]), .r (.tup [.int .i64 v, .int .i64 h]), .b true] [6] (ac n4 (ac n5 (ac n6 (ac c5 a0))))))))))) (by intro i e;cases e) rfl
end Go.Proofs.Ythnnfemologhfaa

namespace Go.Proofs.Ythnnfemologhfaa
open Go.IntKind (i64 u64 u32)
open Go.Ai
set_option maxRecDepth 100000
theorem Et:∀ (f:Nat) (a b:List Int),U3 f a b=chn f a b
 | 0,_,_=>rfl
 | f+1,a,b=>by simp only[U3,chn];rw[Et f]
theorem Aa (p:List Int):Xo p=P9 p:=by unfold Xo P9;rw [Et]
theorem sg_at (l:List (List Int)) (N:Int) (e i:Nat):T0 l N e i=sgz (Hh (l.getD i []) N (2^e)):=by
 unfold T0 Hh
 rw[hp_hv];rfl
theorem Zhn (l:List (List Int)) (N:Int) (e:Nat):∀ i,i≤l.length→(Xx l N e i).1+wv (Xx l N e i).2 (sgs (l.drop i) N (2^e))=wv 0 (sgs l N (2^e)):=by
 intro i
 induction i with
 | zero=>intro _;simp[Xx]
 | succ i ih =>
  intro hi
  rw[← ih (by omega)]
  rw[List.drop_eq_getElem_cons (show i<l.length by omega)]
  have hg:l.getD i []=l[i]:=by rw[List.getD_eq_getElem?_getD,List.getElem?_eq_getElem (by omega)];rfl
  have hs:=sg_at l N e i
  rw[hg] at hs
  show (Tu (Xx l N e i) (T0 l N e i)).1+wv (Tu (Xx l N e i) (T0 l N e i)).2 _=(Xx l N e i).1+wv (Xx l N e i).2 (sgz (Hh l[i] N (2^e))::_)
  rw[← hs]
  generalize Xx l N e i=x
  generalize T0 l N e i=s
  obtain⟨n,last⟩:=x
  simp only[Tu,wv]
  by_cases h0:s=0
  ·rw[if_neg (fun h=>h.1 h0),if_neg (fun h=>h h0),if_pos h0];rfl
  ·rw[if_neg h0,if_pos h0]
   by_cases h1:last ≠ 0∧s ≠ last
   ·rw[if_pos ⟨h0,h1⟩,if_pos h1];show n+1+wv s (sgs (l.drop (i+1)) N (2^e))=n+(1+wv s (sgs (l.drop (i+1)) N (2^e)));omega
   ·rw[if_neg (fun h=>h1 h.2),if_neg h1];show n+wv s (sgs (l.drop (i+1)) N (2^e))=n+(0+wv s (sgs (l.drop (i+1)) N (2^e)));omega
end Go.Proofs.Ythnnfemologhfaa

namespace Go.Proofs.Ythnnfemologhfaa
open Go.IntKind (i64 u64 u32)
open Go.Ai
set_option maxRecDepth 100000
theorem Sn {xs:List Int} (hb:∀ x∈xs,-9223372036854775808≤x∧x≤9223372036854775807) (hn:xs.length≤1000):Zd Yir 52 [.sl xs.length (li xs)] (.fresh 2 ((Ze xs).map cn).length (pc ((Ze xs).map cn))):=by
 have hx:∀ i,-9223372036854775808≤xs.getD i 0∧xs.getD i 0≤9223372036854775807:=by
  intro i
  rcases Nat.lt_or_ge i xs.length with h | h
  ·rw[List.getD_eq_getElem?_getD,List.getElem?_eq_getElem h];exact hb _ (List.getElem_mem h)
  ·rw[Qi h];decide
 have h:=Za.up (prog:=Yir) (c:=Yc52) (ex := .exit 0) (fin:=Znt xs xs.length (pc ((List.range xs.length).map fun j=>cn (xs.getD j 0))) (xs.length:Nat))
  (fun i=>Znt xs i (pc ((List.range i).map fun j=>cn (xs.getD j 0))) (i:Nat)) xs.length (by intro e;cases e) ?_ ?_ 0 (Nat.zero_le _)
 ·have hgo:∀ r∈(List.range xs.length).map (fun j=>cn (xs.getD j 0)),J4 1048576 r:=Zdw fun j _=>(Jq (Wo (hx j))).mono (by omega)
  have ht:=Mg hgo (by rw[List.length_map,List.length_range];omega)
  have e:Ze (Zl ((List.range xs.length).map (fun j=>cn (xs.getD j 0))))=Ze xs:=by
   apply Kw
   intro i
   rw[A0,Qe]
   split
   ·rfl
   ·rw[Qi (by omega)]
  rw[e,List.length_map,List.length_range] at ht
  have hpk:pk (Ze xs)=pc ((Ze xs).map cn):=rfl
  rw[hpk] at ht
  have el:(Ze xs).length=((Ze xs).map cn).length:=(List.length_map ..).symm
  rw[el] at ht
  exact Yrun52 xs _ _ _ _ h ht
 ·intro i hi
  have ei:i64.wrap ((i:Int)+1)=((i+1:Nat):Int):=by rw[w64 (by omega) (by omega)];omega
  have k:=Yk52_1 xs i (pc ((List.range i).map fun j=>cn (xs.getD j 0))) (i:Nat) (by simp;omega) (by omega) (by omega) (Zc6 (hx _))
  refine k.to rfl ?_
  rw[ei,← Pm (fun j=>xs.getD j 0) i,Int.toNat_natCast]
 ·exact Yk52_2 xs _ _ _ (by simp)
def nn (xs:List Int) (i:Nat):Int:=Int.tmod (xs.getD i 0) 50
def fP (xs:List Int):Nat→List Int
 | 0=>[1]
 | i+1=>Jk (fP xs i) (lin (nn xs i))
def fS (xs:List Int):Nat→List Int
 | 0=>[]
 | i+1=>ins (fS xs i) (nn xs i)
theorem nn_bd (xs:List Int) (i:Nat) : -49≤nn xs i∧nn xs i≤49:=by
 unfold nn
 have h1:=Int.tmod_lt_of_pos (xs.getD i 0) (show (0:Int)<50 by decide)
 have h3:=Int.tmod_lt_of_pos (-(xs.getD i 0)) (show (0:Int)<50 by decide)
 rw[Int.neg_tmod] at h3
 omega
theorem fac_P (xs:List Int):∀ i,Fac (fS xs i) (fP xs i)
 | 0=>Zd6
 | i+1=>Zi6 (fac_P xs i) fun x=>by show Zc (Jk _ _) x=_;rw[Zq];exact Int.mul_comm _ _
theorem P4 (xs:List Int):∀ i,Ub (fP xs i)∧(fP xs i).length=i+1
 | 0=>⟨rfl,rfl⟩
 | i+1=>by
  obtain⟨h1,h2⟩:=P4 xs i
  have e:Ub (fP xs (i+1)):=V3 _ _
  have n1:Ze (lin (nn xs i)) ≠ []:=by rw[Wk];exact List.cons_ne_nil _ _
  have n2:Ze (fP xs i) ≠ []:=by rw[h1];intro h;rw[h] at h2;simp at h2
  have h3:=Ka n2 n1
  refine⟨e,?_⟩
  rw[Wk,h1,h2] at h3
  have h4:(Ze (fP xs (i+1))).length=i+1+(lin (nn xs i)).length-1:=h3
  rw[e] at h4
  rw[h4]
  show i+1+2-1=i+1+1
  omega
theorem fP_bd (xs:List Int):∀ i j,((fP xs i).getD j 0).natAbs≤51^i
 | 0,j=>by
  match j with
  | 0=>exact Nat.le_refl 1
  | j+1=>exact Nat.zero_le _
 | i+1,j=>by
  have ih:=fP_bd xs i
  obtain⟨b1,b2⟩:=nn_bd xs i
  show ((Jk (fP xs i) (-(nn xs i)::[2])).getD j 0).natAbs≤_
  have e2:∀ j,(Jk (fP xs i) [2]).getD j 0=2*(fP xs i).getD j 0:=by
   intro j
   have h0:Jk (fP xs i) []=[]:=W9 rfl
   rw[Vf,h0,Qo]
   split <;> simp
  rw[Vf,Qo,Nat.pow_succ]
  have h1:=ih j
  have h2:(if 1≤j then (Jk (fP xs i) [2]).getD (j-1) 0 else 0).natAbs≤2*51^i:=by
   split
   ·rw[e2,Int.natAbs_mul]
    exact Nat.mul_le_mul (by decide) (ih _)
   ·simp
  have h3:(-(nn xs i)*(fP xs i).getD j 0).natAbs≤49*51^i:=by
   rw[Int.natAbs_mul]
   exact Nat.mul_le_mul (by omega) h1
  generalize (if 1≤j then (Jk (fP xs i) [2]).getD (j-1) 0 else 0)=B at *
  generalize -(nn xs i)*(fP xs i).getD j 0=C at *
  generalize (51:Nat)^i=M at *
  omega
theorem fP_kb (xs:List Int) {i:Nat} (hi:i≤7):Kb 2 (fP xs i):=fun j=>by
 have h:=fP_bd xs i j
 have h1:(51:Nat)^i≤51^7:=Nat.pow_le_pow_right (by decide) hi
 unfold Jh
 refine Nat.lt_of_le_of_lt (Nat.le_trans h h1) (by decide)
theorem Zdd (xs:List Int) (n:Int):∀ i,n∈fS xs i↔(List.range i).any (fun t=>nn xs t==n)=true
 | 0=>by simp[fS]
 | i+1=>by
  have ih:=Zdd xs n i
  rw[List.range_succ,List.any_append,Bool.or_eq_true,← ih]
  show n∈ins (fS xs i) (nn xs i)↔_
  unfold ins
  split
  ·rename_i h
   constructor
   ·intro k;exact .inl k
   ·rintro (k | k)
    ·exact k
    ·simp at k;rw[← k];exact h
  ·rw[List.mem_cons]
   constructor
   ·rintro (k | k)
    ·right;simp;exact k.symm
    ·exact .inl k
   ·rintro (k | k)
    ·exact .inr k
    ·left;simp at k;exact k.symm
def cP (lo hi:Int) (S:List Int):Int:=((S.countP fun s=>decide (2*lo<s∧s≤2*hi):Nat):Int)
theorem cP_in {lo hi n:Int} {S:List Int} (h:n∈S):cP lo hi (ins S n)=cP lo hi S:=by unfold ins;rw [if_pos h]
theorem Znl {lo hi n:Int} {S:List Int} (h:¬ (2*lo<n∧n≤2*hi)):cP lo hi (ins S n)=cP lo hi S:=by
 unfold ins
 split
 ·rfl
 ·unfold cP;rw[List.countP_cons,decide_eq_false h];rfl
theorem cP_new {lo hi n:Int} {S:List Int} (h:n ∉ S) (h2:2*lo<n∧n≤2*hi):cP lo hi (ins S n)=cP lo hi S+1:=by
 unfold ins
 rw[if_neg h]
 unfold cP;rw[List.countP_cons,decide_eq_true h2];rfl
theorem Zni (xs:List Int):∀ i,(fS xs i).length≤i
 | 0=>Nat.le_refl _
 | i+1=>by
  have:=Zni xs i
  show (ins _ _).length≤_
  unfold ins
  split
  ·omega
  ·simp;omega
theorem cP_bd (lo hi:Int) (xs:List Int) (i:Nat):0≤cP lo hi (fS xs i)∧cP lo hi (fS xs i)≤(i:Int):=by
 have h1:=Zni xs i
 have h2:=List.countP_le_length (p:=fun s=>decide (2*lo<s∧s≤2*hi)) (l:=fS xs i)
 unfold cP
 omega
theorem Zao {xs:List Int} {lo hi w n:Int} {ts:List Rn} {i:Nat} (hi':i<xs.length) (hx:xs.length≤7) (b0:Bool) :
  Za Yir (.loop N3) (Hn xs lo hi false ts w (i:Nat) n b0 0) (.exit 2) (Hn xs lo hi false ts w (i:Nat) n (b0 || (List.range i).any fun t=>nn xs t==n) (i:Nat)):=by
 have h:=Za.up (prog:=Yir) (c:=N3) (ex := .exit 2) (fin:=Hn xs lo hi false ts w (i:Nat) n (b0 || (List.range i).any fun t=>nn xs t==n) (i:Nat))
  (fun k=>Hn xs lo hi false ts w (i:Nat) n (b0 || (List.range k).any fun t=>nn xs t==n) (k:Nat)) i (by intro e;cases e) ?_ ?_ 0 (Nat.zero_le _)
 ·have e:(b0 || (List.range 0).any fun t=>nn xs t==n)=b0:=by simp
  rw[e] at h
  exact h
 ·intro k hk
  have ei:i64.wrap ((k:Int)+1)=((k+1:Nat):Int):=by rw[w64 (by omega) (by omega)];omega
  have er:(List.range (k+1)).any (fun t=>nn xs t==n)=((List.range k).any (fun t=>nn xs t==n) || nn xs k==n):=by rw[List.range_succ,List.any_append];simp
  cases hb:(b0 || (List.range k).any fun t=>nn xs t==n) with
  | true =>
   have k1:=Zro xs lo hi false ts w (i:Nat) n true (k:Nat) (by rw[decide_eq_true_eq];omega) rfl
   rw[ei] at k1
   have e2:(b0 || (List.range (k+1)).any fun t=>nn xs t==n)=true:=by rw[er,← Bool.or_assoc,hb];rfl
   rw[e2]
   exact k1
  | false =>
   have k1:=Zrn xs lo hi false ts w (i:Nat) n false (k:Nat) (by rw[decide_eq_true_eq];omega) rfl (by omega)
   rw[ei,Int.toNat_natCast] at k1
   have e2:(b0 || (List.range (k+1)).any fun t=>nn xs t==n)=(nn xs k==n):=by rw[er,← Bool.or_assoc,hb];rfl
   rw[e2]
   exact k1
 ·exact Zrm xs lo hi false ts w (i:Nat) n _ (i:Nat) (by rw[decide_eq_false_iff_not];omega)
theorem Zc5 {n:Int} (h : -49≤n∧n≤49):Zd Yir 52 [.sl 2 [.int .i64 (i64.wrap (0-n)), .int .i64 2]] (.fresh 2 ((lin n).map cn).length (pc ((lin n).map cn))):=by
 have e:i64.wrap (0-n) = -n:=by rw[w64 (by omega) (by omega)];omega
 rw[e]
 have k:=Sn (xs:=lin n) (fun x hx=>by
  rcases List.mem_cons.1 hx with rfl | hx
  ·omega
  ·rcases List.mem_cons.1 hx with rfl | hx
   ·decide
   ·cases hx) (by show 2≤1000;decide)
 rw[Wk] at k
 exact k
theorem Zd5 {xs:List Int} {lo hi:Int} (hx:xs.length≤7) (hlo : -1000≤lo∧lo≤1000) (hhi : -1000≤hi∧hi≤1000) :
  Za Yir (.loop Zn1) (Lr xs lo hi false ((fP xs 0).map cn) 0 0) (.exit 0) (Lr xs lo hi false ((fP xs xs.length).map cn) (cP lo hi (fS xs xs.length)) (xs.length:Nat)):=by
 have h:=Za.up (prog:=Yir) (c:=Zn1) (ex := .exit 0) (fin:=Lr xs lo hi false ((fP xs xs.length).map cn) (cP lo hi (fS xs xs.length)) (xs.length:Nat))
  (fun i=>Lr xs lo hi false ((fP xs i).map cn) (cP lo hi (fS xs i)) (i:Nat)) xs.length (by intro e;cases e) ?_ ?_ 0 (Nat.zero_le _)
 ·exact h
 ·intro i hi'
  have ei:i64.wrap ((i:Int)+1)=((i+1:Nat):Int):=by rw[w64 (by omega) (by omega)];omega
  have hbd:=nn_bd xs i
  have hc:=cP_bd lo hi xs i
  have ew:i64.wrap (cP lo hi (fS xs i)+1)=cP lo hi (fS xs i)+1:=w64 (by omega) (by omega)
  have e1:i64.wrap (2*lo)=2*lo:=w64 (by omega) (by omega)
  have e2:i64.wrap (2*hi)=2*hi:=w64 (by omega) (by omega)
  have hof:=Zc5 hbd
  have kb:=fP_kb xs (show i≤7 by omega)
  have ll:=(P4 xs i).2
  have kl:Kb 2 (lin (nn xs i)):=Mq fun x hx=>by
   rcases List.mem_cons.1 hx with rfl | hx
   ·exact Wo (by omega)
   ·rcases List.mem_cons.1 hx with rfl | hx
    ·exact Wo (by decide)
    ·cases hx
  have ht:=T8 (rs:=(fP xs i).map cn) (ss:=(lin (nn xs i)).map cn) (Qj kb) (Qj kl) (by rw[List.length_map];omega) (by rw[List.length_map,List.length_map,ll];show i+1+2≤_;omega)
  rw[Qn,Qn] at ht
  have ht':Zd Yir 53 [.sl ((fP xs i).map cn).length (pc ((fP xs i).map cn)), .sl ((lin (nn xs i)).map cn).length (pc ((lin (nn xs i)).map cn))] (.fresh 2 ((fP xs (i+1)).map cn).length (pc ((fP xs (i+1)).map cn))):=P0 ht
  have c1:decide ((i:Int)<(xs.length:Int))=true:=by rw[decide_eq_true_eq];omega
  have g1:0≤(i:Int)∧(i:Int)<(xs.length:Int):=by omega
  have hin:=fun b0=>Zao (lo:=lo) (hi:=hi) (w:=cP lo hi (fS xs i)) (n:=nn xs i) (ts:=(fP xs (i+1)).map cn) hi' hx b0
  by_cases c2:nn xs i≤2*lo
  ·have k:=Yk10_1 xs lo hi false ((fP xs i).map cn) (cP lo hi (fS xs i)) (i:Nat) _ _ true c1 (by rw[e1];exact decide_eq_true c2) rfl g1 hof ht' (hin true)
   rw[ei] at k
   show Za _ _ _ _ (Lr _ _ _ _ _ (cP lo hi (ins (fS xs i) (nn xs i))) _)
   rw[Znl (by omega)]
   exact k
  ·have hi2:=hin (decide (nn xs i>2*hi))
   rw[← e2] at hi2
   cases hs:(decide (nn xs i>i64.wrap (2*hi)) || (List.range i).any fun t=>nn xs t==nn xs i) with
   | true =>
    rw[hs] at hi2
    have k:=Yk10_3 xs lo hi false ((fP xs i).map cn) (cP lo hi (fS xs i)) (i:Nat) _ _ true c1 (by rw[e1];exact decide_eq_false c2) rfl g1 hof ht' hi2
    rw[ei] at k
    show Za _ _ _ _ (Lr _ _ _ _ _ (cP lo hi (ins (fS xs i) (nn xs i))) _)
    rw[Bool.or_eq_true,e2,decide_eq_true_eq,← Zdd] at hs
    rcases hs with g | g
    ·rw[Znl (by omega)]
     exact k
    ·rw[cP_in g]
     exact k
   | false =>
    rw[hs] at hi2
    have k:=Yk10_4 xs lo hi false ((fP xs i).map cn) (cP lo hi (fS xs i)) (i:Nat) _ _ false c1 (by rw[e1];exact decide_eq_false c2) rfl g1 hof ht' hi2
    rw[ei,ew] at k
    show Za _ _ _ _ (Lr _ _ _ _ _ (cP lo hi (ins (fS xs i) (nn xs i))) _)
    rw[Bool.or_eq_false_iff,e2,decide_eq_false_iff_not] at hs
    have hm:nn xs i ∉ fS xs i:=by
     intro hm
     have:=(Zdd xs (nn xs i) i).1 hm
     rw[hs.2] at this
     exact absurd this (by decide)
    rw[cP_new hm (by omega)]
    exact k
 ·exact Yk10_5 xs lo hi false _ _ _ (by rw[decide_eq_false_iff_not];omega)
def V0 (p:List Int) (x:Int):Int:=(Xx (Xo p) x 0 (Xo p).length).1
theorem V0_wv (p:List Int) (x:Int):V0 p x=wv 0 (sgs (P9 p) x 1):=by
 have h:=Zhn (Xo p) x 0 (Xo p).length (Nat.le_refl _)
 rw[List.drop_length] at h
 have e:(2:Int)^0=1:=by decide
 rw[e,Aa] at h
 unfold V0
 rw[Aa]
 have:wv (Xx (P9 p) x 0 (P9 p).length).2 (sgs [] x 1)=0:=rfl
 omega
theorem Zei {rs:List Rn} (hp:∀ p∈rs,J4 4 p) (hn:rs.length≤9) (h0:Ze (Zl rs) ≠ []) {x y:Int} (hx : -1000≤x∧x≤1000) (hy : -1000≤y∧y≤1000) (hxy:x≤y) (hv : -1000≤V0 (Zl rs) x-V0 (Zl rs) y∧V0 (Zl rs) x-V0 (Zl rs) y≤1000) :
  Zd Yir 50 [.sl rs.length (pc rs),dyA x 0,dyA y 0] (.tup [.int .i64 (V0 (Zl rs) x-V0 (Zl rs) y), .int .i64 0]):=by
 have gx:J4 8 (cn x):=(Jq (Wo (n:=x) (by omega))).mono (by omega)
 have gy:J4 8 (cn y):=(Jq (Wo (n:=y) (by omega))).mono (by omega)
 have v1:=N5 (r:=cn x) (e:=((0:Nat):Int)) (gx.mono (show 8≤200 by omega))
 have v2:=N5 (r:=cn y) (e:=((0:Nat):Int)) (gy.mono (show 8≤200 by omega))
 have ev:vE ((0:Nat):Int)=true:=by decide
 rw[ev] at v1 v2
 have hpr:=Yrun34 rs _ (large1 hp (by omega) (by omega)) (P0 (Jb hp (by omega) (by omega)))
 have hch:=Za3 hp hn
 have hlen:=Zax hp hn
 have hnice:=Ra hp hn
 have hc:Xo (Zl rs) ≠ []:=fun h=>h0 (Zaw.1 h)
 have hc1:=List.length_pos_iff.2 hc
 have hpl:=Zcu (Xo (Zl rs))
 have n1:((((pps (Xo (Zl rs))).length:Nat):Int)==0)=false:=by rw[beq_eq_false_iff_ne];omega
 obtain⟨m1,_⟩:=Nq gx gy (a:=0) (b:=0) (by omega) (by omega)
 rw[Qe,Qe] at m1
 have c3:¬ Uw (x*2^0) (y*2^0)>0:=by
  rw[show (2:Int)^0=1 by decide]
  unfold Uw
  split
  ·decide
  ·rw[if_neg (by omega)];decide
 have a1:=B8 hnice gx 0 (by omega) (by omega)
 have a2:=B8 hnice gy 0 (by omega) (by omega)
 rw[Qe] at a1 a2
 have k1:=Znu _ (cn x) ((0:Nat):Int) _ a1
 have k2:=Znu _ (cn y) ((0:Nat):Int) _ a2
 have k:=Zj5 rs _ _ (cn x) (cn y) ((0:Nat):Int) ((0:Nat):Int) 0 _ _ _ true true rfl n1 rfl rfl (decide_eq_false c3) hpr hch v1 v2 m1 k1 k2
 unfold V0 at hv ⊢
 rw[w64 (by omega) (by omega)] at k
 exact k
theorem Zi5 {xs:List Int} {lo hi:Int}:Zd Yir 10 [.sl xs.length (li xs), .int .i64 lo, .int .i64 hi] (.bool true):=by
 have haw:=Yrun47
 by_cases c1:xs.length>7
 ·exact Zka xs lo hi (by rw[decide_eq_true_eq];omega) haw
 have d1:decide ((xs.length:Int)>7)=false:=by rw[decide_eq_false_iff_not];omega
 by_cases c2:lo < -1000
 ·exact Zj9 xs lo hi d1 (decide_eq_true c2) haw
 by_cases c3:hi>1000
 ·exact Zj8 xs lo hi d1 (decide_eq_false c2) (decide_eq_true c3) haw
 by_cases c4:lo>hi
 ·exact Zj7 xs lo hi d1 (decide_eq_false c2) (decide_eq_false c3) (decide_eq_true c4) haw
 have hf:=fac_P xs xs.length
 have hl:=Zd5 (xs:=xs) (lo:=lo) (hi:=hi) (by omega) (by omega) (by omega)
 have hof:Zd Yir 52 [.sl 1 [.int .i64 1]] (.fresh 2 (([1]:List Int).map cn).length (pc (([1]:List Int).map cn))):=by
  have k:=Sn (xs:=[1]) (fun x hx=>by
   rcases List.mem_cons.1 hx with rfl | hx
   ·decide
   ·cases hx) (by decide)
  have e:Ze ([1]:List Int)=[1]:=rfl
  rw[e] at k
  exact k
 have o1:=Zc6 (n:=lo) (by omega)
 have o2:=Zc6 (n:=hi) (by omega)
 have n1:=Znv lo o1
 have n2:=Znv hi o2
 have hfc:=No hf (show lo≤hi by omega)
 have hV:V0 (fP xs xs.length) lo-V0 (fP xs xs.length) hi=cP lo hi (fS xs xs.length):=by
  rw[V0_wv,V0_wv]
  unfold cP
  omega
 have hb:=cP_bd lo hi xs xs.length
 have hc:=Zei (rs:=(fP xs xs.length).map cn) (fun r hr=>(Qj (fP_kb xs (by omega)) r hr).mono (by omega)) (by rw[List.length_map,(P4 xs _).2];omega) (by rw[Qn];exact hf.ne) (x:=lo) (y:=hi) (by omega) (by omega) (by omega) (by rw[Qn,hV];omega)
 rw[Qn,hV] at hc
 have k:=Zj6 xs lo hi _ _ 0 _ _ _ d1 (decide_eq_false c2) (decide_eq_false c3) (decide_eq_false c4) rfl haw hof hl n1 n2 hc
 rw[beq_self_eq_true] at k
 exact k
end Go.Proofs.Ythnnfemologhfaa
