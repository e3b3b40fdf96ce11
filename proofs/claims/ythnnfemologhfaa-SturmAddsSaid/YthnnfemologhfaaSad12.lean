/- Texts of the proof of SturmAdds, packed by pack.py: part 12 of 15. -/
import Derived.KernelRfl
import Derived.Test.YthnnfemologhfaaSad11
namespace Go.Proofs.Ythnnfemologhfaa
open Go.IntKind (i64 u64 u32)
open Go.Ai
set_option maxRecDepth 100000
theorem ax34:Ze Yir 109 [.agg [.bool false, .sl 1 [.int .u32 2]], .agg [.bool true, .sl 1 [.int .u32 1]]] (.agg [.bool false, .sl 1 [.int .u32 1]]):=Zr Qa (Zg _) 400 _ _ _ (by kernel_rfl)
theorem ax35:Ze Yir 86 [.sl 2 [.bool true, .sl 1 [.int .u32 1], .bool false, .sl 1 [.int .u32 2]]] (.fresh 2 2 [.bool true, .sl 1 [.int .u32 1], .bool false, .sl 1 [.int .u32 2]]):=Zr Qa (Zd ax34 (Zd ax6 (Zg _))) 400 _ _ _ (by kernel_rfl)
theorem ax36:Ze Yir 109 [.agg [.bool false, .sl 1 [.int .u32 2]], .agg [.bool false, .sl 1 [.int .u32 1]]] (.agg [.bool false, .sl 1 [.int .u32 1]]):=Zr Qa (Zg _) 400 _ _ _ (by kernel_rfl)
theorem ax37:Ze Yir 92 [.sl 3 [.bool false, .sl 0 [], .bool true, .sl 1 [.int .u32 1], .bool false, .sl 0 []]] (.fresh 2 2 [.bool false, .sl 0 [], .bool true, .sl 1 [.int .u32 1]]):=Zr Qa (Zg _) 400 _ _ _ (by kernel_rfl)
theorem ax38:Ze Yir 86 [.sl 2 [.bool true, .sl 1 [.int .u32 1], .bool false, .sl 0 []]] (.fresh 2 1 [.bool true, .sl 1 [.int .u32 1]]):=Zr Qa (Zd ax15 (Zg _)) 400 _ _ _ (by kernel_rfl)
theorem ax39:Ze Yir 64 [.sl 3 [.bool false, .sl 0 [], .bool true, .sl 1 [.int .u32 1], .bool false, .sl 1 [.int .u32 1]], .sl 2 [.bool true, .sl 1 [.int .u32 1], .bool false, .sl 1 [.int .u32 2]]] (.fresh 2 1 [.bool true, .sl 1 [.int .u32 1]]):=Zr Qa (Zd ax38 (Zd ax37 (Zd ax36 (Zd ax35 (Zd ax34 (Zd ax31 (Zd ax15 (Zd ax3 (Zg _))))))))) 400 _ _ _ (by kernel_rfl)
theorem ax40:Ze Yir 109 [.agg [.bool true, .sl 1 [.int .u32 1]], .agg [.bool false, .sl 1 [.int .u32 2]]] (.agg [.bool false, .sl 1 [.int .u32 1]]):=Zr Qa (Zg _) 400 _ _ _ (by kernel_rfl)
theorem ax41:Ze Yir 109 [.agg [.bool true, .sl 1 [.int .u32 1]], .agg [.bool true, .sl 1 [.int .u32 1]]] (.agg [.bool false, .sl 1 [.int .u32 1]]):=Zr Qa (Zg _) 400 _ _ _ (by kernel_rfl)
theorem ax42:Ze Yir 64 [.sl 2 [.bool true, .sl 1 [.int .u32 1], .bool false, .sl 1 [.int .u32 2]], .sl 1 [.bool true, .sl 1 [.int .u32 1]]] (.fresh 2 0 []):=Zr Qa (Zd ax41 (Zd ax40 (Zd ax38 (Zd ax35 (Zd ax16 (Zg _)))))) 400 _ _ _ (by kernel_rfl)
theorem ax43:Ze Yir 65 [.sl 3 [.bool false, .sl 0 [], .bool true, .sl 1 [.int .u32 1], .bool false, .sl 1 [.int .u32 1]], .sl 2 [.bool true, .sl 1 [.int .u32 1], .bool false, .sl 1 [.int .u32 2]]] (.fresh 2 1 [.bool false, .sl 1 [.int .u32 1]]):=Zr Qa (Zd ax42 (Zd ax39 (Zd ax35 (Zd ax31 (Zd ax3 (Zg _)))))) 400 _ _ _ (by kernel_rfl)
theorem ax44:Ze Yir 66 [.sl 3 [.bool false, .sl 0 [], .bool true, .sl 1 [.int .u32 1], .bool false, .sl 1 [.int .u32 1]]] (.sl 3 [.bool false, .sl 0 [], .bool true, .sl 1 [.int .u32 1], .bool false, .sl 1 [.int .u32 1]]):=Zr Qa (Zd ax43 (Zd ax33 (Zd ax31 (Zd ax3 (Zg _))))) 400 _ _ _ (by kernel_rfl)
theorem ax45:Ze Yir 109 [.agg [.bool false, .sl 1 [.int .u32 1]], .agg [.bool false, .sl 1 [.int .u32 2]]] (.agg [.bool false, .sl 1 [.int .u32 1]]):=Zr Qa (Zg _) 400 _ _ _ (by kernel_rfl)
theorem ax46:Ze Yir 109 [.agg [.bool false, .sl 1 [.int .u32 1]], .agg [.bool true, .sl 1 [.int .u32 1]]] (.agg [.bool false, .sl 1 [.int .u32 1]]):=Zr Qa (Zg _) 400 _ _ _ (by kernel_rfl)
theorem ax47:Ze Yir 64 [.sl 2 [.bool true, .sl 1 [.int .u32 1], .bool false, .sl 1 [.int .u32 2]], .sl 1 [.bool false, .sl 1 [.int .u32 1]]] (.fresh 2 0 []):=Zr Qa (Zd ax46 (Zd ax45 (Zd ax38 (Zd ax35 (Zd ax21 (Zg _)))))) 400 _ _ _ (by kernel_rfl)
theorem ax48:Ze Yir 98 [.agg [.bool false, .sl 0 [], .int .i64 0], .agg [.bool false, .sl 1 [.int .u32 1], .int .i64 0]] (.int .i64 (-1)):=Zr Qa (Zg _) 400 _ _ _ (by kernel_rfl)
theorem ax49:Ze Yir 78 [.sl 3 [.bool false, .sl 0 [], .bool true, .sl 1 [.int .u32 1], .bool false, .sl 1 [.int .u32 1]], .agg [.bool false, .sl 0 [], .int .i64 0]] (.int .i64 0):=Zr Qa (Zg _) 400 _ _ _ (by kernel_rfl)
theorem ax50:Ze Yir 78 [.sl 2 [.bool true, .sl 1 [.int .u32 1], .bool false, .sl 1 [.int .u32 2]], .agg [.bool false, .sl 0 [], .int .i64 0]] (.int .i64 (-1)):=Zr Qa (Zg _) 400 _ _ _ (by kernel_rfl)
theorem ax51:Ze Yir 78 [.sl 3 [.bool false, .sl 0 [], .bool true, .sl 1 [.int .u32 1], .bool false, .sl 1 [.int .u32 1]], .agg [.bool false, .sl 1 [.int .u32 1], .int .i64 0]] (.int .i64 0):=Zr Qa (Zg _) 400 _ _ _ (by kernel_rfl)
theorem ax52:Ze Yir 78 [.sl 2 [.bool true, .sl 1 [.int .u32 1], .bool false, .sl 1 [.int .u32 2]], .agg [.bool false, .sl 1 [.int .u32 1], .int .i64 0]] (.int .i64 1):=Zr Qa (Zg _) 400 _ _ _ (by kernel_rfl)
theorem ax53:Ze Yir 78 [.sl 1 [.bool false, .sl 1 [.int .u32 1]], .agg [.bool false, .sl 1 [.int .u32 1], .int .i64 0]] (.int .i64 1):=Zr Qa (Zg _) 400 _ _ _ (by kernel_rfl)
theorem ax54:Ze Yir 50 [.sl 3 [.bool false, .sl 0 [], .bool true, .sl 1 [.int .u32 1], .bool false, .sl 1 [.int .u32 1]], .agg [.bool false, .sl 0 [], .int .i64 0], .agg [.bool false, .sl 1 [.int .u32 1], .int .i64 0]] (.tup [.int .i64 1, .int .i64 0]):=Zr Qa (Zd ax53 (Zd ax52 (Zd ax51 (Zd ax50 (Zd ax49 (Zd ax48 (Zd ax47 (Zd ax44 (Zd ax39 (Zd ax35 (Zd ax33 (Zd ax32 (Zd ax26 (Zg _)))))))))))))) 400 _ _ _ (by kernel_rfl)
theorem ax55:Ze Yir 95 [.sl 3 [.bool true, .sl 1 [.int .u32 2], .bool false, .sl 0 [], .bool false, .sl 1 [.int .u32 1]]] (.tup [.sl 3 [.sl 3 [.bool true, .sl 1 [.int .u32 2], .bool false, .sl 0 [], .bool false, .sl 1 [.int .u32 1]], .sl 2 [.bool false, .sl 0 [], .bool false, .sl 1 [.int .u32 1]], .sl 1 [.bool false, .sl 1 [.int .u32 1]]], .int .i64 0]):=Zr Qa (Zd ax22 (Zd ax21 (Zd ax20 (Zd ax14 (Zd ax9 (Zd ax8 (Zd ax5 (Zd ax4 (Zg _))))))))) 400 _ _ _ (by kernel_rfl)
theorem ax56:Ze Yir 107 [.agg [.bool false, .sl 1 [.int .u32 1], .int .i64 0], .agg [.bool false, .sl 1 [.int .u32 2], .int .i64 0]] (.agg [.bool false, .sl 1 [.int .u32 3], .int .i64 1]):=Zr Qa (Zg _) 400 _ _ _ (by kernel_rfl)
end Go.Proofs.Ythnnfemologhfaa

namespace Go.Proofs.Ythnnfemologhfaa
open Go.IntKind (i64 u64 u32)
open Go.Ai
set_option maxRecDepth 100000
theorem ax57:Ze Yir 47 [] (.bool true):=Zr Qa (Zd ax56 (Zd ax55 (Zd ax54 (Zd ax30 (Zd ax1 (Zd ax0 (Zg _))))))) 400 _ _ _ (by kernel_rfl)
theorem Yrun47:Ze Yir 47 [] (.bool true):=ax57
end Go.Proofs.Ythnnfemologhfaa

namespace Go.Proofs.Ythnnfemologhfaa
open Go.IntKind (i64 u64 u32)
open Go.Ai
set_option maxRecDepth 100000
theorem Zcx {n k:Nat} (h:n<32*k):Je k ((2:Int)^n):=by
 unfold Je
 rw[Int.natAbs_pow]
 show 2^n<4294967296^k
 rw[show (4294967296:Nat)=2^32 by decide,← Nat.pow_mul]
 exact Nat.pow_lt_pow_right (by decide) h
theorem Zg5 {a b:Nat} (ha:a≤4096) (hb:b≤4096):i64.wrap ((if (b:Int)>(a:Int) then (b:Int) else (a:Int))-(a:Int))=((max a b-a:Nat):Int):=by
 split <;> rw[w64 (by omega) (by omega)] <;> omega
theorem Zg4 {a b:Nat} (ha:a≤4096) (hb:b≤4096):i64.wrap ((if (b:Int)>(a:Int) then (b:Int) else (a:Int))-(b:Int))=((max a b-b:Nat):Int):=by
 split <;> rw[w64 (by omega) (by omega)] <;> omega
theorem Tk {a b c:Int} (hc:0<c):Ux (a*c) (b*c)=Ux a b:=by
 unfold Ux
 have h1:a*c<b*c↔a<b:=Int.mul_lt_mul_right hc
 have h2:b*c<a*c↔b<a:=Int.mul_lt_mul_right hc
 simp only[h1,h2]
theorem Zmv (X Y:Int) (a b:Nat):Ux (X*2^(max a b-a)) (Y*2^(max a b-b))=Ux (X*2^b) (Y*2^a):=by
 have h:=Tk (a:=X*2^(max a b-a)) (b:=Y*2^(max a b-b)) (Ju (min a b))
 rw[← h,Int.mul_assoc,Int.mul_assoc,← Int.pow_add,← Int.pow_add,show max a b-a+min a b=b by omega,show max a b-b+min a b=a by omega]
def dyR (r:Rn) (e:Int):AV := .agg [.bool r.1, .sl r.2.length (lm r.2), .int .i64 e]
def vE (e:Int):Bool:=decide (e≥0)&&decide (e≤4096)
theorem E6 {r:Rn} {e:Int} (hg:Xj 200 r):Ze Yir 97 [dyR r e] (.bool (vE e)):=by
 unfold vE
 by_cases h1:e≥0
 ·by_cases h2:e≤4096
  ·have hs:=Db (neg:=r.1) hg.1 (by have:=hg.2;omega)
   have hl:=Uy (neg:=r.1) hg.1
   have h2':=hg.2
   have k:=Zh5 r e _ (decide_eq_true h1) (decide_eq_true h2) hs
   rw[decide_eq_true (show (((Zb (rv r.1 r.2).natAbs).length:Nat):Int)≤256 by omega)] at k
   rw[decide_eq_true h1,decide_eq_true h2]
   exact k
  ·rw[decide_eq_true h1,decide_eq_false h2]
   exact Zh4 r e (decide_eq_true h1) (decide_eq_false h2)
 ·rw[decide_eq_false h1,Bool.false_and]
  exact Zh3 r e (decide_eq_false h1)
theorem Ec {r:Rn} (hr:Xj 8 r) {n:Nat} (hn:n≤4096):Ze Yir 124 [Z8 r, .int .i64 (n:Nat)] (Zp (Zt r*2^n))∧Ze Yir 126 [Z8 r, .int .i64 (n:Nat)] (E4 (Zt r*2^n))∧Je 137 (Zt r*2^n):=by
 have h2:=hr.2
 exact⟨Pn hr.1 n (by omega) (by omega),Zl8 hr.1 n (by omega),(hr.fits.mul (Zcx (k:=129) (by omega))).mono (by omega)⟩
section
variable {r t:Rn} (hr:Xj 8 r) (ht:Xj 8 t)
include hr ht
end
end Go.Proofs.Ythnnfemologhfaa

namespace Go.Proofs.Ythnnfemologhfaa
open Go.IntKind (i64 u64 u32)
open Go.Ai
set_option maxRecDepth 100000
def Uu:Nat→List Int→List Int→List (List Int)
 | 0,_,_=>[]
 | f+1,a,b=>if b=[] then [] else b::Uu f b (Xs (Qq a b))
def J0 (p:List Int):List (List Int):=if Z7 p=[] then [] else Z7 p::Uu (Z7 p).length (Z7 p) (prim (Z9 (Z7 p)))
theorem Ky {p:List Int} (h:prim p=p):prim (Xs p)=Xs p:=by
 by_cases h0:p=[]
 ·subst h0;rfl
 ·have hl:Uc p:=J1 h
  have h1:=W0 (xs:=p) (by rw[hl];exact h0)
  rw[h] at h1
  exact G7 (Wu hl) (by rw[N7];exact h1)
theorem Zcg {K:Nat} {p:List Int} (h:Kb K p):Kb K (Xs p):=fun i=>by rw [Vy];exact (h i).neg
def pps (l:List (List Int)):List (List Rn):=l.map fun p=>p.map cn
theorem Zme (ls:List (List Rn)) (rs:List Rn):pp ls++([.sl rs.length (pc rs)]:List AV)=pp (ls++[rs]):=by simp [pp]
def Nice (p:List Int):Prop:=Kb 500000 p∧p.length≤9∧Uc p
theorem Lz:∀ (f:Nat) (x y:List Int) (M:Nat),0<M→y.length≤x.length→x.length≤9→prim x=x→prim y=y→Kb (M-1) x→Kb (M-1) y→M*phi x.length y.length≤500000 →
  ∀ p∈Uu f x y,Nice p:=by
 intro f
 induction f with
 | zero=>intro x y M _ _ _ _ _ _ _ _ p hp;cases hp
 | succ f ih =>
  intro x y M hM h2 h3 px py kx ky hphi p hp
  simp only[Uu] at hp
  split at hp
  ·cases hp
  ·rename_i h
   obtain⟨r1,r2,r3⟩:=Fx hM (J1 px) h kx ky h2
   have hM':0<M*(x.length-y.length+2):=Nat.mul_pos hM (by omega)
   have hMle:M≤M*(x.length-y.length+2):=Nat.le_mul_of_pos_right M (by omega)
   have hb:M*1≤M*phi x.length y.length:=Nat.mul_le_mul_left _ (by unfold phi;exact Nat.mul_pos (by omega) (Nat.pow_pos (by decide)))
   rcases List.mem_cons.1 hp with rfl | hp
   ·exact⟨ky.mono (by omega),by omega,J1 py⟩
   ·exact ih y (Xs (Qq x y)) (M*(x.length-y.length+2)) hM' (by rw[Jv];omega) (by omega) py (Ky (W7 _ _ _ px)) (ky.mono (by omega)) (Zcg r3) (by rw[Jv];exact Fz r2 hphi) p hp
theorem Ay:∀ (f:Nat) (x y:List Int),(Uu f x y).length≤f
 | 0,_,_=>Nat.le_refl _
 | f+1,x,y=>by
  simp only[Uu]
  split
  ·simp
  ·have:=Ay f y (Xs (Qq x y));simp;omega
theorem Tm:∀ (f:Nat) (x y:List Int) (M:Nat) (ls:List (List Rn)),0<M→y.length≤f→y.length≤x.length→x.length≤9→prim x=x→prim y=y→Kb (M-1) x→Kb (M-1) y→M*phi x.length y.length≤500000→ls.length+f≤1000 →
  ∃ as' bs',Za Yir (.loop Zr4) (Zfy (x.map cn) ls.length (pp ls) (y.map cn)) (.exit 0) (Zfy as' (ls++pps (Uu f x y)).length (pp (ls++pps (Uu f x y))) bs'):=by
 intro f
 induction f with
 | zero =>
  intro x y M ls _ h1 _ _ _ _ _ _ _ _
  have:y=[]:=List.eq_nil_of_length_eq_zero (by omega)
  subst this
  have e:ls++pps (Uu 0 x [])=ls:=by simp[pps,Uu]
  rw[e]
  exact⟨_,_,Za.loop_out (Zlw _ _ _ _ (by simp)) (by intro e;cases e)⟩
 | succ f ih =>
  intro x y M ls hM h1 h2 h3 px py kx ky hphi hls
  simp only[Uu]
  split
  ·rename_i h
   subst h
   have e:ls++pps []=ls:=by simp[pps]
   rw[e]
   exact⟨_,_,Za.loop_out (Zlw _ _ _ _ (by simp)) (by intro e;cases e)⟩
  ·rename_i h
   have hyl:=List.length_pos_iff.2 h
   obtain⟨r1,r2,r3⟩:=Fx hM (J1 px) h kx ky h2
   have hM':0<M*(x.length-y.length+2):=Nat.mul_pos hM (by omega)
   have hMle:M≤M*(x.length-y.length+2):=Nat.le_mul_of_pos_right M (by omega)
   have hbig:M*(x.length-y.length+2)≤500000:=by
    refine Nat.le_trans (Nat.mul_le_mul_left _ ?_) hphi
    unfold phi
    exact Nat.le_mul_of_pos_right _ (Nat.pow_pos (by decide))
   have hrem:=Vm (rs:=x.map cn) (ss:=y.map cn) (Qo kx) (Qo ky) (by omega) (by omega) (by rw[List.length_map];omega) (by rw[List.length_map];omega) (by rw[Qu,py];exact h) (by
    rw[Qu,Qu,px,py,Nat.sub_add_cancel hM,show x.length+1-y.length=x.length-y.length+1 by omega,Nat.mul_comm _ M]
    have:M*(x.length-y.length+2)=M*(x.length-y.length+1)+M:=by rw[← Nat.mul_succ]
    omega)
   rw[Qu,Qu,px,py] at hrem
   have hneg:=Wb (rs:=(Qq x y).map cn) (fun r hr=>(Qo r3 r hr).mono (by omega)) (by rw[List.length_map];omega)
   rw[Qu] at hneg
   have hneg':Ze Yir 127 [.sl ((Qq x y).map cn).length (pc ((Qq x y).map cn))] (.fresh 2 ((Xs (Qq x y)).map cn).length (pc ((Xs (Qq x y)).map cn))):=by
    have e:((Xs (Qq x y)).map cn).length=((Qq x y).map cn).length:=by rw[List.length_map,List.length_map,Jv]
    rw[e];exact hneg
   have k:=Yk96_1 (x.map cn) ls.length (pp ls) (y.map cn) _ _ (by simp;omega) (by omega) (Tc hrem) hneg'
   rw[Zme] at k
   obtain⟨as',bs',hb⟩:=ih y (Xs (Qq x y)) (M*(x.length-y.length+2)) (ls++[y.map cn]) hM' (by rw[Jv];omega) (by rw[Jv];omega) (by omega) py (Ky (W7 _ _ _ px)) (ky.mono (by omega)) (Zcg r3) (by rw[Jv];exact Fz r2 hphi) (by rw[List.length_append];simp;omega)
   have e:ls++[y.map cn]++pps (Uu f y (Xs (Qq x y)))=ls++pps (y::Uu f y (Xs (Qq x y))):=by simp[pps]
   rw[e] at hb
   have el:(ls++[y.map cn]).length=ls.length+1:=by simp
   rw[el] at hb
   exact⟨as',bs',Za.loop k hb⟩
theorem V9 {rs:List Rn} (hr:∀ r∈rs,Xj 4 r) (hn:rs.length≤9) (h0:Z7 (Zj rs) ≠ []) :
  prim (Z7 (Zj rs))=Z7 (Zj rs)∧Kb 9 (Z7 (Zj rs))∧Kb 9 (Z9 (Z7 (Zj rs)))∧(Z7 (Zj rs)).length≤9∧(Z9 (Z7 (Zj rs))).length≤(Z7 (Zj rs)).length-1∧(prim (Z9 (Z7 (Zj rs)))).length≤(Z9 (Z7 (Zj rs))).length ∧
  10*phi (Z7 (Zj rs)).length (prim (Z9 (Z7 (Zj rs)))).length≤500000∧Uc (Z7 (Zj rs)):=by
 have ht:Zh (Zj rs) ≠ []:=by
  intro h
  have hz:prim (Zj rs)=[]:=by rw[Xu,← J4];exact h
  apply h0
  unfold Z7;rw[hz];rfl
 obtain⟨lf,cf,_,_,_,_,_,_⟩:=Ht ht
 obtain⟨k1,k2⟩:=Rv ht (by rw[Z0];exact hn) (Nr (Xg hr))
 have t1:=Qz (Zj rs)
 rw[Z0] at t1
 have k3:=Zch k1 (by omega)
 have d1:(Z9 (Z7 (Zj rs))).length≤(Z7 (Zj rs)).length-1:=by
  unfold Z9
  have:=Qz ((List.range ((Z7 (Zj rs)).length-1)).map fun j=>(Z7 (Zj rs)).getD (j+1) 0*((j+1:Nat):Int))
  rwa [List.length_map,List.length_range] at this
 have d2:(prim (Z9 (Z7 (Zj rs)))).length≤(Z9 (Z7 (Zj rs))).length:=by rw[Qp];exact Qz _
 refine⟨G7 lf cf,k1.mono (by omega),k3.mono (by omega),by omega,d1,d2,?_,lf⟩
 have:=Ld (n:=(Z7 (Zj rs)).length) (m:=(prim (Z9 (Z7 (Zj rs)))).length) (c:=9) (by omega) (by omega)
 have h3:2*3^9=39366:=by decide
 omega
theorem Ly {rs:List Rn} (hr:∀ r∈rs,Xj 4 r) (hn:rs.length≤9):∀ p∈J0 (Zj rs),Nice p:=by
 intro p hp
 unfold J0 at hp
 split at hp
 ·cases hp
 ·rename_i h0
  obtain⟨p1,k1,k2,l1,l2,l3,hphi,lf⟩:=V9 hr hn h0
  rcases List.mem_cons.1 hp with rfl | hp
  ·exact⟨k1.mono (by omega),l1,lf⟩
  ·exact Lz _ _ _ 10 (by decide) (by omega) l1 p1 (Qx _) k1 k2.prim hphi p hp
theorem To {rs:List Rn} (hr:∀ r∈rs,Xj 4 r) (hn:rs.length≤9):(J0 (Zj rs)).length≤10:=by
 unfold J0
 split
 ·simp
 ·rename_i h0
  obtain⟨_,_,_,l1,_⟩:=V9 hr hn h0
  have:=Ay (Z7 (Zj rs)).length (Z7 (Zj rs)) (prim (Z9 (Z7 (Zj rs))))
  simp;omega
theorem Tv {rs:List Rn} (hr:∀ r∈rs,Xj 4 r) (hn:rs.length≤9):Ze Yir 96 [.sl rs.length (pc rs)] (.fresh 1 (pps (J0 (Zj rs))).length (pp (pps (J0 (Zj rs))))):=by
 have hf:=Zdl hr hn (by omega) (by decide)
 by_cases h0:Z7 (Zj rs)=[]
 ·have e:J0 (Zj rs)=[]:=by unfold J0;rw[if_pos h0]
  rw[e]
  rw[h0] at hf
  rcases hf with h | h
  ·exact Tz rs [] (by decide) h
  ·exact Tx rs [] (by decide) h
 ·obtain⟨p1,k1,k2,l1,l2,l3,hphi,lf⟩:=V9 hr hn h0
  have e:J0 (Zj rs)=Z7 (Zj rs)::Uu (Z7 (Zj rs)).length (Z7 (Zj rs)) (prim (Z9 (Z7 (Zj rs)))):=by unfold J0;rw[if_neg h0]
  have hd:=Fh (rs:=(Z7 (Zj rs)).map cn) (Qo k1) (by omega) (by rw[List.length_map];omega)
  rw[Qu] at hd
  have hp:=Q6 (rs:=(Z9 (Z7 (Zj rs))).map cn) (Qo k2) (by omega) (by rw[List.length_map];omega)
  rw[Qu] at hp
  obtain⟨as',bs',hl⟩:=Tm (Z7 (Zj rs)).length (Z7 (Zj rs)) (prim (Z9 (Z7 (Zj rs)))) 10 [(Z7 (Zj rs)).map cn] (by decide) (by omega) (by omega) l1 p1 (Qx _) k1 k2.prim hphi (by simp;omega)
  have e2:[(Z7 (Zj rs)).map cn]++pps (Uu (Z7 (Zj rs)).length (Z7 (Zj rs)) (prim (Z9 (Z7 (Zj rs)))))=pps (J0 (Zj rs)):=by rw[e];simp[pps]
  rw[e2] at hl
  have c1:(((((Z7 (Zj rs)).map cn).length:Nat):Int)==0)=false:=by
   rw[beq_eq_false_iff_ne,List.length_map]
   have:=List.length_pos_iff.2 h0
   omega
  rcases hf with h | h
  ·exact Ty rs _ _ _ as' bs' _ c1 h (Tc hd) (Tc hp) hl
  ·exact Tw rs _ _ _ as' bs' _ c1 h (Tc hd) (Tc hp) hl
def Sh (x:Int × Int) (s:Int):Int × Int:=(if s ≠ 0∧x.2 ≠ 0∧s ≠ x.2 then x.1+1 else x.1,if s ≠ 0 then s else x.2)
def Sq (l:List (List Int)) (N:Int) (e:Nat) (i:Nat):Int:=Vc (hv (l.getD i []) N (2^e))
def Xo (l:List (List Int)) (N:Int) (e:Nat):Nat→Int × Int
 | 0=>(0,0)
 | i+1=>Sh (Xo l N e i) (Sq l N e i)
theorem Hk (l:List (List Int)) (N:Int) (e:Nat):∀ i:Nat,0≤(Xo l N e i).1∧(Xo l N e i).1≤(i:Int)
 | 0=>by simp[Xo]
 | i+1=>by
  have:=Hk l N e i
  simp only[Xo,Sh]
  split <;> omega
theorem Zgx {l:List (List Int)} {i:Nat} (h:i<l.length):(pps l).getD i []=(l.getD i []).map cn:=by
 unfold pps
 rw[List.getD_eq_getElem?_getD,List.getElem?_map,List.getD_eq_getElem?_getD,List.getElem?_eq_getElem h];rfl
theorem Zbj (l:List (List Int)):(pps l).length=l.length:=List.length_map ..
section
variable {l:List (List Int)} {r:Rn} (hl:∀ p∈l,Nice p) (hr:Xj 8 r) (hN:l.length≤100) (e:Nat) (he:e≤300)
include hl hr he
theorem at_run {i:Nat} (hi:i<l.length):Ze Yir 78 [.sl ((pps l).getD i []).length (pc ((pps l).getD i [])), .agg [.bool r.1, .sl r.2.length (lm r.2), .int .i64 (e:Nat)]] (.int .i64 (Sq l (Zt r) e i)):=by
 rw[Zgx hi]
 have hm:l.getD i []∈l:=by rw[List.getD_eq_getElem?_getD,List.getElem?_eq_getElem hi];exact List.getElem_mem hi
 obtain⟨h1,h2,h3⟩:=hl _ hm
 have h:=L1 (rs:=(l.getD i []).map cn) (Qo h1) hr e (by
  rw[List.length_map]
  have h4:((l.getD i []).length+1)*(8+(e / 32+1)+1)≤10*20:=Nat.mul_le_mul (by omega) (by omega)
  omega) (by omega)
 rw[Qu] at h
 exact h
theorem Bh (hN:l.length≤100):Ze Yir 100 [.sl (pps l).length (pp (pps l)), .agg [.bool r.1, .sl r.2.length (lm r.2), .int .i64 (e:Nat)]] (.int .i64 (Xo l (Zt r) e l.length).1):=by
 have hpl:=Zbj l
 have h:=Za.up (prog:=Yir) (c:=Mw) (ex := .exit 0) (fin:=Ge (pps l) r (e:Nat) (Xo l (Zt r) e l.length).1 (Xo l (Zt r) e l.length).2 (((pps l).length:Nat):Int) (l.length:Nat))
  (fun i=>Ge (pps l) r (e:Nat) (Xo l (Zt r) e i).1 (Xo l (Zt r) e i).2 (((pps l).length:Nat):Int) (i:Nat)) l.length (by intro e;cases e) ?_ ?_ 0 (Nat.zero_le _)
 ·exact Znl (pps l) r (e:Nat) _ _ _ h
 ·intro i hi
  have ei:i64.wrap ((i:Int)+1)=((i+1:Nat):Int):=by rw[w64 (by omega) (by omega)];omega
  have hs:=at_run hl hr e he hi
  have hb:=Hk l (Zt r) e i
  have w1:i64.wrap ((Xo l (Zt r) e i).1+1)=(Xo l (Zt r) e i).1+1:=w64 (by omega) (by omega)
  have c1:decide ((i:Int)<(((pps l).length:Nat):Int))=true:=by rw[decide_eq_true_eq];omega
  simp only[Xo,Sh]
  by_cases g1:Sq l (Zt r) e i=0
  ·rw[if_neg (fun h=>h.1 g1),if_neg (fun h=>h g1)]
   have k:=Zpc (pps l) r (e:Nat) (Xo l (Zt r) e i).1 (Xo l (Zt r) e i).2 (((pps l).length:Nat):Int) (i:Nat) (Sq l (Zt r) e i) c1 (by rw[bne_eq_false_iff_eq];exact g1) (by omega) (by rw[Int.toNat_natCast];exact hs)
   rwa [ei] at k
  ·by_cases g2:(Xo l (Zt r) e i).2=0
   ·rw[if_neg (fun h=>h.2.1 g2),if_pos g1]
    have k:=Zpd (pps l) r (e:Nat) (Xo l (Zt r) e i).1 (Xo l (Zt r) e i).2 (((pps l).length:Nat):Int) (i:Nat) (Sq l (Zt r) e i) c1 (by rw[bne_iff_ne];exact g1) (by rw[bne_eq_false_iff_eq];exact g2) (by omega) (by rw[Int.toNat_natCast];exact hs)
    rwa [ei] at k
   ·by_cases g3:Sq l (Zt r) e i=(Xo l (Zt r) e i).2
    ·rw[if_neg (fun h=>h.2.2 g3),if_pos g1]
     have k:=Zpe (pps l) r (e:Nat) (Xo l (Zt r) e i).1 (Xo l (Zt r) e i).2 (((pps l).length:Nat):Int) (i:Nat) (Sq l (Zt r) e i) c1 (by rw[bne_iff_ne];exact g1) (by rw[bne_iff_ne];exact g2) (by rw[bne_eq_false_iff_eq];exact g3) (by omega) (by rw[Int.toNat_natCast];exact hs)
     rwa [ei] at k
    ·rw[if_pos ⟨g1,g2,g3⟩,if_pos g1]
     have k:=Zpf (pps l) r (e:Nat) (Xo l (Zt r) e i).1 (Xo l (Zt r) e i).2 (((pps l).length:Nat):Int) (i:Nat) (Sq l (Zt r) e i) c1 (by rw[bne_iff_ne];exact g1) (by rw[bne_iff_ne];exact g2) (by rw[bne_iff_ne];exact g3) (by omega) (by rw[Int.toNat_natCast];exact hs)
     rwa [ei,w1] at k
 ·exact Zpb (pps l) r _ _ _ _ _ (by rw[decide_eq_false_iff_not];omega)
end
end Go.Proofs.Ythnnfemologhfaa

namespace Go.Proofs.Ythnnfemologhfaa
open Go.IntKind (i64 u64 u32)
open Go.Ai
set_option maxRecDepth 100000
theorem Zhk (rs:List Rn):Ze Yir 48 [.sl rs.length (pc rs)] (.bool (fewB 9 4 rs)):=by
 unfold fewB
 by_cases h10:rs.length≤9
 ·rw[decide_eq_true h10,Bool.true_and]
  have c1:decide ((rs.length:Int)>9)=false:=by rw[decide_eq_false_iff_not];omega
  have step:∀ t:Nat,t<rs.length→(rs.getD t z0).2.length≤4→Za Yir Zk5 (Sa false rs (t:Nat)) .norm (Sa false rs ((t+1:Nat):Int)):=by
   intro t ht hb
   have ei:i64.wrap ((t:Int)+1)=((t+1:Nat):Int):=by rw[w64 (by omega) (by omega)];omega
   have k2:=Yk48_2 false rs (t:Nat) (by simp;omega) (by rw[Int.toNat_natCast,decide_eq_false_iff_not];omega) (by omega)
   rwa [ei] at k2
  rcases Gy (fun j => !decide ((rs.getD j z0).2.length≤4)) rs.length _ 0 (by rw[Nat.zero_add]) with h | ⟨j,_,h2,h3,h4⟩
  ·have hall:(rs.all fun r=>decide (r.2.length≤4))=true:=by
    rw[List.all_eq_true]
    intro r hr
    obtain⟨i,hi,rfl⟩:=List.mem_iff_getElem.1 hr
    have:=h i (by omega) hi
    rw[List.getD_eq_getElem?_getD,List.getElem?_eq_getElem hi] at this
    simpa using this
   rw[hall]
   exact T0 rs _ c1 (Za.upTo (prog:=Yir) (c:=Zk5) (ex := .exit 0) (fun t=>Sa false rs (t:Nat)) rs.length (by intro e;cases e) (Yk48_3 false rs _ (by simp)) 0 (Nat.zero_le _) (fun t _ h6=>step t h6 (by simpa using h t (by omega) h6)))
  ·have hall:(rs.all fun r=>decide (r.2.length≤4))=false:=by
    rw[List.all_eq_false]
    refine⟨rs.getD j z0,?_,by simpa using h3⟩
    rw[List.getD_eq_getElem?_getD,List.getElem?_eq_getElem h2]
    exact List.getElem_mem h2
   rw[hall]
   have h3':¬ (rs.getD j z0).2.length≤4:=by simpa using h3
   have out:=Yk48_1 false rs (j:Nat) (by simp;omega) (by rw[Int.toNat_natCast,decide_eq_true_eq];omega) (by omega)
   exact T1 rs _ c1 (Za.upTo (prog:=Yir) (c:=Zk5) (ex := .ret) (fun t=>Sa false rs (t:Nat)) j (by intro e;cases e) out 0 (Nat.zero_le _) (fun t _ h6=>step t (by omega) (by simpa using h4 t (by omega) h6)))
 ·rw[decide_eq_false h10,Bool.false_and]
  exact T2 rs (by rw[decide_eq_true_eq];omega)
theorem Tn {p:List Int}:J0 p=[]↔Zh p=[]:=by
 constructor
 ·intro h
  apply Classical.byContradiction
  intro h1
  obtain⟨_,_,_,h2,_⟩:=Ht h1
  unfold J0 at h
  rw[if_neg h2] at h
  cases h
 ·intro h
  have hz:prim p=[]:=by rw[Xu,← J4];exact h
  have e:Z7 p=[]:=by unfold Z7;rw[hz];rfl
  unfold J0
  rw[if_pos e]
section
variable {r t:Rn} (hr:Xj 8 r) (ht:Xj 8 t)
include hr ht
theorem Er {a b:Nat} (ha:a≤4096) (hb:b≤4096):Ze Yir 98 [dyR r (a:Nat),dyR t (b:Nat)] (.int .i64 (Ux (Zt r*2^b) (Zt t*2^a)))∧Ze Yir 102 [dyR r (a:Nat),dyR t (b:Nat)] (.int .i64 (Ux (Zt r*2^b) (Zt t*2^a))):=by
 obtain⟨x1,_,x3⟩:=Ec hr (n:=max a b-a) (by omega)
 obtain⟨y1,_,y3⟩:=Ec ht (n:=max a b-b) (by omega)
 obtain⟨_,x2,x4⟩:=Ec hr (n:=b) hb
 obtain⟨_,y2,y4⟩:=Ec ht (n:=a) ha
 have g1:=Jy x3
 have g2:=Jy y3
 have g3:=Jy x4
 have g4:=Jy y4
 have p:=Zf6 (na:=(cn (Zt r*2^(max a b-a))).1) (nb:=(cn (Zt t*2^(max a b-b))).1) g1.1 g2.1 (by have:=g1.2;omega) (by have:=g2.2;omega)
 have q:=Zgu (na:=(cn (Zt r*2^b)).1) (nb:=(cn (Zt t*2^a)).1) g3.1 g4.1 (by have:=g3.2;omega) (by have:=g4.2;omega)
 rw[show ∀ n,rv (cn n).1 (cn n).2=n from Qe,show ∀ n,rv (cn n).1 (cn n).2=n from Qe,Zmv] at p
 rw[show ∀ n,rv (cn n).1 (cn n).2=n from Qe,show ∀ n,rv (cn n).1 (cn n).2=n from Qe] at q
 exact⟨Yrun98 r t (a:Nat) (b:Nat) _ _ _ (by rw[Zg5 ha hb];exact x1) (by rw[Zg4 ha hb];exact y1) p,Znk r t (a:Nat) (b:Nat) _ _ _ x2 y2 q⟩
end
end Go.Proofs.Ythnnfemologhfaa

namespace Go.Ai
open Go.IntKind (i64 u64 u32)
def hs (c:Nat→Int) (x q:Int):Nat→Int
 | 0=>c 0
 | T+1=>q*hs c x q T+c (T+1)*x^(T+1)
theorem Ap {c d:Nat→Int} {x q:Int}:∀ {T:Nat},(∀ i,i≤T→c i=d i)→hs c x q T=hs d x q T
 | 0,h=>h 0 (Nat.le_refl _)
 | T+1,h=>by
  simp only[hs]
  rw[Ap (T:=T) fun i hi=>h i (by omega),h (T+1) (Nat.le_refl _)]
theorem Ao (a b:Int) (c d:Nat→Int) (x q:Int):∀ T:Nat,hs (fun i=>a*c i+b*d i) x q T=a*hs c x q T+b*hs d x q T
 | 0=>rfl
 | T+1=>by
  simp only[hs]
  rw[Ao a b c d x q T]
  grind
theorem Zcm {c:Nat→Int} {T:Nat} (h:∀ i,T<i→c i=0) (x q:Int):∀ k:Nat,hs c x q (T+k)=q^k*hs c x q T
 | 0=>by simp
 | k+1=>by
  rw[← Nat.add_assoc]
  simp only[hs]
  rw[Zcm h x q k,h _ (by omega),Int.pow_succ]
  grind
theorem F4 (c:Nat→Int) (x q:Int):∀ T:Nat,hs c x q (T+1)=c 0*q^(T+1)+x*hs (fun i=>c (i+1)) x q T
 | 0=>by simp only[hs];grind
 | T+1=>by
  have h:=F4 c x q T
  have e1:hs c x q (T+1+1)=q*hs c x q (T+1)+c (T+1+1)*x^(T+1+1):=rfl
  have e2:hs (fun i=>c (i+1)) x q (T+1)=q*hs (fun i=>c (i+1)) x q T+c (T+1+1)*x^(T+1):=rfl
  rw[e1,h,e2,Int.pow_succ q (T+1),Int.pow_succ x (T+1)]
  grind
theorem Zhg (c:Nat→Int) (x q:Int) (T:Nat):hs (fun i=>if i=0 then 0 else c (i-1)) x q (T+1)=x*hs c x q T:=by
 rw[F4]
 simp only[if_pos,Int.zero_mul,Int.zero_add]
 rw[Ap (d:=c) fun i _=>by rw[if_neg (by omega),Nat.add_sub_cancel]]
def hp (p:List Int) (x q:Int) (T:Nat):Int:=hs (fun i=>p.getD i 0) x q T
theorem hp_hv:∀ (p:List Int) (x q:Int),hv p x q=hp p x q (p.length-1)
 | [],_,_=>rfl
 | [a],x,q=>by simp[hv,hp,hs]
 | a::b::p,x,q=>by
  have ih:=hp_hv (b::p) x q
  have e:hp (a::b::p) x q ((a::b::p).length-1)=a*q^(b::p).length+x*hp (b::p) x q ((b::p).length-1):=by
   unfold hp
   show hs _ x q ((b::p).length-1+1)=_
   rw[F4]
   rfl
  rw[e,← ih];rfl
theorem Em {p:List Int} {T:Nat} (h:p.length≤T+1) (x q:Int) (k:Nat):hp p x q (T+k)=q^k*hp p x q T :=
 Zcm (fun i hi=>Qt (by omega)) x q k
theorem Rw (x q:Int):∀ T:Nat,hp [] x q T=0
 | 0=>rfl
 | T+1=>by
  have:=Rw x q T
  unfold hp at *
  simp only[hs]
  rw[this];simp
theorem Zco {r:List Int} {tr:Nat} (hr:r.length≤tr+1) (x q:Int):∀ (p:List Int) (tp:Nat),p.length≤tp+1→hp (Xp p r) x q (tp+tr)=hp p x q tp*hp r x q tr
 | [],tp,_=>by rw[Rw,Int.zero_mul];exact Rw x q _
 | a::p,tp,h=>by
  have hc:∀ i,(Xp (a::p) r).getD i 0=a*r.getD i 0+1*(if i=0 then 0 else (Xp p r).getD (i-1) 0):=by
   intro i
   rw[Jr,Qs]
   by_cases h0:i=0
   ·subst h0;rw[if_neg (by omega),if_pos rfl];omega
   ·rw[if_pos (by omega),if_neg h0];omega
  cases tp with
  | zero =>
   have hp0:p=[]:=List.eq_nil_of_length_eq_zero (by have h':p.length+1≤0+1:=h;omega)
   subst hp0
   have h0:∀ i,(Xp [] r).getD i 0=0:=fun i=>rfl
   unfold hp
   rw[Ap (d:=fun i=>a*r.getD i 0+0*r.getD i 0) fun i _=>by rw[hc,h0];split <;> simp,Ao,Nat.zero_add]
   simp[hs]
  | succ tp =>
   have ih:=Zco hr x q p tp (by have h':p.length+1≤tp+1+1:=h;omega)
   have hm:=Em hr x q (tp+1)
   have ha:hp (a::p) x q (tp+1)=a*q^(tp+1)+x*hp p x q tp:=by unfold hp;rw[F4];rfl
   have hsh:=Zhg (fun i=>(Xp p r).getD i 0) x q (tp+tr)
   have e:hp (Xp (a::p) r) x q (tp+1+tr)=a*hp r x q (tp+1+tr)+1*(x*hp (Xp p r) x q (tp+tr)):=by
    unfold hp
    rw[Ap fun i _=>hc i,Ao,show tp+1+tr=tp+tr+1 by omega]
    rw[hsh]
   rw[e,ih,show tp+1+tr=tr+(tp+1) by omega,hm,ha]
   grind
theorem hp_id {r d e Q:List Int} {c c':Int} (h:∀ x,c*Zc r x=Zc Q x*Zc d x+c'*Zc e x) (x q:Int) {tq td:Nat} (hQ:Q.length≤tq+1) (hd:d.length≤td+1) :
  c*hp r x q (tq+td)=hp Q x q tq*hp d x q td+c'*hp e x q (tq+td):=by
 have hi:=X1 (p:=Zu c r) (q:=G8 (Xp Q d) (Zu c' e)) (fun x=>by rw[Zn,Qi,Z1,Zn];exact h x)
 have hc:∀ i,c*r.getD i 0+0*r.getD i 0=1*(Xp Q d).getD i 0+c'*e.getD i 0:=by
  intro i
  have:=hi i
  rw[Z4,Xf,Z4] at this
  omega
 rw[← Zco hd x q Q tq hQ]
 unfold hp
 have h1:=Ao c 0 (fun i=>r.getD i 0) (fun i=>r.getD i 0) x q (tq+td)
 have h2:=Ao 1 c' (fun i=>(Xp Q d).getD i 0) (fun i=>e.getD i 0) x q (tq+td)
 rw[Ap fun i _=>hc i,h2] at h1
 omega
theorem Jf {a b A B:Int} (ha:(a.natAbs:Int)≤A) (hb:(b.natAbs:Int)≤B):((a*b).natAbs:Int)≤A*B:=by
 rw[Int.natAbs_mul,Int.natCast_mul]
 exact Int.mul_le_mul ha hb (by omega) (by omega)
theorem U2 {a b A B:Int} (ha:(a.natAbs:Int)≤A) (hb:(b.natAbs:Int)≤B):((a+b).natAbs:Int)≤A+B:=by omega
theorem Ko {a A:Int} (ha:(a.natAbs:Int)≤A):∀ n:Nat,((a^n).natAbs:Int)≤A^n
 | 0=>by simp
 | n+1=>by rw[Int.pow_succ,Int.pow_succ];exact Jf (Ko ha n) ha
theorem F5 (c:Nat→Int) (R:Int) (hR:0≤R):∀ T:Nat,∃ K:Int,0≤K∧∀ q x:Int,0<q→(x.natAbs:Int)≤R*q→((hs c x q T).natAbs:Int)≤K*q^T
 | 0=>⟨((c 0).natAbs:Int),by omega,fun q x _ _=>by simp[hs]⟩
 | T+1=>by
  obtain⟨K,hK,h⟩:=F5 c R hR T
  refine⟨K+((c (T+1)).natAbs:Int)*R^(T+1),?_,fun q x hq hx => ?_⟩
  ·have:=Int.mul_nonneg (show (0:Int)≤((c (T+1)).natAbs:Int) by omega) (Int.pow_nonneg (m:=T+1) hR)
   omega
  ·simp only[hs]
   have h1:=Jf (a:=q) (A:=q) (by omega) (h q x hq hx)
   have h2:=Jf (a:=c (T+1)) (A:=((c (T+1)).natAbs:Int)) (by omega) (Ko hx (T+1))
   have h3:=U2 h1 h2
   have e:(R*q)^(T+1)=R^(T+1)*q^(T+1):=Int.mul_pow ..
   rw[e] at h3
   refine Int.le_trans h3 (Int.le_of_eq ?_)
   rw[Int.pow_succ q T]
   grind
theorem Rc {x A:Int} (hx:(x.natAbs:Int)≤A) (hx1:((x+1).natAbs:Int)≤A):∀ n:Nat,(((x+1)^(n+1)-x^(n+1)).natAbs:Int)≤((n+1:Nat):Int)*A^n
 | 0=>by
  have e:(x+1)^(0+1)-x^(0+1)=1:=by rw[Int.pow_succ,Int.pow_zero,Int.pow_succ,Int.pow_zero];omega
  rw[e];simp
 | n+1=>by
  have ih:=Rc hx hx1 n
  have e:(x+1)^(n+1+1)-x^(n+1+1)=(x+1)*((x+1)^(n+1)-x^(n+1))+x^(n+1):=by rw[Int.pow_succ (x+1) (n+1),Int.pow_succ x (n+1)];grind
  rw[e]
  have h:=U2 (Jf hx1 ih) (Ko hx (n+1))
  refine Int.le_trans h (Int.le_of_eq ?_)
  rw[Int.pow_succ A n,Int.natCast_add,Int.natCast_add,Int.natCast_add]
  grind
theorem Zlj (c:Nat→Int) (R:Int) (hR:0≤R):∀ T:Nat,∃ K:Int,0≤K∧∀ q x:Int,0<q→(x.natAbs:Int)≤R*q→((x+1).natAbs:Int)≤R*q→((hs c (x+1) q (T+1)-hs c x q (T+1)).natAbs:Int)≤K*q^T
 | 0=>⟨((c 1).natAbs:Int),by omega,fun q x _ _ _=>by
   simp only[hs]
   have:q*c 0+c (0+1)*(x+1)^(0+1)-(q*c 0+c (0+1)*x^(0+1))=c 1:=by simp;grind
   rw[this];simp⟩
 | T+1=>by
  obtain⟨K,hK,h⟩:=Zlj c R hR T
  refine⟨K+((c (T+2)).natAbs:Int)*(((T+1+1:Nat):Int)*R^(T+1)),?_,fun q x hq hx hx1 => ?_⟩
  ·have:=Int.mul_nonneg (show (0:Int)≤((c (T+2)).natAbs:Int) by omega) (Int.mul_nonneg (show (0:Int)≤((T+1+1:Nat):Int) by omega) (Int.pow_nonneg (m:=T+1) hR))
   omega
  ·have e:hs c (x+1) q (T+1+1)-hs c x q (T+1+1)=q*(hs c (x+1) q (T+1)-hs c x q (T+1))+c (T+2)*((x+1)^(T+1+1)-x^(T+1+1)):=by
    show (q*hs c (x+1) q (T+1)+c (T+1+1)*(x+1)^(T+1+1))-(q*hs c x q (T+1)+c (T+1+1)*x^(T+1+1))=_
    grind
   rw[e]
   have h1:=Jf (a:=q) (A:=q) (by omega) (h q x hq hx hx1)
   have h2:=Jf (a:=c (T+2)) (A:=((c (T+2)).natAbs:Int)) (by omega) (Rc hx hx1 (T+1))
   have h3:=U2 h1 h2
   have e2:(R*q)^(T+1)=R^(T+1)*q^(T+1):=Int.mul_pow ..
   rw[e2] at h3
   refine Int.le_trans h3 (Int.le_of_eq ?_)
   rw[Int.pow_succ q T]
   grind
end Go.Ai

namespace Go.Ai
open Go.IntKind (i64 u64 u32)
theorem Zbl {x A:Int} (hA:0≤A) (hx:(x.natAbs:Int)≤A) (hx1:((x+1).natAbs:Int)≤A):∀ n:Nat,(((x+1)^(n+2)-x^(n+2)-((n+2:Nat):Int)*x^(n+1)).natAbs:Int)≤(((n+1)*(n+2):Nat):Int)*A^n
 | 0=>by
  have e:(x+1)^(0+2)-x^(0+2)-((0+2:Nat):Int)*x^(0+1)=1:=by
   rw[show (x+1)^(0+2)=(x+1)*(x+1) by rw[Int.pow_succ,Int.pow_succ,Int.pow_zero,Int.one_mul],show x^(0+2)=x*x by rw[Int.pow_succ,Int.pow_succ,Int.pow_zero,Int.one_mul],show x^(0+1)=x by rw[Int.pow_succ,Int.pow_zero,Int.one_mul]]
   grind
  rw[e];simp
 | n+1=>by
  have ih:=Zbl hA hx hx1 n
  have e:(x+1)^(n+1+2)-x^(n+1+2)-((n+1+2:Nat):Int)*x^(n+1+1)=(x+1)*((x+1)^(n+2)-x^(n+2)-((n+2:Nat):Int)*x^(n+1))+((n+2:Nat):Int)*x^(n+1):=by
   rw[show n+1+2=n+2+1 by omega,Int.pow_succ (x+1) (n+2),Int.pow_succ x (n+2),show n+1+1=n+2 by omega,show x^(n+2)=x^(n+1)*x from Int.pow_succ ..]
   have:((n+2+1:Nat):Int)=((n+2:Nat):Int)+1:=by omega
   rw[this]
   grind
  rw[e]
  have h:=U2 (Jf hx1 ih) (Jf (a:=((n+2:Nat):Int)) (A:=((n+2:Nat):Int)) (by omega) (Ko hx (n+1)))
  refine Int.le_trans h ?_
  rw[show A^(n+1)=A^n*A from Int.pow_succ ..]
  have hAn:0≤A^n*A:=Int.mul_nonneg (Int.pow_nonneg hA) hA
  have e2:A*((((n+1)*(n+2):Nat):Int)*A^n)+((n+2:Nat):Int)*(A^n*A)=((((n+1)*(n+2)+(n+2):Nat)):Int)*(A^n*A):=by
   rw[Int.natCast_add];grind
  rw[e2]
  apply Int.mul_le_mul_of_nonneg_right _ hAn
  have:(n+1)*(n+2)+(n+2)≤(n+1+1)*(n+1+2):=by
   have:(n+1)*(n+2)+(n+2)=(n+2)*(n+2):=by rw[← Nat.succ_mul]
   rw[this]
   exact Nat.mul_le_mul (by omega) (by omega)
  omega
def Zln (c:Nat→Int) (i:Nat):Int:=((i+1:Nat):Int)*c (i+1)
theorem Zlk (c:Nat→Int) (R:Int) (hR:0≤R):∀ T:Nat,∃ K:Int,0≤K∧∀ q x:Int,0<q→(x.natAbs:Int)≤R*q→((x+1).natAbs:Int)≤R*q →
  ((hs c (x+1) q (T+2)-hs c x q (T+2)-hs (Zln c) x q (T+1)).natAbs:Int)≤K*q^T
 | 0=>⟨((c 2).natAbs:Int),by omega,fun q x _ _ _=>by
   have e:hs c (x+1) q (0+2)-hs c x q (0+2)-hs (Zln c) x q (0+1)=c 2:=by
    have p1:∀ y:Int,y^(0+1)=y:=fun y=>by rw[Int.pow_succ,Int.pow_zero,Int.one_mul]
    have p2:∀ y:Int,y^(0+1+1)=y*y:=fun y=>by rw[Int.pow_succ,p1]
    show (q*(q*c 0+c (0+1)*(x+1)^(0+1))+c (0+1+1)*(x+1)^(0+1+1))-(q*(q*c 0+c (0+1)*x^(0+1))+c (0+1+1)*x^(0+1+1))-(q*(((0+1:Nat):Int)*c (0+1))+((0+1+1:Nat):Int)*c (0+1+1)*x^(0+1))=_
    rw[p1,p1,p2,p2]
    have h1:((0+1:Nat):Int)=1:=rfl
    have h2:((0+1+1:Nat):Int)=2:=rfl
    rw[h1,h2]
    grind
   rw[e];simp⟩
 | T+1=>by
  obtain⟨K,hK,h⟩:=Zlk c R hR T
  refine⟨K+((c (T+3)).natAbs:Int)*((((T+2)*(T+3):Nat):Int)*R^(T+1)),?_,fun q x hq hx hx1 => ?_⟩
  ·have:=Int.mul_nonneg (show (0:Int)≤((c (T+3)).natAbs:Int) by omega) (Int.mul_nonneg (show (0:Int)≤(((T+2)*(T+3):Nat):Int) by omega) (Int.pow_nonneg (m:=T+1) hR))
   omega
  ·have e:hs c (x+1) q (T+1+2)-hs c x q (T+1+2)-hs (Zln c) x q (T+1+1)=q*(hs c (x+1) q (T+2)-hs c x q (T+2)-hs (Zln c) x q (T+1))+c (T+3)*((x+1)^(T+1+2)-x^(T+1+2)-((T+1+2:Nat):Int)*x^(T+1+1)):=by
    show (q*hs c (x+1) q (T+2)+c (T+3)*(x+1)^(T+1+2))-(q*hs c x q (T+2)+c (T+3)*x^(T+1+2))-(q*hs (Zln c) x q (T+1)+((T+1+1+1:Nat):Int)*c (T+3)*x^(T+1+1))=_
    have:((T+1+1+1:Nat):Int)=((T+1+2:Nat):Int):=rfl
    rw[this]
    grind
   rw[e]
   have hRq:0≤R*q:=Int.mul_nonneg hR (by omega)
   have h1:=Jf (a:=q) (A:=q) (by omega) (h q x hq hx hx1)
   have h2:=Jf (a:=c (T+3)) (A:=((c (T+3)).natAbs:Int)) (by omega) (Zbl hRq hx hx1 (T+1))
   have h3:=U2 h1 h2
   have e2:(R*q)^(T+1)=R^(T+1)*q^(T+1):=Int.mul_pow ..
   rw[e2] at h3
   refine Int.le_trans h3 (Int.le_of_eq ?_)
   rw[Int.pow_succ q T]
   grind
def wv (last:Int):List Int→Int
 | []=>0
 | s::ss=>if s=0 then wv last ss else (if last ≠ 0∧s ≠ last then 1 else 0)+wv s ss
inductive Mid:Int→List Int→List Int→Prop
 | nil (σ:Int):Mid σ [] []
 | st (σ s:Int) {ss tt:List Int}:(s=1∨s = -1)→Mid s ss tt→Mid σ (s::ss) (s::tt)
 | un (σ a b:Int) {ss tt:List Int}:(-1≤a∧a≤1)→(-1≤b∧b≤1)→Mid (-σ) ss tt→Mid σ (a :: -σ::ss) (b :: -σ::tt)
theorem Zaq {σ a:Int} (hσ:σ=1∨σ = -1) (ha : -1≤a∧a≤1) (ss:List Int):wv σ (a :: -σ::ss)=1+wv (-σ) ss:=by
 simp only[wv]
 rcases hσ with rfl | rfl
 ·rcases show a = -1∨a=0∨a=1 by omega with rfl | rfl | rfl <;> simp
 ·rcases show a = -1∨a=0∨a=1 by omega with rfl | rfl | rfl <;> simp
theorem Zlh {σ:Int} {s t:List Int} (h:Mid σ s t):(σ=1∨σ = -1)→wv σ s=wv σ t:=by
 induction h with
 | nil σ=>intro _;rfl
 | st σ s hs _ ih =>
  intro _
  have h0:s ≠ 0:=by omega
  simp only[wv,if_neg h0]
  rw[ih hs]
 | un σ a b ha hb _ ih =>
  intro hσ
  rw[Zaq hσ ha,Zaq hσ hb,ih (by omega)]
inductive Top:List Int→List Int→Int→Prop
 | st (s:Int) {ss tt:List Int}:(s=1∨s = -1)→Mid s ss tt→Top (s::ss) (s::tt) 0
 | un (σ a b:Int) {ss tt:List Int}:(σ=1∨σ = -1)→(a = -σ∨a=0)→(b=0∨b=σ)→Mid σ ss tt→Top (a::σ::ss) (b::σ::tt) (if a=0 then 0 else 1)
theorem top_wv {s t:List Int} {d:Int} (h:Top s t d):wv 0 s=wv 0 t+d:=by
 cases h with
 | st s hs hm =>
  have h0:s ≠ 0:=by omega
  simp only[wv,if_neg h0]
  rw[Zlh hm hs];omega
 | un σ a b hσ ha hb hm =>
  have e:=Zlh hm hσ
  simp only[wv]
  rcases hσ with rfl | rfl
  ·rcases ha with rfl | rfl <;> rcases hb with rfl | rfl <;> simp <;> omega
  ·rcases ha with rfl | rfl <;> rcases hb with rfl | rfl <;> simp <;> omega
end Go.Ai

namespace Go.Ai
open Go.IntKind (i64 u64 u32)
theorem S5 (p:List Int) (x:Int):Zc p x=(Q9 p:Int)*Zc (prim p) x:=by
 rw[← Zn]
 exact Us (fun i=>by rw[Z4,Fw]) x
theorem Zbh {r d:List Int} (hd:Uc d) (hd0:d ≠ []) (hl:d.length≤r.length):∃ (c c':Int) (Q:List Int),0<c∧0<c'∧∀ x,c*Zc r x=Zc Q x*Zc d x+c'*Zc (Ur r d) x:=by
 have ht:top d ≠ 0:=U1 hd hd0
 have he:=N2 hl ((top d).natAbs:Int) (sg (top d)*top r)
 have hp:∀ x,Zc (Kf r d ((top d).natAbs:Int) (sg (top d)*top r) r.length) x=(Q9 (Kf r d ((top d).natAbs:Int) (sg (top d)*top r) r.length):Int)*Zc (Ur r d) x:=fun x=>S5 _ x
 by_cases h0:Q9 (Kf r d ((top d).natAbs:Int) (sg (top d)*top r) r.length)=0
 ·have hz:Ur r d=[]:=Xu.2 (Wz.1 h0)
  refine⟨((top d).natAbs:Int),1,Up (r.length-d.length) [sg (top d)*top r],by omega,by decide,fun x => ?_⟩
  have h1:=he x
  have h2:=hp x
  rw[h0] at h2
  rw[Xz,hz]
  simp only[Zc]
  have h3:(((0:Nat):Int))*Zc (Ur r d) x=0:=by simp
  rw[h3] at h2
  rw[h2] at h1
  grind
 ·refine⟨((top d).natAbs:Int),(Q9 (Kf r d ((top d).natAbs:Int) (sg (top d)*top r) r.length):Int),Up (r.length-d.length) [sg (top d)*top r],by omega,by omega,fun x => ?_⟩
  have h1:=he x
  have h2:=hp x
  rw[Xz]
  simp only[Zc]
  rw[← h2,h1]
  grind
theorem Nd {d:List Int} (hd:Uc d) (hd0:d ≠ []):∀ (f:Nat) (r:List Int),∃ (c c':Int) (Q:List Int),0<c∧0<c'∧∀ x,c*Zc r x=Zc Q x*Zc d x+c'*Zc (Uw f r d) x
 | 0,r=>⟨1,1,[],by decide,by decide,fun x=>by simp[Zc,Uw]⟩
 | f+1,r=>by
  simp only[Uw]
  split
  ·rename_i hl
   obtain⟨c,c',Q,h1,h2,h3⟩:=Zbh hd hd0 hl
   obtain⟨e,e',S,g1,g2,g3⟩:=Nd hd hd0 f (Ur r d)
   refine⟨e*c,c'*e',G8 (Zu e Q) (Zu c' S),Int.mul_pos g1 h1,Int.mul_pos h2 g2,fun x => ?_⟩
   have a:=h3 x
   have b:=g3 x
   rw[Qi,Zn,Zn,Int.mul_assoc e c,a,Int.mul_add,Int.mul_comm e (c'*_),Int.mul_assoc c',Int.mul_comm _ e,b]
   grind
  ·exact⟨1,1,[],by decide,by decide,fun x=>by simp[Zc]⟩
theorem N9 {a b:List Int} (hb:Uc b) (hb0:b ≠ []):∃ (c c':Int) (Q:List Int),0<c∧0<c'∧∀ x,c*Zc a x=Zc Q x*Zc b x+(-c')*Zc (Xs (Qq a b)) x:=by
 obtain⟨c,c',Q,h1,h2,h3⟩:=Nd hb hb0 a.length a
 refine⟨c,c',Q,h1,h2,fun x => ?_⟩
 rw[h3 x,Vq]
 unfold Qq
 grind
theorem Bi {a b:List Int} (hb:Uc b) (hb0:b ≠ []) (h:IsG [1] a b):IsG [1] b (Xs (Qq a b)):=by
 obtain⟨c,c',Q,h1,h2,h3⟩:=N9 (a:=a) hb hb0
 have h4:IsG [1] (Xs (Qq a b)) b:=IsG.step (r:=Xs (Qq a b)) (d:=b) (e:=a) (q:=Q) (a:=c') (m := -c) (by omega) (by omega) (fun x=>by
  have:=h3 x
  grind) h.comm
 exact h4.comm
end Go.Ai

namespace Go.Ai
open Go.IntKind (i64 u64 u32)
def Hh (p:List Int) (x q:Int):Int:=hp p x q (p.length-1)
def Stb (p:List Int) (x q:Int):Prop:=(0<Hh p x q∧0<Hh p (x+1) q)∨(Hh p x q<0∧Hh p (x+1) q<0)
def InR (R q x:Int):Prop:=0<q∧(x.natAbs:Int)≤R*q∧((x+1).natAbs:Int)≤R*q
theorem Ul {q:Int} (h:0<q) (n:Nat):0<q^n:=Int.pow_pos h
theorem small (p:List Int) (R:Int) (hR:0≤R):∃ K:Int,0≤K∧∀ q x:Int,InR R q x→¬ Stb p x q→((Hh p x q).natAbs:Int)*q≤K*q^(p.length-1)∧((Hh p (x+1) q).natAbs:Int)*q≤K*q^(p.length-1):=by
 cases hn:p.length-1 with
 | zero =>
  refine⟨0,Int.le_refl _,fun q x _ hst => ?_⟩
  have e:∀ y,Hh p y q=p.getD 0 0:=fun y=>by unfold Hh hp;rw[hn];rfl
  unfold Stb at hst
  rw[e,e] at hst ⊢
  have:p.getD 0 0=0:=by omega
  rw[this];simp
 | succ T =>
  obtain⟨K,hK,h⟩:=Zlj (fun i=>p.getD i 0) R hR T
  refine⟨K,hK,fun q x hr hst => ?_⟩
  have h1:=h q x hr.1 hr.2.1 hr.2.2
  have e:∀ y,Hh p y q=hs (fun i=>p.getD i 0) y q (T+1):=fun y=>by unfold Hh hp;rw[hn]
  unfold Stb at hst
  rw[e,e] at hst
  rw[e,e]
  generalize hs (fun i=>p.getD i 0) x q (T+1)=a at *
  generalize hs (fun i=>p.getD i 0) (x+1) q (T+1)=b at *
  have ha:(a.natAbs:Int)≤((b-a).natAbs:Int):=by omega
  have hb:(b.natAbs:Int)≤((b-a).natAbs:Int):=by omega
  have hq:=hr.1
  rw[Int.pow_succ,← Int.mul_assoc]
  exact⟨Int.mul_le_mul_of_nonneg_right (Int.le_trans ha h1) (by omega),Int.mul_le_mul_of_nonneg_right (Int.le_trans hb h1) (by omega)⟩
theorem hp_one (x q:Int) (T:Nat):hp [1] x q T=q^T:=by
 have:=Em (p:=[1]) (T:=0) (by simp) x q T
 rw[Nat.zero_add] at this
 rw[this]
 show q^T*1=_
 omega
theorem Ej {f g:List Int} (R:Int) (hR:0≤R) (h:IsG [1] f g):∃ L Q0:Int,0<L∧0<Q0∧∀ q x:Int,InR R q x→Q0≤q→¬ Stb f x q→q^(g.length-1)≤L*((Hh g x q).natAbs:Int):=by
 obtain⟨_,_,c,u,v,hc,hid⟩:=h
 obtain⟨K,hK,hsm⟩:=small f R hR
 obtain⟨Ku,hKu,hu⟩:=F5 (fun i=>u.getD i 0) R hR (max u.length v.length+(g.length-1))
 obtain⟨Kv,hKv,hv⟩:=F5 (fun i=>v.getD i 0) R hR (max u.length v.length+(f.length-1))
 refine⟨2*Kv+1,2*(Ku*K)+1,by omega,by have:=Int.mul_nonneg hKu hK;omega,fun q x hr hq hst => ?_⟩
 obtain⟨hq0,hx,hx1⟩:=hr
 have h1:=(hsm q x ⟨hq0,hx,hx1⟩ hst).1
 have h2:=hu q x hq0 hx
 have h3:=hv q x hq0 hx
 have e1:=hp_id (r:=[1]) (d:=f) (e:=Xp v g) (Q:=u) (c:=c) (c':=1) (fun y=>by rw[Z1,hid y];omega) x q (tq:=max u.length v.length+(g.length-1)) (td:=f.length-1) (by omega) (by omega)
 have e2:=Zco (r:=g) (tr:=g.length-1) (by omega) x q v (max u.length v.length+(f.length-1)) (by omega)
 have eT:max u.length v.length+(f.length-1)+(g.length-1)=max u.length v.length+(g.length-1)+(f.length-1):=by omega
 rw[eT] at e2
 rw[e2,hp_one,Int.one_mul] at e1
 change c*q^(max u.length v.length+(g.length-1)+(f.length-1))=hs (fun i=>u.getD i 0) x q (max u.length v.length+(g.length-1))*Hh f x q+hs (fun i=>v.getD i 0) x q (max u.length v.length+(f.length-1))*Hh g x q at e1
 have ep:q^(max u.length v.length+(g.length-1)+(f.length-1))=q^(max u.length v.length+(f.length-1))*q^(g.length-1):=by rw[← Int.pow_add,← eT]
 have ep2:q^(max u.length v.length+(g.length-1))*q^(f.length-1)=q^(max u.length v.length+(f.length-1))*q^(g.length-1):=by rw[← Int.pow_add,← ep]
 have pa:=Ul hq0 (max u.length v.length+(f.length-1))
 have pb:=Ul hq0 (max u.length v.length+(g.length-1))
 have pm:=Ul hq0 (g.length-1)
 have pn:=Ul hq0 (f.length-1)
 rw[ep] at e1
 generalize hs (fun i=>u.getD i 0) x q (max u.length v.length+(g.length-1))=U at *
 generalize hs (fun i=>v.getD i 0) x q (max u.length v.length+(f.length-1))=V at *
 generalize q^(max u.length v.length+(f.length-1))=A at *
 generalize q^(max u.length v.length+(g.length-1))=B at *
 generalize q^(g.length-1)=M at *
 generalize q^(f.length-1)=N at *
 generalize Hh f x q=F at *
 generalize Hh g x q=G at *
 -- |c| A M <= |U| |F| + |V| |G|
 have n1:((c*(A*M)).natAbs:Int)≤(U.natAbs:Int)*(F.natAbs:Int)+(V.natAbs:Int)*(G.natAbs:Int):=by
  rw[e1]
  exact U2 (Jf (Int.le_refl _) (Int.le_refl _)) (Jf (Int.le_refl _) (Int.le_refl _))
 have n2:A*M≤((c*(A*M)).natAbs:Int):=by
  rw[Int.natAbs_mul,Int.natCast_mul]
  have hAM:=Int.mul_pos pa pm
  have:((A*M).natAbs:Int)=A*M:=Int.natAbs_of_nonneg (by omega)
  rw[this]
  have:=Int.mul_le_mul_of_nonneg_right (show (1:Int)≤(c.natAbs:Int) by omega) (show 0≤A*M by omega)
  omega
 -- times q
 have n3:(U.natAbs:Int)*(F.natAbs:Int)*q≤A*(Ku*K*M):=by
  have h5:(U.natAbs:Int)*((F.natAbs:Int)*q)≤Ku*B*(K*N):=Int.mul_le_mul h2 h1 (Int.mul_nonneg (by omega) (by omega)) (Int.mul_nonneg hKu (by omega))
  have e5:Ku*B*(K*N)=A*(Ku*K*M):=by
   have:Ku*B*(K*N)=Ku*K*(B*N):=by grind
   rw[this,ep2];grind
  rw[Int.mul_assoc]
  omega
 have n4:(V.natAbs:Int)*(G.natAbs:Int)*q≤A*(Kv*((G.natAbs:Int)*q)):=by
  have h5:=Int.mul_le_mul_of_nonneg_right h3 (Int.mul_nonneg (show (0:Int)≤(G.natAbs:Int) by omega) (show 0≤q by omega))
  rw[Int.mul_assoc]
  refine Int.le_trans h5 (Int.le_of_eq ?_)
  grind
 have n5:A*(M*q)≤A*(Ku*K*M+Kv*((G.natAbs:Int)*q)):=by
  have h6:=Int.mul_le_mul_of_nonneg_right (Int.le_trans n2 n1) (show 0≤q by omega)
  rw[Int.add_mul] at h6
  rw[Int.mul_add]
  have:A*M*q=A*(M*q):=Int.mul_assoc ..
  omega
 have n6:=Int.le_of_mul_le_mul_left n5 pa
 -- half of it is enough
 have n7:2*(Ku*K*M)≤M*q:=by
  have h7:=Int.mul_le_mul_of_nonneg_left (show 2*(Ku*K)≤q by omega) (show 0≤M by omega)
  have:M*(2*(Ku*K))=2*(Ku*K*M):=by grind
  omega
 have n8:M*q≤2*Kv*(G.natAbs:Int)*q:=by
  have:2*Kv*(G.natAbs:Int)*q=2*(Kv*((G.natAbs:Int)*q)):=by grind
  omega
 have n9:M≤2*Kv*(G.natAbs:Int):=Int.le_of_mul_le_mul_right n8 hq0
 have:(2*Kv+1)*(G.natAbs:Int)=2*Kv*(G.natAbs:Int)+(G.natAbs:Int):=by rw[Int.add_mul,Int.one_mul]
 omega
end Go.Ai

namespace Go.Ai
open Go.IntKind (i64 u64 u32)
theorem Zmp (g:List Int) (R L:Int) (hR:0≤R) (hL:0<L):∃ Q0:Int,0<Q0∧∀ q x:Int,InR R q x→Q0≤q→q^(g.length-1)≤L*((Hh g x q).natAbs:Int)→Stb g x q:=by
 obtain⟨K,hK,hsm⟩:=small g R hR
 refine⟨L*K+1,by have:=Int.mul_nonneg (show 0≤L by omega) hK;omega,fun q x hr hq hf => ?_⟩
 apply Classical.byContradiction
 intro hst
 have h1:=(hsm q x hr hst).1
 have hq0:=hr.1
 have pm:=Ul hq0 (g.length-1)
 generalize q^(g.length-1)=M at *
 generalize ((Hh g x q).natAbs:Int)=G at *
 have h2:=Int.mul_le_mul_of_nonneg_right hf (show 0≤q by omega)
 have h3:=Int.mul_le_mul_of_nonneg_left h1 (show 0≤L by omega)
 have e1:L*(G*q)=L*G*q:=by grind
 have e2:L*(K*M)=M*(L*K):=by grind
 have h4:M*q≤M*(L*K):=by omega
 have h5:=Int.le_of_mul_le_mul_left h4 pm
 omega
theorem Rh {f g:List Int} (R:Int) (hR:0≤R) (h:IsG [1] f g):∃ L Q0:Int,0<L∧0<Q0∧∀ q x:Int,InR R q x→Q0≤q→¬ Stb f x q→Stb g x q∧q^(g.length-1)≤L*((Hh g x q).natAbs:Int):=by
 obtain⟨L,Q1,hL,hQ1,h1⟩:=Ej R hR h
 obtain⟨Q2,hQ2,h2⟩:=Zmp g R L hR hL
 refine⟨L,Q1+Q2,hL,by omega,fun q x hr hq hst => ?_⟩
 have h3:=h1 q x hr (by omega) hst
 exact⟨h2 q x hr (by omega) h3,h3⟩
theorem Zgs {a b e Q:List Int} {c c':Int} (R:Int) (hR:0≤R) (hc:0<c) (hc':0<c') (hid:∀ x,c*Zc a x=Zc Q x*Zc b x+(-c')*Zc e x) (h:IsG [1] b e) :
  ∃ Q0:Int,0<Q0∧∀ q x:Int,InR R q x→Q0≤q→¬ Stb b x q→(0<Hh e x q→Hh a x q<0)∧(Hh e x q<0→0<Hh a x q):=by
 obtain⟨K,hK,hsm⟩:=small b R hR
 obtain⟨L,Q1,hL,hQ1,hf⟩:=Ej R hR h
 obtain⟨KQ,hKQ,hq⟩:=F5 (fun i=>Q.getD i 0) R hR (Q.length+a.length+e.length)
 have hLK:=Int.mul_nonneg (show 0≤L by omega) (Int.mul_nonneg hKQ hK)
 refine⟨Q1+L*(KQ*K)+1,by omega,fun q x hr hqq hst => ?_⟩
 have h1:=(hsm q x hr hst).1
 have h2:=hf q x hr (by omega) hst
 have hq0:=hr.1
 have h3:=hq q x hq0 hr.2.1
 have e1:=hp_id hid x q (tq:=Q.length+a.length+e.length) (td:=b.length-1) (by omega) (by omega)
 have ea:=Em (p:=a) (T:=a.length-1) (by omega) x q (Q.length+a.length+e.length+(b.length-1)-(a.length-1))
 have ee:=Em (p:=e) (T:=e.length-1) (by omega) x q (Q.length+a.length+e.length+(b.length-1)-(e.length-1))
 rw[show a.length-1+(Q.length+a.length+e.length+(b.length-1)-(a.length-1))=Q.length+a.length+e.length+(b.length-1) by omega] at ea
 rw[show e.length-1+(Q.length+a.length+e.length+(b.length-1)-(e.length-1))=Q.length+a.length+e.length+(b.length-1) by omega] at ee
 rw[ea,ee] at e1
 change c*(q^_*Hh a x q)=hs (fun i=>Q.getD i 0) x q (Q.length+a.length+e.length)*Hh b x q+(-c')*(q^_*Hh e x q) at e1
 have pA:=Ul hq0 (Q.length+a.length+e.length+(b.length-1)-(a.length-1))
 have pE:=Ul hq0 (Q.length+a.length+e.length+(b.length-1)-(e.length-1))
 have pT:=Ul hq0 (Q.length+a.length+e.length)
 have pB:=Ul hq0 (b.length-1)
 have eP:q^(Q.length+a.length+e.length+(b.length-1)-(e.length-1))*q^(e.length-1)=q^(Q.length+a.length+e.length)*q^(b.length-1):=by
  rw[← Int.pow_add,← Int.pow_add];congr 1;omega
 generalize q^(Q.length+a.length+e.length+(b.length-1)-(a.length-1))=A at *
 generalize q^(Q.length+a.length+e.length+(b.length-1)-(e.length-1))=E at *
 generalize q^(Q.length+a.length+e.length)=T at *
 generalize q^(b.length-1)=B at *
 generalize q^(e.length-1)=M at *
 generalize hs (fun i=>Q.getD i 0) x q (Q.length+a.length+e.length)=U at *
 generalize Hh a x q=Ha at *
 generalize Hh b x q=Hb at *
 generalize Hh e x q=He at *
 have pP:=Int.mul_pos pT pB
 -- |U Hb| q <= KQ K T B
 have n1:((U*Hb).natAbs:Int)*q≤KQ*K*(T*B):=by
  have h5:(U.natAbs:Int)*((Hb.natAbs:Int)*q)≤KQ*T*(K*B):=Int.mul_le_mul h3 h1 (Int.mul_nonneg (by omega) (by omega)) (Int.mul_nonneg hKQ (by omega))
  have e5:((U*Hb).natAbs:Int)*q=(U.natAbs:Int)*((Hb.natAbs:Int)*q):=by rw[Int.natAbs_mul,Int.natCast_mul];grind
  have e6:KQ*T*(K*B)=KQ*K*(T*B):=by grind
  omega
 -- T B <= L E |He|
 have n2:T*B≤L*(E*(He.natAbs:Int)):=by
  have h6:=Int.mul_le_mul_of_nonneg_left h2 (show 0≤E by omega)
  have e7:E*(L*(He.natAbs:Int))=L*(E*(He.natAbs:Int)):=by grind
  omega
 -- so |U Hb|<E |He|
 have n3:((U*Hb).natAbs:Int)<E*(He.natAbs:Int):=by
  apply Int.not_le.1
  intro hle
  have h7:=Int.mul_le_mul_of_nonneg_right (Int.mul_le_mul_of_nonneg_left hle (show 0≤L by omega)) (show 0≤q by omega)
  have h8:=Int.mul_le_mul_of_nonneg_right n2 (show 0≤q by omega)
  have h9:=Int.mul_le_mul_of_nonneg_left n1 (show 0≤L by omega)
  have e8:L*((U*Hb).natAbs:Int)*q=L*(((U*Hb).natAbs:Int)*q):=Int.mul_assoc ..
  have e9:L*(KQ*K*(T*B))=T*B*(L*(KQ*K)):=by grind
  have h10:T*B*q≤T*B*(L*(KQ*K)):=by omega
  have h11:=Int.le_of_mul_le_mul_left h10 pP
  omega
 have n4:E*(He.natAbs:Int)≤c'*(E*(He.natAbs:Int)):=by
  have:=Int.mul_le_mul_of_nonneg_right (show (1:Int)≤c' by omega) (Int.mul_nonneg (show 0≤E by omega) (show (0:Int)≤(He.natAbs:Int) by omega))
  omega
 generalize U*Hb=W at *
 refine⟨fun hp => ?_,fun hn => ?_⟩
 ·have e10:(He.natAbs:Int)=He:=by omega
  rw[e10] at n3 n4
  apply Int.not_le.1
  intro hge
  have h12:=Int.mul_nonneg (show 0≤c by omega) (Int.mul_nonneg (show 0≤A by omega) hge)
  rw[e1,Int.neg_mul] at h12
  omega
 ·have e10:(He.natAbs:Int) = -He:=by omega
  rw[e10,Int.mul_neg] at n3
  rw[e10,Int.mul_neg,Int.mul_neg] at n4
  apply Int.not_le.1
  intro hle
  have h12:=Int.mul_nonneg (show 0≤c by omega) (Int.mul_nonneg (show 0≤A by omega) (show 0 ≤ -Ha by omega))
  rw[Int.mul_neg,Int.mul_neg,e1,Int.neg_mul] at h12
  omega
end Go.Ai

namespace Go.Ai
open Go.IntKind (i64 u64 u32)
theorem Zcn (f:List Int) (x q:Int) (m:Nat):hs (Zln fun i=>f.getD i 0) x q m=(Q9 (Z9 f):Int)*hs (fun i=>(prim (Z9 f)).getD i 0) x q m:=by
 have h:=Ao (Q9 (Z9 f):Int) 0 (fun i=>(prim (Z9 f)).getD i 0) (fun i=>(prim (Z9 f)).getD i 0) x q m
 rw[Int.zero_mul,Int.add_zero] at h
 rw[← h]
 apply Ap
 intro i _
 have h1:=Fw (Z9 f) i
 have h2:=Xb f i
 unfold Zln
 rw[h1,h2]
 grind
theorem Td {f:List Int} (R:Int) (hR:0≤R) (hl:2≤f.length) (hl1:(prim (Z9 f)).length=f.length-1) (h:IsG [1] f (prim (Z9 f))) (hc:0<Q9 (Z9 f)) :
  ∃ Q0:Int,0<Q0∧∀ q x:Int,InR R q x→Q0≤q→¬ Stb f x q→(0<Hh (prim (Z9 f)) x q→Hh f x q<Hh f (x+1) q)∧(Hh (prim (Z9 f)) x q<0→Hh f (x+1) q<Hh f x q):=by
 obtain⟨L,Q1,hL,hQ1,hf⟩:=Ej R hR h
 cases hm:f.length-2 with
 | zero =>
  refine⟨Q1,hQ1,fun q x hr hq hst => ?_⟩
  have hd:=Zcn f x q 0
  have e1:∀ y,Hh f y q=hs (fun i=>f.getD i 0) y q 1:=fun y=>by unfold Hh hp;rw[show f.length-1=1 by omega]
  have e2:Hh (prim (Z9 f)) x q=hs (fun i=>(prim (Z9 f)).getD i 0) x q 0:=by unfold Hh hp;rw[hl1,show f.length-1-1=0 by omega]
  have e3:hs (fun i=>f.getD i 0) (x+1) q 1-hs (fun i=>f.getD i 0) x q 1=hs (Zln fun i=>f.getD i 0) x q 0:=by
   show (q*f.getD 0 0+f.getD (0+1) 0*(x+1)^(0+1))-(q*f.getD 0 0+f.getD (0+1) 0*x^(0+1))=((0+1:Nat):Int)*f.getD (0+1) 0
   have p1:∀ y:Int,y^(0+1)=y:=fun y=>by rw[Int.pow_succ,Int.pow_zero,Int.one_mul]
   rw[p1,p1]
   have h1:((0+1:Nat):Int)=1:=rfl
   rw[h1]
   grind
  rw[e1,e1,e2]
  rw[hd] at e3
  generalize hs (fun i=>(prim (Z9 f)).getD i 0) x q 0=D at *
  refine⟨fun hp => ?_,fun hn => ?_⟩
  ·have:=Int.mul_pos (show (0:Int)<(Q9 (Z9 f):Int) by omega) hp
   omega
  ·have:=Int.mul_pos (show (0:Int)<(Q9 (Z9 f):Int) by omega) (show 0 < -D by omega)
   rw[Int.mul_neg] at this
   omega
 | succ T =>
  obtain⟨K,hK,hder⟩:=Zlk (fun i=>f.getD i 0) R hR T
  have hLK:=Int.mul_nonneg (show 0≤L by omega) hK
  refine⟨Q1+L*K+1,by omega,fun q x hr hq hst => ?_⟩
  have hq0:=hr.1
  have h2:=hf q x hr (by omega) hst
  have h3:=hder q x hq0 hr.2.1 hr.2.2
  have hd:=Zcn f x q (T+1)
  have e1:∀ y,Hh f y q=hs (fun i=>f.getD i 0) y q (T+2):=fun y=>by unfold Hh hp;rw[show f.length-1=T+2 by omega]
  have e2:Hh (prim (Z9 f)) x q=hs (fun i=>(prim (Z9 f)).getD i 0) x q (T+1):=by unfold Hh hp;rw[hl1,show f.length-1-1=T+1 by omega]
  rw[hl1,show f.length-1-1=T+1 by omega,Int.pow_succ,e2] at h2
  rw[e1,e1,e2]
  rw[hd] at h3
  have pT:=Ul hq0 T
  generalize q^T=M at *
  generalize hs (fun i=>f.getD i 0) (x+1) q (T+2)=b at *
  generalize hs (fun i=>f.getD i 0) x q (T+2)=a at *
  generalize hs (fun i=>(prim (Z9 f)).getD i 0) x q (T+1)=D at *
  -- K M < |D|
  have n1:K*M<(D.natAbs:Int):=by
   apply Int.not_le.1
   intro hle
   have h5:=Int.mul_le_mul_of_nonneg_left hle (show 0≤L by omega)
   have e5:L*(K*M)=M*(L*K):=by grind
   have h6:M*q≤M*(L*K):=by omega
   have:=Int.le_of_mul_le_mul_left h6 pT
   omega
  have n2:=Int.mul_le_mul_of_nonneg_right (show (1:Int)≤(Q9 (Z9 f):Int) by omega) (show (0:Int)≤(D.natAbs:Int) by omega)
  refine⟨fun hp => ?_,fun hn => ?_⟩
  ·have e6:(D.natAbs:Int)=D:=by omega
   rw[e6] at n1 n2
   omega
  ·have e6:(D.natAbs:Int) = -D:=by omega
   rw[e6,Int.one_mul,Int.mul_neg] at n2
   omega
end Go.Ai

namespace Go.Ai
open Go.IntKind (i64 u64 u32)
def sgz (n:Int):Int:=if n<0 then -1 else if 0<n then 1 else 0
theorem Zlb (n:Int) : -1≤sgz n∧sgz n≤1:=by unfold sgz; (repeat' split) <;> omega
def chn:Nat→List Int→List Int→List (List Int)
 | 0,_,_=>[]
 | f+1,a,b=>if b=[] then [] else b::chn f b (Xs (Qq a b))
def sgs (l:List (List Int)) (x q:Int):List Int:=l.map fun p=>sgz (Hh p x q)
theorem Dm {p:List Int} {x q:Int} (h:Stb p x q):sgz (Hh p (x+1) q)=sgz (Hh p x q)∧(sgz (Hh p x q)=1∨sgz (Hh p x q) = -1):=by
 unfold Stb at h
 unfold sgz
 rcases h with ⟨h1,h2⟩ | ⟨h1,h2⟩
 ·rw[if_neg (by omega),if_pos h2,if_neg (by omega),if_pos h1];exact⟨rfl, .inl rfl⟩
 ·rw[if_pos h2,if_pos h1];exact⟨rfl, .inr rfl⟩
theorem hh_nil (x q:Int):Hh [] x q=0:=Rw x q _
theorem Gu {a b:List Int} (ha:Uc a):Uc (Qq a b):=by
 unfold Qq
 generalize a.length=f
 induction f generalizing a with
 | zero=>exact ha
 | succ f ih =>
  simp only[Uw]
  split
  ·exact ih (Am a b)
  ·exact ha
theorem Zgo {d:List Int} (hd0:d ≠ []):∀ (f:Nat) (r:List Int),r.length≤f→(Uw f r d).length<d.length:=by
 have hdl:=List.length_pos_iff.2 hd0
 intro f
 induction f with
 | zero=>intro r h;simp only[Uw];omega
 | succ f ih =>
  intro r h
  simp only[Uw]
  split
  ·rename_i hl
   have:=Wr hd0 hl
   exact ih _ (by omega)
  ·omega
theorem Fy {a b:List Int} (hb0:b ≠ []):(Qq a b).length<b.length:=Zgo hb0 _ _ (Nat.le_refl _)
theorem Zdd (R:Int) (hR:0≤R):∀ (n f:Nat),f≤n→∀ (a b:List Int),b.length≤f→Uc a→Uc b→IsG [1] a b →
  ∃ Q0:Int,0<Q0∧∀ q x:Int,InR R q x→Q0≤q→Stb a x q→Mid (sgz (Hh a x q)) (sgs (chn f a b) x q) (sgs (chn f a b) (x+1) q):=by
 intro n
 induction n with
 | zero =>
  intro f hf a b hb _ _ _
  have:f=0:=by omega
  subst this
  exact⟨1,by decide,fun q x _ _ _=>Mid.nil _⟩
 | succ n ih =>
  intro f hf a b hb ha lb h
  by_cases hb0:b=[]
  ·have e:chn f a b=[]:=by
    cases f with
    | zero=>rfl
    | succ f=>simp only[chn];rw[if_pos hb0]
   rw[e]
   exact⟨1,by decide,fun q x _ _ _=>Mid.nil _⟩
  ·have hbl:=List.length_pos_iff.2 hb0
   obtain⟨f,rfl⟩:∃ k,f=k+1:=⟨f-1,by omega⟩
   have hpl:=Fy (a:=a) hb0
   have he:=Bi lb hb0 h
   have le:Uc (Xs (Qq a b)):=Wu (Gu ha)
   obtain⟨Q1,hQ1,h1⟩:=ih f (by omega) b (Xs (Qq a b)) (by rw[Jv];omega) lb le he
   obtain⟨L,Q2,hL,hQ2,h2⟩:=Rh R hR he
   obtain⟨c,c',Q,hc,hc',hid⟩:=N9 (a:=a) lb hb0
   obtain⟨Q3,hQ3,h3⟩:=Zgs R hR hc hc' hid he
   have e1:chn (f+1) a b=b::chn f b (Xs (Qq a b)):=by simp only[chn];rw[if_neg hb0]
   rw[e1]
   by_cases he0:Xs (Qq a b)=[]
   ·refine⟨Q1+Q2,by omega,fun q x hr hq hst => ?_⟩
    have hsb:Stb b x q:=by
     apply Classical.byContradiction
     intro hn
     have:=(h2 q x hr (by omega) hn).2
     rw[he0,hh_nil] at this
     simp at this
    obtain⟨g1,g2⟩:=Dm hsb
    have hm:=h1 q x hr (by omega) hsb
    show Mid _ (sgz (Hh b x q)::_) (sgz (Hh b (x+1) q)::_)
    rw[g1]
    exact Mid.st _ _ g2 hm
   ·have hel:=List.length_pos_iff.2 he0
    rw[Jv] at hel
    obtain⟨f,rfl⟩:∃ k,f=k+1:=⟨f-1,by omega⟩
    have he2:=Bi le he0 he
    have hpl2:=Fy (a:=b) he0
    rw[Jv] at hpl2
    obtain⟨Q4,hQ4,h4⟩:=ih f (by omega) (Xs (Qq a b)) (Xs (Qq b (Xs (Qq a b)))) (by rw[Jv];omega) le (Wu (Gu lb)) he2
    refine⟨Q1+Q2+Q3+Q4,by omega,fun q x hr hq hst => ?_⟩
    by_cases hsb:Stb b x q
    ·obtain⟨g1,g2⟩:=Dm hsb
     have hm:=h1 q x hr (by omega) hsb
     show Mid _ (sgz (Hh b x q)::_) (sgz (Hh b (x+1) q)::_)
     rw[g1]
     exact Mid.st _ _ g2 hm
    ·obtain⟨hse,_⟩:=h2 q x hr (by omega) hsb
     obtain⟨r1,r2⟩:=h3 q x hr (by omega) hsb
     obtain⟨g1,g2⟩:=Dm hse
     have hm:=h4 q x hr (by omega) hse
     have hsg:sgz (Hh (Xs (Qq a b)) x q) = -sgz (Hh a x q):=by
      unfold Stb at hse
      unfold sgz
      rcases hse with ⟨k1,_⟩ | ⟨k1,_⟩
      ·have:=r1 k1
       rw[if_neg (by omega),if_pos k1,if_pos this];rfl
      ·have:=r2 k1
       rw[if_pos k1,if_neg (by omega),if_pos this]
     have e2:chn (f+1) b (Xs (Qq a b))=Xs (Qq a b)::chn f (Xs (Qq a b)) (Xs (Qq b (Xs (Qq a b)))):=by simp only[chn];rw[if_neg he0]
     rw[e2]
     show Mid _ (sgz (Hh b x q)::sgz (Hh (Xs (Qq a b)) x q)::_) (sgz (Hh b (x+1) q)::sgz (Hh (Xs (Qq a b)) (x+1) q)::_)
     rw[g1]
     rw[hsg] at hm ⊢
     exact Mid.un _ _ _ (Zlb _) (Zlb _) hm
end Go.Ai

namespace Go.Ai
open Go.IntKind (i64 u64 u32)
theorem sg_one {a:Int} (h:a=1∨a = -1) (n:Int) (h2:sgz n=a):(a=1∧0<n)∨(a = -1∧n<0):=by
 unfold sgz at h2
 split at h2
 ·right;omega
 ·split at h2
  ·left;omega
  ·omega
theorem Zgb {f:List Int} (R:Int) (hR:0≤R) (lf:Uc f) (hl:2≤f.length) (hl1:(prim (Z9 f)).length=f.length-1) (h:IsG [1] f (prim (Z9 f))) (hc:0<Q9 (Z9 f)) (n:Nat) (hn:f.length-1≤n) :
  ∃ Q0:Int,0<Q0∧∀ q x:Int,InR R q x→Q0≤q→∃ d:Int,Top (sgs (f::chn n f (prim (Z9 f))) x q) (sgs (f::chn n f (prim (Z9 f))) (x+1) q) d∧(d=0∨d=1)∧(d=1→¬ Stb f x q∧Hh f x q ≠ 0)∧(d=0→Stb f x q∨Hh f x q=0):=by
 have l1:Uc (prim (Z9 f)):=Jh _
 have h10:prim (Z9 f) ≠ []:=by intro h0;rw[h0] at hl1;simp at hl1;omega
 obtain⟨Q1,hQ1,m1⟩:=Zdd R hR n n (Nat.le_refl _) f (prim (Z9 f)) (by omega) lf l1 h
 obtain⟨L,Q2,hL,hQ2,p2⟩:=Rh R hR h
 obtain⟨Q3,hQ3,p3⟩:=Td R hR hl hl1 h hc
 obtain⟨n,rfl⟩:∃ k,n=k+1:=⟨n-1,by omega⟩
 have e1:chn (n+1) f (prim (Z9 f))=prim (Z9 f)::chn n (prim (Z9 f)) (Xs (Qq f (prim (Z9 f)))):=by simp only[chn];rw[if_neg h10]
 have he:=Bi l1 h10 h
 have hpl:=Fy (a:=f) h10
 obtain⟨Q4,hQ4,m4⟩:=Zdd R hR n n (Nat.le_refl _) (prim (Z9 f)) (Xs (Qq f (prim (Z9 f)))) (by rw[Jv];omega) l1 (Wu (Gu lf)) he
 refine⟨Q1+Q2+Q3+Q4,by omega,fun q x hr hq => ?_⟩
 by_cases hst:Stb f x q
 ·obtain⟨g1,g2⟩:=Dm hst
  have hm:=m1 q x hr (by omega) hst
  refine⟨0,?_, .inl rfl,fun h=>absurd h (by decide),fun _ => .inl hst⟩
  show Top (sgz (Hh f x q)::_) (sgz (Hh f (x+1) q)::_) 0
  rw[g1]
  exact Top.st _ g2 hm
 ·obtain⟨hs1,_⟩:=p2 q x hr (by omega) hst
  obtain⟨g1,g2⟩:=Dm hs1
  obtain⟨r1,r2⟩:=p3 q x hr (by omega) hst
  have hm:=m4 q x hr (by omega) hs1
  rw[e1]
  refine⟨if sgz (Hh f x q)=0 then 0 else 1,?_,by split;exact .inl rfl;exact .inr rfl,?_,?_⟩
  ·show Top (sgz (Hh f x q)::sgz (Hh (prim (Z9 f)) x q)::_) (sgz (Hh f (x+1) q)::sgz (Hh (prim (Z9 f)) (x+1) q)::_) _
   rw[g1]
   unfold Stb at hst
   rcases sg_one g2 _ rfl with ⟨k1,k2⟩ | ⟨k1,k2⟩
   ·have hd:=r1 k2
    refine Top.un _ _ _ g2 ?_ ?_ hm
    ·rw[k1];unfold sgz; (repeat' split) <;> omega
    ·rw[k1];unfold sgz; (repeat' split) <;> omega
   ·have hd:=r2 k2
    refine Top.un _ _ _ g2 ?_ ?_ hm
    ·rw[k1];unfold sgz; (repeat' split) <;> omega
    ·rw[k1];unfold sgz; (repeat' split) <;> omega
  ·intro hd
   refine⟨hst,fun h0 => ?_⟩
   rw[h0] at hd
   exact absurd hd (by decide)
  ·intro hd
   right
   apply Classical.byContradiction
   intro h0
   rw[if_neg (by unfold sgz; (repeat' split) <;> omega)] at hd
   exact absurd hd (by decide)
end Go.Ai

namespace Go.Ai
open Go.IntKind (i64 u64 u32)
theorem Tl {f:List Int} (R:Int) (hR:0≤R) (lf:Uc f) (hl:2≤f.length) (hl1:(prim (Z9 f)).length=f.length-1) (h:IsG [1] f (prim (Z9 f))) (hc:0<Q9 (Z9 f)) (n:Nat) (hn:f.length-1≤n) :
  ∃ Q0:Int,0<Q0∧∀ q u:Int,0<q→Q0≤q→∀ k:Nat,(u.natAbs:Int)≤R*q→((u+(k:Int)).natAbs:Int)≤R*q →
   wv 0 (sgs (f::chn n f (prim (Z9 f))) (u+(k:Int)) q)≤wv 0 (sgs (f::chn n f (prim (Z9 f))) u q):=by
 obtain⟨Q0,hQ0,ht⟩:=Zgb R hR lf hl hl1 h hc n hn
 refine⟨Q0,hQ0,fun q u hq0 hq k => ?_⟩
 induction k with
 | zero=>intro _ _;simp
 | succ k ih =>
  intro h1 h2
  have h3:((u+(k:Int)).natAbs:Int)≤R*q:=by omega
  have h4:=ih h1 h3
  have h6:((u+(k:Int)+1).natAbs:Int)≤R*q:=by omega
  obtain⟨d,hd,hd2,_,_⟩:=ht q (u+(k:Int)) ⟨hq0,h3,h6⟩ hq
  have h5:=top_wv hd
  have e:u+((k+1:Nat):Int)=u+(k:Int)+1:=by omega
  rw[e]
  omega
theorem Zhh (p:List Int) (x q c:Int) (hc:0<c):sgz (Hh p (c*x) (c*q))=sgz (Hh p x q):=by
 have e:∀ T,hs (fun i=>p.getD i 0) (c*x) (c*q) T=c^T*hs (fun i=>p.getD i 0) x q T:=by
  intro T
  induction T with
  | zero=>simp[hs]
  | succ T ih =>
   simp only[hs]
   rw[ih,Int.mul_pow,Int.pow_succ c T]
   grind
 have hp:0<c^(p.length-1):=Int.pow_pos hc
 unfold Hh Go.Ai.hp
 rw[e]
 generalize hs (fun i=>p.getD i 0) x q (p.length-1)=H
 generalize c^(p.length-1)=C at *
 unfold sgz
 by_cases h1:H<0
 ·have:=Int.mul_neg_of_pos_of_neg hp h1
  rw[if_pos this,if_pos h1]
 ·by_cases h2:0<H
  ·have:=Int.mul_pos hp h2
   rw[if_neg (by omega),if_neg h1,if_pos this,if_pos h2]
  ·have:H=0:=by omega
   rw[this];simp
theorem Nc (l:List (List Int)) (x q c:Int) (hc:0<c):sgs l (c*x) (c*q)=sgs l x q:=by
 unfold sgs
 exact List.map_congr_left fun p _=>Zhh p x q c hc
end Go.Ai

namespace Go.Ai
open Go.IntKind (i64 u64 u32)
theorem Lh {f:List Int} (lf:Uc f) (hl:2≤f.length):(Z9 f).length=f.length-1:=by
 have ht:=U1 lf (by intro h;rw[h] at hl;simp at hl)
 unfold Z9
 have hL:Uc ((List.range (f.length-1)).map fun j=>f.getD (j+1) 0*((j+1:Nat):Int)):=by
  refine Lk (.inr ?_)
  rw[List.length_map,List.length_range,Vx,if_pos (by omega),show f.length-1-1+1=f.length-1 by omega]
  exact Int.mul_ne_zero ht (by omega)
 rw[hL,List.length_map,List.length_range]
theorem Tb {p:List Int} (hp:Zh p ≠ []) (hl:2≤(Z7 p).length):Uc (Z7 p)∧(prim (Z9 (Z7 p))).length=(Z7 p).length-1∧IsG [1] (Z7 p) (prim (Z9 (Z7 p)))∧0<Q9 (Z9 (Z7 p)):=by
 obtain⟨lf,cf,tf,f0,_,_,_,h1⟩:=Ht hp
 generalize Z7 p=f at *
 have hd:=Lh lf hl
 have ld:Uc (Z9 f):=Dc _
 have hd0:Zh (Z9 f) ≠ []:=by rw[ld];intro h;rw[h] at hd;simp at hd;omega
 have hG:=Ka f (Z9 f)
 obtain⟨c,hc⟩:=Zbx h1
 have tG:=Pv (t:=Z9 f) (X2 lf f0)
 rw[hc] at hG tG
 have hc0:0<c:=tG
 refine⟨lf,by rw[Qp,ld,hd],?_,Kk hd0⟩
 have h2:IsG [1] f (Z9 f):=hG.gscaled (m:=c) (n:=1) (by omega) (by decide) (fun x=>by simp[Zc])
 obtain⟨m,hm,hm2⟩:=Vp (Z9 f)
 exact h2.scaled (m:=1) (n:=1) (k:=m) (l:=1) (by decide) (by decide) hm (by decide) (fun x=>rfl) (fun x=>by rw[← hm2 x];omega)
end Go.Ai

namespace Go.Ai
open Go.IntKind (i64 u64 u32)
def Zhu (p:List Int):List (List Int):=if Z7 p=[] then [] else Z7 p::chn (Z7 p).length (Z7 p) (prim (Z9 (Z7 p)))
theorem Sj (p:List Int) {x y q:Int} (hq:0<q) (hxy:x≤y):wv 0 (sgs (Zhu p) y q)≤wv 0 (sgs (Zhu p) x q):=by
 unfold Zhu
 by_cases h0:Z7 p=[]
 ·rw[if_pos h0];exact Int.le_refl _
 ·rw[if_neg h0]
  have hp:Zh p ≠ []:=by
   intro h
   have hz:prim p=[]:=by rw[Xu,← J4];exact h
   apply h0
   unfold Z7;rw[hz];rfl
  have hpos:=List.length_pos_iff.2 h0
  by_cases hl:2≤(Z7 p).length
  ·obtain⟨lf,hl1,hG,hc⟩:=Tb hp hl
   obtain⟨Q0,hQ0,hm⟩:=Tl ((x.natAbs:Int)+(y.natAbs:Int)) (by omega) lf hl hl1 hG hc (Z7 p).length (by omega)
   have h1:(0:Int)<Q0*q:=Int.mul_pos hQ0 hq
   have hQq:Q0≤Q0*q:=by
    have:=Int.mul_le_mul_of_nonneg_left (show (1:Int)≤q by omega) (show 0≤Q0 by omega)
    omega
   have hb:∀ z:Int,(z.natAbs:Int)≤(x.natAbs:Int)+(y.natAbs:Int)→((Q0*z).natAbs:Int)≤((x.natAbs:Int)+(y.natAbs:Int))*(Q0*q):=by
    intro z hz
    have h2:=Jf (a:=Q0) (A:=Q0*q) (by omega) hz
    have e:Q0*q*((x.natAbs:Int)+(y.natAbs:Int))=((x.natAbs:Int)+(y.natAbs:Int))*(Q0*q):=Int.mul_comm ..
    omega
   have hd:0≤Q0*(y-x):=Int.mul_nonneg (by omega) (by omega)
   have e1:Q0*x+((Q0*(y-x)).toNat:Int)=Q0*y:=by rw[Int.toNat_of_nonneg hd,Int.mul_sub];omega
   have h3:=hm (Q0*q) (Q0*x) h1 hQq (Q0*(y-x)).toNat (hb x (by omega)) (by rw[e1];exact hb y (by omega))
   rw[e1,Nc _ _ _ _ hQ0,Nc _ _ _ _ hQ0] at h3
   exact h3
  ·have hl1:(Z7 p).length=1:=by omega
   have hz:prim (Z9 (Z7 p))=[]:=by
    rw[Xu]
    intro i
    rw[Xb,Qt (by omega),Int.zero_mul]
   have e:chn (Z7 p).length (Z7 p) (prim (Z9 (Z7 p)))=[]:=by rw[hl1,hz];rfl
   rw[e]
   have eh:∀ z,Hh (Z7 p) z q=(Z7 p).getD 0 0:=fun z=>by unfold Hh Go.Ai.hp;rw[hl1];rfl
   unfold sgs
   simp only[List.map_cons,List.map_nil]
   rw[eh,eh]
   exact Int.le_refl _
end Go.Ai

namespace Go.Proofs.Ythnnfemologhfaa
open Go.IntKind (i64 u64 u32)
open Go.Ai
set_option maxRecDepth 100000
theorem Zil (x n:Int) (c1:(decide ((Int.tmod x n)<0))=true) (n1:¬ n=0):Ze Yir 55 [.int .i64 x, .int .i64 n] (.int .i64 (i64.wrap ((Int.tmod x n)+n))):=Ze.go (fn:=Zr3) Zk rfl 400 rfl [.b true] (ac n1 (ac c1 a0))
theorem Zik (x n:Int) (c1:(decide ((Int.tmod x n)<0))=false) (n1:¬ n=0):Ze Yir 55 [.int .i64 x, .int .i64 n] (.int .i64 (Int.tmod x n)):=Ze.go (fn:=Zr3) Zk rfl 400 rfl [.b false] (ac n1 (ac c1 a0))
def Zf2 (rs:List Rn) (xs:List Int) (o:Bool) (at_:Int) (sum:Int) (i:Int):Zi:=(.val (.sl rs.length (pc rs))::(.val (.sl xs.length (li xs))::(dds 2 (.val (.bool o)::(.val (.int .i64 at_)::(.val (.int .i64 sum)::(.val (.int .i64 i)::(dds 87 []))))))))
theorem Yk11_4 (rs:List Rn) (xs:List Int) (o:Bool) (at_:Int) (sum:Int) (i:Int) (z v w:Int) (c1:(decide (i<(xs.length:Int)))=true) (c2:(w != 0)=false) (c3:(decide (v<0))=false) (c4:((i64.wrap (at_+z))==at_)=true) (c5:(v != 0)=false) (n1:0≤i∧i<(xs.length:Int)) (n2:Ze Yir 55 [.int .i64 (xs.getD (Int.toNat i) 0), .int .i64 9] (.int .i64 z)) (n3:Ze Yir 56 [.int .i64 at_] (Zp at_)) (n4:Ze Yir 56 [.int .i64 (i64.wrap (at_+z))] (Zp (i64.wrap (at_+z)))) (n5:Ze Yir 50 [.sl rs.length (pc rs), .agg [.bool (decide (at_<0)), .sl ((Zb (Int.natAbs at_)).length) (lm (Zb (Int.natAbs at_))), .int .i64 1], .agg [.bool (decide ((i64.wrap (at_+z))<0)), .sl ((Zb (Int.natAbs (i64.wrap (at_+z)))).length) (lm (Zb (Int.natAbs (i64.wrap (at_+z))))), .int .i64 1]] (.tup [.int .i64 v, .int .i64 w])):Za Yir Zr8 (Zf2 rs xs o at_ sum i) .norm (Zf2 rs xs o (i64.wrap (at_+z)) (i64.wrap (sum+v)) (i64.wrap (i+1))):=(Za.go Zk 400 [.b true, .v (.int .i64 (xs.getD (Int.toNat i) 0)), .r (.int .i64 z), .r (Zp at_), .r (Zp (i64.wrap (at_+z))), .r (.tup [.int .i64 v, .int .i64 w]), .b false, .b false, .b true, .b false, .b true, .b false] [0,1,4,5,6,7] (ac c1 (ac n1 (ac (Pz n1) (ac n2 (ac n3 (ac n4 (ac n5 (ac c2 (ac c3 (ac c4 (ac c3 (ac c4 (ac c5 a0))))))))))))))
theorem Yk11_5 (rs:List Rn) (xs:List Int) (o:Bool) (at_:Int) (sum:Int) (i:Int) (z v w:Int) (c1:(decide (i<(xs.length:Int)))=true) (c2:(w != 0)=false) (c3:(decide (v<0))=false) (c4:((i64.wrap (at_+z))==at_)=false) (n1:0≤i∧i<(xs.length:Int)) (n2:Ze Yir 55 [.int .i64 (xs.getD (Int.toNat i) 0), .int .i64 9] (.int .i64 z)) (n3:Ze Yir 56 [.int .i64 at_] (Zp at_)) (n4:Ze Yir 56 [.int .i64 (i64.wrap (at_+z))] (Zp (i64.wrap (at_+z)))) (n5:Ze Yir 50 [.sl rs.length (pc rs), .agg [.bool (decide (at_<0)), .sl ((Zb (Int.natAbs at_)).length) (lm (Zb (Int.natAbs at_))), .int .i64 1], .agg [.bool (decide ((i64.wrap (at_+z))<0)), .sl ((Zb (Int.natAbs (i64.wrap (at_+z)))).length) (lm (Zb (Int.natAbs (i64.wrap (at_+z))))), .int .i64 1]] (.tup [.int .i64 v, .int .i64 w])):Za Yir Zr8 (Zf2 rs xs o at_ sum i) .norm (Zf2 rs xs o (i64.wrap (at_+z)) (i64.wrap (sum+v)) (i64.wrap (i+1))):=(Za.go Zk 400 [.b true, .v (.int .i64 (xs.getD (Int.toNat i) 0)), .r (.int .i64 z), .r (Zp at_), .r (Zp (i64.wrap (at_+z))), .r (.tup [.int .i64 v, .int .i64 w]), .b false, .b false, .b false, .b false, .b false, .b false] [0,1,4,5,6,7] (ac c1 (ac n1 (ac (Pz n1) (ac n2 (ac n3 (ac n4 (ac n5 (ac c2 (ac c3 (ac c4 (ac c3 (ac c4 (ac (show false=false from rfl) a0))))))))))))))
theorem Yk11_6 (rs:List Rn) (xs:List Int) (o:Bool) (at_:Int) (sum:Int) (i:Int)  (c1:(decide (i<(xs.length:Int)))=false):Za Yir Zr8 (Zf2 rs xs o at_ sum i) (.exit 0) (Zf2 rs xs o at_ sum i):=(Za.go Zk 400 [.b false] [0,1,4,5,6,7] (ac c1 a0))
theorem Ziq (rs:List Rn) (xs:List Int) (d:Int) (b:Bool) (c3:(b)=true) (c4:(decide (d<0))=true) (n1:Ze Yir 47 [] (.bool true)) (n2:Ze Yir 48 [.sl rs.length (pc rs)] (.bool b)) (n3:Ze Yir 44 [.sl rs.length (pc rs)] (.int .i64 d)):Ze Yir 11 [.sl rs.length (pc rs), .sl xs.length (li xs)] (.bool true):=Ze.of_bodyW (fn:=Zl1) (s:=(dds 4 (.val (.bool true)::(dds 90 [])))) (ex := .ret) rfl rfl (Za.seq (Za.go (t:=(vp rs::(.val (.sl xs.length (li xs))::(dds 2 (.val (.bool false)::(dds 90 [])))))) Zk 400 [] [0,1,4] a0) (Za.seq (Za.go (t:=(vp rs::(.val (.sl xs.length (li xs))::(dds 2 (.val (.bool false)::(dds 90 [])))))) Zk 400 [.r (.bool true), .b false] [0,1,4] (ac n1 (ac (show false=false from rfl) a0))) (Za.seq_out (Za.go Zk 400 [.r (.bool b), .b false, .r (.int .i64 d), .b true, .b true, .r (.bool true)] [4] (ac n2 (ac (show (!b)=false from (by rw [c3];rfl)) (ac n3 (ac c4 (ac (show true=true from rfl) (ac n1 a0))))))) (by intro e;cases e)))) (by intro i e;cases e) rfl
theorem Zip (rs:List Rn) (xs:List Int) (d:Int) (b:Bool) (c3:(b)=true) (c4:(decide (d<0))=false) (c5:(decide ((xs.length:Int)>12))=true) (n1:Ze Yir 47 [] (.bool true)) (n2:Ze Yir 48 [.sl rs.length (pc rs)] (.bool b)) (n3:Ze Yir 44 [.sl rs.length (pc rs)] (.int .i64 d)):Ze Yir 11 [.sl rs.length (pc rs), .sl xs.length (li xs)] (.bool true):=Ze.of_bodyW (fn:=Zl1) (s:=(dds 4 (.val (.bool true)::(dds 90 [])))) (ex := .ret) rfl rfl (Za.seq (Za.go (t:=(vp rs::(.val (.sl xs.length (li xs))::(dds 2 (.val (.bool false)::(dds 90 [])))))) Zk 400 [] [0,1,4] a0) (Za.seq (Za.go (t:=(vp rs::(.val (.sl xs.length (li xs))::(dds 2 (.val (.bool false)::(dds 90 [])))))) Zk 400 [.r (.bool true), .b false] [0,1,4] (ac n1 (ac (show false=false from rfl) a0))) (Za.seq_out (Za.go Zk 400 [.r (.bool b), .b false, .r (.int .i64 d), .b false, .b true, .r (.bool true)] [4] (ac n2 (ac (show (!b)=false from (by rw [c3];rfl)) (ac n3 (ac c4 (ac c5 (ac n1 a0))))))) (by intro e;cases e)))) (by intro i e;cases e) rfl
theorem Zio (rs:List Rn) (xs:List Int) (d v w at_ sum i:Int) (b:Bool) (c1:(w==0)=true) (c2:(v==sum)=true) (c3:(b)=true) (c4:(decide (d<0))=false) (c5:(decide ((xs.length:Int)>12))=false) (n1:Ze Yir 47 [] (.bool true)) (n2:Ze Yir 48 [.sl rs.length (pc rs)] (.bool b)) (n3:Ze Yir 44 [.sl rs.length (pc rs)] (.int .i64 d)) (hl4:Za Yir (.loop Zr8) (Zf2 rs xs false (-60) 0 0) (.exit 0) (Zf2 rs xs false at_ sum i)) (n5:Ze Yir 56 [.int .i64 (-60)] (Zp (-60))) (n6:Ze Yir 56 [.int .i64 at_] (Zp at_)) (n7:Ze Yir 50 [.sl rs.length (pc rs), .agg [.bool (decide ((-60)<0)), .sl ((Zb (Int.natAbs (-60))).length) (lm (Zb (Int.natAbs (-60)))), .int .i64 1], .agg [.bool (decide (at_<0)), .sl ((Zb (Int.natAbs at_)).length) (lm (Zb (Int.natAbs at_))), .int .i64 1]] (.tup [.int .i64 v, .int .i64 w])):Ze Yir 11 [.sl rs.length (pc rs), .sl xs.length (li xs)] (.bool (decide (sum≤d))):=Ze.of_bodyW (fn:=Zl1) (s:=(dds 4 (.val (.bool (decide (sum≤d)))::(dds 90 [])))) (ex := .ret) rfl rfl (Za.seq (Za.go (t:=(vp rs::(.val (.sl xs.length (li xs))::(dds 2 (.val (.bool false)::(dds 90 [])))))) Zk 400 [] [0,1,4] a0) (Za.seq (Za.go (t:=(vp rs::(.val (.sl xs.length (li xs))::(dds 2 (.val (.bool false)::(dds 90 [])))))) Zk 400 [.r (.bool true), .b false] [0,1,4] (ac n1 (ac (show false=false from rfl) a0))) (Za.seq (Za.go (t:=(vp rs::(.val (.sl xs.length (li xs))::(dds 2 (.val (.bool false)::(dds 90 [])))))) Zk 400 [.r (.bool b), .b false, .r (.int .i64 d), .b false, .b false] [0,1,4] (ac n2 (ac (show (!b)=false from (by rw [c3];rfl)) (ac n3 (ac c4 (ac c5 a0)))))) (Za.seq (Za.go (t:=(vp rs::(.val (.sl xs.length (li xs))::(dds 2 (.val (.bool false)::(vi (-60)::(dds 89 []))))))) Zk 400 [] [0,1,4,5] a0) (Za.seq (Za.go (t:=(vp rs::(.val (.sl xs.length (li xs))::(dds 2 (.val (.bool false)::(vi (-60)::(vi 0::(dds 88 [])))))))) Zk 400 [] [0,1,4,5,6] a0) (Za.seq (Za.seq (Za.go Zk 400 [] [0,1,4,5,6,7] a0) (Za.block hl4)) (Za.go Zk 400 [.r (Zp (-60)), .r (Zp at_), .r (.tup [.int .i64 v, .int .i64 w]), .b true, .b true, .r (.int .i64 d)] [4] (ac n5 (ac n6 (ac n7 (ac c1 (ac c2 (ac n3 a0))))))))))))) (by intro i e;cases e) rfl
theorem Zin (rs:List Rn) (xs:List Int) (b:Bool) (c3:(b)=false) (n1:Ze Yir 47 [] (.bool true)) (n2:Ze Yir 48 [.sl rs.length (pc rs)] (.bool b)):Ze Yir 11 [.sl rs.length (pc rs), .sl xs.length (li xs)] (.bool true):=Ze.of_bodyW (fn:=Zl1) (s:=(dds 4 (.val (.bool true)::(dds 90 [])))) (ex := .ret) rfl rfl (Za.seq (Za.go (t:=(vp rs::(.val (.sl xs.length (li xs))::(dds 2 (.val (.bool false)::(dds 90 [])))))) Zk 400 [] [0,1,4] a0) (Za.seq (Za.go (t:=(vp rs::(.val (.sl xs.length (li xs))::(dds 2 (.val (.bool false)::(dds 90 [])))))) Zk 400 [.r (.bool true), .b false] [0,1,4] (ac n1 (ac (show false=false from rfl) a0))) (Za.seq_out (Za.go Zk 400 [.r (.bool b), .b true, .b true, .b true, .r (.bool true)] [4] (ac n2 (ac (show (!b)=true from (by rw [c3];rfl)) (ac (show true=true from rfl) (ac (show true=true from rfl) (ac n1 a0)))))) (by intro e;cases e)))) (by intro i e;cases e) rfl
end Go.Proofs.Ythnnfemologhfaa

namespace Go.Proofs.Ythnnfemologhfaa
open Go.IntKind (i64 u64 u32)
open Go.Ai
set_option maxRecDepth 100000
theorem Az:∀ (f:Nat) (a b:List Int),Uu f a b=chn f a b
 | 0,_,_=>rfl
 | f+1,a,b=>by simp only[Uu,chn];rw[Az f]
theorem Bj (p:List Int):J0 p=Zhu p:=by unfold J0 Zhu;rw [Az]
theorem sg_at (l:List (List Int)) (N:Int) (e i:Nat):Sq l N e i=sgz (Hh (l.getD i []) N (2^e)):=by
 unfold Sq Hh
 rw[hp_hv];rfl
theorem Zf9 (l:List (List Int)) (N:Int) (e:Nat):∀ i,i≤l.length→(Xo l N e i).1+wv (Xo l N e i).2 (sgs (l.drop i) N (2^e))=wv 0 (sgs l N (2^e)):=by
 intro i
 induction i with
 | zero=>intro _;simp[Xo]
 | succ i ih =>
  intro hi
  rw[← ih (by omega)]
  rw[List.drop_eq_getElem_cons (show i<l.length by omega)]
  have hg:l.getD i []=l[i]:=by rw[List.getD_eq_getElem?_getD,List.getElem?_eq_getElem (by omega)];rfl
  have hs:=sg_at l N e i
  rw[hg] at hs
  show (Sh (Xo l N e i) (Sq l N e i)).1+wv (Sh (Xo l N e i) (Sq l N e i)).2 _=(Xo l N e i).1+wv (Xo l N e i).2 (sgz (Hh l[i] N (2^e))::_)
  rw[← hs]
  generalize Xo l N e i=x
  generalize Sq l N e i=s
  obtain⟨n,last⟩:=x
  simp only[Sh,wv]
  by_cases h0:s=0
  ·rw[if_neg (fun h=>h.1 h0),if_neg (fun h=>h h0),if_pos h0];rfl
  ·rw[if_neg h0,if_pos h0]
   by_cases h1:last ≠ 0∧s ≠ last
   ·rw[if_pos ⟨h0,h1⟩,if_pos h1];show n+1+wv s (sgs (l.drop (i+1)) N (2^e))=n+(1+wv s (sgs (l.drop (i+1)) N (2^e)));omega
   ·rw[if_neg (fun h=>h1 h.2),if_neg h1];show n+wv s (sgs (l.drop (i+1)) N (2^e))=n+(0+wv s (sgs (l.drop (i+1)) N (2^e)));omega
def V2 (p:List Int) (x:Int):Int:=(Xo (J0 p) x 1 (J0 p).length).1
theorem Zrp (p:List Int) (x:Int):V2 p x=wv 0 (sgs (Zhu p) x 2):=by
 have h:=Zf9 (J0 p) x 1 (J0 p).length (Nat.le_refl _)
 rw[List.drop_length] at h
 have e:(2:Int)^1=2:=by decide
 rw[e,Bj] at h
 unfold V2
 rw[Bj]
 have:wv (Xo (Zhu p) x 1 (Zhu p).length).2 (sgs [] x 2)=0:=rfl
 omega
theorem Zfh (p:List Int) {x y:Int} (h:x≤y):V2 p y≤V2 p x:=by rw [Zrp,Zrp];exact Sj p (by decide) h
theorem Bt (p:List Int) (x:Int):0≤V2 p x:=(Hk _ _ _ _).1
theorem Zf3:∀ (l:List Int) (last:Int),wv last l≤(l.length:Int)
 | [],_=>by simp[wv]
 | s::ss,last=>by
  simp only[wv,List.length_cons]
  have h1:=Zf3 ss last
  have h2:=Zf3 ss s
  split
  ·omega
  ·split <;> omega
theorem wv_le1 (s:Int) (ss:List Int):wv 0 (s::ss)≤(ss.length:Int):=by
 simp only[wv]
 have h1:=Zf3 ss 0
 have h2:=Zf3 ss s
 split
 ·omega
 ·rw[if_neg (fun h=>h.1 rfl)];omega
theorem Ax:∀ (f:Nat) (a b:List Int),(chn f a b).length≤b.length
 | 0,_,_=>by simp[chn]
 | f+1,a,b=>by
  simp only[chn]
  split
  ·simp
  ·rename_i h
   have h1:=Ax f b (Xs (Qq a b))
   have h2:=Fy (a:=a) h
   rw[Jv] at h1
   simp only[List.length_cons]
   omega
theorem Zrq {rs:List Rn} (hr:∀ r∈rs,Xj 4 r) (hn:rs.length≤9) (h0:Zh (Zj rs) ≠ []) (x:Int):V2 (Zj rs) x≤((Zh (Zj rs)).length:Int)-1:=by
 obtain⟨_,k2⟩:=Rv h0 (by rw[Z0];exact hn) (Nr (Xg hr))
 obtain⟨_,_,_,f0,_⟩:=Ht h0
 rw[Zrp]
 unfold Zhu
 rw[if_neg f0]
 have hf:=List.length_pos_iff.2 f0
 obtain⟨_,_,_,_,l2,l3,_,_⟩:=V9 hr hn f0
 have h1:=Ax (Z7 (Zj rs)).length (Z7 (Zj rs)) (prim (Z9 (Z7 (Zj rs))))
 unfold sgs
 simp only[List.map_cons]
 have h2:=wv_le1 (sgz (Hh (Z7 (Zj rs)) x 2)) ((chn (Z7 (Zj rs)).length (Z7 (Zj rs)) (prim (Z9 (Z7 (Zj rs))))).map fun p=>sgz (Hh p x 2))
 rw[List.length_map] at h2
 omega
theorem Av {rs:List Rn} (hp:∀ p∈rs,Xj 4 p) (hn:rs.length≤9) (h0:Zh (Zj rs) ≠ []) {x y:Int} (hx : -1000≤x∧x≤1000) (hy : -1000≤y∧y≤1000) (hxy:x≤y) :
  Ze Yir 50 [.sl rs.length (pc rs),dyA x 1,dyA y 1] (.tup [.int .i64 (V2 (Zj rs) x-V2 (Zj rs) y), .int .i64 0]):=by
 have gx:Xj 8 (cn x):=(Jy (F7 (n:=x) (by omega))).mono (by omega)
 have gy:Xj 8 (cn y):=(Jy (F7 (n:=y) (by omega))).mono (by omega)
 have v1:=E6 (r:=cn x) (e:=((1:Nat):Int)) (gx.mono (show 8≤200 by omega))
 have v2:=E6 (r:=cn y) (e:=((1:Nat):Int)) (gy.mono (show 8≤200 by omega))
 have ev:vE ((1:Nat):Int)=true:=by decide
 rw[ev] at v1 v2
 have hpr:=Yrun34 rs _ (large1 hp (by omega) (by omega)) (Tc (Q6 hp (by omega) (by omega)))
 have hch:=Tv hp hn
 have hlen:=To hp hn
 have hnice:=Ly hp hn
 have hc:J0 (Zj rs) ≠ []:=fun h=>h0 (Tn.1 h)
 have hc1:=List.length_pos_iff.2 hc
 have hpl:=Zbj (J0 (Zj rs))
 have n1:((((pps (J0 (Zj rs))).length:Nat):Int)==0)=false:=by rw[beq_eq_false_iff_ne];omega
 obtain⟨m1,_⟩:=Er gx gy (a:=1) (b:=1) (by omega) (by omega)
 rw[Qe,Qe] at m1
 have c3:¬ Ux (x*2^1) (y*2^1)>0:=by
  rw[show (2:Int)^1=2 by decide]
  unfold Ux
  split
  ·decide
  ·rw[if_neg (by omega)];decide
 have a1:=Bh hnice gx 1 (by omega) (by omega)
 have a2:=Bh hnice gy 1 (by omega) (by omega)
 rw[Qe] at a1 a2
 have k1:=Zlv _ (cn x) ((1:Nat):Int) _ a1
 have k2:=Zlv _ (cn y) ((1:Nat):Int) _ a2
 have b1:=Hk (J0 (Zj rs)) x 1 (J0 (Zj rs)).length
 have b2:=Hk (J0 (Zj rs)) y 1 (J0 (Zj rs)).length
 have k:=Zim rs _ _ (cn x) (cn y) ((1:Nat):Int) ((1:Nat):Int) 0 _ _ _ true true rfl n1 rfl rfl (decide_eq_false c3) hpr hch v1 v2 m1 k1 k2
 rw[w64 (by omega) (by omega)] at k
 exact k
theorem Zbo (x:Int):∃ z:Int,0≤z∧z≤8∧Ze Yir 55 [.int .i64 x, .int .i64 9] (.int .i64 z):=by
 have h1:=Int.tmod_lt_of_pos x (show (0:Int)<9 by decide)
 have h2 : -9<Int.tmod x 9:=by
  have h3:=Int.tmod_lt_of_pos (-x) (show (0:Int)<9 by decide)
  rw[Int.neg_tmod] at h3
  omega
 by_cases c:Int.tmod x 9<0
 ·have k:=Zil x 9 (decide_eq_true c) (by decide)
  rw[w64 (by omega) (by omega)] at k
  exact⟨_,by omega,by omega,k⟩
 ·exact⟨_,by omega,by omega,Zik x 9 (decide_eq_false c) (by decide)⟩
theorem Zdm {rs:List Rn} {xs:List Int} (hp:∀ p∈rs,Xj 4 p) (hn:rs.length≤9) (h0:Zh (Zj rs) ≠ []) (hx:xs.length≤12):∀ (r i:Nat) (a:Int),i+r=xs.length → -60≤a∧a ≤ -60+8*(i:Int) →
  ∃ a':Int,(-60≤a'∧a'≤36)∧Za Yir (.loop Zr8) (Zf2 rs xs false a (V2 (Zj rs) (-60)-V2 (Zj rs) a) (i:Nat)) (.exit 0) (Zf2 rs xs false a' (V2 (Zj rs) (-60)-V2 (Zj rs) a') (xs.length:Nat)):=by
 intro r
 induction r with
 | zero =>
  intro i a hi ha
  have:i=xs.length:=by omega
  subst this
  exact⟨a,by omega,Za.loop_out (Yk11_6 rs xs false a _ _ (by simp)) (by intro e;cases e)⟩
 | succ r ih =>
  intro i a hi ha
  have ei:i64.wrap ((i:Int)+1)=((i+1:Nat):Int):=by rw[w64 (by omega) (by omega)];omega
  obtain⟨z,z1,z2,hz⟩:=Zbo (xs.getD i 0)
  have ea:i64.wrap (a+z)=a+z:=w64 (by omega) (by omega)
  have o1:=Rj (n:=a) (by omega)
  have o2:=Rj (n:=a+z) (by omega)
  have hc:=Av hp hn h0 (x:=a) (y:=a+z) (by omega) (by omega) (by omega)
  have hm:=Zfh (Zj rs) (show a≤a+z by omega)
  have b1:=Bt (Zj rs) (a+z)
  have b2:=Zrq hp hn h0 a
  have b3:=Zrq hp hn h0 (-60)
  have b4:=Bt (Zj rs) a
  have b5:=Zfh (Zj rs) (show -60≤a by omega)
  have ht:=A7 rs
  have es:i64.wrap (V2 (Zj rs) (-60)-V2 (Zj rs) a+(V2 (Zj rs) a-V2 (Zj rs) (a+z)))=V2 (Zj rs) (-60)-V2 (Zj rs) (a+z):=by rw[w64 (by omega) (by omega)];omega
  obtain⟨a',ha',hl⟩:=ih (i+1) (a+z) (by omega) (by omega)
  refine⟨a',ha',Za.loop ?_ hl⟩
  by_cases c:a+z=a
  ·have k:=Yk11_4 rs xs false a (V2 (Zj rs) (-60)-V2 (Zj rs) a) (i:Nat) z (V2 (Zj rs) a-V2 (Zj rs) (a+z)) 0 (by simp;omega) rfl (by rw[decide_eq_false_iff_not];omega) (by rw[ea,beq_iff_eq];exact c) (by rw[c,Int.sub_self];rfl) (by omega) (by rw[Int.toNat_natCast];exact hz) o1 (by rw[ea];exact o2) (by rw[ea];exact hc)
   rw[ea,es,ei] at k
   exact k
  ·have k:=Yk11_5 rs xs false a (V2 (Zj rs) (-60)-V2 (Zj rs) a) (i:Nat) z (V2 (Zj rs) a-V2 (Zj rs) (a+z)) 0 (by simp;omega) rfl (by rw[decide_eq_false_iff_not];omega) (by rw[ea,beq_eq_false_iff_ne];exact c) (by omega) (by rw[Int.toNat_natCast];exact hz) o1 (by rw[ea];exact o2) (by rw[ea];exact hc)
   rw[ea,es,ei] at k
   exact k
theorem Zh0 {rs:List Rn} {xs:List Int} (hp:∀ r∈rs,U32 r.2):Ze Yir 11 [.sl rs.length (pc rs), .sl xs.length (li xs)] (.bool true):=by
 have haw:=Yrun47
 have hfw:=Zhk rs
 cases b1:fewB 9 4 rs with
 | false=>rw[b1] at hfw;exact Zin rs xs false rfl haw hfw
 | true =>
  rw[b1] at hfw
  obtain⟨hn,hg⟩:=Zhj b1 hp
  have hdeg:=Ng (rs:=rs) (fun r h=>(hg r h).mono (by omega)) (by omega)
  by_cases h0:Zh (Zj rs)=[]
  ·have hz:(Zh (Zj rs)).length=0:=by rw[h0];rfl
   exact Ziq rs xs _ true rfl (by rw[decide_eq_true_eq];omega) haw hfw hdeg
  ·have hpos:=List.length_pos_iff.2 h0
   have c2:decide ((((Zh (Zj rs)).length:Nat)-1:Int)<0)=false:=by rw[decide_eq_false_iff_not];omega
   by_cases hx:xs.length>12
   ·exact Zip rs xs _ true rfl c2 (by rw[decide_eq_true_eq];omega) haw hfw hdeg
   ·obtain⟨a,ha,hl⟩:=Zdm hg hn h0 (xs:=xs) (by omega) xs.length 0 (-60) (by omega) (by omega)
    rw[Int.sub_self] at hl
    have o1:=Rj (n := -60) (by decide)
    have o2:=Rj (n:=a) (by omega)
    have hc:=Av hg hn h0 (x := -60) (y:=a) (by decide) (by omega) (by omega)
    have b1:=Bt (Zj rs) a
    have b3:=Zrq hg hn h0 (-60)
    have k:=Zio rs xs _ _ 0 a _ _ true rfl (beq_self_eq_true _) rfl c2 (by rw[decide_eq_false_iff_not];omega) haw hfw hdeg hl o1 o2 hc
    rw[decide_eq_true (show V2 (Zj rs) (-60)-V2 (Zj rs) a≤(((Zh (Zj rs)).length:Nat)-1:Int) by omega)] at k
    exact k
end Go.Proofs.Ythnnfemologhfaa
