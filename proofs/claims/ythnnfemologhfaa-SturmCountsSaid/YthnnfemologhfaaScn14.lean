/- Texts of the proof of SturmCounts, packed by pack.py: part 14 of 19. -/
import Derived.Test.YthnnfemologhfaaScn13
namespace Go.Proofs.Ythnnfemologhfaa
open Go.IntKind (i64 u64 u32)
open Go.Ai
set_option maxRecDepth 100000
def Zjg (rs:List Rn) (w:Rn) (i:Int) (z:Rn):Zk:=(.val (.sl rs.length (pc rs))::(dds 1 (.box [.bool z.1, .sl z.2.length (lm z.2)]::(.box [.bool w.1, .sl w.2.length (lm w.2)]::(.val (.int .i64 i)::(dds 19 []))))))
theorem Yk85_1 (rs:List Rn) (w:Rn) (i:Int) (z:Rn) (b g:Int) (c1:(decide (i≥0))=true) (c2:(b != 1)=true) (n1:0≤i∧i<(rs.length:Int)) (n2:Ze Yir 77 [Zt w] (.int .i64 b)) (n3:Ze Yir 109 [Zt w,Zt (rs.getD (Int.toNat i) z0)] (Zl g)):Za Yir Zyy (Zjg rs w i z) .norm (Zjg rs (cn g) (i64.wrap (i-1)) z):=(Za.go Qe 400 [.b true, .r (.int .i64 b), .b true, .v (Zt (rs.getD (Int.toNat i) z0)), .r (Zl g)] [0,2,3,4] (ac c1 (ac n2 (ac c2 (ac n1 (ac (Qi n1) (ac n3 a0)))))))
theorem Yk85_2 (rs:List Rn) (w:Rn) (i:Int) (z:Rn) (b:Int) (c1:(decide (i≥0))=true) (c2:(b != 1)=false) (n1:Ze Yir 77 [Zt w] (.int .i64 b)):Za Yir Zyy (Zjg rs w i z) (.exit 0) (Zjg rs w i z):=(Za.go Qe 400 [.b true, .r (.int .i64 b), .b false] [0,2,3,4] (ac c1 (ac n1 (ac c2 a0))))
theorem Yk85_3 (rs:List Rn) (w:Rn) (i:Int) (z:Rn)  (c1:(decide (i≥0))=false):Za Yir Zyy (Zjg rs w i z) (.exit 0) (Zjg rs w i z):=(Za.go Qe 400 [.b false, .b false] [0,2,3,4] (ac c1 (ac (show false=false from rfl) a0)))
theorem Yrun85 (rs:List Rn) (w z:Rn) (i:Int) (hl1:Za Yir (.loop Zyy) (Zjg rs (false,[]) (i64.wrap ((rs.length:Int)-1)) (false,[])) (.exit 0) (Zjg rs w i z)):Ze Yir 85 [.sl rs.length (pc rs)] (Zt w):=Ze.of_bodyW (fn:=Yi85) (s:=(dds 2 (.box [.bool w.1, .sl w.2.length (lm w.2)]::(dds 21 [])))) (ex := .ret) rfl rfl (Za.seq (Za.go (t:=(vp rs::(dds 1 (.box [.bool false, .sl 0 []]::(dds 21 []))))) Qe 400 [] [0,2] a0) (Za.seq (Za.go (t:=(vp rs::(dds 1 (.box [.bool false, .sl 0 []]::(.box [.bool false, .sl 0 []]::(dds 20 [])))))) Qe 400 [] [0,2,3] a0) (Za.seq (Za.seq (Za.go Qe 400 [] [0,2,3,4] a0) (Za.block hl1)) (Za.go Qe 400 [] [2] a0)))) (by intro i e;cases e) rfl
def Zjf (k:Nat) (os:List Rn) (w:Rn) (n:Int) (i:Int):Zk:=(dds 3 (.own 2 k (pc os)::(.box [.bool w.1, .sl w.2.length (lm w.2)]::(dds 9 (.val (.int .i64 n)::(.val (.int .i64 i)::(dds 16 [])))))))
theorem Yk86_1 (k:Nat) (os:List Rn) (w:Rn) (n:Int) (i:Int) (q r:Int) (c1:(decide (i<n))=true) (n1:0≤i∧i<(k:Int)) (n2:os.length=k) (n3:Ze Yir 110 [Zt (os.getD (Int.toNat i) z0),Zt w] (.tup [Zl q,Zl r])):Za Yir Zyx (Zjf k os w n i) .norm (Zjf k (os.set (Int.toNat i) (cn q)) w n (i64.wrap (i+1))):=(Za.go Qe 400 [.b true, .v (Zt (os.getD (Int.toNat i) z0)), .r (.tup [Zl q,Zl r]), .l (pc (os.set (Int.toNat i) (cn q)))] [3,4,14,15] (ac c1 (ac n1 (ac (Vv n2 n1) (ac n3 (ac n1 (ac (Wc (r:=cn q) n2 n1) a0)))))))
theorem Yk86_2 (k:Nat) (os:List Rn) (w:Rn) (n:Int) (i:Int)  (c1:(decide (i<n))=false):Za Yir Zyx (Zjf k os w n i) (.exit 0) (Zjf k os w n i):=(Za.go Qe 400 [.b false] [3,4,14,15] (ac c1 a0))
theorem Zll (rs ts os:List Rn) (w:Rn) (g b n i:Int) (k:Nat) (c1:(decide (b>1))=true) (n1:Ze Yir 92 [.sl rs.length (pc rs)] (.fresh 2 ts.length (pc ts))) (n2:List.all (pc ts) (fun c => !isI c)=true) (n3:U5 (Zl g)=true) (n4:Ze Yir 85 [.sl ts.length (pc ts)] (Zl g)) (n5:Ze Yir 77 [Zl g] (.int .i64 b)) (hl6:Za Yir (.loop Zyx) (Zjf ts.length ts (cn g) (ts.length:Int) 0) (.exit 0) (Zjf k os w n i)):Ze Yir 86 [.sl rs.length (pc rs)] (.fresh 2 k (pc os)):=Ze.of_bodyW (fn:=Zyr) (s:=(dds 2 (.own 2 k (pc os)::(dds 29 [])))) (ex := .ret) rfl rfl (Za.seq (Za.go (t:=(vp rs::(dds 1 (.own 2 0 []::(dds 29 []))))) Qe 400 [] [0,2] a0) (Za.seq (Za.go (t:=(vp rs::(dds 1 (.own 2 0 []::(.own 2 ts.length (pc ts)::(dds 28 [])))))) Qe 400 [.r (.fresh 2 ts.length (pc ts))] [0,2,3] (ac n1 a0)) (Za.seq (Za.go (t:=(vp rs::(dds 1 (.own 2 0 []::(.own 2 ts.length (pc ts)::(bN g::(dds 27 []))))))) Qe 400 [.r (Zl g)] [0,2,3,4] (ac n2 (ac n3 (ac n4 a0)))) (Za.seq (Za.seq (Za.go (t:=(vp rs::(dds 1 (.own 2 0 []::(.own 2 ts.length (pc ts)::(bN g::(dds 7 (.val (.bool (decide (b>1)))::(dds 19 []))))))))) Qe 400 [.r (.int .i64 b)] [0,2,3,4,12] (ac n5 a0)) (Za.cond_t (by rfl) c1 (Za.seq (Za.go Qe 400 [] [3,4,14,15] a0) (Za.block hl6)))) (Za.go Qe 400 [] [2] a0))))) (by intro i e;cases e) rfl
theorem Zlk (rs ts:List Rn) (g b:Int) (c1:(decide (b>1))=false) (n1:Ze Yir 92 [.sl rs.length (pc rs)] (.fresh 2 ts.length (pc ts))) (n2:List.all (pc ts) (fun c => !isI c)=true) (n3:U5 (Zl g)=true) (n4:Ze Yir 85 [.sl ts.length (pc ts)] (Zl g)) (n5:Ze Yir 77 [Zl g] (.int .i64 b)):Ze Yir 86 [.sl rs.length (pc rs)] (.fresh 2 ts.length (pc ts)):=Ze.of_bodyW (fn:=Zyr) (s:=(dds 2 (.own 2 ts.length (pc ts)::(dds 29 [])))) (ex := .ret) rfl rfl (Za.seq (Za.go (t:=(vp rs::(dds 1 (.own 2 0 []::(dds 29 []))))) Qe 400 [] [0,2] a0) (Za.seq (Za.go (t:=(vp rs::(dds 1 (.own 2 0 []::(.own 2 ts.length (pc ts)::(dds 28 [])))))) Qe 400 [.r (.fresh 2 ts.length (pc ts))] [0,2,3] (ac n1 a0)) (Za.seq (Za.go (t:=(vp rs::(dds 1 (.own 2 0 []::(.own 2 ts.length (pc ts)::(bN g::(dds 27 []))))))) Qe 400 [.r (Zl g)] [0,2,3,4] (ac n2 (ac n3 (ac n4 a0)))) (Za.seq (Za.seq (Za.go (t:=(vp rs::(dds 1 (.own 2 0 []::(.own 2 ts.length (pc ts)::(bN g::(dds 7 (.val (.bool (decide (b>1)))::(dds 19 []))))))))) Qe 400 [.r (.int .i64 b)] [0,2,3,4,12] (ac n5 a0)) (Za.cond_f (by rfl) c1 (Za.go (t:=(dds 2 (.own 2 0 []::(.own 2 ts.length (pc ts)::(dds 28 []))))) Qe 400 [] [2,3] a0))) (Za.go Qe 400 [] [2] a0))))) (by intro i e;cases e) rfl
theorem Zgw (rs ts:List Rn) (s:Int) (c1:(decide ((rs.length:Int)>0))=true) (c2:(decide (s<0))=true) (n1:0≤(i64.wrap ((rs.length:Int)-1))∧(i64.wrap ((rs.length:Int)-1))<(rs.length:Int)) (n2:Ze Yir 73 [Zt (rs.getD (Int.toNat (i64.wrap ((rs.length:Int)-1))) z0)] (.int .i64 s)) (n3:Ze Yir 127 [.sl rs.length (pc rs)] (.fresh 2 ts.length (pc ts))):Ze Yir 115 [.sl rs.length (pc rs)] (.fresh 2 ts.length (pc ts)):=Ze.go (fn:=Td) Qe rfl 400 rfl [.b true, .v (Zt (rs.getD (Int.toNat (i64.wrap ((rs.length:Int)-1))) z0)), .r (.int .i64 s), .b true, .r (.fresh 2 ts.length (pc ts))] (ac c1 (ac n1 (ac (Qi n1) (ac n2 (ac c2 (ac n3 a0))))))
theorem Zgv (rs:List Rn) (s:Int) (c1:(decide ((rs.length:Int)>0))=true) (c2:(decide (s<0))=false) (n1:0≤(i64.wrap ((rs.length:Int)-1))∧(i64.wrap ((rs.length:Int)-1))<(rs.length:Int)) (n2:Ze Yir 73 [Zt (rs.getD (Int.toNat (i64.wrap ((rs.length:Int)-1))) z0)] (.int .i64 s)):Ze Yir 115 [.sl rs.length (pc rs)] (.sl rs.length (pc rs)):=Ze.go (fn:=Td) Qe rfl 400 rfl [.b true, .v (Zt (rs.getD (Int.toNat (i64.wrap ((rs.length:Int)-1))) z0)), .r (.int .i64 s), .b false] (ac c1 (ac n1 (ac (Qi n1) (ac n2 (ac c2 a0)))))
theorem Zgu (rs:List Rn) (c1:(decide ((rs.length:Int)>0))=false):Ze Yir 115 [.sl rs.length (pc rs)] (.sl rs.length (pc rs)):=Ze.go (fn:=Td) Qe rfl 400 rfl [.b false, .b false] (ac c1 (ac (show false=false from rfl) a0))
def Zqu (rs:List Rn) (k:Nat) (cs:List AV) (i:Int):Zk:=(.val (.sl rs.length (pc rs))::(dds 2 (.own 2 k cs::(.val (.int .i64 i)::(dds 18 [])))))
theorem Yk75_1 (rs:List Rn) (k:Nat) (cs:List AV) (i:Int) (d v:Int) (c1:(decide (i≤d))=true) (n1:0≤i∧i<(rs.length:Int)) (n2:k+1≤1048576) (n3:Ze Yir 62 [.sl rs.length (pc rs)] (.int .i64 d)) (n4:Ze Yir 94 [.int .i64 i] (Zl i)) (n5:Ze Yir 113 [Zt (rs.getD (Int.toNat i) z0),Zl i] (Zl v)):Za Yir Yc75 (Zqu rs k cs i) .norm (Zqu rs (k+1) (cs++([.bool (decide (v<0)), .sl ((Zb (Int.natAbs v)).length) (lm (Zb (Int.natAbs v)))]:List AV)) (i64.wrap (i+1))):=(Za.go Qe 400 [.r (.int .i64 d), .b true, .v (Zt (rs.getD (Int.toNat i) z0)), .r (Zl i), .r (Zl v)] [0,3,4] (ac n3 (ac c1 (ac n1 (ac (Qi n1) (ac n4 (ac n5 (ac (show List.length ([.bool (decide (v<0)), .sl ((Zb (Int.natAbs v)).length) (lm (Zb (Int.natAbs v)))]:List AV)=1*2 from rfl) (ac n2 a0)))))))))
theorem Yk75_2 (rs:List Rn) (k:Nat) (cs:List AV) (i:Int) (d:Int) (c1:(decide (i≤d))=false) (n1:Ze Yir 62 [.sl rs.length (pc rs)] (.int .i64 d)):Za Yir Yc75 (Zqu rs k cs i) (.exit 0) (Zqu rs k cs i):=(Za.go Qe 400 [.r (.int .i64 d), .b false] [0,3,4] (ac n1 (ac c1 a0)))
theorem Yrun75 (rs os ts:List Rn) (k:Nat) (i:Int) (hl1:Za Yir (.loop Yc75) (Zqu rs 0 [] 1) (.exit 0) (Zqu rs k (pc os) i)) (n2:Ze Yir 92 [.sl k (pc os)] (.fresh 2 ts.length (pc ts))):Ze Yir 75 [.sl rs.length (pc rs)] (.fresh 2 ts.length (pc ts)):=Ze.of_bodyW (fn:=Yi75) (s:=(dds 2 (.own 2 ts.length (pc ts)::(dds 20 [])))) (ex := .ret) rfl rfl (Za.seq (Za.go (t:=(vp rs::(dds 1 (.own 2 0 []::(dds 20 []))))) Qe 400 [] [0,2] a0) (Za.seq (Za.go (t:=(vp rs::(dds 1 (.own 2 0 []::(.own 2 0 []::(dds 19 [])))))) Qe 400 [] [0,2,3] a0) (Za.seq (Za.seq (Za.go Qe 400 [] [0,3,4] a0) (Za.block hl1)) (Za.go Qe 400 [.r (.fresh 2 ts.length (pc ts))] [2] (ac n2 a0))))) (by intro i e;cases e) rfl
def TRA:Jx:=TQE
theorem Zi2:Q1 Yir TRA:=Qe
end Go.Proofs.Ythnnfemologhfaa

namespace Go.Ai
open Go.IntKind (i64 u64 u32)
def Jc:List Int→Nat
 | []=>0
 | x::xs=>Nat.gcd x.natAbs (Jc xs)
theorem Hi (d:Nat):∀ xs:List Int,d∣Jc xs↔∀ i,(d:Int)∣xs.getD i 0
 | []=>by simp[Jc]
 | x::xs=>by
  have ih:=Hi d xs
  simp only[Jc,Nat.dvd_gcd_iff,ih]
  constructor
  ·rintro⟨h1,h2⟩ i
   cases i with
   | zero=>simpa using Int.ofNat_dvd_left.2 h1
   | succ i=>simpa using h2 i
  ·intro h
   refine⟨Int.ofNat_dvd_left.1 (by simpa using h 0),fun i=>by simpa using h (i+1)⟩
theorem Vl (xs:List Int) (i:Nat):(Jc xs:Int)∣xs.getD i 0:=(Hi _ xs).1 (Nat.dvd_refl _) i
theorem Mb {xs ys:List Int} (h:∀ i,xs.getD i 0=ys.getD i 0):Jc xs=Jc ys :=
 Nat.dvd_antisymm ((Hi _ _).2 fun i=>h i ▸ Vl xs i) ((Hi _ _).2 fun i=>h i ▸ Vl ys i)
theorem Ls (xs:List Int):Jc (Zc xs)=Jc xs:=Mb (Je xs)
theorem K0 {xs:List Int}:Jc xs=0↔∀ i,xs.getD i 0=0:=by
 constructor
 ·intro h i
  have:=Vl xs i
  rw[h] at this
  exact Int.zero_dvd.1 this
 ·intro h
  have:Jc xs=Jc []:=Mb fun i=>by rw[h i];simp
  rw[this];rfl
theorem Hj (k:Int):∀ xs:List Int,Jc (Zy k xs)=k.natAbs*Jc xs
 | []=>rfl
 | x::xs=>by
  have ih:=Hj k xs
  simp only[Zy,List.map_cons,Jc] at *
  rw[ih,Int.natAbs_mul,Nat.gcd_mul_left]
theorem Xa {xs:List Int}:Zc xs=[]↔∀ i,xs.getD i 0=0:=by
 constructor
 ·intro h i
  rw[← Je,h];simp
 ·intro h
  have:Zc xs=Zc []:=V6 fun i=>by rw[h i];simp
  rw[this];rfl
theorem Hk {xs:List Int} (h:Zc xs ≠ []):0<Jc xs:=by
 rcases Nat.eq_zero_or_pos (Jc xs) with g | g
 ·exact absurd (Xa.2 (K0.1 g)) h
 ·exact g
theorem K7 {k:Int} (hk:k ≠ 0) (xs:List Int):Zc (Zy k xs)=Zy k (Zc xs):=by
 have e:∀ n,Z0 (Zy k xs) n=Z0 xs n:=by
  intro n
  induction n with
  | zero=>rfl
  | succ n ih =>
   simp only[Z0,ih,Z6]
   by_cases h:xs.getD n 0=0
   ·rw[h,Int.mul_zero]
   ·rw[if_neg h,if_neg (Int.mul_ne_zero hk h)]
 simp only[Zc]
 rw[e,show (Zy k xs).length=xs.length by simp[Zy]]
 simp[Zy,List.map_take]
def prim (xs:List Int):List Int:=(Zc xs).map fun x=>x / (Jc xs:Int)
theorem Wo (xs:List Int) (i:Nat):(prim xs).getD i 0=xs.getD i 0 / (Jc xs:Int):=by
 rw[← Je xs i]
 simp only[prim,List.getD_eq_getElem?_getD,List.getElem?_map]
 cases (Zc xs)[i]? <;> simp
theorem Qp (xs:List Int):(prim xs).length=(Zc xs).length:=by simp [prim]
theorem T8 (xs:List Int) (i:Nat):(Jc xs:Int)*(prim xs).getD i 0=xs.getD i 0:=by
 rw[Wo];exact Int.mul_ediv_cancel' (Vl xs i)
theorem Gk {xs ys:List Int} (h:∀ i,xs.getD i 0=ys.getD i 0):prim xs=prim ys:=by
 simp only[prim];rw[V6 h,Mb h]
theorem Un {xs:List Int}:prim xs=[]↔∀ i,xs.getD i 0=0:=by
 rw[← Xa];simp[prim]
theorem Fm {k:Int} (hk:0<k) (xs:List Int):prim (Zy k xs)=prim xs:=by
 simp only[prim]
 rw[K7 (by omega),Hj]
 simp only[Zy,List.map_map]
 apply List.map_congr_left
 intro x _
 simp only[Function.comp]
 rw[Int.natCast_mul,Int.natAbs_of_nonneg (by omega),Int.mul_ediv_mul_of_pos _ _ hk]
theorem Rl {k:Int} (hk:0<k) {xs ys:List Int} (h:∀ i,ys.getD i 0=k*xs.getD i 0):prim ys=prim xs:=by
 rw[← Fm hk xs]
 exact Gk fun i=>by rw[h,Z6]
theorem Zdi {xs:List Int} (h:Z0 xs xs.length=xs.length):Zc xs=xs:=by simp [Zc,h]
def Vm (xs:List Int):Prop:=Zc xs=xs
theorem Kw (xs:List Int):Vm (Zc xs):=Mr xs
theorem Vk {xs:List Int} (h:Vm xs) (hn:xs ≠ []):xs.getD (xs.length-1) 0 ≠ 0:=by
 have e:=congrArg List.length h
 rw[Ux] at e
 rcases Tu xs xs.length with g | g
 ·rw[g] at e
  exact absurd (List.eq_nil_of_length_eq_zero e.symm) hn
 ·rw[e] at g;exact g
theorem Rx {xs:List Int} (h:xs=[]∨xs.getD (xs.length-1) 0 ≠ 0):Vm xs:=by
 rcases h with rfl | h
 ·rfl
 ·cases hl:xs.length with
  | zero=>rw[List.eq_nil_of_length_eq_zero hl];rfl
  | succ n =>
   apply Zdi
   rw[hl]
   simp only[Z0]
   rw[if_neg (by rw[hl] at h;simpa using h)]
theorem Zbv {k:Int} (hk:k ≠ 0) {xs:List Int} (h:Vm xs):Vm (Zy k xs):=by
 unfold Vm;rw[K7 hk,h]
theorem K9 (xs:List Int):Zy (Jc xs) (prim xs)=Zc xs:=by
 apply Hf
 ·simp[Zy,Qp]
 ·intro i
  rw[Z6,T8,Je]
theorem Qr (xs:List Int):Vm (prim xs):=by
 by_cases h:Zc xs=[]
 ·rw[Un.2 (Xa.1 h)];rfl
 ·have hc:=Hk h
  have h1:=Kw xs
  rw[← K9] at h1
  unfold Vm at h1 ⊢
  rw[K7 (by omega)] at h1
  have hinj:∀ a b:List Int,Zy (Jc xs) a=Zy (Jc xs) b→a=b:=by
   intro a b hab
   have hl:=congrArg List.length hab
   simp only[Zy,List.length_map] at hl
   apply Hf hl
   intro i
   have:=congrArg (fun l:List Int=>l.getD i 0) hab
   simp only[Z6] at this
   exact Int.eq_of_mul_eq_mul_left (by omega) this
  exact hinj _ _ h1
theorem K1 {xs:List Int} (h:Zc xs ≠ []):Jc (prim xs)=1:=by
 have hc:=Hk h
 have h1:=Hj (Jc xs) (prim xs)
 rw[K9,Ls,Int.natAbs_natCast] at h1
 have h2:Jc xs*1=Jc xs*Jc (prim xs):=by rw[Nat.mul_one];exact h1
 exact (Nat.eq_of_mul_eq_mul_left hc h2).symm
theorem Ny {xs:List Int} (h:Jc xs=1):prim xs=Zc xs:=by
 simp only[prim,h]
 rw[show (fun x:Int=>x / ((1:Nat):Int))=id by funext x;simp]
 simp
theorem Qg (xs:List Int):prim (prim xs)=prim xs:=by
 by_cases h:Zc xs=[]
 ·rw[Un.2 (Xa.1 h)];rfl
 ·rw[Ny (K1 h)];exact Qr xs
theorem N7 {K:Nat} {x:Int} (h:Jg K x) (c:Nat):Jg K (x / (c:Int))∨¬ (c:Int)∣x:=by
 by_cases hd:(c:Int)∣x
 ·left
  obtain⟨y,rfl⟩:=hd
  rcases Nat.eq_zero_or_pos c with h0 | h0
  ·subst h0;simpa using h
  ·rw[Int.mul_ediv_cancel_left _ (by omega)]
   unfold Jg at *
   rw[Int.natAbs_mul,Int.natAbs_natCast] at h
   have:=Nat.le_mul_of_pos_left y.natAbs h0
   omega
 ·exact Or.inr hd
theorem Ze4 {K:Nat} {xs:List Int} (h:∀ i,Jg K (xs.getD i 0)) (i:Nat):Jg K ((prim xs).getD i 0):=by
 rw[Wo]
 rcases N7 (h i) (Jc xs) with g | g
 ·exact g
 ·exact absurd (Vl xs i) g
end Go.Ai

namespace Go.Ai
open Go.IntKind (i64 u64 u32)
def Kb (K:Nat) (r:List Int):Prop:=∀ i,Jg K (r.getD i 0)
theorem Kb.mono {J K:Nat} {r:List Int} (h:Kb J r) (hk:J≤K):Kb K r:=fun i=>(h i).mono hk
theorem Kb.mem {K:Nat} {r:List Int} (h:Kb K r):∀ x∈r,Jg K x:=fun x hx=>by
 obtain⟨i,hi,rfl⟩:=List.mem_iff_getElem.1 hx
 have:=h i
 rwa [List.getD_eq_getElem?_getD,List.getElem?_eq_getElem hi] at this
theorem Du {K:Nat} {r:List Int} (h:∀ x∈r,Jg K x):Kb K r:=Ld h
theorem Kb.prim {K:Nat} {r:List Int} (h:Kb K r):Kb K (prim r):=Ze4 h
theorem Kb.trim {K:Nat} {r:List Int} (h:Kb K r):Kb K (Zc r):=fun i=>by rw [Je];exact h i
def top (r:List Int):Int:=r.getD (r.length-1) 0
def Ur (r d:List Int) (a b:Int) (n:Nat):List Int:=(List.range n).map fun i=>if r.length-d.length≤i then a*r.getD i 0-b*d.getD (i-(r.length-d.length)) 0 else a*r.getD i 0
theorem J7 (r d:List Int) (a b:Int) (n:Nat):(Ur r d a b n).length=n:=by simp [Ur]
theorem Wn (f:Nat→Int) (n i:Nat):((List.range n).map f).getD i 0=if i<n then f i else 0:=by
 rw[List.getD_eq_getElem?_getD,List.getElem?_map]
 by_cases h:i<n
 ·rw[List.getElem?_range h,if_pos h];rfl
 ·rw[List.getElem?_eq_none (by simpa using h),if_neg h];rfl
theorem Uo (r d:List Int) (a b:Int) (n i:Nat):(Ur r d a b n).getD i 0=if i<n then (if r.length-d.length≤i then a*r.getD i 0-b*d.getD (i-(r.length-d.length)) 0 else a*r.getD i 0) else 0:=Wn _ _ _
theorem N6 {J K:Nat} {r d:List Int} {a b:Int} (hr:Kb J r) (hd:Kb K d) (ha:Jg K a) (hb:Jg J b) (n:Nat):Kb (J+K+1) (Ur r d a b n):=by
 intro i
 rw[Uo]
 have h1:=(Jg.mul ha (hr i))
 have h2:=(Jg.mul hb (hd (i-(r.length-d.length))))
 rw[Nat.add_comm] at h1
 split
 ·split
  ·exact h1.add h2.neg
  ·exact h1.mono (by omega)
 ·exact Vb _
theorem Ln {r d:List Int} {a b:Int} (hd:d ≠ []) (hl:d.length≤r.length) (h:a*top r=b*top d) (i:Nat):(Ur r d a b r.length).getD i 0=(Ur r d a b (r.length-1)).getD i 0:=by
 have:=List.length_pos_iff.2 hd
 rw[Uo,Uo]
 by_cases h1:i<r.length-1
 ·rw[if_pos h1,if_pos (by omega)]
 ·rw[if_neg h1]
  split
  ·have:i=r.length-1:=by omega
   subst this
   rw[if_pos (by omega),show r.length-1-(r.length-d.length)=d.length-1 by omega]
   unfold top at h
   omega
  ·rfl
theorem Zb0 (r d:List Int) (k a b:Int) (n i:Nat):(Ur r d (k*a) (k*b) n).getD i 0=k*(Ur r d a b n).getD i 0:=by
 rw[Uo,Uo]
 split
 ·split
  ·rw[Int.mul_sub,Int.mul_assoc,Int.mul_assoc]
  ·rw[Int.mul_assoc]
 ·simp
theorem Zb1 (r d:List Int) (c a b:Int) (n:Nat):Ur r (Zy c d) a b n=Ur r d a (b*c) n:=by
 apply Hf (by rw[J7,J7])
 intro i
 rw[Uo,Uo,Z6,show (Zy c d).length=d.length by simp[Zy]]
 rw[Int.mul_assoc]
def sg (n:Int):Int:=if n<0 then -1 else 1
theorem sg_mul (n:Int):sg n*n=(n.natAbs:Int):=by unfold sg;split <;> omega
def Um (r d:List Int):List Int:=prim (Ur r d ((top d).natAbs:Int) (sg (top d)*top r) r.length)
def Vj:Nat→List Int→List Int→List Int
 | 0,r,_=>r
 | f+1,r,d=>if d.length≤r.length then Vj f (Um r d) d else r
theorem M3 (r d:List Int):((top d).natAbs:Int)*top r=sg (top d)*top r*top d:=by
 rw[← sg_mul];grind
theorem M2 {r d:List Int} (hd:d ≠ []) (hl:d.length≤r.length):Um r d=prim (Ur r d ((top d).natAbs:Int) (sg (top d)*top r) (r.length-1)) :=
 Gk (Ln hd hl (M3 r d))
theorem Ks {r d:List Int} (hd:d ≠ []) (hl:d.length≤r.length):(Um r d).length<r.length:=by
 have:=List.length_pos_iff.2 hd
 rw[M2 hd hl,Qp]
 have:=Qc (Ur r d ((top d).natAbs:Int) (sg (top d)*top r) (r.length-1))
 rw[J7] at this
 omega
theorem Zdg (c:Int) (d:List Int):top (Zy c d)=c*top d:=by
 unfold top;rw[Z6,show (Zy c d).length=d.length by simp[Zy]]
theorem Zbb {c:Int} (hc:0<c) (n:Int):sg (c*n)=sg n:=by
 unfold sg
 have:c*n<0↔n<0:=by
  constructor
  ·intro h
   apply Int.not_le.1
   intro hn
   have:=Int.mul_nonneg (show 0≤c by omega) hn
   omega
  ·intro h;exact Int.mul_neg_of_pos_of_neg hc h
 simp only[this]
theorem Er {r d:List Int} {c g a b:Int} (hc:0<c) (hg:0<g) (ha:g*a=((top d).natAbs:Int)) (hb:g*b=sg (top d)*top r):Um r (Zy c d)=prim (Ur r d a b r.length):=by
 unfold Um
 rw[Zb1,Zdg,Zbb hc,Int.natAbs_mul]
 apply Rl (k:=c*g) (Int.mul_pos hc hg)
 intro i
 rw[← Zb0]
 congr 2
 ·rw[Int.mul_assoc,ha,Int.natCast_mul,Int.natAbs_of_nonneg (by omega)]
 ·rw[Int.mul_assoc c g b,hb];grind
theorem Rk {c:Int} (hc:0<c) (r d:List Int):Um r (Zy c d)=Um r d:=by
 rw[Er (g:=1) (a:=((top d).natAbs:Int)) (b:=sg (top d)*top r) hc (by decide) (by omega) (by omega)];rfl
theorem Rb {c:Int} (hc:0<c) (d:List Int):∀ (f:Nat) (r:List Int),Vj f r (Zy c d)=Vj f r d:=by
 intro f
 induction f with
 | zero=>intro r;rfl
 | succ f ih =>
  intro r
  simp only[Vj]
  rw[show (Zy c d).length=d.length by simp[Zy],Rk hc,ih]
theorem Zbu (r d:List Int):Vm (Um r d):=Qr _
theorem X6 {K:Nat} {d:List Int} (h:Kb K d):Jg K (top d):=h _
theorem Bh {K:Nat} {n:Int} (h:Jg K n):Jg K (n.natAbs:Int):=by unfold Jg at *;rwa [Int.natAbs_natCast]
theorem Zrn {K:Nat} {m n:Int} (h:Jg K n):Jg K (sg m*n):=by
 unfold Jg sg at *;split <;> simpa using h
theorem N4 {J K:Nat} {r d:List Int} (hr:Kb J r) (hd:Kb K d):Kb (J+K+1) (Um r d) :=
 (N6 hr hd (Bh (X6 hd)) (Zrn (X6 hr)) _).prim
theorem T2 {d:List Int} (hd:d ≠ []) {K:Nat} (hK:Kb K d):∀ (f:Nat) (r:List Int) (J:Nat),r.length≤f→Vm r→Kb J r →
  Vm (Vj f r d)∧(Vj f r d).length<d.length∧Kb (J+(r.length+1-d.length)*(K+1)) (Vj f r d):=by
 have hd1:=List.length_pos_iff.2 hd
 intro f
 induction f with
 | zero =>
  intro r J h1 h2 h3
  exact⟨h2,by simp only[Vj];omega,h3.mono (Nat.le_add_right _ _)⟩
 | succ f ih =>
  intro r J h1 h2 h3
  simp only[Vj]
  split
  ·rename_i hl
   have hp:=Ks hd hl
   obtain⟨a1,a2,a3⟩:=ih (Um r d) (J+K+1) (by omega) (Zbu r d) (N4 h3 hK)
   refine⟨a1,a2,a3.mono ?_⟩
   have e:((Um r d).length+1-d.length)+1≤r.length+1-d.length:=by omega
   have:=Nat.mul_le_mul_right (K+1) e
   rw[Nat.add_mul,Nat.one_mul] at this
   omega
  ·exact⟨h2,by omega,h3.mono (Nat.le_add_right _ _)⟩
def J2 (x y:List Int):List Int:=Vj x.length x y
def H8:Nat→List Int→List Int→List Int
 | 0,x,_=>x
 | f+1,x,y=>if y=[] then x else H8 f y (J2 x y)
def Qv (x:List Int):List Int:=if top x<0 then Vd x else x
theorem Vn (d:List Int):∀ (f:Nat) (r:List Int),prim r=r→prim (Vj f r d)=Vj f r d:=by
 intro f
 induction f with
 | zero=>intro r h;exact h
 | succ f ih =>
  intro r h
  simp only[Vj]
  split
  ·exact ih _ (Qg _)
  ·exact h
theorem Qk {r:List Int} (h:prim r=r):Vm r:=h ▸ Qr r
theorem Zdj {m l:Nat} (h:l<m):(m-l+2)*3^l≤3^m:=by
 obtain⟨k,rfl⟩:∃ k,m=l+1+k:=⟨m-l-1,by omega⟩
 rw[show l+1+k-l+2=k+3 by omega,show l+1+k=(k+1)+l by omega,Nat.pow_add]
 apply Nat.mul_le_mul_right
 clear h
 induction k with
 | zero=>decide
 | succ k ih=>rw[Nat.pow_succ];omega
def phi (n m:Nat):Nat:=(n-m+2)*3^m
theorem Hb {x y:List Int} {M:Nat} (hM:0<M) (hx:Vm x) (hy:y ≠ []) (kx:Kb (M-1) x) (ky:Kb (M-1) y) (hl:y.length≤x.length) :
  Vm (J2 x y)∧(J2 x y).length<y.length∧Kb (M*(x.length-y.length+2)-1) (J2 x y):=by
 obtain⟨a,b,c⟩:=T2 hy ky x.length x (M-1) (Nat.le_refl _) hx kx
 refine⟨a,b,c.mono ?_⟩
 rw[Nat.sub_add_cancel hM,show x.length+1-y.length=x.length-y.length+1 by omega,Nat.mul_comm _ M]
 have:M*(x.length-y.length+2)=M*(x.length-y.length+1)+M:=by rw[← Nat.mul_succ]
 omega
theorem Hc {n m l M T:Nat} (hl:l<m) (h:M*phi n m≤T):M*(n-m+2)*phi m l≤T:=by
 refine Nat.le_trans ?_ h
 unfold phi
 rw[Nat.mul_assoc]
 apply Nat.mul_le_mul_left
 apply Nat.mul_le_mul_left
 exact Zdj hl
theorem B7 {n m c:Nat} (h:m≤n) (hn:n≤c):phi n m≤2*3^c:=by
 have h1:phi n m≤2*3^n:=by
  unfold phi
  obtain⟨k,rfl⟩:∃ k,n=m+k:=⟨n-m,by omega⟩
  rw[show m+k-m+2=k+2 by omega,Nat.pow_add,Nat.mul_comm (3^m),← Nat.mul_assoc]
  apply Nat.mul_le_mul_right
  clear h hn
  induction k with
  | zero=>decide
  | succ k ih=>rw[Nat.pow_succ];omega
 exact Nat.le_trans h1 (Nat.mul_le_mul_left _ (Nat.pow_le_pow_right (by decide) hn))
def Qu (p:List Int):List Int:=Zc ((List.range (p.length-1)).map fun j=>p.getD (j+1) 0*((j+1:Nat):Int))
theorem X7 (p:List Int) (i:Nat):(Qu p).getD i 0=p.getD (i+1) 0*((i+1:Nat):Int):=by
 unfold Qu
 rw[Je,Wn]
 split
 ·rfl
 ·rw[Qt (xs:=p) (by omega),Int.zero_mul]
end Go.Ai

namespace Go.Ai
open Go.IntKind (i64 u64 u32)
theorem M7 {a b:Int} {us bs cs:List Int} (h:∀ i,cs.getD i 0=a*us.getD i 0+b*bs.getD i 0) (x:Int):Zg cs x=a*Zg us x+b*Zg bs x:=by
 have e:Zg cs x=Zg (Bc (Zy a us) (Zy b bs)) x:=U8 (fun i=>by rw[h,X8,Z6,Z6]) x
 rw[e,Jh,Zr,Zr]
def Vr (k:Nat) (q:List Int):List Int:=List.replicate k 0++q
theorem Jl (k:Nat) (q:List Int) (i:Nat):(Vr k q).getD i 0=if k≤i then q.getD (i-k) 0 else 0:=by
 simp only[Vr,List.getD_eq_getElem?_getD,List.getElem?_append,List.length_replicate]
 split
 ·rename_i h
  rw[if_neg (by omega),List.getElem?_replicate_of_lt h];rfl
 ·rename_i h
  rw[if_pos (by omega)]
theorem V8 (k:Nat) (q:List Int) (x:Int):Zg (Vr k q) x=x^k*Zg q x:=by
 induction k with
 | zero=>simp[Vr]
 | succ k ih =>
  have:Vr (k+1) q=0::Vr k q:=by simp[Vr,List.replicate_succ]
  rw[this]
  simp only[Zg]
  rw[ih,Int.pow_succ];grind
theorem Lo {r d:List Int} (hl:d.length≤r.length) (a b x:Int):Zg (Ur r d a b r.length) x=a*Zg r x-b*(x^(r.length-d.length)*Zg d x):=by
 rw[← V8]
 have:=M7 (a:=a) (b := -b) (us:=r) (bs:=Vr (r.length-d.length) d) (cs:=Ur r d a b r.length) (fun i=>by
  rw[Uo,Jl]
  by_cases h:i<r.length
  ·rw[if_pos h];split
   ·rw[Int.neg_mul];omega
   ·simp
  ·rw[if_neg h,Qt (show r.length≤i by omega)]
   have:d.getD (i-(r.length-d.length)) 0=0:=Qt (by omega)
   split
   ·rw[this];simp
   ·simp) x
 rw[this,Int.neg_mul];omega
theorem Xn (a:Int) (p q:List Int) (i:Nat):(Ut (a::p) q).getD i 0=a*q.getD i 0+(Vr 1 (Ut p q)).getD i 0:=by
 simp only[Ut]
 rw[X8,Z6];rfl
theorem Ba:∀ (p q:List Int),p ≠ []→q ≠ []→(Ut p q).getD (p.length+q.length-2) 0=top p*top q∧∀ i,p.length+q.length-1≤i→(Ut p q).getD i 0=0
 | [],q,h,_=>absurd rfl h
 | [a],q,_,hq=>by
  have hq1:=List.length_pos_iff.2 hq
  refine⟨?_,fun i hi => ?_⟩
  ·rw[Xn,Jl,show [a].length+q.length-2=q.length-1 by simp;omega]
   simp[Ut,top]
  ·rw[Xn,Jl,Qt (show q.length≤i by simp at hi;omega)]
   simp[Ut]
 | a::b::p,q,_,hq=>by
  have hq1:=List.length_pos_iff.2 hq
  obtain⟨h1,h2⟩:=Ba (b::p) q (by simp) hq
  refine⟨?_,fun i hi => ?_⟩
  ·rw[Xn,Jl,if_pos (by simp;omega)]
   simp only[List.length_cons] at *
   rw[Qt (show q.length≤p.length+1+1+q.length-2 by omega),show p.length+1+1+q.length-2-1=p.length+1+q.length-2 by omega,h1]
   simp[top]
  ·rw[Xn,Jl]
   simp only[List.length_cons] at *
   rw[Qt (show q.length≤i by omega)]
   split
   ·rw[h2 _ (by omega)];simp
   ·simp
theorem Js {p:List Int} (h:Zc p=[]) (x:Int):Zg p x=0:=by rw [← Vo,h];rfl
theorem B0 {p q o1 r1 o2 r2:List Int} {c1 c2:Int} (hq:Vm q) (hq0:q ≠ []) (h1:∀ x,c1*Zg p x=Zg q x*Zg o1 x+Zg r1 x) (h2:∀ x,c2*Zg p x=Zg q x*Zg o2 x+Zg r2 x)
  (z1:∀ i,q.length-1≤i→r1.getD i 0=0) (z2:∀ i,q.length-1≤i→r2.getD i 0=0) (i:Nat):c2*o1.getD i 0=c1*o2.getD i 0:=by
 have hql:=List.length_pos_iff.2 hq0
 have hD:Zc (Zbn (Zy c2 o1) (Zy c1 o2))=[]:=by
  apply Classical.byContradiction
  intro hD
  have hev:∀ x,Zg (Ut q (Zc (Zbn (Zy c2 o1) (Zy c1 o2)))) x=Zg (Zbn (Zy c1 r2) (Zy c2 r1)) x:=by
   intro x
   rw[Qb,Vo,Xz,Xz,Zr,Zr,Zr,Zr]
   have a:=h1 x;have b:=h2 x
   grind
  generalize hDD:Zc (Zbn (Zy c2 o1) (Zy c1 o2))=D at *
  have hDl:Vm D:=hDD ▸ Kw _
  have hD1:=List.length_pos_iff.2 hD
  have h3:=(Ba q D hq0 hD).1
  rw[Uf hev,Am,Z6,Z6,z1 _ (by omega),z2 _ (by omega)] at h3
  have t1:=Vk hq hq0
  have t2:=Vk hDl hD
  rw[Int.mul_zero,Int.mul_zero,Int.sub_zero] at h3
  exact Int.mul_ne_zero t1 t2 h3.symm
 have:=Xa.1 hD i
 rw[Am,Z6,Z6] at this
 omega
theorem B3 {o1 o2:List Int} {c1 c2:Int} (hc1:0<c1) (hc2:0<c2) (h:∀ i,c2*o1.getD i 0=c1*o2.getD i 0):prim o1=prim o2:=by
 rw[← Fm hc2 o1,← Fm hc1 o2]
 exact Gk fun i=>by rw[Z6,Z6];exact h i
def Ko (r q:List Int) (l:Int) (k:Nat):List Int:=(List.range r.length).map fun i=>if k≤i then r.getD i 0-l*q.getD (i-k) 0 else r.getD i 0
theorem Hg (r q:List Int) (l:Int) (k i:Nat) (hk:k+q.length≤r.length):(Ko r q l k).getD i 0=r.getD i 0-l*(Vr k q).getD i 0:=by
 rw[Ko,Wn,Jl]
 split
 ·split <;> simp
 ·rw[Qt (show r.length≤i by omega),Qt (xs:=q) (show q.length≤i-k by omega)];simp
theorem Ud (r q:List Int) (l:Int) (k:Nat):(Ko r q l k).length=r.length:=by simp [Ko]
def Au (q:List Int):Nat→List Int→List Int→List Int
 | 0,_,out=>out
 | k+1,r,out=>Au q k (Ko (Zy (top q) r) q (r.getD (k+q.length-1) 0) k) ((Zy (top q) out).set k (r.getD (k+q.length-1) 0))
theorem Zw (a:Int) (q:List Int):(Zy a q).length=q.length:=by simp [Zy]
theorem Zru {p q:List Int} (hq0:q ≠ []) (ht:0<top q):∀ (k:Nat) (r out:List Int) (c:Int),0<c→k≤out.length→out.length+q.length=r.length+1→(∀ i,k+q.length-1≤i→r.getD i 0=0)→(∀ i,i<k→out.getD i 0=0) →
  (∀ x,c*Zg p x=Zg q x*Zg out x+Zg r x) →
  ∃ c' r',0<c'∧(∀ i,q.length-1≤i→r'.getD i 0=0)∧(Au q k r out).length=out.length∧∀ x,c'*Zg p x=Zg q x*Zg (Au q k r out) x+Zg r' x:=by
 have hql:=List.length_pos_iff.2 hq0
 intro k
 induction k with
 | zero =>
  intro r out c hc _ _ hz _ he
  exact⟨c,r,hc,fun i hi=>hz i (by omega),rfl,he⟩
 | succ k ih =>
  intro r out c hc hk hl hz hz2 he
  simp only[Au]
  generalize hlead:r.getD (k+q.length-1) 0=l at *
  have hkr:k+q.length≤(Zy (top q) r).length:=by rw[Zw];omega
  obtain⟨c',r',a1,a2,a3,a4⟩:=ih (Ko (Zy (top q) r) q l k) ((Zy (top q) out).set k l) (top q*c) (Int.mul_pos ht hc) (by rw[List.length_set,Zw];omega) (by rw[List.length_set,Zw,Ud,Zw];exact hl)
   (fun i hi=>by
    rw[Hg _ _ _ _ _ hkr,Z6,Jl]
    by_cases h1:i=k+q.length-1
    ·subst h1
     rw[hlead,if_pos (by omega),show k+q.length-1-k=q.length-1 by omega]
     unfold top;grind
    ·rw[hz i (by omega),Qt (xs:=q) (show q.length≤i-k by omega)];simp)
   (fun i hi=>by rw[Qo (by omega),Z6,hz2 i (by omega),Int.mul_zero])
   (fun x=>by
    rw[M6 _ _ _ _ (by rw[Zw];omega),Z6,hz2 k (by omega),Zr]
    have e:=M7 (a:=1) (b := -l) (us:=Zy (top q) r) (bs:=Vr k q) (cs:=Ko (Zy (top q) r) q l k) (fun i=>by rw[Hg _ _ _ _ _ hkr,Int.neg_mul];omega) x
    rw[e,Zr,V8]
    have:=he x
    grind)
  exact⟨c',r',a1,a2,by rw[a3,List.length_set,Zw],a4⟩
theorem E5 {p q:List Int} (hq0:q ≠ []) (ht:0<top q) (hl:q.length≤p.length):∃ c' r',0<c'∧(∀ i,q.length-1≤i→r'.getD i 0=0)∧(Au q (p.length-q.length+1) p (List.replicate (p.length-q.length+1) 0)).length=p.length-q.length+1 ∧
  ∀ x,c'*Zg p x=Zg q x*Zg (Au q (p.length-q.length+1) p (List.replicate (p.length-q.length+1) 0)) x+Zg r' x:=by
 have hql:=List.length_pos_iff.2 hq0
 have h:=Zru (p:=p) hq0 ht (p.length-q.length+1) p (List.replicate (p.length-q.length+1) 0) 1 (by decide) (by simp) (by simp;omega) (fun i hi=>Qt (by omega)) (fun i _=>Jk _ _) (fun x=>by rw[B8];omega)
 rw[List.length_replicate] at h
 exact h
def Rt (d:List Int):Nat→List Int→List Int→List Int
 | 0,_,out=>out
 | f+1,r,out=>if d.length≤r.length then Rt d f (Zc (Ur r d (top d) (top r) (r.length-1))) ((Zy (top d) out).set (r.length-d.length) (top r)) else out
theorem Kv {r d:List Int} (hd0:d ≠ []) (hl:d.length≤r.length):(Zc (Ur r d (top d) (top r) (r.length-1))).length<r.length:=by
 have:=List.length_pos_iff.2 hd0
 have:=Qc (Ur r d (top d) (top r) (r.length-1))
 rw[J7] at this
 omega
theorem Zrj {p d:List Int} (hd0:d ≠ []) (ht:0<top d):∀ (f:Nat) (r out:List Int) (c:Int),r.length≤f→0<c→r.length+1≤out.length+d.length→(∀ i,i+d.length≤r.length→out.getD i 0=0) →
  (∀ x,c*Zg p x=Zg d x*Zg out x+Zg r x) →
  ∃ c' r',0<c'∧(∀ i,d.length-1≤i→r'.getD i 0=0)∧(Rt d f r out).length=out.length∧∀ x,c'*Zg p x=Zg d x*Zg (Rt d f r out) x+Zg r' x:=by
 have hdl:=List.length_pos_iff.2 hd0
 intro f
 induction f with
 | zero =>
  intro r out c hf hc _ _ he
  exact⟨c,r,hc,fun i hi=>Qt (by omega),rfl,he⟩
 | succ f ih =>
  intro r out c hf hc hl hz he
  simp only[Rt]
  split
  ·rename_i hg
   have hlen:=Kv hd0 hg
   obtain⟨c',r',a1,a2,a3,a4⟩:=ih (Zc (Ur r d (top d) (top r) (r.length-1))) ((Zy (top d) out).set (r.length-d.length) (top r)) (top d*c) (by omega) (Int.mul_pos ht hc) (by rw[List.length_set,Zw];omega)
    (fun i hi=>by rw[Qo (by omega),Z6,hz i (by omega),Int.mul_zero])
    (fun x=>by
     rw[M6 _ _ _ _ (by rw[Zw];omega),Z6,hz _ (by omega),Zr,Vo]
     have e1:Zg (Ur r d (top d) (top r) (r.length-1)) x=Zg (Ur r d (top d) (top r) r.length) x:=U8 (fun i=>(Ln hd0 hg (Int.mul_comm _ _) i).symm) x
     rw[e1,Lo hg]
     have:=he x
     grind)
   exact⟨c',r',a1,a2,by rw[a3,List.length_set,Zw],a4⟩
  ·rename_i hg
   exact⟨c,r,hc,fun i hi=>Qt (by omega),rfl,he⟩
theorem Fs {p d:List Int} (hd0:d ≠ []) (ht:0<top d) (hl:d.length≤p.length):∃ c' r',0<c'∧(∀ i,d.length-1≤i→r'.getD i 0=0)∧(Rt d p.length p (List.replicate (p.length-d.length+1) 0)).length=p.length-d.length+1 ∧
  ∀ x,c'*Zg p x=Zg d x*Zg (Rt d p.length p (List.replicate (p.length-d.length+1) 0)) x+Zg r' x:=by
 have h:=Zrj (p:=p) hd0 ht p.length p (List.replicate (p.length-d.length+1) 0) 1 (Nat.le_refl _) (by decide) (by simp;omega) (fun i _=>Jk _ _) (fun x=>by rw[B8];omega)
 rw[List.length_replicate] at h
 exact h
theorem Zrt {p q:List Int} (hq:Vm q) (hq0:q ≠ []) (ht:0<top q) (hl:q.length≤p.length):prim (Au q (p.length-q.length+1) p (List.replicate (p.length-q.length+1) 0))=prim (Rt q p.length p (List.replicate (p.length-q.length+1) 0)):=by
 obtain⟨c1,r1,a1,a2,_,a4⟩:=E5 hq0 ht hl
 obtain⟨c2,r2,b1,b2,_,b4⟩:=Fs hq0 ht hl
 exact B3 a1 b1 (B0 hq hq0 a4 b4 a2 b2)
theorem T5 {p q o r:List Int} {c:Int} (hc:0<c) (hp:0<top p) (hq0:q ≠ []) (ht:0<top q) (hl:q.length≤p.length) (ho:o.length=p.length-q.length+1) (h:∀ x,c*Zg p x=Zg q x*Zg o x+Zg r x) (z:∀ i,q.length-1≤i→r.getD i 0=0):0<top o:=by
 have hql:=List.length_pos_iff.2 hq0
 have ho0:o ≠ []:=by intro h0;rw[h0] at ho;simp at ho
 have h3:=(Ba q o hq0 ho0).1
 have hev:∀ x,Zg (Zy c p) x=Zg (Bc (Ut q o) r) x:=fun x=>by rw[Zr,Jh,Qb];exact h x
 have h4:=Uf hev (p.length-1)
 rw[Z6,X8,z _ (by omega),show p.length-1=q.length+o.length-2 by omega,h3,Int.add_zero] at h4
 have h5:0<top q*top o:=by
  rw[← h4,show q.length+o.length-2=p.length-1 by omega]
  exact Int.mul_pos hc hp
 exact Int.pos_of_mul_pos_right h5 ht |> fun h=>h
theorem F7 {o:List Int} (h:0<top o):0<top (prim o):=by
 have hl:Vm o:=Rx (Or.inr (by unfold top at h;omega))
 unfold top
 rw[Qp,hl,Wo]
 have hc:0<Jc o:=Hk (by rw[hl];intro h0;rw[h0] at h;simp[top] at h)
 have hd:=T8 o (o.length-1)
 rw[Wo] at hd
 unfold top at h
 rw[← hd] at h
 exact Int.pos_of_mul_pos_right h (by omega)
end Go.Ai

namespace Go.Proofs.Ythnnfemologhfaa
open Go.IntKind (i64 u64 u32)
open Go.Ai
set_option maxRecDepth 100000
theorem Zax {n:Nat}:Zjd n=1↔n=1:=by
 unfold Zjd
 split
 ·omega
 ·rename_i h
  constructor
  ·intro h1
   have h2:Nat.log2 n=0:=by omega
   have:=(Nat.log2_eq_iff h).1 h2
   omega
  ·rintro rfl;decide
theorem Zfk {n:Nat}:1<Zjd n↔1<n:=by
 have h1:=Zax (n:=n)
 have h0:Zjd n=0↔n=0:=by unfold Zjd;split <;> omega
 omega
theorem Kc (n:Int):(cn n).2.length=(Zb n.natAbs).length:=rfl
theorem Zfg {rs:List Rn} {n:Nat} (h:n<rs.length):(Zi rs).drop n=Zn (rs.getD n z0)::(Zi rs).drop (n+1):=by
 rw[List.drop_eq_getElem_cons (by rw[Zs];exact h)]
 congr 1
 rw[← Q2,List.getD_eq_getElem?_getD,List.getElem?_eq_getElem (by rw[Zs];exact h)];rfl
theorem Ma {K:Nat} {p:List Int} (h:∀ x∈p,Jg K x):Jg K ((Jc p:Nat):Int):=by
 by_cases h0:Zc p=[]
 ·rw[K0.2 (Xa.1 h0)];exact Vb K
 ·have hc:=Hk h0
  have:∃ i,p.getD i 0 ≠ 0:=Classical.byContradiction fun hn=>h0 (Xa.2 fun i=>Classical.byContradiction fun hi=>hn ⟨i,hi⟩)
  obtain⟨i,hi⟩:=this
  have hd:=Vl p i
  have hf:=Ld h i
  unfold Jg at *
  rw[Int.natAbs_natCast]
  have:=Nat.le_of_dvd (by omega) (Int.ofNat_dvd_left.1 hd)
  omega
theorem Zfi {p:List Int} (n:Nat):Jc p∣Jc (p.drop n):=by
 rw[Hi]
 intro i
 have:=Vl p (n+i)
 rw[List.getD_eq_getElem?_getD] at this ⊢
 rwa [List.getElem?_drop]
theorem Zs5 {K:Nat} {rs:List Rn} {z:Rn} (hg:∀ r∈rs,Ju K r) (hK:K<1048576) (hN:rs.length≤1048576):∀ n,n≤rs.length →
  ∃ i',Za Yir (.loop Zyy) (Zjg rs (cn (Jc ((Zi rs).drop n):Nat)) ((n:Int)-1) z) (.exit 0) (Zjg rs (cn (Jc (Zi rs):Nat)) i' z):=by
 intro n
 induction n with
 | zero =>
  intro _
  rw[List.drop_zero]
  exact⟨_,Za.loop_out (Yk85_3 rs _ _ z (by simp)) (by intro e;cases e)⟩
 | succ n ih =>
  intro hn
  have e0:((n+1:Nat):Int)-1=(n:Int):=by omega
  have e1:i64.wrap ((n:Int)-1)=(n:Int)-1:=w64 (by omega) (by omega)
  have hf:Jg K ((Jc ((Zi rs).drop (n+1)):Nat):Int):=Ma fun x hx=>Jf hg x (List.mem_of_mem_drop hx)
  have hl:=hf.len
  have hb:=Mo (neg:=(cn (Jc ((Zi rs).drop (n+1)):Nat)).1) (xs:=(cn (Jc ((Zi rs).drop (n+1)):Nat)).2) (Qx _) (by rw[Kc];omega)
  rw[show rv (cn (Jc ((Zi rs).drop (n+1)):Nat)).1 (cn (Jc ((Zi rs).drop (n+1)):Nat)).2=(Jc ((Zi rs).drop (n+1)):Nat) from Z9 _,Int.natAbs_natCast] at hb
  rw[e0]
  by_cases h1:Jc ((Zi rs).drop (n+1))=1
  ·have hc:Jc (Zi rs)=1:=by
    have:=Zfi (p:=Zi rs) (n+1)
    rw[h1] at this
    exact Nat.dvd_one.1 this
   rw[h1] at hb ⊢
   rw[hc]
   exact⟨_,Za.loop_out (Yk85_2 rs _ (n:Nat) z _ (by simp) (by decide) hb) (by intro e;cases e)⟩
  ·obtain⟨g1,g2⟩:=Z8 hg n
   have hgc:=Tn (na:=(cn (Jc ((Zi rs).drop (n+1)):Nat)).1) (nb:=(rs.getD n z0).1) (xs:=(cn (Jc ((Zi rs).drop (n+1)):Nat)).2) (ys:=(rs.getD n z0).2) (Qx _) g1 (by rw[Kc];omega) (by omega)
   rw[show rv (cn (Jc ((Zi rs).drop (n+1)):Nat)).1 (cn (Jc ((Zi rs).drop (n+1)):Nat)).2=(Jc ((Zi rs).drop (n+1)):Nat) from Z9 _,show rv (rs.getD n z0).1 (rs.getD n z0).2=Zn (rs.getD n z0) from rfl] at hgc
   have hstep:(Int.gcd ((Jc ((Zi rs).drop (n+1)):Nat):Int) (Zn (rs.getD n z0)))=Jc ((Zi rs).drop n):=by
    rw[Zfg (n:=n) (by omega),Jc,Int.gcd,Int.natAbs_natCast,Nat.gcd_comm]
   rw[hstep] at hgc
   have k1:=Yk85_1 rs (cn (Jc ((Zi rs).drop (n+1)):Nat)) (n:Nat) z _ _ (by simp) (by
    rw[bne_iff_ne]
    have:=Zax (n:=Jc ((Zi rs).drop (n+1)))
    omega) (by omega) hb (by rw[Int.toNat_natCast];exact hgc)
   rw[e1] at k1
   obtain⟨i',h⟩:=ih (by omega)
   exact⟨i',Za.loop k1 h⟩
theorem L1 {K:Nat} {rs:List Rn} (hg:∀ r∈rs,Ju K r) (hK:K<1048576) (hN:rs.length≤1048576):Ze Yir 85 [.sl rs.length (pc rs)] (Zl (Jc (Zi rs):Nat)):=by
 obtain⟨i',h⟩:=Zs5 (z:=z0) hg hK hN rs.length (Nat.le_refl _)
 rw[show (Zi rs).drop rs.length=[] by rw[← Zs,List.drop_length],show cn ((Jc []:Nat):Int)=z0 from rfl] at h
 exact Yrun85 rs (cn (Jc (Zi rs):Nat)) z0 i' (by rw[w64 (by omega) (by omega)];exact h)
theorem K8 {x g:Int} (hg:0<g) (h:g∣x):Int.tdiv x g=x / g:=by
 obtain⟨y,rfl⟩:=h
 rw[Int.mul_tdiv_cancel_left _ (by omega),Int.mul_ediv_cancel_left _ (by omega)]
theorem Jm {K:Nat} {rs:List Rn} (hg:∀ r∈rs,Ju K r) (hK:K<1048576) (hN:rs.length≤1048576):Ze Yir 86 [.sl rs.length (pc rs)] (.fresh 2 (prim (Zi rs)).length (pk (prim (Zi rs)))):=by
 have ht:=Ax (fun r h=>(hg r h).mono (show K≤1048576 by omega)) hN
 have hfT:∀ x∈Zc (Zi rs),Jg K x:=W1 (Jf hg)
 have gts:=Be hfT
 have hvs:=Z5 (Zc (Zi rs))
 have hll:=Qc (Zi rs)
 rw[Zs] at hll
 have hpk:pk (Zc (Zi rs))=pc ((Zc (Zi rs)).map cn):=rfl
 rw[hpk,← List.length_map (f:=cn)] at ht
 have hlm:((Zc (Zi rs)).map cn).length=(Zc (Zi rs)).length:=List.length_map ..
 have hc:=L1 gts hK (by omega)
 rw[hvs,Ls] at hc
 have hfc:Jg K ((Jc (Zi rs):Nat):Int):=Ma (Jf hg)
 have hlc:=hfc.len
 have hb:=Mo (neg:=(cn (Jc (Zi rs):Nat)).1) (xs:=(cn (Jc (Zi rs):Nat)).2) (Qx _) (by rw[Kc];omega)
 rw[show rv (cn (Jc (Zi rs):Nat)).1 (cn (Jc (Zi rs):Nat)).2=(Jc (Zi rs):Nat) from Z9 _,Int.natAbs_natCast] at hb
 by_cases h1:1<Jc (Zi rs)
 ·have hgd:∀ t,Zn (((Zc (Zi rs)).map cn).getD t z0)=(Zc (Zi rs)).getD t 0:=fun t=>by rw[← Q2,hvs]
  have key:∀ ts:List Rn,ts.length=(Zc (Zi rs)).length→(∀ r∈ts,Ju K r)→(∀ t,Zn (ts.getD t z0)=(Zc (Zi rs)).getD t 0) →
    Za Yir (.loop Zyx) (Zjf ts.length ts (cn (Jc (Zi rs):Nat)) (ts.length:Nat) 0) (.exit 0) (Zjf ts.length ((prim (Zi rs)).map cn) (cn (Jc (Zi rs):Nat)) (ts.length:Nat) (ts.length:Nat)):=by
   intro ts hl gt hv
   have hlp:((prim (Zi rs)).map cn).length=ts.length:=by rw[List.length_map,Qp,hl]
   have h:=Za.up (prog:=Yir) (c:=Zyx) (ex := .exit 0) (fin:=Zjf ts.length ((prim (Zi rs)).map cn) (cn (Jc (Zi rs):Nat)) (ts.length:Nat) (ts.length:Nat))
    (fun i=>Zjf ts.length (((prim (Zi rs)).map cn).take i++ts.drop i) (cn (Jc (Zi rs):Nat)) (ts.length:Nat) (i:Nat)) ts.length (by intro e;cases e) ?_ ?_ 0 (Nat.zero_le _)
   ·exact h
   ·intro i hi
    have ei:i64.wrap ((i:Int)+1)=((i+1:Nat):Int):=by rw[w64 (by omega) (by omega)];omega
    have hlen:(((prim (Zi rs)).map cn).take i++ts.drop i).length=ts.length:=by rw[List.length_append,List.length_take,List.length_drop];omega
    have hget:(((prim (Zi rs)).map cn).take i++ts.drop i).getD i z0=ts.getD i z0:=by
     rw[List.getD_eq_getElem?_getD,List.getD_eq_getElem?_getD,List.getElem?_append_right (by rw[List.length_take];omega),List.length_take,List.getElem?_drop]
     congr 2;omega
    obtain⟨g1,g2⟩:=Z8 gt i
    have hq:=D4 (na:=(ts.getD i z0).1) (nb:=(cn (Jc (Zi rs):Nat)).1) (xs:=(ts.getD i z0).2) (ys:=(cn (Jc (Zi rs):Nat)).2) g1 (Qx _) (by rw[show rv (cn (Jc (Zi rs):Nat)).1 (cn (Jc (Zi rs):Nat)).2=(Jc (Zi rs):Nat) from Z9 _];omega) (by omega) (by rw[Kc];omega)
    rw[show rv (cn (Jc (Zi rs):Nat)).1 (cn (Jc (Zi rs):Nat)).2=(Jc (Zi rs):Nat) from Z9 _,show rv (ts.getD i z0).1 (ts.getD i z0).2=Zn (ts.getD i z0) from rfl,hv,Je] at hq
    have k:=Yk86_1 ts.length (((prim (Zi rs)).map cn).take i++ts.drop i) (cn (Jc (Zi rs):Nat)) (ts.length:Nat) (i:Nat) _ _ (by simp;omega) (by omega) hlen (by rw[Int.toNat_natCast,hget];exact hq)
    refine k.to rfl ?_
    rw[ei,Int.toNat_natCast,K8 (by omega) (Vl (Zi rs) i),← Wo]
    congr 1
    apply List.ext_getElem?
    intro t
    have hpi:((prim (Zi rs)).map cn)[i]?=some (cn ((prim (Zi rs)).getD i 0)):=by
     rw[List.getElem?_map,List.getD_eq_getElem?_getD,List.getElem?_eq_getElem (by rw[List.length_map] at hlp;omega)];rfl
    rcases Nat.lt_trichotomy t i with g | g | g
    ·rw[List.getElem?_set_ne (by omega),List.getElem?_append_left (by rw[List.length_take];omega),List.getElem?_append_left (by rw[List.length_take];omega),List.getElem?_take_of_lt g,List.getElem?_take_of_lt (by omega)]
    ·subst g
     rw[List.getElem?_set_self (by omega),List.getElem?_append_left (by rw[List.length_take];omega),List.getElem?_take_of_lt (by omega),hpi]
    ·rw[List.getElem?_set_ne (by omega),List.getElem?_append_right (by rw[List.length_take];omega),List.getElem?_append_right (by rw[List.length_take];omega),List.length_take,List.length_take,List.getElem?_drop,List.getElem?_drop]
     congr 1;omega
   ·rw[List.take_of_length_le (by omega),List.drop_length,List.append_nil]
    exact Yk86_2 ts.length _ _ (ts.length:Nat) (ts.length:Nat) (by simp)
  have hl:=key _ hlm gts hgd
  have h:=Zll rs ((Zc (Zi rs)).map cn) _ _ _ _ _ _ _ (by rw[decide_eq_true_eq];have:=(Zfk (n:=Jc (Zi rs))).2 h1;omega) ht (Zp7 _) (Df _) hc hb hl
  rw[hlm,← Qp] at h
  exact h
 ·have h:=Zlk rs ((Zc (Zi rs)).map cn) _ _ (by rw[decide_eq_false_iff_not];have:=(Zfk (n:=Jc (Zi rs))).1;omega) ht (Zp7 _) (Df _) hc hb
  have hp:prim (Zi rs)=Zc (Zi rs):=by
   rcases Nat.eq_zero_or_pos (Jc (Zi rs)) with g | g
   ·rw[Un.2 (K0.1 g),Xa.2 (K0.1 g)]
   ·exact Ny (by omega)
  rw[hp]
  rw[hlm] at h
  exact h
theorem Zes (rs:List Rn):Zn (rs.getD (rs.length-1) z0)=top (Zi rs):=by unfold top;rw [Q2,Zs]
theorem Mg {rs:List Rn} (hg:∀ r∈rs,Ju 1048576 r) (hN:rs.length≤1048576) : 
  (top (Zi rs)<0→Ze Yir 115 [.sl rs.length (pc rs)] (.fresh 2 rs.length (pk (Vd (Zi rs)))))∧(¬ top (Zi rs)<0→Ze Yir 115 [.sl rs.length (pc rs)] (.sl rs.length (pc rs))):=by
 by_cases h0:0<rs.length
 ·have e1:i64.wrap ((rs.length:Int)-1)=((rs.length-1:Nat):Int):=by rw[w64 (by omega) (by omega)];omega
  obtain⟨g1,g2⟩:=Z8 hg (rs.length-1)
  have hs:=Ge (neg:=(rs.getD (rs.length-1) z0).1) g1 g2
  rw[show rv (rs.getD (rs.length-1) z0).1 (rs.getD (rs.length-1) z0).2=Zn (rs.getD (rs.length-1) z0) from rfl,Zes] at hs
  refine⟨fun h => ?_,fun h => ?_⟩
  ·have hn:=W7 hg hN
   have hpk:pk (Vd (Zi rs))=pc ((Vd (Zi rs)).map cn):=rfl
   have hll:((Vd (Zi rs)).map cn).length=rs.length:=by rw[List.length_map,Xy,Zs]
   rw[hpk] at hn ⊢
   rw[← hll] at hn ⊢
   have hn':Ze Yir 127 [.sl rs.length (pc rs)] (.fresh 2 ((Vd (Zi rs)).map cn).length (pc ((Vd (Zi rs)).map cn))):=by
    have:=W7 hg hN
    rw[hll];exact this
   rw[hll]
   have k:=Zgw rs ((Vd (Zi rs)).map cn) (Xh (top (Zi rs))) (by simp;omega) (by unfold Xh;rw[if_pos h];rfl) (by rw[e1];omega) (by rw[e1,Int.toNat_natCast];exact hs) hn'
   rw[hll] at k
   exact k
  ·exact Zgv rs (Xh (top (Zi rs))) (by simp;omega) (by unfold Xh;rw[if_neg h];split <;> rfl) (by rw[e1];omega) (by rw[e1,Int.toNat_natCast];exact hs)
 ·have hz:rs=[]:=List.eq_nil_of_length_eq_zero (by omega)
  subst hz
  refine⟨fun h=>absurd h (by decide),fun _=>Zgu [] (by decide)⟩
theorem Di {K:Nat} {rs:List Rn} (hg:∀ r∈rs,Ju K r) (hK:K+2≤1048576) (hN:rs.length≤1048576):Ze Yir 75 [.sl rs.length (pc rs)] (.fresh 2 (Qu (Zi rs)).length (pk (Qu (Zi rs)))):=by
 have hd:=Fz (fun r h=>(hg r h).mono (show K≤1048576 by omega)) hN
 have hle:=Wv (Zi rs) rs.length
 have hl:=Za.up (prog:=Yir) (c:=Yc75) (ex := .exit 0) (fin:=Zqu rs (Z0 (Zi rs) rs.length-1) (pc ((List.range (Z0 (Zi rs) rs.length-1)).map fun j=>cn (Zn (rs.getD (j+1) z0)*((j+1:Nat):Int)))) ((Z0 (Zi rs) rs.length-1+1:Nat):Int))
  (fun i=>Zqu rs i (pc ((List.range i).map fun j=>cn (Zn (rs.getD (j+1) z0)*((j+1:Nat):Int)))) ((i+1:Nat):Int)) (Z0 (Zi rs) rs.length-1) (by intro e;cases e) ?_ ?_ 0 (Nat.zero_le _)
 ·have hfit:∀ r∈(List.range (Z0 (Zi rs) rs.length-1)).map (fun j=>cn (Zn (rs.getD (j+1) z0)*((j+1:Nat):Int))),Ju 1048576 r:=by
   intro r hr
   obtain⟨j,hj,rfl⟩:=List.mem_map.1 hr
   rw[List.mem_range] at hj
   have h2:Jg 2 ((j+1:Nat):Int):=Bg (by omega)
   exact (Q5 ((Z8 hg (j+1)).fits.mul h2)).mono (by omega)
  have ht:=Ax hfit (by rw[List.length_map,List.length_range];omega)
  have hlen:((List.range (Z0 (Zi rs) rs.length-1)).map (fun j=>cn (Zn (rs.getD (j+1) z0)*((j+1:Nat):Int)))).length=Z0 (Zi rs) rs.length-1:=by rw[List.length_map,List.length_range]
  have e:Zc (Zi ((List.range (Z0 (Zi rs) rs.length-1)).map (fun j=>cn (Zn (rs.getD (j+1) z0)*((j+1:Nat):Int)))))=Qu (Zi rs):=by
   unfold Qu
   apply V6
   intro i
   rw[K6,Wn,Z9,Q2,Zs]
   by_cases h1:i<Z0 (Zi rs) rs.length-1
   ·rw[if_pos h1,if_pos (by omega)]
   ·rw[if_neg h1]
    split
    ·have:Zn (rs.getD (i+1) z0)=0:=by rw[← Q2];exact Bn (Zi rs) rs.length (i+1) (by omega) (by omega)
     rw[this,Int.zero_mul]
    ·rfl
  rw[e,hlen] at ht
  have hpk:pk (Qu (Zi rs))=pc ((Qu (Zi rs)).map cn):=rfl
  rw[hpk,← List.length_map (f:=cn)] at ht ⊢
  exact Yrun75 rs _ _ _ _ hl ht
 ·intro i hi
  have ei:i64.wrap (((i+1:Nat):Int)+1)=((i+1+1:Nat):Int):=by rw[w64 (by omega) (by omega)];omega
  obtain⟨g1,g2⟩:=Z8 hg (i+1)
  have ho:=Zq4 (n:=((i+1:Nat):Int)) (by omega)
  have hfi:Jg 2 ((i+1:Nat):Int):=Bg (by omega)
  have hm:=Nk (na:=(rs.getD (i+1) z0).1) (nb:=decide (((i+1:Nat):Int)<0)) (xs:=(rs.getD (i+1) z0).2) (ys:=Zb ((i+1:Nat):Int).natAbs) g1 (Qx _) (by have:=hfi.len;omega)
  rw[V7] at hm
  have k:=Yk75_1 rs i (pc ((List.range i).map fun j=>cn (Zn (rs.getD (j+1) z0)*((j+1:Nat):Int)))) ((i+1:Nat):Int) (((Z0 (Zi rs) rs.length:Nat):Int)-1) (Zn (rs.getD (i+1) z0)*((i+1:Nat):Int)) (by simp;omega) (by omega) (by omega) hd ho (by rw[Int.toNat_natCast];exact hm)
  refine k.to rfl ?_
  rw[ei]
  congr 1
  rw[List.range_succ,List.map_append,Gn]
  rfl
 ·exact Yk75_2 rs _ _ _ _ (by rw[decide_eq_false_iff_not];omega) hd
def TRB:Jx:=TRA
theorem Zq:Q1 Yir TRB:=Zi2
end Go.Proofs.Ythnnfemologhfaa

namespace Go.Proofs.Ythnnfemologhfaa
open Go.IntKind (i64 u64 u32)
open Go.Ai
set_option maxRecDepth 100000
theorem Zqd {n:Int} {xs:List Int} (hu:U32 xs) (h0:0≤n) (h:n≤Zj xs):(lz n).length≤xs.length :=
 Af (by have:=Xd hu;omega)
theorem Zqb {n:Int} (h:0≤n):Zj (lz n)=n:=by unfold lz;rw [Q9];omega
theorem T4 {na nb:Bool} {xs ys:List Int} (hx:U32 xs) (hy:U32 ys) (h0:rv nb ys ≠ 0) (h1:xs.length<1000000) (h2:ys.length<1000000) :
  Ze Yir 131 [.agg [.bool na, .sl xs.length (lm xs)], .agg [.bool nb, .sl ys.length (lm ys)]] (.tup [Zl (Int.tdiv (rv na xs) (rv nb ys)),Zl (Int.tmod (rv na xs) (rv nb ys))]):=by
 have cx:=Xr hx
 have cy:=Xr hy
 have t1:=Qc xs
 have t2:=Qc ys
 have hX:=Zx hx
 have hY:0<Zj ys:=by
  have:=Zx hy
  rcases Int.lt_or_le 0 (Zj ys) with h | h
  ·exact h
  ·have hz:Zj ys=0:=by omega
   exact absurd (by unfold rv;rw[hz];cases nb <;> rfl) h0
 have hy0:Zc ys ≠ []:=by
  intro e
  have:=J3 ys
  rw[e] at this
  simp only[Zj] at this
  omega
 have hd:=Zb2 cx cy hy0 (by omega) (by omega)
 rw[J3,J3] at hd
 have hq0:0≤Zj xs / Zj ys:=Int.ediv_nonneg hX (by omega)
 have hq1:Zj xs / Zj ys≤Zj xs:=Int.ediv_le_self _ hX
 have hr0:=Int.emod_nonneg (Zj xs) (show Zj ys ≠ 0 by omega)
 have hr1:Zj xs % Zj ys≤Zj xs:=by
  have:=Int.mul_ediv_add_emod (Zj xs) (Zj ys)
  have:=Int.mul_nonneg (show 0≤Zj ys by omega) hq0
  omega
 have l1:=Zqd hx hq0 hq1
 have l2:=Zqd hx hr0 hr1
 have m1:=U0 (neg := !(na==nb)) (xs:=lz (Zj xs / Zj ys)) (Qx _) (by omega)
 have m2:=U0 (neg:=na) (xs:=lz (Zj xs % Zj ys)) (Qx _) (by omega)
 have e1:rv (!(na==nb)) (lz (Zj xs / Zj ys))=Int.tdiv (rv na xs) (rv nb ys):=by
  unfold rv
  rw[Zqb hq0,← Int.tdiv_eq_ediv_of_nonneg hX]
  cases na <;> cases nb <;> simp[Int.neg_tdiv,Int.tdiv_neg]
 have e2:rv na (lz (Zj xs % Zj ys))=Int.tmod (rv na xs) (rv nb ys):=by
  unfold rv
  rw[Zqb hr0,← Int.tmod_eq_emod_of_nonneg hX]
  cases na <;> cases nb <;> simp[Int.neg_tmod,Int.tmod_neg]
 rw[e1] at m1
 rw[e2] at m2
 exact Zsl na nb xs ys _ _ _ _ (Xe (by omega)) (Xe (by omega)) hd m1 m2
theorem Zfj (n:Int):U32 (cn n).2:=Qx _
theorem Nr (n:Int):rv (cn n).1 (cn n).2=n:=Z9 n
theorem Zmk:∀ (n X Y:Nat),Y≤n→(Zb X).length<1000000→(Zb Y).length<1000000→Za Yir (.loop Pf) (Dm (cn (X:Nat)) (cn (Y:Nat))) (.exit 0) (Dm (cn (Nat.gcd X Y:Nat)) (cn 0)):=by
 intro n
 induction n with
 | zero =>
  intro X Y hY _ _
  have:Y=0:=by omega
  subst this
  rw[Nat.gcd_zero_right]
  exact Za.loop_out (Za3 (cn (X:Nat)) (cn 0) (by decide) (Uk (neg:=(cn 0).1) (xs:=(cn 0).2) (Zfj _) (by decide))) (by intro e;cases e)
 | succ n ih =>
  intro X Y hY h1 h2
  by_cases h0:Y=0
  ·subst h0
   rw[Nat.gcd_zero_right]
   exact Za.loop_out (Za3 (cn (X:Nat)) (cn 0) (by decide) (Uk (neg:=(cn 0).1) (xs:=(cn 0).2) (Zfj _) (by decide))) (by intro e;cases e)
  ·have hs:=Uk (neg:=(cn (Y:Nat)).1) (xs:=(cn (Y:Nat)).2) (Qx _) (by rw[Kc,Int.natAbs_natCast];omega)
   have hd:=T4 (na:=(cn (X:Nat)).1) (nb:=(cn (Y:Nat)).1) (xs:=(cn (X:Nat)).2) (ys:=(cn (Y:Nat)).2) (Qx _) (Qx _) (by rw[Nr];omega) (by rw[Kc,Int.natAbs_natCast];omega) (by rw[Kc,Int.natAbs_natCast];omega)
   rw[Nr,Nr] at hd
   rw[Nr] at hs
   have em:Int.tmod (X:Int) (Y:Int)=((X % Y:Nat):Int):=by rw[Int.tmod_eq_emod_of_nonneg (by omega)];omega
   rw[em] at hd
   have k:=Zmq (cn (X:Nat)) (cn (Y:Nat)) _ _ (by rw[Z9,bne_iff_ne];unfold Xh; (repeat' split) <;> omega) (by rw[Z9];exact hs) hd
   have hlt:X % Y<Y:=Nat.mod_lt _ (by omega)
   have hle:(Zb (X % Y)).length≤(Zb Y).length:=by
    apply Af
    have:=Xd (Qq Y).1
    rw[Q9] at this
    omega
   have r:=ih Y (X % Y) (by omega) h2 (by omega)
   rw[Nat.gcd_comm X Y,Nat.gcd_rec Y X,Nat.gcd_comm (X % Y) Y]
   exact Za.loop k r
theorem Re {na nb:Bool} {xs ys:List Int} (hx:U32 xs) (hy:U32 ys) (h1:xs.length<1000000) (h2:ys.length<1000000) :
  Ze Yir 130 [.agg [.bool na, .sl xs.length (lm xs)], .agg [.bool nb, .sl ys.length (lm ys)]] (Zl (Int.gcd (rv na xs) (rv nb ys):Nat)):=by
 have m1:=U0 (neg:=false) hx (by omega)
 have m2:=U0 (neg:=false) hy (by omega)
 have l1:=Ue (neg:=na) hx
 have l2:=Ue (neg:=nb) hy
 have e1:rv false xs=(((rv na xs).natAbs:Nat):Int):=by
  have:=Zx hx
  unfold rv;cases na <;> simp <;> omega
 have e2:rv false ys=(((rv nb ys).natAbs:Nat):Int):=by
  have:=Zx hy
  unfold rv;cases nb <;> simp <;> omega
 rw[e1] at m1
 rw[e2] at m2
 exact Zsm na nb xs ys _ _ _ _ m1 m2 (Zmk _ (rv na xs).natAbs (rv nb ys).natAbs (Nat.le_refl _) (by omega) (by omega))
theorem Sf (a b:List Int):Jc (a++b)=Nat.gcd (Jc a) (Jc b):=by
 induction a with
 | nil=>simp[Jc]
 | cons x a ih=>simp only[List.cons_append,Jc,ih,Nat.gcd_assoc]
theorem A9 {rs:List Rn} {i:Nat} (h:i<rs.length):(Zi rs).take (i+1)=(Zi rs).take i++[Zn (rs.getD i z0)]:=by
 rw[List.take_succ_eq_append_getElem (by rw[Zs];exact h)]
 congr 2
 rw[← Q2,List.getD_eq_getElem?_getD,List.getElem?_eq_getElem (by rw[Zs];exact h)];rfl
theorem Zbl {K:Nat} {rs:List Rn} (hg:∀ r∈rs,Ju K r) (hK:K<1000000) (hN:rs.length≤1048576):Ze Yir 90 [.sl rs.length (pc rs)] (Zl (Jc (Zi rs):Nat)):=by
 have h:=Za.up (prog:=Yir) (c:=Yc90) (ex := .exit 0) (fin:=Zqq rs (cn (Jc (Zi rs):Nat)) (rs.length:Nat))
  (fun i=>Zqq rs (cn (Jc ((Zi rs).take i):Nat)) (i:Nat)) rs.length (by intro e;cases e) ?_ ?_ 0 (Nat.zero_le _)
 ·exact Yrun90 rs (cn (Jc (Zi rs):Nat)) _ h
 ·intro i hi
  have ei:i64.wrap ((i:Int)+1)=((i+1:Nat):Int):=by rw[w64 (by omega) (by omega)];omega
  obtain⟨g1,g2⟩:=Z8 hg i
  have hf:Jg K ((Jc ((Zi rs).take i):Nat):Int):=Ma fun x hx=>Jf hg x (List.mem_of_mem_take hx)
  have hl:=hf.len
  have hc:=Re (na:=(cn (Jc ((Zi rs).take i):Nat)).1) (nb:=(rs.getD i z0).1) (xs:=(cn (Jc ((Zi rs).take i):Nat)).2) (ys:=(rs.getD i z0).2) (Qx _) g1 (by rw[Kc];omega) (by omega)
  rw[Nr] at hc
  have k:=Yk90_1 rs (cn (Jc ((Zi rs).take i):Nat)) (i:Nat) _ (by simp;omega) (by omega) (by rw[Int.toNat_natCast];exact hc)
  refine k.to rfl ?_
  rw[ei,A9 hi,Sf]
  congr 2
  show ((Nat.gcd (((Jc ((Zi rs).take i):Nat):Int)).natAbs (Zn (rs.getD i z0)).natAbs:Nat):Int)=_
  rw[Int.natAbs_natCast]
  simp[Jc]
 ·rw[List.take_of_length_le (by rw[Zs];omega)]
  exact Yk90_2 rs _ _ (by simp)
theorem Uc (g:Nat→Int) (i:Nat):pc ((List.range i).map fun j=>cn (g j))++([.bool (decide (g i<0)), .sl (Zb (g i).natAbs).length (lm (Zb (g i).natAbs))]:List AV)=pc ((List.range (i+1)).map fun j=>cn (g j)):=by
 rw[Hv (fun j=>cn (g j)),← Zd8];rfl
theorem Ze3 {K:Nat} {x:Int} (h:Jg K x) (c:Int):Jg K (Int.tdiv x c):=by
 unfold Jg at *
 have:(Int.tdiv x c).natAbs=x.natAbs / c.natAbs:=Int.natAbs_tdiv x c
 have:=Nat.div_le_self x.natAbs c.natAbs
 omega
theorem Vs {K:Nat} {rs:List Rn} (hg:∀ r∈rs,Ju K r) (hK:K<1000000) (hN:rs.length≤1048576):Ze Yir 91 [.sl rs.length (pc rs)] (.fresh 2 (prim (Zi rs)).length (pk (prim (Zi rs)))):=by
 have hi:=Zbl hg hK hN
 have hfc:Jg K ((Jc (Zi rs):Nat):Int):=Ma (Jf hg)
 have hlc:=hfc.len
 have hs:=Uk (neg:=(cn (Jc (Zi rs):Nat)).1) (xs:=(cn (Jc (Zi rs):Nat)).2) (Qx _) (by rw[Kc];omega)
 rw[Nr] at hs
 by_cases h0:Jc (Zi rs)=0
 ·rw[Un.2 (K0.1 h0)]
  exact Zlj rs _ (by rw[h0];rfl) hi hs
 ·have h:=Za.up (prog:=Yir) (c:=Yc91) (ex := .exit 0) (fin:=Zqp rs (cn (Jc (Zi rs):Nat)) rs.length (pc ((List.range rs.length).map fun j=>cn (Int.tdiv (Zn (rs.getD j z0)) (Jc (Zi rs):Nat)))) (rs.length:Nat))
   (fun i=>Zqp rs (cn (Jc (Zi rs):Nat)) i (pc ((List.range i).map fun j=>cn (Int.tdiv (Zn (rs.getD j z0)) (Jc (Zi rs):Nat)))) (i:Nat)) rs.length (by intro e;cases e) ?_ ?_ 0 (Nat.zero_le _)
  ·have hgo:∀ r∈(List.range rs.length).map (fun j=>cn (Int.tdiv (Zn (rs.getD j z0)) (Jc (Zi rs):Nat))),Ju 1048576 r:=Ak fun j _=>(Q5 (Ze3 (Z8 hg j).fits _)).mono (by omega)
   have ht:=Xl hgo (by rw[List.length_map,List.length_range];exact hN)
   have e:Zc (Zi ((List.range rs.length).map (fun j=>cn (Int.tdiv (Zn (rs.getD j z0)) (Jc (Zi rs):Nat)))))=prim (Zi rs):=by
    rw[← Qr (Zi rs)]
    apply V6
    intro i
    rw[K6,Z9,Wo,← Q2]
    by_cases h1:i<rs.length
    ·rw[if_pos h1,K8 (by omega) (Vl _ _)]
    ·rw[if_neg h1,Qt (by rw[Zs];omega),Int.zero_ediv]
   rw[e,List.length_map,List.length_range] at ht
   have hpk:pk (prim (Zi rs))=pc ((prim (Zi rs)).map cn):=rfl
   rw[hpk,← List.length_map (f:=cn)] at ht ⊢
   exact Zli rs _ _ _ _ _ (by rw[beq_eq_false_iff_ne];unfold Xh; (repeat' split) <;> omega) hi hs h ht
  ·intro i hi2
   have ei:i64.wrap ((i:Int)+1)=((i+1:Nat):Int):=by rw[w64 (by omega) (by omega)];omega
   obtain⟨g1,g2⟩:=Z8 hg i
   have hd:=T4 (na:=(rs.getD i z0).1) (nb:=(cn (Jc (Zi rs):Nat)).1) (xs:=(rs.getD i z0).2) (ys:=(cn (Jc (Zi rs):Nat)).2) g1 (Qx _) (by rw[Nr];omega) (by omega) (by rw[Kc];omega)
   rw[Nr] at hd
   have k:=Yk91_1 rs (cn (Jc (Zi rs):Nat)) i (pc ((List.range i).map fun j=>cn (Int.tdiv (Zn (rs.getD j z0)) (Jc (Zi rs):Nat)))) (i:Nat) _ _ (by simp;omega) (by omega) (by omega) (by rw[Int.toNat_natCast];exact hd)
   refine k.to rfl ?_
   rw[ei,← Uc (fun j=>Int.tdiv (Zn (rs.getD j z0)) (Jc (Zi rs):Nat)) i]
   rfl
  ·exact Yk91_2 rs _ _ _ _ (by simp)
theorem T7 {K:Nat} {rs:List Rn} (hg:∀ r∈rs,Ju K r) (hK:K+2≤1000000) (hN:rs.length≤1048576):Ze Yir 89 [.sl rs.length (pc rs)] (.fresh 2 (Qu (Zi rs)).length (pk (Qu (Zi rs)))):=by
 have h:=Za.up (prog:=Yir) (c:=Yc89) (ex := .exit 0) (fin:=Zqr rs (rs.length-1) (pc ((List.range (rs.length-1)).map fun j=>cn (((j+1:Nat):Int)*Zn (rs.getD (j+1) z0)))) ((rs.length-1+1:Nat):Int))
  (fun i=>Zqr rs i (pc ((List.range i).map fun j=>cn (((j+1:Nat):Int)*Zn (rs.getD (j+1) z0)))) ((i+1:Nat):Int)) (rs.length-1) (by intro e;cases e) ?_ ?_ 0 (Nat.zero_le _)
 ·have hgo:∀ r∈(List.range (rs.length-1)).map (fun j=>cn (((j+1:Nat):Int)*Zn (rs.getD (j+1) z0))),Ju 1048576 r:=Ak fun j hj=>by
   have h2:Jg 2 ((j+1:Nat):Int):=Bg (by omega)
   exact (Q5 (h2.mul (Z8 hg (j+1)).fits)).mono (by omega)
  have ht:=Xl hgo (by rw[List.length_map,List.length_range];omega)
  have e:Zc (Zi ((List.range (rs.length-1)).map (fun j=>cn (((j+1:Nat):Int)*Zn (rs.getD (j+1) z0)))))=Qu (Zi rs):=by
   unfold Qu
   apply V6
   intro i
   rw[K6,Wn,Z9,Q2,Zs,Int.mul_comm]
  rw[e,List.length_map,List.length_range] at ht
  have hpk:pk (Qu (Zi rs))=pc ((Qu (Zi rs)).map cn):=rfl
  rw[hpk,← List.length_map (f:=cn)] at ht ⊢
  exact Yrun89 rs _ _ _ _ h ht
 ·intro i hi
  have ei:i64.wrap (((i+1:Nat):Int)+1)=((i+1+1:Nat):Int):=by rw[w64 (by omega) (by omega)];omega
  obtain⟨g1,g2⟩:=Z8 hg (i+1)
  have ho:=Zp9 (n:=((i+1:Nat):Int)) (by omega)
  have hfi:Jg 2 ((i+1:Nat):Int):=Bg (by omega)
  have hm:=Fh (na:=(cn ((i+1:Nat):Int)).1) (nb:=(rs.getD (i+1) z0).1) (xs:=(cn ((i+1:Nat):Int)).2) (ys:=(rs.getD (i+1) z0).2) (Zfj _) g1 (by rw[Kc];have:=hfi.len;omega)
  rw[Nr] at hm
  have k:=Yk89_1 rs i (pc ((List.range i).map fun j=>cn (((j+1:Nat):Int)*Zn (rs.getD (j+1) z0)))) ((i+1:Nat):Int) (by simp;omega) (by omega) (by omega) ho (by rw[Int.toNat_natCast];exact hm)
  refine k.to rfl ?_
  rw[ei,← Uc (fun j=>((j+1:Nat):Int)*Zn (rs.getD (j+1) z0)) i,Int.toNat_natCast]
 ·exact Yk89_2 rs _ _ _ (by rw[decide_eq_false_iff_not];omega)
theorem T6 {rs:List Rn} (hg:∀ r∈rs,Ju 1048576 r) (hN:rs.length≤1048576):Ze Yir 129 [.sl rs.length (pc rs)] (.fresh 2 (Zc (Vd (Zi rs))).length (pk (Zc (Vd (Zi rs))))):=by
 have h:=Za.up (prog:=Yir) (c:=Zit) (ex := .exit 0) (fin:=L6 rs rs.length (pc ((List.range rs.length).map fun j=>cn (-Zn (rs.getD j z0)))) (rs.length:Nat))
  (fun i=>L6 rs i (pc ((List.range i).map fun j=>cn (-Zn (rs.getD j z0)))) (i:Nat)) rs.length (by intro e;cases e) ?_ ?_ 0 (Nat.zero_le _)
 ·have hgo:∀ r∈(List.range rs.length).map (fun j=>cn (-Zn (rs.getD j z0))),Ju 1048576 r:=Ak fun j _=>Q5 (Z8 hg j).fits.neg
  have ht:=Xl hgo (by rw[List.length_map,List.length_range];exact hN)
  have e:Zc (Zi ((List.range rs.length).map (fun j=>cn (-Zn (rs.getD j z0)))))=Zc (Vd (Zi rs)):=by
   apply V6
   intro i
   rw[K6,Z9,Va,← Q2]
   split
   ·rfl
   ·rw[Qt (by rw[Zs];omega)];rfl
  rw[e,List.length_map,List.length_range] at ht
  have hpk:pk (Zc (Vd (Zi rs)))=pc ((Zc (Vd (Zi rs))).map cn):=rfl
  rw[hpk,← List.length_map (f:=cn)] at ht ⊢
  exact Zsn rs _ _ _ _ h ht
 ·intro i hi
  have ei:i64.wrap ((i:Int)+1)=((i+1:Nat):Int):=by rw[w64 (by omega) (by omega)];omega
  obtain⟨g1,g2⟩:=Z8 hg i
  have k:=Zuw rs i (pc ((List.range i).map fun j=>cn (-Zn (rs.getD j z0)))) (i:Nat) (by simp;omega) (by omega) (by omega) (by rw[Int.toNat_natCast];exact Nt g1 g2)
  refine k.to rfl ?_
  rw[ei,← Uc (fun j => -Zn (rs.getD j z0)) i,Int.toNat_natCast]
 ·exact Zuv rs _ _ _ (by simp)
end Go.Proofs.Ythnnfemologhfaa

namespace Go.Proofs.Ythnnfemologhfaa
open Go.IntKind (i64 u64 u32)
open Go.Ai
set_option maxRecDepth 100000
def Fa (qs:List Rn) (k:Nat) (rs:List Rn) (t:Rn) (a:Rn) (b:Rn) (at1:Int) (n:Int) (i:Int):Zk:=(dds 1 (.val (.sl qs.length (pc qs))::(dds 3 (.own 2 k (pc rs)::(.box [.bool t.1, .sl t.2.length (lm t.2)]::(dds 2 (.box [.bool a.1, .sl a.2.length (lm a.2)]::(dds 1 (.box [.bool b.1, .sl b.2.length (lm b.2)]::(dds 1 (.val (.int .i64 at1)::(dds 49 (.val (.int .i64 n)::(.val (.int .i64 i)::(dds 34 [])))))))))))))))
theorem Zte (qs:List Rn) (k:Nat) (rs:List Rn) (t:Rn) (a:Rn) (b:Rn) (at1:Int) (n:Int) (i:Int)  (c1:(decide (i<n))=true) (c2:(decide (i≥at1))=true) (n1:0≤i∧i<(k:Int)) (n2:rs.length=k) (n3:(rs.set (Int.toNat i) (cn ((Zn (rs.getD (Int.toNat i) z0))*(Zn a)))).length=k) (n4:0≤(i64.wrap (i-at1))∧(i64.wrap (i-at1))<(qs.length:Int)) (n5:Ze Yir 113 [Zt (rs.getD (Int.toNat i) z0),Zt a] (Zl ((Zn (rs.getD (Int.toNat i) z0))*(Zn a)))) (n6:Ze Yir 113 [Zt b,Zt (qs.getD (Int.toNat (i64.wrap (i-at1))) z0)] (Zl ((Zn b)*(Zn (qs.getD (Int.toNat (i64.wrap (i-at1))) z0))))) (n7:Ze Yir 114 [Zt ((rs.set (Int.toNat i) (cn ((Zn (rs.getD (Int.toNat i) z0))*(Zn a)))).getD (Int.toNat i) z0),Zl ((Zn b)*(Zn (qs.getD (Int.toNat (i64.wrap (i-at1))) z0)))] (Zl ((Zn ((rs.set (Int.toNat i) (cn ((Zn (rs.getD (Int.toNat i) z0))*(Zn a)))).getD (Int.toNat i) z0))-((Zn b)*(Zn (qs.getD (Int.toNat (i64.wrap (i-at1))) z0)))))):Za Yir Pi (Fa qs k rs t a b at1 n i) .norm (Fa qs k ((rs.set (Int.toNat i) (cn ((Zn (rs.getD (Int.toNat i) z0))*(Zn a)))).set (Int.toNat i) (cn ((Zn ((rs.set (Int.toNat i) (cn ((Zn (rs.getD (Int.toNat i) z0))*(Zn a)))).getD (Int.toNat i) z0))-((Zn b)*(Zn (qs.getD (Int.toNat (i64.wrap (i-at1))) z0)))))) t a b at1 n (i64.wrap (i+1))):=(Za.go Zq 400 [.b true, .v (Zt (rs.getD (Int.toNat i) z0)), .r (Zl ((Zn (rs.getD (Int.toNat i) z0))*(Zn a))), .l (pc (rs.set (Int.toNat i) (cn ((Zn (rs.getD (Int.toNat i) z0))*(Zn a))))), .b true, .v (Zt ((rs.set (Int.toNat i) (cn ((Zn (rs.getD (Int.toNat i) z0))*(Zn a)))).getD (Int.toNat i) z0)), .v (Zt (qs.getD (Int.toNat (i64.wrap (i-at1))) z0)), .r (Zl ((Zn b)*(Zn (qs.getD (Int.toNat (i64.wrap (i-at1))) z0)))), .r (Zl ((Zn ((rs.set (Int.toNat i) (cn ((Zn (rs.getD (Int.toNat i) z0))*(Zn a)))).getD (Int.toNat i) z0))-((Zn b)*(Zn (qs.getD (Int.toNat (i64.wrap (i-at1))) z0))))), .l (pc ((rs.set (Int.toNat i) (cn ((Zn (rs.getD (Int.toNat i) z0))*(Zn a)))).set (Int.toNat i) (cn ((Zn ((rs.set (Int.toNat i) (cn ((Zn (rs.getD (Int.toNat i) z0))*(Zn a)))).getD (Int.toNat i) z0))-((Zn b)*(Zn (qs.getD (Int.toNat (i64.wrap (i-at1))) z0)))))))] [1,5,6,9,11,13,63,64] (ac c1 (ac n1 (ac (Vv n2 n1) (ac n5 (ac n1 (ac (Wc (r:=cn ((Zn (rs.getD (Int.toNat i) z0))*(Zn a))) n2 n1) (ac c2 (ac n1 (ac (Vv n3 n1) (ac n4 (ac (Qi n4) (ac n6 (ac n7 (ac n1 (ac (Wc (r:=cn ((Zn ((rs.set (Int.toNat i) (cn ((Zn (rs.getD (Int.toNat i) z0))*(Zn a)))).getD (Int.toNat i) z0))-((Zn b)*(Zn (qs.getD (Int.toNat (i64.wrap (i-at1))) z0))))) n3 n1) a0))))))))))))))))
theorem Ztd (qs:List Rn) (k:Nat) (rs:List Rn) (t:Rn) (a:Rn) (b:Rn) (at1:Int) (n:Int) (i:Int)  (c1:(decide (i<n))=true) (c2:(decide (i≥at1))=false) (n1:0≤i∧i<(k:Int)) (n2:rs.length=k) (n3:Ze Yir 113 [Zt (rs.getD (Int.toNat i) z0),Zt a] (Zl ((Zn (rs.getD (Int.toNat i) z0))*(Zn a)))):Za Yir Pi (Fa qs k rs t a b at1 n i) .norm (Fa qs k (rs.set (Int.toNat i) (cn ((Zn (rs.getD (Int.toNat i) z0))*(Zn a)))) t a b at1 n (i64.wrap (i+1))):=(Za.go Zq 400 [.b true, .v (Zt (rs.getD (Int.toNat i) z0)), .r (Zl ((Zn (rs.getD (Int.toNat i) z0))*(Zn a))), .l (pc (rs.set (Int.toNat i) (cn ((Zn (rs.getD (Int.toNat i) z0))*(Zn a))))), .b false] [1,5,6,9,11,13,63,64] (ac c1 (ac n1 (ac (Vv n2 n1) (ac n3 (ac n1 (ac (Wc (r:=cn ((Zn (rs.getD (Int.toNat i) z0))*(Zn a))) n2 n1) (ac c2 a0))))))))
theorem Ztc (qs:List Rn) (k:Nat) (rs:List Rn) (t:Rn) (a:Rn) (b:Rn) (at1:Int) (n:Int) (i:Int)  (c1:(decide (i<n))=false):Za Yir Pi (Fa qs k rs t a b at1 n i) (.exit 2) (Fa qs k rs t a b at1 n i):=(Za.go Zq 400 [.b false] [1,5,6,9,11,13,63,64] (ac c1 a0))
def Zdb (qs:List Rn) (k:Nat) (rs:List Rn) (t:Rn):Zk:=(dds 1 (.val (.sl qs.length (pc qs))::(dds 3 (.own 2 k (pc rs)::(.box [.bool t.1, .sl t.2.length (lm t.2)]::(dds 92 []))))))
theorem Yk64_1 (qs:List Rn) (k:Nat) (rs:List Rn) (t:Rn) (os us:List Rn) (a b:Rn) (g ab x y ny r1 r2 s at1 n i:Int) (c1:(decide ((k:Int)≥(qs.length:Int)))=true) (c2:(decide (s<0))=true) (n1:0≤(i64.wrap ((k:Int)-1))∧(i64.wrap ((k:Int)-1))<(k:Int)) (n2:rs.length=k) (n3:Ze Yir 109 [Zt t,Zt (rs.getD (Int.toNat (i64.wrap ((k:Int)-1))) z0)] (Zl g)) (n4:Ze Yir 111 [Zt t] (Zl ab)) (n5:Ze Yir 110 [Zl ab,Zl g] (.tup [Zl x,Zl r1])) (n6:Ze Yir 110 [Zt (rs.getD (Int.toNat (i64.wrap ((k:Int)-1))) z0),Zl g] (.tup [Zl y,Zl r2])) (n7:Ze Yir 73 [Zt t] (.int .i64 s)) (n8:Ze Yir 112 [Zl y] (Zl ny)) (hl9:Za Yir (.loop Pi) (Fa qs k rs t (cn x) (cn ny) (i64.wrap ((k:Int)-(qs.length:Int))) (k:Int) 0) (.exit 2) (Fa qs k os t a b at1 n i)) (n10:Ze Yir 86 [.sl k (pc os)] (.fresh 2 us.length (pc us))):Za Yir Zyj (Zdb qs k rs t) .norm (Zdb qs us.length us t):=(Za.seq (Za.go (t:=(dds 1 (vp qs::(dds 3 (.own 2 k (pc rs)::(bR t::(dds 18 (.dup 5::(dds 73 []))))))))) Zq 400 [.b true] [1,5,6,25] (ac c1 a0)) (Za.block_norm (Za.seq (Za.go (t:=(dds 1 (vp qs::(dds 3 (.own 2 k (pc rs)::(bR t::(bR (rs.getD (Int.toNat (i64.wrap ((k:Int)-1))) z0)::(dds 17 (.dup 5::(dds 4 (.dup 5::(.dup 5::(dds 2 (.ptr 5 (Int.toNat (i64.wrap ((k:Int)-1))*2)::(dds 64 []))))))))))))))) Zq 400 [.v (Zt (rs.getD (Int.toNat (i64.wrap ((k:Int)-1))) z0))] [1,5,6,7,25,30,31,34] (ac n1 (ac (Vv n2 n1) a0))) (Za.seq (Za.go (t:=(dds 1 (vp qs::(dds 3 (.own 2 k (pc rs)::(bR t::(bR (rs.getD (Int.toNat (i64.wrap ((k:Int)-1))) z0)::(bN g::(dds 16 (.dup 5::(dds 4 (.dup 5::(.dup 5::(dds 2 (.ptr 5 (Int.toNat (i64.wrap ((k:Int)-1))*2)::(dds 64 [])))))))))))))))) Zq 400 [.r (Zl g)] [1,5,6,7,8,25,30,31,34] (ac n3 a0)) (Za.seq (Za.go (t:=(dds 1 (vp qs::(dds 3 (.own 2 k (pc rs)::(bR t::(bR (rs.getD (Int.toNat (i64.wrap ((k:Int)-1))) z0)::(bN g::(bN x::(dds 15 (.dup 5::(dds 4 (.dup 5::(.dup 5::(dds 2 (.ptr 5 (Int.toNat (i64.wrap ((k:Int)-1))*2)::(dds 64 []))))))))))))))))) Zq 400 [.r (Zl ab), .r (.tup [Zl x,Zl r1])] [1,5,6,7,8,9,25,30,31,34] (ac n4 (ac n5 a0))) (Za.seq (Za.go (t:=(dds 1 (vp qs::(dds 3 (.own 2 k (pc rs)::(bR t::(dds 2 (bN x::(dds 1 (bN y::(dds 13 (.dup 5::(dds 4 (.dup 5::(.dup 5::(dds 2 (.ptr 5 (Int.toNat (i64.wrap ((k:Int)-1))*2)::(dds 64 [])))))))))))))))))) Zq 400 [.r (.tup [Zl y,Zl r2])] [1,5,6,9,11,25,30,31,34] (ac n6 a0)) (Za.seq (Za.go (t:=(dds 1 (vp qs::(dds 3 (.own 2 k (pc rs)::(bR t::(dds 2 (bN x::(dds 1 (bN ny::(dds 13 (.dup 5::(dds 4 (.dup 5::(.dup 5::(dds 2 (.ptr 5 (Int.toNat (i64.wrap ((k:Int)-1))*2)::(dds 64 [])))))))))))))))))) Zq 400 [.r (.int .i64 s), .b true, .r (Zl ny)] [1,5,6,9,11,25,30,31,34] (ac n7 (ac c2 (ac n8 a0)))) (Za.seq (Za.go (t:=(dds 1 (vp qs::(dds 3 (.own 2 k (pc rs)::(bR t::(dds 2 (bN x::(dds 1 (bN ny::(dds 1 (vi (i64.wrap ((k:Int)-(qs.length:Int)))::(dds 11 (.dup 5::(dds 4 (.dup 5::(.dup 5::(dds 2 (.ptr 5 (Int.toNat (i64.wrap ((k:Int)-1))*2)::(dds 22 (.dup 5::(dds 41 [])))))))))))))))))))))) Zq 400 [] [1,5,6,9,11,13,25,30,31,34,57] a0) (Za.seq (Za.seq (Za.go Zq 400 [] [1,5,6,9,11,13,63,64] a0) (Za.block hl9)) (Za.go Zq 400 [.r (.fresh 2 us.length (pc us))] [1,5,6] (ac n10 a0)))))))))))
theorem Yk64_2 (qs:List Rn) (k:Nat) (rs:List Rn) (t:Rn) (os us:List Rn) (a b:Rn) (g ab x y r1 r2 s at1 n i:Int) (c1:(decide ((k:Int)≥(qs.length:Int)))=true) (c2:(decide (s<0))=false) (n1:0≤(i64.wrap ((k:Int)-1))∧(i64.wrap ((k:Int)-1))<(k:Int)) (n2:rs.length=k) (n3:Ze Yir 109 [Zt t,Zt (rs.getD (Int.toNat (i64.wrap ((k:Int)-1))) z0)] (Zl g)) (n4:Ze Yir 111 [Zt t] (Zl ab)) (n5:Ze Yir 110 [Zl ab,Zl g] (.tup [Zl x,Zl r1])) (n6:Ze Yir 110 [Zt (rs.getD (Int.toNat (i64.wrap ((k:Int)-1))) z0),Zl g] (.tup [Zl y,Zl r2])) (n7:Ze Yir 73 [Zt t] (.int .i64 s)) (hl8:Za Yir (.loop Pi) (Fa qs k rs t (cn x) (cn y) (i64.wrap ((k:Int)-(qs.length:Int))) (k:Int) 0) (.exit 2) (Fa qs k os t a b at1 n i)) (n9:Ze Yir 86 [.sl k (pc os)] (.fresh 2 us.length (pc us))):Za Yir Zyj (Zdb qs k rs t) .norm (Zdb qs us.length us t):=(Za.seq (Za.go (t:=(dds 1 (vp qs::(dds 3 (.own 2 k (pc rs)::(bR t::(dds 18 (.dup 5::(dds 73 []))))))))) Zq 400 [.b true] [1,5,6,25] (ac c1 a0)) (Za.block_norm (Za.seq (Za.go (t:=(dds 1 (vp qs::(dds 3 (.own 2 k (pc rs)::(bR t::(bR (rs.getD (Int.toNat (i64.wrap ((k:Int)-1))) z0)::(dds 17 (.dup 5::(dds 4 (.dup 5::(.dup 5::(dds 2 (.ptr 5 (Int.toNat (i64.wrap ((k:Int)-1))*2)::(dds 64 []))))))))))))))) Zq 400 [.v (Zt (rs.getD (Int.toNat (i64.wrap ((k:Int)-1))) z0))] [1,5,6,7,25,30,31,34] (ac n1 (ac (Vv n2 n1) a0))) (Za.seq (Za.go (t:=(dds 1 (vp qs::(dds 3 (.own 2 k (pc rs)::(bR t::(bR (rs.getD (Int.toNat (i64.wrap ((k:Int)-1))) z0)::(bN g::(dds 16 (.dup 5::(dds 4 (.dup 5::(.dup 5::(dds 2 (.ptr 5 (Int.toNat (i64.wrap ((k:Int)-1))*2)::(dds 64 [])))))))))))))))) Zq 400 [.r (Zl g)] [1,5,6,7,8,25,30,31,34] (ac n3 a0)) (Za.seq (Za.go (t:=(dds 1 (vp qs::(dds 3 (.own 2 k (pc rs)::(bR t::(bR (rs.getD (Int.toNat (i64.wrap ((k:Int)-1))) z0)::(bN g::(bN x::(dds 15 (.dup 5::(dds 4 (.dup 5::(.dup 5::(dds 2 (.ptr 5 (Int.toNat (i64.wrap ((k:Int)-1))*2)::(dds 64 []))))))))))))))))) Zq 400 [.r (Zl ab), .r (.tup [Zl x,Zl r1])] [1,5,6,7,8,9,25,30,31,34] (ac n4 (ac n5 a0))) (Za.seq (Za.go (t:=(dds 1 (vp qs::(dds 3 (.own 2 k (pc rs)::(bR t::(dds 2 (bN x::(dds 1 (bN y::(dds 13 (.dup 5::(dds 4 (.dup 5::(.dup 5::(dds 2 (.ptr 5 (Int.toNat (i64.wrap ((k:Int)-1))*2)::(dds 64 [])))))))))))))))))) Zq 400 [.r (.tup [Zl y,Zl r2])] [1,5,6,9,11,25,30,31,34] (ac n6 a0)) (Za.seq (Za.go (t:=(dds 1 (vp qs::(dds 3 (.own 2 k (pc rs)::(bR t::(dds 2 (bN x::(dds 1 (bN y::(dds 13 (.dup 5::(dds 4 (.dup 5::(.dup 5::(dds 2 (.ptr 5 (Int.toNat (i64.wrap ((k:Int)-1))*2)::(dds 64 [])))))))))))))))))) Zq 400 [.r (.int .i64 s), .b false] [1,5,6,9,11,25,30,31,34] (ac n7 (ac c2 a0))) (Za.seq (Za.go (t:=(dds 1 (vp qs::(dds 3 (.own 2 k (pc rs)::(bR t::(dds 2 (bN x::(dds 1 (bN y::(dds 1 (vi (i64.wrap ((k:Int)-(qs.length:Int)))::(dds 11 (.dup 5::(dds 4 (.dup 5::(.dup 5::(dds 2 (.ptr 5 (Int.toNat (i64.wrap ((k:Int)-1))*2)::(dds 22 (.dup 5::(dds 41 [])))))))))))))))))))))) Zq 400 [] [1,5,6,9,11,13,25,30,31,34,57] a0) (Za.seq (Za.seq (Za.go Zq 400 [] [1,5,6,9,11,13,63,64] a0) (Za.block hl8)) (Za.go Zq 400 [.r (.fresh 2 us.length (pc us))] [1,5,6] (ac n9 a0)))))))))))
theorem Zq1 (qs:List Rn) (k:Nat) (rs:List Rn) (t:Rn)  (c1:(decide ((k:Int)≥(qs.length:Int)))=false):Za Yir Zyj (Zdb qs k rs t) (.exit 0) (Zdb qs k rs t):=(Za.seq_out (Za.go Zq 400 [.b false] [1,5,6] (ac c1 a0)) (by intro e;cases e))
theorem Yrun64 (rs ss ps qs us:List Rn) (t:Rn) (k:Nat) (n1:Ze Yir 86 [.sl rs.length (pc rs)] (.fresh 2 ps.length (pc ps))) (n2:Ze Yir 86 [.sl ss.length (pc ss)] (.fresh 2 qs.length (pc qs))) (n3:0≤(i64.wrap ((qs.length:Int)-1))∧(i64.wrap ((qs.length:Int)-1))<(qs.length:Int)) (hl4:Za Yir (.loop Zyj) (Zdb qs ps.length ps (qs.getD (Int.toNat (i64.wrap ((qs.length:Int)-1))) z0)) (.exit 0) (Zdb qs k us t)):Ze Yir 64 [.sl rs.length (pc rs), .sl ss.length (pc ss)] (.fresh 2 k (pc us)):=Ze.of_bodyW (fn:=Yi64) (s:=(dds 4 (.own 2 k (pc us)::(dds 94 [])))) (ex := .ret) rfl rfl (Za.seq (Za.go (t:=(vp rs::(vp ss::(dds 2 (.own 2 0 []::(dds 94 [])))))) Zq 400 [] [0,1,4] a0) (Za.seq (Za.go (t:=(vp rs::(vp qs::(dds 2 (.own 2 0 []::(.own 2 ps.length (pc ps)::(dds 93 []))))))) Zq 400 [.r (.fresh 2 ps.length (pc ps)), .r (.fresh 2 qs.length (pc qs))] [0,1,4,5] (ac n1 (ac n2 a0))) (Za.seq (Za.go Zq 400 [.v (Zt (qs.getD (Int.toNat (i64.wrap ((qs.length:Int)-1))) z0))] [1,5,6] (ac n3 (ac (Qi n3) a0))) (Za.seq (Za.block hl4) (Za.go Zq 400 [] [4] a0))))) (by intro i e;cases e) rfl
def Zda (as1:List Rn) (bs:List Rn):Zk:=(dds 5 (.val (.sl as1.length (pc as1))::(.val (.sl bs.length (pc bs))::(dds 13 []))))
theorem Zq0 (as1:List Rn) (bs:List Rn) (us:List Rn) (c1:(decide ((bs.length:Int)>0))=true) (n1:Ze Yir 64 [.sl as1.length (pc as1), .sl bs.length (pc bs)] (.fresh 2 us.length (pc us))):Za Yir Zyi (Zda as1 bs) .norm (Zda bs us):=(Za.go Zq 400 [.b true, .r (.fresh 2 us.length (pc us))] [5,6] (ac c1 (ac n1 a0)))
theorem Zqz (as1:List Rn) (bs:List Rn)  (c1:(decide ((bs.length:Int)>0))=false):Za Yir Zyi (Zda as1 bs) (.exit 0) (Zda as1 bs):=(Za.go Zq 400 [.b false] [5,6] (ac c1 a0))
theorem Zlr (rs ss ps qs as1 bs ts:List Rn) (n1:Ze Yir 86 [.sl rs.length (pc rs)] (.fresh 2 ps.length (pc ps))) (n2:Ze Yir 86 [.sl ss.length (pc ss)] (.fresh 2 qs.length (pc qs))) (hl3:Za Yir (.loop Zyi) (Zda ps qs) (.exit 0) (Zda as1 bs)) (n4:Ze Yir 115 [.sl as1.length (pc as1)] (.fresh 2 ts.length (pc ts))):Ze Yir 65 [.sl rs.length (pc rs), .sl ss.length (pc ss)] (.fresh 2 ts.length (pc ts)):=Ze.of_bodyW (fn:=Zyu) (s:=(dds 4 (.own 2 ts.length (pc ts)::(dds 15 [])))) (ex := .ret) rfl rfl (Za.seq (Za.go (t:=(vp rs::(vp ss::(dds 2 (.own 2 0 []::(dds 15 [])))))) Zq 400 [] [0,1,4] a0) (Za.seq (Za.go Zq 400 [.r (.fresh 2 ps.length (pc ps)), .r (.fresh 2 qs.length (pc qs))] [5,6] (ac n1 (ac n2 a0))) (Za.seq (Za.block hl3) (Za.go Zq 400 [.r (.fresh 2 ts.length (pc ts))] [4] (ac n4 a0))))) (by intro i e;cases e) rfl
theorem Zlq (rs ss ps qs as1 bs:List Rn) (n1:Ze Yir 86 [.sl rs.length (pc rs)] (.fresh 2 ps.length (pc ps))) (n2:Ze Yir 86 [.sl ss.length (pc ss)] (.fresh 2 qs.length (pc qs))) (hl3:Za Yir (.loop Zyi) (Zda ps qs) (.exit 0) (Zda as1 bs)) (n4:Ze Yir 115 [.sl as1.length (pc as1)] (.sl as1.length (pc as1))):Ze Yir 65 [.sl rs.length (pc rs), .sl ss.length (pc ss)] (.sl as1.length (pc as1)):=Ze.of_bodyW (fn:=Zyu) (s:=(dds 4 (.val (.sl as1.length (pc as1))::(dds 15 [])))) (ex := .ret) rfl rfl (Za.seq (Za.go (t:=(vp rs::(vp ss::(dds 2 (.own 2 0 []::(dds 15 [])))))) Zq 400 [] [0,1,4] a0) (Za.seq (Za.go Zq 400 [.r (.fresh 2 ps.length (pc ps)), .r (.fresh 2 qs.length (pc qs))] [5,6] (ac n1 (ac n2 a0))) (Za.seq (Za.block hl3) (Za.go Zq 400 [.r (.sl as1.length (pc as1))] [4] (ac n4 a0))))) (by intro i e;cases e) rfl
def H2 (qs:List Rn) (k:Nat) (rs:List Rn) (t:Rn) (kq:Nat) (os:List Rn) (j:Int) (l:Rn) (n:Int) (i:Int):Zk:=(dds 1 (.val (.sl qs.length (pc qs))::(dds 3 (.own 2 k (pc rs)::(.box [.bool t.1, .sl t.2.length (lm t.2)]::(.own 2 kq (pc os)::(.val (.int .i64 j)::(.box [.bool l.1, .sl l.2.length (lm l.2)]::(dds 34 (.val (.int .i64 n)::(.val (.int .i64 i)::(dds 57 []))))))))))))
theorem Znw (qs:List Rn) (k:Nat) (rs:List Rn) (t:Rn) (kq:Nat) (os:List Rn) (j:Int) (l:Rn) (n:Int) (i:Int)  (c1:(decide (i<n))=true) (n1:0≤i∧i<(k:Int)) (n2:rs.length=k) (n3:Ze Yir 113 [Zt (rs.getD (Int.toNat i) z0),Zt t] (Zl ((Zn (rs.getD (Int.toNat i) z0))*(Zn t)))):Za Yir Nj (H2 qs k rs t kq os j l n i) .norm (H2 qs k (rs.set (Int.toNat i) (cn ((Zn (rs.getD (Int.toNat i) z0))*(Zn t)))) t kq os j l n (i64.wrap (i+1))):=(Za.go Zq 400 [.b true, .v (Zt (rs.getD (Int.toNat i) z0)), .r (Zl ((Zn (rs.getD (Int.toNat i) z0))*(Zn t))), .l (pc (rs.set (Int.toNat i) (cn ((Zn (rs.getD (Int.toNat i) z0))*(Zn t)))))] [1,5,6,7,8,9,44,45] (ac c1 (ac n1 (ac (Vv n2 n1) (ac n3 (ac n1 (ac (Wc (r:=cn ((Zn (rs.getD (Int.toNat i) z0))*(Zn t))) n2 n1) a0)))))))
theorem Znv (qs:List Rn) (k:Nat) (rs:List Rn) (t:Rn) (kq:Nat) (os:List Rn) (j:Int) (l:Rn) (n:Int) (i:Int)  (c1:(decide (i<n))=false):Za Yir Nj (H2 qs k rs t kq os j l n i) (.exit 2) (H2 qs k rs t kq os j l n i):=(Za.go Zq 400 [.b false] [1,5,6,7,8,9,44,45] (ac c1 a0))
def H1 (qs:List Rn) (k:Nat) (rs:List Rn) (t:Rn) (kq:Nat) (os:List Rn) (j:Int) (l:Rn) (n:Int) (i:Int):Zk:=(dds 1 (.val (.sl qs.length (pc qs))::(dds 3 (.own 2 k (pc rs)::(.box [.bool t.1, .sl t.2.length (lm t.2)]::(.own 2 kq (pc os)::(.val (.int .i64 j)::(.box [.bool l.1, .sl l.2.length (lm l.2)]::(dds 49 (.val (.int .i64 n)::(.val (.int .i64 i)::(dds 42 []))))))))))))
theorem Znu (qs:List Rn) (k:Nat) (rs:List Rn) (t:Rn) (kq:Nat) (os:List Rn) (j:Int) (l:Rn) (n:Int) (i:Int)  (c1:(decide (i<n))=true) (n1:0≤i∧i<(kq:Int)) (n2:os.length=kq) (n3:Ze Yir 113 [Zt (os.getD (Int.toNat i) z0),Zt t] (Zl ((Zn (os.getD (Int.toNat i) z0))*(Zn t)))):Za Yir Ni (H1 qs k rs t kq os j l n i) .norm (H1 qs k rs t kq (os.set (Int.toNat i) (cn ((Zn (os.getD (Int.toNat i) z0))*(Zn t)))) j l n (i64.wrap (i+1))):=(Za.go Zq 400 [.b true, .v (Zt (os.getD (Int.toNat i) z0)), .r (Zl ((Zn (os.getD (Int.toNat i) z0))*(Zn t))), .l (pc (os.set (Int.toNat i) (cn ((Zn (os.getD (Int.toNat i) z0))*(Zn t)))))] [1,5,6,7,8,9,59,60] (ac c1 (ac n1 (ac (Vv n2 n1) (ac n3 (ac n1 (ac (Wc (r:=cn ((Zn (os.getD (Int.toNat i) z0))*(Zn t))) n2 n1) a0)))))))
theorem Znt (qs:List Rn) (k:Nat) (rs:List Rn) (t:Rn) (kq:Nat) (os:List Rn) (j:Int) (l:Rn) (n:Int) (i:Int)  (c1:(decide (i<n))=false):Za Yir Ni (H1 qs k rs t kq os j l n i) (.exit 4) (H1 qs k rs t kq os j l n i):=(Za.go Zq 400 [.b false] [1,5,6,7,8,9,59,60] (ac c1 a0))
def H0 (qs:List Rn) (k:Nat) (rs:List Rn) (t:Rn) (kq:Nat) (os:List Rn) (j:Int) (l:Rn) (n:Int) (i:Int):Zk:=(dds 1 (.val (.sl qs.length (pc qs))::(dds 3 (.own 2 k (pc rs)::(.box [.bool t.1, .sl t.2.length (lm t.2)]::(.own 2 kq (pc os)::(.val (.int .i64 j)::(.box [.bool l.1, .sl l.2.length (lm l.2)]::(dds 68 (.val (.int .i64 n)::(.val (.int .i64 i)::(dds 23 []))))))))))))
theorem Zns (qs:List Rn) (k:Nat) (rs:List Rn) (t:Rn) (kq:Nat) (os:List Rn) (j:Int) (l:Rn) (n:Int) (i:Int)  (c1:(decide (i<n))=true) (n1:0≤(i64.wrap (j+i))∧(i64.wrap (j+i))<(k:Int)) (n2:rs.length=k) (n3:0≤i∧i<(qs.length:Int)) (n4:Ze Yir 113 [Zt l,Zt (qs.getD (Int.toNat i) z0)] (Zl ((Zn l)*(Zn (qs.getD (Int.toNat i) z0))))) (n5:Ze Yir 114 [Zt (rs.getD (Int.toNat (i64.wrap (j+i))) z0),Zl ((Zn l)*(Zn (qs.getD (Int.toNat i) z0)))] (Zl ((Zn (rs.getD (Int.toNat (i64.wrap (j+i))) z0))-((Zn l)*(Zn (qs.getD (Int.toNat i) z0)))))):Za Yir Nh (H0 qs k rs t kq os j l n i) .norm (H0 qs k (rs.set (Int.toNat (i64.wrap (j+i))) (cn ((Zn (rs.getD (Int.toNat (i64.wrap (j+i))) z0))-((Zn l)*(Zn (qs.getD (Int.toNat i) z0)))))) t kq os j l n (i64.wrap (i+1))):=(Za.go Zq 400 [.b true, .v (Zt (rs.getD (Int.toNat (i64.wrap (j+i))) z0)), .v (Zt (qs.getD (Int.toNat i) z0)), .r (Zl ((Zn l)*(Zn (qs.getD (Int.toNat i) z0)))), .r (Zl ((Zn (rs.getD (Int.toNat (i64.wrap (j+i))) z0))-((Zn l)*(Zn (qs.getD (Int.toNat i) z0))))), .l (pc (rs.set (Int.toNat (i64.wrap (j+i))) (cn ((Zn (rs.getD (Int.toNat (i64.wrap (j+i))) z0))-((Zn l)*(Zn (qs.getD (Int.toNat i) z0)))))))] [1,5,6,7,8,9,78,79] (ac c1 (ac n1 (ac (Vv n2 n1) (ac n3 (ac (Qi n3) (ac n4 (ac n5 (ac n1 (ac (Wc (r:=cn ((Zn (rs.getD (Int.toNat (i64.wrap (j+i))) z0))-((Zn l)*(Zn (qs.getD (Int.toNat i) z0))))) n2 n1) a0))))))))))
theorem Znr (qs:List Rn) (k:Nat) (rs:List Rn) (t:Rn) (kq:Nat) (os:List Rn) (j:Int) (l:Rn) (n:Int) (i:Int)  (c1:(decide (i<n))=false):Za Yir Nh (H0 qs k rs t kq os j l n i) (.exit 6) (H0 qs k rs t kq os j l n i):=(Za.go Zq 400 [.b false] [1,5,6,7,8,9,78,79] (ac c1 a0))
def Sr (qs:List Rn) (k:Nat) (rs:List Rn) (t:Rn) (kq:Nat) (os:List Rn) (j:Int):Zk:=(dds 1 (.val (.sl qs.length (pc qs))::(dds 3 (.own 2 k (pc rs)::(.box [.bool t.1, .sl t.2.length (lm t.2)]::(.own 2 kq (pc os)::(.val (.int .i64 j)::(dds 94 []))))))))
theorem Zvb (qs:List Rn) (k:Nat) (rs:List Rn) (t:Rn) (kq:Nat) (os:List Rn) (j:Int) (rs1 rs2 os1:List Rn) (m1 i1 m2 i2 m3 i3:Int) (c1:(decide (j≥0))=true) (n1:0≤(i64.wrap ((i64.wrap (j+(qs.length:Int)))-1))∧(i64.wrap ((i64.wrap (j+(qs.length:Int)))-1))<(k:Int)) (n2:rs.length=k) (hl3:Za Yir (.loop Nj) (H2 qs k rs t kq os j (rs.getD (Int.toNat (i64.wrap ((i64.wrap (j+(qs.length:Int)))-1))) z0) (k:Int) 0) (.exit 2) (H2 qs k rs1 t kq os j (rs.getD (Int.toNat (i64.wrap ((i64.wrap (j+(qs.length:Int)))-1))) z0) m1 i1)) (hl4:Za Yir (.loop Ni) (H1 qs k rs1 t kq os j (rs.getD (Int.toNat (i64.wrap ((i64.wrap (j+(qs.length:Int)))-1))) z0) (kq:Int) 0) (.exit 4) (H1 qs k rs1 t kq os1 j (rs.getD (Int.toNat (i64.wrap ((i64.wrap (j+(qs.length:Int)))-1))) z0) m2 i2)) (n5:0≤j∧j<(kq:Int)) (n6:os1.length=kq) (hl7:Za Yir (.loop Nh) (H0 qs k rs1 t kq (os1.set (Int.toNat j) (rs.getD (Int.toNat (i64.wrap ((i64.wrap (j+(qs.length:Int)))-1))) z0)) j (rs.getD (Int.toNat (i64.wrap ((i64.wrap (j+(qs.length:Int)))-1))) z0) (qs.length:Int) 0) (.exit 6) (H0 qs k rs2 t kq (os1.set (Int.toNat j) (rs.getD (Int.toNat (i64.wrap ((i64.wrap (j+(qs.length:Int)))-1))) z0)) j (rs.getD (Int.toNat (i64.wrap ((i64.wrap (j+(qs.length:Int)))-1))) z0) m3 i3)):Za Yir Ziz (Sr qs k rs t kq os j) .norm (Sr qs k rs2 t kq (os1.set (Int.toNat j) (rs.getD (Int.toNat (i64.wrap ((i64.wrap (j+(qs.length:Int)))-1))) z0)) (i64.wrap (j-1))):=(Za.seq (Za.go (t:=(dds 1 (vp qs::(dds 3 (.own 2 k (pc rs)::(bR t::(.own 2 kq (pc os)::(vi j::(dds 94 []))))))))) Zq 400 [.b true] [1,5,6,7,8] (ac c1 a0)) (Za.seq (Za.block_norm (Za.seq (Za.go (t:=(dds 1 (vp qs::(dds 3 (.own 2 k (pc rs)::(bR t::(.own 2 kq (pc os)::(vi j::(bR (rs.getD (Int.toNat (i64.wrap ((i64.wrap (j+(qs.length:Int)))-1))) z0)::(dds 93 [])))))))))) Zq 400 [.v (Zt (rs.getD (Int.toNat (i64.wrap ((i64.wrap (j+(qs.length:Int)))-1))) z0))] [1,5,6,7,8,9] (ac n1 (ac (Vv n2 n1) a0))) (Za.seq (Za.seq (Za.go Zq 400 [] [1,5,6,7,8,9,44,45] a0) (Za.block hl3)) (Za.seq (Za.seq (Za.go Zq 400 [] [1,5,6,7,8,9,59,60] a0) (Za.block hl4)) (Za.seq (Za.go (t:=(dds 1 (vp qs::(dds 3 (.own 2 k (pc rs1)::(bR t::(.own 2 kq (pc (os1.set (Int.toNat j) (rs.getD (Int.toNat (i64.wrap ((i64.wrap (j+(qs.length:Int)))-1))) z0)))::(vi j::(bR (rs.getD (Int.toNat (i64.wrap ((i64.wrap (j+(qs.length:Int)))-1))) z0)::(dds 93 [])))))))))) Zq 400 [.l (pc (os1.set (Int.toNat j) (rs.getD (Int.toNat (i64.wrap ((i64.wrap (j+(qs.length:Int)))-1))) z0)))] [1,5,6,7,8,9] (ac n5 (ac (Wc (r:=rs.getD (Int.toNat (i64.wrap ((i64.wrap (j+(qs.length:Int)))-1))) z0) n6 n5) a0))) (Za.seq (Za.go Zq 400 [] [1,5,6,7,8,9,78,79] a0) (Za.block hl7))))))) (Za.go Zq 400 [] [1,5,6,7,8] a0)))
theorem Zva (qs:List Rn) (k:Nat) (rs:List Rn) (t:Rn) (kq:Nat) (os:List Rn) (j:Int)  (c1:(decide (j≥0))=false):Za Yir Ziz (Sr qs k rs t kq os j) (.exit 0) (Sr qs k rs t kq os j):=(Za.seq_out (Za.go Zq 400 [.b false] [1,5,6,7,8] (ac c1 a0)) (by intro e;cases e))
theorem Zsv (rs qs ps us xs os:List Rn) (t:Rn) (k kq:Nat) (j:Int) (n1:Ze Yir 92 [.sl rs.length (pc rs)] (.fresh 2 ps.length (pc ps))) (n2:0≤(i64.wrap ((qs.length:Int)-1))∧(i64.wrap ((qs.length:Int)-1))<(qs.length:Int)) (n3:0≤(i64.wrap ((i64.wrap ((ps.length:Int)-(qs.length:Int)))+1))∧(i64.wrap ((i64.wrap ((ps.length:Int)-(qs.length:Int)))+1))≤1048576) (hl4:Za Yir (.loop Ziz) ((dds 1 (.val (.sl qs.length (pc qs))::(dds 3 (.own 2 ps.length (pc ps)::(.box [.bool ((qs.getD (Int.toNat (i64.wrap ((qs.length:Int)-1))) z0).1), .sl ((qs.getD (Int.toNat (i64.wrap ((qs.length:Int)-1))) z0).2.length) (lm (qs.getD (Int.toNat (i64.wrap ((qs.length:Int)-1))) z0).2)]::(.own 2 (Int.toNat (i64.wrap ((i64.wrap ((ps.length:Int)-(qs.length:Int)))+1))) (Q7 [.bool false, .sl 0 []] (Int.toNat (i64.wrap ((i64.wrap ((ps.length:Int)-(qs.length:Int)))+1))))::(.val (.int .i64 (i64.wrap ((((Int.toNat (i64.wrap ((i64.wrap ((ps.length:Int)-(qs.length:Int)))+1))):Nat):Int)-1)))::(dds 94 []))))))))) (.exit 0) (Sr qs k xs t kq os j)) (n5:Ze Yir 86 [.sl kq (pc os)] (.fresh 2 us.length (pc us))):Ze Yir 116 [.sl rs.length (pc rs), .sl qs.length (pc qs)] (.fresh 2 us.length (pc us)):=Ze.of_bodyW (fn:=Zif) (s:=(dds 4 (.own 2 us.length (pc us)::(dds 98 [])))) (ex := .ret) rfl rfl (Za.seq (Za.go (t:=(vp rs::(vp qs::(dds 2 (.own 2 0 []::(dds 98 [])))))) Zq 400 [] [0,1,4] a0) (Za.seq (Za.go (t:=(vp rs::(vp qs::(dds 2 (.own 2 0 []::(.own 2 ps.length (pc ps)::(dds 97 []))))))) Zq 400 [.r (.fresh 2 ps.length (pc ps))] [0,1,4,5] (ac n1 a0)) (Za.seq (Za.go (t:=(vp rs::(vp qs::(dds 2 (.own 2 0 []::(.own 2 ps.length (pc ps)::(bR (qs.getD (Int.toNat (i64.wrap ((qs.length:Int)-1))) z0)::(dds 96 [])))))))) Zq 400 [.v (Zt (qs.getD (Int.toNat (i64.wrap ((qs.length:Int)-1))) z0))] [0,1,4,5,6] (ac n2 (ac (Qi n2) a0))) (Za.seq (Za.go (t:=(vp rs::(vp qs::(dds 2 (.own 2 0 []::(.own 2 ps.length (pc ps)::(bR (qs.getD (Int.toNat (i64.wrap ((qs.length:Int)-1))) z0)::(.own 2 (Int.toNat (i64.wrap ((i64.wrap ((ps.length:Int)-(qs.length:Int)))+1))) (Q7 [.bool false, .sl 0 []] (Int.toNat (i64.wrap ((i64.wrap ((ps.length:Int)-(qs.length:Int)))+1))))::(dds 95 []))))))))) Zq 400 [] [0,1,4,5,6,7] (ac n3 a0)) (Za.seq (Za.seq (Za.go Zq 400 [] [1,5,6,7,8] a0) (Za.block hl4)) (Za.go Zq 400 [.r (.fresh 2 us.length (pc us))] [4] (ac n5 a0))))))) (by intro i e;cases e) rfl
theorem S9 (rs ps xs:List Rn) (c1:(decide ((xs.length:Int)<2))=true) (n1:Ze Yir 86 [.sl rs.length (pc rs)] (.fresh 2 ps.length (pc ps))) (n2:Ze Yir 115 [.sl ps.length (pc ps)] (.fresh 2 xs.length (pc xs))):Ze Yir 66 [.sl rs.length (pc rs)] (.sl xs.length (pc xs)):=Ze.go (fn:=Za7) Zq rfl 400 rfl [.r (.fresh 2 ps.length (pc ps)), .r (.fresh 2 xs.length (pc xs)), .b true] (ac n1 (ac n2 (ac c1 a0)))
theorem S8 (rs ps xs ds gs:List Rn) (c1:(decide ((xs.length:Int)<2))=false) (c2:(decide ((gs.length:Int)<2))=true) (n1:Ze Yir 86 [.sl rs.length (pc rs)] (.fresh 2 ps.length (pc ps))) (n2:Ze Yir 115 [.sl ps.length (pc ps)] (.fresh 2 xs.length (pc xs))) (n3:Ze Yir 75 [.sl xs.length (pc xs)] (.fresh 2 ds.length (pc ds))) (n4:Ze Yir 65 [.sl xs.length (pc xs), .sl ds.length (pc ds)] (.fresh 2 gs.length (pc gs))):Ze Yir 66 [.sl rs.length (pc rs)] (.sl xs.length (pc xs)):=Ze.go (fn:=Za7) Zq rfl 400 rfl [.r (.fresh 2 ps.length (pc ps)), .r (.fresh 2 xs.length (pc xs)), .b false, .r (.fresh 2 ds.length (pc ds)), .r (.fresh 2 gs.length (pc gs)), .b true] (ac n1 (ac n2 (ac c1 (ac n3 (ac n4 (ac c2 a0))))))
theorem S7 (rs ps xs ds gs us:List Rn) (c1:(decide ((xs.length:Int)<2))=false) (c2:(decide ((gs.length:Int)<2))=false) (n1:Ze Yir 86 [.sl rs.length (pc rs)] (.fresh 2 ps.length (pc ps))) (n2:Ze Yir 115 [.sl ps.length (pc ps)] (.fresh 2 xs.length (pc xs))) (n3:Ze Yir 75 [.sl xs.length (pc xs)] (.fresh 2 ds.length (pc ds))) (n4:Ze Yir 65 [.sl xs.length (pc xs), .sl ds.length (pc ds)] (.fresh 2 gs.length (pc gs))) (n5:Ze Yir 116 [.sl xs.length (pc xs), .sl gs.length (pc gs)] (.fresh 2 us.length (pc us))):Ze Yir 66 [.sl rs.length (pc rs)] (.fresh 2 us.length (pc us)):=Ze.go (fn:=Za7) Zq rfl 400 rfl [.r (.fresh 2 ps.length (pc ps)), .r (.fresh 2 xs.length (pc xs)), .b false, .r (.fresh 2 ds.length (pc ds)), .r (.fresh 2 gs.length (pc gs)), .b false, .r (.fresh 2 us.length (pc us))] (ac n1 (ac n2 (ac c1 (ac n3 (ac n4 (ac c2 (ac n5 a0)))))))
theorem S6 (rs ps xs ds gs:List Rn) (c1:(decide ((xs.length:Int)<2))=false) (c2:(decide ((gs.length:Int)<2))=true) (n1:Ze Yir 86 [.sl rs.length (pc rs)] (.fresh 2 ps.length (pc ps))) (n2:Ze Yir 115 [.sl ps.length (pc ps)] (.fresh 2 xs.length (pc xs))) (n3:Ze Yir 75 [.sl xs.length (pc xs)] (.fresh 2 ds.length (pc ds))) (n4:Ze Yir 65 [.sl xs.length (pc xs), .sl ds.length (pc ds)] (.sl gs.length (pc gs))):Ze Yir 66 [.sl rs.length (pc rs)] (.sl xs.length (pc xs)):=Ze.go (fn:=Za7) Zq rfl 400 rfl [.r (.fresh 2 ps.length (pc ps)), .r (.fresh 2 xs.length (pc xs)), .b false, .r (.fresh 2 ds.length (pc ds)), .r (.sl gs.length (pc gs)), .b true] (ac n1 (ac n2 (ac c1 (ac n3 (ac n4 (ac c2 a0))))))
theorem S5 (rs ps xs ds gs us:List Rn) (c1:(decide ((xs.length:Int)<2))=false) (c2:(decide ((gs.length:Int)<2))=false) (n1:Ze Yir 86 [.sl rs.length (pc rs)] (.fresh 2 ps.length (pc ps))) (n2:Ze Yir 115 [.sl ps.length (pc ps)] (.fresh 2 xs.length (pc xs))) (n3:Ze Yir 75 [.sl xs.length (pc xs)] (.fresh 2 ds.length (pc ds))) (n4:Ze Yir 65 [.sl xs.length (pc xs), .sl ds.length (pc ds)] (.sl gs.length (pc gs))) (n5:Ze Yir 116 [.sl xs.length (pc xs), .sl gs.length (pc gs)] (.fresh 2 us.length (pc us))):Ze Yir 66 [.sl rs.length (pc rs)] (.fresh 2 us.length (pc us)):=Ze.go (fn:=Za7) Zq rfl 400 rfl [.r (.fresh 2 ps.length (pc ps)), .r (.fresh 2 xs.length (pc xs)), .b false, .r (.fresh 2 ds.length (pc ds)), .r (.sl gs.length (pc gs)), .b false, .r (.fresh 2 us.length (pc us))] (ac n1 (ac n2 (ac c1 (ac n3 (ac n4 (ac c2 (ac n5 a0)))))))
theorem S4 (rs ps ds gs:List Rn) (c1:(decide ((ps.length:Int)<2))=false) (c2:(decide ((gs.length:Int)<2))=true) (n1:Ze Yir 86 [.sl rs.length (pc rs)] (.fresh 2 ps.length (pc ps))) (n2:Ze Yir 115 [.sl ps.length (pc ps)] (.sl ps.length (pc ps))) (n3:Ze Yir 75 [.sl ps.length (pc ps)] (.fresh 2 ds.length (pc ds))) (n4:Ze Yir 65 [.sl ps.length (pc ps), .sl ds.length (pc ds)] (.fresh 2 gs.length (pc gs))):Ze Yir 66 [.sl rs.length (pc rs)] (.sl ps.length (pc ps)):=Ze.go (fn:=Za7) Zq rfl 400 rfl [.r (.fresh 2 ps.length (pc ps)), .r (.sl ps.length (pc ps)), .b false, .r (.fresh 2 ds.length (pc ds)), .r (.fresh 2 gs.length (pc gs)), .b true] (ac n1 (ac n2 (ac c1 (ac n3 (ac n4 (ac c2 a0))))))
theorem S3 (rs ps ds gs us:List Rn) (c1:(decide ((ps.length:Int)<2))=false) (c2:(decide ((gs.length:Int)<2))=false) (n1:Ze Yir 86 [.sl rs.length (pc rs)] (.fresh 2 ps.length (pc ps))) (n2:Ze Yir 115 [.sl ps.length (pc ps)] (.sl ps.length (pc ps))) (n3:Ze Yir 75 [.sl ps.length (pc ps)] (.fresh 2 ds.length (pc ds))) (n4:Ze Yir 65 [.sl ps.length (pc ps), .sl ds.length (pc ds)] (.fresh 2 gs.length (pc gs))) (n5:Ze Yir 116 [.sl ps.length (pc ps), .sl gs.length (pc gs)] (.fresh 2 us.length (pc us))):Ze Yir 66 [.sl rs.length (pc rs)] (.fresh 2 us.length (pc us)):=Ze.go (fn:=Za7) Zq rfl 400 rfl [.r (.fresh 2 ps.length (pc ps)), .r (.sl ps.length (pc ps)), .b false, .r (.fresh 2 ds.length (pc ds)), .r (.fresh 2 gs.length (pc gs)), .b false, .r (.fresh 2 us.length (pc us))] (ac n1 (ac n2 (ac c1 (ac n3 (ac n4 (ac c2 (ac n5 a0)))))))
theorem S0 (rs ps:List Rn) (c1:(decide ((ps.length:Int)<2))=true) (n1:Ze Yir 86 [.sl rs.length (pc rs)] (.fresh 2 ps.length (pc ps))) (n2:Ze Yir 115 [.sl ps.length (pc ps)] (.sl ps.length (pc ps))):Ze Yir 66 [.sl rs.length (pc rs)] (.sl ps.length (pc ps)):=Ze.go (fn:=Za7) Zq rfl 400 rfl [.r (.fresh 2 ps.length (pc ps)), .r (.sl ps.length (pc ps)), .b true] (ac n1 (ac n2 (ac c1 a0)))
theorem Sz (rs ps ds gs:List Rn) (c1:(decide ((ps.length:Int)<2))=false) (c2:(decide ((gs.length:Int)<2))=true) (n1:Ze Yir 86 [.sl rs.length (pc rs)] (.fresh 2 ps.length (pc ps))) (n2:Ze Yir 115 [.sl ps.length (pc ps)] (.sl ps.length (pc ps))) (n3:Ze Yir 75 [.sl ps.length (pc ps)] (.fresh 2 ds.length (pc ds))) (n4:Ze Yir 65 [.sl ps.length (pc ps), .sl ds.length (pc ds)] (.sl gs.length (pc gs))):Ze Yir 66 [.sl rs.length (pc rs)] (.sl ps.length (pc ps)):=Ze.go (fn:=Za7) Zq rfl 400 rfl [.r (.fresh 2 ps.length (pc ps)), .r (.sl ps.length (pc ps)), .b false, .r (.fresh 2 ds.length (pc ds)), .r (.sl gs.length (pc gs)), .b true] (ac n1 (ac n2 (ac c1 (ac n3 (ac n4 (ac c2 a0))))))
theorem Sy (rs ps ds gs us:List Rn) (c1:(decide ((ps.length:Int)<2))=false) (c2:(decide ((gs.length:Int)<2))=false) (n1:Ze Yir 86 [.sl rs.length (pc rs)] (.fresh 2 ps.length (pc ps))) (n2:Ze Yir 115 [.sl ps.length (pc ps)] (.sl ps.length (pc ps))) (n3:Ze Yir 75 [.sl ps.length (pc ps)] (.fresh 2 ds.length (pc ds))) (n4:Ze Yir 65 [.sl ps.length (pc ps), .sl ds.length (pc ds)] (.sl gs.length (pc gs))) (n5:Ze Yir 116 [.sl ps.length (pc ps), .sl gs.length (pc gs)] (.fresh 2 us.length (pc us))):Ze Yir 66 [.sl rs.length (pc rs)] (.fresh 2 us.length (pc us)):=Ze.go (fn:=Za7) Zq rfl 400 rfl [.r (.fresh 2 ps.length (pc ps)), .r (.sl ps.length (pc ps)), .b false, .r (.fresh 2 ds.length (pc ds)), .r (.sl gs.length (pc gs)), .b false, .r (.fresh 2 us.length (pc us))] (ac n1 (ac n2 (ac c1 (ac n3 (ac n4 (ac c2 (ac n5 a0)))))))
def TMA:Jx:=TRB
theorem Zi8:Q1 Yir TMA:=Zq
end Go.Proofs.Ythnnfemologhfaa

namespace Go.Ai
open Go.IntKind (i64 u64 u32)
theorem Zep (c:Nat) (hc:1<c):∃ p,1<p∧p∣c∧∀ d,d∣p→d=1∨d=p:=by
 have h:∀ n,∀ m,m≤n→1<m→m∣c→∃ p,1<p∧p∣c∧∀ d,d∣p→d=1∨d=p:=by
  intro n
  induction n with
  | zero=>intro m h1 h2;omega
  | succ n ih =>
   intro m h1 h2 h3
   by_cases h:∀ d,d∣m→d=1∨d=m
   ·exact⟨m,h2,h3,h⟩
   ·obtain⟨d,hd⟩:=Classical.not_forall.1 h
    obtain⟨hd1,hd2⟩:=Classical.not_imp.1 hd
    have h5:=Nat.le_of_dvd (by omega) hd1
    have h6:d ≠ 0:=by intro h0;subst h0;have:=Nat.zero_dvd.1 hd1;omega
    exact ih d (by omega) (by omega) (Nat.dvd_trans hd1 h3)
 exact h c c (Nat.le_refl _) hc (Nat.dvd_refl _)
theorem Zd3 {p:Nat} (hp:∀ d,d∣p→d=1∨d=p) {a b:Int} (h:(p:Int)∣a*b):(p:Int)∣a∨(p:Int)∣b:=by
 rcases hp (Nat.gcd p a.natAbs) (Nat.gcd_dvd_left _ _) with g | g
 ·right
  have h1:p∣a.natAbs*b.natAbs:=by rw[← Int.natAbs_mul];exact Int.ofNat_dvd_left.1 h
  exact Int.ofNat_dvd_left.2 (Nat.Coprime.dvd_of_dvd_mul_left g h1)
 ·left
  have:p∣a.natAbs:=by rw[← g];exact Nat.gcd_dvd_right _ _
  exact Int.ofNat_dvd_left.2 this
theorem B6 (g:List Int) (b:Int) (k:List Int) (i:Nat):(Ut g (b::k)).getD i 0=b*g.getD i 0+(Vr 1 (Ut g k)).getD i 0:=by
 have h:=Uf (p:=Ut g (b::k)) (q:=Bc (Zy b g) (Vr 1 (Ut g k))) (fun x=>by
  rw[Qb,Jh,Zr,V8,Qb]
  simp only[Zg,Int.pow_succ,Int.pow_zero]
  grind) i
 rw[h,X8,Z6]
theorem Ao {p:Nat} (hp:∀ d,d∣p→d=1∨d=p):∀ (g k:List Int),(∀ i,(p:Int)∣(Ut g k).getD i 0)→(¬ ∀ i,(p:Int)∣g.getD i 0)→∀ i,(p:Int)∣k.getD i 0
 | [],k,_,h=>absurd (fun i=>by simp) h
 | a::g,k,h,hn=>by
  by_cases ha:(p:Int)∣a
  ·refine Ao hp g k (fun i => ?_) (fun h2=>hn fun i => ?_)
   ·have h1:=h (i+1)
    rw[Xn,Jl,if_pos (by omega)] at h1
    exact (Int.dvd_add_right (Int.dvd_trans ha (Int.dvd_mul_right _ _))).1 h1
   ·cases i with
    | zero=>simpa using ha
    | succ i=>simpa using h2 i
  ·clear hn
   induction k with
   | nil=>intro i;simp
   | cons b k ih =>
    have h0:=h 0
    rw[Xn,Jl,if_neg (by omega),Int.add_zero] at h0
    have hb:(p:Int)∣b:=by
     rcases Zd3 hp h0 with g1 | g1
     ·exact absurd g1 ha
     ·simpa using g1
    have h2:=ih (fun i=>by
     have h1:=h (i+1)
     rw[B6,Jl,if_pos (by omega)] at h1
     exact (Int.dvd_add_right (Int.dvd_trans hb (Int.dvd_mul_right _ _))).1 h1)
    intro i
    cases i with
    | zero=>simpa using hb
    | succ i=>simpa using h2 i
theorem gauss {g : List Int} (hg :   Jc g = 1) : ∀ (c : Nat) (k : List Int), 0 < c → (∀ i, (c : Int) ∣ (  Ut g k).getD i 0) → ∀ i, (c : Int) ∣ k.getD i 0 := by
  intro c
  induction c using Nat.strongRecOn with
  | ind c ih =>
    intro k hc h
    by_cases h1 : c = 1
    · intro i; rw [h1]; exact Int.one_dvd _
    · obtain ⟨p, p1, ⟨d, hd⟩, p3⟩ :=       Zep c (by omega)
      have hd0 : 0 < d := by rcases Nat.eq_zero_or_pos d with g | g
                             · rw [g, Nat.mul_zero] at hd; omega
                             · exact g
      have hdc : d < c := by rw [hd]; exact (Nat.lt_mul_iff_one_lt_left hd0).2 p1
      have hpk :=          Ao p3 g k (fun i => Int.dvd_trans ⟨(d : Int), by rw [hd]; push_cast; rfl⟩ (h i)) (fun h2 => by
        have := (      Hi p g).2 h2
        rw [hg] at this
        have := Nat.le_of_dvd (by decide) this
        omega)
      have hk :    Zy (p : Int) (k.map fun x => x / (p : Int)) = k := by
        apply       Hf (by simp [   Zy])
        intro i
        rw [        Z6]
        have e : (k.map fun x => x / (p : Int)).getD i 0 = k.getD i 0 / (p : Int) := by
          simp only [List.getD_eq_getElem?_getD, List.getElem?_map]
          cases k[i]? <;> simp
        rw [e]
        exact Int.mul_ediv_cancel' (hpk i)
      generalize k.map (fun x => x / (p : Int)) = k1 at hk
      subst hk
      have h3 := ih d hdc k1 hd0 (fun i => by
        have h2 := h i
        have e : (  Ut g (   Zy (p : Int) k1)).getD i 0 = (p : Int) * (  Ut g k1).getD i 0 := by
          rw [←         Z6]
          exact         Uf (fun x => by rw [        Qb,          Zr,          Zr,         Qb]; grind) i
        rw [e, hd, Int.natCast_mul] at h2
        exact Int.dvd_of_mul_dvd_mul_left (by omega) h2)
      intro i
      rw [        Z6, hd, Int.natCast_mul]
      exact Int.mul_dvd_mul_left _ (h3 i)
def syn:List Int→Int→List Int
 | [],_=>[]
 | _::p,a=>Bc p (Zy a (syn p a))
theorem D7:∀ (p:List Int) (a x:Int),Zg p x-Zg p a=(x-a)*Zg (syn p a) x
 | [],a,x=>by simp[syn,Zg]
 | c::p,a,x=>by
  have ih:=D7 p a x
  simp only[syn,Zg]
  rw[Jh,Zr]
  grind
theorem P2:∀ (p:List Int) (a:Int),(syn p a).length≤p.length-1
 | [],a=>by simp[syn]
 | c::p,a=>by
  have ih:=P2 p a
  have:=Zkc p (Zy a (syn p a))
  rw[Zw] at this
  simp only[syn,List.length_cons]
  omega
theorem Tx (p:List Int) (a:Int) (i:Nat):p.getD i 0=(Zg p a::syn p a).getD i 0-a*(syn p a).getD i 0:=by
 have h:=Uf (p:=p) (q:=Zbn (Zg p a::syn p a) (Zy a (syn p a))) (fun x=>by
  rw[Xz,Zr]
  simp only[Zg]
  have:=D7 p a x
  grind) i
 rw[h,Am,Z6]
theorem Zdv:∀ (n:Nat) (p:List Int) (l:List Int),p.length≤n→l.Nodup→(∀ x∈l,Zg p x=0)→n≤l.length→∀ i,p.getD i 0=0:=by
 intro n
 induction n with
 | zero =>
  intro p l h _ _ _ i
  rw[List.eq_nil_of_length_eq_zero (by omega:p.length=0)];simp
 | succ n ih =>
  intro p l h1 h2 h3 h4 i
  cases l with
  | nil=>simp at h4
  | cons a l =>
   have ha:=h3 a List.mem_cons_self
   have hq:=ih (syn p a) l (by have:=P2 p a;omega) (List.nodup_cons.1 h2).2 (fun x hx=>by
    have h5:=D7 p a x
    rw[ha,h3 x (List.mem_cons_of_mem _ hx)] at h5
    rcases Int.mul_eq_zero.1 (h5.symm.trans (by omega)) with g | g
    ·have hxa:x=a:=by omega
     subst hxa
     exact absurd hx (List.nodup_cons.1 h2).1
    ·exact g) (by simp at h4;omega)
   rw[Tx p a i,ha,hq i]
   cases i with
   | zero=>simp
   | succ i=>simpa using hq i
theorem Za9 {R:Nat}:∀ (n:Nat) (g:List Int) (l:List Int) (M:Nat),g.length≤n+1→l.Nodup→l.length=n+1→(∀ x∈l,x.natAbs≤R∧(Zg g x).natAbs≤M)→(∀ x∈l,∀ y∈l,x ≠ y→1≤(x-y).natAbs)→∀ i,(g.getD i 0).natAbs≤M*(2*R+3)^n:=by
 intro n
 induction n with
 | zero =>
  intro g l M h1 h2 h3 h4 _ i
  cases l with
  | nil=>simp at h3
  | cons a l =>
   have ha:=h4 a List.mem_cons_self
   cases g with
   | nil=>simp
   | cons c g =>
    have:g=[]:=by simpa using h1
    subst this
    simp only[Zg,Int.mul_zero,Int.add_zero] at ha
    rw[Nat.pow_zero,Nat.mul_one]
    cases i with
    | zero=>simpa using ha.2
    | succ i=>simp
 | succ n ih =>
  intro g l M h1 h2 h3 h4 h6 i
  cases l with
  | nil=>simp at h3
  | cons a l =>
   obtain⟨ha1,ha2⟩:=h4 a List.mem_cons_self
   have hq:=ih (syn g a) l (2*M) (by have:=P2 g a;omega) (List.nodup_cons.1 h2).2 (by simpa using h3) (fun x hx=>by
    obtain⟨hx1,hx2⟩:=h4 x (List.mem_cons_of_mem _ hx)
    refine⟨hx1,?_⟩
    have h5:=congrArg Int.natAbs (D7 g a x)
    rw[Int.natAbs_mul] at h5
    have hne:x ≠ a:=by intro e;subst e;exact absurd hx (List.nodup_cons.1 h2).1
    have h7:1≤(x-a).natAbs:=by omega
    have h8:=Nat.le_mul_of_pos_left (Zg (syn g a) x).natAbs h7
    have h9:(Zg g x-Zg g a).natAbs≤2*M:=by omega
    omega) (fun x hx y hy=>h6 x (List.mem_cons_of_mem _ hx) y (List.mem_cons_of_mem _ hy))
   rw[Tx g a i]
   have hX:1≤(2*R+3)^n:=Nat.pow_pos (by omega)
   have e1:M*(2*R+3)^(n+1)=R*(2*M*(2*R+3)^n)+2*M*(2*R+3)^n+M*(2*R+3)^n:=by rw[Nat.pow_succ];grind
   have e2:M*1≤M*(2*R+3)^n:=Nat.mul_le_mul_left _ hX
   have b1:=hq i
   have b2:(a*(syn g a).getD i 0).natAbs≤R*(2*M*(2*R+3)^n):=by rw[Int.natAbs_mul];exact Nat.mul_le_mul ha1 b1
   have b3:((Zg g a::syn g a).getD i 0).natAbs≤2*M*(2*R+3)^n+M*(2*R+3)^n:=by
    cases i with
    | zero=>simp only[List.getD_cons_zero];omega
    | succ i=>have:=hq i;simp only[List.getD_cons_succ];omega
   rw[e1]
   generalize R*(2*M*(2*R+3)^n)=A at *
   generalize 2*M*(2*R+3)^n=B at *
   generalize M*(2*R+3)^n=C at *
   omega
theorem Zab {R B:Nat}:∀ (t:List Int) (x:Int),(∀ i,(t.getD i 0).natAbs≤B)→x.natAbs≤R→(Zg t x).natAbs≤B*(R+1)^t.length
 | [],x,_,_=>by simp[Zg]
 | c::t,x,h,hx=>by
  have ih:=Zab t x (fun i=>by simpa using h (i+1)) hx
  have h0:c.natAbs≤B:=by simpa using h 0
  simp only[Zg,List.length_cons]
  have h1:(x*Zg t x).natAbs≤R*(B*(R+1)^t.length):=by rw[Int.natAbs_mul];exact Nat.mul_le_mul hx ih
  have h2:B*1≤B*(R+1)^t.length:=Nat.mul_le_mul_left _ (Nat.pow_pos (by omega))
  have e:B*(R+1)^(t.length+1)=R*(B*(R+1)^t.length)+B*(R+1)^t.length:=by rw[Nat.pow_succ];grind
  rw[e]
  generalize R*(B*(R+1)^t.length)=X at *
  omega
theorem Zke {t:List Int} {n:Nat} (ht:Zc t ≠ []) (hl:t.length≤n+1):∃ l:List Int,l.Nodup∧l.length=n+1∧∀ x∈l,x.natAbs≤2*n∧Zg t x ≠ 0:=by
 have hnd:((List.range (2*n+1)).map fun i:Nat=>(i:Int)).Nodup:=by
  rw[List.nodup_iff_pairwise_ne,List.pairwise_map]
  exact (List.nodup_iff_pairwise_ne.1 List.nodup_range).imp (fun h=>by omega)
 have hmem:∀ x∈(List.range (2*n+1)).map fun i:Nat=>(i:Int),x.natAbs≤2*n:=by
  intro x hx
  obtain⟨i,hi,rfl⟩:=List.mem_map.1 hx
  have:=List.mem_range.1 hi
  omega
 have hlen:((List.range (2*n+1)).map fun i:Nat=>(i:Int)).length=2*n+1:=by simp
 generalize ((List.range (2*n+1)).map fun i:Nat=>(i:Int))=L at *
 have hsum:=List.length_eq_countP_add_countP (fun x=>decide (Zg t x=0)) (l:=L)
 rw[List.countP_eq_length_filter,List.countP_eq_length_filter] at hsum
 have hA:(L.filter fun x=>decide (Zg t x=0)).length≤n:=by
  apply Nat.le_of_not_lt
  intro h
  apply ht
  rw[Xa]
  exact Zdv (n+1) t (L.filter fun x=>decide (Zg t x=0)) hl (hnd.filter _) (fun x hx=>by simpa using (List.mem_filter.1 hx).2) (by omega)
 refine⟨(L.filter fun x=>decide ¬ (decide (Zg t x=0))=true).take (n+1),(hnd.filter _).sublist (List.take_sublist _ _),?_,?_⟩
 ·rw[List.length_take];omega
 ·intro x hx
  obtain⟨h1,h2⟩:=List.mem_filter.1 (List.mem_of_mem_take hx)
  exact⟨hmem x h1,by simpa using h2⟩
theorem N8 {t g k:List Int} {K:Nat} (ht:Zc t ≠ []) (hl:t.length≤9) (hg:g.length≤9) (hK:Kb K t) (h:∀ x,Zg t x=Zg g x*Zg k x):Kb (K+3) g:=by
 obtain⟨l,l1,l2,l3⟩:=Zke (n:=8) ht hl
 have hb:∀ i,(t.getD i 0).natAbs≤4294967296^K:=fun i=>Nat.le_of_lt (hK i)
 have h1:=Za9 (R:=16) 8 g l (4294967296^K*17^9) hg l1 l2 (fun x hx=>by
  obtain⟨a,b⟩:=l3 x hx
  refine⟨a,?_⟩
  have h2:=Zab (R:=16) t x hb a
  have h3:=congrArg Int.natAbs (h x)
  rw[Int.natAbs_mul] at h3
  have h4:1≤(Zg k x).natAbs:=by
   rcases Nat.eq_zero_or_pos (Zg k x).natAbs with g | g
   ·rw[g,Nat.mul_zero] at h3;omega
   ·exact g
  have h5:=Nat.le_mul_of_pos_right (Zg g x).natAbs h4
  have h6:4294967296^K*17^t.length≤4294967296^K*17^9:=Nat.mul_le_mul_left _ (Nat.pow_le_pow_right (by decide) hl)
  exact Nat.le_trans (Nat.le_trans h5 (Nat.le_of_eq h3.symm)) (Nat.le_trans h2 h6)) (fun x _ y _ hne=>by omega)
 intro i
 have h2:=h1 i
 unfold Jg
 refine Nat.lt_of_le_of_lt h2 ?_
 rw[Nat.mul_assoc,Nat.pow_add]
 exact Nat.mul_lt_mul_of_pos_left (by decide) (Nat.pow_pos (by decide))
theorem Zby {t g k:List Int} {c:Int} (hc:c ≠ 0) (hg:Jc g=1) (h:∀ x,c*Zg t x=Zg g x*Zg k x):∃ k',∀ x,Zg t x=Zg g x*Zg k' x:=by
 have h1:=Uf (p:=Ut g k) (q:=Zy c t) (fun x=>by rw[Qb,Zr];exact (h x).symm)
 have h2:=gauss hg c.natAbs k (by omega) (fun i=>by rw[h1,Z6];exact Int.dvd_trans (Int.natAbs_dvd.2 (Int.dvd_refl _)) (Int.dvd_mul_right _ _))
 have hk:Zy c (k.map fun x=>x / c)=k:=by
  apply Hf (by simp[Zy])
  intro i
  rw[Z6]
  have e:(k.map fun x=>x / c).getD i 0=k.getD i 0 / c:=by
   simp only[List.getD_eq_getElem?_getD,List.getElem?_map]
   cases k[i]? <;> simp
  rw[e]
  exact Int.mul_ediv_cancel' (Int.natAbs_dvd.1 (h2 i))
 refine⟨k.map fun x=>x / c,fun x => ?_⟩
 have h3:=h x
 rw[← hk,Zr] at h3
 apply Int.eq_of_mul_eq_mul_left hc
 rw[h3];grind
theorem An {t g k:List Int} {c:Int} {K:Nat} (hc:c ≠ 0) (hg:Jc g=1) (ht:Zc t ≠ []) (hl:t.length≤9) (hgl:g.length≤9) (hK:Kb K t) (h:∀ x,c*Zg t x=Zg g x*Zg k x):Kb (K+3) g:=by
 obtain⟨k',hk⟩:=Zby hc hg h
 exact N8 ht hl hgl hK hk
end Go.Ai
