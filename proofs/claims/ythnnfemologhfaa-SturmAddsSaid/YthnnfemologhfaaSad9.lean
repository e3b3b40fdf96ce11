/- Texts of the proof of SturmAdds, packed by pack.py: part 9 of 15. -/
import Derived.Test.YthnnfemologhfaaSad8
namespace Go.Proofs.Ythnnfemologhfaa
open Go.IntKind (i64 u64 u32)
open Go.Ai
set_option maxRecDepth 100000
theorem Zni (b1 b2 na nb:Bool) (xs ys as1 bs qs rs:List Int) (v w:Int) (n1:Ze Yir 122 [.agg [.bool b1, .sl xs.length (lm xs)]] (.tup [.bool na, .sl as1.length (lm as1)])) (n2:Ze Yir 122 [.agg [.bool b2, .sl ys.length (lm ys)]] (.tup [.bool nb, .sl bs.length (lm bs)])) (n3:Ze Yir 147 [.sl as1.length (lm as1), .sl bs.length (lm bs)] (.tup [.sl qs.length (lm qs), .sl rs.length (lm rs)])) (n4:Ze Yir 133 [.bool (!(na==nb)), .sl qs.length (lm qs)] (Zp v)) (n5:Ze Yir 133 [.bool na, .sl rs.length (lm rs)] (Zp w)):Ze Yir 110 [.agg [.bool b1, .sl xs.length (lm xs)], .agg [.bool b2, .sl ys.length (lm ys)]] (.tup [Zp v,Zp w]):=Ze.go (fn:=Ze3) Qg rfl 400 rfl [.r (.tup [.bool na, .sl as1.length (lm as1)]), .r (.tup [.bool nb, .sl bs.length (lm bs)]), .r (.tup [.sl qs.length (lm qs), .sl rs.length (lm rs)]), .r (Zp v), .r (Zp w)] (ac n1 (ac n2 (ac n3 (ac n4 (ac n5 a0)))))
def Mj (xs:List Int) (v:Int) (n:Int) (i:Int):Zi:=(dds 3 (.val (.int .u64 v)::(dds 3 (.val (.sl xs.length (lm xs))::(.val (.int .i64 n)::(.val (.int .i64 i)::(dds 14 [])))))))
theorem Zol (xs:List Int) (v:Int) (n:Int) (i:Int)  (c1:(decide (i<n))=true) (n1:0≤i∧i<(xs.length:Int)) (n2:¬ (u64.wrap (i64.wrap (32*i)))<0):Za Yir Ze9 (Mj xs v n i) .norm (Mj xs (u64.wrap ((BitVec.ofInt (IntKind.bits .u64) v ||| BitVec.ofInt (IntKind.bits .u64) (u64.wrap ((u64.wrap (xs.getD (Int.toNat i) 0))*2^(min (Int.toNat (u64.wrap (i64.wrap (32*i)))) (IntKind.bits .u64))))).toNat)) n (i64.wrap (i+1))):=(Za.go Qg 400 [.b true, .v (.int .u32 (xs.getD (Int.toNat i) 0))] [3,7,8,9] (ac c1 (ac n1 (ac (Xr n1) (ac n2 a0)))))
theorem Zok (xs:List Int) (v:Int) (n:Int) (i:Int)  (c1:(decide (i<n))=false):Za Yir Ze9 (Mj xs v n i) (.exit 0) (Mj xs v n i):=(Za.go Qg 400 [.b false] [3,7,8,9] (ac c1 a0))
theorem Zm7 (n:Bool) (xs:List Int) (v i m:Int) (hl1:Za Yir (.loop Ze9) (Mj xs 0 (xs.length:Int) 0) (.exit 0) (Mj xs v m i)):Ze Yir 146 [.agg [.bool n, .sl xs.length (lm xs)]] (.int .u64 v):=Ze.of_bodyW (fn:=Zeu) (s:=(dds 2 (.val (.int .u64 v)::(dds 21 [])))) (ex := .ret) rfl rfl (Za.seq (Za.go (t:=(.val (.agg [.bool n, .sl xs.length (lm xs)])::(.box [.bool n, .sl xs.length (lm xs)]::(.val (.int .u64 0)::(dds 21 []))))) Qg 400 [] [0,1,2] a0) (Za.seq (Za.go (t:=(.val (.agg [.bool n, .sl xs.length (lm xs)])::(.box [.bool n, .sl xs.length (lm xs)]::(.val (.int .u64 0)::(.val (.int .u64 0)::(dds 20 [])))))) Qg 400 [] [0,1,2,3] a0) (Za.seq (Za.seq (Za.go Qg 400 [] [3,7,8,9] a0) (Za.block hl1)) (Za.go Qg 400 [] [2] a0)))) (by intro i e;cases e) rfl
theorem Zm9 (n v:Int) (n1:Ze Yir 133 [.bool false, .sl 2 [.int .u32 (u32.wrap n), .int .u32 (u32.wrap (Int.fdiv n (2^(min (Int.toNat 32) (IntKind.bits .u64)))))]] (Zp v)):Ze Yir 144 [.int .u64 n] (Zp v):=Ze.go (fn:=Zew) Qg rfl 400 rfl [.r (Zp v)] (ac (show ¬ (32:Int)<0 from (by decide)) (ac n1 a0))
def Mk (a:Int) (b:Int):Zi:=(.val (.int .u64 a)::(.val (.int .u64 b)::(dds 10 [])))
theorem Zom (a:Int) (b:Int)  (c1:(decide (b>0))=true) (n1:¬ b=0):Za Yir Zfa (Mk a b) .norm (Mk b (Int.tmod a b)):=(Za.go Qg 400 [.b true] [0,1] (ac c1 (ac n1 a0)))
theorem Zeo (a:Int) (b:Int)  (c1:(decide (b>0))=false):Za Yir Zfa (Mk a b) (.exit 0) (Mk a b):=(Za.go Qg 400 [.b false] [0,1] (ac c1 a0))
theorem Zm8 (a b a1 b1:Int) (hl1:Za Yir (.loop Zfa) (Mk a b) (.exit 0) (Mk a1 b1)):Ze Yir 145 [.int .u64 a, .int .u64 b] (.int .u64 a1):=Ze.of_bodyW (fn:=Zev) (s:=(dds 4 (.val (.int .u64 a1)::(dds 7 [])))) (ex := .ret) rfl rfl (Za.seq (Za.go Qg 400 [] [0,1] a0) (Za.seq (Za.block hl1) (Za.go Qg 400 [] [4] a0))) (by intro i e;cases e) rfl
def Wj (x:Rn) (y:Rn) (z:Rn):Zi:=(dds 4 (.box [.bool z.1, .sl z.2.length (lm z.2)]::(.box [.bool x.1, .sl x.2.length (lm x.2)]::(.box [.bool y.1, .sl y.2.length (lm y.2)]::(dds 35 [])))))
theorem Zpa (x:Rn) (y:Rn) (z:Rn) (ua ub ug g:Int) (c1:(decide ((y.2.length:Int)>0))=true) (c2:(decide ((x.2.length:Int)≤2))=true) (c3:(decide ((y.2.length:Int)≤2))=true) (n1:Ze Yir 146 [Z8 x] (.int .u64 ua)) (n2:Ze Yir 146 [Z8 y] (.int .u64 ub)) (n3:Ze Yir 145 [.int .u64 ua, .int .u64 ub] (.int .u64 ug)) (n4:Ze Yir 144 [.int .u64 ug] (Zp g)):Za Yir B7 (Wj x y z) .ret (Wj x y (cn g)):=(Za.go Qg 400 [.b true, .b true, .b true, .r (.int .u64 ua), .r (.int .u64 ub), .r (.int .u64 ug), .r (Zp g)] [4,5,6] (ac c1 (ac c2 (ac c3 (ac n1 (ac n2 (ac n3 (ac n4 a0))))))))
theorem Zo9 (x:Rn) (y:Rn) (z:Rn) (q r:Int) (c1:(decide ((y.2.length:Int)>0))=true) (c2:(decide ((x.2.length:Int)≤2))=true) (c3:(decide ((y.2.length:Int)≤2))=false) (n1:Ze Yir 110 [Z8 x,Z8 y] (.tup [Zp q,Zp r])):Za Yir B7 (Wj x y z) .norm (Wj y (cn r) z):=(Za.go Qg 400 [.b true, .b true, .b false, .r (.tup [Zp q,Zp r])] [4,5,6] (ac c1 (ac c2 (ac c3 (ac n1 a0)))))
theorem Zo8 (x:Rn) (y:Rn) (z:Rn) (q r:Int) (c1:(decide ((y.2.length:Int)>0))=true) (c2:(decide ((x.2.length:Int)≤2))=false) (n1:Ze Yir 110 [Z8 x,Z8 y] (.tup [Zp q,Zp r])):Za Yir B7 (Wj x y z) .norm (Wj y (cn r) z):=(Za.go Qg 400 [.b true, .b false, .b false, .r (.tup [Zp q,Zp r])] [4,5,6] (ac c1 (ac c2 (ac (show false=false from rfl) (ac n1 a0)))))
theorem Zep (x:Rn) (y:Rn) (z:Rn)  (c1:(decide ((y.2.length:Int)>0))=false):Za Yir B7 (Wj x y z) (.exit 0) (Wj x y z):=(Za.go Qg 400 [.b false] [4,5,6] (ac c1 a0))
theorem Zeh (b1 b2:Bool) (xs ys:List Int) (v w:Int) (x y z:Rn) (n1:Ze Yir 111 [.agg [.bool b1, .sl xs.length (lm xs)]] (Zp v)) (n2:Ze Yir 111 [.agg [.bool b2, .sl ys.length (lm ys)]] (Zp w)) (hl3:Za Yir (.loop B7) (Wj (cn v) (cn w) (false,[])) (.exit 0) (Wj x y z)):Ze Yir 109 [.agg [.bool b1, .sl xs.length (lm xs)], .agg [.bool b2, .sl ys.length (lm ys)]] (Z8 x):=Ze.of_bodyW (fn:=Zak) (s:=(dds 4 (.box [.bool x.1, .sl x.2.length (lm x.2)]::(dds 37 [])))) (ex := .ret) rfl rfl (Za.seq (Za.go (t:=(.val (.agg [.bool b1, .sl xs.length (lm xs)])::(.val (.agg [.bool b2, .sl ys.length (lm ys)])::(.box [.bool b1, .sl xs.length (lm xs)]::(.box [.bool b2, .sl ys.length (lm ys)]::(.box [.bool false, .sl 0 []]::(dds 37 []))))))) Qg 400 [] [0,1,2,3,4] a0) (Za.seq (Za.go Qg 400 [.r (Zp v), .r (Zp w)] [4,5,6] (ac n1 (ac n2 a0))) (Za.seq (Za.block hl3) (Za.go Qg 400 [] [4] a0)))) (by intro i e;cases e) rfl
theorem Zeg (b1 b2:Bool) (xs ys:List Int) (v w:Int) (x y z:Rn) (n1:Ze Yir 111 [.agg [.bool b1, .sl xs.length (lm xs)]] (Zp v)) (n2:Ze Yir 111 [.agg [.bool b2, .sl ys.length (lm ys)]] (Zp w)) (hl3:Za Yir (.loop B7) (Wj (cn v) (cn w) (false,[])) .ret (Wj x y z)):Ze Yir 109 [.agg [.bool b1, .sl xs.length (lm xs)], .agg [.bool b2, .sl ys.length (lm ys)]] (Z8 z):=Ze.of_bodyW (fn:=Zak) (s:=(dds 4 (.box [.bool z.1, .sl z.2.length (lm z.2)]::(.box [.bool x.1, .sl x.2.length (lm x.2)]::(.box [.bool y.1, .sl y.2.length (lm y.2)]::(dds 35 [])))))) (ex := .ret) rfl rfl (Za.seq (Za.go (t:=(.val (.agg [.bool b1, .sl xs.length (lm xs)])::(.val (.agg [.bool b2, .sl ys.length (lm ys)])::(.box [.bool b1, .sl xs.length (lm xs)]::(.box [.bool b2, .sl ys.length (lm ys)]::(.box [.bool false, .sl 0 []]::(dds 37 []))))))) Qg 400 [] [0,1,2,3,4] a0) (Za.seq (Za.go Qg 400 [.r (Zp v), .r (Zp w)] [4,5,6] (ac n1 (ac n2 a0))) (Za.seq_out (Za.block_ret hl3) (by intro e;cases e)))) (by intro i e;cases e) rfl
def TQC:Ji:=TQB
theorem Zfm:Qh Yir TQC:=Qg
end Go.Proofs.Ythnnfemologhfaa

namespace Go.Proofs.Ythnnfemologhfaa
open Go.IntKind (i64 u64 u32)
open Go.Ai
set_option maxRecDepth 100000
def Gz (g:Nat→Int) (i r:Nat):List Int:=(List.range i).map g++List.replicate r 0
theorem Nv (g:Nat→Int) (i r:Nat):(Gz g i r).length=i+r:=by simp [Gz]
theorem Zcy (g:Nat→Int) (i r:Nat):(Gz g i (r+1)).set i (g i)=Gz g (i+1) r:=by
 simp only[Gz,List.range_succ,List.map_append,List.map_cons,List.map_nil]
 rw[List.set_append_right _ _ (by simp)]
 simp[List.replicate_succ]
def Bv (us:List Int) (s:Nat) (i:Nat):Int:=us.getD (i+1) 0 % 2^s*2^(32-s)+us.getD i 0 / 2^s
theorem Za6 {us:List Int} (hu:U32 us) {s:Nat} (hs:s<32) (i:Nat):(0≤us.getD i 0 / 2^s∧us.getD i 0 / 2^s<2^(32-s))∧0≤us.getD (i+1) 0 % 2^s∧us.getD (i+1) 0 % 2^s*2^(32-s)<4294967296∧(0≤Bv us s i∧Bv us s i<4294967296):=by
 have h0:=Zz hu i
 have h1:=Zz hu (i+1)
 have hp:=Ju s
 have hp2:=Ju (32-s)
 have e:=Zrr (show s≤32 by omega)
 have a1:=Int.emod_nonneg (us.getD (i+1) 0) (show (2:Int)^s ≠ 0 by omega)
 have a2:=Int.emod_lt_of_pos (us.getD (i+1) 0) hp
 have b0:0≤us.getD i 0 / 2^s:=Int.ediv_nonneg h0.1 (by omega)
 have b1:us.getD i 0 / 2^s<2^(32-s):=Int.ediv_lt_of_lt_mul hp (by rw[← e];exact h0.2)
 unfold Bv
 generalize us.getD (i+1) 0 % 2^s=x at *
 generalize us.getD i 0 / 2^s=y at *
 have c1:=Int.mul_le_mul_of_nonneg_right (show x+1≤2^s by omega) (show (0:Int)≤2^(32-s) by omega)
 rw[Int.add_mul,Int.one_mul,Int.mul_comm (2^s),← e] at c1
 have c2:=Int.mul_nonneg a1 (show (0:Int)≤2^(32-s) by omega)
 omega
theorem Zl9 {us:List Int} (s:Nat) (hs:s<32):∀ n,n≤us.length→2^s*Zo ((List.range n).map (Bv us s))=Zo (us.take n)-us.getD 0 0 % 2^s+4294967296^n*(us.getD n 0 % 2^s):=by
 intro n
 induction n with
 | zero =>
  intro _
  simp only[List.range_zero,List.map_nil,List.take_zero,Zo,Int.pow_zero,Int.mul_zero,Int.one_mul]
  generalize us.getD 0 0 % 2^s=w
  omega
 | succ n ih =>
  intro hn
  have e:=Zrr (show s≤32 by omega)
  rw[List.range_succ,List.map_append,List.map_cons,List.map_nil,Ud,List.length_map,List.length_range,Int.mul_add,ih (by omega),J5 us n (by omega),Int.pow_succ]
  have e2:Zo [Bv us s n]=Bv us s n:=by simp[Zo]
  rw[e2]
  unfold Bv
  have e3:=Int.mul_ediv_add_emod (us.getD n 0) (2^s)
  generalize us.getD (n+1) 0 % 2^s=x at *
  generalize us.getD n 0 / 2^s=y at *
  generalize us.getD n 0 % 2^s=z at *
  generalize us.getD 0 0 % 2^s=w at *
  generalize us.getD n 0=u at *
  generalize Zo (us.take n)=V at *
  generalize (4294967296:Int)^n=P at *
  rw[e]
  generalize (2:Int)^(32-s)=T at *
  generalize (2:Int)^s=S at *
  rw[← e3]
  grind
theorem Zei {us:List Int} {k n kq:Nat} {qs:List Int} {s:Nat} (hu:U32 us) (hl:us.length=k) (hn:n<k) (hk:k≤1048577) (hs:s<32) :
  Za Yir (.loop Bs) (W3 k us (n:Nat) kq qs n (List.replicate n 0) (s:Nat) 0) (.exit 8) (W3 k us (n:Nat) kq qs n ((List.range n).map (Bv us s)) (s:Nat) (n:Nat)):=by
 have h:=Za.up (prog:=Yir) (c:=Bs) (ex := .exit 8) (fin:=W3 k us (n:Nat) kq qs n ((List.range n).map (Bv us s)) (s:Nat) (n:Nat))
  (fun i=>W3 k us (n:Nat) kq qs n (Gz (Bv us s) i (n-i)) (s:Nat) (i:Nat)) n (by intro e;cases e) ?_ ?_ 0 (Nat.zero_le _)
 ·simpa [Gz] using h
 ·intro i hi
  obtain⟨r,hr⟩:∃ r,n-i=r+1:=⟨n-i-1,by omega⟩
  have e2:n-(i+1)=r:=by omega
  have ei:i64.wrap ((i:Int)+1)=((i+1:Nat):Int):=by rw[w64 (by omega) (by omega)];omega
  have hlen:(Gz (Bv us s) i (r+1)).length=n:=by rw[Nv];omega
  obtain⟨b1,b2,b3,b4⟩:=Za6 hu hs i
  have es:u64.wrap (s:Int)=(s:Nat):=Wl (by omega)
  have em:min (Int.toNat (s:Int)) (IntKind.bits .u32)=s:=by rw[Int.toNat_natCast];show min s 32=s;omega
  have hp:=Ju s
  rw[hr,e2,← Zcy]
  have hget:∀ v:Int,((Gz (Bv us s) i (r+1)).set i v).getD i 0=v:=fun v=>by simp[List.getD_eq_getElem?_getD,show i<(Gz (Bv us s) i (r+1)).length by omega]
  have efd:Int.fdiv (us.getD i 0) (2^s)=us.getD i 0 / 2^s:=Int.fdiv_eq_ediv_of_nonneg _ (by omega)
  by_cases h0:s=0
  ·subst h0
   have k2:=Zi7 k us (n:Nat) kq qs n (Gz (Bv us 0) i (r+1)) ((0:Nat):Int) (i:Nat) (by simp;omega) (by simp) (by omega) hl (by rw[es];omega) (by omega) hlen
   rw[ei,Int.toNat_natCast,es,em,efd] at k2
   have e5:Bv us 0 i=us.getD i 0 / 2^0:=by simp[Bv,Int.emod_one]
   rw[e5]
   exact k2
  ·have e32:u64.wrap (i64.wrap (32-(s:Int)))=((32-s:Nat):Int):=by rw[w64 (by omega) (by omega),Wl (by omega)];omega
   have em2:min (Int.toNat ((32-s:Nat):Int)) (IntKind.bits .u32)=32-s:=by rw[Int.toNat_natCast];show min (32-s) 32=32-s;omega
   have k1:=Zi8 k us (n:Nat) kq qs n (Gz (Bv us s) i (r+1)) (s:Int) (i:Nat) (by simp;omega) (by simp;omega) (by omega) hl (by rw[es];omega) (by omega) hlen (by simpa using hlen) (by rw[ei];omega) (by rw[e32];omega)
   rw[ei,Int.toNat_natCast,Int.toNat_natCast,es,em,e32,em2,efd,hget,List.set_set,Bu (us.getD (i+1) 0*2^(32-s))] at k1
   have e6:us.getD (i+1) 0*2^(32-s) % 4294967296=us.getD (i+1) 0 % 2^s*2^(32-s):=by
    rw[Zrr (show s≤32 by omega),Int.mul_comm (us.getD (i+1) 0),Int.mul_emod_mul_of_pos _ _ (Ju (32-s)),Int.mul_comm]
   rw[e6,or32 b2 b3 (by omega) b1] at k1
   exact k1
 ·have k3:=Zi6 k us (n:Nat) kq qs n ((List.range n).map (Bv us s)) (s:Nat) (n:Nat) (by simp)
  simpa [Gz] using k3
theorem Zav {g:Nat→Int} {n:Nat} (h:∀ i,0≤g i∧g i<4294967296):U32 ((List.range n).map g):=fun x hx=>by
 obtain⟨i,_,rfl⟩:=List.mem_map.1 hx;exact h i
theorem           Ni {xs ys : List Int} (hx :    Wc xs) (hy :    Wc ys) (hy0 : ys ≠ []) (h1 : xs.length < 1048576) (h2 : ys.length < 1048576) : ∃ qs rs, U32 qs ∧ U32 rs ∧ (qs : List Int).length ≤ 1048576 ∧ (rs : List Int).length ≤ 1048576 ∧   Zo qs =   Zo xs /   Zo ys ∧   Zo rs =   Zo xs %   Zo ys ∧
    Ze      Yir 147 [.sl xs.length (lm xs), .sl ys.length (lm ys)] (.tup [.sl qs.length (lm qs), .sl rs.length (lm rs)]) := by
  have hyl := List.length_pos_iff.2 hy0
  have hcmp :=           Vh hx hy (by omega)
  have hx0 :=          Z3 hx.1
  have hyp :=        W1 hy hy0
  by_cases hlt :   Zo xs <   Zo ys
  · refine ⟨[], xs, fun x h => (nomatch h), hx.1, by simp, by omega, ?_, ?_, ?_⟩
    · rw [Int.ediv_eq_zero_of_lt hx0 hlt]; rfl
    · rw [Int.emod_eq_of_lt hx0 hlt]
    · exact          Zdx xs ys _ (by unfold   Ux; rw [if_pos hlt]; rfl) (    Rp xs) (by omega) hcmp
  have hcm : decide (  Ux (  Zo xs) (  Zo ys) < 0) = false := by unfold   Ux; rw [if_neg hlt]; split <;> rfl
  by_cases hone : ys.length = 1
  · obtain ⟨y, rfl⟩ := List.length_eq_one_iff.1 hone
    have e1 :   Zo [y] = y := by simp [  Zo]
    rw [e1] at hyp
    have hyb := hy.1 y (by simp)
    obtain ⟨qs, r, q1, q2, q3, q4, q5⟩ :=           Nh hx.1 (d := y) ⟨hyp, hyb.2⟩ (by omega)
    have e2 :   Zo [r] = r := by simp [  Zo]
    have hd := (Int.ediv_emod_unique hyp (a :=   Zo xs) (r := r) (q :=   Zo qs)).2 ⟨by omega, q3.1, q3.2⟩
    refine ⟨qs, [r], q2, fun x h => by rw [List.mem_singleton.1 h]; omega, by omega, by simp, by rw [e1]; exact hd.1.symm, by rw [e1, e2]; exact hd.2.symm, ?_⟩
    exact          Zdw xs [y] qs _ r hcm (by rfl) hcmp (by simp) q5
  · obtain ⟨m, hm⟩ : ∃ m, ys.length = m + 2 := ⟨ys.length - 2, by omega⟩
    have hxl : ys.length ≤ xs.length := by
      rcases Nat.lt_or_ge xs.length ys.length with g | g
      · exact absurd (      Km hx hy g) hlt
      · exact g
    -- the first limb of y
    have hyt : 0 < ys.getD (m + 1) 0 ∧ ys.getD (m + 1) 0 < 4294967296 := by
      have a :=       Zz hy.1 (m + 1)
      rcases hy.2 with g | g
      · exact absurd g hy0
      · rw [show ys.length - 1 = m + 1 by omega] at g; omega
    obtain ⟨s, hs, s1, s2, hlz⟩ := lz_run hyt
    obtain ⟨us, u1, u2, u3, hus⟩ :=          Dn hx.1 hs h1
    obtain ⟨ws, w1, w2, w3, hws⟩ :=          Dn hy.1 hs h2
    have hp :=       Ju s
    -- y between powers
    have ysplit :=        Xa ys (j := m + 1) (by omega)
    have yd :=       Q5 ys (m + 1)
    rw [      Xv (xs := ys) (i := m + 1 + 1) (by omega), Int.mul_zero, Int.add_zero] at yd
    rw [yd] at ysplit
    have ylo :=      Wn hy.1 (m + 1)
    have ylo0 :=          Z3 (      Ui hy.1 (m + 1))
    have hP :=        Jw (m + 1)
    have hV1 : 2147483648 * 4294967296 ^ (m + 1) ≤   Zo ws := by
      rw [w3, ysplit]
      have a := Int.mul_le_mul_of_nonneg_right s1 (show (0 : Int) ≤ 4294967296 ^ (m + 1) by omega)
      have b := Int.mul_nonneg (show (0 : Int) ≤ 2 ^ s by omega) ylo0
      have e : 2 ^ s * (  Zo (List.take (m + 1) ys) + 4294967296 ^ (m + 1) * ys.getD (m + 1) 0) = 2 ^ s *   Zo (List.take (m + 1) ys) + ys.getD (m + 1) 0 * 2 ^ s * 4294967296 ^ (m + 1) := by grind
      omega
    have hV2 :   Zo ws < 4294967296 ^ (m + 2) := by
      have e9 : (4294967296 : Int) ^ (m + 2) = 4294967296 ^ (m + 1) * 4294967296 := Int.pow_succ _ _
      rw [w3, ysplit]
      have e0 :=  Zrr (show s ≤ 32 by omega)
      have a1 : ys.getD (m + 1) 0 + 1 ≤ 2 ^ (32 - s) := by
        rw [e0] at s2
        have := Int.lt_of_mul_lt_mul_right s2 (by omega)
        omega
      have a2 := Int.mul_le_mul_of_nonneg_right a1 (show (0 : Int) ≤ 2 ^ s * 4294967296 ^ (m + 1) by have := Int.mul_pos hp hP; omega)
      have a3 := Int.mul_lt_mul_of_pos_left ylo hp
      have e1 : (ys.getD (m + 1) 0 + 1) * (2 ^ s * 4294967296 ^ (m + 1)) = 2 ^ s * (4294967296 ^ (m + 1) * ys.getD (m + 1) 0) + 2 ^ s * 4294967296 ^ (m + 1) := by grind
      have e2 : (2 : Int) ^ (32 - s) * (2 ^ s * 4294967296 ^ (m + 1)) = 4294967296 ^ (m + 1) * 4294967296 := by rw [← Int.mul_assoc, ← e0, Int.mul_comm]
      rw [Int.mul_add]
      omega
    have hdz :=         Ki w2 (n := m + 2) (V := 4294967296 ^ (m + 2)) (Int.le_refl _) hV2
    have hvs :   Zo (ws.take (m + 2)) =   Zo ws := by
      have :=        Xa ws (j := m + 2) (by omega)
      rw [hdz, Int.mul_zero, Int.add_zero] at this
      exact this.symm
    have hvl : (ws.take (m + 2)).length = m + 2 := by simp; omega
    have hvu :=       Ui w2 (m + 2)
    generalize hvv : ws.take (m + 2) = vs at *
    have hvtop : 2147483648 ≤ vs.getD (m + 1) 0 := by
      have a :=        Xa vs (j := m + 1) (by omega)
      have b :=       Q5 vs (m + 1)
      rw [      Xv (xs := vs) (i := m + 1 + 1) (by omega), Int.mul_zero, Int.add_zero] at b
      rw [b] at a
      have c :=      Wn hvu (m + 1)
      apply Int.not_lt.1
      intro h
      have := Int.mul_le_mul_of_nonneg_left (show vs.getD (m + 1) 0 + 1 ≤ 2147483648 by omega) (show (0 : Int) ≤ 4294967296 ^ (m + 1) by omega)
      rw [Int.mul_add, Int.mul_one, Int.mul_comm _ 2147483648] at this
      omega
    have hini :   Zo (us.drop (xs.length - ys.length + 1)) <   Zo vs := by
      have a :=        Xa us (j := xs.length - ys.length + 1) (by omega)
      have b :=          Z3 (      Ui u2 (xs.length - ys.length + 1))
      have c :=      Vi hx.1
      have d := Int.mul_lt_mul_of_pos_left c hp
      have e : (4294967296 : Int) ^ xs.length = 4294967296 ^ (xs.length - ys.length + 1) * 4294967296 ^ (m + 1) := by rw [← Int.pow_add]; congr 1; omega
      have hp2 : (2 : Int) ^ s ≤ 2147483648 := by
        have :=      K9 (show s ≤ 31 by omega); rwa [show (2 : Int) ^ 31 = 2147483648 by decide] at this
      have hQ :=        Jw (xs.length - ys.length + 1)
      rw [hvs]
      apply Int.lt_of_lt_of_le (b := 2 ^ s * 4294967296 ^ (m + 1))
      · apply Int.lt_of_mul_lt_mul_left (a := 4294967296 ^ (xs.length - ys.length + 1)) _ (by omega)
        have e2 : (4294967296 : Int) ^ (xs.length - ys.length + 1) * (2 ^ s * 4294967296 ^ (m + 1)) = 2 ^ s * 4294967296 ^ xs.length := by rw [e]; grind
        omega
      · have := Int.mul_le_mul_of_nonneg_right hp2 (show (0 : Int) ≤ 4294967296 ^ (m + 1) by omega)
        omega
    obtain ⟨us', qs, l1, l2, l3, l4, l5, l6, l7⟩ :=         Ziy (k := xs.length + 1) (kq := xs.length - ys.length + 1) (s := (s : Nat)) hvu hvl hvtop (by omega) (by omega) (xs.length - ys.length + 1) us (List.replicate (xs.length - ys.length + 1) 0) (Nat.le_refl _) u1 u2 (by simp) (       Xq _) (fun t _ =>         Jz _ _) hini
    have l8 :=          Zei (us := us') (k := xs.length + 1) (n := m + 2) (kq := xs.length - ys.length + 1) (qs := qs) l3 l2 (by omega) (by omega) hs
    rw [        Xx, Int.sub_zero, u3, hvs, w3] at l7
    rw [hvs] at l6
    -- the remainder
    have hR :   Zo us' = 2 ^ s * (  Zo xs -   Zo ys *   Zo qs) := by rw [Int.mul_sub]; have : 2 ^ s *   Zo ys *   Zo qs = 2 ^ s * (  Zo ys *   Zo qs) := by grind
                                                                     omega
    have us0 :=          Z3 l3
    have hR0 : 0 ≤   Zo xs -   Zo ys *   Zo qs := by
      apply Int.not_lt.1
      intro h
      have := Int.mul_le_mul_of_nonneg_left (show   Zo xs -   Zo ys *   Zo qs ≤ -1 by omega) (show (0 : Int) ≤ 2 ^ s by omega)
      omega
    have hR1 :   Zo xs -   Zo ys *   Zo qs <   Zo ys := by
      rw [hR, w3] at l6
      exact Int.lt_of_mul_lt_mul_left l6 (by omega)
    have hrs :   Zo ((List.range (m + 2)).map (  Bv us' s)) =   Zo xs -   Zo ys *   Zo qs := by
      have a :=     Zl9 (us := us') s hs (m + 2) (by omega)
      have b : us'.getD 0 0 % 2 ^ s = 0 := by
        have c :=       Q5 us' 0
        rw [List.drop_zero, Nat.zero_add, hR] at c
        have e0 :=  Zrr (show s ≤ 32 by omega)
        have : us'.getD 0 0 = 2 ^ s * (  Zo xs -   Zo ys *   Zo qs - 2 ^ (32 - s) *   Zo (us'.drop 1)) := by rw [Int.mul_sub, ← Int.mul_assoc, Int.mul_comm (2 ^ s) (2 ^ (32 - s)), ← e0]; omega
        rw [this]
        exact Int.mul_emod_right _ _
      have dz :=         Ki l3 (n := m + 2) (V :=   Zo ws) (by omega) l6
      have c2 : us'.getD (m + 2) 0 = 0 := by
        have c :=       Q5 us' (m + 2)
        rw [dz] at c
        have d1 :=          Z3 (      X5 l3 (m + 2 + 1))
        have d2 :=       Zz l3 (m + 2)
        omega
      have d :=        Xa us' (j := m + 2) (by omega)
      rw [dz, Int.mul_zero, Int.add_zero] at d
      rw [b, c2, ← d, hR, Int.zero_emod, Int.mul_zero, Int.sub_zero, Int.add_zero] at a
      exact Int.eq_of_mul_eq_mul_left (by omega) a
    have hd := (Int.ediv_emod_unique hyp (a :=   Zo xs) (r :=   Zo xs -   Zo ys *   Zo qs) (q :=   Zo qs)).2 ⟨by omega, hR0, hR1⟩
    have e1 : IntKind.i64.wrap (((ys.length : Nat) : Int) - 1) = ((m + 1 : Nat) : Int) := by rw [w64 (by omega) (by omega)]; omega
    have e2 : IntKind.i64.wrap (((ys.length : Nat) : Int) - 2) = ((m : Nat) : Int) := by rw [w64 (by omega) (by omega)]; omega
    have e3 : IntKind.i64.wrap (((xs.length : Nat) : Int) - ((ys.length : Nat) : Int)) = ((xs.length - ys.length : Nat) : Int) := by rw [w64 (by omega) (by omega)]; omega
    have e4 : IntKind.i64.wrap (((xs.length - ys.length : Nat) : Int) + 1) = ((xs.length - ys.length + 1 : Nat) : Int) := by rw [w64 (by omega) (by omega)]; omega
    have hlv : vs.length = ys.length := by omega
    have hvv2 : ws.take ys.length = vs := by rw [hm]; exact hvv
    have v1 :=       Zz hvu (m + 1)
    have v2 :=       Zz hvu m
    refine ⟨qs, (List.range (m + 2)).map (  Bv us' s), l5,       Zav (fun i => (    Za6 l3 hs i).2.2.2), by omega, by simp; omega, hd.1.symm, by rw [hrs]; exact hd.2.symm, ?_⟩
    have hl11 :    Za    Yir (.loop       E2) (      Kt us.length us vs (vs.length : Nat) (vs.getD (m + 1) 0) (vs.getD m 0) (xs.length - ys.length + 1) (List.replicate (xs.length - ys.length + 1) 0) (s : Nat) ((xs.length - ys.length : Nat) : Int)) (.exit 0) (      Kt us.length us' vs (vs.length : Nat) (vs.getD (m + 1) 0) (vs.getD m 0) (xs.length - ys.length + 1) qs (s : Nat) (-1)) := by
      rw [u1]
      refine l1.to ?_ rfl
      congr 1
      omega
    have h :=          Zdv xs ys us ws us' vs qs ((List.range (m + 2)).map (  Bv us' s)) _ (s : Nat) (vs.length : Nat) (vs.getD (m + 1) 0) (vs.getD m 0) (-1) us.length (xs.length - ys.length + 1) (m + 2) hcm (by rw [hm, beq_eq_false_iff_ne]; omega) hcmp (by rw [e1]; omega) (by rw [e1, Int.toNat_natCast]; exact hlz) (by omega) (by rw [Int.toNat_natCast]; exact ⟨by omega, by omega, Nat.le_refl _, fun _ => rfl⟩) hus hws (by rw [e3, e4]; omega) (by rw [e1, Int.toNat_natCast]; omega) (by rw [e2, Int.toNat_natCast]; omega)
      (by
        rw [e1, e2, e3, e4, Int.toNat_natCast, Int.toNat_natCast, Int.toNat_natCast, Int.toNat_natCast,       Uk,       Rm, List.drop_zero, Nat.sub_zero, hvv2,   Wl (n := vs.getD (m + 1) 0) (by omega),   Wl (n := vs.getD m 0) (by omega)]
        unfold       Kt at hl11 ⊢
        rw [hlv] at hl11 ⊢
        exact hl11)
      (by omega) (by
        rw [hvl, Int.toNat_natCast,       Uk, u1]
        exact l8)
    rw [show qs.length = xs.length - ys.length + 1 from l4, show ((List.range (m + 2)).map (  Bv us' s)).length = m + 2 by simp]
    exact h
def TQD:Ji:=TQC
theorem Zfl:Qh Yir TQD:=Zfm
end Go.Proofs.Ythnnfemologhfaa

namespace Go.Proofs.Ythnnfemologhfaa
open Go.IntKind (i64 u64 u32)
open Go.Ai
set_option maxRecDepth 100000
def TDA:Ji:=TBE
theorem Zft:Qh Yir TDA:=Xh
end Go.Proofs.Ythnnfemologhfaa

namespace Go.Proofs.Ythnnfemologhfaa
open Go.IntKind (i64 u64 u32)
open Go.Ai
set_option maxRecDepth 100000
def TDB:Ji:=TDA
theorem Zfs:Qh Yir TDB:=Zft
end Go.Proofs.Ythnnfemologhfaa

namespace Go.Proofs.Ythnnfemologhfaa
open Go.IntKind (i64 u64 u32)
open Go.Ai
set_option maxRecDepth 100000
section
variable {k:Nat} {us vs:List Int} {kq:Nat} {qs:List Int} {s:Int} {j m:Nat}
end
section
variable {k:Nat} {vs:List Int} {kq:Nat} {qs:List Int} {s:Int} {j:Nat} {g:Int}
end
def TDC:Ji:=TDB
theorem Zfr:Qh Yir TDC:=Zfs
end Go.Proofs.Ythnnfemologhfaa

namespace Go.Proofs.Ythnnfemologhfaa
open Go.IntKind (i64 u64 u32)
open Go.Ai
set_option maxRecDepth 100000
section
variable {vs:List Int} {m:Nat} {k kq:Nat} {s:Int}
end
def TDD:Ji:=TDC
theorem Zk:Qh Yir TDD:=Zfr
end Go.Proofs.Ythnnfemologhfaa

namespace Go.Proofs.Ythnnfemologhfaa
open Go.IntKind (i64 u64 u32)
open Go.Ai
set_option maxRecDepth 100000
def B5 (rs:List Rn) (n:Int):Zi:=(.val (.sl rs.length (pc rs))::(dds 2 (.val (.int .i64 n)::(dds 31 []))))
theorem Zn2 (rs:List Rn) (n:Int)  (c1:(decide (n>0))=true) (c2:((Vc (Zt (rs.getD (Int.toNat (i64.wrap (n-1))) z0)))==0)=true) (n1:0≤(i64.wrap (n-1))∧(i64.wrap (n-1))<(rs.length:Int)) (n2:Ze Yir 81 [Z8 (rs.getD (Int.toNat (i64.wrap (n-1))) z0)] (.int .i64 (Vc (Zt (rs.getD (Int.toNat (i64.wrap (n-1))) z0))))):Za Yir Zal (B5 rs n) .norm (B5 rs (i64.wrap (n-1))):=(Za.go Xh 400 [.b true, .v (Z8 (rs.getD (Int.toNat (i64.wrap (n-1))) z0)), .r (.int .i64 (Vc (Zt (rs.getD (Int.toNat (i64.wrap (n-1))) z0)))), .b true] [0,3] (ac c1 (ac n1 (ac (Xc n1) (ac n2 (ac c2 a0))))))
theorem Zn1 (rs:List Rn) (n:Int)  (c1:(decide (n>0))=true) (c2:((Vc (Zt (rs.getD (Int.toNat (i64.wrap (n-1))) z0)))==0)=false) (n1:0≤(i64.wrap (n-1))∧(i64.wrap (n-1))<(rs.length:Int)) (n2:Ze Yir 81 [Z8 (rs.getD (Int.toNat (i64.wrap (n-1))) z0)] (.int .i64 (Vc (Zt (rs.getD (Int.toNat (i64.wrap (n-1))) z0))))):Za Yir Zal (B5 rs n) (.exit 0) (B5 rs n):=(Za.go Xh 400 [.b true, .v (Z8 (rs.getD (Int.toNat (i64.wrap (n-1))) z0)), .r (.int .i64 (Vc (Zt (rs.getD (Int.toNat (i64.wrap (n-1))) z0)))), .b false] [0,3] (ac c1 (ac n1 (ac (Xc n1) (ac n2 (ac c2 a0))))))
theorem Zn0 (rs:List Rn) (n:Int)  (c1:(decide (n>0))=false):Za Yir Zal (B5 rs n) (.exit 0) (B5 rs n):=(Za.go Xh 400 [.b false, .b false] [0,3] (ac c1 (ac (show false=false from rfl) a0)))
def Ez (rs:List Rn) (n:Int) (k:Nat) (cs:List AV) (i:Int):Zi:=(.val (.sl rs.length (pc rs))::(dds 2 (.val (.int .i64 n)::(.own 2 k cs::(.val (.int .i64 i)::(dds 29 []))))))
theorem Znz (rs:List Rn) (n:Int) (k:Nat) (cs:List AV) (i:Int)  (c1:(decide (i<n))=true) (n1:0≤i∧i<(rs.length:Int)) (n2:k+1≤1048576) (n3:Ze Yir 93 [Z8 (rs.getD (Int.toNat i) z0)] (Zp (Zt (rs.getD (Int.toNat i) z0)))):Za Yir Ze6 (Ez rs n k cs i) .norm (Ez rs n (k+1) (cs++([.bool (decide ((Zt (rs.getD (Int.toNat i) z0))<0)), .sl ((Zb (Int.natAbs (Zt (rs.getD (Int.toNat i) z0)))).length) (lm (Zb (Int.natAbs (Zt (rs.getD (Int.toNat i) z0)))))]:List AV)) (i64.wrap (i+1))):=(Za.go Xh 400 [.b true, .v (Z8 (rs.getD (Int.toNat i) z0)), .r (Zp (Zt (rs.getD (Int.toNat i) z0)))] [0,3,4,5] (ac c1 (ac n1 (ac (Xc n1) (ac n3 (ac (show List.length ([.bool (decide ((Zt (rs.getD (Int.toNat i) z0))<0)), .sl ((Zb (Int.natAbs (Zt (rs.getD (Int.toNat i) z0)))).length) (lm (Zb (Int.natAbs (Zt (rs.getD (Int.toNat i) z0)))))]:List AV)=1*2 from rfl) (ac n2 a0)))))))
theorem Zny (rs:List Rn) (n:Int) (k:Nat) (cs:List AV) (i:Int)  (c1:(decide (i<n))=false):Za Yir Ze6 (Ez rs n k cs i) (.exit 2) (Ez rs n k cs i):=(Za.go Xh 400 [.b false] [0,3,4,5] (ac c1 a0))
theorem Yrun43 (rs:List Rn) (n i:Int) (k:Nat) (cs:List AV) (hl1:Za Yir (.loop Zal) (B5 rs (rs.length:Int)) (.exit 0) (B5 rs n)) (hl2:Za Yir (.loop Ze6) (Ez rs n 0 ([]:List AV) 0) (.exit 2) (Ez rs n k cs i)):Ze Yir 43 [.sl rs.length (pc rs)] (.fresh 2 k cs):=Ze.of_bodyW (fn:=Yi43) (s:=(dds 2 (.own 2 k cs::(dds 32 [])))) (ex := .ret) rfl rfl (Za.seq (Za.go (t:=(vp rs::(dds 1 (.own 2 0 []::(dds 32 []))))) Xh 400 [] [0,2] a0) (Za.seq (Za.go Xh 400 [] [0,3] a0) (Za.seq (Za.block hl1) (Za.seq (Za.go (t:=(vp rs::(dds 2 (vi n::(.own 2 0 []::(dds 30 [])))))) Xh 400 [] [0,3,4] a0) (Za.seq (Za.seq (Za.go Xh 400 [] [0,3,4,5] a0) (Za.block hl2)) (Za.go Xh 400 [] [2] a0)))))) (by intro i e;cases e) rfl
theorem Zmh (rs:List Rn) (r:Rn):pc rs++([.bool r.1, .sl r.2.length (lm r.2)]:List AV)=pc (rs++[r]):=by rw [Hu];rfl
theorem B3 (g:Nat→Rn) (i:Nat):(List.range (i+1)).map g=(List.range i).map g++[g i]:=by rw [List.range_succ,List.map_append];rfl
theorem Zis {rs:List Rn} (hg:∀ r∈rs,Xj 1048576 r) (hN:rs.length≤1048576):∀ m,m≤rs.length→Za Yir (.loop Zal) (B5 rs (m:Nat)) (.exit 0) (B5 rs (Zs (Zj rs) m:Nat)):=by
 intro m
 induction m with
 | zero=>intro _;exact Za.loop_out (Zn0 rs ((0:Nat):Int) (by simp)) (by intro e;cases e)
 | succ m ih =>
  intro hm
  have e1:i64.wrap (((m+1:Nat):Int)-1)=(m:Int):=by rw[w64 (by omega) (by omega)];omega
  obtain⟨g1,g2⟩:=Ql hg m
  have hs:=Dq (neg:=(rs.getD m z0).1) g1 g2
  simp only[Zs]
  rw[Jg]
  by_cases h0:Zt (rs.getD m z0)=0
  ·rw[if_pos h0]
   have k:=Zn2 rs ((m+1:Nat):Int) (by simp) (by rw[e1,Int.toNat_natCast,h0];rfl) (by rw[e1];omega) (by simp only[e1,Int.toNat_natCast];exact hs)
   rw[e1] at k
   exact Za.loop k (ih (by omega))
  ·rw[if_neg h0]
   exact Za.loop_out (Zn1 rs ((m+1:Nat):Int) (by simp) (by rw[e1,Int.toNat_natCast,beq_eq_false_iff_ne];unfold Vc; (repeat' split) <;> omega) (by rw[e1];omega) (by simp only[e1,Int.toNat_natCast];exact hs)) (by intro e;cases e)
theorem Zir {rs:List Rn} (hg:∀ r∈rs,Xj 1048576 r) (hN:rs.length≤1048576) (n:Nat) (hn:n≤rs.length) :
  Za Yir (.loop Ze6) (Ez rs (n:Nat) 0 [] 0) (.exit 2) (Ez rs (n:Nat) n (pc ((List.range n).map fun j=>cn (Zt (rs.getD j z0)))) (n:Nat)):=by
 refine Za.up (fun i=>Ez rs (n:Nat) i (pc ((List.range i).map fun j=>cn (Zt (rs.getD j z0)))) (i:Nat)) n (by intro e;cases e) ?_ ?_ 0 (Nat.zero_le _)
 ·intro i hi
  have ei:i64.wrap ((i:Int)+1)=((i+1:Nat):Int):=by rw[w64 (by omega) (by omega)];omega
  obtain⟨g1,g2⟩:=Ql hg i
  have k:=Znz rs (n:Nat) i (pc ((List.range i).map fun j=>cn (Zt (rs.getD j z0)))) (i:Nat) (by simp;omega) (by omega) (by omega) (by simp only[Int.toNat_natCast];exact Za5 g1 g2)
  refine k.to rfl ?_
  simp only[Int.toNat_natCast,ei]
  rw[B3,← Zmh]
  rfl
 ·exact Zny rs (n:Nat) n _ (n:Nat) (by simp)
theorem Zbe {rs:List Rn} (hg:∀ r∈rs,Xj 1048576 r) (hN:rs.length≤1048576):Ze Yir 43 [.sl rs.length (pc rs)] (.fresh 2 (Zh (Zj rs)).length (pk (Zh (Zj rs)))):=by
 have hle:=V3 (Zj rs) rs.length
 have hlen:(Zh (Zj rs)).length=Zs (Zj rs) rs.length:=by rw[Ue,Z0]
 have h:=Yrun43 rs _ _ _ _ (Zis hg hN rs.length (Nat.le_refl _)) (Zir hg hN _ hle)
 have e3:(List.range (Zs (Zj rs) rs.length)).map (fun j=>cn (Zt (rs.getD j z0)))=(Zh (Zj rs)).map cn:=by
  rw[← Ed,hlen]
  apply List.map_congr_left
  intro i _
  rw[Jc,Jg]
 rw[e3,← hlen] at h
 exact h
theorem Zcp (e:Nat):Je (e / 32+1) ((2:Int)^e):=by
 unfold Je
 have h1:((2:Int)^e).natAbs=2^e:=by rw[Int.natAbs_pow];rfl
 have h2:(4294967296:Nat)^(e / 32+1)=2^(32*(e / 32+1)):=by rw[Nat.pow_mul]
 rw[h1,h2]
 exact Nat.pow_lt_pow_right (by decide) (by omega)
end Go.Proofs.Ythnnfemologhfaa

namespace Go.Proofs.Ythnnfemologhfaa
open Go.IntKind (i64 u64 u32)
open Go.Ai
set_option maxRecDepth 100000
def Fl (na:Bool) (nb:Bool) (la:Nat) (xa:List AV) (lb:Nat) (xb:List AV) (n:Nat) (cs:List AV) (i:Int) (x:Int) (c:Int) (k:Int):Zi:=(dds 4 (.box [.bool false, .sl 0 []]::(.val (.bool na)::(dds 1 (.val (.bool nb)::(.val (.sl lb xb)::(.own 1 n cs::(.val (.int .i64 i)::(.val (.int .u32 x)::(.val (.int .u64 c)::(dds 28 (.val (.sl la xa)::(.val (.int .i64 (la:Int))::(.val (.int .i64 i)::(dds 4 (.val (.sl lb xb)::(.val (.int .i64 (lb:Int))::(.val (.int .i64 k)::(dds 43 [])))))))))))))))))))
theorem Zjo (na:Bool) (nb:Bool) (la:Nat) (xa:List AV) (lb:Nat) (xb:List AV) (n:Nat) (cs:List AV) (i:Int) (x:Int) (c:Int) (k:Int) (ds:List AV) (y z:Int) (c1:(decide (k<(lb:Int)))=true) (n1:0≤k∧k<(lb:Int)) (n2:Zx (List.drop (Int.toNat k*1) xb) 0 1 true=some (.int .u32 y)) (n3:0≤(i64.wrap (i+k))∧(i64.wrap (i+k))<(n:Int)) (n4:Zx cs (Int.toNat (i64.wrap (i+k))*1) 1 true=some (.int .u32 z)) (n5:0≤(i64.wrap (i+k))∧(i64.wrap (i+k))<(n:Int)) (n6:X4 cs (Int.toNat (i64.wrap (i+k))*1) [.int .u32 (u32.wrap (u64.wrap ((u64.wrap ((u64.wrap ((u64.wrap x)*(u64.wrap y)))+(u64.wrap z)))+c)))]=some ds):Za Yir Mv (Fl na nb la xa lb xb n cs i x c k) .norm (Fl na nb la xa lb xb n ds i x (Int.fdiv (u64.wrap ((u64.wrap ((u64.wrap ((u64.wrap x)*(u64.wrap y)))+(u64.wrap z)))+c)) (2^(min (Int.toNat 32) (IntKind.bits .u64)))) (i64.wrap (k+1))):=Za.script (ps:=[(decide (k<(lb:Int)))=true,0≤k∧k<(lb:Int),Zx (List.drop (Int.toNat k*1) xb) 0 1 true=some (.int .u32 y),0≤(i64.wrap (i+k))∧(i64.wrap (i+k))<(n:Int),Zx cs (Int.toNat (i64.wrap (i+k))*1) 1 true=some (.int .u32 z),¬ (32:Int)<0,0≤(i64.wrap (i+k))∧(i64.wrap (i+k))<(n:Int),X4 cs (Int.toNat (i64.wrap (i+k))*1) [.int .u32 (u32.wrap (u64.wrap ((u64.wrap ((u64.wrap ((u64.wrap x)*(u64.wrap y)))+(u64.wrap z)))+c)))]=some ds]) Zf 300 [.b true, .v (.int .u32 y), .v (.int .u32 z), .l ds] [4,5,7,8,9,10,11,12,41,42,43,48,49,50] (by kernel_rfl) ⟨c1,n1,n2,n3,n4,(by decide),n5,n6,trivial⟩
theorem Zjn (na:Bool) (nb:Bool) (la:Nat) (xa:List AV) (lb:Nat) (xb:List AV) (n:Nat) (cs:List AV) (i:Int) (x:Int) (c:Int) (k:Int) (c1:(decide (k<(lb:Int)))=false):Za Yir Mv (Fl na nb la xa lb xb n cs i x c k) (.exit 2) (Fl na nb la xa lb xb n cs i x c k):=Za.script (ps:=[(decide (k<(lb:Int)))=false]) Zf 300 [.b false] [4,5,7,8,9,10,11,12,41,42,43,48,49,50] (by kernel_rfl) ⟨c1,trivial⟩
def Mo (na:Bool) (nb:Bool) (la:Nat) (xa:List AV) (lb:Nat) (xb:List AV) (n:Nat) (cs:List AV) (i:Int):Zi:=(dds 4 (.box [.bool false, .sl 0 []]::(.val (.bool na)::(dds 1 (.val (.bool nb)::(.val (.sl lb xb)::(.own 1 n cs::(dds 31 (.val (.sl la xa)::(.val (.int .i64 (la:Int))::(.val (.int .i64 i)::(dds 50 []))))))))))))
theorem Zen (na nb:Bool) (la:Nat) (xa:List AV) (lb:Nat) (xb:List AV) (n:Nat) (cs:List AV) (i:Int) (h:(decide (i<(la:Int)))=false):Za Yir Zfg (Mo na nb la xa lb xb n cs i) (.exit 0) (Mo na nb la xa lb xb n cs i):=Za.script (ps:=[(decide (i<(la:Int)))=false]) Zf 300 [.b false] [4,5,7,8,9,41,42,43] (by kernel_rfl) ⟨h,trivial⟩
theorem Zad (na nb:Bool) (la:Nat) (xa:List AV) (lb:Nat) (xb:List AV) (n:Nat) (cs ds es:List AV) (i x c k:Int) (h:(decide (i<(la:Int)))=true) (hi:0≤i∧i<(la:Int)) (hx:Zx (List.drop (Int.toNat i*1) xa) 0 1 true=some (.int .u32 x)) (hl:Za Yir (.loop Mv) (Fl na nb la xa lb xb n cs i x 0 0) (.exit 2) (Fl na nb la xa lb xb n ds i x c k)) (hix:0≤i64.wrap (i+(lb:Int))∧i64.wrap (i+(lb:Int))<(n:Int)) (hst:X4 ds (Int.toNat (i64.wrap (i+(lb:Int)))*1) [.int .u32 (u32.wrap c)]=some es):Za Yir Zfg (Mo na nb la xa lb xb n cs i) .norm (Mo na nb la xa lb xb n es (i64.wrap (i+1))):=(Za.seq (Za.script (t:=(dds 4 (.box [.bool false, .sl 0 []]::(.val (.bool na)::(dds 1 (.val (.bool nb)::(.val (.sl lb xb)::(.own 1 n cs::(dds 31 (.val (.sl la xa)::(vi (la:Int)::(vi i::(.val (.bool (decide (i<(la:Int))))::(dds 49 [])))))))))))))) (ps:=[]) Zf 300 [] [4,5,7,8,9,41,42,43,44] (by kernel_rfl) trivial) (Za.seq (Za.script (t:=(dds 4 (.box [.bool false, .sl 0 []]::(.val (.bool na)::(dds 1 (.val (.bool nb)::(.val (.sl lb xb)::(.own 1 n cs::(dds 31 (.val (.sl la xa)::(vi (la:Int)::(vi i::(.val (.bool (decide (i<(la:Int))))::(dds 49 [])))))))))))))) (ps:=[(decide (i<(la:Int)))=true]) Zf 300 [.b true] [4,5,7,8,9,41,42,43,44] (by kernel_rfl) ⟨h,trivial⟩) (Za.seq (Za.block_norm (Za.seq (Za.script (t:=(dds 4 (.box [.bool false, .sl 0 []]::(.val (.bool na)::(dds 1 (.val (.bool nb)::(.val (.sl lb xb)::(.own 1 n cs::(vi i::(.val (.int .u32 x)::(dds 29 (.val (.sl la xa)::(vi (la:Int)::(vi i::(.val (.bool (decide (i<(la:Int))))::(vi i::(.mem (List.drop (Int.toNat i*1) xa)::(.val (.int .u32 x)::(dds 46 []))))))))))))))))))) (ps:=[0≤i∧i<(la:Int),Zx (List.drop (Int.toNat i*1) xa) 0 1 true=some (.int .u32 x)]) Zf 300 [.v (.int .u32 x)] [4,5,7,8,9,10,11,41,42,43,44,45,46,47] (by kernel_rfl) ⟨hi,hx,trivial⟩) (Za.seq (Za.script (t:=(dds 4 (.box [.bool false, .sl 0 []]::(.val (.bool na)::(dds 1 (.val (.bool nb)::(.val (.sl lb xb)::(.own 1 n cs::(vi i::(.val (.int .u32 x)::(.val (.int .u64 0)::(dds 28 (.val (.sl la xa)::(vi (la:Int)::(vi i::(.val (.bool (decide (i<(la:Int))))::(vi i::(.mem (List.drop (Int.toNat i*1) xa)::(.val (.int .u32 x)::(dds 46 [])))))))))))))))))))) (ps:=[]) Zf 300 [] [4,5,7,8,9,10,11,12,41,42,43,44,45,46,47] (by kernel_rfl) trivial) (Za.seq (Za.seq (Za.script (t:=(dds 4 (.box [.bool false, .sl 0 []]::(.val (.bool na)::(dds 1 (.val (.bool nb)::(.val (.sl lb xb)::(.own 1 n cs::(vi i::(.val (.int .u32 x)::(.val (.int .u64 0)::(dds 28 (.val (.sl la xa)::(vi (la:Int)::(vi i::(dds 4 (.val (.sl lb xb)::(vi (lb:Int)::(vi 0::(dds 43 [])))))))))))))))))))) (ps:=[]) Zf 300 [] [4,5,7,8,9,10,11,12,41,42,43,48,49,50] (by kernel_rfl) trivial) (Za.block hl)) (Za.script (t:=(dds 4 (.box [.bool false, .sl 0 []]::(.val (.bool na)::(dds 1 (.val (.bool nb)::(.val (.sl lb xb)::(.own 1 n es::(vi i::(.val (.int .u32 x)::(.val (.int .u64 c)::(dds 28 (.val (.sl la xa)::(vi (la:Int)::(vi i::(dds 4 (.val (.sl lb xb)::(vi (lb:Int)::(vi k::(dds 29 (.dup 9::(vi i::(.val (.sl lb xb)::(vi (lb:Int)::(vi (i64.wrap (i+(lb:Int)))::(.val (.int .u64 c)::(.val (.int .u32 (u32.wrap c))::(.ptr 9 (Int.toNat (i64.wrap (i+(lb:Int)))*1)::(dds 6 []))))))))))))))))))))))))))))) (ps:=[0≤(i64.wrap (i+(lb:Int)))∧(i64.wrap (i+(lb:Int)))<(n:Int),X4 ds (Int.toNat (i64.wrap (i+(lb:Int)))*1) [.int .u32 (u32.wrap c)]=some es]) Zf 300 [.l es] [4,5,7,8,9,10,11,12,41,42,43,48,49,50,80,81,82,83,84,85,86,87] (by kernel_rfl) ⟨hix,hst,trivial⟩))))) (Za.script (t:=(dds 4 (.box [.bool false, .sl 0 []]::(.val (.bool na)::(dds 1 (.val (.bool nb)::(.val (.sl lb xb)::(.own 1 n es::(dds 31 (.val (.sl la xa)::(vi (la:Int)::(vi (i64.wrap (i+1))::(dds 50 []))))))))))))) (ps:=[]) Zf 300 [] [4,5,7,8,9,41,42,43] (by kernel_rfl) trivial))))
theorem Zem (na nb:Bool) (xs ys:List Int) (hx:U32 xs) (hy:U32 ys) (n i:Nat) (hn:n≤1048576) (hib:i+ys.length≤n):∀ (r k:Nat) (out:List Int) (c:Int),r+k=ys.length→out.length=n→U32 out→0≤c∧c<4294967296 →
  Za Yir (.loop Mv) (Fl na nb xs.length (lm xs) ys.length (lm ys) n (lm out) (i:Int) (xs.getD i 0) c (k:Int)) (.exit 2)
   (Fl na nb xs.length (lm xs) ys.length (lm ys) n (lm (Gw (xs.getD i 0) ys i r k out c).1) (i:Int) (xs.getD i 0) (Gw (xs.getD i 0) ys i r k out c).2 (ys.length:Int)):=by
 intro r
 induction r with
 | zero =>
  intro k out c hk _ _ _
  have hk':k=ys.length:=by omega
  subst hk'
  exact Za.loop_out (Zjn na nb xs.length (lm xs) ys.length (lm ys) n (lm out) (i:Int) (xs.getD i 0) c (ys.length:Int) (by simp)) (by intro e;cases e)
 | succ r ih =>
  intro k out c hk hl hu hc
  have hai:=Zz hx i
  have hbk:=Zz hy k
  have hok:=Zz hu (i+k)
  obtain⟨w1,w2,w3,w4⟩:=Zat hai hbk hc hok
  have ei:i64.wrap ((i:Int)+(k:Int))=((i+k:Nat):Int):=by rw[w64 (by omega) (by omega)];omega
  have ek:i64.wrap ((k:Int)+1)=((k+1:Nat):Int):=by rw[w64 (by omega) (by omega)];omega
  have hz:=Zbv (xs:=out) (i:=i+k) (by omega)
  have hyk:=J6 (xs:=ys) (i:=k) (by omega)
  have hst:=Hf (xs:=out) (i:=i+k) (v:=(c+(out.getD (i+k) 0+xs.getD i 0*ys.getD k 0)) % 4294967296) (by omega)
  have eW:u64.wrap (u64.wrap (u64.wrap (u64.wrap (xs.getD i 0)*u64.wrap (ys.getD k 0))+u64.wrap (out.getD (i+k) 0))+c)=c+(out.getD (i+k) 0+xs.getD i 0*ys.getD k 0):=by
   have q1:u64.wrap (xs.getD i 0)=xs.getD i 0:=by rw[Jm];omega
   have q2:u64.wrap (ys.getD k 0)=ys.getD k 0:=by rw[Jm];omega
   have q3:u64.wrap (out.getD (i+k) 0)=out.getD (i+k) 0:=by rw[Jm];omega
   rw[q1,q2,q3,Jm,Jm,Jm]
   omega
  have eS:Int.fdiv (c+(out.getD (i+k) 0+xs.getD i 0*ys.getD k 0)) (2^(min (Int.toNat 32) (IntKind.bits .u64)))=(c+(out.getD (i+k) 0+xs.getD i 0*ys.getD k 0)) / 4294967296:=by
   show Int.fdiv _ 4294967296=_
   rw[Int.fdiv_eq_ediv_of_nonneg _ (by omega)]
  have h1:=Zjo na nb xs.length (lm xs) ys.length (lm ys) n (lm out) (i:Int) (xs.getD i 0) c (k:Int) (lm (out.set (i+k) ((c+(out.getD (i+k) 0+xs.getD i 0*ys.getD k 0)) % 4294967296))) (ys.getD k 0) (out.getD (i+k) 0)
   (by simp;omega) (by omega) (by rw[Int.toNat_natCast];exact hyk) (by rw[ei];omega) (by rw[ei,Int.toNat_natCast];exact hz) (by rw[ei];omega) (by rw[ei,Int.toNat_natCast,eW,Bu];exact hst)
  rw[eW,eS,ek] at h1
  exact Za.loop h1 (ih (k+1) _ _ (by omega) (by simpa using hl) (Q7 hu (by omega)) (by omega))
theorem Zi5 (na nb:Bool) (xs ys:List Int) (hx:U32 xs) (hy:U32 ys) (hN:xs.length+ys.length≤1048576):∀ (r i:Nat) (out:List Int),r+i=xs.length→out.length=xs.length+ys.length→U32 out→(∀ j,i+ys.length≤j→out.getD j 0=0) →
  ∃ out',out'.length=xs.length+ys.length∧U32 out'∧Zo out'=Zo out+4294967296^i*(Zo (xs.drop i)*Zo ys) ∧
   Za Yir (.loop Zfg) (Mo na nb xs.length (lm xs) ys.length (lm ys) (xs.length+ys.length) (lm out) (i:Int)) (.exit 0) (Mo na nb xs.length (lm xs) ys.length (lm ys) (xs.length+ys.length) (lm out') (xs.length:Int)):=by
 intro r
 induction r with
 | zero =>
  intro i out hi hl hu _
  have hi':i=xs.length:=by omega
  subst hi'
  refine⟨out,hl,hu,by simp[Zo],?_⟩
  exact Za.loop_out (Zen na nb xs.length (lm xs) ys.length (lm ys) (xs.length+ys.length) (lm out) (xs.length:Int) (by simp)) (by intro e;cases e)
 | succ r ih =>
  intro i out hi hl hu hz
  have hai:=Zz hx i
  have hlt:i<xs.length:=by omega
  have hin:=Zem na nb xs ys hx hy (xs.length+ys.length) i hN (by omega) ys.length 0 out 0 (by omega) hl hu (by omega)
  obtain⟨g1,g2,g3,g4,g5⟩:=Zhe (i:=i) hai hy ys.length 0 out 0 (by omega) (by omega) hu (by omega)
  generalize Gw (xs.getD i 0) ys i ys.length 0 out 0=q at *
  obtain⟨ds,c⟩:=q
  dsimp only at g1 g2 g3 g4 g5 hin
  have ei:i64.wrap ((i:Int)+(ys.length:Int))=((i+ys.length:Nat):Int):=by rw[w64 (by omega) (by omega)];omega
  have ei1:i64.wrap ((i:Int)+1)=((i+1:Nat):Int):=by rw[w64 (by omega) (by omega)];omega
  have ec:u32.wrap c=c:=by rw[Bu];omega
  have hst:=Hf (xs:=ds) (i:=i+ys.length) (v:=c) (by omega)
  have hxi:=J6 (xs:=xs) (i:=i) hlt
  have h1:=Zad na nb xs.length (lm xs) ys.length (lm ys) (xs.length+ys.length) (lm out) (lm ds) (lm (ds.set (i+ys.length) c)) (i:Int) (xs.getD i 0) c (ys.length:Int) (by simp;omega) (by omega) (by rw[Int.toNat_natCast];exact hxi) hin (by rw[ei];omega) (by rw[ei,Int.toNat_natCast,ec];exact hst)
  rw[ei1] at h1
  obtain⟨out',k1,k2,k3,k4⟩:=ih (i+1) (ds.set (i+ys.length) c) (by omega) (by simp;omega) (Q7 g2 g3) (fun j hj=>by rw[D8 (by omega),g5 j (by omega),hz j (by omega)])
  refine⟨out',k1,k2,?_,Za.loop h1 k4⟩
  have hv:Zo (ds.set (i+ys.length) c)=Zo out+4294967296^i*(xs.getD i 0*Zo ys):=by
   rw[J3 ds _ _ (by omega),g5 _ (Nat.le_refl _),hz _ (Nat.le_refl _)]
   simp only[Nat.add_zero,List.drop_zero,Int.zero_add,Int.sub_zero] at g4 ⊢
   exact g4
  have hd:Zo (xs.drop i)=xs.getD i 0+4294967296*Zo (xs.drop (i+1)):=Q5 xs i
  rw[k3,hv,hd,Int.pow_succ]
  generalize (4294967296:Int)^i=p at *
  generalize Zo (xs.drop (i+1))=V at *
  grind
theorem Zef (na:Bool) (xs:List Int) (nb:Bool) (ys:List Int) (a b:Int) (h1:Ze Yir 122 [.agg [.bool na, .sl xs.length (lm xs)]] (.tup [.bool (decide (a<0)), .sl (Zb (Int.natAbs a)).length (lm (Zb (Int.natAbs a)))])) (h2:Ze Yir 122 [.agg [.bool nb, .sl ys.length (lm ys)]] (.tup [.bool (decide (b<0)), .sl (Zb (Int.natAbs b)).length (lm (Zb (Int.natAbs b)))])) (z:((((Zb (Int.natAbs a)).length:Nat):Int)==0)=true):Ze Yir 113 [.agg [.bool na, .sl xs.length (lm xs)], .agg [.bool nb, .sl ys.length (lm ys)]] (.agg [.bool false, .sl 0 []]):=Ze.script (ps:=[Ze Yir 122 [.agg [.bool na, .sl xs.length (lm xs)]] (.tup [.bool (decide (a<0)), .sl ((Zb (Int.natAbs a)).length) (lm (Zb (Int.natAbs a)))]),Ze Yir 122 [.agg [.bool nb, .sl ys.length (lm ys)]] (.tup [.bool (decide (b<0)), .sl ((Zb (Int.natAbs b)).length) (lm (Zb (Int.natAbs b)))]),((((Zb (Int.natAbs a)).length:Nat):Int)==0)=true,true=true]) Zf rfl 300 rfl [.r (.tup [.bool (decide (a<0)), .sl ((Zb (Int.natAbs a)).length) (lm (Zb (Int.natAbs a)))]), .r (.tup [.bool (decide (b<0)), .sl ((Zb (Int.natAbs b)).length) (lm (Zb (Int.natAbs b)))]), .b true, .b true] (by kernel_rfl) ⟨h1,h2,z,rfl,trivial⟩
theorem Zee (na:Bool) (xs:List Int) (nb:Bool) (ys:List Int) (a b:Int) (h1:Ze Yir 122 [.agg [.bool na, .sl xs.length (lm xs)]] (.tup [.bool (decide (a<0)), .sl (Zb (Int.natAbs a)).length (lm (Zb (Int.natAbs a)))])) (h2:Ze Yir 122 [.agg [.bool nb, .sl ys.length (lm ys)]] (.tup [.bool (decide (b<0)), .sl (Zb (Int.natAbs b)).length (lm (Zb (Int.natAbs b)))])) (y:((((Zb (Int.natAbs a)).length:Nat):Int)==0)=false) (z:((((Zb (Int.natAbs b)).length:Nat):Int)==0)=true):Ze Yir 113 [.agg [.bool na, .sl xs.length (lm xs)], .agg [.bool nb, .sl ys.length (lm ys)]] (.agg [.bool false, .sl 0 []]):=Ze.script (ps:=[Ze Yir 122 [.agg [.bool na, .sl xs.length (lm xs)]] (.tup [.bool (decide (a<0)), .sl ((Zb (Int.natAbs a)).length) (lm (Zb (Int.natAbs a)))]),Ze Yir 122 [.agg [.bool nb, .sl ys.length (lm ys)]] (.tup [.bool (decide (b<0)), .sl ((Zb (Int.natAbs b)).length) (lm (Zb (Int.natAbs b)))]),((((Zb (Int.natAbs a)).length:Nat):Int)==0)=false,((((Zb (Int.natAbs b)).length:Nat):Int)==0)=true]) Zf rfl 300 rfl [.r (.tup [.bool (decide (a<0)), .sl ((Zb (Int.natAbs a)).length) (lm (Zb (Int.natAbs a)))]), .r (.tup [.bool (decide (b<0)), .sl ((Zb (Int.natAbs b)).length) (lm (Zb (Int.natAbs b)))]), .b false, .b true] (by kernel_rfl) ⟨h1,h2,y,z,trivial⟩
theorem Zed (na:Bool) (xs:List Int) (nb:Bool) (ys:List Int) (a b:Int) (h1:Ze Yir 122 [.agg [.bool na, .sl xs.length (lm xs)]] (.tup [.bool (decide (a<0)), .sl (Zb (Int.natAbs a)).length (lm (Zb (Int.natAbs a)))])) (h2:Ze Yir 122 [.agg [.bool nb, .sl ys.length (lm ys)]] (.tup [.bool (decide (b<0)), .sl (Zb (Int.natAbs b)).length (lm (Zb (Int.natAbs b)))])) (out:List Int) (r:Int) (y:((((Zb (Int.natAbs a)).length:Nat):Int)==0)=false) (z:((((Zb (Int.natAbs b)).length:Nat):Int)==0)=false) (hmk:0≤i64.wrap ((((Zb (Int.natAbs a)).length:Nat):Int)+(((Zb (Int.natAbs b)).length:Nat):Int))∧i64.wrap ((((Zb (Int.natAbs a)).length:Nat):Int)+(((Zb (Int.natAbs b)).length:Nat):Int))≤1048576) (hl:Za Yir (.loop Zfg) (Mo (decide (a<0)) (decide (b<0)) (Zb (Int.natAbs a)).length (lm (Zb (Int.natAbs a))) (Zb (Int.natAbs b)).length (lm (Zb (Int.natAbs b))) (Int.toNat (i64.wrap ((((Zb (Int.natAbs a)).length:Nat):Int)+(((Zb (Int.natAbs b)).length:Nat):Int)))) (Qy [.int .u32 0] (Int.toNat (i64.wrap ((((Zb (Int.natAbs a)).length:Nat):Int)+(((Zb (Int.natAbs b)).length:Nat):Int))))) 0) (.exit 0) (Mo (decide (a<0)) (decide (b<0)) (Zb (Int.natAbs a)).length (lm (Zb (Int.natAbs a))) (Zb (Int.natAbs b)).length (lm (Zb (Int.natAbs b))) (Int.toNat (i64.wrap ((((Zb (Int.natAbs a)).length:Nat):Int)+(((Zb (Int.natAbs b)).length:Nat):Int)))) (lm out) (((Zb (Int.natAbs a)).length:Nat):Int))) (h3:Ze Yir 133 [.bool (!((decide (a<0))==(decide (b<0)))), .sl (Int.toNat (i64.wrap ((((Zb (Int.natAbs a)).length:Nat):Int)+(((Zb (Int.natAbs b)).length:Nat):Int)))) (lm out)] (.agg [.bool (decide (r<0)), .sl ((Zb (Int.natAbs r)).length) (lm (Zb (Int.natAbs r)))])):Ze Yir 113 [.agg [.bool na, .sl xs.length (lm xs)], .agg [.bool nb, .sl ys.length (lm ys)]] (.agg [.bool (decide (r<0)), .sl ((Zb (Int.natAbs r)).length) (lm (Zb (Int.natAbs r)))]):=Ze.of_bodyW (fn:=Ze1) (s:=(dds 4 (.box [.bool (decide (r<0)), .sl ((Zb (Int.natAbs r)).length) (lm (Zb (Int.natAbs r)))]::(.val (.bool (decide (a<0)))::(dds 1 (.val (.bool (decide (b<0)))::(.val (.sl ((Zb (Int.natAbs b)).length) (lm (Zb (Int.natAbs b))))::(.val (.sl (Int.toNat (i64.wrap ((((Zb (Int.natAbs a)).length:Nat):Int)+(((Zb (Int.natAbs b)).length:Nat):Int)))) (lm out))::(dds 31 (.val (.sl ((Zb (Int.natAbs a)).length) (lm (Zb (Int.natAbs a))))::(.val (.int .i64 (((Zb (Int.natAbs a)).length:Nat):Int))::(.val (.int .i64 (((Zb (Int.natAbs a)).length:Nat):Int))::(dds 45 (.val (.bool (decide (a<0)))::(.val (.bool (decide (b<0)))::(.val (.bool (!((decide (a<0))==(decide (b<0)))))::(.val (.sl (Int.toNat (i64.wrap ((((Zb (Int.natAbs a)).length:Nat):Int)+(((Zb (Int.natAbs b)).length:Nat):Int)))) (lm out))::(.val (.agg [.bool (decide (r<0)), .sl ((Zb (Int.natAbs r)).length) (lm (Zb (Int.natAbs r)))])::[])))))))))))))))))) (ex := .ret) rfl rfl (Za.seq (Za.script (t:=(.val (.agg [.bool na, .sl xs.length (lm xs)])::(.val (.agg [.bool nb, .sl ys.length (lm ys)])::(.box [.bool na, .sl xs.length (lm xs)]::(.box [.bool nb, .sl ys.length (lm ys)]::(.box [.bool false, .sl 0 []]::(dds 89 []))))))) (ps:=[]) Zf 300 [] [0,1,2,3,4] (by kernel_rfl) trivial) (Za.seq (Za.script (t:=(.val (.agg [.bool na, .sl xs.length (lm xs)])::(.val (.agg [.bool nb, .sl ys.length (lm ys)])::(.box [.bool na, .sl xs.length (lm xs)]::(.box [.bool nb, .sl ys.length (lm ys)]::(.box [.bool false, .sl 0 []]::(.val (.bool (decide (a<0)))::(.val (.sl ((Zb (Int.natAbs a)).length) (lm (Zb (Int.natAbs a))))::(dds 9 (.val (.tup [.bool (decide (a<0)), .sl ((Zb (Int.natAbs a)).length) (lm (Zb (Int.natAbs a)))])::(.val (.agg [.bool na, .sl xs.length (lm xs)])::(.val (.tup [.bool (decide (a<0)), .sl ((Zb (Int.natAbs a)).length) (lm (Zb (Int.natAbs a)))])::(.val (.bool (decide (a<0)))::(.val (.sl ((Zb (Int.natAbs a)).length) (lm (Zb (Int.natAbs a))))::(dds 73 []))))))))))))))) (ps:=[Ze Yir 122 [.agg [.bool na, .sl xs.length (lm xs)]] (.tup [.bool (decide (a<0)), .sl ((Zb (Int.natAbs a)).length) (lm (Zb (Int.natAbs a)))])]) Zf 300 [.r (.tup [.bool (decide (a<0)), .sl ((Zb (Int.natAbs a)).length) (lm (Zb (Int.natAbs a)))])] [0,1,2,3,4,5,6,16,17,18,19,20] (by kernel_rfl) ⟨h1,trivial⟩) (Za.seq (Za.script (t:=(.val (.agg [.bool na, .sl xs.length (lm xs)])::(.val (.agg [.bool nb, .sl ys.length (lm ys)])::(.box [.bool na, .sl xs.length (lm xs)]::(.box [.bool nb, .sl ys.length (lm ys)]::(.box [.bool false, .sl 0 []]::(.val (.bool (decide (a<0)))::(.val (.sl ((Zb (Int.natAbs a)).length) (lm (Zb (Int.natAbs a))))::(.val (.bool (decide (b<0)))::(.val (.sl ((Zb (Int.natAbs b)).length) (lm (Zb (Int.natAbs b))))::(dds 7 (.val (.tup [.bool (decide (a<0)), .sl ((Zb (Int.natAbs a)).length) (lm (Zb (Int.natAbs a)))])::(.val (.agg [.bool na, .sl xs.length (lm xs)])::(.val (.tup [.bool (decide (a<0)), .sl ((Zb (Int.natAbs a)).length) (lm (Zb (Int.natAbs a)))])::(.val (.bool (decide (a<0)))::(.val (.sl ((Zb (Int.natAbs a)).length) (lm (Zb (Int.natAbs a))))::(.val (.tup [.bool (decide (b<0)), .sl ((Zb (Int.natAbs b)).length) (lm (Zb (Int.natAbs b)))])::(.val (.agg [.bool nb, .sl ys.length (lm ys)])::(.val (.tup [.bool (decide (b<0)), .sl ((Zb (Int.natAbs b)).length) (lm (Zb (Int.natAbs b)))])::(.val (.bool (decide (b<0)))::(.val (.sl ((Zb (Int.natAbs b)).length) (lm (Zb (Int.natAbs b))))::(dds 68 [])))))))))))))))))))))) (ps:=[Ze Yir 122 [.agg [.bool nb, .sl ys.length (lm ys)]] (.tup [.bool (decide (b<0)), .sl ((Zb (Int.natAbs b)).length) (lm (Zb (Int.natAbs b)))])]) Zf 300 [.r (.tup [.bool (decide (b<0)), .sl ((Zb (Int.natAbs b)).length) (lm (Zb (Int.natAbs b)))])] [0,1,2,3,4,5,6,7,8,16,17,18,19,20,21,22,23,24,25] (by kernel_rfl) ⟨h2,trivial⟩) (Za.seq (Za.script (t:=(.val (.agg [.bool na, .sl xs.length (lm xs)])::(.val (.agg [.bool nb, .sl ys.length (lm ys)])::(.box [.bool na, .sl xs.length (lm xs)]::(.box [.bool nb, .sl ys.length (lm ys)]::(.box [.bool false, .sl 0 []]::(.val (.bool (decide (a<0)))::(.val (.sl ((Zb (Int.natAbs a)).length) (lm (Zb (Int.natAbs a))))::(.val (.bool (decide (b<0)))::(.val (.sl ((Zb (Int.natAbs b)).length) (lm (Zb (Int.natAbs b))))::(dds 7 (.val (.tup [.bool (decide (a<0)), .sl ((Zb (Int.natAbs a)).length) (lm (Zb (Int.natAbs a)))])::(.val (.agg [.bool na, .sl xs.length (lm xs)])::(.val (.tup [.bool (decide (a<0)), .sl ((Zb (Int.natAbs a)).length) (lm (Zb (Int.natAbs a)))])::(.val (.bool (decide (a<0)))::(.val (.sl ((Zb (Int.natAbs a)).length) (lm (Zb (Int.natAbs a))))::(.val (.tup [.bool (decide (b<0)), .sl ((Zb (Int.natAbs b)).length) (lm (Zb (Int.natAbs b)))])::(.val (.agg [.bool nb, .sl ys.length (lm ys)])::(.val (.tup [.bool (decide (b<0)), .sl ((Zb (Int.natAbs b)).length) (lm (Zb (Int.natAbs b)))])::(.val (.bool (decide (b<0)))::(.val (.sl ((Zb (Int.natAbs b)).length) (lm (Zb (Int.natAbs b))))::(.val (.sl ((Zb (Int.natAbs a)).length) (lm (Zb (Int.natAbs a))))::(vi (((Zb (Int.natAbs a)).length:Nat):Int)::(.val (.bool ((((Zb (Int.natAbs a)).length:Nat):Int)==0))::(.val (.bool ((((Zb (Int.natAbs a)).length:Nat):Int)==0))::(.val (.sl ((Zb (Int.natAbs b)).length) (lm (Zb (Int.natAbs b))))::(vi (((Zb (Int.natAbs b)).length:Nat):Int)::(.val (.bool ((((Zb (Int.natAbs b)).length:Nat):Int)==0))::(.val (.bool ((((Zb (Int.natAbs b)).length:Nat):Int)==0))::(dds 60 [])))))))))))))))))))))))))))))) (ps:=[((((Zb (Int.natAbs a)).length:Nat):Int)==0)=false,((((Zb (Int.natAbs b)).length:Nat):Int)==0)=false]) Zf 300 [.b false, .b false] [0,1,2,3,4,5,6,7,8,16,17,18,19,20,21,22,23,24,25,26,27,28,29,30,31,32,33] (by kernel_rfl) ⟨y,z,trivial⟩) (Za.seq (Za.script (t:=(.val (.agg [.bool na, .sl xs.length (lm xs)])::(.val (.agg [.bool nb, .sl ys.length (lm ys)])::(.box [.bool na, .sl xs.length (lm xs)]::(.box [.bool nb, .sl ys.length (lm ys)]::(.box [.bool false, .sl 0 []]::(.val (.bool (decide (a<0)))::(.val (.sl ((Zb (Int.natAbs a)).length) (lm (Zb (Int.natAbs a))))::(.val (.bool (decide (b<0)))::(.val (.sl ((Zb (Int.natAbs b)).length) (lm (Zb (Int.natAbs b))))::(.own 1 (Int.toNat (i64.wrap ((((Zb (Int.natAbs a)).length:Nat):Int)+(((Zb (Int.natAbs b)).length:Nat):Int)))) (Qy [.int .u32 0] (Int.toNat (i64.wrap ((((Zb (Int.natAbs a)).length:Nat):Int)+(((Zb (Int.natAbs b)).length:Nat):Int)))))::(dds 6 (.val (.tup [.bool (decide (a<0)), .sl ((Zb (Int.natAbs a)).length) (lm (Zb (Int.natAbs a)))])::(.val (.agg [.bool na, .sl xs.length (lm xs)])::(.val (.tup [.bool (decide (a<0)), .sl ((Zb (Int.natAbs a)).length) (lm (Zb (Int.natAbs a)))])::(.val (.bool (decide (a<0)))::(.val (.sl ((Zb (Int.natAbs a)).length) (lm (Zb (Int.natAbs a))))::(.val (.tup [.bool (decide (b<0)), .sl ((Zb (Int.natAbs b)).length) (lm (Zb (Int.natAbs b)))])::(.val (.agg [.bool nb, .sl ys.length (lm ys)])::(.val (.tup [.bool (decide (b<0)), .sl ((Zb (Int.natAbs b)).length) (lm (Zb (Int.natAbs b)))])::(.val (.bool (decide (b<0)))::(.val (.sl ((Zb (Int.natAbs b)).length) (lm (Zb (Int.natAbs b))))::(.val (.sl ((Zb (Int.natAbs a)).length) (lm (Zb (Int.natAbs a))))::(vi (((Zb (Int.natAbs a)).length:Nat):Int)::(.val (.bool ((((Zb (Int.natAbs a)).length:Nat):Int)==0))::(.val (.bool ((((Zb (Int.natAbs a)).length:Nat):Int)==0))::(.val (.sl ((Zb (Int.natAbs b)).length) (lm (Zb (Int.natAbs b))))::(vi (((Zb (Int.natAbs b)).length:Nat):Int)::(.val (.bool ((((Zb (Int.natAbs b)).length:Nat):Int)==0))::(.val (.bool ((((Zb (Int.natAbs b)).length:Nat):Int)==0))::(dds 1 (.val (.sl ((Zb (Int.natAbs a)).length) (lm (Zb (Int.natAbs a))))::(vi (((Zb (Int.natAbs a)).length:Nat):Int)::(.val (.sl ((Zb (Int.natAbs b)).length) (lm (Zb (Int.natAbs b))))::(vi (((Zb (Int.natAbs b)).length:Nat):Int)::(vi (i64.wrap ((((Zb (Int.natAbs a)).length:Nat):Int)+(((Zb (Int.natAbs b)).length:Nat):Int)))::(dds 54 []))))))))))))))))))))))))))))))))))))) (ps:=[0≤(i64.wrap ((((Zb (Int.natAbs a)).length:Nat):Int)+(((Zb (Int.natAbs b)).length:Nat):Int)))∧(i64.wrap ((((Zb (Int.natAbs a)).length:Nat):Int)+(((Zb (Int.natAbs b)).length:Nat):Int)))≤1048576]) Zf 300 [] ((0)::(1)::(2)::(3)::(4)::(5)::(6)::(7)::(8)::(9)::(16)::(17)::(18)::(19)::(20)::(21)::(22)::(23)::(24)::(25)::(26)::(27)::(28)::(29)::(30)::(31)::(32)::(33)::(35)::(36)::(37)::(38)::(39)::[]) (by kernel_rfl) ⟨hmk,trivial⟩) (Za.seq (Za.seq (Za.script (t:=(dds 4 (.box [.bool false, .sl 0 []]::(.val (.bool (decide (a<0)))::(dds 1 (.val (.bool (decide (b<0)))::(.val (.sl ((Zb (Int.natAbs b)).length) (lm (Zb (Int.natAbs b))))::(.own 1 (Int.toNat (i64.wrap ((((Zb (Int.natAbs a)).length:Nat):Int)+(((Zb (Int.natAbs b)).length:Nat):Int)))) (Qy [.int .u32 0] (Int.toNat (i64.wrap ((((Zb (Int.natAbs a)).length:Nat):Int)+(((Zb (Int.natAbs b)).length:Nat):Int)))))::(dds 31 (.val (.sl ((Zb (Int.natAbs a)).length) (lm (Zb (Int.natAbs a))))::(vi (((Zb (Int.natAbs a)).length:Nat):Int)::(vi 0::(dds 50 []))))))))))))) (ps:=[]) Zf 300 [] [4,5,7,8,9,41,42,43] (by kernel_rfl) trivial) (Za.block hl)) (Za.script (t:=(dds 4 (bN r::(.val (.bool (decide (a<0)))::(dds 1 (.val (.bool (decide (b<0)))::(.val (.sl ((Zb (Int.natAbs b)).length) (lm (Zb (Int.natAbs b))))::(.val (.sl (Int.toNat (i64.wrap ((((Zb (Int.natAbs a)).length:Nat):Int)+(((Zb (Int.natAbs b)).length:Nat):Int)))) (lm out))::(dds 31 (.val (.sl ((Zb (Int.natAbs a)).length) (lm (Zb (Int.natAbs a))))::(vi (((Zb (Int.natAbs a)).length:Nat):Int)::(vi (((Zb (Int.natAbs a)).length:Nat):Int)::(dds 45 (.val (.bool (decide (a<0)))::(.val (.bool (decide (b<0)))::(.val (.bool (!((decide (a<0))==(decide (b<0)))))::(.val (.sl (Int.toNat (i64.wrap ((((Zb (Int.natAbs a)).length:Nat):Int)+(((Zb (Int.natAbs b)).length:Nat):Int)))) (lm out))::(.val (.agg [.bool (decide (r<0)), .sl ((Zb (Int.natAbs r)).length) (lm (Zb (Int.natAbs r)))])::[])))))))))))))))))) (ex := .ret) (ps:=[Ze Yir 133 [.bool (!((decide (a<0))==(decide (b<0)))), .sl (Int.toNat (i64.wrap ((((Zb (Int.natAbs a)).length:Nat):Int)+(((Zb (Int.natAbs b)).length:Nat):Int)))) (lm out)] (.agg [.bool (decide (r<0)), .sl ((Zb (Int.natAbs r)).length) (lm (Zb (Int.natAbs r)))])]) Zf 300 [.r (.agg [.bool (decide (r<0)), .sl ((Zb (Int.natAbs r)).length) (lm (Zb (Int.natAbs r)))])] [4,5,7,8,9,41,42,43,89,90,91,92,93] (by kernel_rfl) ⟨h3,trivial⟩))))))) (by intro i e;cases e) rfl
theorem Zgl (a b:Int) (zs:List Int) (h:Zo zs=(a.natAbs:Int)*(b.natAbs:Int)):rv (!(decide (a<0)==decide (b<0))) zs=a*b:=by
 unfold rv
 rw[h]
 by_cases g1:a<0 <;> by_cases g2:b<0
 ·have e1:(a.natAbs:Int) = -a:=by omega
  have e2:(b.natAbs:Int) = -b:=by omega
  rw[e1,e2];simp[g1,g2] <;> grind
 ·have e1:(a.natAbs:Int) = -a:=by omega
  have e2:(b.natAbs:Int)=b:=by omega
  rw[e1,e2];simp[g1,g2] <;> grind
 ·have e1:(a.natAbs:Int)=a:=by omega
  have e2:(b.natAbs:Int) = -b:=by omega
  rw[e1,e2];simp[g1,g2] <;> grind
 ·have e1:(a.natAbs:Int)=a:=by omega
  have e2:(b.natAbs:Int)=b:=by omega
  rw[e1,e2];simp[g1,g2]
theorem A5 {na nb:Bool} {xs ys:List Int} (hx:U32 xs) (hy:U32 ys) (hN:xs.length+ys.length≤1048576):Ze Yir 113 [.agg [.bool na, .sl xs.length (lm xs)], .agg [.bool nb, .sl ys.length (lm ys)]] (Zp (rv na xs*rv nb ys)):=by
 have l1:=Uy (neg:=na) hx
 have l2:=Uy (neg:=nb) hy
 have k1:=Q8 (neg:=na) hx (by omega)
 have k2:=Q8 (neg:=nb) hy (by omega)
 generalize rv na xs=a at *
 generalize rv nb ys=b at *
 have z1:=Jq a.natAbs
 have z2:=Jq b.natAbs
 by_cases ha:a=0
 ·have h:=Zef na xs nb ys a b k1 k2 (by rw[beq_iff_eq];omega)
  rw[ha,Int.zero_mul]
  exact h
 by_cases hb:b=0
 ·have h:=Zee na xs nb ys a b k1 k2 (by rw[beq_eq_false_iff_ne];omega) (by rw[beq_iff_eq];omega)
  rw[hb,Int.mul_zero]
  exact h
 have e1:i64.wrap ((((Zb (Int.natAbs a)).length:Nat):Int)+(((Zb (Int.natAbs b)).length:Nat):Int))=(((Zb (Int.natAbs a)).length+(Zb (Int.natAbs b)).length:Nat):Int):=by rw[w64 (by omega) (by omega)];omega
 have e2:(Int.toNat (i64.wrap ((((Zb (Int.natAbs a)).length:Nat):Int)+(((Zb (Int.natAbs b)).length:Nat):Int))))=(Zb (Int.natAbs a)).length+(Zb (Int.natAbs b)).length:=by rw[e1,Int.toNat_natCast]
 obtain⟨out,o1,o2,o3,o4⟩:=Zi5 (decide (a<0)) (decide (b<0)) (Zb (Int.natAbs a)) (Zb (Int.natAbs b)) (Jt _) (Jt _) (by omega) (Zb (Int.natAbs a)).length 0 (List.replicate ((Zb (Int.natAbs a)).length+(Zb (Int.natAbs b)).length) 0) (by omega) (by simp) (Xq _) (fun j _=>Jz _ j)
 have hv:Zo out=(a.natAbs:Int)*(b.natAbs:Int):=by rw[o3,Xx];simp[Jx]
 have h3:=Xm (neg := !(decide (a<0)==decide (b<0))) o2 (by omega)
 rw[Zgl a b out hv,o1] at h3
 exact Zed na xs nb ys a b k1 k2 out _ (by rw[beq_eq_false_iff_ne];omega) (by rw[beq_eq_false_iff_ne];omega) (by rw[e1];omega) (by rw[e2,Uk];exact o4) (by rw[e2];exact h3)
def TWC:Ji:=TWB
theorem Zv:Qh Yir TWC:=Zf
end Go.Proofs.Ythnnfemologhfaa

namespace Go.Proofs.Ythnnfemologhfaa
open Go.IntKind (i64 u64 u32)
open Go.Ai
set_option maxRecDepth 100000
def L6 (na:Bool) (xs:List Int) (w:Int) (s:Int) (k:Nat) (os:List Int) (n:Int) (i:Int) (z:Rn):Zi:=(dds 4 (.box [.bool z.1, .sl z.2.length (lm z.2)]::(.val (.bool na)::(dds 1 (.val (.int .i64 w)::(.val (.int .u64 s)::(.own 1 k (lm os)::(dds 23 (.val (.sl xs.length (lm xs))::(.val (.int .i64 n)::(.val (.int .i64 i)::(dds 31 []))))))))))))
theorem Zo2 (na:Bool) (xs:List Int) (w:Int) (s:Int) (k:Nat) (os:List Int) (n:Int) (i:Int) (z:Rn)  (c1:(decide (i<n))=true) (n1:0≤i∧i<(xs.length:Int)) (n2:¬ s<0) (n3:0≤(i64.wrap (i+w))∧(i64.wrap (i+w))<(k:Int)) (n4:os.length=k) (n5:0≤(i64.wrap ((i64.wrap (i+w))+1))∧(i64.wrap ((i64.wrap (i+w))+1))<(k:Int)) (n6:(os.set (Int.toNat (i64.wrap (i+w))) (u32.wrap ((BitVec.ofInt (IntKind.bits .u32) (os.getD (Int.toNat (i64.wrap (i+w))) 0) ||| BitVec.ofInt (IntKind.bits .u32) (u32.wrap (u64.wrap ((u64.wrap (xs.getD (Int.toNat i) 0))*2^(min (Int.toNat s) (IntKind.bits .u64)))))).toNat))).length=k):Za Yir Zfe (L6 na xs w s k os n i z) .norm (L6 na xs w s k ((os.set (Int.toNat (i64.wrap (i+w))) (u32.wrap ((BitVec.ofInt (IntKind.bits .u32) (os.getD (Int.toNat (i64.wrap (i+w))) 0) ||| BitVec.ofInt (IntKind.bits .u32) (u32.wrap (u64.wrap ((u64.wrap (xs.getD (Int.toNat i) 0))*2^(min (Int.toNat s) (IntKind.bits .u64)))))).toNat))).set (Int.toNat (i64.wrap ((i64.wrap (i+w))+1))) (u32.wrap (Int.fdiv (u64.wrap ((u64.wrap (xs.getD (Int.toNat i) 0))*2^(min (Int.toNat s) (IntKind.bits .u64)))) (2^(min (Int.toNat 32) (IntKind.bits .u64)))))) n (i64.wrap (i+1)) z):=(Za.go Zv 400 [.b true, .v (.int .u32 (xs.getD (Int.toNat i) 0)), .v (.int .u32 (os.getD (Int.toNat (i64.wrap (i+w))) 0)), .l (lm (os.set (Int.toNat (i64.wrap (i+w))) (u32.wrap ((BitVec.ofInt (IntKind.bits .u32) (os.getD (Int.toNat (i64.wrap (i+w))) 0) ||| BitVec.ofInt (IntKind.bits .u32) (u32.wrap (u64.wrap ((u64.wrap (xs.getD (Int.toNat i) 0))*2^(min (Int.toNat s) (IntKind.bits .u64)))))).toNat)))), .l (lm ((os.set (Int.toNat (i64.wrap (i+w))) (u32.wrap ((BitVec.ofInt (IntKind.bits .u32) (os.getD (Int.toNat (i64.wrap (i+w))) 0) ||| BitVec.ofInt (IntKind.bits .u32) (u32.wrap (u64.wrap ((u64.wrap (xs.getD (Int.toNat i) 0))*2^(min (Int.toNat s) (IntKind.bits .u64)))))).toNat))).set (Int.toNat (i64.wrap ((i64.wrap (i+w))+1))) (u32.wrap (Int.fdiv (u64.wrap ((u64.wrap (xs.getD (Int.toNat i) 0))*2^(min (Int.toNat s) (IntKind.bits .u64)))) (2^(min (Int.toNat 32) (IntKind.bits .u64)))))))] [4,5,7,8,9,33,34,35] (ac c1 (ac n1 (ac (Xr n1) (ac n2 (ac n3 (ac (Jk n4 n3) (ac n3 (ac (show X4 (lm os) (Int.toNat (i64.wrap (i+w))*1) [.int .u32 (u32.wrap ((BitVec.ofInt (IntKind.bits .u32) (os.getD (Int.toNat (i64.wrap (i+w))) 0) ||| BitVec.ofInt (IntKind.bits .u32) (u32.wrap (u64.wrap ((u64.wrap (xs.getD (Int.toNat i) 0))*2^(min (Int.toNat s) (IntKind.bits .u64)))))).toNat))]=some (lm (os.set (Int.toNat (i64.wrap (i+w))) (u32.wrap ((BitVec.ofInt (IntKind.bits .u32) (os.getD (Int.toNat (i64.wrap (i+w))) 0) ||| BitVec.ofInt (IntKind.bits .u32) (u32.wrap (u64.wrap ((u64.wrap (xs.getD (Int.toNat i) 0))*2^(min (Int.toNat s) (IntKind.bits .u64)))))).toNat)))) from (J8 n4 n3)) (ac (show ¬ (32:Int)<0 from (by decide)) (ac n5 (ac (show X4 (lm (os.set (Int.toNat (i64.wrap (i+w))) (u32.wrap ((BitVec.ofInt (IntKind.bits .u32) (os.getD (Int.toNat (i64.wrap (i+w))) 0) ||| BitVec.ofInt (IntKind.bits .u32) (u32.wrap (u64.wrap ((u64.wrap (xs.getD (Int.toNat i) 0))*2^(min (Int.toNat s) (IntKind.bits .u64)))))).toNat)))) (Int.toNat (i64.wrap ((i64.wrap (i+w))+1))*1) [.int .u32 (u32.wrap (Int.fdiv (u64.wrap ((u64.wrap (xs.getD (Int.toNat i) 0))*2^(min (Int.toNat s) (IntKind.bits .u64)))) (2^(min (Int.toNat 32) (IntKind.bits .u64)))))]=some (lm ((os.set (Int.toNat (i64.wrap (i+w))) (u32.wrap ((BitVec.ofInt (IntKind.bits .u32) (os.getD (Int.toNat (i64.wrap (i+w))) 0) ||| BitVec.ofInt (IntKind.bits .u32) (u32.wrap (u64.wrap ((u64.wrap (xs.getD (Int.toNat i) 0))*2^(min (Int.toNat s) (IntKind.bits .u64)))))).toNat))).set (Int.toNat (i64.wrap ((i64.wrap (i+w))+1))) (u32.wrap (Int.fdiv (u64.wrap ((u64.wrap (xs.getD (Int.toNat i) 0))*2^(min (Int.toNat s) (IntKind.bits .u64)))) (2^(min (Int.toNat 32) (IntKind.bits .u64))))))) from (J8 n6 n5)) a0))))))))))))
theorem Zo1 (na:Bool) (xs:List Int) (w:Int) (s:Int) (k:Nat) (os:List Int) (n:Int) (i:Int) (z:Rn)  (c1:(decide (i<n))=false):Za Yir Zfe (L6 na xs w s k os n i z) (.exit 0) (L6 na xs w s k os n i z):=(Za.go Zv 400 [.b false] [4,5,7,8,9,33,34,35] (ac c1 a0))
theorem Zd9 (b na:Bool) (xs as1:List Int) (m:Int) (c1:((as1.length:Int)==0)=true) (n1:Ze Yir 122 [.agg [.bool b, .sl xs.length (lm xs)]] (.tup [.bool na, .sl as1.length (lm as1)])):Ze Yir 124 [.agg [.bool b, .sl xs.length (lm xs)], .int .i64 m] (.agg [.bool false, .sl 0 []]):=Ze.of_bodyW (fn:=Zai) (s:=(dds 4 (.box [.bool false, .sl 0 []]::(dds 62 [])))) (ex := .ret) rfl rfl (Za.seq (Za.go (t:=(.val (.agg [.bool b, .sl xs.length (lm xs)])::(vi m::(.box [.bool b, .sl xs.length (lm xs)]::(dds 1 (.box [.bool false, .sl 0 []]::(dds 62 []))))))) Zv 400 [] [0,1,2,4] a0) (Za.seq (Za.go (t:=(.val (.agg [.bool b, .sl xs.length (lm xs)])::(vi m::(.box [.bool b, .sl xs.length (lm xs)]::(dds 1 (.box [.bool false, .sl 0 []]::(.val (.bool na)::(vl as1::(dds 60 []))))))))) Zv 400 [.r (.tup [.bool na, .sl as1.length (lm as1)])] [0,1,2,4,5,6] (ac n1 a0)) (Za.seq_out (Za.go Zv 400 [.b true] [4] (ac c1 a0)) (by intro e;cases e)))) (by intro i e;cases e) rfl
theorem Zd8 (b na:Bool) (xs as1 os:List Int) (m w s n i v:Int) (k:Nat) (z:Rn) (c1:((as1.length:Int)==0)=false) (n1:Ze Yir 122 [.agg [.bool b, .sl xs.length (lm xs)]] (.tup [.bool na, .sl as1.length (lm as1)])) (n2:0≤(i64.wrap ((i64.wrap ((as1.length:Int)+(i64.wrap (Int.tdiv m 32))))+1))∧(i64.wrap ((i64.wrap ((as1.length:Int)+(i64.wrap (Int.tdiv m 32))))+1))≤1048576) (hl3:Za Yir (.loop Zfe) ((dds 4 (.box [.bool false, .sl 0 []]::(.val (.bool na)::(dds 1 (.val (.int .i64 (i64.wrap (Int.tdiv m 32)))::(.val (.int .u64 (u64.wrap (Int.tmod m 32)))::(.own 1 (Int.toNat (i64.wrap ((i64.wrap ((as1.length:Int)+(i64.wrap (Int.tdiv m 32))))+1))) (Qy [.int .u32 0] (Int.toNat (i64.wrap ((i64.wrap ((as1.length:Int)+(i64.wrap (Int.tdiv m 32))))+1))))::(dds 23 (.val (.sl as1.length (lm as1))::(.val (.int .i64 (as1.length:Int))::(.val (.int .i64 0)::(dds 31 []))))))))))))) (.exit 0) (L6 na as1 w s k os n i z)) (n4:Ze Yir 133 [.bool na, .sl k (lm os)] (Zp v)):Ze Yir 124 [.agg [.bool b, .sl xs.length (lm xs)], .int .i64 m] (Zp v):=Ze.of_bodyW (fn:=Zai) (s:=(dds 4 (.box [.bool (decide (v<0)), .sl ((Zb (Int.natAbs v)).length) (lm (Zb (Int.natAbs v)))]::(dds 62 [])))) (ex := .ret) rfl rfl (Za.seq (Za.go (t:=(.val (.agg [.bool b, .sl xs.length (lm xs)])::(vi m::(.box [.bool b, .sl xs.length (lm xs)]::(dds 1 (.box [.bool false, .sl 0 []]::(dds 62 []))))))) Zv 400 [] [0,1,2,4] a0) (Za.seq (Za.go (t:=(.val (.agg [.bool b, .sl xs.length (lm xs)])::(vi m::(.box [.bool b, .sl xs.length (lm xs)]::(dds 1 (.box [.bool false, .sl 0 []]::(.val (.bool na)::(vl as1::(dds 60 []))))))))) Zv 400 [.r (.tup [.bool na, .sl as1.length (lm as1)])] [0,1,2,4,5,6] (ac n1 a0)) (Za.seq (Za.go (t:=(.val (.agg [.bool b, .sl xs.length (lm xs)])::(vi m::(.box [.bool b, .sl xs.length (lm xs)]::(dds 1 (.box [.bool false, .sl 0 []]::(.val (.bool na)::(vl as1::(dds 60 []))))))))) Zv 400 [.b false] [0,1,2,4,5,6] (ac c1 a0)) (Za.seq (Za.go (t:=(.val (.agg [.bool b, .sl xs.length (lm xs)])::(vi m::(.box [.bool b, .sl xs.length (lm xs)]::(dds 1 (.box [.bool false, .sl 0 []]::(.val (.bool na)::(vl as1::(vi (i64.wrap (Int.tdiv m 32))::(.val (.int .u64 (u64.wrap (Int.tmod m 32)))::(dds 58 []))))))))))) Zv 400 [] [0,1,2,4,5,6,7,8] (ac (show ¬ (32:Int)=0 from (by decide)) (ac (show ¬ (32:Int)=0 from (by decide)) a0))) (Za.seq (Za.go (t:=(.val (.agg [.bool b, .sl xs.length (lm xs)])::(vi m::(.box [.bool b, .sl xs.length (lm xs)]::(dds 1 (.box [.bool false, .sl 0 []]::(.val (.bool na)::(vl as1::(vi (i64.wrap (Int.tdiv m 32))::(.val (.int .u64 (u64.wrap (Int.tmod m 32)))::(.own 1 (Int.toNat (i64.wrap ((i64.wrap ((as1.length:Int)+(i64.wrap (Int.tdiv m 32))))+1))) (Qy [.int .u32 0] (Int.toNat (i64.wrap ((i64.wrap ((as1.length:Int)+(i64.wrap (Int.tdiv m 32))))+1))))::(dds 57 [])))))))))))) Zv 400 [] [0,1,2,4,5,6,7,8,9] (ac n2 a0)) (Za.seq (Za.seq (Za.go Zv 400 [] [4,5,7,8,9,33,34,35] a0) (Za.block hl3)) (Za.go Zv 400 [.r (Zp v)] [4] (ac n4 a0)))))))) (by intro i e;cases e) rfl
def Zlt (ts:List Rn) (r:Rn) (e:Int) (w:Rn) (i:Int) (s:Int):Zi:=(.val (.sl ts.length (pc ts))::(dds 2 (.box [.bool r.1, .sl r.2.length (lm r.2), .int .i64 e]::(dds 1 (.box [.bool w.1, .sl w.2.length (lm w.2)]::(.val (.int .i64 i)::(.val (.int .i64 s)::(dds 24 []))))))))
theorem Yk78_1 (ts:List Rn) (r:Rn) (e:Int) (w:Rn) (i:Int) (s:Int) (t:Int) (c1:(decide (i≥0))=true) (n1:0≤i∧i<(ts.length:Int)) (n2:Ze Yir 113 [Z8 w,Z8 r] (Zp ((Zt w)*(Zt r)))) (n3:Ze Yir 124 [Z8 (ts.getD (Int.toNat i) z0), .int .i64 s] (Zp t)) (n4:Ze Yir 121 [Zp ((Zt w)*(Zt r)),Zp t] (Zp (((Zt w)*(Zt r))+t))):Za Yir Yc78 (Zlt ts r e w i s) .norm (Zlt ts r e (cn (((Zt w)*(Zt r))+t)) (i64.wrap (i-1)) (i64.wrap (s+e))):=(Za.go Zv 400 [.b true, .r (Zp ((Zt w)*(Zt r))), .v (Z8 (ts.getD (Int.toNat i) z0)), .r (Zp t), .r (Zp (((Zt w)*(Zt r))+t))] [0,3,5,6,7] (ac c1 (ac n2 (ac n1 (ac (Xc n1) (ac n3 (ac n4 a0)))))))
theorem Yk78_2 (ts:List Rn) (r:Rn) (e:Int) (w:Rn) (i:Int) (s:Int)  (c1:(decide (i≥0))=false):Za Yir Yc78 (Zlt ts r e w i s) (.exit 0) (Zlt ts r e w i s):=(Za.go Zv 400 [.b false] [0,3,5,6,7] (ac c1 a0))
theorem Yrun78 (ts:List Rn) (r w:Rn) (e i s sg:Int) (hl1:Za Yir (.loop Yc78) (Zlt ts r e (false,[]) (i64.wrap ((ts.length:Int)-1)) 0) (.exit 0) (Zlt ts r e w i s)) (n2:Ze Yir 73 [Z8 w] (.int .i64 sg)):Ze Yir 78 [.sl ts.length (pc ts), .agg [.bool r.1, .sl r.2.length (lm r.2), .int .i64 e]] (.int .i64 sg):=Ze.of_bodyW (fn:=Yi78) (s:=(dds 4 (.val (.int .i64 sg)::(dds 27 [])))) (ex := .ret) rfl rfl (Za.seq (Za.go (t:=(vp ts::(.val (.agg [.bool r.1, .sl r.2.length (lm r.2), .int .i64 e])::(dds 1 (.box [.bool r.1, .sl r.2.length (lm r.2), .int .i64 e]::(vi 0::(dds 27 []))))))) Zv 400 [] [0,1,3,4] a0) (Za.seq (Za.go (t:=(vp ts::(.val (.agg [.bool r.1, .sl r.2.length (lm r.2), .int .i64 e])::(dds 1 (.box [.bool r.1, .sl r.2.length (lm r.2), .int .i64 e]::(vi 0::(.box [.bool false, .sl 0 []]::(dds 26 [])))))))) Zv 400 [] [0,1,3,4,5] a0) (Za.seq (Za.seq (Za.go Zv 400 [] [0,3,5,6,7] a0) (Za.block hl1)) (Za.go Zv 400 [.r (.int .i64 sg)] [4] (ac n2 a0))))) (by intro i e;cases e) rfl
def TSA:Ji:=TWC
theorem Zfj:Qh Yir TSA:=Zv
end Go.Proofs.Ythnnfemologhfaa

namespace Go.Proofs.Ythnnfemologhfaa
open Go.IntKind (i64 u64 u32)
open Go.Ai
set_option maxRecDepth 100000
theorem Zi4 {na:Bool} {xs:List Int} {z:Rn} {w s:Nat} (hx:U32 xs) (hs:s<32) (hN:w+xs.length<1048576):∀ (r i:Nat) (os:List Int),i+r=xs.length→os.length=w+xs.length+1→U32 os→Zo os=4294967296^w*(2^s*Zo (xs.take i))→os.getD (i+w) 0<2^s→(∀ t,i+w<t→os.getD t 0=0) →
  ∃ os',Za Yir (.loop Zfe) (L6 na xs (w:Nat) (s:Nat) (w+xs.length+1) os (xs.length:Nat) (i:Nat) z) (.exit 0) (L6 na xs (w:Nat) (s:Nat) (w+xs.length+1) os' (xs.length:Nat) (xs.length:Nat) z)∧os'.length=w+xs.length+1∧U32 os'∧Zo os'=4294967296^w*(2^s*Zo xs):=by
 intro r
 induction r with
 | zero =>
  intro i os hi hl hu hv _ _
  have:i=xs.length:=by omega
  subst this
  exact⟨os,Za.loop_out (Zo1 na xs _ _ _ os _ _ z (by simp)) (by intro e;cases e),hl,hu,by rw[hv,List.take_length]⟩
 | succ r ih =>
  intro i os hi hl hu hv hc hz
  have ei:i64.wrap ((i:Int)+1)=((i+1:Nat):Int):=by rw[w64 (by omega) (by omega)];omega
  have ew:i64.wrap ((i:Int)+(w:Int))=((i+w:Nat):Int):=by rw[w64 (by omega) (by omega)];omega
  have ew1:i64.wrap (((i+w:Nat):Int)+1)=((i+w+1:Nat):Int):=by rw[w64 (by omega) (by omega)];omega
  have hxi:=Zz hx i
  have hoi:=Zz hu (i+w)
  obtain⟨p0,p1,p2,q,q0,q1⟩:=Na hxi hs
  have es:(2:Int)^(min (Int.toNat (s:Int)) (IntKind.bits .u64))=2^s:=by
   rw[Int.toNat_natCast]
   congr 1
   show min s 64=s
   omega
  have hk:=Zo2 na xs (w:Nat) (s:Nat) (w+xs.length+1) os (xs.length:Nat) (i:Nat) z (by simp;omega) (by omega) (by omega) (by rw[ew];omega) hl (by rw[ew,ew1];omega) (by simpa using hl)
  rw[ei,ew,ew1,es,Int.toNat_natCast,Int.toNat_natCast,Int.toNat_natCast,Wl (n:=xs.getD i 0) (by omega),Wl ⟨p0,p1⟩,fd32,Bu (xs.getD i 0*2^s),q1] at hk
  have hqs:q*2^s<4294967296:=by rw[← q1];omega
  rw[or32 q0 hqs (by omega) ⟨hoi.1,hc⟩] at hk
  have hhi:0≤xs.getD i 0*2^s / 4294967296:=by omega
  have hp2:(2:Int)^s≤4294967296:=by have:=K9 (show s≤32 by omega);rwa [show (2:Int)^32=4294967296 by decide] at this
  rw[w32 ⟨hhi,by omega⟩] at hk
  have hsum:0≤q*2^s+os.getD (i+w) 0∧q*2^s+os.getD (i+w) 0<4294967296:=by
   have hq2:0≤q*2^s:=by rw[← q1];omega
   refine⟨by omega,?_⟩
   have e:=Zrr (show s≤32 by omega)
   rw[e] at hqs ⊢
   have hp:=Ju s
   have:=Int.lt_of_mul_lt_mul_right hqs (by omega)
   have:=Int.mul_le_mul_of_nonneg_right (show q+1≤2^(32-s) by omega) (show (0:Int)≤2^s by omega)
   rw[Int.add_mul,Int.one_mul] at this
   omega
  obtain⟨os',g1,g2,g3,g4⟩:=ih (i+1) ((os.set (i+w) (q*2^s+os.getD (i+w) 0)).set (i+w+1) (xs.getD i 0*2^s / 4294967296)) (by omega) (by simpa using hl) (Q7 (Q7 hu hsum) ⟨hhi,by omega⟩) (by
    rw[J3 _ _ _ (by simp;omega),J3 _ _ _ (by omega),Qf (by omega),hz (i+w+1) (by omega),hv,J5 xs i (by omega),Int.pow_succ,Int.pow_add]
    have e3:xs.getD i 0*2^s=4294967296*(xs.getD i 0*2^s / 4294967296)+q*2^s:=by omega
    generalize (4294967296:Int)^i=P at *
    generalize (4294967296:Int)^w=V at *
    generalize xs.getD i 0*2^s / 4294967296=H at *
    generalize os.getD (i+w) 0=o at *
    generalize q*2^s=Q at *
    have e4:(2:Int)^s*(Zo (xs.take i)+P*xs.getD i 0)=2^s*Zo (xs.take i)+P*(xs.getD i 0*2^s):=by grind
    rw[e4,e3]
    grind) (by
    rw[show i+1+w=i+w+1 by omega,show ((os.set (i+w) (q*2^s+os.getD (i+w) 0)).set (i+w+1) (xs.getD i 0*2^s / 4294967296)).getD (i+w+1) 0=xs.getD i 0*2^s / 4294967296 by simp[List.getD_eq_getElem?_getD,show i+w+1<os.length by omega]]
    exact p2) (fun t ht=>by rw[Qf (by omega),Qf (by omega)];exact hz t (by omega))
  exact⟨os',Za.loop hk g1,g2,g3,g4⟩
theorem Pn {neg:Bool} {xs:List Int} (hu:U32 xs) (n:Nat) (hn:n≤9223372036854775807) (hN:n / 32+xs.length+1≤1048576):Ze Yir 124 [.agg [.bool neg, .sl xs.length (lm xs)], .int .i64 (n:Nat)] (Zp (rv neg xs*2^n)):=by
 have l1:=Uy (neg:=neg) hu
 have r1:=Q8 (neg:=neg) hu (by omega)
 generalize rv neg xs=a at *
 by_cases h0:(Zb a.natAbs).length=0
 ·have h:=Zd9 neg _ xs (Zb a.natAbs) (n:Nat) (by rw[h0];rfl) r1
  have ha:a=0:=by have:=(Jq a.natAbs).1 h0;omega
  rw[ha,Int.zero_mul]
  exact h
 ·have e1:i64.wrap (Int.tdiv (n:Int) 32)=((n / 32:Nat):Int):=by
   rw[Int.tdiv_eq_ediv_of_nonneg (by omega),w64 (by omega) (by omega)];omega
  have e2:u64.wrap (Int.tmod (n:Int) 32)=((n % 32:Nat):Int):=by
   rw[Int.tmod_eq_emod_of_nonneg (by omega),Wl (by omega)];omega
  have e3:i64.wrap ((((Zb a.natAbs).length:Nat):Int)+((n / 32:Nat):Int))=((n / 32+(Zb a.natAbs).length:Nat):Int):=by rw[w64 (by omega) (by omega)];omega
  have e4:i64.wrap (((n / 32+(Zb a.natAbs).length:Nat):Int)+1)=((n / 32+(Zb a.natAbs).length+1:Nat):Int):=by rw[w64 (by omega) (by omega)];omega
  have hs:n % 32<32:=Nat.mod_lt _ (by decide)
  obtain⟨os,g1,g2,g3,g4⟩:=Zi4 (na:=decide (a<0)) (xs:=Zb a.natAbs) (z:=z0) (w:=n / 32) (Jt a.natAbs) hs (by omega) (Zb a.natAbs).length 0 (List.replicate (n / 32+(Zb a.natAbs).length+1) 0) (by omega) (by simp) (Xq _) (by rw[Xx];simp[Zo]) (by rw[Jz];exact Ju _) (fun t _=>Jz _ _)
  have hm:=Xm (neg:=decide (a<0)) g3 (by omega)
  have hv:rv (decide (a<0)) os=a*2^n:=by
   rw[P4 (xs:=Zb a.natAbs) (t:=2^n) (by rw[g4,Ad n];grind),Hp]
  rw[hv,g2] at hm
  exact Zd8 neg _ xs (Zb a.natAbs) os (n:Nat) _ _ _ _ _ _ _ (by rw[beq_eq_false_iff_ne];omega) r1 (by rw[e1,e3,e4];omega) (by rw[e1,e2,e3,e4,Int.toNat_natCast,Uk];exact g1) hm
theorem Znp {K X:Nat} {ts:List Rn} {r:Rn} (ht:∀ t∈ts,Xj K t) (hr:Xj X r) (e:Nat) (hS:K+2+(ts.length+1)*(X+(e / 32+1)+1)≤1048576) (he:e≤1073741824) :
  ∀ n (w:Rn),n≤ts.length→Zt w=hv ((Zj ts).drop n) (Zt r) (2^e)→Xj (K+1+(ts.length-n)*(X+(e / 32+1)+1)) w → 
  ∃ w' s',Zt w'=hv (Zj ts) (Zt r) (2^e)∧Xj (K+1+ts.length*(X+(e / 32+1)+1)) w'∧Za Yir (.loop Yc78) (Zlt ts r (e:Nat) w ((n:Int)-1) ((e*(ts.length-n):Nat):Int)) (.exit 0) (Zlt ts r (e:Nat) w' (-1) s'):=by
 have hle:ts.length≤1048576:=by
  have:ts.length*1≤(ts.length+1)*(X+(e / 32+1)+1):=Nat.mul_le_mul (by omega) (by omega)
  omega
 intro n
 induction n with
 | zero =>
  intro w _ hw gw
  exact⟨w,_,by simpa using hw,gw,Za.loop_out (Yk78_2 ts r (e:Nat) w (((0:Nat):Int)-1) _ (by simp)) (by intro e;cases e)⟩
 | succ n ih =>
  intro w hn hw gw
  obtain⟨t1,t2⟩:=Ql ht n
  have e0:((n+1:Nat):Int)-1=(n:Int):=by omega
  have hK1:(ts.length-(n+1))*(X+(e / 32+1)+1)+(X+(e / 32+1)+1)=(ts.length-n)*(X+(e / 32+1)+1):=by
   rw[show ts.length-n=ts.length-(n+1)+1 by omega,Nat.add_mul,Nat.one_mul]
  have hK2:(ts.length-n)*(X+(e / 32+1)+1)≤(ts.length+1)*(X+(e / 32+1)+1):=Nat.mul_le_mul_right _ (by omega)
  have hsh:e*(ts.length-(n+1)) / 32≤(ts.length-(n+1))*(X+(e / 32+1)+1):=by
   have h3:e≤32*(e / 32+1):=by omega
   have h4:e*(ts.length-(n+1))≤32*((ts.length-(n+1))*(e / 32+1)):=by
    calc e*(ts.length-(n+1))≤(32*(e / 32+1))*(ts.length-(n+1)):=Nat.mul_le_mul_right _ h3
     _=32*((ts.length-(n+1))*(e / 32+1)):=by rw[Nat.mul_assoc,Nat.mul_comm (e / 32+1)]
   have h5:(ts.length-(n+1))*(e / 32+1)≤(ts.length-(n+1))*(X+(e / 32+1)+1):=Nat.mul_le_mul_left _ (by omega)
   omega
  have hb1:e*(ts.length-(n+1))≤1073741824*1048576:=Nat.mul_le_mul he (by omega)
  have hb2:e*(ts.length-n)≤1073741824*1048576:=Nat.mul_le_mul he (by omega)
  have w1:i64.wrap (((e*(ts.length-(n+1)):Nat):Int)+(e:Int))=((e*(ts.length-n):Nat):Int):=by
   have:e*(ts.length-n)=e*(ts.length-(n+1))+e:=by rw[show ts.length-n=ts.length-(n+1)+1 by omega,Nat.mul_succ]
   rw[w64 (by omega) (by omega)];omega
  have w2:i64.wrap ((n:Int)-1)=(n:Int)-1:=w64 (by omega) (by omega)
  have hst:hv ((Zj ts).drop n) (Zt r) (2^e)=Zt w*Zt r+Zt (ts.getD n z0)*2^(e*(ts.length-(n+1))):=by
   have h1:(Zj ts).drop n=(Zj ts).getD n 0::(Zj ts).drop (n+1):=by
    rw[List.drop_eq_getElem_cons (by rw[Z0];omega)]
    congr 1
    rw[List.getD_eq_getElem?_getD,List.getElem?_eq_getElem (by rw[Z0];omega)];rfl
   rw[h1,hv,Jg,List.length_drop,Z0,← hw,← Int.pow_mul]
   generalize Zt (ts.getD n z0)*2^(e*(ts.length-(n+1)))=A
   grind
  have fw:=gw.fits
  have fp:=(fw.mul hr.fits)
  have ft:Je (K+(e*(ts.length-(n+1)) / 32+1)) (Zt (ts.getD n z0)*2^(e*(ts.length-(n+1)))):=(Ql ht n).fits.mul (Zcp _)
  have hgood:Xj (K+1+(ts.length-n)*(X+(e / 32+1)+1)) (cn (Zt w*Zt r+Zt (ts.getD n z0)*2^(e*(ts.length-(n+1))))):=by
   refine (Jy ((fp.mono (k:=K+1+(ts.length-(n+1))*(X+(e / 32+1)+1)+X+(e / 32+1)) (by omega)).add (ft.mono (by omega)))).mono (by omega)
  obtain⟨w',s',q1,q2,q3⟩:=ih (cn (Zt w*Zt r+Zt (ts.getD n z0)*2^(e*(ts.length-(n+1))))) (by omega) (by rw[Qe,hst]) hgood
  refine⟨w',s',q1,q2,?_⟩
  rw[e0]
  have l1:=fp.len
  have l2:=ft.len
  obtain⟨gw1,gw2⟩:=gw
  have k:=Yk78_1 ts r (e:Nat) w (n:Nat) ((e*(ts.length-(n+1)):Nat):Int) (Zt (ts.getD n z0)*2^(e*(ts.length-(n+1)))) (by simp) (by omega)
   (A5 gw1 hr.1 (by have:=hr.2;omega))
   (by rw[Int.toNat_natCast];exact Pn t1 _ (by omega) (by omega))
   (by
    have:=Zf8 (na:=decide (Zt w*Zt r<0)) (nb:=decide (Zt (ts.getD n z0)*2^(e*(ts.length-(n+1)))<0)) (Jt (Zt w*Zt r).natAbs) (Jt (Zt (ts.getD n z0)*2^(e*(ts.length-(n+1)))).natAbs) (by omega) (by omega)
    rw[Hp,Hp] at this
    exact this)
  rw[w1,w2] at k
  exact Za.loop k q3
theorem L1 {K X:Nat} {rs:List Rn} {r:Rn} (ht:∀ t∈rs,Xj K t) (hr:Xj X r) (e:Nat) (hS:K+2+(rs.length+1)*(X+(e / 32+1)+1)≤1048576) (he:e≤1073741824) :
  Ze Yir 78 [.sl rs.length (pc rs), .agg [.bool r.1, .sl r.2.length (lm r.2), .int .i64 (e:Nat)]] (.int .i64 (Vc (hv (Zj rs) (Zt r) (2^e)))):=by
 have hle:rs.length≤1048576:=by
  have:rs.length*1≤(rs.length+1)*(X+(e / 32+1)+1):=Nat.mul_le_mul (by omega) (by omega)
  omega
 obtain⟨w',s',q1,q2,q3⟩:=Znp ht hr e hS he rs.length z0 (Nat.le_refl _) (by rw[← Z0,List.drop_length];rfl) (Zcq _)
 rw[Nat.sub_self,Nat.mul_zero] at q3
 have hK2:rs.length*(X+(e / 32+1)+1)≤(rs.length+1)*(X+(e / 32+1)+1):=Nat.mul_le_mul_right _ (by omega)
 have hs:=Hj (neg:=w'.1) q2.1 (by have:=q2.2;omega)
 rw[show rv w'.1 w'.2=Zt w' from rfl,q1] at hs
 have e1:i64.wrap ((rs.length:Int)-1)=(rs.length:Int)-1:=w64 (by omega) (by omega)
 exact Yrun78 rs r w' (e:Nat) (-1) s' _ (by rw[e1];exact q3) hs
def TSB:Ji:=TSA
theorem Zfi:Qh Yir TSB:=Zfj
end Go.Proofs.Ythnnfemologhfaa

namespace Go.Proofs.Ythnnfemologhfaa
open Go.IntKind (i64 u64 u32)
open Go.Ai
set_option maxRecDepth 100000
def Zfy (as1:List Rn) (k:Nat) (cs:List AV) (bs:List Rn):Zi:=(dds 3 (.val (.sl as1.length (pc as1))::(.own 1 k cs::(.val (.sl bs.length (pc bs))::(dds 23 [])))))
theorem Yk96_1 (as1:List Rn) (k:Nat) (cs:List AV) (bs:List Rn) (us vs:List Rn) (c1:(decide ((bs.length:Int)>0))=true) (n1:k+1≤1048576) (n2:Ze Yir 64 [.sl as1.length (pc as1), .sl bs.length (pc bs)] (.fresh 2 us.length (pc us))) (n3:Ze Yir 127 [.sl us.length (pc us)] (.fresh 2 vs.length (pc vs))):Za Yir Zr4 (Zfy as1 k cs bs) .norm (Zfy bs (k+1) (cs++([.sl bs.length (pc bs)]:List AV)) vs):=(Za.go Zk 400 [.b true, .r (.fresh 2 us.length (pc us)), .r (.fresh 2 vs.length (pc vs))] [3,4,5] (ac c1 (ac (show List.length ([.sl bs.length (pc bs)]:List AV)=1*1 from rfl) (ac n1 (ac n2 (ac n3 a0))))))
theorem Zlw (as1:List Rn) (k:Nat) (cs:List AV) (bs:List Rn)  (c1:(decide ((bs.length:Int)>0))=false):Za Yir Zr4 (Zfy as1 k cs bs) (.exit 0) (Zfy as1 k cs bs):=(Za.go Zk 400 [.b false] [3,4,5] (ac c1 a0))
theorem Tz (rs fs:List Rn) (c1:((fs.length:Int)==0)=true) (n1:Ze Yir 66 [.sl rs.length (pc rs)] (.fresh 2 fs.length (pc fs))):Ze Yir 96 [.sl rs.length (pc rs)] (.fresh 1 0 []):=Ze.of_bodyW (fn:=Zl0) (s:=(dds 2 (.own 1 0 []::(dds 26 [])))) (ex := .ret) rfl rfl (Za.seq (Za.go (t:=(vp rs::(dds 1 (.own 1 0 []::(dds 26 []))))) Zk 400 [] [0,2] a0) (Za.seq (Za.go (t:=(vp rs::(dds 1 (.own 1 0 []::(vp fs::(dds 25 [])))))) Zk 400 [.r (.fresh 2 fs.length (pc fs))] [0,2,3] (ac n1 a0)) (Za.seq_out (Za.go Zk 400 [.b true] [2] (ac c1 a0)) (by intro e;cases e)))) (by intro i e;cases e) rfl
theorem Ty (rs fs ds ps as1 bs:List Rn) (ls:List (List Rn)) (c1:((fs.length:Int)==0)=false) (n1:Ze Yir 66 [.sl rs.length (pc rs)] (.fresh 2 fs.length (pc fs))) (n2:Ze Yir 75 [.sl fs.length (pc fs)] (.fresh 2 ds.length (pc ds))) (n3:Ze Yir 86 [.sl ds.length (pc ds)] (.fresh 2 ps.length (pc ps))) (hl4:Za Yir (.loop Zr4) (Zfy fs 1 ([.sl fs.length (pc fs)]:List AV) ps) (.exit 0) (Zfy as1 ls.length (pp ls) bs)):Ze Yir 96 [.sl rs.length (pc rs)] (.fresh 1 ls.length (pp ls)):=Ze.of_bodyW (fn:=Zl0) (s:=(dds 2 (.own 1 ls.length (pp ls)::(dds 26 [])))) (ex := .ret) rfl rfl (Za.seq (Za.go (t:=(vp rs::(dds 1 (.own 1 0 []::(dds 26 []))))) Zk 400 [] [0,2] a0) (Za.seq (Za.go (t:=(vp rs::(dds 1 (.own 1 0 []::(vp fs::(dds 25 [])))))) Zk 400 [.r (.fresh 2 fs.length (pc fs))] [0,2,3] (ac n1 a0)) (Za.seq (Za.go (t:=(vp rs::(dds 1 (.own 1 0 []::(vp fs::(dds 25 [])))))) Zk 400 [.b false] [0,2,3] (ac c1 a0)) (Za.seq (Za.go (t:=(vp rs::(dds 1 (.own 1 0 []::(vp fs::(.own 1 1 [.sl fs.length (pc fs)]::(dds 24 []))))))) Zk 400 [] [0,2,3,4] a0) (Za.seq (Za.go Zk 400 [.r (.fresh 2 ds.length (pc ds)), .r (.fresh 2 ps.length (pc ps))] [3,4,5] (ac n2 (ac n3 a0))) (Za.seq (Za.block hl4) (Za.go Zk 400 [] [2] a0))))))) (by intro i e;cases e) rfl
theorem Tx (rs fs:List Rn) (c1:((fs.length:Int)==0)=true) (n1:Ze Yir 66 [.sl rs.length (pc rs)] (.sl fs.length (pc fs))):Ze Yir 96 [.sl rs.length (pc rs)] (.fresh 1 0 []):=Ze.of_bodyW (fn:=Zl0) (s:=(dds 2 (.own 1 0 []::(dds 26 [])))) (ex := .ret) rfl rfl (Za.seq (Za.go (t:=(vp rs::(dds 1 (.own 1 0 []::(dds 26 []))))) Zk 400 [] [0,2] a0) (Za.seq (Za.go (t:=(vp rs::(dds 1 (.own 1 0 []::(vp fs::(dds 25 [])))))) Zk 400 [.r (.sl fs.length (pc fs))] [0,2,3] (ac n1 a0)) (Za.seq_out (Za.go Zk 400 [.b true] [2] (ac c1 a0)) (by intro e;cases e)))) (by intro i e;cases e) rfl
theorem Tw (rs fs ds ps as1 bs:List Rn) (ls:List (List Rn)) (c1:((fs.length:Int)==0)=false) (n1:Ze Yir 66 [.sl rs.length (pc rs)] (.sl fs.length (pc fs))) (n2:Ze Yir 75 [.sl fs.length (pc fs)] (.fresh 2 ds.length (pc ds))) (n3:Ze Yir 86 [.sl ds.length (pc ds)] (.fresh 2 ps.length (pc ps))) (hl4:Za Yir (.loop Zr4) (Zfy fs 1 ([.sl fs.length (pc fs)]:List AV) ps) (.exit 0) (Zfy as1 ls.length (pp ls) bs)):Ze Yir 96 [.sl rs.length (pc rs)] (.fresh 1 ls.length (pp ls)):=Ze.of_bodyW (fn:=Zl0) (s:=(dds 2 (.own 1 ls.length (pp ls)::(dds 26 [])))) (ex := .ret) rfl rfl (Za.seq (Za.go (t:=(vp rs::(dds 1 (.own 1 0 []::(dds 26 []))))) Zk 400 [] [0,2] a0) (Za.seq (Za.go (t:=(vp rs::(dds 1 (.own 1 0 []::(vp fs::(dds 25 [])))))) Zk 400 [.r (.sl fs.length (pc fs))] [0,2,3] (ac n1 a0)) (Za.seq (Za.go (t:=(vp rs::(dds 1 (.own 1 0 []::(vp fs::(dds 25 [])))))) Zk 400 [.b false] [0,2,3] (ac c1 a0)) (Za.seq (Za.go (t:=(vp rs::(dds 1 (.own 1 0 []::(vp fs::(.own 1 1 [.sl fs.length (pc fs)]::(dds 24 []))))))) Zk 400 [] [0,2,3,4] a0) (Za.seq (Za.go Zk 400 [.r (.fresh 2 ds.length (pc ds)), .r (.fresh 2 ps.length (pc ps))] [3,4,5] (ac n2 (ac n3 a0))) (Za.seq (Za.block hl4) (Za.go Zk 400 [] [2] a0))))))) (by intro i e;cases e) rfl
def Ge (ls:List (List Rn)) (r:Rn) (e:Int) (n:Int) (last:Int) (m:Int) (i:Int):Zi:=(dds 3 (.box [.bool r.1, .sl r.2.length (lm r.2), .int .i64 e]::(dds 1 (.val (.int .i64 n)::(.val (.int .i64 last)::(dds 3 (.val (.sl ls.length (pp ls))::(.val (.int .i64 m)::(.val (.int .i64 i)::(dds 24 []))))))))))
theorem Zpf (ls:List (List Rn)) (r:Rn) (e:Int) (n:Int) (last:Int) (m:Int) (i:Int) (s:Int) (c1:(decide (i<m))=true) (c2:(s != 0)=true) (c3:(last != 0)=true) (c4:(s != last)=true) (n1:0≤i∧i<(ls.length:Int)) (n2:Ze Yir 78 [.sl ((ls.getD (Int.toNat i) []).length) (pc (ls.getD (Int.toNat i) [])), .agg [.bool r.1, .sl r.2.length (lm r.2), .int .i64 e]] (.int .i64 s)):Za Yir Mw (Ge ls r e n last m i) .norm (Ge ls r e (i64.wrap (n+1)) s m (i64.wrap (i+1))):=(Za.go Zk 400 [.b true, .v (.sl ((ls.getD (Int.toNat i) []).length) (pc (ls.getD (Int.toNat i) []))), .r (.int .i64 s), .b true, .b true, .b true, .b true] [3,5,6,10,11,12] (ac c1 (ac n1 (ac (V4 n1) (ac n2 (ac c2 (ac c3 (ac c4 (ac c2 a0)))))))))
theorem Zpe (ls:List (List Rn)) (r:Rn) (e:Int) (n:Int) (last:Int) (m:Int) (i:Int) (s:Int) (c1:(decide (i<m))=true) (c2:(s != 0)=true) (c3:(last != 0)=true) (c4:(s != last)=false) (n1:0≤i∧i<(ls.length:Int)) (n2:Ze Yir 78 [.sl ((ls.getD (Int.toNat i) []).length) (pc (ls.getD (Int.toNat i) [])), .agg [.bool r.1, .sl r.2.length (lm r.2), .int .i64 e]] (.int .i64 s)):Za Yir Mw (Ge ls r e n last m i) .norm (Ge ls r e n s m (i64.wrap (i+1))):=(Za.go Zk 400 [.b true, .v (.sl ((ls.getD (Int.toNat i) []).length) (pc (ls.getD (Int.toNat i) []))), .r (.int .i64 s), .b true, .b true, .b false, .b true] [3,5,6,10,11,12] (ac c1 (ac n1 (ac (V4 n1) (ac n2 (ac c2 (ac c3 (ac c4 (ac c2 a0)))))))))
theorem Zpd (ls:List (List Rn)) (r:Rn) (e:Int) (n:Int) (last:Int) (m:Int) (i:Int) (s:Int) (c1:(decide (i<m))=true) (c2:(s != 0)=true) (c3:(last != 0)=false) (n1:0≤i∧i<(ls.length:Int)) (n2:Ze Yir 78 [.sl ((ls.getD (Int.toNat i) []).length) (pc (ls.getD (Int.toNat i) [])), .agg [.bool r.1, .sl r.2.length (lm r.2), .int .i64 e]] (.int .i64 s)):Za Yir Mw (Ge ls r e n last m i) .norm (Ge ls r e n s m (i64.wrap (i+1))):=(Za.go Zk 400 [.b true, .v (.sl ((ls.getD (Int.toNat i) []).length) (pc (ls.getD (Int.toNat i) []))), .r (.int .i64 s), .b true, .b false, .b false, .b true] [3,5,6,10,11,12] (ac c1 (ac n1 (ac (V4 n1) (ac n2 (ac c2 (ac c3 (ac (show false=false from rfl) (ac c2 a0)))))))))
theorem Zpc (ls:List (List Rn)) (r:Rn) (e:Int) (n:Int) (last:Int) (m:Int) (i:Int) (s:Int) (c1:(decide (i<m))=true) (c2:(s != 0)=false) (n1:0≤i∧i<(ls.length:Int)) (n2:Ze Yir 78 [.sl ((ls.getD (Int.toNat i) []).length) (pc (ls.getD (Int.toNat i) [])), .agg [.bool r.1, .sl r.2.length (lm r.2), .int .i64 e]] (.int .i64 s)):Za Yir Mw (Ge ls r e n last m i) .norm (Ge ls r e n last m (i64.wrap (i+1))):=(Za.go Zk 400 [.b true, .v (.sl ((ls.getD (Int.toNat i) []).length) (pc (ls.getD (Int.toNat i) []))), .r (.int .i64 s), .b false, .b false, .b false, .b false] [3,5,6,10,11,12] (ac c1 (ac n1 (ac (V4 n1) (ac n2 (ac c2 (ac (show false=false from rfl) (ac (show false=false from rfl) (ac c2 a0)))))))))
theorem Zpb (ls:List (List Rn)) (r:Rn) (e:Int) (n:Int) (last:Int) (m:Int) (i:Int)  (c1:(decide (i<m))=false):Za Yir Mw (Ge ls r e n last m i) (.exit 0) (Ge ls r e n last m i):=(Za.go Zk 400 [.b false] [3,5,6,10,11,12] (ac c1 a0))
theorem Znl (ls:List (List Rn)) (r:Rn) (e n last i:Int) (hl1:Za Yir (.loop Mw) (Ge ls r e 0 0 (ls.length:Int) 0) (.exit 0) (Ge ls r e n last (ls.length:Int) i)):Ze Yir 100 [.sl ls.length (pp ls), .agg [.bool r.1, .sl r.2.length (lm r.2), .int .i64 e]] (.int .i64 n):=Ze.of_bodyW (fn:=Ze5) (s:=(dds 4 (.val (.int .i64 n)::(dds 32 [])))) (ex := .ret) rfl rfl (Za.seq (Za.go (t:=(.val (.sl ls.length (pp ls))::(.val (.agg [.bool r.1, .sl r.2.length (lm r.2), .int .i64 e])::(dds 1 (.box [.bool r.1, .sl r.2.length (lm r.2), .int .i64 e]::(vi 0::(dds 32 []))))))) Zk 400 [] [0,1,3,4] a0) (Za.seq (Za.go (t:=(.val (.sl ls.length (pp ls))::(.val (.agg [.bool r.1, .sl r.2.length (lm r.2), .int .i64 e])::(dds 1 (.box [.bool r.1, .sl r.2.length (lm r.2), .int .i64 e]::(vi 0::(vi 0::(vi 0::(dds 30 []))))))))) Zk 400 [] [0,1,3,4,5,6] a0) (Za.seq (Za.seq (Za.go Zk 400 [] [3,5,6,10,11,12] a0) (Za.block hl1)) (Za.go Zk 400 [] [4] a0)))) (by intro i e;cases e) rfl
theorem Zlv (ls:List (List Rn)) (r:Rn) (e c:Int) (n1:Ze Yir 100 [.sl ls.length (pp ls), .agg [.bool r.1, .sl r.2.length (lm r.2), .int .i64 e]] (.int .i64 c)):Ze Yir 99 [.agg [.bool r.1, .sl r.2.length (lm r.2), .int .i64 e], .pt [.sl ls.length (pp ls)]] (.int .i64 c):=Ze.go (fn:=Yi99) Zk rfl 400 rfl [.v (.sl ls.length (pp ls)), .r (.int .i64 c)] (ac (show Zx [.sl ls.length (pp ls)] 0 1 true=some (.sl ls.length (pp ls)) from rfl) (ac n1 a0))
theorem Zim (rs ms:List Rn) (ls:List (List Rn)) (r t:Rn) (e f e0 c x y:Int) (v1 v2:Bool) (c1:(e0 != 0)=false) (c2:((ls.length:Int)==0)=false) (c3:(v1)=true) (c4:(v2)=true) (c5:(decide (c>0))=false) (n1:Ze Yir 34 [.sl rs.length (pc rs)] (.tup [.sl ms.length (pc ms), .int .i64 e0])) (n2:Ze Yir 96 [.sl rs.length (pc rs)] (.fresh 1 ls.length (pp ls))) (n3:Ze Yir 97 [.agg [.bool r.1, .sl r.2.length (lm r.2), .int .i64 e]] (.bool v1)) (n4:Ze Yir 97 [.agg [.bool t.1, .sl t.2.length (lm t.2), .int .i64 f]] (.bool v2)) (n5:Ze Yir 98 [.agg [.bool r.1, .sl r.2.length (lm r.2), .int .i64 e], .agg [.bool t.1, .sl t.2.length (lm t.2), .int .i64 f]] (.int .i64 c)) (n6:Ze Yir 99 [.agg [.bool r.1, .sl r.2.length (lm r.2), .int .i64 e], .pt [.sl ls.length (pp ls)]] (.int .i64 x)) (n7:Ze Yir 99 [.agg [.bool t.1, .sl t.2.length (lm t.2), .int .i64 f], .pt [.sl ls.length (pp ls)]] (.int .i64 y)):Ze Yir 50 [.sl rs.length (pc rs), .agg [.bool r.1, .sl r.2.length (lm r.2), .int .i64 e], .agg [.bool t.1, .sl t.2.length (lm t.2), .int .i64 f]] (.tup [.int .i64 (i64.wrap (x-y)), .int .i64 0]):=Ze.go (fn:=Yi50) Zk rfl 400 rfl [.r (.tup [.sl ms.length (pc ms), .int .i64 e0]), .b false, .r (.fresh 1 ls.length (pp ls)), .b false, .r (.bool v1), .b false, .r (.bool v2), .b false, .r (.int .i64 c), .b false, .r (.int .i64 x), .r (.int .i64 y)] (ac n1 (ac c1 (ac n2 (ac c2 (ac n3 (ac (show (!v1)=false from (by rw [c3];rfl)) (ac n4 (ac (show (!v2)=false from (by rw [c4];rfl)) (ac n5 (ac c5 (ac n6 (ac n7 a0))))))))))))
def Sa (o:Bool) (rs:List Rn) (i:Int):Zi:=(.val (.sl rs.length (pc rs))::(dds 1 (.val (.bool o)::(.val (.int .i64 i)::(dds 16 [])))))
theorem Yk48_1 (o:Bool) (rs:List Rn) (i:Int)  (c1:(decide (i<(rs.length:Int)))=true) (c2:(decide ((((rs.getD (Int.toNat i) z0).2.length:Nat):Int)>4))=true) (n1:0≤i∧i<(rs.length:Int)):Za Yir Zk5 (Sa o rs i) .ret (Sa false rs i):=(Za.go Zk 400 [.b true, .v (.sl ((rs.getD (Int.toNat i) z0).2.length) (lm (rs.getD (Int.toNat i) z0).2)), .b true] [0,2,3] (ac c1 (ac n1 (ac (Py n1) (ac c2 a0)))))
theorem Yk48_2 (o:Bool) (rs:List Rn) (i:Int)  (c1:(decide (i<(rs.length:Int)))=true) (c2:(decide ((((rs.getD (Int.toNat i) z0).2.length:Nat):Int)>4))=false) (n1:0≤i∧i<(rs.length:Int)):Za Yir Zk5 (Sa o rs i) .norm (Sa o rs (i64.wrap (i+1))):=(Za.go Zk 400 [.b true, .v (.sl ((rs.getD (Int.toNat i) z0).2.length) (lm (rs.getD (Int.toNat i) z0).2)), .b false] [0,2,3] (ac c1 (ac n1 (ac (Py n1) (ac c2 a0)))))
theorem Yk48_3 (o:Bool) (rs:List Rn) (i:Int)  (c1:(decide (i<(rs.length:Int)))=false):Za Yir Zk5 (Sa o rs i) (.exit 0) (Sa o rs i):=(Za.go Zk 400 [.b false] [0,2,3] (ac c1 a0))
theorem T2 (rs:List Rn) (c1:(decide ((rs.length:Int)>9))=true):Ze Yir 48 [.sl rs.length (pc rs)] (.bool false):=Ze.of_bodyW (fn:=Zrf) (s:=(dds 2 (.val (.bool false)::(dds 17 [])))) (ex := .ret) rfl rfl (Za.seq (Za.go (t:=(vp rs::(dds 1 (.val (.bool false)::(dds 17 []))))) Zk 400 [] [0,2] a0) (Za.seq_out (Za.go Zk 400 [.b true] [2] (ac c1 a0)) (by intro e;cases e))) (by intro i e;cases e) rfl
theorem T1 (rs:List Rn) (i:Int) (c1:(decide ((rs.length:Int)>9))=false) (hl1:Za Yir (.loop Zk5) (Sa false rs 0) .ret (Sa false rs i)):Ze Yir 48 [.sl rs.length (pc rs)] (.bool false):=Ze.of_bodyW (fn:=Zrf) (s:=(.val (.sl rs.length (pc rs))::(dds 1 (.val (.bool false)::(.val (.int .i64 i)::(dds 16 [])))))) (ex := .ret) rfl rfl (Za.seq (Za.go (t:=(vp rs::(dds 1 (.val (.bool false)::(dds 17 []))))) Zk 400 [] [0,2] a0) (Za.seq (Za.go (t:=(vp rs::(dds 1 (.val (.bool false)::(dds 1 (vp rs::(dds 15 []))))))) Zk 400 [.b false] [0,2,4] (ac c1 a0)) (Za.seq_out (Za.seq (Za.go Zk 400 [] [0,2,3] a0) (Za.block_ret hl1)) (by intro e;cases e)))) (by intro i e;cases e) rfl
theorem T0 (rs:List Rn) (i:Int) (c1:(decide ((rs.length:Int)>9))=false) (hl1:Za Yir (.loop Zk5) (Sa false rs 0) (.exit 0) (Sa false rs i)):Ze Yir 48 [.sl rs.length (pc rs)] (.bool true):=Ze.of_bodyW (fn:=Zrf) (s:=(dds 2 (.val (.bool true)::(dds 17 [])))) (ex := .ret) rfl rfl (Za.seq (Za.go (t:=(vp rs::(dds 1 (.val (.bool false)::(dds 17 []))))) Zk 400 [] [0,2] a0) (Za.seq (Za.go (t:=(vp rs::(dds 1 (.val (.bool false)::(dds 1 (vp rs::(dds 15 []))))))) Zk 400 [.b false] [0,2,4] (ac c1 a0)) (Za.seq (Za.seq (Za.go Zk 400 [] [0,2,3] a0) (Za.block hl1)) (Za.go Zk 400 [] [2] a0)))) (by intro i e;cases e) rfl
end Go.Proofs.Ythnnfemologhfaa

namespace Go.Proofs.Ythnnfemologhfaa
open Go.IntKind (i64 u64 u32)
open Go.Ai
set_option maxRecDepth 100000
theorem Za0 (a b q r:Int) (hq:q=(a.natAbs:Int) / (b.natAbs:Int)) (hr:r=(a.natAbs:Int) % (b.natAbs:Int)) :
  (if (!(decide (a<0)==decide (b<0)))=true then -q else q)=Int.tdiv a b∧(if decide (a<0)=true then -r else r)=Int.tmod a b:=by
 subst hq hr
 have hA:(0:Int)≤(a.natAbs:Int):=by omega
 by_cases ha:a<0 <;> by_cases hb:b<0
 ·have ea:a = -(a.natAbs:Int):=by omega
  have eb:b = -(b.natAbs:Int):=by omega
  have h1:Int.tdiv a b=(a.natAbs:Int) / (b.natAbs:Int):=by
   rw[← Int.tdiv_eq_ediv_of_nonneg hA]
   conv=>lhs;rw[ea,eb,Int.neg_tdiv,Int.tdiv_neg,Int.neg_neg]
  have h2:Int.tmod a b = -((a.natAbs:Int) % (b.natAbs:Int)):=by
   rw[← Int.tmod_eq_emod_of_nonneg hA]
   conv=>lhs;rw[ea,eb,Int.neg_tmod,Int.tmod_neg]
  rw[h1,h2,decide_eq_true ha,decide_eq_true hb]
  simp
 ·have ea:a = -(a.natAbs:Int):=by omega
  have eb:b=(b.natAbs:Int):=by omega
  have h1:Int.tdiv a b = -((a.natAbs:Int) / (b.natAbs:Int)):=by
   rw[← Int.tdiv_eq_ediv_of_nonneg hA]
   conv=>lhs;rw[ea,eb,Int.neg_tdiv]
  have h2:Int.tmod a b = -((a.natAbs:Int) % (b.natAbs:Int)):=by
   rw[← Int.tmod_eq_emod_of_nonneg hA]
   conv=>lhs;rw[ea,eb,Int.neg_tmod]
  rw[h1,h2,decide_eq_true ha,decide_eq_false hb]
  simp
 ·have ea:a=(a.natAbs:Int):=by omega
  have eb:b = -(b.natAbs:Int):=by omega
  have h1:Int.tdiv a b = -((a.natAbs:Int) / (b.natAbs:Int)):=by
   rw[← Int.tdiv_eq_ediv_of_nonneg hA]
   conv=>lhs;rw[ea,eb,Int.tdiv_neg]
  have h2:Int.tmod a b=(a.natAbs:Int) % (b.natAbs:Int):=by
   rw[← Int.tmod_eq_emod_of_nonneg hA]
   conv=>lhs;rw[ea,eb,Int.tmod_neg]
  rw[h1,h2,decide_eq_false ha,decide_eq_true hb]
  simp
 ·have ea:a=(a.natAbs:Int):=by omega
  have eb:b=(b.natAbs:Int):=by omega
  have h1:Int.tdiv a b=(a.natAbs:Int) / (b.natAbs:Int):=by
   rw[← Int.tdiv_eq_ediv_of_nonneg hA]
   conv=>lhs;rw[ea,eb]
  have h2:Int.tmod a b=(a.natAbs:Int) % (b.natAbs:Int):=by
   rw[← Int.tmod_eq_emod_of_nonneg hA]
   conv=>lhs;rw[ea,eb]
  rw[h1,h2,decide_eq_false ha,decide_eq_false hb]
  simp
theorem Ft {na nb:Bool} {xs ys:List Int} (hx:U32 xs) (hy:U32 ys) (h0:rv nb ys ≠ 0) (h1:xs.length<1048576) (h2:ys.length<1048576) :
  Ze Yir 110 [.agg [.bool na, .sl xs.length (lm xs)], .agg [.bool nb, .sl ys.length (lm ys)]] (.tup [Zp (Int.tdiv (rv na xs) (rv nb ys)),Zp (Int.tmod (rv na xs) (rv nb ys))]):=by
 have l1:=Uy (neg:=na) hx
 have l2:=Uy (neg:=nb) hy
 have r1:=Q8 (neg:=na) hx (by omega)
 have r2:=Q8 (neg:=nb) hy (by omega)
 generalize rv na xs=a at *
 generalize rv nb ys=b at *
 have hb0:Zb b.natAbs ≠ []:=by rw[Ne,Wt];omega
 obtain⟨qs,rs,q1,q2,q3,q4,q5,q6,q7⟩:=Ni (Qr a.natAbs) (Qr b.natAbs) hb0 (by omega) (by omega)
 rw[Jx,Jx] at q5 q6
 obtain⟨e1,e2⟩:=Za0 a b _ _ q5 q6
 have m1:=Xm (neg := !(decide (a<0)==decide (b<0))) q1 q3
 have m2:=Xm (neg:=decide (a<0)) q2 q4
 have f1:rv (!(decide (a<0)==decide (b<0))) qs=Int.tdiv a b:=e1
 have f2:rv (decide (a<0)) rs=Int.tmod a b:=e2
 rw[f1] at m1
 rw[f2] at m2
 exact Zni na nb _ _ xs ys _ _ qs rs _ _ r1 r2 q7 m1 m2
theorem A0 {n:Nat} {b:Bool} (h:(Zb n).length≤2):Ze Yir 146 [.agg [.bool b, .sl (Zb n).length (lm (Zb n))]] (.int .u64 (n:Nat)):=by
 have hu:=Jt n
 have hv:=Jx n
 generalize hxs:Zb n=xs at *
 have hl:=Za.up (prog:=Yir) (c:=Ze9) (ex := .exit 0) (fin:=Mj xs (n:Nat) (xs.length:Nat) (xs.length:Nat))
  (fun i=>Mj xs (Zo (xs.take i)) (xs.length:Nat) (i:Nat)) xs.length (by intro e;cases e) ?_ ?_ 0 (Nat.zero_le _)
 ·exact Zm7 b xs (n:Nat) (xs.length:Nat) (xs.length:Nat) (by simpa [Zo] using hl)
 ·intro i hi
  have ei:i64.wrap ((i:Int)+1)=((i+1:Nat):Int):=by rw[w64 (by omega) (by omega)];omega
  have e32:u64.wrap (i64.wrap (32*(i:Int)))=((32*i:Nat):Int):=by rw[w64 (by omega) (by omega),Wl (by omega)];omega
  have em:min (Int.toNat ((32*i:Nat):Int)) (IntKind.bits .u64)=32*i:=by rw[Int.toNat_natCast];show min (32*i) 64=32*i;omega
  have hxi:=Zz hu i
  have k:=Zol xs (Zo (xs.take i)) (xs.length:Nat) (i:Nat) (by simp;omega) (by omega) (by rw[e32];omega)
  rw[ei,e32,em,Int.toNat_natCast,Wl (n:=xs.getD i 0) (by omega)] at k
  have hp:xs.getD i 0*2^(32*i)<18446744073709551616:=by
   have:=K9 (show 32*i≤32 by omega)
   rw[show (2:Int)^32=4294967296 by decide] at this
   have:=Int.mul_le_mul (show xs.getD i 0≤4294967295 by omega) this (by have:=Ju (32*i);omega) (by omega)
   omega
  have h0:=Int.mul_nonneg hxi.1 (show (0:Int)≤2^(32*i) by have:=Ju (32*i);omega)
  have hlt:=Wn hu i
  rw[Hs] at hlt
  rw[Wl ⟨h0,hp⟩,BitVec.or_comm,or64 hxi.1 hp (by omega) ⟨Z3 (Ui hu i),hlt⟩] at k
  refine k.to rfl ?_
  rw[J5 xs i hi,Hs]
  congr 1
  rw[Int.mul_comm];omega
 ·rw[List.take_length,hv]
  exact Zok xs (n:Nat) (xs.length:Nat) (xs.length:Nat) (by simp)
theorem Lp:∀ (f a b:Nat),b≤f→Za Yir (.loop Zfa) (Mk (a:Nat) (b:Nat)) (.exit 0) (Mk (Nat.gcd a b:Nat) 0):=by
 intro f
 induction f with
 | zero =>
  intro a b hb
  have:b=0:=by omega
  subst this
  rw[Nat.gcd_zero_right]
  exact Za.loop_out (Zeo _ _ (by simp)) (by intro e;cases e)
 | succ f ih =>
  intro a b hb
  by_cases h0:b=0
  ·subst h0
   rw[Nat.gcd_zero_right]
   exact Za.loop_out (Zeo _ _ (by simp)) (by intro e;cases e)
  ·have k:=Zom (a:Nat) (b:Nat) (by simp;omega) (by omega)
   rw[Int.tmod_eq_emod_of_nonneg (by omega),← Int.natCast_emod] at k
   have hm:=Nat.mod_lt a (show 0<b by omega)
   have:=ih b (a % b) (by omega)
   rw[Nat.gcd_comm b,← Nat.gcd_rec,Nat.gcd_comm b a] at this
   exact Za.loop k this
theorem Zk8 {n:Nat} (h:(Zb n).length≤2):(n:Int)<18446744073709551616:=by
 have h1:=Vi (Jt n)
 rw[Jx] at h1
 have h2:=W8 h
 rw[show (4294967296:Int)^2=18446744073709551616 by decide] at h2
 omega
theorem S6 {n:Nat} (h:(n:Int)<18446744073709551616):Ze Yir 144 [.int .u64 (n:Nat)] (Zp (n:Nat)):=by
 obtain⟨h1,h2⟩:=Hx (u:=(n:Nat)) (by omega)
 have m:=Xm (neg:=false) h1 (by simp)
 have e:rv false [u32.wrap (n:Int),u32.wrap (Int.fdiv (n:Int) (2^(min (Int.toNat 32) (IntKind.bits .u64))))]=(n:Nat):=h2
 rw[e] at m
 exact Zm9 (n:Nat) _ m
theorem cn_nat (n:Nat):cn (n:Nat)=(false,Zb n):=by
 unfold cn
 rw[Int.natAbs_natCast,decide_eq_false (by omega)]
theorem Fp (n:Nat):(cn (n:Nat)).2.length=(Zb n).length:=by rw [cn_nat]
theorem Zhi {K:Nat} (hK:K<1048576):∀ (f a b:Nat),b≤f→Je K (a:Nat)→Je K (b:Nat) →
  (∃ y z,Za Yir (.loop B7) (Wj (cn (a:Nat)) (cn (b:Nat)) (false,[])) (.exit 0) (Wj (cn (Nat.gcd a b:Nat)) y z)) ∨
  (∃ x y,Za Yir (.loop B7) (Wj (cn (a:Nat)) (cn (b:Nat)) (false,[])) .ret (Wj x y (cn (Nat.gcd a b:Nat)))):=by
 intro f
 induction f with
 | zero =>
  intro a b hb _ _
  have:b=0:=by omega
  subst this
  rw[Nat.gcd_zero_right]
  exact Or.inl ⟨_,_,Za.loop_out (Zep _ _ _ (by rw[Fp];rfl)) (by intro e;cases e)⟩
 | succ f ih =>
  intro a b hb ka kb
  by_cases h0:b=0
  ·subst h0
   rw[Nat.gcd_zero_right]
   exact Or.inl ⟨_,_,Za.loop_out (Zep _ _ _ (by rw[Fp];rfl)) (by intro e;cases e)⟩
  ·have hbl:0<(Zb b).length:=List.length_pos_iff.2 (by rw[Ne,Wt];exact h0)
   have la:=ka.len
   have lb:=kb.len
   rw[Int.natAbs_natCast] at la lb
   by_cases h2:(Zb a).length≤2∧(Zb b).length≤2
   ·right
    have ta:=Zk8 h2.1
    have tb:=Zk8 h2.2
    have hg:((Nat.gcd a b:Nat):Int)<18446744073709551616:=by
     have:=Nat.le_of_dvd (by omega) (Nat.gcd_dvd_right a b)
     omega
    have u1:=A0 (b:=(cn (a:Nat)).1) h2.1
    have u2:=A0 (b:=(cn (b:Nat)).1) h2.2
    have u3:=Zm8 (a:Nat) (b:Nat) _ _ (Lp b a b (Nat.le_refl _))
    have u4:=S6 hg
    have k:=Zpa (cn (a:Nat)) (cn (b:Nat)) (false,[]) (a:Nat) (b:Nat) (Nat.gcd a b:Nat) (Nat.gcd a b:Nat) (by rw[Fp];simp;omega) (by rw[Fp];simp;omega) (by rw[Fp];simp;omega) u1 u2 u3 u4
    exact⟨_,_,Za.loop_out k (by intro e;cases e)⟩
   ·have hq:=Ft (na:=(cn (a:Nat)).1) (nb:=(cn (b:Nat)).1) (xs:=(cn (a:Nat)).2) (ys:=(cn (b:Nat)).2) (Jt _) (Jt _) (by have:=Qe (b:Nat);unfold Zt at this;rw[this];omega) (by rw[Fp];omega) (by rw[Fp];omega)
    rw[show rv (cn (a:Nat)).1 (cn (a:Nat)).2=(a:Nat) from Qe _,show rv (cn (b:Nat)).1 (cn (b:Nat)).2=(b:Nat) from Qe _,Int.tmod_eq_emod_of_nonneg (by omega),← Int.natCast_emod] at hq
    have hm:=Nat.mod_lt a (show 0<b by omega)
    have step:Za Yir B7 (Wj (cn (a:Nat)) (cn (b:Nat)) (false,[])) .norm (Wj (cn (b:Nat)) (cn ((a % b:Nat):Int)) (false,[])):=by
     by_cases h3:(Zb a).length≤2
     ·exact Zo9 (cn (a:Nat)) (cn (b:Nat)) (false,[]) _ _ (by rw[Fp];simp;omega) (by rw[Fp];simp;omega) (by rw[Fp];simp;omega) hq
     ·exact Zo8 (cn (a:Nat)) (cn (b:Nat)) (false,[]) _ _ (by rw[Fp];simp;omega) (by rw[Fp];simp;omega) hq
    have kr:Je K ((a % b:Nat):Int):=by
     unfold Je at *
     rw[Int.natAbs_natCast] at *
     exact Nat.lt_of_le_of_lt (Nat.le_of_lt hm) kb
    have e:Nat.gcd b (a % b)=Nat.gcd a b:=by rw[Nat.gcd_comm b,← Nat.gcd_rec,Nat.gcd_comm b a]
    rcases ih b (a % b) (by omega) kb kr with ⟨y,z,h⟩ | ⟨x,y,h⟩
    ·rw[e] at h
     exact Or.inl ⟨y,z,Za.loop step h⟩
    ·rw[e] at h
     exact Or.inr ⟨x,y,Za.loop step h⟩
theorem Pp {na nb:Bool} {xs ys:List Int} (hx:U32 xs) (hy:U32 ys) (h1:xs.length<1048576) (h2:ys.length<1048576) :
  Ze Yir 109 [.agg [.bool na, .sl xs.length (lm xs)], .agg [.bool nb, .sl ys.length (lm ys)]] (Zp (Int.gcd (rv na xs) (rv nb ys):Nat)):=by
 have a1:=A6 (neg:=na) hx (by omega)
 have a2:=A6 (neg:=nb) hy (by omega)
 have f1:=M6 (neg:=na) hx
 have f2:=M6 (neg:=nb) hy
 have g1:Je (max xs.length ys.length) (((rv na xs).natAbs:Nat):Int):=by
  unfold Je at *;rw[Int.natAbs_natCast];exact Nat.lt_of_lt_of_le f1 (Nat.pow_le_pow_right (by decide) (by omega))
 have g2:Je (max xs.length ys.length) (((rv nb ys).natAbs:Nat):Int):=by
  unfold Je at *;rw[Int.natAbs_natCast];exact Nat.lt_of_lt_of_le f2 (Nat.pow_le_pow_right (by decide) (by omega))
 rcases Zhi (K:=max xs.length ys.length) (by omega) _ _ _ (Nat.le_refl _) g1 g2 with ⟨y,z,h⟩ | ⟨x,y,h⟩
 ·exact Zeh na nb xs ys _ _ _ _ _ a1 a2 h
 ·exact Zeg na nb xs ys _ _ _ _ _ a1 a2 h
def TQE:Ji:=TQD
theorem Z6:Qh Yir TQE:=Zfl
end Go.Proofs.Ythnnfemologhfaa
