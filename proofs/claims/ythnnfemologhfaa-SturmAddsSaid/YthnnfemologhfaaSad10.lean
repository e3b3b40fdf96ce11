/- Texts of the proof of SturmAdds, packed by pack.py: part 10 of 15. -/
import Derived.Test.YthnnfemologhfaaSad9
namespace Go.Proofs.Ythnnfemologhfaa
open Go.IntKind (i64 u64 u32)
open Go.Ai
set_option maxRecDepth 100000
def Zf1 (N:Nat) (cs:List AV) (i:Int):Zi:=(.val (.sl N cs)::(dds 1 (.val (.int .i64 0)::(.val (.int .i64 i)::(dds 16 [])))))
theorem Yk62_1 (N:Nat) (cs:List AV) (i:Int) (r:Rn) (v:Int) (c1:(decide (i≥0))=true) (c2:(v==0)=true) (n1:0≤i∧i<(N:Int)) (n2:Zx (List.drop (Int.toNat i*2) cs) 0 2 false=some (.agg [.bool r.1, .sl r.2.length (lm r.2)])) (n3:Ze Yir 73 [.agg [.bool r.1, .sl r.2.length (lm r.2)]] (.int .i64 v)):Za Yir Zr7 (Zf1 N cs i) .norm (Zf1 N cs (i64.wrap (i-1))):=Za.script (ps:=[(decide (i≥0))=true,0≤i∧i<(N:Int),Zx (List.drop (Int.toNat i*2) cs) 0 2 false=some (.agg [.bool r.1, .sl r.2.length (lm r.2)]),Ze Yir 73 [.agg [.bool r.1, .sl r.2.length (lm r.2)]] (.int .i64 v),(v==0)=true]) Zv 300 [.b true, .v (.agg [.bool r.1, .sl r.2.length (lm r.2)]), .r (.int .i64 v), .b true] [0,2,3] (by kernel_rfl) ⟨c1,n1,n2,n3,c2,trivial⟩
theorem Yk62_2 (N:Nat) (cs:List AV) (i:Int) (r:Rn) (v:Int) (c1:(decide (i≥0))=true) (c2:(v==0)=false) (n1:0≤i∧i<(N:Int)) (n2:Zx (List.drop (Int.toNat i*2) cs) 0 2 false=some (.agg [.bool r.1, .sl r.2.length (lm r.2)])) (n3:Ze Yir 73 [.agg [.bool r.1, .sl r.2.length (lm r.2)]] (.int .i64 v)):Za Yir Zr7 (Zf1 N cs i) (.exit 0) (Zf1 N cs i):=Za.script (ps:=[(decide (i≥0))=true,0≤i∧i<(N:Int),Zx (List.drop (Int.toNat i*2) cs) 0 2 false=some (.agg [.bool r.1, .sl r.2.length (lm r.2)]),Ze Yir 73 [.agg [.bool r.1, .sl r.2.length (lm r.2)]] (.int .i64 v),(v==0)=false]) Zv 300 [.b true, .v (.agg [.bool r.1, .sl r.2.length (lm r.2)]), .r (.int .i64 v), .b false] [0,2,3] (by kernel_rfl) ⟨c1,n1,n2,n3,c2,trivial⟩
theorem Yk62_3 (N:Nat) (cs:List AV) (i:Int) (c1:(decide (i≥0))=false):Za Yir Zr7 (Zf1 N cs i) (.exit 0) (Zf1 N cs i):=Za.script (ps:=[(decide (i≥0))=false,false=false]) Zv 300 [.b false, .b false] [0,2,3] (by kernel_rfl) ⟨c1,rfl,trivial⟩
theorem P2 {n:Int}:Vc n=0↔n=0:=by unfold Vc;split <;> (try split) <;> omega
theorem Znq (rs:List Rn) (hg:∀ r∈rs,Xj 1048576 r) (hN:rs.length≤1048576):∀ m,m≤rs.length→Za Yir (.loop Zr7) (Zf1 rs.length (pc rs) ((m:Int)-1)) (.exit 0) (Zf1 rs.length (pc rs) (((Zs (Zj rs) m:Nat):Int)-1)):=by
 intro m
 induction m with
 | zero =>
  intro _
  exact Za.loop_out (Yk62_3 rs.length (pc rs) (((0:Nat):Int)-1) (by simp)) (by intro e;cases e)
 | succ m ih =>
  intro hm
  have e0:((m+1:Nat):Int)-1=(m:Int):=by omega
  have e1:i64.wrap ((m:Int)-1)=(m:Int)-1:=w64 (by omega) (by omega)
  have hx:=Dl (rs:=rs) (i:=m) (by omega)
  have gm:=Ql hg m
  have hs:=Hj (neg:=(rs.getD m z0).1) gm.1 gm.2
  rw[e0]
  simp only[Zs]
  rw[Jg]
  by_cases h0:Zt (rs.getD m z0)=0
  ·rw[if_pos h0]
   have h1:=Yk62_1 rs.length (pc rs) (m:Int) (rs.getD m z0) (Vc (Zt (rs.getD m z0))) (by simp) (by rw[beq_iff_eq];exact P2.2 h0) (by omega) (by rw[Int.toNat_natCast];exact hx) hs
   rw[e1] at h1
   exact Za.loop h1 (ih (by omega))
  ·rw[if_neg h0,e0]
   exact Za.loop_out (Yk62_2 rs.length (pc rs) (m:Int) (rs.getD m z0) (Vc (Zt (rs.getD m z0))) (by simp) (by rw[beq_eq_false_iff_ne];exact fun h=>h0 (P2.1 h)) (by omega) (by rw[Int.toNat_natCast];exact hx) hs) (by intro e;cases e)
theorem G1 {rs:List Rn} (hg:∀ r∈rs,Xj 1048576 r) (hN:rs.length≤1048576):Ze Yir 62 [.sl rs.length (pc rs)] (.int .i64 (((Zs (Zj rs) rs.length:Nat):Int)-1)):=by
 have e1:i64.wrap ((rs.length:Int)-1)=(rs.length:Int)-1:=w64 (by omega) (by omega)
 have hl:Za Yir (.loop Zr7) (Zf1 rs.length (pc rs) (i64.wrap ((rs.length:Int)-1))) (.exit 0) (Zf1 rs.length (pc rs) (((Zs (Zj rs) rs.length:Nat):Int)-1)):=by
  rw[e1];exact Znq rs hg hN rs.length (Nat.le_refl _)
 exact Ze.of_bodyW (fn:=Yi62) (s:=(.val (.sl rs.length (pc rs))::(dds 1 (.val (.int .i64 (((Zs (Zj rs) rs.length:Nat):Int)-1))::(.val (.int .i64 (((Zs (Zj rs) rs.length:Nat):Int)-1))::(dds 15 (.val (.int .i64 (((Zs (Zj rs) rs.length:Nat):Int)-1))::[]))))))) (ex := .ret) rfl rfl
  (Za.seq (Za.script (t:=(.val (.sl rs.length (pc rs))::(dds 1 (.val (.int .i64 0)::(dds 17 []))))) (ex := .norm) (ps:=[]) Zv 300 [] [0,2] (by kernel_rfl) trivial)
  (Za.seq (Za.script (t:=(.val (.sl rs.length (pc rs))::(dds 1 (.val (.int .i64 0)::(.val (.int .i64 (i64.wrap ((rs.length:Int)-1)))::(dds 16 [])))))) (ex := .norm) (ps:=[]) Zv 300 [] [0,2,3] (by kernel_rfl) trivial)
  (Za.seq (Za.block hl)
  (Za.script (t:=(.val (.sl rs.length (pc rs))::(dds 1 (.val (.int .i64 (((Zs (Zj rs) rs.length:Nat):Int)-1))::(.val (.int .i64 (((Zs (Zj rs) rs.length:Nat):Int)-1))::(dds 15 (.val (.int .i64 (((Zs (Zj rs) rs.length:Nat):Int)-1))::[]))))))) (ex := .ret) (ps:=[]) Zv 300 [] [0,2,3,19] (by kernel_rfl) trivial)))) (by intro i e;cases e) rfl
def Zls (N:Nat) (cs:List AV) (n:Nat) (os:List AV) (m:Int) (i:Int):Zi:=(.val (.sl N cs)::(dds 1 (.own 2 0 []::(dds 1 (.own 2 n os::(dds 9 (.val (.int .i64 m)::(.val (.int .i64 i)::(dds 12 [])))))))))
theorem Yk92_1 (N:Nat) (cs:List AV) (n:Nat) (os:List AV) (m:Int) (i:Int) (ds:List AV) (r:Rn) (v:Int) (c1:(decide (i<m))=true) (n1:0≤i∧i<(N:Int)) (n2:Zx (List.drop (Int.toNat i*2) cs) 0 2 false=some (.agg [.bool r.1, .sl r.2.length (lm r.2)])) (n3:Ze Yir 132 [.agg [.bool r.1, .sl r.2.length (lm r.2)]] (.agg [.bool (decide (v<0)), .sl ((Zb (Int.natAbs v)).length) (lm (Zb (Int.natAbs v)))])) (n4:0≤i∧i<(n:Int)) (n5:X4 os (Int.toNat i*2) [.bool (decide (v<0)), .sl ((Zb (Int.natAbs v)).length) (lm (Zb (Int.natAbs v)))]=some ds):Za Yir Yc92 (Zls N cs n os m i) .norm (Zls N cs n ds m (i64.wrap (i+1))):=Za.script (ps:=[(decide (i<m))=true,0≤i∧i<(N:Int),Zx (List.drop (Int.toNat i*2) cs) 0 2 false=some (.agg [.bool r.1, .sl r.2.length (lm r.2)]),Ze Yir 132 [.agg [.bool r.1, .sl r.2.length (lm r.2)]] (.agg [.bool (decide (v<0)), .sl ((Zb (Int.natAbs v)).length) (lm (Zb (Int.natAbs v)))]),0≤i∧i<(n:Int),X4 os (Int.toNat i*2) [.bool (decide (v<0)), .sl ((Zb (Int.natAbs v)).length) (lm (Zb (Int.natAbs v)))]=some ds]) Zv 300 [.b true, .v (.agg [.bool r.1, .sl r.2.length (lm r.2)]), .r (.agg [.bool (decide (v<0)), .sl ((Zb (Int.natAbs v)).length) (lm (Zb (Int.natAbs v)))]), .l ds] [0,2,4,14,15] (by kernel_rfl) ⟨c1,n1,n2,n3,n4,n5,trivial⟩
theorem Yk92_2 (N:Nat) (cs:List AV) (n:Nat) (os:List AV) (m:Int) (i:Int) (c1:(decide (i<m))=false):Za Yir Yc92 (Zls N cs n os m i) (.exit 0) (Zls N cs n os m i):=Za.script (ps:=[(decide (i<m))=false]) Zv 300 [.b false] [0,2,4,14,15] (by kernel_rfl) ⟨c1,trivial⟩
theorem Znn (rs:List Rn) (hg:∀ r∈rs,Xj 1048576 r) (hN:rs.length≤1048576) (n:Nat) (hn:n≤rs.length):∀ (r i:Nat),i+r=n →
  Za Yir (.loop Yc92) (Zls rs.length (pc rs) n (pc (U8 (fun j=>cn (Zt (rs.getD j z0))) i r)) (n:Int) (i:Int)) (.exit 0) (Zls rs.length (pc rs) n (pc (U8 (fun j=>cn (Zt (rs.getD j z0))) n 0)) (n:Int) (n:Int)):=by
 intro r
 induction r with
 | zero =>
  intro i hi
  have hi':i=n:=by omega
  subst hi'
  exact Za.loop_out (Yk92_2 rs.length (pc rs) i _ (i:Int) (i:Int) (by simp)) (by intro e;cases e)
 | succ r ih =>
  intro i hi
  have ei:i64.wrap ((i:Int)+1)=((i+1:Nat):Int):=by rw[w64 (by omega) (by omega)];omega
  have hx:=Dl (rs:=rs) (i:=i) (by omega)
  have gm:=Ql hg i
  have hs:=Zar (neg:=(rs.getD i z0).1) gm.1 gm.2
  have hst:=Zcc (rs:=U8 (fun j=>cn (Zt (rs.getD j z0))) i (r+1)) (i:=i) (r:=cn (Zt (rs.getD i z0))) (by rw[H4];omega)
  rw[Aq (fun j=>cn (Zt (rs.getD j z0))) i r] at hst
  have h1:=Yk92_1 rs.length (pc rs) n _ (n:Int) (i:Int) _ (rs.getD i z0) (Zt (rs.getD i z0)) (by simp;omega) (by omega) (by rw[Int.toNat_natCast];exact hx) hs (by omega) (by rw[Int.toNat_natCast];exact hst)
  rw[ei] at h1
  exact Za.loop h1 (ih (i+1) (by omega))
theorem Zh8 (rs:List Rn) (hd:Ze Yir 62 [.sl rs.length (pc rs)] (.int .i64 (((Zs (Zj rs) rs.length:Nat):Int)-1))) (hz:((i64.wrap ((((Zs (Zj rs) rs.length:Nat):Int)-1)+1))==0)=true):Ze Yir 92 [.sl rs.length (pc rs)] (.fresh 2 0 []):=Ze.script (ps:=[Ze Yir 62 [.sl rs.length (pc rs)] (.int .i64 (((Zs (Zj rs) rs.length:Nat):Int)-1)),((i64.wrap ((((Zs (Zj rs) rs.length:Nat):Int)-1)+1))==0)=true]) Zv rfl 300 rfl [.r (.int .i64 (((Zs (Zj rs) rs.length:Nat):Int)-1)), .b true] (by kernel_rfl) ⟨hd,hz,trivial⟩
theorem Zh9 (rs ss:List Rn) (hd:Ze Yir 62 [.sl rs.length (pc rs)] (.int .i64 (((Zs (Zj rs) rs.length:Nat):Int)-1))) (hz:((i64.wrap ((((Zs (Zj rs) rs.length:Nat):Int)-1)+1))==0)=false) (hmk:0≤i64.wrap ((((Zs (Zj rs) rs.length:Nat):Int)-1)+1)∧i64.wrap ((((Zs (Zj rs) rs.length:Nat):Int)-1)+1)≤1048576) (hl:Za Yir (.loop Yc92) (Zls rs.length (pc rs) (Int.toNat (i64.wrap ((((Zs (Zj rs) rs.length:Nat):Int)-1)+1))) (Qy [.bool false, .sl 0 []] (Int.toNat (i64.wrap ((((Zs (Zj rs) rs.length:Nat):Int)-1)+1)))) (((Int.toNat (i64.wrap ((((Zs (Zj rs) rs.length:Nat):Int)-1)+1))):Nat):Int) 0) (.exit 0) (Zls rs.length (pc rs) (Int.toNat (i64.wrap ((((Zs (Zj rs) rs.length:Nat):Int)-1)+1))) (pc ss) (((Int.toNat (i64.wrap ((((Zs (Zj rs) rs.length:Nat):Int)-1)+1))):Nat):Int) (((Int.toNat (i64.wrap ((((Zs (Zj rs) rs.length:Nat):Int)-1)+1))):Nat):Int))):Ze Yir 92 [.sl rs.length (pc rs)] (.fresh 2 (Int.toNat (i64.wrap ((((Zs (Zj rs) rs.length:Nat):Int)-1)+1))) (pc ss)):=Ze.of_bodyW (fn:=Yi92) (s:=(.val (.sl rs.length (pc rs))::(dds 1 (.own 2 (Int.toNat (i64.wrap ((((Zs (Zj rs) rs.length:Nat):Int)-1)+1))) (pc ss)::(dds 11 (.val (.int .i64 (((Int.toNat (i64.wrap ((((Zs (Zj rs) rs.length:Nat):Int)-1)+1))):Nat):Int))::(.val (.int .i64 (((Int.toNat (i64.wrap ((((Zs (Zj rs) rs.length:Nat):Int)-1)+1))):Nat):Int))::(dds 12 [])))))))) (ex := .ret) rfl rfl (Za.seq (Za.script (t:=(vp rs::(dds 1 (.own 2 0 []::(dds 25 []))))) (ps:=[]) Zv 300 [] [0,2] (by kernel_rfl) trivial) (Za.seq (Za.script (t:=(vp rs::(dds 1 (.own 2 0 []::(vi (i64.wrap ((((Zs (Zj rs) rs.length:Nat):Int)-1)+1))::(dds 2 (vp rs::(vi (((Zs (Zj rs) rs.length:Nat):Int)-1)::(vi (i64.wrap ((((Zs (Zj rs) rs.length:Nat):Int)-1)+1))::(dds 19 [])))))))))) (ps:=[Ze Yir 62 [.sl rs.length (pc rs)] (.int .i64 (((Zs (Zj rs) rs.length:Nat):Int)-1))]) Zv 300 [.r (.int .i64 (((Zs (Zj rs) rs.length:Nat):Int)-1))] [0,2,3,6,7,8] (by kernel_rfl) ⟨hd,trivial⟩) (Za.seq (Za.script (t:=(vp rs::(dds 1 (.own 2 0 []::(vi (i64.wrap ((((Zs (Zj rs) rs.length:Nat):Int)-1)+1))::(dds 2 (vp rs::(vi (((Zs (Zj rs) rs.length:Nat):Int)-1)::(vi (i64.wrap ((((Zs (Zj rs) rs.length:Nat):Int)-1)+1))::(vi (i64.wrap ((((Zs (Zj rs) rs.length:Nat):Int)-1)+1))::(.val (.bool ((i64.wrap ((((Zs (Zj rs) rs.length:Nat):Int)-1)+1))==0))::(dds 17 [])))))))))))) (ps:=[((i64.wrap ((((Zs (Zj rs) rs.length:Nat):Int)-1)+1))==0)=false]) Zv 300 [.b false] [0,2,3,6,7,8,9,10] (by kernel_rfl) ⟨hz,trivial⟩) (Za.seq (Za.script (t:=(vp rs::(dds 1 (.own 2 0 []::(vi (i64.wrap ((((Zs (Zj rs) rs.length:Nat):Int)-1)+1))::(.own 2 (Int.toNat (i64.wrap ((((Zs (Zj rs) rs.length:Nat):Int)-1)+1))) (Qy [.bool false, .sl 0 []] (Int.toNat (i64.wrap ((((Zs (Zj rs) rs.length:Nat):Int)-1)+1))))::(dds 1 (vp rs::(vi (((Zs (Zj rs) rs.length:Nat):Int)-1)::(vi (i64.wrap ((((Zs (Zj rs) rs.length:Nat):Int)-1)+1))::(vi (i64.wrap ((((Zs (Zj rs) rs.length:Nat):Int)-1)+1))::(.val (.bool ((i64.wrap ((((Zs (Zj rs) rs.length:Nat):Int)-1)+1))==0))::(vi (i64.wrap ((((Zs (Zj rs) rs.length:Nat):Int)-1)+1))::(dds 16 [])))))))))))))) (ps:=[0≤(i64.wrap ((((Zs (Zj rs) rs.length:Nat):Int)-1)+1))∧(i64.wrap ((((Zs (Zj rs) rs.length:Nat):Int)-1)+1))≤1048576]) Zv 300 [] [0,2,3,4,6,7,8,9,10,11] (by kernel_rfl) ⟨hmk,trivial⟩) (Za.seq (Za.seq (Za.script (t:=(vp rs::(dds 1 (.own 2 0 []::(dds 1 (.own 2 (Int.toNat (i64.wrap ((((Zs (Zj rs) rs.length:Nat):Int)-1)+1))) (Qy [.bool false, .sl 0 []] (Int.toNat (i64.wrap ((((Zs (Zj rs) rs.length:Nat):Int)-1)+1))))::(dds 9 (vi (((Int.toNat (i64.wrap ((((Zs (Zj rs) rs.length:Nat):Int)-1)+1))):Nat):Int)::(vi 0::(dds 12 [])))))))))) (ps:=[]) Zv 300 [] [0,2,4,14,15] (by kernel_rfl) trivial) (Za.block hl)) (Za.script (t:=(vp rs::(dds 1 (.own 2 (Int.toNat (i64.wrap ((((Zs (Zj rs) rs.length:Nat):Int)-1)+1))) (pc ss)::(dds 11 (vi (((Int.toNat (i64.wrap ((((Zs (Zj rs) rs.length:Nat):Int)-1)+1))):Nat):Int)::(vi (((Int.toNat (i64.wrap ((((Zs (Zj rs) rs.length:Nat):Int)-1)+1))):Nat):Int)::(dds 12 [])))))))) (ex := .ret) (ps:=[]) Zv 300 [] [0,2,14,15] (by kernel_rfl) trivial)))))) (by intro i e;cases e) rfl
theorem Bl {rs:List Rn} (hg:∀ r∈rs,Xj 1048576 r) (hN:rs.length≤1048576):Ze Yir 92 [.sl rs.length (pc rs)] (.fresh 2 (Zh (Zj rs)).length (pk (Zh (Zj rs)))):=by
 have hle:=V3 (Zj rs) rs.length
 have hlen:(Zh (Zj rs)).length=Zs (Zj rs) rs.length:=by rw[Ue,Z0]
 have hd:=G1 hg hN
 have e1:i64.wrap ((((Zs (Zj rs) rs.length:Nat):Int)-1)+1)=((Zs (Zj rs) rs.length:Nat):Int):=by rw[w64 (by omega) (by omega)];omega
 have e2:(Int.toNat (i64.wrap ((((Zs (Zj rs) rs.length:Nat):Int)-1)+1)))=Zs (Zj rs) rs.length:=by rw[e1,Int.toNat_natCast]
 by_cases h0:Zs (Zj rs) rs.length=0
 ·have h:=Zh8 rs hd (by rw[e1,h0];rfl)
  have:Zh (Zj rs)=[]:=List.eq_nil_of_length_eq_zero (by omega)
  rw[this]
  exact h
 ·have hl:=Znn rs hg hN (Zs (Zj rs) rs.length) hle (Zs (Zj rs) rs.length) 0 (by omega)
  rw[Be,← M8] at hl
  have h:=Zh9 rs _ hd (by rw[e1,beq_eq_false_iff_ne];omega) (by rw[e1];omega) (by rw[e2];exact hl)
  rw[e2,Bf] at h
  have e3:(List.range (Zs (Zj rs) rs.length)).map (fun j=>cn (Zt (rs.getD j z0)))=(Zh (Zj rs)).map cn:=by
   rw[← Ed,hlen]
   apply List.map_congr_left
   intro i _
   rw[Jc,Jg]
  rw[e3] at h
  rw[hlen]
  exact h
def Ml (N:Nat) (cs:List AV) (n:Nat) (os:List AV) (m:Int) (i:Int):Zi:=(.val (.sl N cs)::(dds 1 (.own 2 0 []::(.own 2 n os::(dds 5 (.val (.int .i64 m)::(.val (.int .i64 i)::(dds 12 []))))))))
theorem Zov (N:Nat) (cs:List AV) (n:Nat) (os:List AV) (m:Int) (i:Int) (ds:List AV) (r:Rn) (v:Int) (c1:(decide (i<m))=true) (n1:0≤i∧i<(N:Int)) (n2:Zx (List.drop (Int.toNat i*2) cs) 0 2 false=some (.agg [.bool r.1, .sl r.2.length (lm r.2)])) (n3:Ze Yir 112 [.agg [.bool r.1, .sl r.2.length (lm r.2)]] (.agg [.bool (decide (v<0)), .sl ((Zb (Int.natAbs v)).length) (lm (Zb (Int.natAbs v)))])) (n4:0≤i∧i<(n:Int)) (n5:X4 os (Int.toNat i*2) [.bool (decide (v<0)), .sl ((Zb (Int.natAbs v)).length) (lm (Zb (Int.natAbs v)))]=some ds):Za Yir Zfb (Ml N cs n os m i) .norm (Ml N cs n ds m (i64.wrap (i+1))):=Za.script (ps:=[(decide (i<m))=true,0≤i∧i<(N:Int),Zx (List.drop (Int.toNat i*2) cs) 0 2 false=some (.agg [.bool r.1, .sl r.2.length (lm r.2)]),Ze Yir 112 [.agg [.bool r.1, .sl r.2.length (lm r.2)]] (.agg [.bool (decide (v<0)), .sl ((Zb (Int.natAbs v)).length) (lm (Zb (Int.natAbs v)))]),0≤i∧i<(n:Int),X4 os (Int.toNat i*2) [.bool (decide (v<0)), .sl ((Zb (Int.natAbs v)).length) (lm (Zb (Int.natAbs v)))]=some ds]) Zv 300 [.b true, .v (.agg [.bool r.1, .sl r.2.length (lm r.2)]), .r (.agg [.bool (decide (v<0)), .sl ((Zb (Int.natAbs v)).length) (lm (Zb (Int.natAbs v)))]), .l ds] [0,2,3,9,10] (by kernel_rfl) ⟨c1,n1,n2,n3,n4,n5,trivial⟩
theorem Zou (N:Nat) (cs:List AV) (n:Nat) (os:List AV) (m:Int) (i:Int) (c1:(decide (i<m))=false):Za Yir Zfb (Ml N cs n os m i) (.exit 0) (Ml N cs n os m i):=Za.script (ps:=[(decide (i<m))=false]) Zv 300 [.b false] [0,2,3,9,10] (by kernel_rfl) ⟨c1,trivial⟩
theorem Zi1 (rs:List Rn) (hg:∀ r∈rs,Xj 1048576 r) (hN:rs.length≤1048576) (n:Nat) (hn:n≤rs.length):∀ (r i:Nat),i+r=n →
  Za Yir (.loop Zfb) (Ml rs.length (pc rs) n (pc (U8 (fun j=>cn (-(Zt (rs.getD j z0)))) i r)) (n:Int) (i:Int)) (.exit 0) (Ml rs.length (pc rs) n (pc (U8 (fun j=>cn (-(Zt (rs.getD j z0)))) n 0)) (n:Int) (n:Int)):=by
 intro r
 induction r with
 | zero =>
  intro i hi
  have hi':i=n:=by omega
  subst hi'
  exact Za.loop_out (Zou rs.length (pc rs) i _ (i:Int) (i:Int) (by simp)) (by intro e;cases e)
 | succ r ih =>
  intro i hi
  have ei:i64.wrap ((i:Int)+1)=((i+1:Nat):Int):=by rw[w64 (by omega) (by omega)];omega
  have hx:=Dl (rs:=rs) (i:=i) (by omega)
  have gm:=Ql hg i
  have hs:=Po (neg:=(rs.getD i z0).1) gm.1 gm.2
  have hst:=Zcc (rs:=U8 (fun j=>cn (-(Zt (rs.getD j z0)))) i (r+1)) (i:=i) (r:=cn (-(Zt (rs.getD i z0)))) (by rw[H4];omega)
  rw[Aq (fun j=>cn (-(Zt (rs.getD j z0)))) i r] at hst
  have h1:=Zov rs.length (pc rs) n _ (n:Int) (i:Int) _ (rs.getD i z0) (-(Zt (rs.getD i z0))) (by simp;omega) (by omega) (by rw[Int.toNat_natCast];exact hx) hs (by omega) (by rw[Int.toNat_natCast];exact hst)
  rw[ei] at h1
  exact Za.loop h1 (ih (i+1) (by omega))
theorem Znb (rs ss:List Rn) (hmk:0≤(rs.length:Int)∧(rs.length:Int)≤1048576) (hl:Za Yir (.loop Zfb) (Ml rs.length (pc rs) (Int.toNat (rs.length:Int)) (Qy [.bool false, .sl 0 []] (Int.toNat (rs.length:Int))) (rs.length:Int) 0) (.exit 0) (Ml rs.length (pc rs) (Int.toNat (rs.length:Int)) (pc ss) (rs.length:Int) (rs.length:Int))):Ze Yir 127 [.sl rs.length (pc rs)] (.fresh 2 (Int.toNat (rs.length:Int)) (pc ss)):=Ze.of_bodyW (fn:=Zex) (s:=(.val (.sl rs.length (pc rs))::(dds 1 (.own 2 (Int.toNat (rs.length:Int)) (pc ss)::(dds 6 (.val (.int .i64 (rs.length:Int))::(.val (.int .i64 (rs.length:Int))::(dds 12 [])))))))) (ex := .ret) rfl rfl (Za.seq (Za.script (t:=(vp rs::(dds 1 (.own 2 0 []::(dds 20 []))))) (ps:=[]) Zv 300 [] [0,2] (by kernel_rfl) trivial) (Za.seq (Za.script (t:=(vp rs::(dds 1 (.own 2 0 []::(.own 2 (Int.toNat (rs.length:Int)) (Qy [.bool false, .sl 0 []] (Int.toNat (rs.length:Int)))::(dds 1 (vp rs::(vi (rs.length:Int)::(dds 16 []))))))))) (ps:=[0≤(rs.length:Int)∧(rs.length:Int)≤1048576]) Zv 300 [] [0,2,3,5,6] (by kernel_rfl) ⟨hmk,trivial⟩) (Za.seq (Za.seq (Za.script (t:=(vp rs::(dds 1 (.own 2 0 []::(.own 2 (Int.toNat (rs.length:Int)) (Qy [.bool false, .sl 0 []] (Int.toNat (rs.length:Int)))::(dds 5 (vi (rs.length:Int)::(vi 0::(dds 12 []))))))))) (ps:=[]) Zv 300 [] [0,2,3,9,10] (by kernel_rfl) trivial) (Za.block hl)) (Za.script (t:=(vp rs::(dds 1 (.own 2 (Int.toNat (rs.length:Int)) (pc ss)::(dds 6 (vi (rs.length:Int)::(vi (rs.length:Int)::(dds 12 [])))))))) (ex := .ret) (ps:=[]) Zv 300 [] [0,2,9,10] (by kernel_rfl) trivial)))) (by intro i e;cases e) rfl
theorem Wb {rs:List Rn} (hg:∀ r∈rs,Xj 1048576 r) (hN:rs.length≤1048576):Ze Yir 127 [.sl rs.length (pc rs)] (.fresh 2 rs.length (pk (Xs (Zj rs)))):=by
 have hl:=Zi1 rs hg hN rs.length (Nat.le_refl _) rs.length 0 (by omega)
 rw[Be,← M8] at hl
 have h:=Znb rs _ (by omega) (by rw[Int.toNat_natCast];exact hl)
 rw[Int.toNat_natCast,Bf] at h
 have e3:(List.range rs.length).map (fun j=>cn (-(Zt (rs.getD j z0))))=(Xs (Zj rs)).map cn:=by
  have hq:(Xs (Zj rs)).length=rs.length:=by simp[Xs,Zj]
  rw[← Ed,hq]
  apply List.map_congr_left
  intro i _
  rw[Vy,Jg]
 rw[e3] at h
 exact h
def TAA:Ji:=TWC
theorem Qb:Qh Yir TAA:=Zv
end Go.Proofs.Ythnnfemologhfaa

namespace Go.Proofs.Ythnnfemologhfaa
open Go.IntKind (i64 u64 u32)
open Go.Ai
set_option maxRecDepth 100000
def Zf0 (rs:List Rn) (w:Rn) (i:Int) (z:Rn):Zi:=(.val (.sl rs.length (pc rs))::(dds 1 (.box [.bool z.1, .sl z.2.length (lm z.2)]::(.box [.bool w.1, .sl w.2.length (lm w.2)]::(.val (.int .i64 i)::(dds 19 []))))))
theorem Yk85_1 (rs:List Rn) (w:Rn) (i:Int) (z:Rn) (b g:Int) (c1:(decide (i≥0))=true) (c2:(b != 1)=true) (n1:0≤i∧i<(rs.length:Int)) (n2:Ze Yir 77 [Z8 w] (.int .i64 b)) (n3:Ze Yir 109 [Z8 w,Z8 (rs.getD (Int.toNat i) z0)] (Zp g)):Za Yir Zr6 (Zf0 rs w i z) .norm (Zf0 rs (cn g) (i64.wrap (i-1)) z):=(Za.go Z6 400 [.b true, .r (.int .i64 b), .b true, .v (Z8 (rs.getD (Int.toNat i) z0)), .r (Zp g)] [0,2,3,4] (ac c1 (ac n2 (ac c2 (ac n1 (ac (Xc n1) (ac n3 a0)))))))
theorem Yk85_2 (rs:List Rn) (w:Rn) (i:Int) (z:Rn) (b:Int) (c1:(decide (i≥0))=true) (c2:(b != 1)=false) (n1:Ze Yir 77 [Z8 w] (.int .i64 b)):Za Yir Zr6 (Zf0 rs w i z) (.exit 0) (Zf0 rs w i z):=(Za.go Z6 400 [.b true, .r (.int .i64 b), .b false] [0,2,3,4] (ac c1 (ac n1 (ac c2 a0))))
theorem Yk85_3 (rs:List Rn) (w:Rn) (i:Int) (z:Rn)  (c1:(decide (i≥0))=false):Za Yir Zr6 (Zf0 rs w i z) (.exit 0) (Zf0 rs w i z):=(Za.go Z6 400 [.b false, .b false] [0,2,3,4] (ac c1 (ac (show false=false from rfl) a0)))
theorem Yrun85 (rs:List Rn) (w z:Rn) (i:Int) (hl1:Za Yir (.loop Zr6) (Zf0 rs (false,[]) (i64.wrap ((rs.length:Int)-1)) (false,[])) (.exit 0) (Zf0 rs w i z)):Ze Yir 85 [.sl rs.length (pc rs)] (Z8 w):=Ze.of_bodyW (fn:=Yi85) (s:=(dds 2 (.box [.bool w.1, .sl w.2.length (lm w.2)]::(dds 21 [])))) (ex := .ret) rfl rfl (Za.seq (Za.go (t:=(vp rs::(dds 1 (.box [.bool false, .sl 0 []]::(dds 21 []))))) Z6 400 [] [0,2] a0) (Za.seq (Za.go (t:=(vp rs::(dds 1 (.box [.bool false, .sl 0 []]::(.box [.bool false, .sl 0 []]::(dds 20 [])))))) Z6 400 [] [0,2,3] a0) (Za.seq (Za.seq (Za.go Z6 400 [] [0,2,3,4] a0) (Za.block hl1)) (Za.go Z6 400 [] [2] a0)))) (by intro i e;cases e) rfl
def Zfz (k:Nat) (os:List Rn) (w:Rn) (n:Int) (i:Int):Zi:=(dds 3 (.own 2 k (pc os)::(.box [.bool w.1, .sl w.2.length (lm w.2)]::(dds 9 (.val (.int .i64 n)::(.val (.int .i64 i)::(dds 16 [])))))))
theorem Yk86_1 (k:Nat) (os:List Rn) (w:Rn) (n:Int) (i:Int) (q r:Int) (c1:(decide (i<n))=true) (n1:0≤i∧i<(k:Int)) (n2:os.length=k) (n3:Ze Yir 110 [Z8 (os.getD (Int.toNat i) z0),Z8 w] (.tup [Zp q,Zp r])):Za Yir Zr5 (Zfz k os w n i) .norm (Zfz k (os.set (Int.toNat i) (cn q)) w n (i64.wrap (i+1))):=(Za.go Z6 400 [.b true, .v (Z8 (os.getD (Int.toNat i) z0)), .r (.tup [Zp q,Zp r]), .l (pc (os.set (Int.toNat i) (cn q)))] [3,4,14,15] (ac c1 (ac n1 (ac (Vk n2 n1) (ac n3 (ac n1 (ac (Wv (r:=cn q) n2 n1) a0)))))))
theorem Yk86_2 (k:Nat) (os:List Rn) (w:Rn) (n:Int) (i:Int)  (c1:(decide (i<n))=false):Za Yir Zr5 (Zfz k os w n i) (.exit 0) (Zfz k os w n i):=(Za.go Z6 400 [.b false] [3,4,14,15] (ac c1 a0))
theorem Zib (rs ts os:List Rn) (w:Rn) (g b n i:Int) (k:Nat) (c1:(decide (b>1))=true) (n1:Ze Yir 92 [.sl rs.length (pc rs)] (.fresh 2 ts.length (pc ts))) (n2:List.all (pc ts) (fun c => !isI c)=true) (n3:Un (Zp g)=true) (n4:Ze Yir 85 [.sl ts.length (pc ts)] (Zp g)) (n5:Ze Yir 77 [Zp g] (.int .i64 b)) (hl6:Za Yir (.loop Zr5) (Zfz ts.length ts (cn g) (ts.length:Int) 0) (.exit 0) (Zfz k os w n i)):Ze Yir 86 [.sl rs.length (pc rs)] (.fresh 2 k (pc os)):=Ze.of_bodyW (fn:=Zrz) (s:=(dds 2 (.own 2 k (pc os)::(dds 29 [])))) (ex := .ret) rfl rfl (Za.seq (Za.go (t:=(vp rs::(dds 1 (.own 2 0 []::(dds 29 []))))) Z6 400 [] [0,2] a0) (Za.seq (Za.go (t:=(vp rs::(dds 1 (.own 2 0 []::(.own 2 ts.length (pc ts)::(dds 28 [])))))) Z6 400 [.r (.fresh 2 ts.length (pc ts))] [0,2,3] (ac n1 a0)) (Za.seq (Za.go (t:=(vp rs::(dds 1 (.own 2 0 []::(.own 2 ts.length (pc ts)::(bN g::(dds 27 []))))))) Z6 400 [.r (Zp g)] [0,2,3,4] (ac n2 (ac n3 (ac n4 a0)))) (Za.seq (Za.seq (Za.go (t:=(vp rs::(dds 1 (.own 2 0 []::(.own 2 ts.length (pc ts)::(bN g::(dds 7 (.val (.bool (decide (b>1)))::(dds 19 []))))))))) Z6 400 [.r (.int .i64 b)] [0,2,3,4,12] (ac n5 a0)) (Za.cond_t (by rfl) c1 (Za.seq (Za.go Z6 400 [] [3,4,14,15] a0) (Za.block hl6)))) (Za.go Z6 400 [] [2] a0))))) (by intro i e;cases e) rfl
theorem Zia (rs ts:List Rn) (g b:Int) (c1:(decide (b>1))=false) (n1:Ze Yir 92 [.sl rs.length (pc rs)] (.fresh 2 ts.length (pc ts))) (n2:List.all (pc ts) (fun c => !isI c)=true) (n3:Un (Zp g)=true) (n4:Ze Yir 85 [.sl ts.length (pc ts)] (Zp g)) (n5:Ze Yir 77 [Zp g] (.int .i64 b)):Ze Yir 86 [.sl rs.length (pc rs)] (.fresh 2 ts.length (pc ts)):=Ze.of_bodyW (fn:=Zrz) (s:=(dds 2 (.own 2 ts.length (pc ts)::(dds 29 [])))) (ex := .ret) rfl rfl (Za.seq (Za.go (t:=(vp rs::(dds 1 (.own 2 0 []::(dds 29 []))))) Z6 400 [] [0,2] a0) (Za.seq (Za.go (t:=(vp rs::(dds 1 (.own 2 0 []::(.own 2 ts.length (pc ts)::(dds 28 [])))))) Z6 400 [.r (.fresh 2 ts.length (pc ts))] [0,2,3] (ac n1 a0)) (Za.seq (Za.go (t:=(vp rs::(dds 1 (.own 2 0 []::(.own 2 ts.length (pc ts)::(bN g::(dds 27 []))))))) Z6 400 [.r (Zp g)] [0,2,3,4] (ac n2 (ac n3 (ac n4 a0)))) (Za.seq (Za.seq (Za.go (t:=(vp rs::(dds 1 (.own 2 0 []::(.own 2 ts.length (pc ts)::(bN g::(dds 7 (.val (.bool (decide (b>1)))::(dds 19 []))))))))) Z6 400 [.r (.int .i64 b)] [0,2,3,4,12] (ac n5 a0)) (Za.cond_f (by rfl) c1 (Za.go (t:=(dds 2 (.own 2 0 []::(.own 2 ts.length (pc ts)::(dds 28 []))))) Z6 400 [] [2,3] a0))) (Za.go Z6 400 [] [2] a0))))) (by intro i e;cases e) rfl
theorem Zec (rs ts:List Rn) (s:Int) (c1:(decide ((rs.length:Int)>0))=true) (c2:(decide (s<0))=true) (n1:0≤(i64.wrap ((rs.length:Int)-1))∧(i64.wrap ((rs.length:Int)-1))<(rs.length:Int)) (n2:Ze Yir 73 [Z8 (rs.getD (Int.toNat (i64.wrap ((rs.length:Int)-1))) z0)] (.int .i64 s)) (n3:Ze Yir 127 [.sl rs.length (pc rs)] (.fresh 2 ts.length (pc ts))):Ze Yir 115 [.sl rs.length (pc rs)] (.fresh 2 ts.length (pc ts)):=Ze.go (fn:=Pj) Z6 rfl 400 rfl [.b true, .v (Z8 (rs.getD (Int.toNat (i64.wrap ((rs.length:Int)-1))) z0)), .r (.int .i64 s), .b true, .r (.fresh 2 ts.length (pc ts))] (ac c1 (ac n1 (ac (Xc n1) (ac n2 (ac c2 (ac n3 a0))))))
theorem Zeb (rs:List Rn) (s:Int) (c1:(decide ((rs.length:Int)>0))=true) (c2:(decide (s<0))=false) (n1:0≤(i64.wrap ((rs.length:Int)-1))∧(i64.wrap ((rs.length:Int)-1))<(rs.length:Int)) (n2:Ze Yir 73 [Z8 (rs.getD (Int.toNat (i64.wrap ((rs.length:Int)-1))) z0)] (.int .i64 s)):Ze Yir 115 [.sl rs.length (pc rs)] (.sl rs.length (pc rs)):=Ze.go (fn:=Pj) Z6 rfl 400 rfl [.b true, .v (Z8 (rs.getD (Int.toNat (i64.wrap ((rs.length:Int)-1))) z0)), .r (.int .i64 s), .b false] (ac c1 (ac n1 (ac (Xc n1) (ac n2 (ac c2 a0)))))
theorem Zea (rs:List Rn) (c1:(decide ((rs.length:Int)>0))=false):Ze Yir 115 [.sl rs.length (pc rs)] (.sl rs.length (pc rs)):=Ze.go (fn:=Pj) Z6 rfl 400 rfl [.b false, .b false] (ac c1 (ac (show false=false from rfl) a0))
def Zlu (rs:List Rn) (k:Nat) (cs:List AV) (i:Int):Zi:=(.val (.sl rs.length (pc rs))::(dds 2 (.own 2 k cs::(.val (.int .i64 i)::(dds 18 [])))))
theorem Yk75_1 (rs:List Rn) (k:Nat) (cs:List AV) (i:Int) (d v:Int) (c1:(decide (i≤d))=true) (n1:0≤i∧i<(rs.length:Int)) (n2:k+1≤1048576) (n3:Ze Yir 62 [.sl rs.length (pc rs)] (.int .i64 d)) (n4:Ze Yir 94 [.int .i64 i] (Zp i)) (n5:Ze Yir 113 [Z8 (rs.getD (Int.toNat i) z0),Zp i] (Zp v)):Za Yir Yc75 (Zlu rs k cs i) .norm (Zlu rs (k+1) (cs++([.bool (decide (v<0)), .sl ((Zb (Int.natAbs v)).length) (lm (Zb (Int.natAbs v)))]:List AV)) (i64.wrap (i+1))):=(Za.go Z6 400 [.r (.int .i64 d), .b true, .v (Z8 (rs.getD (Int.toNat i) z0)), .r (Zp i), .r (Zp v)] [0,3,4] (ac n3 (ac c1 (ac n1 (ac (Xc n1) (ac n4 (ac n5 (ac (show List.length ([.bool (decide (v<0)), .sl ((Zb (Int.natAbs v)).length) (lm (Zb (Int.natAbs v)))]:List AV)=1*2 from rfl) (ac n2 a0)))))))))
theorem Yk75_2 (rs:List Rn) (k:Nat) (cs:List AV) (i:Int) (d:Int) (c1:(decide (i≤d))=false) (n1:Ze Yir 62 [.sl rs.length (pc rs)] (.int .i64 d)):Za Yir Yc75 (Zlu rs k cs i) (.exit 0) (Zlu rs k cs i):=(Za.go Z6 400 [.r (.int .i64 d), .b false] [0,3,4] (ac n1 (ac c1 a0)))
theorem Yrun75 (rs os ts:List Rn) (k:Nat) (i:Int) (hl1:Za Yir (.loop Yc75) (Zlu rs 0 ([]:List AV) 1) (.exit 0) (Zlu rs k (pc os) i)) (n2:Ze Yir 92 [.sl k (pc os)] (.fresh 2 ts.length (pc ts))):Ze Yir 75 [.sl rs.length (pc rs)] (.fresh 2 ts.length (pc ts)):=Ze.of_bodyW (fn:=Yi75) (s:=(dds 2 (.own 2 ts.length (pc ts)::(dds 20 [])))) (ex := .ret) rfl rfl (Za.seq (Za.go (t:=(vp rs::(dds 1 (.own 2 0 []::(dds 20 []))))) Z6 400 [] [0,2] a0) (Za.seq (Za.go (t:=(vp rs::(dds 1 (.own 2 0 []::(.own 2 0 []::(dds 19 [])))))) Z6 400 [] [0,2,3] a0) (Za.seq (Za.seq (Za.go Z6 400 [] [0,3,4] a0) (Za.block hl1)) (Za.go Z6 400 [.r (.fresh 2 ts.length (pc ts))] [2] (ac n2 a0))))) (by intro i e;cases e) rfl
def TRA:Ji:=TQE
theorem Zfk:Qh Yir TRA:=Z6
end Go.Proofs.Ythnnfemologhfaa

namespace Go.Ai
open Go.IntKind (i64 u64 u32)
def Q9:List Int→Nat
 | []=>0
 | x::xs=>Nat.gcd x.natAbs (Q9 xs)
theorem Kh (d:Nat):∀ xs:List Int,d∣Q9 xs↔∀ i,(d:Int)∣xs.getD i 0
 | []=>by simp[Q9]
 | x::xs=>by
  have ih:=Kh d xs
  simp only[Q9,Nat.dvd_gcd_iff,ih]
  constructor
  ·rintro⟨h1,h2⟩ i
   cases i with
   | zero=>simpa using Int.ofNat_dvd_left.2 h1
   | succ i=>simpa using h2 i
  ·intro h
   refine⟨Int.ofNat_dvd_left.1 (by simpa using h 0),fun i=>by simpa using h (i+1)⟩
theorem Vg (xs:List Int) (i:Nat):(Q9 xs:Int)∣xs.getD i 0:=(Kh _ xs).1 (Nat.dvd_refl _) i
theorem Es {xs ys:List Int} (h:∀ i,xs.getD i 0=ys.getD i 0):Q9 xs=Q9 ys :=
 Nat.dvd_antisymm ((Kh _ _).2 fun i=>h i ▸ Vg xs i) ((Kh _ _).2 fun i=>h i ▸ Vg ys i)
theorem N5 (xs:List Int):Q9 (Zh xs)=Q9 xs:=Es (Jc xs)
theorem Wz {xs:List Int}:Q9 xs=0↔∀ i,xs.getD i 0=0:=by
 constructor
 ·intro h i
  have:=Vg xs i
  rw[h] at this
  exact Int.zero_dvd.1 this
 ·intro h
  have:Q9 xs=Q9 []:=Es fun i=>by rw[h i];simp
  rw[this];rfl
theorem Kj (k:Int):∀ xs:List Int,Q9 (Zu k xs)=k.natAbs*Q9 xs
 | []=>rfl
 | x::xs=>by
  have ih:=Kj k xs
  simp only[Zu,List.map_cons,Q9] at *
  rw[ih,Int.natAbs_mul,Nat.gcd_mul_left]
theorem J4 {xs:List Int}:Zh xs=[]↔∀ i,xs.getD i 0=0:=by
 constructor
 ·intro h i
  rw[← Jc,h];simp
 ·intro h
  have:Zh xs=Zh []:=Hm fun i=>by rw[h i];simp
  rw[this];rfl
theorem Kk {xs:List Int} (h:Zh xs ≠ []):0<Q9 xs:=by
 rcases Nat.eq_zero_or_pos (Q9 xs) with g | g
 ·exact absurd (J4.2 (Wz.1 g)) h
 ·exact g
theorem W6 {k:Int} (hk:k ≠ 0) (xs:List Int):Zh (Zu k xs)=Zu k (Zh xs):=by
 have e:∀ n,Zs (Zu k xs) n=Zs xs n:=by
  intro n
  induction n with
  | zero=>rfl
  | succ n ih =>
   simp only[Zs,ih,Z4]
   by_cases h:xs.getD n 0=0
   ·rw[h,Int.mul_zero]
   ·rw[if_neg h,if_neg (Int.mul_ne_zero hk h)]
 simp only[Zh]
 rw[e,show (Zu k xs).length=xs.length by simp[Zu]]
 simp[Zu,List.map_take]
def prim (xs:List Int):List Int:=(Zh xs).map fun x=>x / (Q9 xs:Int)
theorem Wx (xs:List Int) (i:Nat):(prim xs).getD i 0=xs.getD i 0 / (Q9 xs:Int):=by
 rw[← Jc xs i]
 simp only[prim,List.getD_eq_getElem?_getD,List.getElem?_map]
 cases (Zh xs)[i]? <;> simp
theorem Qp (xs:List Int):(prim xs).length=(Zh xs).length:=by simp [prim]
theorem Fw (xs:List Int) (i:Nat):(Q9 xs:Int)*(prim xs).getD i 0=xs.getD i 0:=by
 rw[Wx];exact Int.mul_ediv_cancel' (Vg xs i)
theorem P9 {xs ys:List Int} (h:∀ i,xs.getD i 0=ys.getD i 0):prim xs=prim ys:=by
 simp only[prim];rw[Hm h,Es h]
theorem Xu {xs:List Int}:prim xs=[]↔∀ i,xs.getD i 0=0:=by
 rw[← J4];simp[prim]
theorem Sz {k:Int} (hk:0<k) (xs:List Int):prim (Zu k xs)=prim xs:=by
 simp only[prim]
 rw[W6 (by omega),Kj]
 simp only[Zu,List.map_map]
 apply List.map_congr_left
 intro x _
 simp only[Function.comp]
 rw[Int.natCast_mul,Int.natAbs_of_nonneg (by omega),Int.mul_ediv_mul_of_pos _ _ hk]
theorem Lb {k:Int} (hk:0<k) {xs ys:List Int} (h:∀ i,ys.getD i 0=k*xs.getD i 0):prim ys=prim xs:=by
 rw[← Sz hk xs]
 exact P9 fun i=>by rw[h,Z4]
theorem Zay {xs:List Int} (h:Zs xs xs.length=xs.length):Zh xs=xs:=by simp [Zh,h]
def Uc (xs:List Int):Prop:=Zh xs=xs
theorem Hz (xs:List Int):Uc (Zh xs):=Dc xs
theorem U1 {xs:List Int} (h:Uc xs) (hn:xs ≠ []):xs.getD (xs.length-1) 0 ≠ 0:=by
 have e:=congrArg List.length h
 rw[Ue] at e
 rcases Pw xs xs.length with g | g
 ·rw[g] at e
  exact absurd (List.eq_nil_of_length_eq_zero e.symm) hn
 ·rw[e] at g;exact g
theorem Lk {xs:List Int} (h:xs=[]∨xs.getD (xs.length-1) 0 ≠ 0):Uc xs:=by
 rcases h with rfl | h
 ·rfl
 ·cases hl:xs.length with
  | zero=>rw[List.eq_nil_of_length_eq_zero hl];rfl
  | succ n =>
   apply Zay
   rw[hl]
   simp only[Zs]
   rw[if_neg (by rw[hl] at h;simpa using h)]
theorem S7 {k:Int} (hk:k ≠ 0) {xs:List Int} (h:Uc xs):Uc (Zu k xs):=by
 unfold Uc;rw[W6 hk,h]
theorem Gm (xs:List Int):Zu (Q9 xs) (prim xs)=Zh xs:=by
 apply Kc
 ·simp[Zu,Qp]
 ·intro i
  rw[Z4,Fw,Jc]
theorem Jh (xs:List Int):Uc (prim xs):=by
 by_cases h:Zh xs=[]
 ·rw[Xu.2 (J4.1 h)];rfl
 ·have hc:=Kk h
  have h1:=Hz xs
  rw[← Gm] at h1
  unfold Uc at h1 ⊢
  rw[W6 (by omega)] at h1
  have hinj:∀ a b:List Int,Zu (Q9 xs) a=Zu (Q9 xs) b→a=b:=by
   intro a b hab
   have hl:=congrArg List.length hab
   simp only[Zu,List.length_map] at hl
   apply Kc hl
   intro i
   have:=congrArg (fun l:List Int=>l.getD i 0) hab
   simp only[Z4] at this
   exact Int.eq_of_mul_eq_mul_left (by omega) this
  exact hinj _ _ h1
theorem W0 {xs:List Int} (h:Zh xs ≠ []):Q9 (prim xs)=1:=by
 have hc:=Kk h
 have h1:=Kj (Q9 xs) (prim xs)
 rw[Gm,N5,Int.natAbs_natCast] at h1
 have h2:Q9 xs*1=Q9 xs*Q9 (prim xs):=by rw[Nat.mul_one];exact h1
 exact (Nat.eq_of_mul_eq_mul_left hc h2).symm
theorem Ef {xs:List Int} (h:Q9 xs=1):prim xs=Zh xs:=by
 simp only[prim,h]
 rw[show (fun x:Int=>x / ((1:Nat):Int))=id by funext x;simp]
 simp
theorem Qx (xs:List Int):prim (prim xs)=prim xs:=by
 by_cases h:Zh xs=[]
 ·rw[Xu.2 (J4.1 h)];rfl
 ·rw[Ef (W0 h)];exact Jh xs
theorem Eo {K:Nat} {x:Int} (h:Je K x) (c:Nat):Je K (x / (c:Int))∨¬ (c:Int)∣x:=by
 by_cases hd:(c:Int)∣x
 ·left
  obtain⟨y,rfl⟩:=hd
  rcases Nat.eq_zero_or_pos c with h0 | h0
  ·subst h0;simpa using h
  ·rw[Int.mul_ediv_cancel_left _ (by omega)]
   unfold Je at *
   rw[Int.natAbs_mul,Int.natAbs_natCast] at h
   have:=Nat.le_mul_of_pos_left y.natAbs h0
   omega
 ·exact Or.inr hd
theorem Zcw {K:Nat} {xs:List Int} (h:∀ i,Je K (xs.getD i 0)) (i:Nat):Je K ((prim xs).getD i 0):=by
 rw[Wx]
 rcases Eo (h i) (Q9 xs) with g | g
 ·exact g
 ·exact absurd (Vg xs i) g
end Go.Ai

namespace Go.Ai
open Go.IntKind (i64 u64 u32)
def Kb (K:Nat) (r:List Int):Prop:=∀ i,Je K (r.getD i 0)
theorem Kb.mono {J K:Nat} {r:List Int} (h:Kb J r) (hk:J≤K):Kb K r:=fun i=>(h i).mono hk
theorem Kb.mem {K:Nat} {r:List Int} (h:Kb K r):∀ x∈r,Je K x:=fun x hx=>by
 obtain⟨i,hi,rfl⟩:=List.mem_iff_getElem.1 hx
 have:=h i
 rwa [List.getD_eq_getElem?_getD,List.getElem?_eq_getElem hi] at this
theorem Nr {K:Nat} {r:List Int} (h:∀ x∈r,Je K x):Kb K r:=Nt h
theorem Kb.prim {K:Nat} {r:List Int} (h:Kb K r):Kb K (prim r):=Zcw h
def top (r:List Int):Int:=r.getD (r.length-1) 0
def Kf (r d:List Int) (a b:Int) (n:Nat):List Int:=(List.range n).map fun i=>if r.length-d.length≤i then a*r.getD i 0-b*d.getD (i-(r.length-d.length)) 0 else a*r.getD i 0
theorem Xw (r d:List Int) (a b:Int) (n:Nat):(Kf r d a b n).length=n:=by simp [Kf]
theorem Vx (f:Nat→Int) (n i:Nat):((List.range n).map f).getD i 0=if i<n then f i else 0:=by
 rw[List.getD_eq_getElem?_getD,List.getElem?_map]
 by_cases h:i<n
 ·rw[List.getElem?_range h,if_pos h];rfl
 ·rw[List.getElem?_eq_none (by simpa using h),if_neg h];rfl
theorem X7 (r d:List Int) (a b:Int) (n i:Nat):(Kf r d a b n).getD i 0=if i<n then (if r.length-d.length≤i then a*r.getD i 0-b*d.getD (i-(r.length-d.length)) 0 else a*r.getD i 0) else 0:=Vx _ _ _
theorem Zci {J K:Nat} {r d:List Int} {a b:Int} (hr:Kb J r) (hd:Kb K d) (ha:Je K a) (hb:Je J b) (n:Nat):Kb (J+K+1) (Kf r d a b n):=by
 intro i
 rw[X7]
 have h1:=(Je.mul ha (hr i))
 have h2:=(Je.mul hb (hd (i-(r.length-d.length))))
 rw[Nat.add_comm] at h1
 split
 ·split
  ·exact h1.add h2.neg
  ·exact h1.mono (by omega)
 ·exact Vz _
theorem Zc6 {r d:List Int} {a b:Int} (hd:d ≠ []) (hl:d.length≤r.length) (h:a*top r=b*top d) (i:Nat):(Kf r d a b r.length).getD i 0=(Kf r d a b (r.length-1)).getD i 0:=by
 have:=List.length_pos_iff.2 hd
 rw[X7,X7]
 by_cases h1:i<r.length-1
 ·rw[if_pos h1,if_pos (by omega)]
 ·rw[if_neg h1]
  split
  ·have:i=r.length-1:=by omega
   subst this
   rw[if_pos (by omega),show r.length-1-(r.length-d.length)=d.length-1 by omega]
   unfold top at h
   omega
  ·rfl
theorem Tf (r d:List Int) (k a b:Int) (n i:Nat):(Kf r d (k*a) (k*b) n).getD i 0=k*(Kf r d a b n).getD i 0:=by
 rw[X7,X7]
 split
 ·split
  ·rw[Int.mul_sub,Int.mul_assoc,Int.mul_assoc]
  ·rw[Int.mul_assoc]
 ·simp
theorem Tg (r d:List Int) (c a b:Int) (n:Nat):Kf r (Zu c d) a b n=Kf r d a (b*c) n:=by
 apply Kc (by rw[Xw,Xw])
 intro i
 rw[X7,X7,Z4,show (Zu c d).length=d.length by simp[Zu]]
 rw[Int.mul_assoc]
def sg (n:Int):Int:=if n<0 then -1 else 1
theorem sg_mul (n:Int):sg n*n=(n.natAbs:Int):=by unfold sg;split <;> omega
def Ur (r d:List Int):List Int:=prim (Kf r d ((top d).natAbs:Int) (sg (top d)*top r) r.length)
def Uw:Nat→List Int→List Int→List Int
 | 0,r,_=>r
 | f+1,r,d=>if d.length≤r.length then Uw f (Ur r d) d else r
theorem Nj (r d:List Int):((top d).natAbs:Int)*top r=sg (top d)*top r*top d:=by
 rw[← sg_mul];grind
theorem Zbg {r d:List Int} (hd:d ≠ []) (hl:d.length≤r.length):Ur r d=prim (Kf r d ((top d).natAbs:Int) (sg (top d)*top r) (r.length-1)) :=
 P9 (Zc6 hd hl (Nj r d))
theorem Wr {r d:List Int} (hd:d ≠ []) (hl:d.length≤r.length):(Ur r d).length<r.length:=by
 have:=List.length_pos_iff.2 hd
 rw[Zbg hd hl,Qp]
 have:=Qz (Kf r d ((top d).natAbs:Int) (sg (top d)*top r) (r.length-1))
 rw[Xw] at this
 omega
theorem Zaw (c:Int) (d:List Int):top (Zu c d)=c*top d:=by
 unfold top;rw[Z4,show (Zu c d).length=d.length by simp[Zu]]
theorem Sp {c:Int} (hc:0<c) (n:Int):sg (c*n)=sg n:=by
 unfold sg
 have:c*n<0↔n<0:=by
  constructor
  ·intro h
   apply Int.not_le.1
   intro hn
   have:=Int.mul_nonneg (show 0≤c by omega) hn
   omega
  ·intro h;exact Int.mul_neg_of_pos_of_neg hc h
 simp only[this]
theorem Sx {r d:List Int} {c g a b:Int} (hc:0<c) (hg:0<g) (ha:g*a=((top d).natAbs:Int)) (hb:g*b=sg (top d)*top r):Ur r (Zu c d)=prim (Kf r d a b r.length):=by
 unfold Ur
 rw[Tg,Zaw,Sp hc,Int.natAbs_mul]
 apply Lb (k:=c*g) (Int.mul_pos hc hg)
 intro i
 rw[← Tf]
 congr 2
 ·rw[Int.mul_assoc,ha,Int.natCast_mul,Int.natAbs_of_nonneg (by omega)]
 ·rw[Int.mul_assoc c g b,hb];grind
theorem Am (r d:List Int):Uc (Ur r d):=Jh _
theorem D6 {K:Nat} {d:List Int} (h:Kb K d):Je K (top d):=h _
theorem Ep {K:Nat} {n:Int} (h:Je K n):Je K (n.natAbs:Int):=by unfold Je at *;rwa [Int.natAbs_natCast]
theorem Zmn {K:Nat} {m n:Int} (h:Je K n):Je K (sg m*n):=by
 unfold Je sg at *;split <;> simpa using h
theorem Rt {J K:Nat} {r d:List Int} (hr:Kb J r) (hd:Kb K d):Kb (J+K+1) (Ur r d) :=
 (Zci hr hd (Ep (D6 hd)) (Zmn (D6 hr)) _).prim
theorem P5 {d:List Int} (hd:d ≠ []) {K:Nat} (hK:Kb K d):∀ (f:Nat) (r:List Int) (J:Nat),r.length≤f→Uc r→Kb J r →
  Uc (Uw f r d)∧(Uw f r d).length<d.length∧Kb (J+(r.length+1-d.length)*(K+1)) (Uw f r d):=by
 have hd1:=List.length_pos_iff.2 hd
 intro f
 induction f with
 | zero =>
  intro r J h1 h2 h3
  exact⟨h2,by simp only[Uw];omega,h3.mono (Nat.le_add_right _ _)⟩
 | succ f ih =>
  intro r J h1 h2 h3
  simp only[Uw]
  split
  ·rename_i hl
   have hp:=Wr hd hl
   obtain⟨a1,a2,a3⟩:=ih (Ur r d) (J+K+1) (by omega) (Am r d) (Rt h3 hK)
   refine⟨a1,a2,a3.mono ?_⟩
   have e:((Ur r d).length+1-d.length)+1≤r.length+1-d.length:=by omega
   have:=Nat.mul_le_mul_right (K+1) e
   rw[Nat.add_mul,Nat.one_mul] at this
   omega
  ·exact⟨h2,by omega,h3.mono (Nat.le_add_right _ _)⟩
def Qq (x y:List Int):List Int:=Uw x.length x y
def Gp:Nat→List Int→List Int→List Int
 | 0,x,_=>x
 | f+1,x,y=>if y=[] then x else Gp f y (Qq x y)
def Jb (x:List Int):List Int:=if top x<0 then Xs x else x
theorem W7 (d:List Int):∀ (f:Nat) (r:List Int),prim r=r→prim (Uw f r d)=Uw f r d:=by
 intro f
 induction f with
 | zero=>intro r h;exact h
 | succ f ih =>
  intro r h
  simp only[Uw]
  split
  ·exact ih _ (Qx _)
  ·exact h
theorem J1 {r:List Int} (h:prim r=r):Uc r:=h ▸ Jh r
theorem Zaz {m l:Nat} (h:l<m):(m-l+2)*3^l≤3^m:=by
 obtain⟨k,rfl⟩:∃ k,m=l+1+k:=⟨m-l-1,by omega⟩
 rw[show l+1+k-l+2=k+3 by omega,show l+1+k=(k+1)+l by omega,Nat.pow_add]
 apply Nat.mul_le_mul_right
 clear h
 induction k with
 | zero=>decide
 | succ k ih=>rw[Nat.pow_succ];omega
def phi (n m:Nat):Nat:=(n-m+2)*3^m
theorem Fx {x y:List Int} {M:Nat} (hM:0<M) (hx:Uc x) (hy:y ≠ []) (kx:Kb (M-1) x) (ky:Kb (M-1) y) (hl:y.length≤x.length) :
  Uc (Qq x y)∧(Qq x y).length<y.length∧Kb (M*(x.length-y.length+2)-1) (Qq x y):=by
 obtain⟨a,b,c⟩:=P5 hy ky x.length x (M-1) (Nat.le_refl _) hx kx
 refine⟨a,b,c.mono ?_⟩
 rw[Nat.sub_add_cancel hM,show x.length+1-y.length=x.length-y.length+1 by omega,Nat.mul_comm _ M]
 have:M*(x.length-y.length+2)=M*(x.length-y.length+1)+M:=by rw[← Nat.mul_succ]
 omega
theorem Fz {n m l M T:Nat} (hl:l<m) (h:M*phi n m≤T):M*(n-m+2)*phi m l≤T:=by
 refine Nat.le_trans ?_ h
 unfold phi
 rw[Nat.mul_assoc]
 apply Nat.mul_le_mul_left
 apply Nat.mul_le_mul_left
 exact Zaz hl
theorem Ld {n m c:Nat} (h:m≤n) (hn:n≤c):phi n m≤2*3^c:=by
 have h1:phi n m≤2*3^n:=by
  unfold phi
  obtain⟨k,rfl⟩:∃ k,n=m+k:=⟨n-m,by omega⟩
  rw[show m+k-m+2=k+2 by omega,Nat.pow_add,Nat.mul_comm (3^m),← Nat.mul_assoc]
  apply Nat.mul_le_mul_right
  clear h hn
  induction k with
  | zero=>decide
  | succ k ih=>rw[Nat.pow_succ];omega
 exact Nat.le_trans h1 (Nat.mul_le_mul_left _ (Nat.pow_le_pow_right (by decide) hn))
def Z9 (p:List Int):List Int:=Zh ((List.range (p.length-1)).map fun j=>p.getD (j+1) 0*((j+1:Nat):Int))
theorem Xb (p:List Int) (i:Nat):(Z9 p).getD i 0=p.getD (i+1) 0*((i+1:Nat):Int):=by
 unfold Z9
 rw[Jc,Vx]
 split
 ·rfl
 ·rw[Qt (xs:=p) (by omega),Int.zero_mul]
end Go.Ai

namespace Go.Ai
open Go.IntKind (i64 u64 u32)
theorem Nm {a b:Int} {us bs cs:List Int} (h:∀ i,cs.getD i 0=a*us.getD i 0+b*bs.getD i 0) (x:Int):Zc cs x=a*Zc us x+b*Zc bs x:=by
 have e:Zc cs x=Zc (G8 (Zu a us) (Zu b bs)) x:=Us (fun i=>by rw[h,Xf,Z4,Z4]) x
 rw[e,Qi,Zn,Zn]
def Up (k:Nat) (q:List Int):List Int:=List.replicate k 0++q
theorem Qs (k:Nat) (q:List Int) (i:Nat):(Up k q).getD i 0=if k≤i then q.getD (i-k) 0 else 0:=by
 simp only[Up,List.getD_eq_getElem?_getD,List.getElem?_append,List.length_replicate]
 split
 ·rename_i h
  rw[if_neg (by omega),List.getElem?_replicate_of_lt h];rfl
 ·rename_i h
  rw[if_pos (by omega)]
theorem Xz (k:Nat) (q:List Int) (x:Int):Zc (Up k q) x=x^k*Zc q x:=by
 induction k with
 | zero=>simp[Up]
 | succ k ih =>
  have:Up (k+1) q=0::Up k q:=by simp[Up,List.replicate_succ]
  rw[this]
  simp only[Zc]
  rw[ih,Int.pow_succ];grind
theorem N2 {r d:List Int} (hl:d.length≤r.length) (a b x:Int):Zc (Kf r d a b r.length) x=a*Zc r x-b*(x^(r.length-d.length)*Zc d x):=by
 rw[← Xz]
 have:=Nm (a:=a) (b := -b) (us:=r) (bs:=Up (r.length-d.length) d) (cs:=Kf r d a b r.length) (fun i=>by
  rw[X7,Qs]
  by_cases h:i<r.length
  ·rw[if_pos h];split
   ·rw[Int.neg_mul];omega
   ·simp
  ·rw[if_neg h,Qt (show r.length≤i by omega)]
   have:d.getD (i-(r.length-d.length)) 0=0:=Qt (by omega)
   split
   ·rw[this];simp
   ·simp) x
 rw[this,Int.neg_mul];omega
theorem Jr (a:Int) (p q:List Int) (i:Nat):(Xp (a::p) q).getD i 0=a*q.getD i 0+(Up 1 (Xp p q)).getD i 0:=by
 simp only[Xp]
 rw[Xf,Z4];rfl
theorem Eg:∀ (p q:List Int),p ≠ []→q ≠ []→(Xp p q).getD (p.length+q.length-2) 0=top p*top q∧∀ i,p.length+q.length-1≤i→(Xp p q).getD i 0=0
 | [],q,h,_=>absurd rfl h
 | [a],q,_,hq=>by
  have hq1:=List.length_pos_iff.2 hq
  refine⟨?_,fun i hi => ?_⟩
  ·rw[Jr,Qs,show [a].length+q.length-2=q.length-1 by simp;omega]
   simp[Xp,top]
  ·rw[Jr,Qs,Qt (show q.length≤i by simp at hi;omega)]
   simp[Xp]
 | a::b::p,q,_,hq=>by
  have hq1:=List.length_pos_iff.2 hq
  obtain⟨h1,h2⟩:=Eg (b::p) q (by simp) hq
  refine⟨?_,fun i hi => ?_⟩
  ·rw[Jr,Qs,if_pos (by simp;omega)]
   simp only[List.length_cons] at *
   rw[Qt (show q.length≤p.length+1+1+q.length-2 by omega),show p.length+1+1+q.length-2-1=p.length+1+q.length-2 by omega,h1]
   simp[top]
  ·rw[Jr,Qs]
   simp only[List.length_cons] at *
   rw[Qt (show q.length≤i by omega)]
   split
   ·rw[h2 _ (by omega)];simp
   ·simp
theorem Ja {p:List Int} (h:Zh p=[]) (x:Int):Zc p x=0:=by rw [← W9,h];rfl
def Wo (r q:List Int) (l:Int) (k:Nat):List Int:=(List.range r.length).map fun i=>if k≤i then r.getD i 0-l*q.getD (i-k) 0 else r.getD i 0
theorem Ke (r q:List Int) (l:Int) (k i:Nat) (hk:k+q.length≤r.length):(Wo r q l k).getD i 0=r.getD i 0-l*(Up k q).getD i 0:=by
 rw[Wo,Vx,Qs]
 split
 ·split <;> simp
 ·rw[Qt (show r.length≤i by omega),Qt (xs:=q) (show q.length≤i-k by omega)];simp
theorem Xy (r q:List Int) (l:Int) (k:Nat):(Wo r q l k).length=r.length:=by simp [Wo]
def Bw (q:List Int):Nat→List Int→List Int→List Int
 | 0,_,out=>out
 | k+1,r,out=>Bw q k (Wo (Zu (top q) r) q (r.getD (k+q.length-1) 0) k) ((Zu (top q) out).set k (r.getD (k+q.length-1) 0))
theorem Zy (a:Int) (q:List Int):(Zu a q).length=q.length:=by simp [Zu]
theorem Zmu {p q:List Int} (hq0:q ≠ []) (ht:0<top q):∀ (k:Nat) (r out:List Int) (c:Int),0<c→k≤out.length→out.length+q.length=r.length+1→(∀ i,k+q.length-1≤i→r.getD i 0=0)→(∀ i,i<k→out.getD i 0=0) →
  (∀ x,c*Zc p x=Zc q x*Zc out x+Zc r x) →
  ∃ c' r',0<c'∧(∀ i,q.length-1≤i→r'.getD i 0=0)∧(Bw q k r out).length=out.length∧∀ x,c'*Zc p x=Zc q x*Zc (Bw q k r out) x+Zc r' x:=by
 have hql:=List.length_pos_iff.2 hq0
 intro k
 induction k with
 | zero =>
  intro r out c hc _ _ hz _ he
  exact⟨c,r,hc,fun i hi=>hz i (by omega),rfl,he⟩
 | succ k ih =>
  intro r out c hc hk hl hz hz2 he
  simp only[Bw]
  generalize hlead:r.getD (k+q.length-1) 0=l at *
  have hkr:k+q.length≤(Zu (top q) r).length:=by rw[Zy];omega
  obtain⟨c',r',a1,a2,a3,a4⟩:=ih (Wo (Zu (top q) r) q l k) ((Zu (top q) out).set k l) (top q*c) (Int.mul_pos ht hc) (by rw[List.length_set,Zy];omega) (by rw[List.length_set,Zy,Xy,Zy];exact hl)
   (fun i hi=>by
    rw[Ke _ _ _ _ _ hkr,Z4,Qs]
    by_cases h1:i=k+q.length-1
    ·subst h1
     rw[hlead,if_pos (by omega),show k+q.length-1-k=q.length-1 by omega]
     unfold top;grind
    ·rw[hz i (by omega),Qt (xs:=q) (show q.length≤i-k by omega)];simp)
   (fun i hi=>by rw[Qf (by omega),Z4,hz2 i (by omega),Int.mul_zero])
   (fun x=>by
    rw[Zbp _ _ _ _ (by rw[Zy];omega),Z4,hz2 k (by omega),Zn]
    have e:=Nm (a:=1) (b := -l) (us:=Zu (top q) r) (bs:=Up k q) (cs:=Wo (Zu (top q) r) q l k) (fun i=>by rw[Ke _ _ _ _ _ hkr,Int.neg_mul];omega) x
    rw[e,Zn,Xz]
    have:=he x
    grind)
  exact⟨c',r',a1,a2,by rw[a3,List.length_set,Zy],a4⟩
theorem Th {p q:List Int} (hq0:q ≠ []) (ht:0<top q) (hl:q.length≤p.length):∃ c' r',0<c'∧(∀ i,q.length-1≤i→r'.getD i 0=0)∧(Bw q (p.length-q.length+1) p (List.replicate (p.length-q.length+1) 0)).length=p.length-q.length+1 ∧
  ∀ x,c'*Zc p x=Zc q x*Zc (Bw q (p.length-q.length+1) p (List.replicate (p.length-q.length+1) 0)) x+Zc r' x:=by
 have hql:=List.length_pos_iff.2 hq0
 have h:=Zmu (p:=p) hq0 ht (p.length-q.length+1) p (List.replicate (p.length-q.length+1) 0) 1 (by decide) (by simp) (by simp;omega) (fun i hi=>Qt (by omega)) (fun i _=>Jz _ _) (fun x=>by rw[Lf];omega)
 rw[List.length_replicate] at h
 exact h
theorem Zgv {p q o r:List Int} {c:Int} (hc:0<c) (hp:0<top p) (hq0:q ≠ []) (ht:0<top q) (hl:q.length≤p.length) (ho:o.length=p.length-q.length+1) (h:∀ x,c*Zc p x=Zc q x*Zc o x+Zc r x) (z:∀ i,q.length-1≤i→r.getD i 0=0):0<top o:=by
 have hql:=List.length_pos_iff.2 hq0
 have ho0:o ≠ []:=by intro h0;rw[h0] at ho;simp at ho
 have h3:=(Eg q o hq0 ho0).1
 have hev:∀ x,Zc (Zu c p) x=Zc (G8 (Xp q o) r) x:=fun x=>by rw[Zn,Qi,Z1];exact h x
 have h4:=X1 hev (p.length-1)
 rw[Z4,Xf,z _ (by omega),show p.length-1=q.length+o.length-2 by omega,h3,Int.add_zero] at h4
 have h5:0<top q*top o:=by
  rw[← h4,show q.length+o.length-2=p.length-1 by omega]
  exact Int.mul_pos hc hp
 exact Int.pos_of_mul_pos_right h5 ht |> fun h=>h
theorem E8 {o:List Int} (h:0<top o):0<top (prim o):=by
 have hl:Uc o:=Lk (Or.inr (by unfold top at h;omega))
 unfold top
 rw[Qp,hl,Wx]
 have hc:0<Q9 o:=Kk (by rw[hl];intro h0;rw[h0] at h;simp[top] at h)
 have hd:=Fw o (o.length-1)
 rw[Wx] at hd
 unfold top at h
 rw[← hd] at h
 exact Int.pos_of_mul_pos_right h (by omega)
end Go.Ai

namespace Go.Proofs.Ythnnfemologhfaa
open Go.IntKind (i64 u64 u32)
open Go.Ai
set_option maxRecDepth 100000
theorem R8 {n:Nat}:Zfx n=1↔n=1:=by
 unfold Zfx
 split
 ·omega
 ·rename_i h
  constructor
  ·intro h1
   have h2:Nat.log2 n=0:=by omega
   have:=(Nat.log2_eq_iff h).1 h2
   omega
  ·rintro rfl;decide
theorem Zdf {n:Nat}:1<Zfx n↔1<n:=by
 have h1:=R8 (n:=n)
 have h0:Zfx n=0↔n=0:=by unfold Zfx;split <;> omega
 omega
theorem N8 (n:Int):(cn n).2.length=(Zb n.natAbs).length:=rfl
theorem Zc9 {rs:List Rn} {n:Nat} (h:n<rs.length):(Zj rs).drop n=Zt (rs.getD n z0)::(Zj rs).drop (n+1):=by
 rw[List.drop_eq_getElem_cons (by rw[Z0];exact h)]
 congr 1
 rw[← Jg,List.getD_eq_getElem?_getD,List.getElem?_eq_getElem (by rw[Z0];exact h)];rfl
theorem Zdb {K:Nat} {p:List Int} (h:∀ x∈p,Je K x):Je K ((Q9 p:Nat):Int):=by
 by_cases h0:Zh p=[]
 ·rw[Wz.2 (J4.1 h0)];exact Vz K
 ·have hc:=Kk h0
  have:∃ i,p.getD i 0 ≠ 0:=Classical.byContradiction fun hn=>h0 (J4.2 fun i=>Classical.byContradiction fun hi=>hn ⟨i,hi⟩)
  obtain⟨i,hi⟩:=this
  have hd:=Vg p i
  have hf:=Nt h i
  unfold Je at *
  rw[Int.natAbs_natCast]
  have:=Nat.le_of_dvd (by omega) (Int.ofNat_dvd_left.1 hd)
  omega
theorem Zdc {p:List Int} (n:Nat):Q9 p∣Q9 (p.drop n):=by
 rw[Kh]
 intro i
 have:=Vg p (n+i)
 rw[List.getD_eq_getElem?_getD] at this ⊢
 rwa [List.getElem?_drop]
theorem Zno {K:Nat} {rs:List Rn} {z:Rn} (hg:∀ r∈rs,Xj K r) (hK:K<1048576) (hN:rs.length≤1048576):∀ n,n≤rs.length →
  ∃ i',Za Yir (.loop Zr6) (Zf0 rs (cn (Q9 ((Zj rs).drop n):Nat)) ((n:Int)-1) z) (.exit 0) (Zf0 rs (cn (Q9 (Zj rs):Nat)) i' z):=by
 intro n
 induction n with
 | zero =>
  intro _
  rw[List.drop_zero]
  exact⟨_,Za.loop_out (Yk85_3 rs _ _ z (by simp)) (by intro e;cases e)⟩
 | succ n ih =>
  intro hn
  have e0:((n+1:Nat):Int)-1=(n:Int):=by omega
  have e1:i64.wrap ((n:Int)-1)=(n:Int)-1:=w64 (by omega) (by omega)
  have hf:Je K ((Q9 ((Zj rs).drop (n+1)):Nat):Int):=Zdb fun x hx=>Xg hg x (List.mem_of_mem_drop hx)
  have hl:=hf.len
  have hb:=E5 (neg:=(cn (Q9 ((Zj rs).drop (n+1)):Nat)).1) (xs:=(cn (Q9 ((Zj rs).drop (n+1)):Nat)).2) (Jt _) (by rw[N8];omega)
  rw[show rv (cn (Q9 ((Zj rs).drop (n+1)):Nat)).1 (cn (Q9 ((Zj rs).drop (n+1)):Nat)).2=(Q9 ((Zj rs).drop (n+1)):Nat) from Qe _,Int.natAbs_natCast] at hb
  rw[e0]
  by_cases h1:Q9 ((Zj rs).drop (n+1))=1
  ·have hc:Q9 (Zj rs)=1:=by
    have:=Zdc (p:=Zj rs) (n+1)
    rw[h1] at this
    exact Nat.dvd_one.1 this
   rw[h1] at hb ⊢
   rw[hc]
   exact⟨_,Za.loop_out (Yk85_2 rs _ (n:Nat) z _ (by simp) (by decide) hb) (by intro e;cases e)⟩
  ·obtain⟨g1,g2⟩:=Ql hg n
   have hgc:=Pp (na:=(cn (Q9 ((Zj rs).drop (n+1)):Nat)).1) (nb:=(rs.getD n z0).1) (xs:=(cn (Q9 ((Zj rs).drop (n+1)):Nat)).2) (ys:=(rs.getD n z0).2) (Jt _) g1 (by rw[N8];omega) (by omega)
   rw[show rv (cn (Q9 ((Zj rs).drop (n+1)):Nat)).1 (cn (Q9 ((Zj rs).drop (n+1)):Nat)).2=(Q9 ((Zj rs).drop (n+1)):Nat) from Qe _,show rv (rs.getD n z0).1 (rs.getD n z0).2=Zt (rs.getD n z0) from rfl] at hgc
   have hstep:(Int.gcd ((Q9 ((Zj rs).drop (n+1)):Nat):Int) (Zt (rs.getD n z0)))=Q9 ((Zj rs).drop n):=by
    rw[Zc9 (n:=n) (by omega),Q9,Int.gcd,Int.natAbs_natCast,Nat.gcd_comm]
   rw[hstep] at hgc
   have k1:=Yk85_1 rs (cn (Q9 ((Zj rs).drop (n+1)):Nat)) (n:Nat) z _ _ (by simp) (by
    rw[bne_iff_ne]
    have:=R8 (n:=Q9 ((Zj rs).drop (n+1)))
    omega) (by omega) hb (by rw[Int.toNat_natCast];exact hgc)
   rw[e1] at k1
   obtain⟨i',h⟩:=ih (by omega)
   exact⟨i',Za.loop k1 h⟩
theorem Mg {K:Nat} {rs:List Rn} (hg:∀ r∈rs,Xj K r) (hK:K<1048576) (hN:rs.length≤1048576):Ze Yir 85 [.sl rs.length (pc rs)] (Zp (Q9 (Zj rs):Nat)):=by
 obtain⟨i',h⟩:=Zno (z:=z0) hg hK hN rs.length (Nat.le_refl _)
 rw[show (Zj rs).drop rs.length=[] by rw[← Z0,List.drop_length],show cn ((Q9 []:Nat):Int)=z0 from rfl] at h
 exact Yrun85 rs (cn (Q9 (Zj rs):Nat)) z0 i' (by rw[w64 (by omega) (by omega)];exact h)
theorem Gg {x g:Int} (hg:0<g) (h:g∣x):Int.tdiv x g=x / g:=by
 obtain⟨y,rfl⟩:=h
 rw[Int.mul_tdiv_cancel_left _ (by omega),Int.mul_ediv_cancel_left _ (by omega)]
theorem Q6 {K:Nat} {rs:List Rn} (hg:∀ r∈rs,Xj K r) (hK:K<1048576) (hN:rs.length≤1048576):Ze Yir 86 [.sl rs.length (pc rs)] (.fresh 2 (prim (Zj rs)).length (pk (prim (Zj rs)))):=by
 have ht:=Bl (fun r h=>(hg r h).mono (show K≤1048576 by omega)) hN
 have hfT:∀ x∈Zh (Zj rs),Je K x:=En (Xg hg)
 have gts:=Ry hfT
 have hvs:=Qu (Zh (Zj rs))
 have hll:=Qz (Zj rs)
 rw[Z0] at hll
 have hpk:pk (Zh (Zj rs))=pc ((Zh (Zj rs)).map cn):=rfl
 rw[hpk,← List.length_map (f:=cn)] at ht
 have hlm:((Zh (Zj rs)).map cn).length=(Zh (Zj rs)).length:=List.length_map ..
 have hc:=Mg gts hK (by omega)
 rw[hvs,N5] at hc
 have hfc:Je K ((Q9 (Zj rs):Nat):Int):=Zdb (Xg hg)
 have hlc:=hfc.len
 have hb:=E5 (neg:=(cn (Q9 (Zj rs):Nat)).1) (xs:=(cn (Q9 (Zj rs):Nat)).2) (Jt _) (by rw[N8];omega)
 rw[show rv (cn (Q9 (Zj rs):Nat)).1 (cn (Q9 (Zj rs):Nat)).2=(Q9 (Zj rs):Nat) from Qe _,Int.natAbs_natCast] at hb
 by_cases h1:1<Q9 (Zj rs)
 ·have hgd:∀ t,Zt (((Zh (Zj rs)).map cn).getD t z0)=(Zh (Zj rs)).getD t 0:=fun t=>by rw[← Jg,hvs]
  have key:∀ ts:List Rn,ts.length=(Zh (Zj rs)).length→(∀ r∈ts,Xj K r)→(∀ t,Zt (ts.getD t z0)=(Zh (Zj rs)).getD t 0) →
    Za Yir (.loop Zr5) (Zfz ts.length ts (cn (Q9 (Zj rs):Nat)) (ts.length:Nat) 0) (.exit 0) (Zfz ts.length ((prim (Zj rs)).map cn) (cn (Q9 (Zj rs):Nat)) (ts.length:Nat) (ts.length:Nat)):=by
   intro ts hl gt hv
   have hlp:((prim (Zj rs)).map cn).length=ts.length:=by rw[List.length_map,Qp,hl]
   have h:=Za.up (prog:=Yir) (c:=Zr5) (ex := .exit 0) (fin:=Zfz ts.length ((prim (Zj rs)).map cn) (cn (Q9 (Zj rs):Nat)) (ts.length:Nat) (ts.length:Nat))
    (fun i=>Zfz ts.length (((prim (Zj rs)).map cn).take i++ts.drop i) (cn (Q9 (Zj rs):Nat)) (ts.length:Nat) (i:Nat)) ts.length (by intro e;cases e) ?_ ?_ 0 (Nat.zero_le _)
   ·exact h
   ·intro i hi
    have ei:i64.wrap ((i:Int)+1)=((i+1:Nat):Int):=by rw[w64 (by omega) (by omega)];omega
    have hlen:(((prim (Zj rs)).map cn).take i++ts.drop i).length=ts.length:=by rw[List.length_append,List.length_take,List.length_drop];omega
    have hget:(((prim (Zj rs)).map cn).take i++ts.drop i).getD i z0=ts.getD i z0:=by
     rw[List.getD_eq_getElem?_getD,List.getD_eq_getElem?_getD,List.getElem?_append_right (by rw[List.length_take];omega),List.length_take,List.getElem?_drop]
     congr 2;omega
    obtain⟨g1,g2⟩:=Ql gt i
    have hq:=Ft (na:=(ts.getD i z0).1) (nb:=(cn (Q9 (Zj rs):Nat)).1) (xs:=(ts.getD i z0).2) (ys:=(cn (Q9 (Zj rs):Nat)).2) g1 (Jt _) (by rw[show rv (cn (Q9 (Zj rs):Nat)).1 (cn (Q9 (Zj rs):Nat)).2=(Q9 (Zj rs):Nat) from Qe _];omega) (by omega) (by rw[N8];omega)
    rw[show rv (cn (Q9 (Zj rs):Nat)).1 (cn (Q9 (Zj rs):Nat)).2=(Q9 (Zj rs):Nat) from Qe _,show rv (ts.getD i z0).1 (ts.getD i z0).2=Zt (ts.getD i z0) from rfl,hv,Jc] at hq
    have k:=Yk86_1 ts.length (((prim (Zj rs)).map cn).take i++ts.drop i) (cn (Q9 (Zj rs):Nat)) (ts.length:Nat) (i:Nat) _ _ (by simp;omega) (by omega) hlen (by rw[Int.toNat_natCast,hget];exact hq)
    refine k.to rfl ?_
    rw[ei,Int.toNat_natCast,Gg (by omega) (Vg (Zj rs) i),← Wx]
    congr 1
    apply List.ext_getElem?
    intro t
    have hpi:((prim (Zj rs)).map cn)[i]?=some (cn ((prim (Zj rs)).getD i 0)):=by
     rw[List.getElem?_map,List.getD_eq_getElem?_getD,List.getElem?_eq_getElem (by rw[List.length_map] at hlp;omega)];rfl
    rcases Nat.lt_trichotomy t i with g | g | g
    ·rw[List.getElem?_set_ne (by omega),List.getElem?_append_left (by rw[List.length_take];omega),List.getElem?_append_left (by rw[List.length_take];omega),List.getElem?_take_of_lt g,List.getElem?_take_of_lt (by omega)]
    ·subst g
     rw[List.getElem?_set_self (by omega),List.getElem?_append_left (by rw[List.length_take];omega),List.getElem?_take_of_lt (by omega),hpi]
    ·rw[List.getElem?_set_ne (by omega),List.getElem?_append_right (by rw[List.length_take];omega),List.getElem?_append_right (by rw[List.length_take];omega),List.length_take,List.length_take,List.getElem?_drop,List.getElem?_drop]
     congr 1;omega
   ·rw[List.take_of_length_le (by omega),List.drop_length,List.append_nil]
    exact Yk86_2 ts.length _ _ (ts.length:Nat) (ts.length:Nat) (by simp)
  have hl:=key _ hlm gts hgd
  have h:=Zib rs ((Zh (Zj rs)).map cn) _ _ _ _ _ _ _ (by rw[decide_eq_true_eq];have:=(Zdf (n:=Q9 (Zj rs))).2 h1;omega) ht (Zlf _) (Fe _) hc hb hl
  rw[hlm,← Qp] at h
  exact h
 ·have h:=Zia rs ((Zh (Zj rs)).map cn) _ _ (by rw[decide_eq_false_iff_not];have:=(Zdf (n:=Q9 (Zj rs))).1;omega) ht (Zlf _) (Fe _) hc hb
  have hp:prim (Zj rs)=Zh (Zj rs):=by
   rcases Nat.eq_zero_or_pos (Q9 (Zj rs)) with g | g
   ·rw[Xu.2 (Wz.1 g),J4.2 (Wz.1 g)]
   ·exact Ef (by omega)
  rw[hp]
  rw[hlm] at h
  exact h
theorem Zce (rs:List Rn):Zt (rs.getD (rs.length-1) z0)=top (Zj rs):=by unfold top;rw [Jg,Z0]
theorem Ey {rs:List Rn} (hg:∀ r∈rs,Xj 1048576 r) (hN:rs.length≤1048576) : 
  (top (Zj rs)<0→Ze Yir 115 [.sl rs.length (pc rs)] (.fresh 2 rs.length (pk (Xs (Zj rs)))))∧(¬ top (Zj rs)<0→Ze Yir 115 [.sl rs.length (pc rs)] (.sl rs.length (pc rs))):=by
 by_cases h0:0<rs.length
 ·have e1:i64.wrap ((rs.length:Int)-1)=((rs.length-1:Nat):Int):=by rw[w64 (by omega) (by omega)];omega
  obtain⟨g1,g2⟩:=Ql hg (rs.length-1)
  have hs:=Hj (neg:=(rs.getD (rs.length-1) z0).1) g1 g2
  rw[show rv (rs.getD (rs.length-1) z0).1 (rs.getD (rs.length-1) z0).2=Zt (rs.getD (rs.length-1) z0) from rfl,Zce] at hs
  refine⟨fun h => ?_,fun h => ?_⟩
  ·have hn:=Wb hg hN
   have hpk:pk (Xs (Zj rs))=pc ((Xs (Zj rs)).map cn):=rfl
   have hll:((Xs (Zj rs)).map cn).length=rs.length:=by rw[List.length_map,Jv,Z0]
   rw[hpk] at hn ⊢
   rw[← hll] at hn ⊢
   have hn':Ze Yir 127 [.sl rs.length (pc rs)] (.fresh 2 ((Xs (Zj rs)).map cn).length (pc ((Xs (Zj rs)).map cn))):=by
    have:=Wb hg hN
    rw[hll];exact this
   rw[hll]
   have k:=Zec rs ((Xs (Zj rs)).map cn) (Vc (top (Zj rs))) (by simp;omega) (by unfold Vc;rw[if_pos h];rfl) (by rw[e1];omega) (by rw[e1,Int.toNat_natCast];exact hs) hn'
   rw[hll] at k
   exact k
  ·exact Zeb rs (Vc (top (Zj rs))) (by simp;omega) (by unfold Vc;rw[if_neg h];split <;> rfl) (by rw[e1];omega) (by rw[e1,Int.toNat_natCast];exact hs)
 ·have hz:rs=[]:=List.eq_nil_of_length_eq_zero (by omega)
  subst hz
  refine⟨fun h=>absurd h (by decide),fun _=>Zea [] (by decide)⟩
theorem Fh {K:Nat} {rs:List Rn} (hg:∀ r∈rs,Xj K r) (hK:K+2≤1048576) (hN:rs.length≤1048576):Ze Yir 75 [.sl rs.length (pc rs)] (.fresh 2 (Z9 (Zj rs)).length (pk (Z9 (Zj rs)))):=by
 have hd:=G1 (fun r h=>(hg r h).mono (show K≤1048576 by omega)) hN
 have hle:=V3 (Zj rs) rs.length
 have hl:=Za.up (prog:=Yir) (c:=Yc75) (ex := .exit 0) (fin:=Zlu rs (Zs (Zj rs) rs.length-1) (pc ((List.range (Zs (Zj rs) rs.length-1)).map fun j=>cn (Zt (rs.getD (j+1) z0)*((j+1:Nat):Int)))) ((Zs (Zj rs) rs.length-1+1:Nat):Int))
  (fun i=>Zlu rs i (pc ((List.range i).map fun j=>cn (Zt (rs.getD (j+1) z0)*((j+1:Nat):Int)))) ((i+1:Nat):Int)) (Zs (Zj rs) rs.length-1) (by intro e;cases e) ?_ ?_ 0 (Nat.zero_le _)
 ·have hfit:∀ r∈(List.range (Zs (Zj rs) rs.length-1)).map (fun j=>cn (Zt (rs.getD (j+1) z0)*((j+1:Nat):Int))),Xj 1048576 r:=by
   intro r hr
   obtain⟨j,hj,rfl⟩:=List.mem_map.1 hr
   rw[List.mem_range] at hj
   have h2:Je 2 ((j+1:Nat):Int):=F7 (by omega)
   exact (Jy ((Ql hg (j+1)).fits.mul h2)).mono (by omega)
  have ht:=Bl hfit (by rw[List.length_map,List.length_range];omega)
  have hlen:((List.range (Zs (Zj rs) rs.length-1)).map (fun j=>cn (Zt (rs.getD (j+1) z0)*((j+1:Nat):Int)))).length=Zs (Zj rs) rs.length-1:=by rw[List.length_map,List.length_range]
  have e:Zh (Zj ((List.range (Zs (Zj rs) rs.length-1)).map (fun j=>cn (Zt (rs.getD (j+1) z0)*((j+1:Nat):Int)))))=Z9 (Zj rs):=by
   unfold Z9
   apply Hm
   intro i
   rw[Si,Vx,Qe,Jg,Z0]
   by_cases h1:i<Zs (Zj rs) rs.length-1
   ·rw[if_pos h1,if_pos (by omega)]
   ·rw[if_neg h1]
    split
    ·have:Zt (rs.getD (i+1) z0)=0:=by rw[← Jg];exact Dd (Zj rs) rs.length (i+1) (by omega) (by omega)
     rw[this,Int.zero_mul]
    ·rfl
  rw[e,hlen] at ht
  have hpk:pk (Z9 (Zj rs))=pc ((Z9 (Zj rs)).map cn):=rfl
  rw[hpk,← List.length_map (f:=cn)] at ht ⊢
  exact Yrun75 rs _ _ _ _ hl ht
 ·intro i hi
  have ei:i64.wrap (((i+1:Nat):Int)+1)=((i+1+1:Nat):Int):=by rw[w64 (by omega) (by omega)];omega
  obtain⟨g1,g2⟩:=Ql hg (i+1)
  have ho:=Zl5 (n:=((i+1:Nat):Int)) (by omega)
  have hfi:Je 2 ((i+1:Nat):Int):=F7 (by omega)
  have hm:=A5 (na:=(rs.getD (i+1) z0).1) (nb:=decide (((i+1:Nat):Int)<0)) (xs:=(rs.getD (i+1) z0).2) (ys:=Zb ((i+1:Nat):Int).natAbs) g1 (Jt _) (by have:=hfi.len;omega)
  rw[Hp] at hm
  have k:=Yk75_1 rs i (pc ((List.range i).map fun j=>cn (Zt (rs.getD (j+1) z0)*((j+1:Nat):Int)))) ((i+1:Nat):Int) (((Zs (Zj rs) rs.length:Nat):Int)-1) (Zt (rs.getD (i+1) z0)*((i+1:Nat):Int)) (by simp;omega) (by omega) (by omega) hd ho (by rw[Int.toNat_natCast];exact hm)
  refine k.to rfl ?_
  rw[ei]
  congr 1
  rw[List.range_succ,List.map_append,Hu]
  rfl
 ·exact Yk75_2 rs _ _ _ _ (by rw[decide_eq_false_iff_not];omega) hd
def TRB:Ji:=TRA
theorem Zm:Qh Yir TRB:=Zfk
end Go.Proofs.Ythnnfemologhfaa

namespace Go.Proofs.Ythnnfemologhfaa
open Go.IntKind (i64 u64 u32)
open Go.Ai
set_option maxRecDepth 100000
def Gc (qs:List Rn) (k:Nat) (rs:List Rn) (t:Rn) (a:Rn) (b:Rn) (at1:Int) (n:Int) (i:Int):Zi:=(dds 1 (.val (.sl qs.length (pc qs))::(dds 3 (.own 2 k (pc rs)::(.box [.bool t.1, .sl t.2.length (lm t.2)]::(dds 2 (.box [.bool a.1, .sl a.2.length (lm a.2)]::(dds 1 (.box [.bool b.1, .sl b.2.length (lm b.2)]::(dds 1 (.val (.int .i64 at1)::(dds 49 (.val (.int .i64 n)::(.val (.int .i64 i)::(dds 34 [])))))))))))))))
theorem Znt (qs:List Rn) (k:Nat) (rs:List Rn) (t:Rn) (a:Rn) (b:Rn) (at1:Int) (n:Int) (i:Int)  (c1:(decide (i<n))=true) (c2:(decide (i≥at1))=true) (n1:0≤i∧i<(k:Int)) (n2:rs.length=k) (n3:(rs.set (Int.toNat i) (cn ((Zt (rs.getD (Int.toNat i) z0))*(Zt a)))).length=k) (n4:0≤(i64.wrap (i-at1))∧(i64.wrap (i-at1))<(qs.length:Int)) (n5:Ze Yir 113 [Z8 (rs.getD (Int.toNat i) z0),Z8 a] (Zp ((Zt (rs.getD (Int.toNat i) z0))*(Zt a)))) (n6:Ze Yir 113 [Z8 b,Z8 (qs.getD (Int.toNat (i64.wrap (i-at1))) z0)] (Zp ((Zt b)*(Zt (qs.getD (Int.toNat (i64.wrap (i-at1))) z0))))) (n7:Ze Yir 114 [Z8 ((rs.set (Int.toNat i) (cn ((Zt (rs.getD (Int.toNat i) z0))*(Zt a)))).getD (Int.toNat i) z0),Zp ((Zt b)*(Zt (qs.getD (Int.toNat (i64.wrap (i-at1))) z0)))] (Zp ((Zt ((rs.set (Int.toNat i) (cn ((Zt (rs.getD (Int.toNat i) z0))*(Zt a)))).getD (Int.toNat i) z0))-((Zt b)*(Zt (qs.getD (Int.toNat (i64.wrap (i-at1))) z0)))))):Za Yir Ms (Gc qs k rs t a b at1 n i) .norm (Gc qs k ((rs.set (Int.toNat i) (cn ((Zt (rs.getD (Int.toNat i) z0))*(Zt a)))).set (Int.toNat i) (cn ((Zt ((rs.set (Int.toNat i) (cn ((Zt (rs.getD (Int.toNat i) z0))*(Zt a)))).getD (Int.toNat i) z0))-((Zt b)*(Zt (qs.getD (Int.toNat (i64.wrap (i-at1))) z0)))))) t a b at1 n (i64.wrap (i+1))):=(Za.go Zm 400 [.b true, .v (Z8 (rs.getD (Int.toNat i) z0)), .r (Zp ((Zt (rs.getD (Int.toNat i) z0))*(Zt a))), .l (pc (rs.set (Int.toNat i) (cn ((Zt (rs.getD (Int.toNat i) z0))*(Zt a))))), .b true, .v (Z8 ((rs.set (Int.toNat i) (cn ((Zt (rs.getD (Int.toNat i) z0))*(Zt a)))).getD (Int.toNat i) z0)), .v (Z8 (qs.getD (Int.toNat (i64.wrap (i-at1))) z0)), .r (Zp ((Zt b)*(Zt (qs.getD (Int.toNat (i64.wrap (i-at1))) z0)))), .r (Zp ((Zt ((rs.set (Int.toNat i) (cn ((Zt (rs.getD (Int.toNat i) z0))*(Zt a)))).getD (Int.toNat i) z0))-((Zt b)*(Zt (qs.getD (Int.toNat (i64.wrap (i-at1))) z0))))), .l (pc ((rs.set (Int.toNat i) (cn ((Zt (rs.getD (Int.toNat i) z0))*(Zt a)))).set (Int.toNat i) (cn ((Zt ((rs.set (Int.toNat i) (cn ((Zt (rs.getD (Int.toNat i) z0))*(Zt a)))).getD (Int.toNat i) z0))-((Zt b)*(Zt (qs.getD (Int.toNat (i64.wrap (i-at1))) z0)))))))] [1,5,6,9,11,13,63,64] (ac c1 (ac n1 (ac (Vk n2 n1) (ac n5 (ac n1 (ac (Wv (r:=cn ((Zt (rs.getD (Int.toNat i) z0))*(Zt a))) n2 n1) (ac c2 (ac n1 (ac (Vk n3 n1) (ac n4 (ac (Xc n4) (ac n6 (ac n7 (ac n1 (ac (Wv (r:=cn ((Zt ((rs.set (Int.toNat i) (cn ((Zt (rs.getD (Int.toNat i) z0))*(Zt a)))).getD (Int.toNat i) z0))-((Zt b)*(Zt (qs.getD (Int.toNat (i64.wrap (i-at1))) z0))))) n3 n1) a0))))))))))))))))
theorem Zns (qs:List Rn) (k:Nat) (rs:List Rn) (t:Rn) (a:Rn) (b:Rn) (at1:Int) (n:Int) (i:Int)  (c1:(decide (i<n))=true) (c2:(decide (i≥at1))=false) (n1:0≤i∧i<(k:Int)) (n2:rs.length=k) (n3:Ze Yir 113 [Z8 (rs.getD (Int.toNat i) z0),Z8 a] (Zp ((Zt (rs.getD (Int.toNat i) z0))*(Zt a)))):Za Yir Ms (Gc qs k rs t a b at1 n i) .norm (Gc qs k (rs.set (Int.toNat i) (cn ((Zt (rs.getD (Int.toNat i) z0))*(Zt a)))) t a b at1 n (i64.wrap (i+1))):=(Za.go Zm 400 [.b true, .v (Z8 (rs.getD (Int.toNat i) z0)), .r (Zp ((Zt (rs.getD (Int.toNat i) z0))*(Zt a))), .l (pc (rs.set (Int.toNat i) (cn ((Zt (rs.getD (Int.toNat i) z0))*(Zt a))))), .b false] [1,5,6,9,11,13,63,64] (ac c1 (ac n1 (ac (Vk n2 n1) (ac n3 (ac n1 (ac (Wv (r:=cn ((Zt (rs.getD (Int.toNat i) z0))*(Zt a))) n2 n1) (ac c2 a0))))))))
theorem Znr (qs:List Rn) (k:Nat) (rs:List Rn) (t:Rn) (a:Rn) (b:Rn) (at1:Int) (n:Int) (i:Int)  (c1:(decide (i<n))=false):Za Yir Ms (Gc qs k rs t a b at1 n i) (.exit 2) (Gc qs k rs t a b at1 n i):=(Za.go Zm 400 [.b false] [1,5,6,9,11,13,63,64] (ac c1 a0))
def Zao (qs:List Rn) (k:Nat) (rs:List Rn) (t:Rn):Zi:=(dds 1 (.val (.sl qs.length (pc qs))::(dds 3 (.own 2 k (pc rs)::(.box [.bool t.1, .sl t.2.length (lm t.2)]::(dds 92 []))))))
theorem Yk64_1 (qs:List Rn) (k:Nat) (rs:List Rn) (t:Rn) (os us:List Rn) (a b:Rn) (g ab x y ny r1 r2 s at1 n i:Int) (c1:(decide ((k:Int)≥(qs.length:Int)))=true) (c2:(decide (s<0))=true) (n1:0≤(i64.wrap ((k:Int)-1))∧(i64.wrap ((k:Int)-1))<(k:Int)) (n2:rs.length=k) (n3:Ze Yir 109 [Z8 t,Z8 (rs.getD (Int.toNat (i64.wrap ((k:Int)-1))) z0)] (Zp g)) (n4:Ze Yir 111 [Z8 t] (Zp ab)) (n5:Ze Yir 110 [Zp ab,Zp g] (.tup [Zp x,Zp r1])) (n6:Ze Yir 110 [Z8 (rs.getD (Int.toNat (i64.wrap ((k:Int)-1))) z0),Zp g] (.tup [Zp y,Zp r2])) (n7:Ze Yir 73 [Z8 t] (.int .i64 s)) (n8:Ze Yir 112 [Zp y] (Zp ny)) (hl9:Za Yir (.loop Ms) (Gc qs k rs t (cn x) (cn ny) (i64.wrap ((k:Int)-(qs.length:Int))) (k:Int) 0) (.exit 2) (Gc qs k os t a b at1 n i)) (n10:Ze Yir 86 [.sl k (pc os)] (.fresh 2 us.length (pc us))):Za Yir Zro (Zao qs k rs t) .norm (Zao qs us.length us t):=(Za.seq (Za.go (t:=(dds 1 (vp qs::(dds 3 (.own 2 k (pc rs)::(bR t::(dds 18 (.dup 5::(dds 73 []))))))))) Zm 400 [.b true] [1,5,6,25] (ac c1 a0)) (Za.block_norm (Za.seq (Za.go (t:=(dds 1 (vp qs::(dds 3 (.own 2 k (pc rs)::(bR t::(bR (rs.getD (Int.toNat (i64.wrap ((k:Int)-1))) z0)::(dds 17 (.dup 5::(dds 4 (.dup 5::(.dup 5::(dds 2 (.ptr 5 (Int.toNat (i64.wrap ((k:Int)-1))*2)::(dds 64 []))))))))))))))) Zm 400 [.v (Z8 (rs.getD (Int.toNat (i64.wrap ((k:Int)-1))) z0))] [1,5,6,7,25,30,31,34] (ac n1 (ac (Vk n2 n1) a0))) (Za.seq (Za.go (t:=(dds 1 (vp qs::(dds 3 (.own 2 k (pc rs)::(bR t::(bR (rs.getD (Int.toNat (i64.wrap ((k:Int)-1))) z0)::(bN g::(dds 16 (.dup 5::(dds 4 (.dup 5::(.dup 5::(dds 2 (.ptr 5 (Int.toNat (i64.wrap ((k:Int)-1))*2)::(dds 64 [])))))))))))))))) Zm 400 [.r (Zp g)] [1,5,6,7,8,25,30,31,34] (ac n3 a0)) (Za.seq (Za.go (t:=(dds 1 (vp qs::(dds 3 (.own 2 k (pc rs)::(bR t::(bR (rs.getD (Int.toNat (i64.wrap ((k:Int)-1))) z0)::(bN g::(bN x::(dds 15 (.dup 5::(dds 4 (.dup 5::(.dup 5::(dds 2 (.ptr 5 (Int.toNat (i64.wrap ((k:Int)-1))*2)::(dds 64 []))))))))))))))))) Zm 400 [.r (Zp ab), .r (.tup [Zp x,Zp r1])] [1,5,6,7,8,9,25,30,31,34] (ac n4 (ac n5 a0))) (Za.seq (Za.go (t:=(dds 1 (vp qs::(dds 3 (.own 2 k (pc rs)::(bR t::(dds 2 (bN x::(dds 1 (bN y::(dds 13 (.dup 5::(dds 4 (.dup 5::(.dup 5::(dds 2 (.ptr 5 (Int.toNat (i64.wrap ((k:Int)-1))*2)::(dds 64 [])))))))))))))))))) Zm 400 [.r (.tup [Zp y,Zp r2])] [1,5,6,9,11,25,30,31,34] (ac n6 a0)) (Za.seq (Za.go (t:=(dds 1 (vp qs::(dds 3 (.own 2 k (pc rs)::(bR t::(dds 2 (bN x::(dds 1 (bN ny::(dds 13 (.dup 5::(dds 4 (.dup 5::(.dup 5::(dds 2 (.ptr 5 (Int.toNat (i64.wrap ((k:Int)-1))*2)::(dds 64 [])))))))))))))))))) Zm 400 [.r (.int .i64 s), .b true, .r (Zp ny)] [1,5,6,9,11,25,30,31,34] (ac n7 (ac c2 (ac n8 a0)))) (Za.seq (Za.go (t:=(dds 1 (vp qs::(dds 3 (.own 2 k (pc rs)::(bR t::(dds 2 (bN x::(dds 1 (bN ny::(dds 1 (vi (i64.wrap ((k:Int)-(qs.length:Int)))::(dds 11 (.dup 5::(dds 4 (.dup 5::(.dup 5::(dds 2 (.ptr 5 (Int.toNat (i64.wrap ((k:Int)-1))*2)::(dds 22 (.dup 5::(dds 41 [])))))))))))))))))))))) Zm 400 [] [1,5,6,9,11,13,25,30,31,34,57] a0) (Za.seq (Za.seq (Za.go Zm 400 [] [1,5,6,9,11,13,63,64] a0) (Za.block hl9)) (Za.go Zm 400 [.r (.fresh 2 us.length (pc us))] [1,5,6] (ac n10 a0)))))))))))
theorem Yk64_2 (qs:List Rn) (k:Nat) (rs:List Rn) (t:Rn) (os us:List Rn) (a b:Rn) (g ab x y r1 r2 s at1 n i:Int) (c1:(decide ((k:Int)≥(qs.length:Int)))=true) (c2:(decide (s<0))=false) (n1:0≤(i64.wrap ((k:Int)-1))∧(i64.wrap ((k:Int)-1))<(k:Int)) (n2:rs.length=k) (n3:Ze Yir 109 [Z8 t,Z8 (rs.getD (Int.toNat (i64.wrap ((k:Int)-1))) z0)] (Zp g)) (n4:Ze Yir 111 [Z8 t] (Zp ab)) (n5:Ze Yir 110 [Zp ab,Zp g] (.tup [Zp x,Zp r1])) (n6:Ze Yir 110 [Z8 (rs.getD (Int.toNat (i64.wrap ((k:Int)-1))) z0),Zp g] (.tup [Zp y,Zp r2])) (n7:Ze Yir 73 [Z8 t] (.int .i64 s)) (hl8:Za Yir (.loop Ms) (Gc qs k rs t (cn x) (cn y) (i64.wrap ((k:Int)-(qs.length:Int))) (k:Int) 0) (.exit 2) (Gc qs k os t a b at1 n i)) (n9:Ze Yir 86 [.sl k (pc os)] (.fresh 2 us.length (pc us))):Za Yir Zro (Zao qs k rs t) .norm (Zao qs us.length us t):=(Za.seq (Za.go (t:=(dds 1 (vp qs::(dds 3 (.own 2 k (pc rs)::(bR t::(dds 18 (.dup 5::(dds 73 []))))))))) Zm 400 [.b true] [1,5,6,25] (ac c1 a0)) (Za.block_norm (Za.seq (Za.go (t:=(dds 1 (vp qs::(dds 3 (.own 2 k (pc rs)::(bR t::(bR (rs.getD (Int.toNat (i64.wrap ((k:Int)-1))) z0)::(dds 17 (.dup 5::(dds 4 (.dup 5::(.dup 5::(dds 2 (.ptr 5 (Int.toNat (i64.wrap ((k:Int)-1))*2)::(dds 64 []))))))))))))))) Zm 400 [.v (Z8 (rs.getD (Int.toNat (i64.wrap ((k:Int)-1))) z0))] [1,5,6,7,25,30,31,34] (ac n1 (ac (Vk n2 n1) a0))) (Za.seq (Za.go (t:=(dds 1 (vp qs::(dds 3 (.own 2 k (pc rs)::(bR t::(bR (rs.getD (Int.toNat (i64.wrap ((k:Int)-1))) z0)::(bN g::(dds 16 (.dup 5::(dds 4 (.dup 5::(.dup 5::(dds 2 (.ptr 5 (Int.toNat (i64.wrap ((k:Int)-1))*2)::(dds 64 [])))))))))))))))) Zm 400 [.r (Zp g)] [1,5,6,7,8,25,30,31,34] (ac n3 a0)) (Za.seq (Za.go (t:=(dds 1 (vp qs::(dds 3 (.own 2 k (pc rs)::(bR t::(bR (rs.getD (Int.toNat (i64.wrap ((k:Int)-1))) z0)::(bN g::(bN x::(dds 15 (.dup 5::(dds 4 (.dup 5::(.dup 5::(dds 2 (.ptr 5 (Int.toNat (i64.wrap ((k:Int)-1))*2)::(dds 64 []))))))))))))))))) Zm 400 [.r (Zp ab), .r (.tup [Zp x,Zp r1])] [1,5,6,7,8,9,25,30,31,34] (ac n4 (ac n5 a0))) (Za.seq (Za.go (t:=(dds 1 (vp qs::(dds 3 (.own 2 k (pc rs)::(bR t::(dds 2 (bN x::(dds 1 (bN y::(dds 13 (.dup 5::(dds 4 (.dup 5::(.dup 5::(dds 2 (.ptr 5 (Int.toNat (i64.wrap ((k:Int)-1))*2)::(dds 64 [])))))))))))))))))) Zm 400 [.r (.tup [Zp y,Zp r2])] [1,5,6,9,11,25,30,31,34] (ac n6 a0)) (Za.seq (Za.go (t:=(dds 1 (vp qs::(dds 3 (.own 2 k (pc rs)::(bR t::(dds 2 (bN x::(dds 1 (bN y::(dds 13 (.dup 5::(dds 4 (.dup 5::(.dup 5::(dds 2 (.ptr 5 (Int.toNat (i64.wrap ((k:Int)-1))*2)::(dds 64 [])))))))))))))))))) Zm 400 [.r (.int .i64 s), .b false] [1,5,6,9,11,25,30,31,34] (ac n7 (ac c2 a0))) (Za.seq (Za.go (t:=(dds 1 (vp qs::(dds 3 (.own 2 k (pc rs)::(bR t::(dds 2 (bN x::(dds 1 (bN y::(dds 1 (vi (i64.wrap ((k:Int)-(qs.length:Int)))::(dds 11 (.dup 5::(dds 4 (.dup 5::(.dup 5::(dds 2 (.ptr 5 (Int.toNat (i64.wrap ((k:Int)-1))*2)::(dds 22 (.dup 5::(dds 41 [])))))))))))))))))))))) Zm 400 [] [1,5,6,9,11,13,25,30,31,34,57] a0) (Za.seq (Za.seq (Za.go Zm 400 [] [1,5,6,9,11,13,63,64] a0) (Za.block hl8)) (Za.go Zm 400 [.r (.fresh 2 us.length (pc us))] [1,5,6] (ac n9 a0)))))))))))
theorem Zlz (qs:List Rn) (k:Nat) (rs:List Rn) (t:Rn)  (c1:(decide ((k:Int)≥(qs.length:Int)))=false):Za Yir Zro (Zao qs k rs t) (.exit 0) (Zao qs k rs t):=(Za.seq_out (Za.go Zm 400 [.b false] [1,5,6] (ac c1 a0)) (by intro e;cases e))
theorem Yrun64 (rs ss ps qs us:List Rn) (t:Rn) (k:Nat) (n1:Ze Yir 86 [.sl rs.length (pc rs)] (.fresh 2 ps.length (pc ps))) (n2:Ze Yir 86 [.sl ss.length (pc ss)] (.fresh 2 qs.length (pc qs))) (n3:0≤(i64.wrap ((qs.length:Int)-1))∧(i64.wrap ((qs.length:Int)-1))<(qs.length:Int)) (hl4:Za Yir (.loop Zro) (Zao qs ps.length ps (qs.getD (Int.toNat (i64.wrap ((qs.length:Int)-1))) z0)) (.exit 0) (Zao qs k us t)):Ze Yir 64 [.sl rs.length (pc rs), .sl ss.length (pc ss)] (.fresh 2 k (pc us)):=Ze.of_bodyW (fn:=Yi64) (s:=(dds 4 (.own 2 k (pc us)::(dds 94 [])))) (ex := .ret) rfl rfl (Za.seq (Za.go (t:=(vp rs::(vp ss::(dds 2 (.own 2 0 []::(dds 94 [])))))) Zm 400 [] [0,1,4] a0) (Za.seq (Za.go (t:=(vp rs::(vp qs::(dds 2 (.own 2 0 []::(.own 2 ps.length (pc ps)::(dds 93 []))))))) Zm 400 [.r (.fresh 2 ps.length (pc ps)), .r (.fresh 2 qs.length (pc qs))] [0,1,4,5] (ac n1 (ac n2 a0))) (Za.seq (Za.go Zm 400 [.v (Z8 (qs.getD (Int.toNat (i64.wrap ((qs.length:Int)-1))) z0))] [1,5,6] (ac n3 (ac (Xc n3) a0))) (Za.seq (Za.block hl4) (Za.go Zm 400 [] [4] a0))))) (by intro i e;cases e) rfl
def Zan (as1:List Rn) (bs:List Rn):Zi:=(dds 5 (.val (.sl as1.length (pc as1))::(.val (.sl bs.length (pc bs))::(dds 13 []))))
theorem Zly (as1:List Rn) (bs:List Rn) (us:List Rn) (c1:(decide ((bs.length:Int)>0))=true) (n1:Ze Yir 64 [.sl as1.length (pc as1), .sl bs.length (pc bs)] (.fresh 2 us.length (pc us))):Za Yir Zrn (Zan as1 bs) .norm (Zan bs us):=(Za.go Zm 400 [.b true, .r (.fresh 2 us.length (pc us))] [5,6] (ac c1 (ac n1 a0)))
theorem Zlx (as1:List Rn) (bs:List Rn)  (c1:(decide ((bs.length:Int)>0))=false):Za Yir Zrn (Zan as1 bs) (.exit 0) (Zan as1 bs):=(Za.go Zm 400 [.b false] [5,6] (ac c1 a0))
theorem Zif (rs ss ps qs as1 bs ts:List Rn) (n1:Ze Yir 86 [.sl rs.length (pc rs)] (.fresh 2 ps.length (pc ps))) (n2:Ze Yir 86 [.sl ss.length (pc ss)] (.fresh 2 qs.length (pc qs))) (hl3:Za Yir (.loop Zrn) (Zan ps qs) (.exit 0) (Zan as1 bs)) (n4:Ze Yir 115 [.sl as1.length (pc as1)] (.fresh 2 ts.length (pc ts))):Ze Yir 65 [.sl rs.length (pc rs), .sl ss.length (pc ss)] (.fresh 2 ts.length (pc ts)):=Ze.of_bodyW (fn:=Zr1) (s:=(dds 4 (.own 2 ts.length (pc ts)::(dds 15 [])))) (ex := .ret) rfl rfl (Za.seq (Za.go (t:=(vp rs::(vp ss::(dds 2 (.own 2 0 []::(dds 15 [])))))) Zm 400 [] [0,1,4] a0) (Za.seq (Za.go Zm 400 [.r (.fresh 2 ps.length (pc ps)), .r (.fresh 2 qs.length (pc qs))] [5,6] (ac n1 (ac n2 a0))) (Za.seq (Za.block hl3) (Za.go Zm 400 [.r (.fresh 2 ts.length (pc ts))] [4] (ac n4 a0))))) (by intro i e;cases e) rfl
theorem Zie (rs ss ps qs as1 bs:List Rn) (n1:Ze Yir 86 [.sl rs.length (pc rs)] (.fresh 2 ps.length (pc ps))) (n2:Ze Yir 86 [.sl ss.length (pc ss)] (.fresh 2 qs.length (pc qs))) (hl3:Za Yir (.loop Zrn) (Zan ps qs) (.exit 0) (Zan as1 bs)) (n4:Ze Yir 115 [.sl as1.length (pc as1)] (.sl as1.length (pc as1))):Ze Yir 65 [.sl rs.length (pc rs), .sl ss.length (pc ss)] (.sl as1.length (pc as1)):=Ze.of_bodyW (fn:=Zr1) (s:=(dds 4 (.val (.sl as1.length (pc as1))::(dds 15 [])))) (ex := .ret) rfl rfl (Za.seq (Za.go (t:=(vp rs::(vp ss::(dds 2 (.own 2 0 []::(dds 15 [])))))) Zm 400 [] [0,1,4] a0) (Za.seq (Za.go Zm 400 [.r (.fresh 2 ps.length (pc ps)), .r (.fresh 2 qs.length (pc qs))] [5,6] (ac n1 (ac n2 a0))) (Za.seq (Za.block hl3) (Za.go Zm 400 [.r (.sl as1.length (pc as1))] [4] (ac n4 a0))))) (by intro i e;cases e) rfl
def K3 (qs:List Rn) (k:Nat) (rs:List Rn) (t:Rn) (kq:Nat) (os:List Rn) (j:Int) (l:Rn) (n:Int) (i:Int):Zi:=(dds 1 (.val (.sl qs.length (pc qs))::(dds 3 (.own 2 k (pc rs)::(.box [.bool t.1, .sl t.2.length (lm t.2)]::(.own 2 kq (pc os)::(.val (.int .i64 j)::(.box [.bool l.1, .sl l.2.length (lm l.2)]::(dds 34 (.val (.int .i64 n)::(.val (.int .i64 i)::(dds 57 []))))))))))))
theorem Zjm (qs:List Rn) (k:Nat) (rs:List Rn) (t:Rn) (kq:Nat) (os:List Rn) (j:Int) (l:Rn) (n:Int) (i:Int)  (c1:(decide (i<n))=true) (n1:0≤i∧i<(k:Int)) (n2:rs.length=k) (n3:Ze Yir 113 [Z8 (rs.getD (Int.toNat i) z0),Z8 t] (Zp ((Zt (rs.getD (Int.toNat i) z0))*(Zt t)))):Za Yir A4 (K3 qs k rs t kq os j l n i) .norm (K3 qs k (rs.set (Int.toNat i) (cn ((Zt (rs.getD (Int.toNat i) z0))*(Zt t)))) t kq os j l n (i64.wrap (i+1))):=(Za.go Zm 400 [.b true, .v (Z8 (rs.getD (Int.toNat i) z0)), .r (Zp ((Zt (rs.getD (Int.toNat i) z0))*(Zt t))), .l (pc (rs.set (Int.toNat i) (cn ((Zt (rs.getD (Int.toNat i) z0))*(Zt t)))))] [1,5,6,7,8,9,44,45] (ac c1 (ac n1 (ac (Vk n2 n1) (ac n3 (ac n1 (ac (Wv (r:=cn ((Zt (rs.getD (Int.toNat i) z0))*(Zt t))) n2 n1) a0)))))))
theorem Zjl (qs:List Rn) (k:Nat) (rs:List Rn) (t:Rn) (kq:Nat) (os:List Rn) (j:Int) (l:Rn) (n:Int) (i:Int)  (c1:(decide (i<n))=false):Za Yir A4 (K3 qs k rs t kq os j l n i) (.exit 2) (K3 qs k rs t kq os j l n i):=(Za.go Zm 400 [.b false] [1,5,6,7,8,9,44,45] (ac c1 a0))
def K2 (qs:List Rn) (k:Nat) (rs:List Rn) (t:Rn) (kq:Nat) (os:List Rn) (j:Int) (l:Rn) (n:Int) (i:Int):Zi:=(dds 1 (.val (.sl qs.length (pc qs))::(dds 3 (.own 2 k (pc rs)::(.box [.bool t.1, .sl t.2.length (lm t.2)]::(.own 2 kq (pc os)::(.val (.int .i64 j)::(.box [.bool l.1, .sl l.2.length (lm l.2)]::(dds 49 (.val (.int .i64 n)::(.val (.int .i64 i)::(dds 42 []))))))))))))
theorem Zjk (qs:List Rn) (k:Nat) (rs:List Rn) (t:Rn) (kq:Nat) (os:List Rn) (j:Int) (l:Rn) (n:Int) (i:Int)  (c1:(decide (i<n))=true) (n1:0≤i∧i<(kq:Int)) (n2:os.length=kq) (n3:Ze Yir 113 [Z8 (os.getD (Int.toNat i) z0),Z8 t] (Zp ((Zt (os.getD (Int.toNat i) z0))*(Zt t)))):Za Yir A3 (K2 qs k rs t kq os j l n i) .norm (K2 qs k rs t kq (os.set (Int.toNat i) (cn ((Zt (os.getD (Int.toNat i) z0))*(Zt t)))) j l n (i64.wrap (i+1))):=(Za.go Zm 400 [.b true, .v (Z8 (os.getD (Int.toNat i) z0)), .r (Zp ((Zt (os.getD (Int.toNat i) z0))*(Zt t))), .l (pc (os.set (Int.toNat i) (cn ((Zt (os.getD (Int.toNat i) z0))*(Zt t)))))] [1,5,6,7,8,9,59,60] (ac c1 (ac n1 (ac (Vk n2 n1) (ac n3 (ac n1 (ac (Wv (r:=cn ((Zt (os.getD (Int.toNat i) z0))*(Zt t))) n2 n1) a0)))))))
theorem Zjj (qs:List Rn) (k:Nat) (rs:List Rn) (t:Rn) (kq:Nat) (os:List Rn) (j:Int) (l:Rn) (n:Int) (i:Int)  (c1:(decide (i<n))=false):Za Yir A3 (K2 qs k rs t kq os j l n i) (.exit 4) (K2 qs k rs t kq os j l n i):=(Za.go Zm 400 [.b false] [1,5,6,7,8,9,59,60] (ac c1 a0))
def K1 (qs:List Rn) (k:Nat) (rs:List Rn) (t:Rn) (kq:Nat) (os:List Rn) (j:Int) (l:Rn) (n:Int) (i:Int):Zi:=(dds 1 (.val (.sl qs.length (pc qs))::(dds 3 (.own 2 k (pc rs)::(.box [.bool t.1, .sl t.2.length (lm t.2)]::(.own 2 kq (pc os)::(.val (.int .i64 j)::(.box [.bool l.1, .sl l.2.length (lm l.2)]::(dds 68 (.val (.int .i64 n)::(.val (.int .i64 i)::(dds 23 []))))))))))))
theorem Zji (qs:List Rn) (k:Nat) (rs:List Rn) (t:Rn) (kq:Nat) (os:List Rn) (j:Int) (l:Rn) (n:Int) (i:Int)  (c1:(decide (i<n))=true) (n1:0≤(i64.wrap (j+i))∧(i64.wrap (j+i))<(k:Int)) (n2:rs.length=k) (n3:0≤i∧i<(qs.length:Int)) (n4:Ze Yir 113 [Z8 l,Z8 (qs.getD (Int.toNat i) z0)] (Zp ((Zt l)*(Zt (qs.getD (Int.toNat i) z0))))) (n5:Ze Yir 114 [Z8 (rs.getD (Int.toNat (i64.wrap (j+i))) z0),Zp ((Zt l)*(Zt (qs.getD (Int.toNat i) z0)))] (Zp ((Zt (rs.getD (Int.toNat (i64.wrap (j+i))) z0))-((Zt l)*(Zt (qs.getD (Int.toNat i) z0)))))):Za Yir A2 (K1 qs k rs t kq os j l n i) .norm (K1 qs k (rs.set (Int.toNat (i64.wrap (j+i))) (cn ((Zt (rs.getD (Int.toNat (i64.wrap (j+i))) z0))-((Zt l)*(Zt (qs.getD (Int.toNat i) z0)))))) t kq os j l n (i64.wrap (i+1))):=(Za.go Zm 400 [.b true, .v (Z8 (rs.getD (Int.toNat (i64.wrap (j+i))) z0)), .v (Z8 (qs.getD (Int.toNat i) z0)), .r (Zp ((Zt l)*(Zt (qs.getD (Int.toNat i) z0)))), .r (Zp ((Zt (rs.getD (Int.toNat (i64.wrap (j+i))) z0))-((Zt l)*(Zt (qs.getD (Int.toNat i) z0))))), .l (pc (rs.set (Int.toNat (i64.wrap (j+i))) (cn ((Zt (rs.getD (Int.toNat (i64.wrap (j+i))) z0))-((Zt l)*(Zt (qs.getD (Int.toNat i) z0)))))))] [1,5,6,7,8,9,78,79] (ac c1 (ac n1 (ac (Vk n2 n1) (ac n3 (ac (Xc n3) (ac n4 (ac n5 (ac n1 (ac (Wv (r:=cn ((Zt (rs.getD (Int.toNat (i64.wrap (j+i))) z0))-((Zt l)*(Zt (qs.getD (Int.toNat i) z0))))) n2 n1) a0))))))))))
theorem Zjh (qs:List Rn) (k:Nat) (rs:List Rn) (t:Rn) (kq:Nat) (os:List Rn) (j:Int) (l:Rn) (n:Int) (i:Int)  (c1:(decide (i<n))=false):Za Yir A2 (K1 qs k rs t kq os j l n i) (.exit 6) (K1 qs k rs t kq os j l n i):=(Za.go Zm 400 [.b false] [1,5,6,7,8,9,78,79] (ac c1 a0))
def L7 (qs:List Rn) (k:Nat) (rs:List Rn) (t:Rn) (kq:Nat) (os:List Rn) (j:Int):Zi:=(dds 1 (.val (.sl qs.length (pc qs))::(dds 3 (.own 2 k (pc rs)::(.box [.bool t.1, .sl t.2.length (lm t.2)]::(.own 2 kq (pc os)::(.val (.int .i64 j)::(dds 94 []))))))))
theorem Zo7 (qs:List Rn) (k:Nat) (rs:List Rn) (t:Rn) (kq:Nat) (os:List Rn) (j:Int) (rs1 rs2 os1:List Rn) (m1 i1 m2 i2 m3 i3:Int) (c1:(decide (j≥0))=true) (n1:0≤(i64.wrap ((i64.wrap (j+(qs.length:Int)))-1))∧(i64.wrap ((i64.wrap (j+(qs.length:Int)))-1))<(k:Int)) (n2:rs.length=k) (hl3:Za Yir (.loop A4) (K3 qs k rs t kq os j (rs.getD (Int.toNat (i64.wrap ((i64.wrap (j+(qs.length:Int)))-1))) z0) (k:Int) 0) (.exit 2) (K3 qs k rs1 t kq os j (rs.getD (Int.toNat (i64.wrap ((i64.wrap (j+(qs.length:Int)))-1))) z0) m1 i1)) (hl4:Za Yir (.loop A3) (K2 qs k rs1 t kq os j (rs.getD (Int.toNat (i64.wrap ((i64.wrap (j+(qs.length:Int)))-1))) z0) (kq:Int) 0) (.exit 4) (K2 qs k rs1 t kq os1 j (rs.getD (Int.toNat (i64.wrap ((i64.wrap (j+(qs.length:Int)))-1))) z0) m2 i2)) (n5:0≤j∧j<(kq:Int)) (n6:os1.length=kq) (hl7:Za Yir (.loop A2) (K1 qs k rs1 t kq (os1.set (Int.toNat j) (rs.getD (Int.toNat (i64.wrap ((i64.wrap (j+(qs.length:Int)))-1))) z0)) j (rs.getD (Int.toNat (i64.wrap ((i64.wrap (j+(qs.length:Int)))-1))) z0) (qs.length:Int) 0) (.exit 6) (K1 qs k rs2 t kq (os1.set (Int.toNat j) (rs.getD (Int.toNat (i64.wrap ((i64.wrap (j+(qs.length:Int)))-1))) z0)) j (rs.getD (Int.toNat (i64.wrap ((i64.wrap (j+(qs.length:Int)))-1))) z0) m3 i3)):Za Yir Zff (L7 qs k rs t kq os j) .norm (L7 qs k rs2 t kq (os1.set (Int.toNat j) (rs.getD (Int.toNat (i64.wrap ((i64.wrap (j+(qs.length:Int)))-1))) z0)) (i64.wrap (j-1))):=(Za.seq (Za.go (t:=(dds 1 (vp qs::(dds 3 (.own 2 k (pc rs)::(bR t::(.own 2 kq (pc os)::(vi j::(dds 94 []))))))))) Zm 400 [.b true] [1,5,6,7,8] (ac c1 a0)) (Za.seq (Za.block_norm (Za.seq (Za.go (t:=(dds 1 (vp qs::(dds 3 (.own 2 k (pc rs)::(bR t::(.own 2 kq (pc os)::(vi j::(bR (rs.getD (Int.toNat (i64.wrap ((i64.wrap (j+(qs.length:Int)))-1))) z0)::(dds 93 [])))))))))) Zm 400 [.v (Z8 (rs.getD (Int.toNat (i64.wrap ((i64.wrap (j+(qs.length:Int)))-1))) z0))] [1,5,6,7,8,9] (ac n1 (ac (Vk n2 n1) a0))) (Za.seq (Za.seq (Za.go Zm 400 [] [1,5,6,7,8,9,44,45] a0) (Za.block hl3)) (Za.seq (Za.seq (Za.go Zm 400 [] [1,5,6,7,8,9,59,60] a0) (Za.block hl4)) (Za.seq (Za.go (t:=(dds 1 (vp qs::(dds 3 (.own 2 k (pc rs1)::(bR t::(.own 2 kq (pc (os1.set (Int.toNat j) (rs.getD (Int.toNat (i64.wrap ((i64.wrap (j+(qs.length:Int)))-1))) z0)))::(vi j::(bR (rs.getD (Int.toNat (i64.wrap ((i64.wrap (j+(qs.length:Int)))-1))) z0)::(dds 93 [])))))))))) Zm 400 [.l (pc (os1.set (Int.toNat j) (rs.getD (Int.toNat (i64.wrap ((i64.wrap (j+(qs.length:Int)))-1))) z0)))] [1,5,6,7,8,9] (ac n5 (ac (Wv (r:=rs.getD (Int.toNat (i64.wrap ((i64.wrap (j+(qs.length:Int)))-1))) z0) n6 n5) a0))) (Za.seq (Za.go Zm 400 [] [1,5,6,7,8,9,78,79] a0) (Za.block hl7))))))) (Za.go Zm 400 [] [1,5,6,7,8] a0)))
theorem Zo6 (qs:List Rn) (k:Nat) (rs:List Rn) (t:Rn) (kq:Nat) (os:List Rn) (j:Int)  (c1:(decide (j≥0))=false):Za Yir Zff (L7 qs k rs t kq os j) (.exit 0) (L7 qs k rs t kq os j):=(Za.seq_out (Za.go Zm 400 [.b false] [1,5,6,7,8] (ac c1 a0)) (by intro e;cases e))
theorem Znf (rs qs ps us xs os:List Rn) (t:Rn) (k kq:Nat) (j:Int) (n1:Ze Yir 92 [.sl rs.length (pc rs)] (.fresh 2 ps.length (pc ps))) (n2:0≤(i64.wrap ((qs.length:Int)-1))∧(i64.wrap ((qs.length:Int)-1))<(qs.length:Int)) (n3:0≤(i64.wrap ((i64.wrap ((ps.length:Int)-(qs.length:Int)))+1))∧(i64.wrap ((i64.wrap ((ps.length:Int)-(qs.length:Int)))+1))≤1048576) (hl4:Za Yir (.loop Zff) ((dds 1 (.val (.sl qs.length (pc qs))::(dds 3 (.own 2 ps.length (pc ps)::(.box [.bool ((qs.getD (Int.toNat (i64.wrap ((qs.length:Int)-1))) z0).1), .sl ((qs.getD (Int.toNat (i64.wrap ((qs.length:Int)-1))) z0).2.length) (lm (qs.getD (Int.toNat (i64.wrap ((qs.length:Int)-1))) z0).2)]::(.own 2 (Int.toNat (i64.wrap ((i64.wrap ((ps.length:Int)-(qs.length:Int)))+1))) (Qy [.bool false, .sl 0 []] (Int.toNat (i64.wrap ((i64.wrap ((ps.length:Int)-(qs.length:Int)))+1))))::(.val (.int .i64 (i64.wrap ((((Int.toNat (i64.wrap ((i64.wrap ((ps.length:Int)-(qs.length:Int)))+1))):Nat):Int)-1)))::(dds 94 []))))))))) (.exit 0) (L7 qs k xs t kq os j)) (n5:Ze Yir 86 [.sl kq (pc os)] (.fresh 2 us.length (pc us))):Ze Yir 116 [.sl rs.length (pc rs), .sl qs.length (pc qs)] (.fresh 2 us.length (pc us)):=Ze.of_bodyW (fn:=Ze0) (s:=(dds 4 (.own 2 us.length (pc us)::(dds 98 [])))) (ex := .ret) rfl rfl (Za.seq (Za.go (t:=(vp rs::(vp qs::(dds 2 (.own 2 0 []::(dds 98 [])))))) Zm 400 [] [0,1,4] a0) (Za.seq (Za.go (t:=(vp rs::(vp qs::(dds 2 (.own 2 0 []::(.own 2 ps.length (pc ps)::(dds 97 []))))))) Zm 400 [.r (.fresh 2 ps.length (pc ps))] [0,1,4,5] (ac n1 a0)) (Za.seq (Za.go (t:=(vp rs::(vp qs::(dds 2 (.own 2 0 []::(.own 2 ps.length (pc ps)::(bR (qs.getD (Int.toNat (i64.wrap ((qs.length:Int)-1))) z0)::(dds 96 [])))))))) Zm 400 [.v (Z8 (qs.getD (Int.toNat (i64.wrap ((qs.length:Int)-1))) z0))] [0,1,4,5,6] (ac n2 (ac (Xc n2) a0))) (Za.seq (Za.go (t:=(vp rs::(vp qs::(dds 2 (.own 2 0 []::(.own 2 ps.length (pc ps)::(bR (qs.getD (Int.toNat (i64.wrap ((qs.length:Int)-1))) z0)::(.own 2 (Int.toNat (i64.wrap ((i64.wrap ((ps.length:Int)-(qs.length:Int)))+1))) (Qy [.bool false, .sl 0 []] (Int.toNat (i64.wrap ((i64.wrap ((ps.length:Int)-(qs.length:Int)))+1))))::(dds 95 []))))))))) Zm 400 [] [0,1,4,5,6,7] (ac n3 a0)) (Za.seq (Za.seq (Za.go Zm 400 [] [1,5,6,7,8] a0) (Za.block hl4)) (Za.go Zm 400 [.r (.fresh 2 us.length (pc us))] [4] (ac n5 a0))))))) (by intro i e;cases e) rfl
theorem Ph (rs ps xs:List Rn) (c1:(decide ((xs.length:Int)<2))=true) (n1:Ze Yir 86 [.sl rs.length (pc rs)] (.fresh 2 ps.length (pc ps))) (n2:Ze Yir 115 [.sl ps.length (pc ps)] (.fresh 2 xs.length (pc xs))):Ze Yir 66 [.sl rs.length (pc rs)] (.sl xs.length (pc xs)):=Ze.go (fn:=Sf) Zm rfl 400 rfl [.r (.fresh 2 ps.length (pc ps)), .r (.fresh 2 xs.length (pc xs)), .b true] (ac n1 (ac n2 (ac c1 a0)))
theorem Pg (rs ps xs ds gs:List Rn) (c1:(decide ((xs.length:Int)<2))=false) (c2:(decide ((gs.length:Int)<2))=true) (n1:Ze Yir 86 [.sl rs.length (pc rs)] (.fresh 2 ps.length (pc ps))) (n2:Ze Yir 115 [.sl ps.length (pc ps)] (.fresh 2 xs.length (pc xs))) (n3:Ze Yir 75 [.sl xs.length (pc xs)] (.fresh 2 ds.length (pc ds))) (n4:Ze Yir 65 [.sl xs.length (pc xs), .sl ds.length (pc ds)] (.fresh 2 gs.length (pc gs))):Ze Yir 66 [.sl rs.length (pc rs)] (.sl xs.length (pc xs)):=Ze.go (fn:=Sf) Zm rfl 400 rfl [.r (.fresh 2 ps.length (pc ps)), .r (.fresh 2 xs.length (pc xs)), .b false, .r (.fresh 2 ds.length (pc ds)), .r (.fresh 2 gs.length (pc gs)), .b true] (ac n1 (ac n2 (ac c1 (ac n3 (ac n4 (ac c2 a0))))))
theorem Pf (rs ps xs ds gs us:List Rn) (c1:(decide ((xs.length:Int)<2))=false) (c2:(decide ((gs.length:Int)<2))=false) (n1:Ze Yir 86 [.sl rs.length (pc rs)] (.fresh 2 ps.length (pc ps))) (n2:Ze Yir 115 [.sl ps.length (pc ps)] (.fresh 2 xs.length (pc xs))) (n3:Ze Yir 75 [.sl xs.length (pc xs)] (.fresh 2 ds.length (pc ds))) (n4:Ze Yir 65 [.sl xs.length (pc xs), .sl ds.length (pc ds)] (.fresh 2 gs.length (pc gs))) (n5:Ze Yir 116 [.sl xs.length (pc xs), .sl gs.length (pc gs)] (.fresh 2 us.length (pc us))):Ze Yir 66 [.sl rs.length (pc rs)] (.fresh 2 us.length (pc us)):=Ze.go (fn:=Sf) Zm rfl 400 rfl [.r (.fresh 2 ps.length (pc ps)), .r (.fresh 2 xs.length (pc xs)), .b false, .r (.fresh 2 ds.length (pc ds)), .r (.fresh 2 gs.length (pc gs)), .b false, .r (.fresh 2 us.length (pc us))] (ac n1 (ac n2 (ac c1 (ac n3 (ac n4 (ac c2 (ac n5 a0)))))))
theorem Pe (rs ps xs ds gs:List Rn) (c1:(decide ((xs.length:Int)<2))=false) (c2:(decide ((gs.length:Int)<2))=true) (n1:Ze Yir 86 [.sl rs.length (pc rs)] (.fresh 2 ps.length (pc ps))) (n2:Ze Yir 115 [.sl ps.length (pc ps)] (.fresh 2 xs.length (pc xs))) (n3:Ze Yir 75 [.sl xs.length (pc xs)] (.fresh 2 ds.length (pc ds))) (n4:Ze Yir 65 [.sl xs.length (pc xs), .sl ds.length (pc ds)] (.sl gs.length (pc gs))):Ze Yir 66 [.sl rs.length (pc rs)] (.sl xs.length (pc xs)):=Ze.go (fn:=Sf) Zm rfl 400 rfl [.r (.fresh 2 ps.length (pc ps)), .r (.fresh 2 xs.length (pc xs)), .b false, .r (.fresh 2 ds.length (pc ds)), .r (.sl gs.length (pc gs)), .b true] (ac n1 (ac n2 (ac c1 (ac n3 (ac n4 (ac c2 a0))))))
theorem Pd (rs ps xs ds gs us:List Rn) (c1:(decide ((xs.length:Int)<2))=false) (c2:(decide ((gs.length:Int)<2))=false) (n1:Ze Yir 86 [.sl rs.length (pc rs)] (.fresh 2 ps.length (pc ps))) (n2:Ze Yir 115 [.sl ps.length (pc ps)] (.fresh 2 xs.length (pc xs))) (n3:Ze Yir 75 [.sl xs.length (pc xs)] (.fresh 2 ds.length (pc ds))) (n4:Ze Yir 65 [.sl xs.length (pc xs), .sl ds.length (pc ds)] (.sl gs.length (pc gs))) (n5:Ze Yir 116 [.sl xs.length (pc xs), .sl gs.length (pc gs)] (.fresh 2 us.length (pc us))):Ze Yir 66 [.sl rs.length (pc rs)] (.fresh 2 us.length (pc us)):=Ze.go (fn:=Sf) Zm rfl 400 rfl [.r (.fresh 2 ps.length (pc ps)), .r (.fresh 2 xs.length (pc xs)), .b false, .r (.fresh 2 ds.length (pc ds)), .r (.sl gs.length (pc gs)), .b false, .r (.fresh 2 us.length (pc us))] (ac n1 (ac n2 (ac c1 (ac n3 (ac n4 (ac c2 (ac n5 a0)))))))
theorem Pc (rs ps ds gs:List Rn) (c1:(decide ((ps.length:Int)<2))=false) (c2:(decide ((gs.length:Int)<2))=true) (n1:Ze Yir 86 [.sl rs.length (pc rs)] (.fresh 2 ps.length (pc ps))) (n2:Ze Yir 115 [.sl ps.length (pc ps)] (.sl ps.length (pc ps))) (n3:Ze Yir 75 [.sl ps.length (pc ps)] (.fresh 2 ds.length (pc ds))) (n4:Ze Yir 65 [.sl ps.length (pc ps), .sl ds.length (pc ds)] (.fresh 2 gs.length (pc gs))):Ze Yir 66 [.sl rs.length (pc rs)] (.sl ps.length (pc ps)):=Ze.go (fn:=Sf) Zm rfl 400 rfl [.r (.fresh 2 ps.length (pc ps)), .r (.sl ps.length (pc ps)), .b false, .r (.fresh 2 ds.length (pc ds)), .r (.fresh 2 gs.length (pc gs)), .b true] (ac n1 (ac n2 (ac c1 (ac n3 (ac n4 (ac c2 a0))))))
theorem Pb (rs ps ds gs us:List Rn) (c1:(decide ((ps.length:Int)<2))=false) (c2:(decide ((gs.length:Int)<2))=false) (n1:Ze Yir 86 [.sl rs.length (pc rs)] (.fresh 2 ps.length (pc ps))) (n2:Ze Yir 115 [.sl ps.length (pc ps)] (.sl ps.length (pc ps))) (n3:Ze Yir 75 [.sl ps.length (pc ps)] (.fresh 2 ds.length (pc ds))) (n4:Ze Yir 65 [.sl ps.length (pc ps), .sl ds.length (pc ds)] (.fresh 2 gs.length (pc gs))) (n5:Ze Yir 116 [.sl ps.length (pc ps), .sl gs.length (pc gs)] (.fresh 2 us.length (pc us))):Ze Yir 66 [.sl rs.length (pc rs)] (.fresh 2 us.length (pc us)):=Ze.go (fn:=Sf) Zm rfl 400 rfl [.r (.fresh 2 ps.length (pc ps)), .r (.sl ps.length (pc ps)), .b false, .r (.fresh 2 ds.length (pc ds)), .r (.fresh 2 gs.length (pc gs)), .b false, .r (.fresh 2 us.length (pc us))] (ac n1 (ac n2 (ac c1 (ac n3 (ac n4 (ac c2 (ac n5 a0)))))))
theorem Pa (rs ps:List Rn) (c1:(decide ((ps.length:Int)<2))=true) (n1:Ze Yir 86 [.sl rs.length (pc rs)] (.fresh 2 ps.length (pc ps))) (n2:Ze Yir 115 [.sl ps.length (pc ps)] (.sl ps.length (pc ps))):Ze Yir 66 [.sl rs.length (pc rs)] (.sl ps.length (pc ps)):=Ze.go (fn:=Sf) Zm rfl 400 rfl [.r (.fresh 2 ps.length (pc ps)), .r (.sl ps.length (pc ps)), .b true] (ac n1 (ac n2 (ac c1 a0)))
theorem L9 (rs ps ds gs:List Rn) (c1:(decide ((ps.length:Int)<2))=false) (c2:(decide ((gs.length:Int)<2))=true) (n1:Ze Yir 86 [.sl rs.length (pc rs)] (.fresh 2 ps.length (pc ps))) (n2:Ze Yir 115 [.sl ps.length (pc ps)] (.sl ps.length (pc ps))) (n3:Ze Yir 75 [.sl ps.length (pc ps)] (.fresh 2 ds.length (pc ds))) (n4:Ze Yir 65 [.sl ps.length (pc ps), .sl ds.length (pc ds)] (.sl gs.length (pc gs))):Ze Yir 66 [.sl rs.length (pc rs)] (.sl ps.length (pc ps)):=Ze.go (fn:=Sf) Zm rfl 400 rfl [.r (.fresh 2 ps.length (pc ps)), .r (.sl ps.length (pc ps)), .b false, .r (.fresh 2 ds.length (pc ds)), .r (.sl gs.length (pc gs)), .b true] (ac n1 (ac n2 (ac c1 (ac n3 (ac n4 (ac c2 a0))))))
theorem L8 (rs ps ds gs us:List Rn) (c1:(decide ((ps.length:Int)<2))=false) (c2:(decide ((gs.length:Int)<2))=false) (n1:Ze Yir 86 [.sl rs.length (pc rs)] (.fresh 2 ps.length (pc ps))) (n2:Ze Yir 115 [.sl ps.length (pc ps)] (.sl ps.length (pc ps))) (n3:Ze Yir 75 [.sl ps.length (pc ps)] (.fresh 2 ds.length (pc ds))) (n4:Ze Yir 65 [.sl ps.length (pc ps), .sl ds.length (pc ds)] (.sl gs.length (pc gs))) (n5:Ze Yir 116 [.sl ps.length (pc ps), .sl gs.length (pc gs)] (.fresh 2 us.length (pc us))):Ze Yir 66 [.sl rs.length (pc rs)] (.fresh 2 us.length (pc us)):=Ze.go (fn:=Sf) Zm rfl 400 rfl [.r (.fresh 2 ps.length (pc ps)), .r (.sl ps.length (pc ps)), .b false, .r (.fresh 2 ds.length (pc ds)), .r (.sl gs.length (pc gs)), .b false, .r (.fresh 2 us.length (pc us))] (ac n1 (ac n2 (ac c1 (ac n3 (ac n4 (ac c2 (ac n5 a0)))))))
def TMA:Ji:=TRB
theorem Zfq:Qh Yir TMA:=Zm
end Go.Proofs.Ythnnfemologhfaa

namespace Go.Ai
open Go.IntKind (i64 u64 u32)
theorem Zcb (c:Nat) (hc:1<c):∃ p,1<p∧p∣c∧∀ d,d∣p→d=1∨d=p:=by
 have h:∀ n,∀ m,m≤n→1<m→m∣c→∃ p,1<p∧p∣c∧∀ d,d∣p→d=1∨d=p:=by
  intro n
  induction n with
  | zero=>intro m h1 h2;omega
  | succ n ih =>
   intro m h1 h2 h3
   by_cases h:∀ d,d∣m→d=1∨d=m
   ·exact⟨m,h2,h3,h⟩
   ·obtain⟨d,hd⟩:=Classical.not_forall.1 h
    obtain⟨hd1,hd2⟩:=Classical.not_imp.1 hd
    have h5:=Nat.le_of_dvd (by omega) hd1
    have h6:d ≠ 0:=by intro h0;subst h0;have:=Nat.zero_dvd.1 hd1;omega
    exact ih d (by omega) (by omega) (Nat.dvd_trans hd1 h3)
 exact h c c (Nat.le_refl _) hc (Nat.dvd_refl _)
theorem Zbi {p:Nat} (hp:∀ d,d∣p→d=1∨d=p) {a b:Int} (h:(p:Int)∣a*b):(p:Int)∣a∨(p:Int)∣b:=by
 rcases hp (Nat.gcd p a.natAbs) (Nat.gcd_dvd_left _ _) with g | g
 ·right
  have h1:p∣a.natAbs*b.natAbs:=by rw[← Int.natAbs_mul];exact Int.ofNat_dvd_left.1 h
  exact Int.ofNat_dvd_left.2 (Nat.Coprime.dvd_of_dvd_mul_left g h1)
 ·left
  have:p∣a.natAbs:=by rw[← g];exact Nat.gcd_dvd_right _ _
  exact Int.ofNat_dvd_left.2 this
theorem Du (g:List Int) (b:Int) (k:List Int) (i:Nat):(Xp g (b::k)).getD i 0=b*g.getD i 0+(Up 1 (Xp g k)).getD i 0:=by
 have h:=X1 (p:=Xp g (b::k)) (q:=G8 (Zu b g) (Up 1 (Xp g k))) (fun x=>by
  rw[Z1,Qi,Zn,Xz,Z1]
  simp only[Zc,Int.pow_succ,Int.pow_zero]
  grind) i
 rw[h,Xf,Z4]
theorem Ba {p:Nat} (hp:∀ d,d∣p→d=1∨d=p):∀ (g k:List Int),(∀ i,(p:Int)∣(Xp g k).getD i 0)→(¬ ∀ i,(p:Int)∣g.getD i 0)→∀ i,(p:Int)∣k.getD i 0
 | [],k,_,h=>absurd (fun i=>by simp) h
 | a::g,k,h,hn=>by
  by_cases ha:(p:Int)∣a
  ·refine Ba hp g k (fun i => ?_) (fun h2=>hn fun i => ?_)
   ·have h1:=h (i+1)
    rw[Jr,Qs,if_pos (by omega)] at h1
    exact (Int.dvd_add_right (Int.dvd_trans ha (Int.dvd_mul_right _ _))).1 h1
   ·cases i with
    | zero=>simpa using ha
    | succ i=>simpa using h2 i
  ·clear hn
   induction k with
   | nil=>intro i;simp
   | cons b k ih =>
    have h0:=h 0
    rw[Jr,Qs,if_neg (by omega),Int.add_zero] at h0
    have hb:(p:Int)∣b:=by
     rcases Zbi hp h0 with g1 | g1
     ·exact absurd g1 ha
     ·simpa using g1
    have h2:=ih (fun i=>by
     have h1:=h (i+1)
     rw[Du,Qs,if_pos (by omega)] at h1
     exact (Int.dvd_add_right (Int.dvd_trans hb (Int.dvd_mul_right _ _))).1 h1)
    intro i
    cases i with
    | zero=>simpa using hb
    | succ i=>simpa using h2 i
theorem gauss {g : List Int} (hg :   Q9 g = 1) : ∀ (c : Nat) (k : List Int), 0 < c → (∀ i, (c : Int) ∣ (  Xp g k).getD i 0) → ∀ i, (c : Int) ∣ k.getD i 0 := by
  intro c
  induction c using Nat.strongRecOn with
  | ind c ih =>
    intro k hc h
    by_cases h1 : c = 1
    · intro i; rw [h1]; exact Int.one_dvd _
    · obtain ⟨p, p1, ⟨d, hd⟩, p3⟩ :=       Zcb c (by omega)
      have hd0 : 0 < d := by rcases Nat.eq_zero_or_pos d with g | g
                             · rw [g, Nat.mul_zero] at hd; omega
                             · exact g
      have hdc : d < c := by rw [hd]; exact (Nat.lt_mul_iff_one_lt_left hd0).2 p1
      have hpk :=          Ba p3 g k (fun i => Int.dvd_trans ⟨(d : Int), by rw [hd]; push_cast; rfl⟩ (h i)) (fun h2 => by
        have := (      Kh p g).2 h2
        rw [hg] at this
        have := Nat.le_of_dvd (by decide) this
        omega)
      have hk :    Zu (p : Int) (k.map fun x => x / (p : Int)) = k := by
        apply       Kc (by simp [   Zu])
        intro i
        rw [        Z4]
        have e : (k.map fun x => x / (p : Int)).getD i 0 = k.getD i 0 / (p : Int) := by
          simp only [List.getD_eq_getElem?_getD, List.getElem?_map]
          cases k[i]? <;> simp
        rw [e]
        exact Int.mul_ediv_cancel' (hpk i)
      generalize k.map (fun x => x / (p : Int)) = k1 at hk
      subst hk
      have h3 := ih d hdc k1 hd0 (fun i => by
        have h2 := h i
        have e : (  Xp g (   Zu (p : Int) k1)).getD i 0 = (p : Int) * (  Xp g k1).getD i 0 := by
          rw [←         Z4]
          exact         X1 (fun x => by rw [        Z1,          Zn,          Zn,         Z1]; grind) i
        rw [e, hd, Int.natCast_mul] at h2
        exact Int.dvd_of_mul_dvd_mul_left (by omega) h2)
      intro i
      rw [        Z4, hd, Int.natCast_mul]
      exact Int.mul_dvd_mul_left _ (h3 i)
def syn:List Int→Int→List Int
 | [],_=>[]
 | _::p,a=>G8 p (Zu a (syn p a))
theorem Fu:∀ (p:List Int) (a x:Int),Zc p x-Zc p a=(x-a)*Zc (syn p a) x
 | [],a,x=>by simp[syn,Zc]
 | c::p,a,x=>by
  have ih:=Fu p a x
  simp only[syn,Zc]
  rw[Qi,Zn]
  grind
theorem M2:∀ (p:List Int) (a:Int),(syn p a).length≤p.length-1
 | [],a=>by simp[syn]
 | c::p,a=>by
  have ih:=M2 p a
  have:=Zg2 p (Zu a (syn p a))
  rw[Zy] at this
  simp only[syn,List.length_cons]
  omega
theorem P0 (p:List Int) (a:Int) (i:Nat):p.getD i 0=(Zc p a::syn p a).getD i 0-a*(syn p a).getD i 0:=by
 have h:=X1 (p:=p) (q:=Zgw (Zc p a::syn p a) (Zu a (syn p a))) (fun x=>by
  rw[Ug,Zn]
  simp only[Zc]
  have:=Fu p a x
  grind) i
 rw[h,Zcr,Z4]
theorem Za9:∀ (n:Nat) (p:List Int) (l:List Int),p.length≤n→l.Nodup→(∀ x∈l,Zc p x=0)→n≤l.length→∀ i,p.getD i 0=0:=by
 intro n
 induction n with
 | zero =>
  intro p l h _ _ _ i
  rw[List.eq_nil_of_length_eq_zero (by omega:p.length=0)];simp
 | succ n ih =>
  intro p l h1 h2 h3 h4 i
  cases l with
  | nil=>simp at h4
  | cons a l =>
   have ha:=h3 a List.mem_cons_self
   have hq:=ih (syn p a) l (by have:=M2 p a;omega) (List.nodup_cons.1 h2).2 (fun x hx=>by
    have h5:=Fu p a x
    rw[ha,h3 x (List.mem_cons_of_mem _ hx)] at h5
    rcases Int.mul_eq_zero.1 (h5.symm.trans (by omega)) with g | g
    ·have hxa:x=a:=by omega
     subst hxa
     exact absurd hx (List.nodup_cons.1 h2).1
    ·exact g) (by simp at h4;omega)
   rw[P0 p a i,ha,hq i]
   cases i with
   | zero=>simp
   | succ i=>simpa using hq i
theorem Sl {R:Nat}:∀ (n:Nat) (g:List Int) (l:List Int) (M:Nat),g.length≤n+1→l.Nodup→l.length=n+1→(∀ x∈l,x.natAbs≤R∧(Zc g x).natAbs≤M)→(∀ x∈l,∀ y∈l,x ≠ y→1≤(x-y).natAbs)→∀ i,(g.getD i 0).natAbs≤M*(2*R+3)^n:=by
 intro n
 induction n with
 | zero =>
  intro g l M h1 h2 h3 h4 _ i
  cases l with
  | nil=>simp at h3
  | cons a l =>
   have ha:=h4 a List.mem_cons_self
   cases g with
   | nil=>simp
   | cons c g =>
    have:g=[]:=by simpa using h1
    subst this
    simp only[Zc,Int.mul_zero,Int.add_zero] at ha
    rw[Nat.pow_zero,Nat.mul_one]
    cases i with
    | zero=>simpa using ha.2
    | succ i=>simp
 | succ n ih =>
  intro g l M h1 h2 h3 h4 h6 i
  cases l with
  | nil=>simp at h3
  | cons a l =>
   obtain⟨ha1,ha2⟩:=h4 a List.mem_cons_self
   have hq:=ih (syn g a) l (2*M) (by have:=M2 g a;omega) (List.nodup_cons.1 h2).2 (by simpa using h3) (fun x hx=>by
    obtain⟨hx1,hx2⟩:=h4 x (List.mem_cons_of_mem _ hx)
    refine⟨hx1,?_⟩
    have h5:=congrArg Int.natAbs (Fu g a x)
    rw[Int.natAbs_mul] at h5
    have hne:x ≠ a:=by intro e;subst e;exact absurd hx (List.nodup_cons.1 h2).1
    have h7:1≤(x-a).natAbs:=by omega
    have h8:=Nat.le_mul_of_pos_left (Zc (syn g a) x).natAbs h7
    have h9:(Zc g x-Zc g a).natAbs≤2*M:=by omega
    omega) (fun x hx y hy=>h6 x (List.mem_cons_of_mem _ hx) y (List.mem_cons_of_mem _ hy))
   rw[P0 g a i]
   have hX:1≤(2*R+3)^n:=Nat.pow_pos (by omega)
   have e1:M*(2*R+3)^(n+1)=R*(2*M*(2*R+3)^n)+2*M*(2*R+3)^n+M*(2*R+3)^n:=by rw[Nat.pow_succ];grind
   have e2:M*1≤M*(2*R+3)^n:=Nat.mul_le_mul_left _ hX
   have b1:=hq i
   have b2:(a*(syn g a).getD i 0).natAbs≤R*(2*M*(2*R+3)^n):=by rw[Int.natAbs_mul];exact Nat.mul_le_mul ha1 b1
   have b3:((Zc g a::syn g a).getD i 0).natAbs≤2*M*(2*R+3)^n+M*(2*R+3)^n:=by
    cases i with
    | zero=>simp only[List.getD_cons_zero];omega
    | succ i=>have:=hq i;simp only[List.getD_cons_succ];omega
   rw[e1]
   generalize R*(2*M*(2*R+3)^n)=A at *
   generalize 2*M*(2*R+3)^n=B at *
   generalize M*(2*R+3)^n=C at *
   omega
theorem Re {R B:Nat}:∀ (t:List Int) (x:Int),(∀ i,(t.getD i 0).natAbs≤B)→x.natAbs≤R→(Zc t x).natAbs≤B*(R+1)^t.length
 | [],x,_,_=>by simp[Zc]
 | c::t,x,h,hx=>by
  have ih:=Re t x (fun i=>by simpa using h (i+1)) hx
  have h0:c.natAbs≤B:=by simpa using h 0
  simp only[Zc,List.length_cons]
  have h1:(x*Zc t x).natAbs≤R*(B*(R+1)^t.length):=by rw[Int.natAbs_mul];exact Nat.mul_le_mul hx ih
  have h2:B*1≤B*(R+1)^t.length:=Nat.mul_le_mul_left _ (Nat.pow_pos (by omega))
  have e:B*(R+1)^(t.length+1)=R*(B*(R+1)^t.length)+B*(R+1)^t.length:=by rw[Nat.pow_succ];grind
  rw[e]
  generalize R*(B*(R+1)^t.length)=X at *
  omega
theorem Zg3 {t:List Int} {n:Nat} (ht:Zh t ≠ []) (hl:t.length≤n+1):∃ l:List Int,l.Nodup∧l.length=n+1∧∀ x∈l,x.natAbs≤2*n∧Zc t x ≠ 0:=by
 have hnd:((List.range (2*n+1)).map fun i:Nat=>(i:Int)).Nodup:=by
  rw[List.nodup_iff_pairwise_ne,List.pairwise_map]
  exact (List.nodup_iff_pairwise_ne.1 List.nodup_range).imp (fun h=>by omega)
 have hmem:∀ x∈(List.range (2*n+1)).map fun i:Nat=>(i:Int),x.natAbs≤2*n:=by
  intro x hx
  obtain⟨i,hi,rfl⟩:=List.mem_map.1 hx
  have:=List.mem_range.1 hi
  omega
 have hlen:((List.range (2*n+1)).map fun i:Nat=>(i:Int)).length=2*n+1:=by simp
 generalize ((List.range (2*n+1)).map fun i:Nat=>(i:Int))=L at *
 have hsum:=List.length_eq_countP_add_countP (fun x=>decide (Zc t x=0)) (l:=L)
 rw[List.countP_eq_length_filter,List.countP_eq_length_filter] at hsum
 have hA:(L.filter fun x=>decide (Zc t x=0)).length≤n:=by
  apply Nat.le_of_not_lt
  intro h
  apply ht
  rw[J4]
  exact Za9 (n+1) t (L.filter fun x=>decide (Zc t x=0)) hl (hnd.filter _) (fun x hx=>by simpa using (List.mem_filter.1 hx).2) (by omega)
 refine⟨(L.filter fun x=>decide ¬ (decide (Zc t x=0))=true).take (n+1),(hnd.filter _).sublist (List.take_sublist _ _),?_,?_⟩
 ·rw[List.length_take];omega
 ·intro x hx
  obtain⟨h1,h2⟩:=List.mem_filter.1 (List.mem_of_mem_take hx)
  exact⟨hmem x h1,by simpa using h2⟩
theorem Eq {t g k:List Int} {K:Nat} (ht:Zh t ≠ []) (hl:t.length≤9) (hg:g.length≤9) (hK:Kb K t) (h:∀ x,Zc t x=Zc g x*Zc k x):Kb (K+3) g:=by
 obtain⟨l,l1,l2,l3⟩:=Zg3 (n:=8) ht hl
 have hb:∀ i,(t.getD i 0).natAbs≤4294967296^K:=fun i=>Nat.le_of_lt (hK i)
 have h1:=Sl (R:=16) 8 g l (4294967296^K*17^9) hg l1 l2 (fun x hx=>by
  obtain⟨a,b⟩:=l3 x hx
  refine⟨a,?_⟩
  have h2:=Re (R:=16) t x hb a
  have h3:=congrArg Int.natAbs (h x)
  rw[Int.natAbs_mul] at h3
  have h4:1≤(Zc k x).natAbs:=by
   rcases Nat.eq_zero_or_pos (Zc k x).natAbs with g | g
   ·rw[g,Nat.mul_zero] at h3;omega
   ·exact g
  have h5:=Nat.le_mul_of_pos_right (Zc g x).natAbs h4
  have h6:4294967296^K*17^t.length≤4294967296^K*17^9:=Nat.mul_le_mul_left _ (Nat.pow_le_pow_right (by decide) hl)
  exact Nat.le_trans (Nat.le_trans h5 (Nat.le_of_eq h3.symm)) (Nat.le_trans h2 h6)) (fun x _ y _ hne=>by omega)
 intro i
 have h2:=h1 i
 unfold Je
 refine Nat.lt_of_le_of_lt h2 ?_
 rw[Nat.mul_assoc,Nat.pow_add]
 exact Nat.mul_lt_mul_of_pos_left (by decide) (Nat.pow_pos (by decide))
theorem Ta {t g k:List Int} {c:Int} (hc:c ≠ 0) (hg:Q9 g=1) (h:∀ x,c*Zc t x=Zc g x*Zc k x):∃ k',∀ x,Zc t x=Zc g x*Zc k' x:=by
 have h1:=X1 (p:=Xp g k) (q:=Zu c t) (fun x=>by rw[Z1,Zn];exact (h x).symm)
 have h2:=gauss hg c.natAbs k (by omega) (fun i=>by rw[h1,Z4];exact Int.dvd_trans (Int.natAbs_dvd.2 (Int.dvd_refl _)) (Int.dvd_mul_right _ _))
 have hk:Zu c (k.map fun x=>x / c)=k:=by
  apply Kc (by simp[Zu])
  intro i
  rw[Z4]
  have e:(k.map fun x=>x / c).getD i 0=k.getD i 0 / c:=by
   simp only[List.getD_eq_getElem?_getD,List.getElem?_map]
   cases k[i]? <;> simp
  rw[e]
  exact Int.mul_ediv_cancel' (Int.natAbs_dvd.1 (h2 i))
 refine⟨k.map fun x=>x / c,fun x => ?_⟩
 have h3:=h x
 rw[← hk,Zn] at h3
 apply Int.eq_of_mul_eq_mul_left hc
 rw[h3];grind
theorem D9 {t g k:List Int} {c:Int} {K:Nat} (hc:c ≠ 0) (hg:Q9 g=1) (ht:Zh t ≠ []) (hl:t.length≤9) (hgl:g.length≤9) (hK:Kb K t) (h:∀ x,c*Zc t x=Zc g x*Zc k x):Kb (K+3) g:=by
 obtain⟨k',hk⟩:=Ta hc hg h
 exact Eq ht hl hgl hK hk
end Go.Ai
