/- Texts of the proof of SturmChains, packed by pack.py: part 13 of 19. -/
import Derived.Test.YthnnfemologhfaaGreatSch12
namespace Go.Proofs.YthnnfemologhfaaGreat
open Go.IntKind (i64 u64 u32)
open Go.Ai
set_option maxRecDepth 100000
theorem Yrun75 (na nb:Bool) (xs ys qs rs:List Int) (v w:Int) (n1:Ze Yir 57 [.sl xs.length (lm xs)] (.fresh 1 ((Zd xs).length) (lm (Zd xs)))) (n2:Ze Yir 57 [.sl ys.length (lm ys)] (.fresh 1 ((Zd ys).length) (lm (Zd ys)))) (n3:Ze Yir 93 [.sl ((Zd xs).length) (lm (Zd xs)), .sl ((Zd ys).length) (lm (Zd ys))] (.tup [.sl qs.length (lm qs), .sl rs.length (lm rs)])) (n4:Ze Yir 31 [.bool (!(na==nb)), .sl qs.length (lm qs)] (U9 v)) (n5:Ze Yir 31 [.bool na, .sl rs.length (lm rs)] (U9 w)):Ze Yir 75 [.agg [.bool na, .sl xs.length (lm xs)], .agg [.bool nb, .sl ys.length (lm ys)]] (.tup [Zn v,Zn w]):=Ze.go (fn:=Yi75) Zc rfl 400 rfl [.r (.fresh 1 ((Zd xs).length) (lm (Zd xs))), .r (.fresh 1 ((Zd ys).length) (lm (Zd ys))), .r (.tup [.sl qs.length (lm qs), .sl rs.length (lm rs)]), .r (U9 v), .r (U9 w)] (ac n1 (ac n2 (ac n3 (ac n4 (ac n5 a0)))))
def M5 (x:Rn) (y:Rn):Zk:=(dds 4 (.box [.bool false, .sl 0 []]::(.box [.bool x.1, .sl x.2.length (lm x.2)]::(.box [.bool y.1, .sl y.2.length (lm y.2)]::(dds 20 [])))))
theorem Zog (x:Rn) (y:Rn) (q r:Int) (c1:((X2 (Zl y)) != 0)=true) (n1:Ze Yir 50 [Zt y] (.int .i64 (X2 (Zl y)))) (n2:Ze Yir 75 [Zt x,Zt y] (.tup [Zn q,Zn r])):Za Yir Zfk (M5 x y) .norm (M5 y (cn r)):=(Za.go Zc 400 [.r (.int .i64 (X2 (Zl y))), .b true, .r (.tup [Zn q,Zn r])] [4,5,6] (ac n1 (ac c1 (ac n2 a0))))
theorem Zfa (x:Rn) (y:Rn)  (c1:((X2 (Zl y)) != 0)=false) (n1:Ze Yir 50 [Zt y] (.int .i64 (X2 (Zl y)))):Za Yir Zfk (M5 x y) (.exit 0) (M5 x y):=(Za.go Zc 400 [.r (.int .i64 (X2 (Zl y))), .b false] [4,5,6] (ac n1 (ac c1 a0)))
theorem Yrun92 (na nb:Bool) (xs ys:List Int) (va vb:Int) (x y:Rn) (n1:Ze Yir 31 [.bool false, .sl xs.length (lm xs)] (U9 va)) (n2:Ze Yir 31 [.bool false, .sl ys.length (lm ys)] (U9 vb)) (hl3:Za Yir (.loop Zfk) (M5 (cn va) (cn vb)) (.exit 0) (M5 x y)):Ze Yir 92 [.agg [.bool na, .sl xs.length (lm xs)], .agg [.bool nb, .sl ys.length (lm ys)]] (Zt x):=Ze.of_bodyW (fn:=Yi92) (s:=(dds 4 (.box [.bool x.1, .sl x.2.length (lm x.2)]::(dds 22 [])))) (ex := .ret) rfl rfl (Za.seq (Za.go (t:=(.val (.agg [.bool na, .sl xs.length (lm xs)])::(.val (.agg [.bool nb, .sl ys.length (lm ys)])::(.box [.bool na, .sl xs.length (lm xs)]::(.box [.bool nb, .sl ys.length (lm ys)]::(.box [.bool false, .sl 0 []]::(dds 22 []))))))) Zc 400 [] [0,1,2,3,4] a0) (Za.seq (Za.go Zc 400 [.r (U9 va), .r (U9 vb)] [4,5,6] (ac n1 (ac n2 a0))) (Za.seq (Za.block hl3) (Za.go Zc 400 [] [4] a0)))) (by intro i e;cases e) rfl
def Zlo (rs:List Rn) (w:Rn) (i:Int):Zk:=(.val (.sl rs.length (pc rs))::(dds 1 (.box [.bool false, .sl 0 []]::(.box [.bool w.1, .sl w.2.length (lm w.2)]::(.val (.int .i64 i)::(dds 14 []))))))
theorem Yk74_1 (rs:List Rn) (w:Rn) (i:Int) (g:Int) (c1:(decide (i<(rs.length:Int)))=true) (n1:0≤i∧i<(rs.length:Int)) (n2:Ze Yir 92 [Zt w,Zt (rs.getD (Int.toNat i) z0)] (Zn g)):Za Yir Yc74 (Zlo rs w i) .norm (Zlo rs (cn g) (i64.wrap (i+1))):=(Za.go Zc 400 [.b true, .v (Zt (rs.getD (Int.toNat i) z0)), .r (Zn g)] [0,2,3,4] (ac c1 (ac n1 (ac (Qh n1) (ac n2 a0)))))
theorem Yk74_2 (rs:List Rn) (w:Rn) (i:Int)  (c1:(decide (i<(rs.length:Int)))=false):Za Yir Yc74 (Zlo rs w i) (.exit 0) (Zlo rs w i):=(Za.go Zc 400 [.b false] [0,2,3,4] (ac c1 a0))
theorem Yrun74 (rs:List Rn) (w:Rn) (i:Int) (hl1:Za Yir (.loop Yc74) (Zlo rs (false,[]) 0) (.exit 0) (Zlo rs w i)):Ze Yir 74 [.sl rs.length (pc rs)] (Zt w):=Ze.of_bodyW (fn:=Yi74) (s:=(dds 2 (.box [.bool w.1, .sl w.2.length (lm w.2)]::(dds 16 [])))) (ex := .ret) rfl rfl (Za.seq (Za.go (t:=(vp rs::(dds 1 (.box [.bool false, .sl 0 []]::(dds 16 []))))) Zc 400 [] [0,2] a0) (Za.seq (Za.go (t:=(vp rs::(dds 1 (.box [.bool false, .sl 0 []]::(.box [.bool false, .sl 0 []]::(dds 15 [])))))) Zc 400 [] [0,2,3] a0) (Za.seq (Za.seq (Za.go Zc 400 [] [0,2,3,4] a0) (Za.block hl1)) (Za.go Zc 400 [] [2] a0)))) (by intro i e;cases e) rfl
def Zlx (rs:List Rn) (c:Rn) (k:Nat) (cs:List AV) (i:Int):Zk:=(.val (.sl rs.length (pc rs))::(dds 1 (.own 2 0 []::(.box [.bool c.1, .sl c.2.length (lm c.2)]::(.own 2 k cs::(.val (.int .i64 i)::(dds 28 [])))))))
theorem Yk40_1 (rs:List Rn) (c:Rn) (k:Nat) (cs:List AV) (i:Int) (q r:Int) (c1:(decide (i<(rs.length:Int)))=true) (n1:0≤i∧i<(rs.length:Int)) (n2:k+1≤1048576) (n3:Ze Yir 75 [Zt (rs.getD (Int.toNat i) z0),Zt c] (.tup [Zn q,Zn r])):Za Yir Yc40 (Zlx rs c k cs i) .norm (Zlx rs c (k+1) (cs++([.bool (decide (q<0)), .sl ((Zb (Int.natAbs q)).length) (lm (Zb (Int.natAbs q)))]:List AV)) (i64.wrap (i+1))):=(Za.go Zc 400 [.b true, .v (Zt (rs.getD (Int.toNat i) z0)), .r (.tup [Zn q,Zn r])] [0,2,3,4,5] (ac c1 (ac n1 (ac (Qh n1) (ac n3 (ac (show List.length ([.bool (decide (q<0)), .sl ((Zb (Int.natAbs q)).length) (lm (Zb (Int.natAbs q)))]:List AV)=1*2 from rfl) (ac n2 a0)))))))
theorem Yk40_2 (rs:List Rn) (c:Rn) (k:Nat) (cs:List AV) (i:Int)  (c1:(decide (i<(rs.length:Int)))=false):Za Yir Yc40 (Zlx rs c k cs i) (.exit 0) (Zlx rs c k cs i):=(Za.go Zc 400 [.b false] [0,2,3,4,5] (ac c1 a0))
theorem Zi1 (rs:List Rn) (c:Int) (c1:((X2 c)==0)=true) (n1:Ze Yir 74 [.sl rs.length (pc rs)] (Zn c)) (n2:Ze Yir 50 [Zn c] (.int .i64 (X2 c))):Ze Yir 40 [.sl rs.length (pc rs)] (.fresh 2 0 []):=Ze.of_bodyW (fn:=Ztn) (s:=(dds 2 (.own 2 0 []::(dds 31 [])))) (ex := .ret) rfl rfl (Za.seq (Za.go (t:=(vp rs::(dds 1 (.own 2 0 []::(dds 31 []))))) Zc 400 [] [0,2] a0) (Za.seq (Za.go (t:=(vp rs::(dds 1 (.own 2 0 []::(bN c::(dds 30 [])))))) Zc 400 [.r (Zn c)] [0,2,3] (ac n1 a0)) (Za.seq_out (Za.go Zc 400 [.r (.int .i64 (X2 c)), .b true] [2] (ac n2 (ac c1 a0))) (by intro e;cases e)))) (by intro i e;cases e) rfl
theorem Zi0 (rs os ts:List Rn) (c i:Int) (k:Nat) (c1:((X2 c)==0)=false) (n1:Ze Yir 74 [.sl rs.length (pc rs)] (Zn c)) (n2:Ze Yir 50 [Zn c] (.int .i64 (X2 c))) (hl3:Za Yir (.loop Yc40) (Zlx rs (cn c) 0 ([]:List AV) 0) (.exit 0) (Zlx rs (cn c) k (pc os) i)) (n4:Ze Yir 25 [.sl k (pc os)] (.fresh 2 ts.length (pc ts))):Ze Yir 40 [.sl rs.length (pc rs)] (.fresh 2 ts.length (pc ts)):=Ze.of_bodyW (fn:=Ztn) (s:=(dds 2 (.own 2 ts.length (pc ts)::(dds 31 [])))) (ex := .ret) rfl rfl (Za.seq (Za.go (t:=(vp rs::(dds 1 (.own 2 0 []::(dds 31 []))))) Zc 400 [] [0,2] a0) (Za.seq (Za.go (t:=(vp rs::(dds 1 (.own 2 0 []::(bN c::(dds 30 [])))))) Zc 400 [.r (Zn c)] [0,2,3] (ac n1 a0)) (Za.seq (Za.go (t:=(vp rs::(dds 1 (.own 2 0 []::(bN c::(dds 30 [])))))) Zc 400 [.r (.int .i64 (X2 c)), .b false] [0,2,3] (ac n2 (ac c1 a0))) (Za.seq (Za.go (t:=(vp rs::(dds 1 (.own 2 0 []::(bN c::(.own 2 0 []::(dds 29 []))))))) Zc 400 [] [0,2,3,4] a0) (Za.seq (Za.seq (Za.go Zc 400 [] [0,2,3,4,5] a0) (Za.block hl3)) (Za.go Zc 400 [.r (.fresh 2 ts.length (pc ts))] [2] (ac n4 a0))))))) (by intro i e;cases e) rfl
def Zlw (rs:List Rn) (k:Nat) (cs:List AV) (i:Int):Zk:=(.val (.sl rs.length (pc rs))::(dds 1 (.own 2 0 []::(.own 2 k cs::(.val (.int .i64 i)::(dds 18 []))))))
theorem Yk41_1 (rs:List Rn) (k:Nat) (cs:List AV) (i:Int)  (c1:(decide (i<(rs.length:Int)))=true) (n1:0≤i∧i<(rs.length:Int)) (n2:k+1≤1048576) (n3:Ze Yir 17 [.int .i64 i] (Zn i)) (n4:Ze Yir 76 [Zn i,Zt (rs.getD (Int.toNat i) z0)] (Zn (i*(Zl (rs.getD (Int.toNat i) z0))))):Za Yir Yc41 (Zlw rs k cs i) .norm (Zlw rs (k+1) (cs++([.bool (decide ((i*(Zl (rs.getD (Int.toNat i) z0)))<0)), .sl ((Zb (Int.natAbs (i*(Zl (rs.getD (Int.toNat i) z0))))).length) (lm (Zb (Int.natAbs (i*(Zl (rs.getD (Int.toNat i) z0))))))]:List AV)) (i64.wrap (i+1))):=(Za.go Zc 400 [.b true, .r (Zn i), .v (Zt (rs.getD (Int.toNat i) z0)), .r (Zn (i*(Zl (rs.getD (Int.toNat i) z0))))] [0,2,3,4] (ac c1 (ac n3 (ac n1 (ac (Qh n1) (ac n4 (ac (show List.length ([.bool (decide ((i*(Zl (rs.getD (Int.toNat i) z0)))<0)), .sl ((Zb (Int.natAbs (i*(Zl (rs.getD (Int.toNat i) z0))))).length) (lm (Zb (Int.natAbs (i*(Zl (rs.getD (Int.toNat i) z0))))))]:List AV)=1*2 from rfl) (ac n2 a0))))))))
theorem Yk41_2 (rs:List Rn) (k:Nat) (cs:List AV) (i:Int)  (c1:(decide (i<(rs.length:Int)))=false):Za Yir Yc41 (Zlw rs k cs i) (.exit 0) (Zlw rs k cs i):=(Za.go Zc 400 [.b false] [0,2,3,4] (ac c1 a0))
theorem Yrun41 (rs os ts:List Rn) (i:Int) (k:Nat) (hl1:Za Yir (.loop Yc41) (Zlw rs 0 ([]:List AV) 1) (.exit 0) (Zlw rs k (pc os) i)) (n2:Ze Yir 25 [.sl k (pc os)] (.fresh 2 ts.length (pc ts))):Ze Yir 41 [.sl rs.length (pc rs)] (.fresh 2 ts.length (pc ts)):=Ze.of_bodyW (fn:=Yi41) (s:=(dds 2 (.own 2 ts.length (pc ts)::(dds 20 [])))) (ex := .ret) rfl rfl (Za.seq (Za.go (t:=(vp rs::(dds 1 (.own 2 0 []::(dds 20 []))))) Zc 400 [] [0,2] a0) (Za.seq (Za.go (t:=(vp rs::(dds 1 (.own 2 0 []::(.own 2 0 []::(dds 19 [])))))) Zc 400 [] [0,2,3] a0) (Za.seq (Za.seq (Za.go Zc 400 [] [0,2,3,4] a0) (Za.block hl1)) (Za.go Zc 400 [.r (.fresh 2 ts.length (pc ts))] [2] (ac n2 a0))))) (by intro i e;cases e) rfl
def Zlv (rs:List Rn) (k:Nat) (cs:List AV) (i:Int):Zk:=(.val (.sl rs.length (pc rs))::(dds 1 (.own 2 0 []::(.own 2 k cs::(.val (.int .i64 i)::(dds 16 []))))))
theorem Yk42_1 (rs:List Rn) (k:Nat) (cs:List AV) (i:Int)  (c1:(decide (i<(rs.length:Int)))=true) (n1:0≤i∧i<(rs.length:Int)) (n2:k+1≤1048576) (n3:Ze Yir 77 [Zt (rs.getD (Int.toNat i) z0)] (Zn (-(Zl (rs.getD (Int.toNat i) z0))))):Za Yir Yc42 (Zlv rs k cs i) .norm (Zlv rs (k+1) (cs++([.bool (decide ((-(Zl (rs.getD (Int.toNat i) z0)))<0)), .sl ((Zb (Int.natAbs (-(Zl (rs.getD (Int.toNat i) z0))))).length) (lm (Zb (Int.natAbs (-(Zl (rs.getD (Int.toNat i) z0))))))]:List AV)) (i64.wrap (i+1))):=(Za.go Zc 400 [.b true, .v (Zt (rs.getD (Int.toNat i) z0)), .r (Zn (-(Zl (rs.getD (Int.toNat i) z0))))] [0,2,3,4] (ac c1 (ac n1 (ac (Qh n1) (ac n3 (ac (show List.length ([.bool (decide ((-(Zl (rs.getD (Int.toNat i) z0)))<0)), .sl ((Zb (Int.natAbs (-(Zl (rs.getD (Int.toNat i) z0))))).length) (lm (Zb (Int.natAbs (-(Zl (rs.getD (Int.toNat i) z0))))))]:List AV)=1*2 from rfl) (ac n2 a0)))))))
theorem Yk42_2 (rs:List Rn) (k:Nat) (cs:List AV) (i:Int)  (c1:(decide (i<(rs.length:Int)))=false):Za Yir Yc42 (Zlv rs k cs i) (.exit 0) (Zlv rs k cs i):=(Za.go Zc 400 [.b false] [0,2,3,4] (ac c1 a0))
theorem Yrun42 (rs os ts:List Rn) (i:Int) (k:Nat) (hl1:Za Yir (.loop Yc42) (Zlv rs 0 ([]:List AV) 0) (.exit 0) (Zlv rs k (pc os) i)) (n2:Ze Yir 25 [.sl k (pc os)] (.fresh 2 ts.length (pc ts))):Ze Yir 42 [.sl rs.length (pc rs)] (.fresh 2 ts.length (pc ts)):=Ze.of_bodyW (fn:=Yi42) (s:=(dds 2 (.own 2 ts.length (pc ts)::(dds 18 [])))) (ex := .ret) rfl rfl (Za.seq (Za.go (t:=(vp rs::(dds 1 (.own 2 0 []::(dds 18 []))))) Zc 400 [] [0,2] a0) (Za.seq (Za.go (t:=(vp rs::(dds 1 (.own 2 0 []::(.own 2 0 []::(dds 17 [])))))) Zc 400 [] [0,2,3] a0) (Za.seq (Za.seq (Za.go Zc 400 [] [0,2,3,4] a0) (Za.block hl1)) (Za.go Zc 400 [.r (.fresh 2 ts.length (pc ts))] [2] (ac n2 a0))))) (by intro i e;cases e) rfl
theorem Zif (rs ns:List Rn) (c1:(decide ((rs.length:Int)>0))=true) (c2:(decide ((X2 (Zl (rs.getD (Int.toNat (i64.wrap ((rs.length:Int)-1))) z0)))<0))=true) (n1:0≤(i64.wrap ((rs.length:Int)-1))∧(i64.wrap ((rs.length:Int)-1))<(rs.length:Int)) (n2:Ze Yir 50 [Zt (rs.getD (Int.toNat (i64.wrap ((rs.length:Int)-1))) z0)] (.int .i64 (X2 (Zl (rs.getD (Int.toNat (i64.wrap ((rs.length:Int)-1))) z0))))) (n3:Ze Yir 42 [.sl rs.length (pc rs)] (.fresh 2 ns.length (pc ns))):Ze Yir 71 [.sl rs.length (pc rs)] (.fresh 2 ns.length (pc ns)):=Ze.go (fn:=Zq7) Zc rfl 400 rfl [.b true, .v (Zt (rs.getD (Int.toNat (i64.wrap ((rs.length:Int)-1))) z0)), .r (.int .i64 (X2 (Zl (rs.getD (Int.toNat (i64.wrap ((rs.length:Int)-1))) z0)))), .b true, .r (.fresh 2 ns.length (pc ns))] (ac c1 (ac n1 (ac (Qh n1) (ac n2 (ac c2 (ac n3 a0))))))
theorem Zie (rs:List Rn) (c1:(decide ((rs.length:Int)>0))=true) (c2:(decide ((X2 (Zl (rs.getD (Int.toNat (i64.wrap ((rs.length:Int)-1))) z0)))<0))=false) (n1:0≤(i64.wrap ((rs.length:Int)-1))∧(i64.wrap ((rs.length:Int)-1))<(rs.length:Int)) (n2:Ze Yir 50 [Zt (rs.getD (Int.toNat (i64.wrap ((rs.length:Int)-1))) z0)] (.int .i64 (X2 (Zl (rs.getD (Int.toNat (i64.wrap ((rs.length:Int)-1))) z0))))):Ze Yir 71 [.sl rs.length (pc rs)] (.sl rs.length (pc rs)):=Ze.go (fn:=Zq7) Zc rfl 400 rfl [.b true, .v (Zt (rs.getD (Int.toNat (i64.wrap ((rs.length:Int)-1))) z0)), .r (.int .i64 (X2 (Zl (rs.getD (Int.toNat (i64.wrap ((rs.length:Int)-1))) z0)))), .b false] (ac c1 (ac n1 (ac (Qh n1) (ac n2 (ac c2 a0)))))
theorem Zid (rs:List Rn) (c1:(decide ((rs.length:Int)>0))=false):Ze Yir 71 [.sl rs.length (pc rs)] (.sl rs.length (pc rs)):=Ze.go (fn:=Zq7) Zc rfl 400 rfl [.b false, .b false] (ac c1 (ac (show false=false from rfl) a0))
def H4 (rs:List Rn) (ds:List Rn) (t:Rn) (u:Rn) (q:Int) (k:Nat) (cs:List AV) (i:Int):Zk:=(dds 4 (.own 2 0 []::(.val (.sl rs.length (pc rs))::(.val (.sl ds.length (pc ds))::(.box [.bool t.1, .sl t.2.length (lm t.2)]::(.box [.bool u.1, .sl u.2.length (lm u.2)]::(.val (.int .i64 q)::(.own 2 k cs::(.val (.int .i64 i)::(dds 68 []))))))))))
theorem Zpl (rs:List Rn) (ds:List Rn) (t:Rn) (u:Rn) (q:Int) (k:Nat) (cs:List AV) (i:Int)  (c1:(decide (i<(i64.wrap ((rs.length:Int)-1))))=true) (c2:(decide (i≥q))=true) (n1:0≤i∧i<(rs.length:Int)) (n2:0≤(i64.wrap (i-q))∧(i64.wrap (i-q))<(ds.length:Int)) (n3:k+1≤1048576) (n4:Ze Yir 76 [.agg [.bool false, .sl t.2.length (lm t.2)],Zt (rs.getD (Int.toNat i) z0)] (Zn ((Zl (false,t.2))*(Zl (rs.getD (Int.toNat i) z0))))) (n5:Ze Yir 76 [Zt u,Zt (ds.getD (Int.toNat (i64.wrap (i-q))) z0)] (Zn ((Zl u)*(Zl (ds.getD (Int.toNat (i64.wrap (i-q))) z0))))) (n6:Ze Yir 78 [Zn ((Zl (false,t.2))*(Zl (rs.getD (Int.toNat i) z0))),Zn ((Zl u)*(Zl (ds.getD (Int.toNat (i64.wrap (i-q))) z0)))] (Zn (((Zl (false,t.2))*(Zl (rs.getD (Int.toNat i) z0)))-((Zl u)*(Zl (ds.getD (Int.toNat (i64.wrap (i-q))) z0)))))):Za Yir Lc (H4 rs ds t u q k cs i) .norm (H4 rs ds t u q (k+1) (cs++([.bool (decide ((((Zl (false,t.2))*(Zl (rs.getD (Int.toNat i) z0)))-((Zl u)*(Zl (ds.getD (Int.toNat (i64.wrap (i-q))) z0))))<0)), .sl ((Zb (Int.natAbs (((Zl (false,t.2))*(Zl (rs.getD (Int.toNat i) z0)))-((Zl u)*(Zl (ds.getD (Int.toNat (i64.wrap (i-q))) z0)))))).length) (lm (Zb (Int.natAbs (((Zl (false,t.2))*(Zl (rs.getD (Int.toNat i) z0)))-((Zl u)*(Zl (ds.getD (Int.toNat (i64.wrap (i-q))) z0)))))))]:List AV)) (i64.wrap (i+1))):=(Za.go Zc 400 [.b true, .v (Zt (rs.getD (Int.toNat i) z0)), .r (Zn ((Zl (false,t.2))*(Zl (rs.getD (Int.toNat i) z0)))), .b true, .v (Zt (ds.getD (Int.toNat (i64.wrap (i-q))) z0)), .r (Zn ((Zl u)*(Zl (ds.getD (Int.toNat (i64.wrap (i-q))) z0)))), .r (Zn (((Zl (false,t.2))*(Zl (rs.getD (Int.toNat i) z0)))-((Zl u)*(Zl (ds.getD (Int.toNat (i64.wrap (i-q))) z0)))))] [4,5,6,7,8,9,10,11] (ac c1 (ac n1 (ac (Qh n1) (ac n4 (ac c2 (ac n2 (ac (Qh n2) (ac n5 (ac n6 (ac (show List.length ([.bool (decide ((((Zl (false,t.2))*(Zl (rs.getD (Int.toNat i) z0)))-((Zl u)*(Zl (ds.getD (Int.toNat (i64.wrap (i-q))) z0))))<0)), .sl ((Zb (Int.natAbs (((Zl (false,t.2))*(Zl (rs.getD (Int.toNat i) z0)))-((Zl u)*(Zl (ds.getD (Int.toNat (i64.wrap (i-q))) z0)))))).length) (lm (Zb (Int.natAbs (((Zl (false,t.2))*(Zl (rs.getD (Int.toNat i) z0)))-((Zl u)*(Zl (ds.getD (Int.toNat (i64.wrap (i-q))) z0)))))))]:List AV)=1*2 from rfl) (ac n3 a0))))))))))))
theorem Zpk (rs:List Rn) (ds:List Rn) (t:Rn) (u:Rn) (q:Int) (k:Nat) (cs:List AV) (i:Int)  (c1:(decide (i<(i64.wrap ((rs.length:Int)-1))))=true) (c2:(decide (i≥q))=false) (n1:0≤i∧i<(rs.length:Int)) (n2:k+1≤1048576) (n3:Ze Yir 76 [.agg [.bool false, .sl t.2.length (lm t.2)],Zt (rs.getD (Int.toNat i) z0)] (Zn ((Zl (false,t.2))*(Zl (rs.getD (Int.toNat i) z0))))):Za Yir Lc (H4 rs ds t u q k cs i) .norm (H4 rs ds t u q (k+1) (cs++([.bool (decide (((Zl (false,t.2))*(Zl (rs.getD (Int.toNat i) z0)))<0)), .sl ((Zb (Int.natAbs ((Zl (false,t.2))*(Zl (rs.getD (Int.toNat i) z0))))).length) (lm (Zb (Int.natAbs ((Zl (false,t.2))*(Zl (rs.getD (Int.toNat i) z0))))))]:List AV)) (i64.wrap (i+1))):=(Za.go Zc 400 [.b true, .v (Zt (rs.getD (Int.toNat i) z0)), .r (Zn ((Zl (false,t.2))*(Zl (rs.getD (Int.toNat i) z0)))), .b false] [4,5,6,7,8,9,10,11] (ac c1 (ac n1 (ac (Qh n1) (ac n3 (ac c2 (ac (show List.length ([.bool (decide (((Zl (false,t.2))*(Zl (rs.getD (Int.toNat i) z0)))<0)), .sl ((Zb (Int.natAbs ((Zl (false,t.2))*(Zl (rs.getD (Int.toNat i) z0))))).length) (lm (Zb (Int.natAbs ((Zl (false,t.2))*(Zl (rs.getD (Int.toNat i) z0))))))]:List AV)=1*2 from rfl) (ac n2 a0))))))))
theorem Zpj (rs:List Rn) (ds:List Rn) (t:Rn) (u:Rn) (q:Int) (k:Nat) (cs:List AV) (i:Int)  (c1:(decide (i<(i64.wrap ((rs.length:Int)-1))))=false):Za Yir Lc (H4 rs ds t u q k cs i) (.exit 2) (H4 rs ds t u q k cs i):=(Za.go Zc 400 [.b false] [4,5,6,7,8,9,10,11] (ac c1 a0))
def Zbm (rs:List Rn) (ds:List Rn) (t:Rn):Zk:=(dds 4 (.own 2 0 []::(.val (.sl rs.length (pc rs))::(.val (.sl ds.length (pc ds))::(.box [.bool t.1, .sl t.2.length (lm t.2)]::(dds 72 []))))))
theorem Yk43_1 (rs:List Rn) (ds:List Rn) (t:Rn) (os ts xs:List Rn) (k:Nat) (i:Int) (c1:(decide ((rs.length:Int)≥(ds.length:Int)))=true) (c2:(decide ((X2 (Zl t))<0))=true) (n1:0≤(i64.wrap ((rs.length:Int)-1))∧(i64.wrap ((rs.length:Int)-1))<(rs.length:Int)) (n2:Ze Yir 50 [Zt t] (.int .i64 (X2 (Zl t)))) (n3:Ze Yir 77 [Zt (rs.getD (Int.toNat (i64.wrap ((rs.length:Int)-1))) z0)] (Zn (-(Zl (rs.getD (Int.toNat (i64.wrap ((rs.length:Int)-1))) z0))))) (hl4:Za Yir (.loop Lc) (H4 rs ds t (cn (-(Zl (rs.getD (Int.toNat (i64.wrap ((rs.length:Int)-1))) z0)))) (i64.wrap ((rs.length:Int)-(ds.length:Int))) 0 ([]:List AV) 0) (.exit 2) (H4 rs ds t (cn (-(Zl (rs.getD (Int.toNat (i64.wrap ((rs.length:Int)-1))) z0)))) (i64.wrap ((rs.length:Int)-(ds.length:Int))) k (pc os) i)) (n5:Ze Yir 25 [.sl k (pc os)] (.fresh 2 ts.length (pc ts))) (n6:Ze Yir 40 [.sl ts.length (pc ts)] (.fresh 2 xs.length (pc xs))):Za Yir Zs4 (Zbm rs ds t) .norm (Zbm xs ds t):=(Za.seq (Za.go (t:=(dds 4 (.own 2 0 []::(vp rs::(vp ds::(bR t::(dds 17 (vp ds::(dds 54 []))))))))) Zc 400 [.b true] [4,5,6,7,25] (ac c1 a0)) (Za.block_norm (Za.seq (Za.go (t:=(dds 4 (.own 2 0 []::(vp rs::(vp ds::(bR t::(bR (rs.getD (Int.toNat (i64.wrap ((rs.length:Int)-1))) z0)::(dds 16 (vp ds::(dds 54 [])))))))))) Zc 400 [.v (Zt (rs.getD (Int.toNat (i64.wrap ((rs.length:Int)-1))) z0))] [4,5,6,7,8,25] (ac n1 (ac (Qh n1) a0))) (Za.seq (Za.go (t:=(dds 4 (.own 2 0 []::(vp rs::(vp ds::(bR t::(bN (-(Zl (rs.getD (Int.toNat (i64.wrap ((rs.length:Int)-1))) z0)))::(dds 16 (vp ds::(dds 54 [])))))))))) Zc 400 [.r (.int .i64 (X2 (Zl t))), .b true, .r (Zn (-(Zl (rs.getD (Int.toNat (i64.wrap ((rs.length:Int)-1))) z0))))] [4,5,6,7,8,25] (ac n2 (ac c2 (ac n3 a0)))) (Za.seq (Za.go (t:=(dds 4 (.own 2 0 []::(vp rs::(vp ds::(bR t::(bN (-(Zl (rs.getD (Int.toNat (i64.wrap ((rs.length:Int)-1))) z0)))::(vi (i64.wrap ((rs.length:Int)-(ds.length:Int)))::(dds 15 (vp ds::(dds 14 (vi (rs.length:Int)::(dds 39 []))))))))))))) Zc 400 [] [4,5,6,7,8,9,25,40] a0) (Za.seq (Za.go (t:=(dds 4 (.own 2 0 []::(vp rs::(vp ds::(bR t::(bN (-(Zl (rs.getD (Int.toNat (i64.wrap ((rs.length:Int)-1))) z0)))::(vi (i64.wrap ((rs.length:Int)-(ds.length:Int)))::(.own 2 0 []::(dds 14 (vp ds::(dds 14 (vi (rs.length:Int)::(dds 39 [])))))))))))))) Zc 400 [] [4,5,6,7,8,9,10,25,40] a0) (Za.seq (Za.seq (Za.go Zc 400 [] [4,5,6,7,8,9,10,11] a0) (Za.block hl4)) (Za.go Zc 400 [.r (.fresh 2 ts.length (pc ts)), .r (.fresh 2 xs.length (pc xs))] [4,5,6,7] (ac n5 (ac n6 a0))))))))))
theorem Yk43_2 (rs:List Rn) (ds:List Rn) (t:Rn) (os ts xs:List Rn) (k:Nat) (i:Int) (c1:(decide ((rs.length:Int)≥(ds.length:Int)))=true) (c2:(decide ((X2 (Zl t))<0))=false) (n1:0≤(i64.wrap ((rs.length:Int)-1))∧(i64.wrap ((rs.length:Int)-1))<(rs.length:Int)) (n2:Ze Yir 50 [Zt t] (.int .i64 (X2 (Zl t)))) (hl3:Za Yir (.loop Lc) (H4 rs ds t (rs.getD (Int.toNat (i64.wrap ((rs.length:Int)-1))) z0) (i64.wrap ((rs.length:Int)-(ds.length:Int))) 0 ([]:List AV) 0) (.exit 2) (H4 rs ds t (rs.getD (Int.toNat (i64.wrap ((rs.length:Int)-1))) z0) (i64.wrap ((rs.length:Int)-(ds.length:Int))) k (pc os) i)) (n4:Ze Yir 25 [.sl k (pc os)] (.fresh 2 ts.length (pc ts))) (n5:Ze Yir 40 [.sl ts.length (pc ts)] (.fresh 2 xs.length (pc xs))):Za Yir Zs4 (Zbm rs ds t) .norm (Zbm xs ds t):=(Za.seq (Za.go (t:=(dds 4 (.own 2 0 []::(vp rs::(vp ds::(bR t::(dds 17 (vp ds::(dds 54 []))))))))) Zc 400 [.b true] [4,5,6,7,25] (ac c1 a0)) (Za.block_norm (Za.seq (Za.go (t:=(dds 4 (.own 2 0 []::(vp rs::(vp ds::(bR t::(bR (rs.getD (Int.toNat (i64.wrap ((rs.length:Int)-1))) z0)::(dds 16 (vp ds::(dds 54 [])))))))))) Zc 400 [.v (Zt (rs.getD (Int.toNat (i64.wrap ((rs.length:Int)-1))) z0))] [4,5,6,7,8,25] (ac n1 (ac (Qh n1) a0))) (Za.seq (Za.go (t:=(dds 4 (.own 2 0 []::(vp rs::(vp ds::(bR t::(bR (rs.getD (Int.toNat (i64.wrap ((rs.length:Int)-1))) z0)::(dds 16 (vp ds::(dds 54 [])))))))))) Zc 400 [.r (.int .i64 (X2 (Zl t))), .b false] [4,5,6,7,8,25] (ac n2 (ac c2 a0))) (Za.seq (Za.go (t:=(dds 4 (.own 2 0 []::(vp rs::(vp ds::(bR t::(bR (rs.getD (Int.toNat (i64.wrap ((rs.length:Int)-1))) z0)::(vi (i64.wrap ((rs.length:Int)-(ds.length:Int)))::(dds 15 (vp ds::(dds 14 (vi (rs.length:Int)::(dds 39 []))))))))))))) Zc 400 [] [4,5,6,7,8,9,25,40] a0) (Za.seq (Za.go (t:=(dds 4 (.own 2 0 []::(vp rs::(vp ds::(bR t::(bR (rs.getD (Int.toNat (i64.wrap ((rs.length:Int)-1))) z0)::(vi (i64.wrap ((rs.length:Int)-(ds.length:Int)))::(.own 2 0 []::(dds 14 (vp ds::(dds 14 (vi (rs.length:Int)::(dds 39 [])))))))))))))) Zc 400 [] [4,5,6,7,8,9,10,25,40] a0) (Za.seq (Za.seq (Za.go Zc 400 [] [4,5,6,7,8,9,10,11] a0) (Za.block hl3)) (Za.go Zc 400 [.r (.fresh 2 ts.length (pc ts)), .r (.fresh 2 xs.length (pc xs))] [4,5,6,7] (ac n4 (ac n5 a0))))))))))
theorem Zl9 (rs:List Rn) (ds:List Rn) (t:Rn)  (c1:(decide ((rs.length:Int)≥(ds.length:Int)))=false):Za Yir Zs4 (Zbm rs ds t) (.exit 0) (Zbm rs ds t):=(Za.seq_out (Za.go Zc 400 [.b false] [4,5,6,7] (ac c1 a0)) (by intro e;cases e))
theorem Yrun43 (rs ss ps ds us:List Rn) (t:Rn) (n1:Ze Yir 40 [.sl rs.length (pc rs)] (.fresh 2 ps.length (pc ps))) (n2:Ze Yir 25 [.sl ss.length (pc ss)] (.fresh 2 ds.length (pc ds))) (n3:0≤(i64.wrap ((ds.length:Int)-1))∧(i64.wrap ((ds.length:Int)-1))<(ds.length:Int)) (hl4:Za Yir (.loop Zs4) (Zbm ps ds (ds.getD (Int.toNat (i64.wrap ((ds.length:Int)-1))) z0)) (.exit 0) (Zbm us ds t)):Ze Yir 43 [.sl rs.length (pc rs), .sl ss.length (pc ss)] (.sl us.length (pc us)):=Ze.of_bodyW (fn:=Yi43) (s:=(dds 4 (.val (.sl us.length (pc us))::(dds 75 [])))) (ex := .ret) rfl rfl (Za.seq (Za.go (t:=(vp rs::(vp ss::(dds 2 (.own 2 0 []::(dds 75 [])))))) Zc 400 [] [0,1,4] a0) (Za.seq (Za.go (t:=(vp rs::(vp ss::(dds 2 (.own 2 0 []::(vp ps::(vp ds::(dds 73 [])))))))) Zc 400 [.r (.fresh 2 ps.length (pc ps)), .r (.fresh 2 ds.length (pc ds))] [0,1,4,5,6] (ac n1 (ac n2 a0))) (Za.seq (Za.go Zc 400 [.v (Zt (ds.getD (Int.toNat (i64.wrap ((ds.length:Int)-1))) z0))] [4,5,6,7] (ac n3 (ac (Qh n3) a0))) (Za.seq (Za.block hl4) (Za.go Zc 400 [] [4] a0))))) (by intro i e;cases e) rfl
def Dg (as1:List Rn) (bs:List Rn):Zk:=(dds 4 (.own 2 0 []::(.val (.sl as1.length (pc as1))::(.val (.sl bs.length (pc bs))::(dds 15 [])))))
theorem Ze7 (as1:List Rn) (bs:List Rn) (us:List Rn) (c1:(decide ((bs.length:Int)>0))=true) (n1:Ze Yir 43 [.sl as1.length (pc as1), .sl bs.length (pc bs)] (.sl us.length (pc us))):Za Yir Rx (Dg as1 bs) .norm (Dg bs us):=(Za.go Zc 400 [.b true, .r (.sl us.length (pc us))] [4,5,6] (ac c1 (ac n1 a0)))
theorem Ze6 (as1:List Rn) (bs:List Rn)  (c1:(decide ((bs.length:Int)>0))=false):Za Yir Rx (Dg as1 bs) (.exit 0) (Dg as1 bs):=(Za.go Zc 400 [.b false] [4,5,6] (ac c1 a0))
theorem Zic (rs ss ps qs as1 bs ts:List Rn) (n1:Ze Yir 40 [.sl rs.length (pc rs)] (.fresh 2 ps.length (pc ps))) (n2:Ze Yir 40 [.sl ss.length (pc ss)] (.fresh 2 qs.length (pc qs))) (hl3:Za Yir (.loop Rx) (Dg ps qs) (.exit 0) (Dg as1 bs)) (n4:Ze Yir 71 [.sl as1.length (pc as1)] (.fresh 2 ts.length (pc ts))):Ze Yir 72 [.sl rs.length (pc rs), .sl ss.length (pc ss)] (.fresh 2 ts.length (pc ts)):=Ze.of_bodyW (fn:=Zth) (s:=(dds 4 (.own 2 ts.length (pc ts)::(dds 17 [])))) (ex := .ret) rfl rfl (Za.seq (Za.go (t:=(vp rs::(vp ss::(dds 2 (.own 2 0 []::(dds 17 [])))))) Zc 400 [] [0,1,4] a0) (Za.seq (Za.go Zc 400 [.r (.fresh 2 ps.length (pc ps)), .r (.fresh 2 qs.length (pc qs))] [4,5,6] (ac n1 (ac n2 a0))) (Za.seq (Za.block hl3) (Za.go Zc 400 [.r (.fresh 2 ts.length (pc ts))] [4] (ac n4 a0))))) (by intro i e;cases e) rfl
theorem Zib (rs ss ps qs as1 bs:List Rn) (n1:Ze Yir 40 [.sl rs.length (pc rs)] (.fresh 2 ps.length (pc ps))) (n2:Ze Yir 40 [.sl ss.length (pc ss)] (.fresh 2 qs.length (pc qs))) (hl3:Za Yir (.loop Rx) (Dg ps qs) (.exit 0) (Dg as1 bs)) (n4:Ze Yir 71 [.sl as1.length (pc as1)] (.sl as1.length (pc as1))):Ze Yir 72 [.sl rs.length (pc rs), .sl ss.length (pc ss)] (.sl as1.length (pc as1)):=Ze.of_bodyW (fn:=Zth) (s:=(dds 4 (.val (.sl as1.length (pc as1))::(dds 17 [])))) (ex := .ret) rfl rfl (Za.seq (Za.go (t:=(vp rs::(vp ss::(dds 2 (.own 2 0 []::(dds 17 [])))))) Zc 400 [] [0,1,4] a0) (Za.seq (Za.go Zc 400 [.r (.fresh 2 ps.length (pc ps)), .r (.fresh 2 qs.length (pc qs))] [4,5,6] (ac n1 (ac n2 a0))) (Za.seq (Za.block hl3) (Za.go Zc 400 [.r (.sl as1.length (pc as1))] [4] (ac n4 a0))))) (by intro i e;cases e) rfl
def Av (rs:List Rn) (ds:List Rn) (t:Rn) (k:Nat) (os:List Rn) (u:Rn) (q:Int) (i:Int):Zk:=(dds 4 (.own 2 0 []::(.val (.sl rs.length (pc rs))::(.val (.sl ds.length (pc ds))::(.box [.bool t.1, .sl t.2.length (lm t.2)]::(.own 2 k (pc os)::(.box [.bool u.1, .sl u.2.length (lm u.2)]::(.val (.int .i64 q)::(.val (.int .i64 i)::(dds 91 []))))))))))
theorem Zpa (rs:List Rn) (ds:List Rn) (t:Rn) (k:Nat) (os:List Rn) (u:Rn) (q:Int) (i:Int)  (c1:(decide (i<(k:Int)))=true) (n1:0≤i∧i<(k:Int)) (n2:os.length=k) (n3:Ze Yir 76 [Zt (os.getD (Int.toNat i) z0),Zt t] (Zn ((Zl (os.getD (Int.toNat i) z0))*(Zl t)))):Za Yir Zbb (Av rs ds t k os u q i) .norm (Av rs ds t k (os.set (Int.toNat i) (cn ((Zl (os.getD (Int.toNat i) z0))*(Zl t)))) u q (i64.wrap (i+1))):=(Za.go Zc 400 [.b true, .v (Zt (os.getD (Int.toNat i) z0)), .r (Zn ((Zl (os.getD (Int.toNat i) z0))*(Zl t))), .l (pc (os.set (Int.toNat i) (cn ((Zl (os.getD (Int.toNat i) z0))*(Zl t)))))] [4,5,6,7,8,9,10,11] (ac c1 (ac n1 (ac (Vw n2 n1) (ac n3 (ac n1 (ac (Wg (r:=cn ((Zl (os.getD (Int.toNat i) z0))*(Zl t))) n2 n1) a0)))))))
theorem Zo9 (rs:List Rn) (ds:List Rn) (t:Rn) (k:Nat) (os:List Rn) (u:Rn) (q:Int) (i:Int)  (c1:(decide (i<(k:Int)))=false):Za Yir Zbb (Av rs ds t k os u q i) (.exit 2) (Av rs ds t k os u q i):=(Za.go Zc 400 [.b false] [4,5,6,7,8,9,10,11] (ac c1 a0))
def Fs (rs:List Rn) (ds:List Rn) (t:Rn) (k:Nat) (os:List Rn) (u:Rn) (q:Int) (m:Nat) (cs:List AV) (i:Int):Zk:=(dds 4 (.own 2 0 []::(.val (.sl rs.length (pc rs))::(.val (.sl ds.length (pc ds))::(.box [.bool t.1, .sl t.2.length (lm t.2)]::(.own 2 k (pc os)::(.box [.bool u.1, .sl u.2.length (lm u.2)]::(.val (.int .i64 q)::(dds 1 (.own 2 m cs::(.val (.int .i64 i)::(dds 89 []))))))))))))
theorem Zo8 (rs:List Rn) (ds:List Rn) (t:Rn) (k:Nat) (os:List Rn) (u:Rn) (q:Int) (m:Nat) (cs:List AV) (i:Int)  (c1:(decide (i<(i64.wrap ((rs.length:Int)-1))))=true) (c2:(decide (i≥q))=true) (n1:0≤i∧i<(rs.length:Int)) (n2:0≤(i64.wrap (i-q))∧(i64.wrap (i-q))<(ds.length:Int)) (n3:m+1≤1048576) (n4:Ze Yir 76 [Zt t,Zt (rs.getD (Int.toNat i) z0)] (Zn ((Zl t)*(Zl (rs.getD (Int.toNat i) z0))))) (n5:Ze Yir 76 [Zt u,Zt (ds.getD (Int.toNat (i64.wrap (i-q))) z0)] (Zn ((Zl u)*(Zl (ds.getD (Int.toNat (i64.wrap (i-q))) z0))))) (n6:Ze Yir 78 [Zn ((Zl t)*(Zl (rs.getD (Int.toNat i) z0))),Zn ((Zl u)*(Zl (ds.getD (Int.toNat (i64.wrap (i-q))) z0)))] (Zn (((Zl t)*(Zl (rs.getD (Int.toNat i) z0)))-((Zl u)*(Zl (ds.getD (Int.toNat (i64.wrap (i-q))) z0)))))):Za Yir Rz (Fs rs ds t k os u q m cs i) .norm (Fs rs ds t k os u q (m+1) (cs++([.bool (decide ((((Zl t)*(Zl (rs.getD (Int.toNat i) z0)))-((Zl u)*(Zl (ds.getD (Int.toNat (i64.wrap (i-q))) z0))))<0)), .sl ((Zb (Int.natAbs (((Zl t)*(Zl (rs.getD (Int.toNat i) z0)))-((Zl u)*(Zl (ds.getD (Int.toNat (i64.wrap (i-q))) z0)))))).length) (lm (Zb (Int.natAbs (((Zl t)*(Zl (rs.getD (Int.toNat i) z0)))-((Zl u)*(Zl (ds.getD (Int.toNat (i64.wrap (i-q))) z0)))))))]:List AV)) (i64.wrap (i+1))):=(Za.go Zc 400 [.b true, .v (Zt (rs.getD (Int.toNat i) z0)), .r (Zn ((Zl t)*(Zl (rs.getD (Int.toNat i) z0)))), .b true, .v (Zt (ds.getD (Int.toNat (i64.wrap (i-q))) z0)), .r (Zn ((Zl u)*(Zl (ds.getD (Int.toNat (i64.wrap (i-q))) z0)))), .r (Zn (((Zl t)*(Zl (rs.getD (Int.toNat i) z0)))-((Zl u)*(Zl (ds.getD (Int.toNat (i64.wrap (i-q))) z0)))))] [4,5,6,7,8,9,10,12,13] (ac c1 (ac n1 (ac (Qh n1) (ac n4 (ac c2 (ac n2 (ac (Qh n2) (ac n5 (ac n6 (ac (show List.length ([.bool (decide ((((Zl t)*(Zl (rs.getD (Int.toNat i) z0)))-((Zl u)*(Zl (ds.getD (Int.toNat (i64.wrap (i-q))) z0))))<0)), .sl ((Zb (Int.natAbs (((Zl t)*(Zl (rs.getD (Int.toNat i) z0)))-((Zl u)*(Zl (ds.getD (Int.toNat (i64.wrap (i-q))) z0)))))).length) (lm (Zb (Int.natAbs (((Zl t)*(Zl (rs.getD (Int.toNat i) z0)))-((Zl u)*(Zl (ds.getD (Int.toNat (i64.wrap (i-q))) z0)))))))]:List AV)=1*2 from rfl) (ac n3 a0))))))))))))
theorem Zo7 (rs:List Rn) (ds:List Rn) (t:Rn) (k:Nat) (os:List Rn) (u:Rn) (q:Int) (m:Nat) (cs:List AV) (i:Int)  (c1:(decide (i<(i64.wrap ((rs.length:Int)-1))))=true) (c2:(decide (i≥q))=false) (n1:0≤i∧i<(rs.length:Int)) (n2:m+1≤1048576) (n3:Ze Yir 76 [Zt t,Zt (rs.getD (Int.toNat i) z0)] (Zn ((Zl t)*(Zl (rs.getD (Int.toNat i) z0))))):Za Yir Rz (Fs rs ds t k os u q m cs i) .norm (Fs rs ds t k os u q (m+1) (cs++([.bool (decide (((Zl t)*(Zl (rs.getD (Int.toNat i) z0)))<0)), .sl ((Zb (Int.natAbs ((Zl t)*(Zl (rs.getD (Int.toNat i) z0))))).length) (lm (Zb (Int.natAbs ((Zl t)*(Zl (rs.getD (Int.toNat i) z0))))))]:List AV)) (i64.wrap (i+1))):=(Za.go Zc 400 [.b true, .v (Zt (rs.getD (Int.toNat i) z0)), .r (Zn ((Zl t)*(Zl (rs.getD (Int.toNat i) z0)))), .b false] [4,5,6,7,8,9,10,12,13] (ac c1 (ac n1 (ac (Qh n1) (ac n3 (ac c2 (ac (show List.length ([.bool (decide (((Zl t)*(Zl (rs.getD (Int.toNat i) z0)))<0)), .sl ((Zb (Int.natAbs ((Zl t)*(Zl (rs.getD (Int.toNat i) z0))))).length) (lm (Zb (Int.natAbs ((Zl t)*(Zl (rs.getD (Int.toNat i) z0))))))]:List AV)=1*2 from rfl) (ac n2 a0))))))))
theorem Zo6 (rs:List Rn) (ds:List Rn) (t:Rn) (k:Nat) (os:List Rn) (u:Rn) (q:Int) (m:Nat) (cs:List AV) (i:Int)  (c1:(decide (i<(i64.wrap ((rs.length:Int)-1))))=false):Za Yir Rz (Fs rs ds t k os u q m cs i) (.exit 4) (Fs rs ds t k os u q m cs i):=(Za.go Zc 400 [.b false] [4,5,6,7,8,9,10,12,13] (ac c1 a0))
def Zni (rs:List Rn) (ds:List Rn) (t:Rn) (k:Nat) (os:List Rn):Zk:=(dds 4 (.own 2 0 []::(.val (.sl rs.length (pc rs))::(.val (.sl ds.length (pc ds))::(.box [.bool t.1, .sl t.2.length (lm t.2)]::(.own 2 k (pc os)::(dds 94 [])))))))
theorem Yk73_1 (rs:List Rn) (ds:List Rn) (t:Rn) (k:Nat) (os:List Rn) (os1 ns ts:List Rn) (m:Nat) (i1 i2:Int) (c1:(decide ((rs.length:Int)≥(ds.length:Int)))=true) (n1:0≤(i64.wrap ((rs.length:Int)-1))∧(i64.wrap ((rs.length:Int)-1))<(rs.length:Int)) (hl2:Za Yir (.loop Zbb) (Av rs ds t k os (rs.getD (Int.toNat (i64.wrap ((rs.length:Int)-1))) z0) (i64.wrap ((rs.length:Int)-(ds.length:Int))) 0) (.exit 2) (Av rs ds t k os1 (rs.getD (Int.toNat (i64.wrap ((rs.length:Int)-1))) z0) (i64.wrap ((rs.length:Int)-(ds.length:Int))) i1)) (n3:0≤(i64.wrap ((rs.length:Int)-(ds.length:Int)))∧(i64.wrap ((rs.length:Int)-(ds.length:Int)))<(k:Int)) (n4:os1.length=k) (hl5:Za Yir (.loop Rz) (Fs rs ds t k (os1.set (Int.toNat (i64.wrap ((rs.length:Int)-(ds.length:Int)))) (rs.getD (Int.toNat (i64.wrap ((rs.length:Int)-1))) z0)) (rs.getD (Int.toNat (i64.wrap ((rs.length:Int)-1))) z0) (i64.wrap ((rs.length:Int)-(ds.length:Int))) 0 ([]:List AV) 0) (.exit 4) (Fs rs ds t k (os1.set (Int.toNat (i64.wrap ((rs.length:Int)-(ds.length:Int)))) (rs.getD (Int.toNat (i64.wrap ((rs.length:Int)-1))) z0)) (rs.getD (Int.toNat (i64.wrap ((rs.length:Int)-1))) z0) (i64.wrap ((rs.length:Int)-(ds.length:Int))) m (pc ns) i2)) (n6:Ze Yir 25 [.sl m (pc ns)] (.fresh 2 ts.length (pc ts))):Za Yir Yc73 (Zni rs ds t k os) .norm (Zni ts ds t k (os1.set (Int.toNat (i64.wrap ((rs.length:Int)-(ds.length:Int)))) (rs.getD (Int.toNat (i64.wrap ((rs.length:Int)-1))) z0))):=(Za.seq (Za.go (t:=(dds 4 (.own 2 0 []::(vp rs::(vp ds::(bR t::(.own 2 k (pc os)::(dds 94 [])))))))) Zc 400 [.b true] [4,5,6,7,8] (ac c1 a0)) (Za.block_norm (Za.seq (Za.go (t:=(dds 4 (.own 2 0 []::(vp rs::(vp ds::(bR t::(.own 2 k (pc os)::(bR (rs.getD (Int.toNat (i64.wrap ((rs.length:Int)-1))) z0)::(dds 93 []))))))))) Zc 400 [.v (Zt (rs.getD (Int.toNat (i64.wrap ((rs.length:Int)-1))) z0))] [4,5,6,7,8,9] (ac n1 (ac (Qh n1) a0))) (Za.seq (Za.go (t:=(dds 4 (.own 2 0 []::(vp rs::(vp ds::(bR t::(.own 2 k (pc os)::(bR (rs.getD (Int.toNat (i64.wrap ((rs.length:Int)-1))) z0)::(vi (i64.wrap ((rs.length:Int)-(ds.length:Int)))::(dds 92 [])))))))))) Zc 400 [] [4,5,6,7,8,9,10] a0) (Za.seq (Za.seq (Za.go Zc 400 [] [4,5,6,7,8,9,10,11] a0) (Za.block hl2)) (Za.seq (Za.go (t:=(dds 4 (.own 2 0 []::(vp rs::(vp ds::(bR t::(.own 2 k (pc (os1.set (Int.toNat (i64.wrap ((rs.length:Int)-(ds.length:Int)))) (rs.getD (Int.toNat (i64.wrap ((rs.length:Int)-1))) z0)))::(bR (rs.getD (Int.toNat (i64.wrap ((rs.length:Int)-1))) z0)::(vi (i64.wrap ((rs.length:Int)-(ds.length:Int)))::(dds 53 (vi (i64.wrap ((rs.length:Int)-(ds.length:Int)))::(dds 38 [])))))))))))) Zc 400 [.l (pc (os1.set (Int.toNat (i64.wrap ((rs.length:Int)-(ds.length:Int)))) (rs.getD (Int.toNat (i64.wrap ((rs.length:Int)-1))) z0)))] [4,5,6,7,8,9,10,64] (ac n3 (ac (Wg (r:=rs.getD (Int.toNat (i64.wrap ((rs.length:Int)-1))) z0) n4 n3) a0))) (Za.seq (Za.go (t:=(dds 4 (.own 2 0 []::(vp rs::(vp ds::(bR t::(.own 2 k (pc (os1.set (Int.toNat (i64.wrap ((rs.length:Int)-(ds.length:Int)))) (rs.getD (Int.toNat (i64.wrap ((rs.length:Int)-1))) z0)))::(bR (rs.getD (Int.toNat (i64.wrap ((rs.length:Int)-1))) z0)::(vi (i64.wrap ((rs.length:Int)-(ds.length:Int)))::(dds 1 (.own 2 0 []::(dds 51 (vi (i64.wrap ((rs.length:Int)-(ds.length:Int)))::(dds 38 [])))))))))))))) Zc 400 [] [4,5,6,7,8,9,10,12,64] a0) (Za.seq (Za.seq (Za.go Zc 400 [] [4,5,6,7,8,9,10,12,13] a0) (Za.block hl5)) (Za.go Zc 400 [.r (.fresh 2 ts.length (pc ts))] [4,5,6,7,8] (ac n6 a0))))))))))
theorem Zl4 (rs:List Rn) (ds:List Rn) (t:Rn) (k:Nat) (os:List Rn)  (c1:(decide ((rs.length:Int)≥(ds.length:Int)))=false):Za Yir Yc73 (Zni rs ds t k os) (.exit 0) (Zni rs ds t k os):=(Za.seq_out (Za.go Zc 400 [.b false] [4,5,6,7,8] (ac c1 a0)) (by intro e;cases e))
theorem Yrun73 (rs ss ps ds xs os us ts:List Rn) (t:Rn) (k:Nat) (n1:Ze Yir 25 [.sl rs.length (pc rs)] (.fresh 2 ps.length (pc ps))) (n2:Ze Yir 25 [.sl ss.length (pc ss)] (.fresh 2 ds.length (pc ds))) (n3:0≤(i64.wrap ((ds.length:Int)-1))∧(i64.wrap ((ds.length:Int)-1))<(ds.length:Int)) (n4:0≤(i64.wrap ((i64.wrap ((ps.length:Int)-(ds.length:Int)))+1))∧(i64.wrap ((i64.wrap ((ps.length:Int)-(ds.length:Int)))+1))≤1048576) (hl5:Za Yir (.loop Yc73) ((dds 4 (.own 2 0 []::(.val (.sl ps.length (pc ps))::(.val (.sl ds.length (pc ds))::(.box [.bool ((ds.getD (Int.toNat (i64.wrap ((ds.length:Int)-1))) z0).1), .sl ((ds.getD (Int.toNat (i64.wrap ((ds.length:Int)-1))) z0).2.length) (lm (ds.getD (Int.toNat (i64.wrap ((ds.length:Int)-1))) z0).2)]::(.own 2 (Int.toNat (i64.wrap ((i64.wrap ((ps.length:Int)-(ds.length:Int)))+1))) (Q5 [.bool false, .sl 0 []] (Int.toNat (i64.wrap ((i64.wrap ((ps.length:Int)-(ds.length:Int)))+1))))::(dds 94 [])))))))) (.exit 0) (Zni xs ds t k os)) (n6:Ze Yir 25 [.sl k (pc os)] (.fresh 2 ts.length (pc ts))) (n7:Ze Yir 40 [.sl ts.length (pc ts)] (.fresh 2 us.length (pc us))) (n8:Ze Yir 71 [.sl us.length (pc us)] (.sl us.length (pc us))):Ze Yir 73 [.sl rs.length (pc rs), .sl ss.length (pc ss)] (.sl us.length (pc us)):=Ze.of_bodyW (fn:=Yi73) (s:=(dds 4 (.val (.sl us.length (pc us))::(dds 98 [])))) (ex := .ret) rfl rfl (Za.seq (Za.go (t:=(vp rs::(vp ss::(dds 2 (.own 2 0 []::(dds 98 [])))))) Zc 400 [] [0,1,4] a0) (Za.seq (Za.go (t:=(vp rs::(vp ss::(dds 2 (.own 2 0 []::(vp ps::(vp ds::(dds 96 [])))))))) Zc 400 [.r (.fresh 2 ps.length (pc ps)), .r (.fresh 2 ds.length (pc ds))] [0,1,4,5,6] (ac n1 (ac n2 a0))) (Za.seq (Za.go (t:=(vp rs::(vp ss::(dds 2 (.own 2 0 []::(vp ps::(vp ds::(bR (ds.getD (Int.toNat (i64.wrap ((ds.length:Int)-1))) z0)::(dds 95 []))))))))) Zc 400 [.v (Zt (ds.getD (Int.toNat (i64.wrap ((ds.length:Int)-1))) z0))] [0,1,4,5,6,7] (ac n3 (ac (Qh n3) a0))) (Za.seq (Za.go Zc 400 [] [4,5,6,7,8] (ac n4 a0)) (Za.seq (Za.block hl5) (Za.go Zc 400 [.r (.fresh 2 ts.length (pc ts)), .r (.fresh 2 us.length (pc us)), .r (.sl us.length (pc us))] [4] (ac n6 (ac n7 (ac n8 a0))))))))) (by intro i e;cases e) rfl
theorem Rl (rs ps xs:List Rn) (c1:(decide ((xs.length:Int)≤1))=true) (n1:Ze Yir 40 [.sl rs.length (pc rs)] (.fresh 2 ps.length (pc ps))) (n2:Ze Yir 71 [.sl ps.length (pc ps)] (.fresh 2 xs.length (pc xs))):Ze Yir 39 [.sl rs.length (pc rs)] (.sl xs.length (pc xs)):=Ze.go (fn:=Zf8) Zc rfl 400 rfl [.r (.fresh 2 ps.length (pc ps)), .r (.fresh 2 xs.length (pc xs)), .b true] (ac n1 (ac n2 (ac c1 a0)))
theorem Rk (rs ps xs ds gs us:List Rn) (c1:(decide ((xs.length:Int)≤1))=false) (n1:Ze Yir 40 [.sl rs.length (pc rs)] (.fresh 2 ps.length (pc ps))) (n2:Ze Yir 71 [.sl ps.length (pc ps)] (.fresh 2 xs.length (pc xs))) (n3:Ze Yir 41 [.sl xs.length (pc xs)] (.fresh 2 ds.length (pc ds))) (n4:Ze Yir 72 [.sl xs.length (pc xs), .sl ds.length (pc ds)] (.fresh 2 gs.length (pc gs))) (n5:Ze Yir 73 [.sl xs.length (pc xs), .sl gs.length (pc gs)] (.sl us.length (pc us))):Ze Yir 39 [.sl rs.length (pc rs)] (.sl us.length (pc us)):=Ze.go (fn:=Zf8) Zc rfl 400 rfl [.r (.fresh 2 ps.length (pc ps)), .r (.fresh 2 xs.length (pc xs)), .b false, .r (.fresh 2 ds.length (pc ds)), .r (.fresh 2 gs.length (pc gs)), .r (.sl us.length (pc us))] (ac n1 (ac n2 (ac c1 (ac n3 (ac n4 (ac n5 a0))))))
theorem Rj (rs ps xs ds gs us:List Rn) (c1:(decide ((xs.length:Int)≤1))=false) (n1:Ze Yir 40 [.sl rs.length (pc rs)] (.fresh 2 ps.length (pc ps))) (n2:Ze Yir 71 [.sl ps.length (pc ps)] (.fresh 2 xs.length (pc xs))) (n3:Ze Yir 41 [.sl xs.length (pc xs)] (.fresh 2 ds.length (pc ds))) (n4:Ze Yir 72 [.sl xs.length (pc xs), .sl ds.length (pc ds)] (.sl gs.length (pc gs))) (n5:Ze Yir 73 [.sl xs.length (pc xs), .sl gs.length (pc gs)] (.sl us.length (pc us))):Ze Yir 39 [.sl rs.length (pc rs)] (.sl us.length (pc us)):=Ze.go (fn:=Zf8) Zc rfl 400 rfl [.r (.fresh 2 ps.length (pc ps)), .r (.fresh 2 xs.length (pc xs)), .b false, .r (.fresh 2 ds.length (pc ds)), .r (.sl gs.length (pc gs)), .r (.sl us.length (pc us))] (ac n1 (ac n2 (ac c1 (ac n3 (ac n4 (ac n5 a0))))))
theorem Ri (rs ps ds gs us:List Rn) (c1:(decide ((ps.length:Int)≤1))=false) (n1:Ze Yir 40 [.sl rs.length (pc rs)] (.fresh 2 ps.length (pc ps))) (n2:Ze Yir 71 [.sl ps.length (pc ps)] (.sl ps.length (pc ps))) (n3:Ze Yir 41 [.sl ps.length (pc ps)] (.fresh 2 ds.length (pc ds))) (n4:Ze Yir 72 [.sl ps.length (pc ps), .sl ds.length (pc ds)] (.fresh 2 gs.length (pc gs))) (n5:Ze Yir 73 [.sl ps.length (pc ps), .sl gs.length (pc gs)] (.sl us.length (pc us))):Ze Yir 39 [.sl rs.length (pc rs)] (.sl us.length (pc us)):=Ze.go (fn:=Zf8) Zc rfl 400 rfl [.r (.fresh 2 ps.length (pc ps)), .r (.sl ps.length (pc ps)), .b false, .r (.fresh 2 ds.length (pc ds)), .r (.fresh 2 gs.length (pc gs)), .r (.sl us.length (pc us))] (ac n1 (ac n2 (ac c1 (ac n3 (ac n4 (ac n5 a0))))))
theorem Rh (rs ps:List Rn) (c1:(decide ((ps.length:Int)≤1))=true) (n1:Ze Yir 40 [.sl rs.length (pc rs)] (.fresh 2 ps.length (pc ps))) (n2:Ze Yir 71 [.sl ps.length (pc ps)] (.sl ps.length (pc ps))):Ze Yir 39 [.sl rs.length (pc rs)] (.sl ps.length (pc ps)):=Ze.go (fn:=Zf8) Zc rfl 400 rfl [.r (.fresh 2 ps.length (pc ps)), .r (.sl ps.length (pc ps)), .b true] (ac n1 (ac n2 (ac c1 a0)))
theorem Rg (rs ps ds gs us:List Rn) (c1:(decide ((ps.length:Int)≤1))=false) (n1:Ze Yir 40 [.sl rs.length (pc rs)] (.fresh 2 ps.length (pc ps))) (n2:Ze Yir 71 [.sl ps.length (pc ps)] (.sl ps.length (pc ps))) (n3:Ze Yir 41 [.sl ps.length (pc ps)] (.fresh 2 ds.length (pc ds))) (n4:Ze Yir 72 [.sl ps.length (pc ps), .sl ds.length (pc ds)] (.sl gs.length (pc gs))) (n5:Ze Yir 73 [.sl ps.length (pc ps), .sl gs.length (pc gs)] (.sl us.length (pc us))):Ze Yir 39 [.sl rs.length (pc rs)] (.sl us.length (pc us)):=Ze.go (fn:=Zf8) Zc rfl 400 rfl [.r (.fresh 2 ps.length (pc ps)), .r (.sl ps.length (pc ps)), .b false, .r (.fresh 2 ds.length (pc ds)), .r (.sl gs.length (pc gs)), .r (.sl us.length (pc us))] (ac n1 (ac n2 (ac c1 (ac n3 (ac n4 (ac n5 a0))))))
end Go.Proofs.YthnnfemologhfaaGreat

namespace Go.Proofs.YthnnfemologhfaaGreat
open Go.IntKind (i64 u64 u32)
open Go.Ai
set_option maxRecDepth 100000
theorem Zby (a b q r:Int) (hq:q=(a.natAbs:Int) / (b.natAbs:Int)) (hr:r=(a.natAbs:Int) % (b.natAbs:Int)) :
  (if (!(decide (a<0)==decide (b<0)))=true then -q else q)=Int.tdiv a b∧(if decide (a<0)=true then -r else r)=Int.tmod a b:=by
 subst hq hr
 have hA:(0:Int)≤(a.natAbs:Int):=by omega
 by_cases ha:a<0 <;> by_cases hb:b<0
 ·have ea:a = -(a.natAbs:Int):=by omega
  have eb:b = -(b.natAbs:Int):=by omega
  have h1:Int.tdiv a b=(a.natAbs:Int) / (b.natAbs:Int):=by
   rw[← Int.tdiv_eq_ediv_of_nonneg hA]
   conv=>lhs;rw[ea,eb,Int.neg_tdiv,Int.tdiv_neg,Int.neg_neg]
  have h2:Int.tmod a b = -((a.natAbs:Int) % (b.natAbs:Int)):=by
   rw[← Int.tmod_eq_emod_of_nonneg hA]
   conv=>lhs;rw[ea,eb,Int.neg_tmod,Int.tmod_neg]
  rw[h1,h2,decide_eq_true ha,decide_eq_true hb]
  simp
 ·have ea:a = -(a.natAbs:Int):=by omega
  have eb:b=(b.natAbs:Int):=by omega
  have h1:Int.tdiv a b = -((a.natAbs:Int) / (b.natAbs:Int)):=by
   rw[← Int.tdiv_eq_ediv_of_nonneg hA]
   conv=>lhs;rw[ea,eb,Int.neg_tdiv]
  have h2:Int.tmod a b = -((a.natAbs:Int) % (b.natAbs:Int)):=by
   rw[← Int.tmod_eq_emod_of_nonneg hA]
   conv=>lhs;rw[ea,eb,Int.neg_tmod]
  rw[h1,h2,decide_eq_true ha,decide_eq_false hb]
  simp
 ·have ea:a=(a.natAbs:Int):=by omega
  have eb:b = -(b.natAbs:Int):=by omega
  have h1:Int.tdiv a b = -((a.natAbs:Int) / (b.natAbs:Int)):=by
   rw[← Int.tdiv_eq_ediv_of_nonneg hA]
   conv=>lhs;rw[ea,eb,Int.tdiv_neg]
  have h2:Int.tmod a b=(a.natAbs:Int) % (b.natAbs:Int):=by
   rw[← Int.tmod_eq_emod_of_nonneg hA]
   conv=>lhs;rw[ea,eb,Int.tmod_neg]
  rw[h1,h2,decide_eq_false ha,decide_eq_true hb]
  simp
 ·have ea:a=(a.natAbs:Int):=by omega
  have eb:b=(b.natAbs:Int):=by omega
  have h1:Int.tdiv a b=(a.natAbs:Int) / (b.natAbs:Int):=by
   rw[← Int.tdiv_eq_ediv_of_nonneg hA]
   conv=>lhs;rw[ea,eb]
  have h2:Int.tmod a b=(a.natAbs:Int) % (b.natAbs:Int):=by
   rw[← Int.tmod_eq_emod_of_nonneg hA]
   conv=>lhs;rw[ea,eb]
  rw[h1,h2,decide_eq_false ha,decide_eq_false hb]
  simp
theorem Dk {na nb:Bool} {xs ys:List Int} (hx:U32 xs) (hy:U32 ys) (h0:rv nb ys ≠ 0) (h1:xs.length<1048576) (h2:ys.length<1048576) :
  Ze Yir 60 [.agg [.bool na, .sl xs.length (lm xs)], .agg [.bool nb, .sl ys.length (lm ys)]] (.tup [Zn (Int.tdiv (rv na xs) (rv nb ys)),Zn (Int.tmod (rv na xs) (rv nb ys))]):=by
 have l1:=Uq (neg:=na) hx
 have l2:=Uq (neg:=nb) hy
 have r1:=Jx (neg:=na) hx (by omega)
 have r2:=Jx (neg:=nb) hy (by omega)
 generalize rv na xs=a at *
 generalize rv nb ys=b at *
 have hb0:Zb b.natAbs ≠ []:=by rw[Ne,Wp];omega
 obtain⟨qs,rs,q1,q2,q3,q4,q5,q6,q7⟩:=N2 (Q6 a.natAbs) (Q6 b.natAbs) hb0 (by omega) (by omega)
 rw[Je,Je] at q5 q6
 obtain⟨e1,e2⟩:=Zby a b _ _ q5 q6
 have m1:=X1 (neg := !(decide (a<0)==decide (b<0))) q1 q3
 have m2:=X1 (neg:=decide (a<0)) q2 q4
 have f1:rv (!(decide (a<0)==decide (b<0))) qs=Int.tdiv a b:=e1
 have f2:rv (decide (a<0)) rs=Int.tmod a b:=e2
 rw[f1] at m1
 rw[f2] at m2
 exact Yrun60 na nb _ _ xs ys _ _ qs rs _ _ r1 r2 q7 m1 m2
theorem Es {n:Nat} {b:Bool} (h:(Zb n).length≤2):Ze Yir 91 [.agg [.bool b, .sl (Zb n).length (lm (Zb n))]] (.int .u64 (n:Nat)):=by
 have hu:=Qw n
 have hv:=Je n
 generalize hxs:Zb n=xs at *
 have hl:=Za.up (prog:=Yir) (c:=Yc91) (ex := .exit 0) (fin:=Zll xs (n:Nat) (xs.length:Nat) (xs.length:Nat))
  (fun i=>Zll xs (Zj (xs.take i)) (xs.length:Nat) (i:Nat)) xs.length (by intro e;cases e) ?_ ?_ 0 (Nat.zero_le _)
 ·exact Yrun91 b xs (n:Nat) (xs.length:Nat) (xs.length:Nat) (by simpa [Zj] using hl)
 ·intro i hi
  have ei:i64.wrap ((i:Int)+1)=((i+1:Nat):Int):=by rw[w64 (by omega) (by omega)];omega
  have e32:u64.wrap (i64.wrap (32*(i:Int)))=((32*i:Nat):Int):=by rw[w64 (by omega) (by omega),Ug (by omega)];omega
  have em:min (Int.toNat ((32*i:Nat):Int)) (IntKind.bits .u64)=32*i:=by rw[Int.toNat_natCast];show min (32*i) 64=32*i;omega
  have hxi:=Zu hu i
  have k:=Yk91_1 xs (Zj (xs.take i)) (xs.length:Nat) (i:Nat) (by simp;omega) (by omega) (by rw[e32];omega)
  rw[ei,e32,em,Int.toNat_natCast,Ug (n:=xs.getD i 0) (by omega)] at k
  have hp:xs.getD i 0*2^(32*i)<18446744073709551616:=by
   have:=Vu (show 32*i≤32 by omega)
   rw[show (2:Int)^32=4294967296 by decide] at this
   have:=Int.mul_le_mul (show xs.getD i 0≤4294967295 by omega) this (by have:=Jd (32*i);omega) (by omega)
   omega
  have h0:=Int.mul_nonneg hxi.1 (show (0:Int)≤2^(32*i) by have:=Jd (32*i);omega)
  have hlt:=Vp hu i
  rw[Ku] at hlt
  rw[Ug ⟨h0,hp⟩,BitVec.or_comm,or64 hxi.1 hp (by omega) ⟨Zz (Xf hu i),hlt⟩] at k
  refine k.to rfl ?_
  rw[Jt xs i hi,Ku]
  congr 1
  rw[Int.mul_comm];omega
 ·rw[List.take_length,hv]
  exact Yk91_2 xs (n:Nat) (xs.length:Nat) (xs.length:Nat) (by simp)
theorem Pu:∀ (f a b:Nat),b≤f→Za Yir (.loop Yc90) (Zlm (a:Nat) (b:Nat)) (.exit 0) (Zlm (Nat.gcd a b:Nat) 0):=by
 intro f
 induction f with
 | zero =>
  intro a b hb
  have:b=0:=by omega
  subst this
  rw[Nat.gcd_zero_right]
  exact Za.loop_out (Zl3 _ _ (by simp)) (by intro e;cases e)
 | succ f ih =>
  intro a b hb
  by_cases h0:b=0
  ·subst h0
   rw[Nat.gcd_zero_right]
   exact Za.loop_out (Zl3 _ _ (by simp)) (by intro e;cases e)
  ·have k:=Yk90_1 (a:Nat) (b:Nat) (by simp;omega) (by omega)
   rw[Int.tmod_eq_emod_of_nonneg (by omega),← Int.natCast_emod] at k
   have hm:=Nat.mod_lt a (show 0<b by omega)
   have:=ih b (a % b) (by omega)
   rw[Nat.gcd_comm b,← Nat.gcd_rec,Nat.gcd_comm b a] at this
   exact Za.loop k this
theorem Zkx {n:Nat} (h:(Zb n).length≤2):(n:Int)<18446744073709551616:=by
 have h1:=J7 (Qw n)
 rw[Je] at h1
 have h2:=Uc h
 rw[show (4294967296:Int)^2=18446744073709551616 by decide] at h2
 omega
theorem Zaj {n:Nat} (h:(n:Int)<18446744073709551616):Ze Yir 89 [.int .u64 (n:Nat)] (Zn (n:Nat)):=by
 obtain⟨h1,h2⟩:=Gh (u:=(n:Nat)) (by omega)
 have m:=X1 (neg:=false) h1 (by simp)
 have e:rv false [u32.wrap (n:Int),u32.wrap (Int.fdiv (n:Int) (2^(min (Int.toNat 32) (IntKind.bits .u64))))]=(n:Nat):=h2
 rw[e] at m
 exact Yrun89 (n:Nat) _ m
theorem cn_nat (n:Nat):cn (n:Nat)=(false,Zb n):=by
 unfold cn
 rw[Int.natAbs_natCast,decide_eq_false (by omega)]
theorem De (n:Nat):(cn (n:Nat)).2.length=(Zb n).length:=by rw [cn_nat]
theorem Zhd {K:Nat} (hK:K<1048576):∀ (f a b:Nat),b≤f→Ji K (a:Nat)→Ji K (b:Nat) →
  (∃ y z,Za Yir (.loop Zf9) (Np (cn (a:Nat)) (cn (b:Nat)) (false,[])) (.exit 0) (Np (cn (Nat.gcd a b:Nat)) y z)) ∨
  (∃ x y,Za Yir (.loop Zf9) (Np (cn (a:Nat)) (cn (b:Nat)) (false,[])) .ret (Np x y (cn (Nat.gcd a b:Nat)))):=by
 intro f
 induction f with
 | zero =>
  intro a b hb _ _
  have:b=0:=by omega
  subst this
  rw[Nat.gcd_zero_right]
  exact Or.inl ⟨_,_,Za.loop_out (Zl5 _ _ _ (by rw[De];rfl)) (by intro e;cases e)⟩
 | succ f ih =>
  intro a b hb ka kb
  by_cases h0:b=0
  ·subst h0
   rw[Nat.gcd_zero_right]
   exact Or.inl ⟨_,_,Za.loop_out (Zl5 _ _ _ (by rw[De];rfl)) (by intro e;cases e)⟩
  ·have hbl:0<(Zb b).length:=List.length_pos_iff.2 (by rw[Ne,Wp];exact h0)
   have la:=ka.len
   have lb:=kb.len
   rw[Int.natAbs_natCast] at la lb
   by_cases h2:(Zb a).length≤2∧(Zb b).length≤2
   ·right
    have ta:=Zkx h2.1
    have tb:=Zkx h2.2
    have hg:((Nat.gcd a b:Nat):Int)<18446744073709551616:=by
     have:=Nat.le_of_dvd (by omega) (Nat.gcd_dvd_right a b)
     omega
    have u1:=Es (b:=(cn (a:Nat)).1) h2.1
    have u2:=Es (b:=(cn (b:Nat)).1) h2.2
    have u3:=Yrun90 (a:Nat) (b:Nat) _ _ (Pu b a b (Nat.le_refl _))
    have u4:=Zaj hg
    have k:=Yk67_1 (cn (a:Nat)) (cn (b:Nat)) (false,[]) (a:Nat) (b:Nat) (Nat.gcd a b:Nat) (Nat.gcd a b:Nat) (by rw[De];simp;omega) (by rw[De];simp;omega) (by rw[De];simp;omega) u1 u2 u3 u4
    exact⟨_,_,Za.loop_out k (by intro e;cases e)⟩
   ·have hq:=Dk (na:=(cn (a:Nat)).1) (nb:=(cn (b:Nat)).1) (xs:=(cn (a:Nat)).2) (ys:=(cn (b:Nat)).2) (Qw _) (Qw _) (by have:=Qc (b:Nat);unfold Zl at this;rw[this];omega) (by rw[De];omega) (by rw[De];omega)
    rw[show rv (cn (a:Nat)).1 (cn (a:Nat)).2=(a:Nat) from Qc _,show rv (cn (b:Nat)).1 (cn (b:Nat)).2=(b:Nat) from Qc _,Int.tmod_eq_emod_of_nonneg (by omega),← Int.natCast_emod] at hq
    have hm:=Nat.mod_lt a (show 0<b by omega)
    have step:Za Yir Zf9 (Np (cn (a:Nat)) (cn (b:Nat)) (false,[])) .norm (Np (cn (b:Nat)) (cn ((a % b:Nat):Int)) (false,[])):=by
     by_cases h3:(Zb a).length≤2
     ·exact Yk67_2 (cn (a:Nat)) (cn (b:Nat)) (false,[]) _ _ (by rw[De];simp;omega) (by rw[De];simp;omega) (by rw[De];simp;omega) hq
     ·exact Yk67_3 (cn (a:Nat)) (cn (b:Nat)) (false,[]) _ _ (by rw[De];simp;omega) (by rw[De];simp;omega) hq
    have kr:Ji K ((a % b:Nat):Int):=by
     unfold Ji at *
     rw[Int.natAbs_natCast] at *
     exact Nat.lt_of_le_of_lt (Nat.le_of_lt hm) kb
    have e:Nat.gcd b (a % b)=Nat.gcd a b:=by rw[Nat.gcd_comm b,← Nat.gcd_rec,Nat.gcd_comm b a]
    rcases ih b (a % b) (by omega) kb kr with ⟨y,z,h⟩ | ⟨x,y,h⟩
    ·rw[e] at h
     exact Or.inl ⟨y,z,Za.loop step h⟩
    ·rw[e] at h
     exact Or.inr ⟨x,y,Za.loop step h⟩
theorem R2 {na nb:Bool} {xs ys:List Int} (hx:U32 xs) (hy:U32 ys) (h1:xs.length<1048576) (h2:ys.length<1048576) :
  Ze Yir 67 [.agg [.bool na, .sl xs.length (lm xs)], .agg [.bool nb, .sl ys.length (lm ys)]] (Zn (Int.gcd (rv na xs) (rv nb ys):Nat)):=by
 have a1:=Ev (neg:=na) hx (by omega)
 have a2:=Ev (neg:=nb) hy (by omega)
 have f1:=Lx (neg:=na) hx
 have f2:=Lx (neg:=nb) hy
 have g1:Ji (max xs.length ys.length) (((rv na xs).natAbs:Nat):Int):=by
  unfold Ji at *;rw[Int.natAbs_natCast];exact Nat.lt_of_lt_of_le f1 (Nat.pow_le_pow_right (by decide) (by omega))
 have g2:Ji (max xs.length ys.length) (((rv nb ys).natAbs:Nat):Int):=by
  unfold Ji at *;rw[Int.natAbs_natCast];exact Nat.lt_of_lt_of_le f2 (Nat.pow_le_pow_right (by decide) (by omega))
 rcases Zhd (K:=max xs.length ys.length) (by omega) _ _ _ (Nat.le_refl _) g1 g2 with ⟨y,z,h⟩ | ⟨x,y,h⟩
 ·exact Zih na nb xs ys _ _ _ _ _ a1 a2 h
 ·exact Zig na nb xs ys _ _ _ _ _ a1 a2 h
def TQE:J6:=TQD
theorem Qe:Q9 Yir TQE:=Zfx
end Go.Proofs.YthnnfemologhfaaGreat

namespace Go.Proofs.YthnnfemologhfaaGreat
open Go.IntKind (i64 u64 u32)
open Go.Ai
set_option maxRecDepth 100000
def Zf5 (N:Nat) (cs:List AV) (i:Int):Zk:=(.val (.sl N cs)::(dds 1 (.val (.int .i64 0)::(.val (.int .i64 i)::(dds 16 [])))))
theorem Yk44_1 (N:Nat) (cs:List AV) (i:Int) (r:Rn) (v:Int) (c1:(decide (i≥0))=true) (c2:(v==0)=true) (n1:0≤i∧i<(N:Int)) (n2:Z4 (List.drop (Int.toNat i*2) cs) 0 2 false=some (.agg [.bool r.1, .sl r.2.length (lm r.2)])) (n3:Ze Yir 69 [.agg [.bool r.1, .sl r.2.length (lm r.2)]] (.int .i64 v)):Za Yir Ztv (Zf5 N cs i) .norm (Zf5 N cs (i64.wrap (i-1))):=Za.script (ps:=[(decide (i≥0))=true,0≤i∧i<(N:Int),Z4 (List.drop (Int.toNat i*2) cs) 0 2 false=some (.agg [.bool r.1, .sl r.2.length (lm r.2)]),Ze Yir 69 [.agg [.bool r.1, .sl r.2.length (lm r.2)]] (.int .i64 v),(v==0)=true]) Z5 300 [.b true, .v (.agg [.bool r.1, .sl r.2.length (lm r.2)]), .r (.int .i64 v), .b true] [0,2,3] (by kernel_rfl) ⟨c1,n1,n2,n3,c2,trivial⟩
theorem Yk44_2 (N:Nat) (cs:List AV) (i:Int) (r:Rn) (v:Int) (c1:(decide (i≥0))=true) (c2:(v==0)=false) (n1:0≤i∧i<(N:Int)) (n2:Z4 (List.drop (Int.toNat i*2) cs) 0 2 false=some (.agg [.bool r.1, .sl r.2.length (lm r.2)])) (n3:Ze Yir 69 [.agg [.bool r.1, .sl r.2.length (lm r.2)]] (.int .i64 v)):Za Yir Ztv (Zf5 N cs i) (.exit 0) (Zf5 N cs i):=Za.script (ps:=[(decide (i≥0))=true,0≤i∧i<(N:Int),Z4 (List.drop (Int.toNat i*2) cs) 0 2 false=some (.agg [.bool r.1, .sl r.2.length (lm r.2)]),Ze Yir 69 [.agg [.bool r.1, .sl r.2.length (lm r.2)]] (.int .i64 v),(v==0)=false]) Z5 300 [.b true, .v (.agg [.bool r.1, .sl r.2.length (lm r.2)]), .r (.int .i64 v), .b false] [0,2,3] (by kernel_rfl) ⟨c1,n1,n2,n3,c2,trivial⟩
theorem Yk44_3 (N:Nat) (cs:List AV) (i:Int) (c1:(decide (i≥0))=false):Za Yir Ztv (Zf5 N cs i) (.exit 0) (Zf5 N cs i):=Za.script (ps:=[(decide (i≥0))=false,false=false]) Z5 300 [.b false, .b false] [0,2,3] (by kernel_rfl) ⟨c1,rfl,trivial⟩
theorem Sk {n:Int}:X2 n=0↔n=0:=by unfold X2;split <;> (try split) <;> omega
theorem Zoe (rs:List Rn) (hg:∀ r∈rs,Jw 1048576 r) (hN:rs.length≤1048576):∀ m,m≤rs.length→Za Yir (.loop Ztv) (Zf5 rs.length (pc rs) ((m:Int)-1)) (.exit 0) (Zf5 rs.length (pc rs) (((Z1 (Zi rs) m:Nat):Int)-1)):=by
 intro m
 induction m with
 | zero =>
  intro _
  exact Za.loop_out (Yk44_3 rs.length (pc rs) (((0:Nat):Int)-1) (by simp)) (by intro e;cases e)
 | succ m ih =>
  intro hm
  have e0:((m+1:Nat):Int)-1=(m:Int):=by omega
  have e1:i64.wrap ((m:Int)-1)=(m:Int)-1:=w64 (by omega) (by omega)
  have hx:=Bc (rs:=rs) (i:=m) (by omega)
  have gm:=Z9 hg m
  have hs:=H5 (neg:=(rs.getD m z0).1) gm.1 gm.2
  rw[e0]
  simp only[Z1]
  rw[Q1]
  by_cases h0:Zl (rs.getD m z0)=0
  ·rw[if_pos h0]
   have h1:=Yk44_1 rs.length (pc rs) (m:Int) (rs.getD m z0) (X2 (Zl (rs.getD m z0))) (by simp) (by rw[beq_iff_eq];exact Sk.2 h0) (by omega) (by rw[Int.toNat_natCast];exact hx) hs
   rw[e1] at h1
   exact Za.loop h1 (ih (by omega))
  ·rw[if_neg h0,e0]
   exact Za.loop_out (Yk44_2 rs.length (pc rs) (m:Int) (rs.getD m z0) (X2 (Zl (rs.getD m z0))) (by simp) (by rw[beq_eq_false_iff_ne];exact fun h=>h0 (Sk.1 h)) (by omega) (by rw[Int.toNat_natCast];exact hx) hs) (by intro e;cases e)
theorem Hh {rs:List Rn} (hg:∀ r∈rs,Jw 1048576 r) (hN:rs.length≤1048576):Ze Yir 44 [.sl rs.length (pc rs)] (.int .i64 (((Z1 (Zi rs) rs.length:Nat):Int)-1)):=by
 have e1:i64.wrap ((rs.length:Int)-1)=(rs.length:Int)-1:=w64 (by omega) (by omega)
 have hl:Za Yir (.loop Ztv) (Zf5 rs.length (pc rs) (i64.wrap ((rs.length:Int)-1))) (.exit 0) (Zf5 rs.length (pc rs) (((Z1 (Zi rs) rs.length:Nat):Int)-1)):=by
  rw[e1];exact Zoe rs hg hN rs.length (Nat.le_refl _)
 exact Ze.of_bodyW (fn:=Yi44) (s:=(.val (.sl rs.length (pc rs))::(dds 1 (.val (.int .i64 (((Z1 (Zi rs) rs.length:Nat):Int)-1))::(.val (.int .i64 (((Z1 (Zi rs) rs.length:Nat):Int)-1))::(dds 15 (.val (.int .i64 (((Z1 (Zi rs) rs.length:Nat):Int)-1))::[]))))))) (ex := .ret) rfl rfl
  (Za.seq (Za.script (t:=(.val (.sl rs.length (pc rs))::(dds 1 (.val (.int .i64 0)::(dds 17 []))))) (ex := .norm) (ps:=[]) Z5 300 [] [0,2] (by kernel_rfl) trivial)
  (Za.seq (Za.script (t:=(.val (.sl rs.length (pc rs))::(dds 1 (.val (.int .i64 0)::(.val (.int .i64 (i64.wrap ((rs.length:Int)-1)))::(dds 16 [])))))) (ex := .norm) (ps:=[]) Z5 300 [] [0,2,3] (by kernel_rfl) trivial)
  (Za.seq (Za.block hl)
  (Za.script (t:=(.val (.sl rs.length (pc rs))::(dds 1 (.val (.int .i64 (((Z1 (Zi rs) rs.length:Nat):Int)-1))::(.val (.int .i64 (((Z1 (Zi rs) rs.length:Nat):Int)-1))::(dds 15 (.val (.int .i64 (((Z1 (Zi rs) rs.length:Nat):Int)-1))::[]))))))) (ex := .ret) (ps:=[]) Z5 300 [] [0,2,3,19] (by kernel_rfl) trivial)))) (by intro i e;cases e) rfl
def Zlq (N:Nat) (cs:List AV) (n:Nat) (os:List AV) (m:Int) (i:Int):Zk:=(.val (.sl N cs)::(dds 1 (.own 2 0 []::(dds 1 (.own 2 n os::(dds 9 (.val (.int .i64 m)::(.val (.int .i64 i)::(dds 12 [])))))))))
theorem Yk58_1 (N:Nat) (cs:List AV) (n:Nat) (os:List AV) (m:Int) (i:Int) (ds:List AV) (r:Rn) (v:Int) (c1:(decide (i<m))=true) (n1:0≤i∧i<(N:Int)) (n2:Z4 (List.drop (Int.toNat i*2) cs) 0 2 false=some (.agg [.bool r.1, .sl r.2.length (lm r.2)])) (n3:Ze Yir 85 [.agg [.bool r.1, .sl r.2.length (lm r.2)]] (.agg [.bool (decide (v<0)), .sl ((Zb (Int.natAbs v)).length) (lm (Zb (Int.natAbs v)))])) (n4:0≤i∧i<(n:Int)) (n5:Xp os (Int.toNat i*2) [.bool (decide (v<0)), .sl ((Zb (Int.natAbs v)).length) (lm (Zb (Int.natAbs v)))]=some ds):Za Yir Yc58 (Zlq N cs n os m i) .norm (Zlq N cs n ds m (i64.wrap (i+1))):=Za.script (ps:=[(decide (i<m))=true,0≤i∧i<(N:Int),Z4 (List.drop (Int.toNat i*2) cs) 0 2 false=some (.agg [.bool r.1, .sl r.2.length (lm r.2)]),Ze Yir 85 [.agg [.bool r.1, .sl r.2.length (lm r.2)]] (.agg [.bool (decide (v<0)), .sl ((Zb (Int.natAbs v)).length) (lm (Zb (Int.natAbs v)))]),0≤i∧i<(n:Int),Xp os (Int.toNat i*2) [.bool (decide (v<0)), .sl ((Zb (Int.natAbs v)).length) (lm (Zb (Int.natAbs v)))]=some ds]) Z5 300 [.b true, .v (.agg [.bool r.1, .sl r.2.length (lm r.2)]), .r (.agg [.bool (decide (v<0)), .sl ((Zb (Int.natAbs v)).length) (lm (Zb (Int.natAbs v)))]), .l ds] [0,2,4,14,15] (by kernel_rfl) ⟨c1,n1,n2,n3,n4,n5,trivial⟩
theorem Yk58_2 (N:Nat) (cs:List AV) (n:Nat) (os:List AV) (m:Int) (i:Int) (c1:(decide (i<m))=false):Za Yir Yc58 (Zlq N cs n os m i) (.exit 0) (Zlq N cs n os m i):=Za.script (ps:=[(decide (i<m))=false]) Z5 300 [.b false] [0,2,4,14,15] (by kernel_rfl) ⟨c1,trivial⟩
theorem Zn9 (rs:List Rn) (hg:∀ r∈rs,Jw 1048576 r) (hN:rs.length≤1048576) (n:Nat) (hn:n≤rs.length):∀ (r i:Nat),i+r=n →
  Za Yir (.loop Yc58) (Zlq rs.length (pc rs) n (pc (Vz (fun j=>cn (Zl (rs.getD j z0))) i r)) (n:Int) (i:Int)) (.exit 0) (Zlq rs.length (pc rs) n (pc (Vz (fun j=>cn (Zl (rs.getD j z0))) n 0)) (n:Int) (n:Int)):=by
 intro r
 induction r with
 | zero =>
  intro i hi
  have hi':i=n:=by omega
  subst hi'
  exact Za.loop_out (Yk58_2 rs.length (pc rs) i _ (i:Int) (i:Int) (by simp)) (by intro e;cases e)
 | succ r ih =>
  intro i hi
  have ei:i64.wrap ((i:Int)+1)=((i+1:Nat):Int):=by rw[w64 (by omega) (by omega)];omega
  have hx:=Bc (rs:=rs) (i:=i) (by omega)
  have gm:=Z9 hg i
  have hs:=Zbp (neg:=(rs.getD i z0).1) gm.1 gm.2
  have hst:=Zc7 (rs:=Vz (fun j=>cn (Zl (rs.getD j z0))) i (r+1)) (i:=i) (r:=cn (Zl (rs.getD i z0))) (by rw[Gt];omega)
  rw[Ei (fun j=>cn (Zl (rs.getD j z0))) i r] at hst
  have h1:=Yk58_1 rs.length (pc rs) n _ (n:Int) (i:Int) _ (rs.getD i z0) (Zl (rs.getD i z0)) (by simp;omega) (by omega) (by rw[Int.toNat_natCast];exact hx) hs (by omega) (by rw[Int.toNat_natCast];exact hst)
  rw[ei] at h1
  exact Za.loop h1 (ih (i+1) (by omega))
theorem Zis (rs:List Rn) (hd:Ze Yir 44 [.sl rs.length (pc rs)] (.int .i64 (((Z1 (Zi rs) rs.length:Nat):Int)-1))) (hz:((i64.wrap ((((Z1 (Zi rs) rs.length:Nat):Int)-1)+1))==0)=true):Ze Yir 58 [.sl rs.length (pc rs)] (.fresh 2 0 []):=Ze.script (ps:=[Ze Yir 44 [.sl rs.length (pc rs)] (.int .i64 (((Z1 (Zi rs) rs.length:Nat):Int)-1)),((i64.wrap ((((Z1 (Zi rs) rs.length:Nat):Int)-1)+1))==0)=true]) Z5 rfl 300 rfl [.r (.int .i64 (((Z1 (Zi rs) rs.length:Nat):Int)-1)), .b true] (by kernel_rfl) ⟨hd,hz,trivial⟩
theorem Zit (rs ss:List Rn) (hd:Ze Yir 44 [.sl rs.length (pc rs)] (.int .i64 (((Z1 (Zi rs) rs.length:Nat):Int)-1))) (hz:((i64.wrap ((((Z1 (Zi rs) rs.length:Nat):Int)-1)+1))==0)=false) (hmk:0≤i64.wrap ((((Z1 (Zi rs) rs.length:Nat):Int)-1)+1)∧i64.wrap ((((Z1 (Zi rs) rs.length:Nat):Int)-1)+1)≤1048576) (hl:Za Yir (.loop Yc58) (Zlq rs.length (pc rs) (Int.toNat (i64.wrap ((((Z1 (Zi rs) rs.length:Nat):Int)-1)+1))) (Q5 [.bool false, .sl 0 []] (Int.toNat (i64.wrap ((((Z1 (Zi rs) rs.length:Nat):Int)-1)+1)))) (((Int.toNat (i64.wrap ((((Z1 (Zi rs) rs.length:Nat):Int)-1)+1))):Nat):Int) 0) (.exit 0) (Zlq rs.length (pc rs) (Int.toNat (i64.wrap ((((Z1 (Zi rs) rs.length:Nat):Int)-1)+1))) (pc ss) (((Int.toNat (i64.wrap ((((Z1 (Zi rs) rs.length:Nat):Int)-1)+1))):Nat):Int) (((Int.toNat (i64.wrap ((((Z1 (Zi rs) rs.length:Nat):Int)-1)+1))):Nat):Int))):Ze Yir 58 [.sl rs.length (pc rs)] (.fresh 2 (Int.toNat (i64.wrap ((((Z1 (Zi rs) rs.length:Nat):Int)-1)+1))) (pc ss)):=Ze.of_bodyW (fn:=Yi58) (s:=(.val (.sl rs.length (pc rs))::(dds 1 (.own 2 (Int.toNat (i64.wrap ((((Z1 (Zi rs) rs.length:Nat):Int)-1)+1))) (pc ss)::(dds 11 (.val (.int .i64 (((Int.toNat (i64.wrap ((((Z1 (Zi rs) rs.length:Nat):Int)-1)+1))):Nat):Int))::(.val (.int .i64 (((Int.toNat (i64.wrap ((((Z1 (Zi rs) rs.length:Nat):Int)-1)+1))):Nat):Int))::(dds 12 [])))))))) (ex := .ret) rfl rfl (Za.seq (Za.script (t:=(vp rs::(dds 1 (.own 2 0 []::(dds 25 []))))) (ps:=[]) Z5 300 [] [0,2] (by kernel_rfl) trivial) (Za.seq (Za.script (t:=(vp rs::(dds 1 (.own 2 0 []::(vi (i64.wrap ((((Z1 (Zi rs) rs.length:Nat):Int)-1)+1))::(dds 2 (vp rs::(vi (((Z1 (Zi rs) rs.length:Nat):Int)-1)::(vi (i64.wrap ((((Z1 (Zi rs) rs.length:Nat):Int)-1)+1))::(dds 19 [])))))))))) (ps:=[Ze Yir 44 [.sl rs.length (pc rs)] (.int .i64 (((Z1 (Zi rs) rs.length:Nat):Int)-1))]) Z5 300 [.r (.int .i64 (((Z1 (Zi rs) rs.length:Nat):Int)-1))] [0,2,3,6,7,8] (by kernel_rfl) ⟨hd,trivial⟩) (Za.seq (Za.script (t:=(vp rs::(dds 1 (.own 2 0 []::(vi (i64.wrap ((((Z1 (Zi rs) rs.length:Nat):Int)-1)+1))::(dds 2 (vp rs::(vi (((Z1 (Zi rs) rs.length:Nat):Int)-1)::(vi (i64.wrap ((((Z1 (Zi rs) rs.length:Nat):Int)-1)+1))::(vi (i64.wrap ((((Z1 (Zi rs) rs.length:Nat):Int)-1)+1))::(.val (.bool ((i64.wrap ((((Z1 (Zi rs) rs.length:Nat):Int)-1)+1))==0))::(dds 17 [])))))))))))) (ps:=[((i64.wrap ((((Z1 (Zi rs) rs.length:Nat):Int)-1)+1))==0)=false]) Z5 300 [.b false] [0,2,3,6,7,8,9,10] (by kernel_rfl) ⟨hz,trivial⟩) (Za.seq (Za.script (t:=(vp rs::(dds 1 (.own 2 0 []::(vi (i64.wrap ((((Z1 (Zi rs) rs.length:Nat):Int)-1)+1))::(.own 2 (Int.toNat (i64.wrap ((((Z1 (Zi rs) rs.length:Nat):Int)-1)+1))) (Q5 [.bool false, .sl 0 []] (Int.toNat (i64.wrap ((((Z1 (Zi rs) rs.length:Nat):Int)-1)+1))))::(dds 1 (vp rs::(vi (((Z1 (Zi rs) rs.length:Nat):Int)-1)::(vi (i64.wrap ((((Z1 (Zi rs) rs.length:Nat):Int)-1)+1))::(vi (i64.wrap ((((Z1 (Zi rs) rs.length:Nat):Int)-1)+1))::(.val (.bool ((i64.wrap ((((Z1 (Zi rs) rs.length:Nat):Int)-1)+1))==0))::(vi (i64.wrap ((((Z1 (Zi rs) rs.length:Nat):Int)-1)+1))::(dds 16 [])))))))))))))) (ps:=[0≤(i64.wrap ((((Z1 (Zi rs) rs.length:Nat):Int)-1)+1))∧(i64.wrap ((((Z1 (Zi rs) rs.length:Nat):Int)-1)+1))≤1048576]) Z5 300 [] [0,2,3,4,6,7,8,9,10,11] (by kernel_rfl) ⟨hmk,trivial⟩) (Za.seq (Za.seq (Za.script (t:=(vp rs::(dds 1 (.own 2 0 []::(dds 1 (.own 2 (Int.toNat (i64.wrap ((((Z1 (Zi rs) rs.length:Nat):Int)-1)+1))) (Q5 [.bool false, .sl 0 []] (Int.toNat (i64.wrap ((((Z1 (Zi rs) rs.length:Nat):Int)-1)+1))))::(dds 9 (vi (((Int.toNat (i64.wrap ((((Z1 (Zi rs) rs.length:Nat):Int)-1)+1))):Nat):Int)::(vi 0::(dds 12 [])))))))))) (ps:=[]) Z5 300 [] [0,2,4,14,15] (by kernel_rfl) trivial) (Za.block hl)) (Za.script (t:=(vp rs::(dds 1 (.own 2 (Int.toNat (i64.wrap ((((Z1 (Zi rs) rs.length:Nat):Int)-1)+1))) (pc ss)::(dds 11 (vi (((Int.toNat (i64.wrap ((((Z1 (Zi rs) rs.length:Nat):Int)-1)+1))):Nat):Int)::(vi (((Int.toNat (i64.wrap ((((Z1 (Zi rs) rs.length:Nat):Int)-1)+1))):Nat):Int)::(dds 12 [])))))))) (ex := .ret) (ps:=[]) Z5 300 [] [0,2,14,15] (by kernel_rfl) trivial)))))) (by intro i e;cases e) rfl
theorem Ad {rs:List Rn} (hg:∀ r∈rs,Jw 1048576 r) (hN:rs.length≤1048576):Ze Yir 58 [.sl rs.length (pc rs)] (.fresh 2 (Zd (Zi rs)).length (pk (Zd (Zi rs)))):=by
 have hle:=Wd (Zi rs) rs.length
 have hlen:(Zd (Zi rs)).length=Z1 (Zi rs) rs.length:=by rw[X9,Zs]
 have hd:=Hh hg hN
 have e1:i64.wrap ((((Z1 (Zi rs) rs.length:Nat):Int)-1)+1)=((Z1 (Zi rs) rs.length:Nat):Int):=by rw[w64 (by omega) (by omega)];omega
 have e2:(Int.toNat (i64.wrap ((((Z1 (Zi rs) rs.length:Nat):Int)-1)+1)))=Z1 (Zi rs) rs.length:=by rw[e1,Int.toNat_natCast]
 by_cases h0:Z1 (Zi rs) rs.length=0
 ·have h:=Zis rs hd (by rw[e1,h0];rfl)
  have:Zd (Zi rs)=[]:=List.eq_nil_of_length_eq_zero (by omega)
  rw[this]
  exact h
 ·have hl:=Zn9 rs hg hN (Z1 (Zi rs) rs.length) hle (Z1 (Zi rs) rs.length) 0 (by omega)
  rw[B8,← E2] at hl
  have h:=Zit rs _ hd (by rw[e1,beq_eq_false_iff_ne];omega) (by rw[e1];omega) (by rw[e2];exact hl)
  rw[e2,B9] at h
  have e3:(List.range (Z1 (Zi rs) rs.length)).map (fun j=>cn (Zl (rs.getD j z0)))=(Zd (Zi rs)).map cn:=by
   rw[← E3,hlen]
   apply List.map_congr_left
   intro i _
   rw[Jg,Q1]
  rw[e3] at h
  rw[hlen]
  exact h
def Zly (N:Nat) (cs:List AV) (n:Nat) (os:List AV) (m:Int) (i:Int):Zk:=(.val (.sl N cs)::(dds 1 (.own 2 0 []::(.own 2 n os::(dds 5 (.val (.int .i64 m)::(.val (.int .i64 i)::(dds 12 []))))))))
theorem Yk36_1 (N:Nat) (cs:List AV) (n:Nat) (os:List AV) (m:Int) (i:Int) (ds:List AV) (r:Rn) (v:Int) (c1:(decide (i<m))=true) (n1:0≤i∧i<(N:Int)) (n2:Z4 (List.drop (Int.toNat i*2) cs) 0 2 false=some (.agg [.bool r.1, .sl r.2.length (lm r.2)])) (n3:Ze Yir 66 [.agg [.bool r.1, .sl r.2.length (lm r.2)]] (.agg [.bool (decide (v<0)), .sl ((Zb (Int.natAbs v)).length) (lm (Zb (Int.natAbs v)))])) (n4:0≤i∧i<(n:Int)) (n5:Xp os (Int.toNat i*2) [.bool (decide (v<0)), .sl ((Zb (Int.natAbs v)).length) (lm (Zb (Int.natAbs v)))]=some ds):Za Yir Yc36 (Zly N cs n os m i) .norm (Zly N cs n ds m (i64.wrap (i+1))):=Za.script (ps:=[(decide (i<m))=true,0≤i∧i<(N:Int),Z4 (List.drop (Int.toNat i*2) cs) 0 2 false=some (.agg [.bool r.1, .sl r.2.length (lm r.2)]),Ze Yir 66 [.agg [.bool r.1, .sl r.2.length (lm r.2)]] (.agg [.bool (decide (v<0)), .sl ((Zb (Int.natAbs v)).length) (lm (Zb (Int.natAbs v)))]),0≤i∧i<(n:Int),Xp os (Int.toNat i*2) [.bool (decide (v<0)), .sl ((Zb (Int.natAbs v)).length) (lm (Zb (Int.natAbs v)))]=some ds]) Z5 300 [.b true, .v (.agg [.bool r.1, .sl r.2.length (lm r.2)]), .r (.agg [.bool (decide (v<0)), .sl ((Zb (Int.natAbs v)).length) (lm (Zb (Int.natAbs v)))]), .l ds] [0,2,3,9,10] (by kernel_rfl) ⟨c1,n1,n2,n3,n4,n5,trivial⟩
theorem Yk36_2 (N:Nat) (cs:List AV) (n:Nat) (os:List AV) (m:Int) (i:Int) (c1:(decide (i<m))=false):Za Yir Yc36 (Zly N cs n os m i) (.exit 0) (Zly N cs n os m i):=Za.script (ps:=[(decide (i<m))=false]) Z5 300 [.b false] [0,2,3,9,10] (by kernel_rfl) ⟨c1,trivial⟩
theorem Zof (rs:List Rn) (hg:∀ r∈rs,Jw 1048576 r) (hN:rs.length≤1048576) (n:Nat) (hn:n≤rs.length):∀ (r i:Nat),i+r=n →
  Za Yir (.loop Yc36) (Zly rs.length (pc rs) n (pc (Vz (fun j=>cn (-(Zl (rs.getD j z0)))) i r)) (n:Int) (i:Int)) (.exit 0) (Zly rs.length (pc rs) n (pc (Vz (fun j=>cn (-(Zl (rs.getD j z0)))) n 0)) (n:Int) (n:Int)):=by
 intro r
 induction r with
 | zero =>
  intro i hi
  have hi':i=n:=by omega
  subst hi'
  exact Za.loop_out (Yk36_2 rs.length (pc rs) i _ (i:Int) (i:Int) (by simp)) (by intro e;cases e)
 | succ r ih =>
  intro i hi
  have ei:i64.wrap ((i:Int)+1)=((i+1:Nat):Int):=by rw[w64 (by omega) (by omega)];omega
  have hx:=Bc (rs:=rs) (i:=i) (by omega)
  have gm:=Z9 hg i
  have hs:=R1 (neg:=(rs.getD i z0).1) gm.1 gm.2
  have hst:=Zc7 (rs:=Vz (fun j=>cn (-(Zl (rs.getD j z0)))) i (r+1)) (i:=i) (r:=cn (-(Zl (rs.getD i z0)))) (by rw[Gt];omega)
  rw[Ei (fun j=>cn (-(Zl (rs.getD j z0)))) i r] at hst
  have h1:=Yk36_1 rs.length (pc rs) n _ (n:Int) (i:Int) _ (rs.getD i z0) (-(Zl (rs.getD i z0))) (by simp;omega) (by omega) (by rw[Int.toNat_natCast];exact hx) hs (by omega) (by rw[Int.toNat_natCast];exact hst)
  rw[ei] at h1
  exact Za.loop h1 (ih (i+1) (by omega))
theorem Yrun36 (rs ss:List Rn) (hmk:0≤(rs.length:Int)∧(rs.length:Int)≤1048576) (hl:Za Yir (.loop Yc36) (Zly rs.length (pc rs) (Int.toNat (rs.length:Int)) (Q5 [.bool false, .sl 0 []] (Int.toNat (rs.length:Int))) (rs.length:Int) 0) (.exit 0) (Zly rs.length (pc rs) (Int.toNat (rs.length:Int)) (pc ss) (rs.length:Int) (rs.length:Int))):Ze Yir 36 [.sl rs.length (pc rs)] (.fresh 2 (Int.toNat (rs.length:Int)) (pc ss)):=Ze.of_bodyW (fn:=Yi36) (s:=(.val (.sl rs.length (pc rs))::(dds 1 (.own 2 (Int.toNat (rs.length:Int)) (pc ss)::(dds 6 (.val (.int .i64 (rs.length:Int))::(.val (.int .i64 (rs.length:Int))::(dds 12 [])))))))) (ex := .ret) rfl rfl (Za.seq (Za.script (t:=(vp rs::(dds 1 (.own 2 0 []::(dds 20 []))))) (ps:=[]) Z5 300 [] [0,2] (by kernel_rfl) trivial) (Za.seq (Za.script (t:=(vp rs::(dds 1 (.own 2 0 []::(.own 2 (Int.toNat (rs.length:Int)) (Q5 [.bool false, .sl 0 []] (Int.toNat (rs.length:Int)))::(dds 1 (vp rs::(vi (rs.length:Int)::(dds 16 []))))))))) (ps:=[0≤(rs.length:Int)∧(rs.length:Int)≤1048576]) Z5 300 [] [0,2,3,5,6] (by kernel_rfl) ⟨hmk,trivial⟩) (Za.seq (Za.seq (Za.script (t:=(vp rs::(dds 1 (.own 2 0 []::(.own 2 (Int.toNat (rs.length:Int)) (Q5 [.bool false, .sl 0 []] (Int.toNat (rs.length:Int)))::(dds 5 (vi (rs.length:Int)::(vi 0::(dds 12 []))))))))) (ps:=[]) Z5 300 [] [0,2,3,9,10] (by kernel_rfl) trivial) (Za.block hl)) (Za.script (t:=(vp rs::(dds 1 (.own 2 (Int.toNat (rs.length:Int)) (pc ss)::(dds 6 (vi (rs.length:Int)::(vi (rs.length:Int)::(dds 12 [])))))))) (ex := .ret) (ps:=[]) Z5 300 [] [0,2,9,10] (by kernel_rfl) trivial)))) (by intro i e;cases e) rfl
theorem W8 {rs:List Rn} (hg:∀ r∈rs,Jw 1048576 r) (hN:rs.length≤1048576):Ze Yir 36 [.sl rs.length (pc rs)] (.fresh 2 rs.length (pk (Vc (Zi rs)))):=by
 have hl:=Zof rs hg hN rs.length (Nat.le_refl _) rs.length 0 (by omega)
 rw[B8,← E2] at hl
 have h:=Yrun36 rs _ (by omega) (by rw[Int.toNat_natCast];exact hl)
 rw[Int.toNat_natCast,B9] at h
 have e3:(List.range rs.length).map (fun j=>cn (-(Zl (rs.getD j z0))))=(Vc (Zi rs)).map cn:=by
  have hq:(Vc (Zi rs)).length=rs.length:=by simp[Vc,Zi]
  rw[← E3,hq]
  apply List.map_congr_left
  intro i _
  rw[U6,Q1]
 rw[e3] at h
 exact h
def TAA:J6:=TWC
theorem Qk:Q9 Yir TAA:=Z5
end Go.Proofs.YthnnfemologhfaaGreat

namespace Go.Proofs.YthnnfemologhfaaGreat
open Go.IntKind (i64 u64 u32)
open Go.Ai
set_option maxRecDepth 100000
def Zf4 (rs:List Rn) (w:Rn) (i:Int) (z:Rn):Zk:=(.val (.sl rs.length (pc rs))::(dds 1 (.box [.bool z.1, .sl z.2.length (lm z.2)]::(.box [.bool w.1, .sl w.2.length (lm w.2)]::(.val (.int .i64 i)::(dds 19 []))))))
theorem Yk59_1 (rs:List Rn) (w:Rn) (i:Int) (z:Rn) (b g:Int) (c1:(decide (i≥0))=true) (c2:(b != 1)=true) (n1:0≤i∧i<(rs.length:Int)) (n2:Ze Yir 46 [Zt w] (.int .i64 b)) (n3:Ze Yir 67 [Zt w,Zt (rs.getD (Int.toNat i) z0)] (Zn g)):Za Yir Ztu (Zf4 rs w i z) .norm (Zf4 rs (cn g) (i64.wrap (i-1)) z):=(Za.go Qe 400 [.b true, .r (.int .i64 b), .b true, .v (Zt (rs.getD (Int.toNat i) z0)), .r (Zn g)] [0,2,3,4] (ac c1 (ac n2 (ac c2 (ac n1 (ac (Qh n1) (ac n3 a0)))))))
theorem Yk59_2 (rs:List Rn) (w:Rn) (i:Int) (z:Rn) (b:Int) (c1:(decide (i≥0))=true) (c2:(b != 1)=false) (n1:Ze Yir 46 [Zt w] (.int .i64 b)):Za Yir Ztu (Zf4 rs w i z) (.exit 0) (Zf4 rs w i z):=(Za.go Qe 400 [.b true, .r (.int .i64 b), .b false] [0,2,3,4] (ac c1 (ac n1 (ac c2 a0))))
theorem Yk59_3 (rs:List Rn) (w:Rn) (i:Int) (z:Rn)  (c1:(decide (i≥0))=false):Za Yir Ztu (Zf4 rs w i z) (.exit 0) (Zf4 rs w i z):=(Za.go Qe 400 [.b false, .b false] [0,2,3,4] (ac c1 (ac (show false=false from rfl) a0)))
theorem Yrun59 (rs:List Rn) (w z:Rn) (i:Int) (hl1:Za Yir (.loop Ztu) (Zf4 rs (false,[]) (i64.wrap ((rs.length:Int)-1)) (false,[])) (.exit 0) (Zf4 rs w i z)):Ze Yir 59 [.sl rs.length (pc rs)] (Zt w):=Ze.of_bodyW (fn:=Yi59) (s:=(dds 2 (.box [.bool w.1, .sl w.2.length (lm w.2)]::(dds 21 [])))) (ex := .ret) rfl rfl (Za.seq (Za.go (t:=(vp rs::(dds 1 (.box [.bool false, .sl 0 []]::(dds 21 []))))) Qe 400 [] [0,2] a0) (Za.seq (Za.go (t:=(vp rs::(dds 1 (.box [.bool false, .sl 0 []]::(.box [.bool false, .sl 0 []]::(dds 20 [])))))) Qe 400 [] [0,2,3] a0) (Za.seq (Za.seq (Za.go Qe 400 [] [0,2,3,4] a0) (Za.block hl1)) (Za.go Qe 400 [] [2] a0)))) (by intro i e;cases e) rfl
def Zf6 (k:Nat) (os:List Rn) (w:Rn) (n:Int) (i:Int):Zk:=(dds 3 (.own 2 k (pc os)::(.box [.bool w.1, .sl w.2.length (lm w.2)]::(dds 9 (.val (.int .i64 n)::(.val (.int .i64 i)::(dds 16 [])))))))
theorem Yk33_1 (k:Nat) (os:List Rn) (w:Rn) (n:Int) (i:Int) (q r:Int) (c1:(decide (i<n))=true) (n1:0≤i∧i<(k:Int)) (n2:os.length=k) (n3:Ze Yir 60 [Zt (os.getD (Int.toNat i) z0),Zt w] (.tup [Zn q,Zn r])):Za Yir Ztw (Zf6 k os w n i) .norm (Zf6 k (os.set (Int.toNat i) (cn q)) w n (i64.wrap (i+1))):=(Za.go Qe 400 [.b true, .v (Zt (os.getD (Int.toNat i) z0)), .r (.tup [Zn q,Zn r]), .l (pc (os.set (Int.toNat i) (cn q)))] [3,4,14,15] (ac c1 (ac n1 (ac (Vw n2 n1) (ac n3 (ac n1 (ac (Wg (r:=cn q) n2 n1) a0)))))))
theorem Yk33_2 (k:Nat) (os:List Rn) (w:Rn) (n:Int) (i:Int)  (c1:(decide (i<n))=false):Za Yir Ztw (Zf6 k os w n i) (.exit 0) (Zf6 k os w n i):=(Za.go Qe 400 [.b false] [3,4,14,15] (ac c1 a0))
theorem Zi3 (rs ts os:List Rn) (w:Rn) (g b n i:Int) (k:Nat) (c1:(decide (b>1))=true) (n1:Ze Yir 58 [.sl rs.length (pc rs)] (.fresh 2 ts.length (pc ts))) (n2:List.all (pc ts) (fun c => !isI c)=true) (n3:U1 (Zn g)=true) (n4:Ze Yir 59 [.sl ts.length (pc ts)] (Zn g)) (n5:Ze Yir 46 [Zn g] (.int .i64 b)) (hl6:Za Yir (.loop Ztw) (Zf6 ts.length ts (cn g) (ts.length:Int) 0) (.exit 0) (Zf6 k os w n i)):Ze Yir 33 [.sl rs.length (pc rs)] (.fresh 2 k (pc os)):=Ze.of_bodyW (fn:=Zto) (s:=(dds 2 (.own 2 k (pc os)::(dds 29 [])))) (ex := .ret) rfl rfl (Za.seq (Za.go (t:=(vp rs::(dds 1 (.own 2 0 []::(dds 29 []))))) Qe 400 [] [0,2] a0) (Za.seq (Za.go (t:=(vp rs::(dds 1 (.own 2 0 []::(.own 2 ts.length (pc ts)::(dds 28 [])))))) Qe 400 [.r (.fresh 2 ts.length (pc ts))] [0,2,3] (ac n1 a0)) (Za.seq (Za.go (t:=(vp rs::(dds 1 (.own 2 0 []::(.own 2 ts.length (pc ts)::(bN g::(dds 27 []))))))) Qe 400 [.r (Zn g)] [0,2,3,4] (ac n2 (ac n3 (ac n4 a0)))) (Za.seq (Za.seq (Za.go (t:=(vp rs::(dds 1 (.own 2 0 []::(.own 2 ts.length (pc ts)::(bN g::(dds 7 (.val (.bool (decide (b>1)))::(dds 19 []))))))))) Qe 400 [.r (.int .i64 b)] [0,2,3,4,12] (ac n5 a0)) (Za.cond_t (by rfl) c1 (Za.seq (Za.go Qe 400 [] [3,4,14,15] a0) (Za.block hl6)))) (Za.go Qe 400 [] [2] a0))))) (by intro i e;cases e) rfl
theorem Zi2 (rs ts:List Rn) (g b:Int) (c1:(decide (b>1))=false) (n1:Ze Yir 58 [.sl rs.length (pc rs)] (.fresh 2 ts.length (pc ts))) (n2:List.all (pc ts) (fun c => !isI c)=true) (n3:U1 (Zn g)=true) (n4:Ze Yir 59 [.sl ts.length (pc ts)] (Zn g)) (n5:Ze Yir 46 [Zn g] (.int .i64 b)):Ze Yir 33 [.sl rs.length (pc rs)] (.fresh 2 ts.length (pc ts)):=Ze.of_bodyW (fn:=Zto) (s:=(dds 2 (.own 2 ts.length (pc ts)::(dds 29 [])))) (ex := .ret) rfl rfl (Za.seq (Za.go (t:=(vp rs::(dds 1 (.own 2 0 []::(dds 29 []))))) Qe 400 [] [0,2] a0) (Za.seq (Za.go (t:=(vp rs::(dds 1 (.own 2 0 []::(.own 2 ts.length (pc ts)::(dds 28 [])))))) Qe 400 [.r (.fresh 2 ts.length (pc ts))] [0,2,3] (ac n1 a0)) (Za.seq (Za.go (t:=(vp rs::(dds 1 (.own 2 0 []::(.own 2 ts.length (pc ts)::(bN g::(dds 27 []))))))) Qe 400 [.r (Zn g)] [0,2,3,4] (ac n2 (ac n3 (ac n4 a0)))) (Za.seq (Za.seq (Za.go (t:=(vp rs::(dds 1 (.own 2 0 []::(.own 2 ts.length (pc ts)::(bN g::(dds 7 (.val (.bool (decide (b>1)))::(dds 19 []))))))))) Qe 400 [.r (.int .i64 b)] [0,2,3,4,12] (ac n5 a0)) (Za.cond_f (by rfl) c1 (Za.go (t:=(dds 2 (.own 2 0 []::(.own 2 ts.length (pc ts)::(dds 28 []))))) Qe 400 [] [2,3] a0))) (Za.go Qe 400 [] [2] a0))))) (by intro i e;cases e) rfl
theorem Zir (rs ts:List Rn) (s:Int) (c1:(decide ((rs.length:Int)>0))=true) (c2:(decide (s<0))=true) (n1:0≤(i64.wrap ((rs.length:Int)-1))∧(i64.wrap ((rs.length:Int)-1))<(rs.length:Int)) (n2:Ze Yir 69 [Zt (rs.getD (Int.toNat (i64.wrap ((rs.length:Int)-1))) z0)] (.int .i64 s)) (n3:Ze Yir 36 [.sl rs.length (pc rs)] (.fresh 2 ts.length (pc ts))):Ze Yir 61 [.sl rs.length (pc rs)] (.fresh 2 ts.length (pc ts)):=Ze.go (fn:=Zri) Qe rfl 400 rfl [.b true, .v (Zt (rs.getD (Int.toNat (i64.wrap ((rs.length:Int)-1))) z0)), .r (.int .i64 s), .b true, .r (.fresh 2 ts.length (pc ts))] (ac c1 (ac n1 (ac (Qh n1) (ac n2 (ac c2 (ac n3 a0))))))
theorem Ziq (rs:List Rn) (s:Int) (c1:(decide ((rs.length:Int)>0))=true) (c2:(decide (s<0))=false) (n1:0≤(i64.wrap ((rs.length:Int)-1))∧(i64.wrap ((rs.length:Int)-1))<(rs.length:Int)) (n2:Ze Yir 69 [Zt (rs.getD (Int.toNat (i64.wrap ((rs.length:Int)-1))) z0)] (.int .i64 s)):Ze Yir 61 [.sl rs.length (pc rs)] (.sl rs.length (pc rs)):=Ze.go (fn:=Zri) Qe rfl 400 rfl [.b true, .v (Zt (rs.getD (Int.toNat (i64.wrap ((rs.length:Int)-1))) z0)), .r (.int .i64 s), .b false] (ac c1 (ac n1 (ac (Qh n1) (ac n2 (ac c2 a0)))))
theorem Zip (rs:List Rn) (c1:(decide ((rs.length:Int)>0))=false):Ze Yir 61 [.sl rs.length (pc rs)] (.sl rs.length (pc rs)):=Ze.go (fn:=Zri) Qe rfl 400 rfl [.b false, .b false] (ac c1 (ac (show false=false from rfl) a0))
def Zlz (rs:List Rn) (k:Nat) (cs:List AV) (i:Int):Zk:=(.val (.sl rs.length (pc rs))::(dds 2 (.own 2 k cs::(.val (.int .i64 i)::(dds 18 [])))))
theorem Yk35_1 (rs:List Rn) (k:Nat) (cs:List AV) (i:Int) (d v:Int) (c1:(decide (i≤d))=true) (n1:0≤i∧i<(rs.length:Int)) (n2:k+1≤1048576) (n3:Ze Yir 44 [.sl rs.length (pc rs)] (.int .i64 d)) (n4:Ze Yir 65 [.int .i64 i] (Zn i)) (n5:Ze Yir 64 [Zt (rs.getD (Int.toNat i) z0),Zn i] (Zn v)):Za Yir Yc35 (Zlz rs k cs i) .norm (Zlz rs (k+1) (cs++([.bool (decide (v<0)), .sl ((Zb (Int.natAbs v)).length) (lm (Zb (Int.natAbs v)))]:List AV)) (i64.wrap (i+1))):=(Za.go Qe 400 [.r (.int .i64 d), .b true, .v (Zt (rs.getD (Int.toNat i) z0)), .r (Zn i), .r (Zn v)] [0,3,4] (ac n3 (ac c1 (ac n1 (ac (Qh n1) (ac n4 (ac n5 (ac (show List.length ([.bool (decide (v<0)), .sl ((Zb (Int.natAbs v)).length) (lm (Zb (Int.natAbs v)))]:List AV)=1*2 from rfl) (ac n2 a0)))))))))
theorem Yk35_2 (rs:List Rn) (k:Nat) (cs:List AV) (i:Int) (d:Int) (c1:(decide (i≤d))=false) (n1:Ze Yir 44 [.sl rs.length (pc rs)] (.int .i64 d)):Za Yir Yc35 (Zlz rs k cs i) (.exit 0) (Zlz rs k cs i):=(Za.go Qe 400 [.r (.int .i64 d), .b false] [0,3,4] (ac n1 (ac c1 a0)))
theorem Yrun35 (rs os ts:List Rn) (k:Nat) (i:Int) (hl1:Za Yir (.loop Yc35) (Zlz rs 0 ([]:List AV) 1) (.exit 0) (Zlz rs k (pc os) i)) (n2:Ze Yir 58 [.sl k (pc os)] (.fresh 2 ts.length (pc ts))):Ze Yir 35 [.sl rs.length (pc rs)] (.fresh 2 ts.length (pc ts)):=Ze.of_bodyW (fn:=Yi35) (s:=(dds 2 (.own 2 ts.length (pc ts)::(dds 20 [])))) (ex := .ret) rfl rfl (Za.seq (Za.go (t:=(vp rs::(dds 1 (.own 2 0 []::(dds 20 []))))) Qe 400 [] [0,2] a0) (Za.seq (Za.go (t:=(vp rs::(dds 1 (.own 2 0 []::(.own 2 0 []::(dds 19 [])))))) Qe 400 [] [0,2,3] a0) (Za.seq (Za.seq (Za.go Qe 400 [] [0,3,4] a0) (Za.block hl1)) (Za.go Qe 400 [.r (.fresh 2 ts.length (pc ts))] [2] (ac n2 a0))))) (by intro i e;cases e) rfl
def TRA:J6:=TQE
theorem Zfw:Q9 Yir TRA:=Qe
end Go.Proofs.YthnnfemologhfaaGreat

namespace Go.Ai
open Go.IntKind (i64 u64 u32)
def Jb:List Int→Nat
 | []=>0
 | x::xs=>Nat.gcd x.natAbs (Jb xs)
theorem Hg (d:Nat):∀ xs:List Int,d∣Jb xs↔∀ i,(d:Int)∣xs.getD i 0
 | []=>by simp[Jb]
 | x::xs=>by
  have ih:=Hg d xs
  simp only[Jb,Nat.dvd_gcd_iff,ih]
  constructor
  ·rintro⟨h1,h2⟩ i
   cases i with
   | zero=>simpa using Int.ofNat_dvd_left.2 h1
   | succ i=>simpa using h2 i
  ·intro h
   refine⟨Int.ofNat_dvd_left.1 (by simpa using h 0),fun i=>by simpa using h (i+1)⟩
theorem Vk (xs:List Int) (i:Nat):(Jb xs:Int)∣xs.getD i 0:=(Hg _ xs).1 (Nat.dvd_refl _) i
theorem Ni {xs ys:List Int} (h:∀ i,xs.getD i 0=ys.getD i 0):Jb xs=Jb ys :=
 Nat.dvd_antisymm ((Hg _ _).2 fun i=>h i ▸ Vk xs i) ((Hg _ _).2 fun i=>h i ▸ Vk ys i)
theorem Mt (xs:List Int):Jb (Zd xs)=Jb xs:=Ni (Jg xs)
theorem K0 {xs:List Int}:Jb xs=0↔∀ i,xs.getD i 0=0:=by
 constructor
 ·intro h i
  have:=Vk xs i
  rw[h] at this
  exact Int.zero_dvd.1 this
 ·intro h
  have:Jb xs=Jb []:=Ni fun i=>by rw[h i];simp
  rw[this];rfl
theorem Hi (k:Int):∀ xs:List Int,Jb (Zx k xs)=k.natAbs*Jb xs
 | []=>rfl
 | x::xs=>by
  have ih:=Hi k xs
  simp only[Zx,List.map_cons,Jb] at *
  rw[ih,Int.natAbs_mul,Nat.gcd_mul_left]
theorem Xg {xs:List Int}:Zd xs=[]↔∀ i,xs.getD i 0=0:=by
 constructor
 ·intro h i
  rw[← Jg,h];simp
 ·intro h
  have:Zd xs=Zd []:=V9 fun i=>by rw[h i];simp
  rw[this];rfl
theorem Hj {xs:List Int} (h:Zd xs ≠ []):0<Jb xs:=by
 rcases Nat.eq_zero_or_pos (Jb xs) with g | g
 ·exact absurd (Xg.2 (K0.1 g)) h
 ·exact g
theorem K6 {k:Int} (hk:k ≠ 0) (xs:List Int):Zd (Zx k xs)=Zx k (Zd xs):=by
 have e:∀ n,Z1 (Zx k xs) n=Z1 xs n:=by
  intro n
  induction n with
  | zero=>rfl
  | succ n ih =>
   simp only[Z1,ih,Z7]
   by_cases h:xs.getD n 0=0
   ·rw[h,Int.mul_zero]
   ·rw[if_neg h,if_neg (Int.mul_ne_zero hk h)]
 simp only[Zd]
 rw[e,show (Zx k xs).length=xs.length by simp[Zx]]
 simp[Zx,List.map_take]
def prim (xs:List Int):List Int:=(Zd xs).map fun x=>x / (Jb xs:Int)
theorem Wr (xs:List Int) (i:Nat):(prim xs).getD i 0=xs.getD i 0 / (Jb xs:Int):=by
 rw[← Jg xs i]
 simp only[prim,List.getD_eq_getElem?_getD,List.getElem?_map]
 cases (Zd xs)[i]? <;> simp
theorem Qq (xs:List Int):(prim xs).length=(Zd xs).length:=by simp [prim]
theorem St (xs:List Int) (i:Nat):(Jb xs:Int)*(prim xs).getD i 0=xs.getD i 0:=by
 rw[Wr];exact Int.mul_ediv_cancel' (Vk xs i)
theorem Gc {xs ys:List Int} (h:∀ i,xs.getD i 0=ys.getD i 0):prim xs=prim ys:=by
 simp only[prim];rw[V9 h,Ni h]
theorem Uz {xs:List Int}:prim xs=[]↔∀ i,xs.getD i 0=0:=by
 rw[← Xg];simp[prim]
theorem Fb {k:Int} (hk:0<k) (xs:List Int):prim (Zx k xs)=prim xs:=by
 simp only[prim]
 rw[K6 (by omega),Hi]
 simp only[Zx,List.map_map]
 apply List.map_congr_left
 intro x _
 simp only[Function.comp]
 rw[Int.natCast_mul,Int.natAbs_of_nonneg (by omega),Int.mul_ediv_mul_of_pos _ _ hk]
theorem L9 {k:Int} (hk:0<k) {xs ys:List Int} (h:∀ i,ys.getD i 0=k*xs.getD i 0):prim ys=prim xs:=by
 rw[← Fb hk xs]
 exact Gc fun i=>by rw[h,Z7]
theorem Zbw {xs:List Int} (h:Z1 xs xs.length=xs.length):Zd xs=xs:=by simp [Zd,h]
def Vl (xs:List Int):Prop:=Zd xs=xs
theorem Kw (xs:List Int):Vl (Zd xs):=Nt xs
theorem Vi {xs:List Int} (h:Vl xs) (hn:xs ≠ []):xs.getD (xs.length-1) 0 ≠ 0:=by
 have e:=congrArg List.length h
 rw[X9] at e
 rcases Sa xs xs.length with g | g
 ·rw[g] at e
  exact absurd (List.eq_nil_of_length_eq_zero e.symm) hn
 ·rw[e] at g;exact g
theorem Pj {xs:List Int} (h:xs=[]∨xs.getD (xs.length-1) 0 ≠ 0):Vl xs:=by
 rcases h with rfl | h
 ·rfl
 ·cases hl:xs.length with
  | zero=>rw[List.eq_nil_of_length_eq_zero hl];rfl
  | succ n =>
   apply Zbw
   rw[hl]
   simp only[Z1]
   rw[if_neg (by rw[hl] at h;simpa using h)]
theorem Zam {k:Int} (hk:k ≠ 0) {xs:List Int} (h:Vl xs):Vl (Zx k xs):=by
 unfold Vl;rw[K6 hk,h]
theorem K8 (xs:List Int):Zx (Jb xs) (prim xs)=Zd xs:=by
 apply He
 ·simp[Zx,Qq]
 ·intro i
  rw[Z7,St,Jg]
theorem Qr (xs:List Int):Vl (prim xs):=by
 by_cases h:Zd xs=[]
 ·rw[Uz.2 (Xg.1 h)];rfl
 ·have hc:=Hj h
  have h1:=Kw xs
  rw[← K8] at h1
  unfold Vl at h1 ⊢
  rw[K6 (by omega)] at h1
  have hinj:∀ a b:List Int,Zx (Jb xs) a=Zx (Jb xs) b→a=b:=by
   intro a b hab
   have hl:=congrArg List.length hab
   simp only[Zx,List.length_map] at hl
   apply He hl
   intro i
   have:=congrArg (fun l:List Int=>l.getD i 0) hab
   simp only[Z7] at this
   exact Int.eq_of_mul_eq_mul_left (by omega) this
  exact hinj _ _ h1
theorem K1 {xs:List Int} (h:Zd xs ≠ []):Jb (prim xs)=1:=by
 have hc:=Hj h
 have h1:=Hi (Jb xs) (prim xs)
 rw[K8,Mt,Int.natAbs_natCast] at h1
 have h2:Jb xs*1=Jb xs*Jb (prim xs):=by rw[Nat.mul_one];exact h1
 exact (Nat.eq_of_mul_eq_mul_left hc h2).symm
theorem E5 {xs:List Int} (h:Jb xs=1):prim xs=Zd xs:=by
 simp only[prim,h]
 rw[show (fun x:Int=>x / ((1:Nat):Int))=id by funext x;simp]
 simp
theorem Qi (xs:List Int):prim (prim xs)=prim xs:=by
 by_cases h:Zd xs=[]
 ·rw[Uz.2 (Xg.1 h)];rfl
 ·rw[E5 (K1 h)];exact Qr xs
theorem Nf {K:Nat} {x:Int} (h:Ji K x) (c:Nat):Ji K (x / (c:Int))∨¬ (c:Int)∣x:=by
 by_cases hd:(c:Int)∣x
 ·left
  obtain⟨y,rfl⟩:=hd
  rcases Nat.eq_zero_or_pos c with h0 | h0
  ·subst h0;simpa using h
  ·rw[Int.mul_ediv_cancel_left _ (by omega)]
   unfold Ji at *
   rw[Int.natAbs_mul,Int.natAbs_natCast] at h
   have:=Nat.le_mul_of_pos_left y.natAbs h0
   omega
 ·exact Or.inr hd
theorem Zdk {K:Nat} {xs:List Int} (h:∀ i,Ji K (xs.getD i 0)) (i:Nat):Ji K ((prim xs).getD i 0):=by
 rw[Wr]
 rcases Nf (h i) (Jb xs) with g | g
 ·exact g
 ·exact absurd (Vk xs i) g
end Go.Ai

namespace Go.Ai
open Go.IntKind (i64 u64 u32)
def Kb (K:Nat) (r:List Int):Prop:=∀ i,Ji K (r.getD i 0)
theorem Kb.mono {J K:Nat} {r:List Int} (h:Kb J r) (hk:J≤K):Kb K r:=fun i=>(h i).mono hk
theorem Kb.mem {K:Nat} {r:List Int} (h:Kb K r):∀ x∈r,Ji K x:=fun x hx=>by
 obtain⟨i,hi,rfl⟩:=List.mem_iff_getElem.1 hx
 have:=h i
 rwa [List.getD_eq_getElem?_getD,List.getElem?_eq_getElem hi] at this
theorem Bz {K:Nat} {r:List Int} (h:∀ x∈r,Ji K x):Kb K r:=Mg h
theorem Kb.prim {K:Nat} {r:List Int} (h:Kb K r):Kb K (prim r):=Zdk h
theorem Kb.trim {K:Nat} {r:List Int} (h:Kb K r):Kb K (Zd r):=fun i=>by rw [Jg];exact h i
def top (r:List Int):Int:=r.getD (r.length-1) 0
def Um (r d:List Int) (a b:Int) (n:Nat):List Int:=(List.range n).map fun i=>if r.length-d.length≤i then a*r.getD i 0-b*d.getD (i-(r.length-d.length)) 0 else a*r.getD i 0
theorem J9 (r d:List Int) (a b:Int) (n:Nat):(Um r d a b n).length=n:=by simp [Um]
theorem Wq (f:Nat→Int) (n i:Nat):((List.range n).map f).getD i 0=if i<n then f i else 0:=by
 rw[List.getD_eq_getElem?_getD,List.getElem?_map]
 by_cases h:i<n
 ·rw[List.getElem?_range h,if_pos h];rfl
 ·rw[List.getElem?_eq_none (by simpa using h),if_neg h];rfl
theorem Uj (r d:List Int) (a b:Int) (n i:Nat):(Um r d a b n).getD i 0=if i<n then (if r.length-d.length≤i then a*r.getD i 0-b*d.getD (i-(r.length-d.length)) 0 else a*r.getD i 0) else 0:=Wq _ _ _
theorem Nd {J K:Nat} {r d:List Int} {a b:Int} (hr:Kb J r) (hd:Kb K d) (ha:Ji K a) (hb:Ji J b) (n:Nat):Kb (J+K+1) (Um r d a b n):=by
 intro i
 rw[Uj]
 have h1:=(Ji.mul ha (hr i))
 have h2:=(Ji.mul hb (hd (i-(r.length-d.length))))
 rw[Nat.add_comm] at h1
 split
 ·split
  ·exact h1.add h2.neg
  ·exact h1.mono (by omega)
 ·exact U8 _
theorem Mp {r d:List Int} {a b:Int} (hd:d ≠ []) (hl:d.length≤r.length) (h:a*top r=b*top d) (i:Nat):(Um r d a b r.length).getD i 0=(Um r d a b (r.length-1)).getD i 0:=by
 have:=List.length_pos_iff.2 hd
 rw[Uj,Uj]
 by_cases h1:i<r.length-1
 ·rw[if_pos h1,if_pos (by omega)]
 ·rw[if_neg h1]
  split
  ·have:i=r.length-1:=by omega
   subst this
   rw[if_pos (by omega),show r.length-1-(r.length-d.length)=d.length-1 by omega]
   unfold top at h
   omega
  ·rfl
theorem Zar (r d:List Int) (k a b:Int) (n i:Nat):(Um r d (k*a) (k*b) n).getD i 0=k*(Um r d a b n).getD i 0:=by
 rw[Uj,Uj]
 split
 ·split
  ·rw[Int.mul_sub,Int.mul_assoc,Int.mul_assoc]
  ·rw[Int.mul_assoc]
 ·simp
theorem Zas (r d:List Int) (c a b:Int) (n:Nat):Um r (Zx c d) a b n=Um r d a (b*c) n:=by
 apply He (by rw[J9,J9])
 intro i
 rw[Uj,Uj,Z7,show (Zx c d).length=d.length by simp[Zx]]
 rw[Int.mul_assoc]
def sg (n:Int):Int:=if n<0 then -1 else 1
theorem sg_mul (n:Int):sg n*n=(n.natAbs:Int):=by unfold sg;split <;> omega
def Ui (r d:List Int):List Int:=prim (Um r d ((top d).natAbs:Int) (sg (top d)*top r) r.length)
def Vh:Nat→List Int→List Int→List Int
 | 0,r,_=>r
 | f+1,r,d=>if d.length≤r.length then Vh f (Ui r d) d else r
theorem N5 (r d:List Int):((top d).natAbs:Int)*top r=sg (top d)*top r*top d:=by
 rw[← sg_mul];grind
theorem N4 {r d:List Int} (hd:d ≠ []) (hl:d.length≤r.length):Ui r d=prim (Um r d ((top d).natAbs:Int) (sg (top d)*top r) (r.length-1)) :=
 Gc (Mp hd hl (N5 r d))
theorem Kr {r d:List Int} (hd:d ≠ []) (hl:d.length≤r.length):(Ui r d).length<r.length:=by
 have:=List.length_pos_iff.2 hd
 rw[N4 hd hl,Qq]
 have:=Qg (Um r d ((top d).natAbs:Int) (sg (top d)*top r) (r.length-1))
 rw[J9] at this
 omega
theorem Zbu (c:Int) (d:List Int):top (Zx c d)=c*top d:=by
 unfold top;rw[Z7,show (Zx c d).length=d.length by simp[Zx]]
theorem T0 {c:Int} (hc:0<c) (n:Int):sg (c*n)=sg n:=by
 unfold sg
 have:c*n<0↔n<0:=by
  constructor
  ·intro h
   apply Int.not_le.1
   intro hn
   have:=Int.mul_nonneg (show 0≤c by omega) hn
   omega
  ·intro h;exact Int.mul_neg_of_pos_of_neg hc h
 simp only[this]
theorem Ea {r d:List Int} {c g a b:Int} (hc:0<c) (hg:0<g) (ha:g*a=((top d).natAbs:Int)) (hb:g*b=sg (top d)*top r):Ui r (Zx c d)=prim (Um r d a b r.length):=by
 unfold Ui
 rw[Zas,Zbu,T0 hc,Int.natAbs_mul]
 apply L9 (k:=c*g) (Int.mul_pos hc hg)
 intro i
 rw[← Zar]
 congr 2
 ·rw[Int.mul_assoc,ha,Int.natCast_mul,Int.natAbs_of_nonneg (by omega)]
 ·rw[Int.mul_assoc c g b,hb];grind
theorem L8 {c:Int} (hc:0<c) (r d:List Int):Ui r (Zx c d)=Ui r d:=by
 rw[Ea (g:=1) (a:=((top d).natAbs:Int)) (b:=sg (top d)*top r) hc (by decide) (by omega) (by omega)];rfl
theorem L1 {c:Int} (hc:0<c) (d:List Int):∀ (f:Nat) (r:List Int),Vh f r (Zx c d)=Vh f r d:=by
 intro f
 induction f with
 | zero=>intro r;rfl
 | succ f ih =>
  intro r
  simp only[Vh]
  rw[show (Zx c d).length=d.length by simp[Zx],L8 hc,ih]
theorem Zal (r d:List Int):Vl (Ui r d):=Qr _
theorem X3 {K:Nat} {d:List Int} (h:Kb K d):Ji K (top d):=h _
theorem Dw {K:Nat} {n:Int} (h:Ji K n):Ji K (n.natAbs:Int):=by unfold Ji at *;rwa [Int.natAbs_natCast]
theorem Zm3 {K:Nat} {m n:Int} (h:Ji K n):Ji K (sg m*n):=by
 unfold Ji sg at *;split <;> simpa using h
theorem Nb {J K:Nat} {r d:List Int} (hr:Kb J r) (hd:Kb K d):Kb (J+K+1) (Ui r d) :=
 (Nd hr hd (Dw (X3 hd)) (Zm3 (X3 hr)) _).prim
theorem Sn {d:List Int} (hd:d ≠ []) {K:Nat} (hK:Kb K d):∀ (f:Nat) (r:List Int) (J:Nat),r.length≤f→Vl r→Kb J r →
  Vl (Vh f r d)∧(Vh f r d).length<d.length∧Kb (J+(r.length+1-d.length)*(K+1)) (Vh f r d):=by
 have hd1:=List.length_pos_iff.2 hd
 intro f
 induction f with
 | zero =>
  intro r J h1 h2 h3
  exact⟨h2,by simp only[Vh];omega,h3.mono (Nat.le_add_right _ _)⟩
 | succ f ih =>
  intro r J h1 h2 h3
  simp only[Vh]
  split
  ·rename_i hl
   have hp:=Kr hd hl
   obtain⟨a1,a2,a3⟩:=ih (Ui r d) (J+K+1) (by omega) (Zal r d) (Nb h3 hK)
   refine⟨a1,a2,a3.mono ?_⟩
   have e:((Ui r d).length+1-d.length)+1≤r.length+1-d.length:=by omega
   have:=Nat.mul_le_mul_right (K+1) e
   rw[Nat.add_mul,Nat.one_mul] at this
   omega
  ·exact⟨h2,by omega,h3.mono (Nat.le_add_right _ _)⟩
def J3 (x y:List Int):List Int:=Vh x.length x y
def Hz:Nat→List Int→List Int→List Int
 | 0,x,_=>x
 | f+1,x,y=>if y=[] then x else Hz f y (J3 x y)
def Qv (x:List Int):List Int:=if top x<0 then Vc x else x
theorem Vm (d:List Int):∀ (f:Nat) (r:List Int),prim r=r→prim (Vh f r d)=Vh f r d:=by
 intro f
 induction f with
 | zero=>intro r h;exact h
 | succ f ih =>
  intro r h
  simp only[Vh]
  split
  ·exact ih _ (Qi _)
  ·exact h
theorem Ql {r:List Int} (h:prim r=r):Vl r:=h ▸ Qr r
theorem Zbx {m l:Nat} (h:l<m):(m-l+2)*3^l≤3^m:=by
 obtain⟨k,rfl⟩:∃ k,m=l+1+k:=⟨m-l-1,by omega⟩
 rw[show l+1+k-l+2=k+3 by omega,show l+1+k=(k+1)+l by omega,Nat.pow_add]
 apply Nat.mul_le_mul_right
 clear h
 induction k with
 | zero=>decide
 | succ k ih=>rw[Nat.pow_succ];omega
def phi (n m:Nat):Nat:=(n-m+2)*3^m
theorem Ha {x y:List Int} {M:Nat} (hM:0<M) (hx:Vl x) (hy:y ≠ []) (kx:Kb (M-1) x) (ky:Kb (M-1) y) (hl:y.length≤x.length) :
  Vl (J3 x y)∧(J3 x y).length<y.length∧Kb (M*(x.length-y.length+2)-1) (J3 x y):=by
 obtain⟨a,b,c⟩:=Sn hy ky x.length x (M-1) (Nat.le_refl _) hx kx
 refine⟨a,b,c.mono ?_⟩
 rw[Nat.sub_add_cancel hM,show x.length+1-y.length=x.length-y.length+1 by omega,Nat.mul_comm _ M]
 have:M*(x.length-y.length+2)=M*(x.length-y.length+1)+M:=by rw[← Nat.mul_succ]
 omega
theorem Hb {n m l M T:Nat} (hl:l<m) (h:M*phi n m≤T):M*(n-m+2)*phi m l≤T:=by
 refine Nat.le_trans ?_ h
 unfold phi
 rw[Nat.mul_assoc]
 apply Nat.mul_le_mul_left
 apply Nat.mul_le_mul_left
 exact Zbx hl
theorem Bo {n m c:Nat} (h:m≤n) (hn:n≤c):phi n m≤2*3^c:=by
 have h1:phi n m≤2*3^n:=by
  unfold phi
  obtain⟨k,rfl⟩:∃ k,n=m+k:=⟨n-m,by omega⟩
  rw[show m+k-m+2=k+2 by omega,Nat.pow_add,Nat.mul_comm (3^m),← Nat.mul_assoc]
  apply Nat.mul_le_mul_right
  clear h hn
  induction k with
  | zero=>decide
  | succ k ih=>rw[Nat.pow_succ];omega
 exact Nat.le_trans h1 (Nat.mul_le_mul_left _ (Nat.pow_le_pow_right (by decide) hn))
def Qu (p:List Int):List Int:=Zd ((List.range (p.length-1)).map fun j=>p.getD (j+1) 0*((j+1:Nat):Int))
theorem X4 (p:List Int) (i:Nat):(Qu p).getD i 0=p.getD (i+1) 0*((i+1:Nat):Int):=by
 unfold Qu
 rw[Jg,Wq]
 split
 ·rfl
 ·rw[Qt (xs:=p) (by omega),Int.zero_mul]
end Go.Ai

namespace Go.Ai
open Go.IntKind (i64 u64 u32)
theorem N9 {a b:Int} {us bs cs:List Int} (h:∀ i,cs.getD i 0=a*us.getD i 0+b*bs.getD i 0) (x:Int):Zg cs x=a*Zg us x+b*Zg bs x:=by
 have e:Zg cs x=Zg (Dq (Zx a us) (Zx b bs)) x:=U4 (fun i=>by rw[h,X5,Z7,Z7]) x
 rw[e,Jh,Zq,Zq]
def Vr (k:Nat) (q:List Int):List Int:=List.replicate k 0++q
theorem Jn (k:Nat) (q:List Int) (i:Nat):(Vr k q).getD i 0=if k≤i then q.getD (i-k) 0 else 0:=by
 simp only[Vr,List.getD_eq_getElem?_getD,List.getElem?_append,List.length_replicate]
 split
 ·rename_i h
  rw[if_neg (by omega),List.getElem?_replicate_of_lt h];rfl
 ·rename_i h
  rw[if_pos (by omega)]
theorem Wc (k:Nat) (q:List Int) (x:Int):Zg (Vr k q) x=x^k*Zg q x:=by
 induction k with
 | zero=>simp[Vr]
 | succ k ih =>
  have:Vr (k+1) q=0::Vr k q:=by simp[Vr,List.replicate_succ]
  rw[this]
  simp only[Zg]
  rw[ih,Int.pow_succ];grind
theorem Mq {r d:List Int} (hl:d.length≤r.length) (a b x:Int):Zg (Um r d a b r.length) x=a*Zg r x-b*(x^(r.length-d.length)*Zg d x):=by
 rw[← Wc]
 have:=N9 (a:=a) (b := -b) (us:=r) (bs:=Vr (r.length-d.length) d) (cs:=Um r d a b r.length) (fun i=>by
  rw[Uj,Jn]
  by_cases h:i<r.length
  ·rw[if_pos h];split
   ·rw[Int.neg_mul];omega
   ·simp
  ·rw[if_neg h,Qt (show r.length≤i by omega)]
   have:d.getD (i-(r.length-d.length)) 0=0:=Qt (by omega)
   split
   ·rw[this];simp
   ·simp) x
 rw[this,Int.neg_mul];omega
theorem Xn (a:Int) (p q:List Int) (i:Nat):(Uo (a::p) q).getD i 0=a*q.getD i 0+(Vr 1 (Uo p q)).getD i 0:=by
 simp only[Uo]
 rw[X5,Z7];rfl
theorem Dp:∀ (p q:List Int),p ≠ []→q ≠ []→(Uo p q).getD (p.length+q.length-2) 0=top p*top q∧∀ i,p.length+q.length-1≤i→(Uo p q).getD i 0=0
 | [],q,h,_=>absurd rfl h
 | [a],q,_,hq=>by
  have hq1:=List.length_pos_iff.2 hq
  refine⟨?_,fun i hi => ?_⟩
  ·rw[Xn,Jn,show [a].length+q.length-2=q.length-1 by simp;omega]
   simp[Uo,top]
  ·rw[Xn,Jn,Qt (show q.length≤i by simp at hi;omega)]
   simp[Uo]
 | a::b::p,q,_,hq=>by
  have hq1:=List.length_pos_iff.2 hq
  obtain⟨h1,h2⟩:=Dp (b::p) q (by simp) hq
  refine⟨?_,fun i hi => ?_⟩
  ·rw[Xn,Jn,if_pos (by simp;omega)]
   simp only[List.length_cons] at *
   rw[Qt (show q.length≤p.length+1+1+q.length-2 by omega),show p.length+1+1+q.length-2-1=p.length+1+q.length-2 by omega,h1]
   simp[top]
  ·rw[Xn,Jn]
   simp only[List.length_cons] at *
   rw[Qt (show q.length≤i by omega)]
   split
   ·rw[h2 _ (by omega)];simp
   ·simp
theorem Js {p:List Int} (h:Zd p=[]) (x:Int):Zg p x=0:=by rw [← Vn,h];rfl
theorem Bh {p q o1 r1 o2 r2:List Int} {c1 c2:Int} (hq:Vl q) (hq0:q ≠ []) (h1:∀ x,c1*Zg p x=Zg q x*Zg o1 x+Zg r1 x) (h2:∀ x,c2*Zg p x=Zg q x*Zg o2 x+Zg r2 x)
  (z1:∀ i,q.length-1≤i→r1.getD i 0=0) (z2:∀ i,q.length-1≤i→r2.getD i 0=0) (i:Nat):c2*o1.getD i 0=c1*o2.getD i 0:=by
 have hql:=List.length_pos_iff.2 hq0
 have hD:Zd (Zad (Zx c2 o1) (Zx c1 o2))=[]:=by
  apply Classical.byContradiction
  intro hD
  have hev:∀ x,Zg (Uo q (Zd (Zad (Zx c2 o1) (Zx c1 o2)))) x=Zg (Zad (Zx c1 r2) (Zx c2 r1)) x:=by
   intro x
   rw[Qb,Vn,Xy,Xy,Zq,Zq,Zq,Zq]
   have a:=h1 x;have b:=h2 x
   grind
  generalize hDD:Zd (Zad (Zx c2 o1) (Zx c1 o2))=D at *
  have hDl:Vl D:=hDD ▸ Kw _
  have hD1:=List.length_pos_iff.2 hD
  have h3:=(Dp q D hq0 hD).1
  rw[Ud hev,B3,Z7,Z7,z1 _ (by omega),z2 _ (by omega)] at h3
  have t1:=Vi hq hq0
  have t2:=Vi hDl hD
  rw[Int.mul_zero,Int.mul_zero,Int.sub_zero] at h3
  exact Int.mul_ne_zero t1 t2 h3.symm
 have:=Xg.1 hD i
 rw[B3,Z7,Z7] at this
 omega
theorem Bk {o1 o2:List Int} {c1 c2:Int} (hc1:0<c1) (hc2:0<c2) (h:∀ i,c2*o1.getD i 0=c1*o2.getD i 0):prim o1=prim o2:=by
 rw[← Fb hc2 o1,← Fb hc1 o2]
 exact Gc fun i=>by rw[Z7,Z7];exact h i
def Kn (r q:List Int) (l:Int) (k:Nat):List Int:=(List.range r.length).map fun i=>if k≤i then r.getD i 0-l*q.getD (i-k) 0 else r.getD i 0
theorem Hf (r q:List Int) (l:Int) (k i:Nat) (hk:k+q.length≤r.length):(Kn r q l k).getD i 0=r.getD i 0-l*(Vr k q).getD i 0:=by
 rw[Kn,Wq,Jn]
 split
 ·split <;> simp
 ·rw[Qt (show r.length≤i by omega),Qt (xs:=q) (show q.length≤i-k by omega)];simp
theorem Ub (r q:List Int) (l:Int) (k:Nat):(Kn r q l k).length=r.length:=by simp [Kn]
def Ab (q:List Int):Nat→List Int→List Int→List Int
 | 0,_,out=>out
 | k+1,r,out=>Ab q k (Kn (Zx (top q) r) q (r.getD (k+q.length-1) 0) k) ((Zx (top q) out).set k (r.getD (k+q.length-1) 0))
theorem Zw (a:Int) (q:List Int):(Zx a q).length=q.length:=by simp [Zx]
theorem Zna {p q:List Int} (hq0:q ≠ []) (ht:0<top q):∀ (k:Nat) (r out:List Int) (c:Int),0<c→k≤out.length→out.length+q.length=r.length+1→(∀ i,k+q.length-1≤i→r.getD i 0=0)→(∀ i,i<k→out.getD i 0=0) →
  (∀ x,c*Zg p x=Zg q x*Zg out x+Zg r x) →
  ∃ c' r',0<c'∧(∀ i,q.length-1≤i→r'.getD i 0=0)∧(Ab q k r out).length=out.length∧∀ x,c'*Zg p x=Zg q x*Zg (Ab q k r out) x+Zg r' x:=by
 have hql:=List.length_pos_iff.2 hq0
 intro k
 induction k with
 | zero =>
  intro r out c hc _ _ hz _ he
  exact⟨c,r,hc,fun i hi=>hz i (by omega),rfl,he⟩
 | succ k ih =>
  intro r out c hc hk hl hz hz2 he
  simp only[Ab]
  generalize hlead:r.getD (k+q.length-1) 0=l at *
  have hkr:k+q.length≤(Zx (top q) r).length:=by rw[Zw];omega
  obtain⟨c',r',a1,a2,a3,a4⟩:=ih (Kn (Zx (top q) r) q l k) ((Zx (top q) out).set k l) (top q*c) (Int.mul_pos ht hc) (by rw[List.length_set,Zw];omega) (by rw[List.length_set,Zw,Ub,Zw];exact hl)
   (fun i hi=>by
    rw[Hf _ _ _ _ _ hkr,Z7,Jn]
    by_cases h1:i=k+q.length-1
    ·subst h1
     rw[hlead,if_pos (by omega),show k+q.length-1-k=q.length-1 by omega]
     unfold top;grind
    ·rw[hz i (by omega),Qt (xs:=q) (show q.length≤i-k by omega)];simp)
   (fun i hi=>by rw[Qp (by omega),Z7,hz2 i (by omega),Int.mul_zero])
   (fun x=>by
    rw[N8 _ _ _ _ (by rw[Zw];omega),Z7,hz2 k (by omega),Zq]
    have e:=N9 (a:=1) (b := -l) (us:=Zx (top q) r) (bs:=Vr k q) (cs:=Kn (Zx (top q) r) q l k) (fun i=>by rw[Hf _ _ _ _ _ hkr,Int.neg_mul];omega) x
    rw[e,Zq,Wc]
    have:=he x
    grind)
  exact⟨c',r',a1,a2,by rw[a3,List.length_set,Zw],a4⟩
theorem Em {p q:List Int} (hq0:q ≠ []) (ht:0<top q) (hl:q.length≤p.length):∃ c' r',0<c'∧(∀ i,q.length-1≤i→r'.getD i 0=0)∧(Ab q (p.length-q.length+1) p (List.replicate (p.length-q.length+1) 0)).length=p.length-q.length+1 ∧
  ∀ x,c'*Zg p x=Zg q x*Zg (Ab q (p.length-q.length+1) p (List.replicate (p.length-q.length+1) 0)) x+Zg r' x:=by
 have hql:=List.length_pos_iff.2 hq0
 have h:=Zna (p:=p) hq0 ht (p.length-q.length+1) p (List.replicate (p.length-q.length+1) 0) 1 (by decide) (by simp) (by simp;omega) (fun i hi=>Qt (by omega)) (fun i _=>Jm _ _) (fun x=>by rw[Bp];omega)
 rw[List.length_replicate] at h
 exact h
def Pf (d:List Int):Nat→List Int→List Int→List Int
 | 0,_,out=>out
 | f+1,r,out=>if d.length≤r.length then Pf d f (Zd (Um r d (top d) (top r) (r.length-1))) ((Zx (top d) out).set (r.length-d.length) (top r)) else out
theorem Kv {r d:List Int} (hd0:d ≠ []) (hl:d.length≤r.length):(Zd (Um r d (top d) (top r) (r.length-1))).length<r.length:=by
 have:=List.length_pos_iff.2 hd0
 have:=Qg (Um r d (top d) (top r) (r.length-1))
 rw[J9] at this
 omega
theorem Zmz {p d:List Int} (hd0:d ≠ []) (ht:0<top d):∀ (f:Nat) (r out:List Int) (c:Int),r.length≤f→0<c→r.length+1≤out.length+d.length→(∀ i,i+d.length≤r.length→out.getD i 0=0) →
  (∀ x,c*Zg p x=Zg d x*Zg out x+Zg r x) →
  ∃ c' r',0<c'∧(∀ i,d.length-1≤i→r'.getD i 0=0)∧(Pf d f r out).length=out.length∧∀ x,c'*Zg p x=Zg d x*Zg (Pf d f r out) x+Zg r' x:=by
 have hdl:=List.length_pos_iff.2 hd0
 intro f
 induction f with
 | zero =>
  intro r out c hf hc _ _ he
  exact⟨c,r,hc,fun i hi=>Qt (by omega),rfl,he⟩
 | succ f ih =>
  intro r out c hf hc hl hz he
  simp only[Pf]
  split
  ·rename_i hg
   have hlen:=Kv hd0 hg
   obtain⟨c',r',a1,a2,a3,a4⟩:=ih (Zd (Um r d (top d) (top r) (r.length-1))) ((Zx (top d) out).set (r.length-d.length) (top r)) (top d*c) (by omega) (Int.mul_pos ht hc) (by rw[List.length_set,Zw];omega)
    (fun i hi=>by rw[Qp (by omega),Z7,hz i (by omega),Int.mul_zero])
    (fun x=>by
     rw[N8 _ _ _ _ (by rw[Zw];omega),Z7,hz _ (by omega),Zq,Vn]
     have e1:Zg (Um r d (top d) (top r) (r.length-1)) x=Zg (Um r d (top d) (top r) r.length) x:=U4 (fun i=>(Mp hd0 hg (Int.mul_comm _ _) i).symm) x
     rw[e1,Mq hg]
     have:=he x
     grind)
   exact⟨c',r',a1,a2,by rw[a3,List.length_set,Zw],a4⟩
  ·rename_i hg
   exact⟨c,r,hc,fun i hi=>Qt (by omega),rfl,he⟩
theorem Fh {p d:List Int} (hd0:d ≠ []) (ht:0<top d) (hl:d.length≤p.length):∃ c' r',0<c'∧(∀ i,d.length-1≤i→r'.getD i 0=0)∧(Pf d p.length p (List.replicate (p.length-d.length+1) 0)).length=p.length-d.length+1 ∧
  ∀ x,c'*Zg p x=Zg d x*Zg (Pf d p.length p (List.replicate (p.length-d.length+1) 0)) x+Zg r' x:=by
 have h:=Zmz (p:=p) hd0 ht p.length p (List.replicate (p.length-d.length+1) 0) 1 (Nat.le_refl _) (by decide) (by simp;omega) (fun i _=>Jm _ _) (fun x=>by rw[Bp];omega)
 rw[List.length_replicate] at h
 exact h
theorem Zm9 {p q:List Int} (hq:Vl q) (hq0:q ≠ []) (ht:0<top q) (hl:q.length≤p.length):prim (Ab q (p.length-q.length+1) p (List.replicate (p.length-q.length+1) 0))=prim (Pf q p.length p (List.replicate (p.length-q.length+1) 0)):=by
 obtain⟨c1,r1,a1,a2,_,a4⟩:=Em hq0 ht hl
 obtain⟨c2,r2,b1,b2,_,b4⟩:=Fh hq0 ht hl
 exact Bk a1 b1 (Bh hq hq0 a4 b4 a2 b2)
theorem Sq {p q o r:List Int} {c:Int} (hc:0<c) (hp:0<top p) (hq0:q ≠ []) (ht:0<top q) (hl:q.length≤p.length) (ho:o.length=p.length-q.length+1) (h:∀ x,c*Zg p x=Zg q x*Zg o x+Zg r x) (z:∀ i,q.length-1≤i→r.getD i 0=0):0<top o:=by
 have hql:=List.length_pos_iff.2 hq0
 have ho0:o ≠ []:=by intro h0;rw[h0] at ho;simp at ho
 have h3:=(Dp q o hq0 ho0).1
 have hev:∀ x,Zg (Zx c p) x=Zg (Dq (Uo q o) r) x:=fun x=>by rw[Zq,Jh,Qb];exact h x
 have h4:=Ud hev (p.length-1)
 rw[Z7,X5,z _ (by omega),show p.length-1=q.length+o.length-2 by omega,h3,Int.add_zero] at h4
 have h5:0<top q*top o:=by
  rw[← h4,show q.length+o.length-2=p.length-1 by omega]
  exact Int.mul_pos hc hp
 exact Int.pos_of_mul_pos_right h5 ht |> fun h=>h
theorem Fv {o:List Int} (h:0<top o):0<top (prim o):=by
 have hl:Vl o:=Pj (Or.inr (by unfold top at h;omega))
 unfold top
 rw[Qq,hl,Wr]
 have hc:0<Jb o:=Hj (by rw[hl];intro h0;rw[h0] at h;simp[top] at h)
 have hd:=St o (o.length-1)
 rw[Wr] at hd
 unfold top at h
 rw[← hd] at h
 exact Int.pos_of_mul_pos_right h (by omega)
end Go.Ai
