/- Texts of the proof of SturmChains, packed by pack.py: part 16 of 19. -/
import Derived.KernelRfl
import Derived.Test.YthnnfemologhfaaGreatSch15
namespace Go.Proofs.YthnnfemologhfaaGreat
open Go.IntKind (i64 u64 u32)
open Go.Ai
set_option maxRecDepth 100000
def Tq (o:Bool) (ts:List Rn) (i:Int):Zk:=(dds 2 (.val (.bool o)::(.val (.sl ts.length (pc ts))::(.val (.int .i64 i)::(dds 17 [])))))
theorem Yk20_1 (o:Bool) (ts:List Rn) (i:Int) (z:Bool) (c1:(decide (i<(ts.length:Int)))=true) (c2:(z)=true) (n1:0≤i∧i<(ts.length:Int)) (n2:Ze Yir 38 [Zt (ts.getD (Int.toNat i) z0)] (.bool z)):Za Yir Zkt (Tq o ts i) .ret (Tq true ts i):=(Za.go Z6 400 [.b true, .v (Zt (ts.getD (Int.toNat i) z0)), .r (.bool z), .b true] [2,3,4] (ac c1 (ac n1 (ac (Qh n1) (ac n2 (ac c2 a0))))))
theorem Yk20_2 (o:Bool) (ts:List Rn) (i:Int) (z:Bool) (c1:(decide (i<(ts.length:Int)))=true) (c2:(z)=false) (n1:0≤i∧i<(ts.length:Int)) (n2:Ze Yir 38 [Zt (ts.getD (Int.toNat i) z0)] (.bool z)):Za Yir Zkt (Tq o ts i) .norm (Tq o ts (i64.wrap (i+1))):=(Za.go Z6 400 [.b true, .v (Zt (ts.getD (Int.toNat i) z0)), .r (.bool z), .b false] [2,3,4] (ac c1 (ac n1 (ac (Qh n1) (ac n2 (ac c2 a0))))))
theorem Yk20_3 (o:Bool) (ts:List Rn) (i:Int)  (c1:(decide (i<(ts.length:Int)))=false):Za Yir Zkt (Tq o ts i) (.exit 0) (Tq o ts i):=(Za.go Z6 400 [.b false] [2,3,4] (ac c1 a0))
theorem Za4 (rs ts:List Rn) (c1:(decide ((i64.wrap ((ts.length:Int)-1))>16))=true) (n1:Ze Yir 25 [.sl rs.length (pc rs)] (.fresh 2 ts.length (pc ts))):Ze Yir 20 [.sl rs.length (pc rs)] (.bool true):=Ze.of_bodyW (fn:=Zsp) (s:=(dds 2 (.val (.bool true)::(dds 19 [])))) (ex := .ret) rfl rfl (Za.seq (Za.go (t:=(vp rs::(dds 1 (.val (.bool false)::(dds 19 []))))) Z6 400 [] [0,2] a0) (Za.seq (Za.go (t:=(vp rs::(dds 1 (.val (.bool false)::(vp ts::(dds 18 [])))))) Z6 400 [.r (.fresh 2 ts.length (pc ts))] [0,2,3] (ac n1 a0)) (Za.seq_out (Za.go Z6 400 [.b true] [2] (ac c1 a0)) (by intro e;cases e)))) (by intro i e;cases e) rfl
theorem Za3 (rs ts:List Rn) (i:Int) (c1:(decide ((i64.wrap ((ts.length:Int)-1))>16))=false) (n1:Ze Yir 25 [.sl rs.length (pc rs)] (.fresh 2 ts.length (pc ts))) (hl2:Za Yir (.loop Zkt) (Tq false ts 0) (.exit 0) (Tq false ts i)):Ze Yir 20 [.sl rs.length (pc rs)] (.bool false):=Ze.of_bodyW (fn:=Zsp) (s:=(dds 2 (.val (.bool false)::(dds 19 [])))) (ex := .ret) rfl rfl (Za.seq (Za.go (t:=(vp rs::(dds 1 (.val (.bool false)::(dds 19 []))))) Z6 400 [] [0,2] a0) (Za.seq (Za.go (t:=(vp rs::(dds 1 (.val (.bool false)::(vp ts::(dds 18 [])))))) Z6 400 [.r (.fresh 2 ts.length (pc ts))] [0,2,3] (ac n1 a0)) (Za.seq (Za.go (t:=(vp rs::(dds 1 (.val (.bool false)::(vp ts::(dds 18 [])))))) Z6 400 [.b false] [0,2,3] (ac c1 a0)) (Za.seq (Za.seq (Za.go Z6 400 [] [2,3,4] a0) (Za.block hl2)) (Za.go Z6 400 [] [2] a0))))) (by intro i e;cases e) rfl
theorem Za2 (rs ts:List Rn) (i:Int) (c1:(decide ((i64.wrap ((ts.length:Int)-1))>16))=false) (n1:Ze Yir 25 [.sl rs.length (pc rs)] (.fresh 2 ts.length (pc ts))) (hl2:Za Yir (.loop Zkt) (Tq false ts 0) .ret (Tq true ts i)):Ze Yir 20 [.sl rs.length (pc rs)] (.bool true):=Ze.of_bodyW (fn:=Zsp) (s:=(dds 2 (.val (.bool true)::(.val (.sl ts.length (pc ts))::(.val (.int .i64 i)::(dds 17 [])))))) (ex := .ret) rfl rfl (Za.seq (Za.go (t:=(vp rs::(dds 1 (.val (.bool false)::(dds 19 []))))) Z6 400 [] [0,2] a0) (Za.seq (Za.go (t:=(vp rs::(dds 1 (.val (.bool false)::(vp ts::(dds 18 [])))))) Z6 400 [.r (.fresh 2 ts.length (pc ts))] [0,2,3] (ac n1 a0)) (Za.seq (Za.go (t:=(vp rs::(dds 1 (.val (.bool false)::(vp ts::(dds 18 [])))))) Z6 400 [.b false] [0,2,3] (ac c1 a0)) (Za.seq_out (Za.seq (Za.go Z6 400 [] [2,3,4] a0) (Za.block_ret hl2)) (by intro e;cases e))))) (by intro i e;cases e) rfl
theorem Yrun48 (rs ts:List Rn) (n1:Ze Yir 25 [.sl rs.length (pc rs)] (.fresh 2 ts.length (pc ts))):Ze Yir 48 [.sl rs.length (pc rs)] (.int .i64 (i64.wrap ((ts.length:Int)-1))):=Ze.go (fn:=Yi48) Z6 rfl 400 rfl [.r (.fresh 2 ts.length (pc ts))] (ac n1 a0)
theorem Zjj (rs:List Rn) (r:Rn) (e d:Int) (lg:Bool) (c1:(lg)=true) (n1:Ze Yir 44 [.sl rs.length (pc rs)] (.int .i64 d)) (n2:Ze Yir 32 [.sl 1 [.sl rs.length (pc rs)]] (.bool lg)):Ze Yir 22 [.sl rs.length (pc rs), .agg [.bool r.1, .sl r.2.length (lm r.2), .int .i64 e]] (.tup [.int .i64 0, .int .i64 2]):=Ze.go (fn:=Zfe) Z6 rfl 400 rfl [.r (.int .i64 d), .r (.bool lg), .b true, .b true] (ac n1 (ac n2 (ac c1 (ac (show true=true from rfl) a0))))
theorem Zji (rs:List Rn) (r:Rn) (e d z:Int) (lg:Bool) (c1:(lg)=false) (c2:(decide (z>256))=true) (n1:Ze Yir 44 [.sl rs.length (pc rs)] (.int .i64 d)) (n2:Ze Yir 32 [.sl 1 [.sl rs.length (pc rs)]] (.bool lg)) (n3:Ze Yir 45 [Zt r] (.int .i64 z)):Ze Yir 22 [.sl rs.length (pc rs), .agg [.bool r.1, .sl r.2.length (lm r.2), .int .i64 e]] (.tup [.int .i64 0, .int .i64 2]):=Ze.go (fn:=Zfe) Z6 rfl 400 rfl [.r (.int .i64 d), .r (.bool lg), .b false, .r (.int .i64 z), .b true] (ac n1 (ac n2 (ac c1 (ac n3 (ac c2 a0)))))
theorem Zjh (rs:List Rn) (r:Rn) (e d z:Int) (lg:Bool) (c1:(lg)=false) (c2:(decide (z>256))=false) (c3:(decide (e<0))=true) (n1:Ze Yir 44 [.sl rs.length (pc rs)] (.int .i64 d)) (n2:Ze Yir 32 [.sl 1 [.sl rs.length (pc rs)]] (.bool lg)) (n3:Ze Yir 45 [Zt r] (.int .i64 z)):Ze Yir 22 [.sl rs.length (pc rs), .agg [.bool r.1, .sl r.2.length (lm r.2), .int .i64 e]] (.tup [.int .i64 0, .int .i64 1]):=Ze.go (fn:=Zfe) Z6 rfl 400 rfl [.r (.int .i64 d), .r (.bool lg), .b false, .r (.int .i64 z), .b false, .b true, .b true] (ac n1 (ac n2 (ac c1 (ac n3 (ac c2 (ac c3 (ac (show true=true from rfl) a0)))))))
theorem Zjg (rs:List Rn) (r:Rn) (e d z:Int) (lg:Bool) (c1:(lg)=false) (c2:(decide (z>256))=false) (c3:(decide (e<0))=false) (c4:(decide (e>4096))=true) (n1:Ze Yir 44 [.sl rs.length (pc rs)] (.int .i64 d)) (n2:Ze Yir 32 [.sl 1 [.sl rs.length (pc rs)]] (.bool lg)) (n3:Ze Yir 45 [Zt r] (.int .i64 z)):Ze Yir 22 [.sl rs.length (pc rs), .agg [.bool r.1, .sl r.2.length (lm r.2), .int .i64 e]] (.tup [.int .i64 0, .int .i64 1]):=Ze.go (fn:=Zfe) Z6 rfl 400 rfl [.r (.int .i64 d), .r (.bool lg), .b false, .r (.int .i64 z), .b false, .b false, .b true] (ac n1 (ac n2 (ac c1 (ac n3 (ac c2 (ac c3 (ac c4 a0)))))))
theorem Zjf (rs:List Rn) (r:Rn) (e d z bt:Int) (lg:Bool) (c1:(lg)=false) (c2:(decide (z>256))=false) (c3:(decide (e<0))=false) (c4:(decide (e>4096))=false) (c5:(decide (d>0))=true) (c6:(decide ((i64.wrap ((i64.wrap (bt+e))*d))>8192))=true) (n1:Ze Yir 44 [.sl rs.length (pc rs)] (.int .i64 d)) (n2:Ze Yir 32 [.sl 1 [.sl rs.length (pc rs)]] (.bool lg)) (n3:Ze Yir 45 [Zt r] (.int .i64 z)) (n4:Ze Yir 46 [Zt r] (.int .i64 bt)):Ze Yir 22 [.sl rs.length (pc rs), .agg [.bool r.1, .sl r.2.length (lm r.2), .int .i64 e]] (.tup [.int .i64 0, .int .i64 2]):=Ze.go (fn:=Zfe) Z6 rfl 400 rfl [.r (.int .i64 d), .r (.bool lg), .b false, .r (.int .i64 z), .b false, .b false, .b false, .b true, .r (.int .i64 bt), .b true] (ac n1 (ac n2 (ac c1 (ac n3 (ac c2 (ac c3 (ac c4 (ac c5 (ac n4 (ac c6 a0))))))))))
theorem Zje (rs:List Rn) (r:Rn) (e d z bt sg:Int) (lg:Bool) (c1:(lg)=false) (c2:(decide (z>256))=false) (c3:(decide (e<0))=false) (c4:(decide (e>4096))=false) (c5:(decide (d>0))=true) (c6:(decide ((i64.wrap ((i64.wrap (bt+e))*d))>8192))=false) (n1:0≤(i64.wrap (d+1))) (n2:0≤(Int.toNat (i64.wrap (d+1)))∧(Int.toNat (i64.wrap (d+1)))≤rs.length∧rs.length≤rs.length∧(false=true→true=true)) (n3:Ze Yir 44 [.sl rs.length (pc rs)] (.int .i64 d)) (n4:Ze Yir 32 [.sl 1 [.sl rs.length (pc rs)]] (.bool lg)) (n5:Ze Yir 45 [Zt r] (.int .i64 z)) (n6:Ze Yir 46 [Zt r] (.int .i64 bt)) (n7:Ze Yir 47 [.sl ((Int.toNat (i64.wrap (d+1)))-0) (List.take (((Int.toNat (i64.wrap (d+1)))-0)*2) (List.drop (0*2) (pc rs))), .agg [.bool r.1, .sl r.2.length (lm r.2), .int .i64 e]] (.int .i64 sg)):Ze Yir 22 [.sl rs.length (pc rs), .agg [.bool r.1, .sl r.2.length (lm r.2), .int .i64 e]] (.tup [.int .i64 sg, .int .i64 0]):=Ze.go (fn:=Zfe) Z6 rfl 400 rfl [.r (.int .i64 d), .r (.bool lg), .b false, .r (.int .i64 z), .b false, .b false, .b false, .b true, .r (.int .i64 bt), .b false, .r (.int .i64 sg)] (ac n3 (ac n4 (ac c1 (ac n5 (ac c2 (ac c3 (ac c4 (ac c5 (ac n6 (ac c6 (ac n1 (ac n2 (ac n7 a0)))))))))))))
theorem Zjd (rs:List Rn) (r:Rn) (e d z sg:Int) (lg:Bool) (c1:(lg)=false) (c2:(decide (z>256))=false) (c3:(decide (e<0))=false) (c4:(decide (e>4096))=false) (c5:(decide (d>0))=false) (n1:0≤(i64.wrap (d+1))) (n2:0≤(Int.toNat (i64.wrap (d+1)))∧(Int.toNat (i64.wrap (d+1)))≤rs.length∧rs.length≤rs.length∧(false=true→true=true)) (n3:Ze Yir 44 [.sl rs.length (pc rs)] (.int .i64 d)) (n4:Ze Yir 32 [.sl 1 [.sl rs.length (pc rs)]] (.bool lg)) (n5:Ze Yir 45 [Zt r] (.int .i64 z)) (n6:Ze Yir 47 [.sl ((Int.toNat (i64.wrap (d+1)))-0) (List.take (((Int.toNat (i64.wrap (d+1)))-0)*2) (List.drop (0*2) (pc rs))), .agg [.bool r.1, .sl r.2.length (lm r.2), .int .i64 e]] (.int .i64 sg)):Ze Yir 22 [.sl rs.length (pc rs), .agg [.bool r.1, .sl r.2.length (lm r.2), .int .i64 e]] (.tup [.int .i64 sg, .int .i64 0]):=Ze.go (fn:=Zfe) Z6 rfl 400 rfl [.r (.int .i64 d), .r (.bool lg), .b false, .r (.int .i64 z), .b false, .b false, .b false, .b false, .b false, .r (.int .i64 sg)] (ac n3 (ac n4 (ac c1 (ac n5 (ac c2 (ac c3 (ac c4 (ac c5 (ac (show false=false from rfl) (ac n1 (ac n2 (ac n6 a0))))))))))))
theorem Zjc (rs:List Rn) (r:Rn) (e:Int) (lg:Bool) (c1:(lg)=true) (n1:Ze Yir 20 [.sl rs.length (pc rs)] (.bool lg)):Ze Yir 23 [.sl rs.length (pc rs), .agg [.bool r.1, .sl r.2.length (lm r.2), .int .i64 e]] (.tup [.int .i64 0, .int .i64 2]):=Ze.go (fn:=Zfd) Z6 rfl 400 rfl [.r (.bool lg), .b true, .b true] (ac n1 (ac c1 (ac (show true=true from rfl) a0)))
theorem Zjb (rs:List Rn) (r:Rn) (e:Int) (lg z:Bool) (c1:(lg)=false) (c2:(z)=true) (n1:Ze Yir 20 [.sl rs.length (pc rs)] (.bool lg)) (n2:Ze Yir 38 [Zt r] (.bool z)):Ze Yir 23 [.sl rs.length (pc rs), .agg [.bool r.1, .sl r.2.length (lm r.2), .int .i64 e]] (.tup [.int .i64 0, .int .i64 2]):=Ze.go (fn:=Zfd) Z6 rfl 400 rfl [.r (.bool lg), .b false, .r (.bool z), .b true] (ac n1 (ac c1 (ac n2 (ac c2 a0))))
theorem Zja (rs:List Rn) (r:Rn) (e:Int) (lg z:Bool) (c1:(lg)=false) (c2:(z)=false) (c3:(decide (e<0))=true) (n1:Ze Yir 20 [.sl rs.length (pc rs)] (.bool lg)) (n2:Ze Yir 38 [Zt r] (.bool z)):Ze Yir 23 [.sl rs.length (pc rs), .agg [.bool r.1, .sl r.2.length (lm r.2), .int .i64 e]] (.tup [.int .i64 0, .int .i64 1]):=Ze.go (fn:=Zfd) Z6 rfl 400 rfl [.r (.bool lg), .b false, .r (.bool z), .b false, .b true, .b true] (ac n1 (ac c1 (ac n2 (ac c2 (ac c3 (ac (show true=true from rfl) a0))))))
theorem Zi9 (rs:List Rn) (r:Rn) (e:Int) (lg z:Bool) (c1:(lg)=false) (c2:(z)=false) (c3:(decide (e<0))=false) (c4:(decide (e>4096))=true) (n1:Ze Yir 20 [.sl rs.length (pc rs)] (.bool lg)) (n2:Ze Yir 38 [Zt r] (.bool z)):Ze Yir 23 [.sl rs.length (pc rs), .agg [.bool r.1, .sl r.2.length (lm r.2), .int .i64 e]] (.tup [.int .i64 0, .int .i64 1]):=Ze.go (fn:=Zfd) Z6 rfl 400 rfl [.r (.bool lg), .b false, .r (.bool z), .b false, .b false, .b true] (ac n1 (ac c1 (ac n2 (ac c2 (ac c3 (ac c4 a0))))))
theorem Zi8 (rs:List Rn) (r:Rn) (e d bt:Int) (lg z:Bool) (c1:(lg)=false) (c2:(z)=false) (c3:(decide (e<0))=false) (c4:(decide (e>4096))=false) (c5:(decide (d>0))=true) (c6:(decide ((i64.wrap ((i64.wrap (bt+e))*d))>8192))=true) (n1:Ze Yir 20 [.sl rs.length (pc rs)] (.bool lg)) (n2:Ze Yir 38 [Zt r] (.bool z)) (n3:Ze Yir 48 [.sl rs.length (pc rs)] (.int .i64 d)) (n4:Ze Yir 49 [Zt r] (.int .i64 bt)):Ze Yir 23 [.sl rs.length (pc rs), .agg [.bool r.1, .sl r.2.length (lm r.2), .int .i64 e]] (.tup [.int .i64 0, .int .i64 2]):=Ze.go (fn:=Zfd) Z6 rfl 400 rfl [.r (.bool lg), .b false, .r (.bool z), .b false, .b false, .b false, .r (.int .i64 d), .b true, .r (.int .i64 bt), .b true] (ac n1 (ac c1 (ac n2 (ac c2 (ac c3 (ac c4 (ac n3 (ac c5 (ac n4 (ac c6 a0))))))))))
theorem Zi7 (rs:List Rn) (r:Rn) (e d bt v sg:Int) (lg z:Bool) (c1:(lg)=false) (c2:(z)=false) (c3:(decide (e<0))=false) (c4:(decide (e>4096))=false) (c5:(decide (d>0))=true) (c6:(decide ((i64.wrap ((i64.wrap (bt+e))*d))>8192))=false) (n1:Ze Yir 20 [.sl rs.length (pc rs)] (.bool lg)) (n2:Ze Yir 38 [Zt r] (.bool z)) (n3:Ze Yir 48 [.sl rs.length (pc rs)] (.int .i64 d)) (n4:Ze Yir 49 [Zt r] (.int .i64 bt)) (n5:Ze Yir 51 [.sl rs.length (pc rs),Zt r, .int .i64 e] (Zn v)) (n6:Ze Yir 50 [Zn v] (.int .i64 sg)):Ze Yir 23 [.sl rs.length (pc rs), .agg [.bool r.1, .sl r.2.length (lm r.2), .int .i64 e]] (.tup [.int .i64 sg, .int .i64 0]):=Ze.go (fn:=Zfd) Z6 rfl 400 rfl [.r (.bool lg), .b false, .r (.bool z), .b false, .b false, .b false, .r (.int .i64 d), .b true, .r (.int .i64 bt), .b false, .r (Zn v), .r (.int .i64 sg)] (ac n1 (ac c1 (ac n2 (ac c2 (ac c3 (ac c4 (ac n3 (ac c5 (ac n4 (ac c6 (ac n5 (ac n6 a0))))))))))))
theorem Zi6 (rs:List Rn) (r:Rn) (e d v sg:Int) (lg z:Bool) (c1:(lg)=false) (c2:(z)=false) (c3:(decide (e<0))=false) (c4:(decide (e>4096))=false) (c5:(decide (d>0))=false) (n1:Ze Yir 20 [.sl rs.length (pc rs)] (.bool lg)) (n2:Ze Yir 38 [Zt r] (.bool z)) (n3:Ze Yir 48 [.sl rs.length (pc rs)] (.int .i64 d)) (n4:Ze Yir 51 [.sl rs.length (pc rs),Zt r, .int .i64 e] (Zn v)) (n5:Ze Yir 50 [Zn v] (.int .i64 sg)):Ze Yir 23 [.sl rs.length (pc rs), .agg [.bool r.1, .sl r.2.length (lm r.2), .int .i64 e]] (.tup [.int .i64 sg, .int .i64 0]):=Ze.go (fn:=Zfd) Z6 rfl 400 rfl [.r (.bool lg), .b false, .r (.bool z), .b false, .b false, .b false, .r (.int .i64 d), .b false, .b false, .r (Zn v), .r (.int .i64 sg)] (ac n1 (ac c1 (ac n2 (ac c2 (ac c3 (ac c4 (ac n3 (ac c5 (ac (show false=false from rfl) (ac n4 (ac n5 a0)))))))))))
def Zlt (n:Int) (x:Int):Zk:=(dds 4 (.val (.int .i64 n)::(.val (.int .u32 x)::(dds 23 []))))
theorem Yk49_1 (n:Int) (x:Int)  (c1:(decide (x>0))=true):Za Yir Yc49 (Zlt n x) .norm (Zlt (i64.wrap (n+1)) (Int.fdiv x (2^(min (Int.toNat 1) (IntKind.bits .u32))))):=(Za.go Z6 400 [.b true] [4,5] (ac c1 (ac (show ¬ (1:Int)<0 from (by decide)) a0)))
theorem Zl8 (n:Int) (x:Int)  (c1:(decide (x>0))=false):Za Yir Yc49 (Zlt n x) (.exit 0) (Zlt n x):=(Za.go Z6 400 [.b false] [4,5] (ac c1 a0))
theorem Zix (b:Bool) (xs ms:List Int) (c1:((ms.length:Int)==0)=true) (n1:Ze Yir 57 [.sl xs.length (lm xs)] (.fresh 1 ms.length (lm ms))):Ze Yir 49 [.agg [.bool b, .sl xs.length (lm xs)]] (.int .i64 0):=Ze.of_bodyW (fn:=Ztl) (s:=(dds 2 (.val (.int .i64 0)::(dds 26 [])))) (ex := .ret) rfl rfl (Za.seq (Za.go (t:=(.val (.agg [.bool b, .sl xs.length (lm xs)])::(.box [.bool b, .sl xs.length (lm xs)]::(vi 0::(dds 26 []))))) Z6 400 [] [0,1,2] a0) (Za.seq (Za.go (t:=(.val (.agg [.bool b, .sl xs.length (lm xs)])::(.box [.bool b, .sl xs.length (lm xs)]::(vi 0::(vl ms::(dds 25 [])))))) Z6 400 [.r (.fresh 1 ms.length (lm ms))] [0,1,2,3] (ac n1 a0)) (Za.seq_out (Za.go Z6 400 [.b true] [2] (ac c1 a0)) (by intro e;cases e)))) (by intro i e;cases e) rfl
theorem Ziw (b:Bool) (xs ms:List Int) (n x:Int) (c1:((ms.length:Int)==0)=false) (n1:Ze Yir 57 [.sl xs.length (lm xs)] (.fresh 1 ms.length (lm ms))) (n2:0≤(i64.wrap ((ms.length:Int)-1))∧(i64.wrap ((ms.length:Int)-1))<(ms.length:Int)) (hl3:Za Yir (.loop Yc49) (Zlt (i64.wrap (32*(i64.wrap ((ms.length:Int)-1)))) (ms.getD (Int.toNat (i64.wrap ((ms.length:Int)-1))) 0)) (.exit 0) (Zlt n x)):Ze Yir 49 [.agg [.bool b, .sl xs.length (lm xs)]] (.int .i64 n):=Ze.of_bodyW (fn:=Ztl) (s:=(dds 2 (.val (.int .i64 n)::(dds 26 [])))) (ex := .ret) rfl rfl (Za.seq (Za.go (t:=(.val (.agg [.bool b, .sl xs.length (lm xs)])::(.box [.bool b, .sl xs.length (lm xs)]::(vi 0::(dds 26 []))))) Z6 400 [] [0,1,2] a0) (Za.seq (Za.go (t:=(.val (.agg [.bool b, .sl xs.length (lm xs)])::(.box [.bool b, .sl xs.length (lm xs)]::(vi 0::(vl ms::(dds 25 [])))))) Z6 400 [.r (.fresh 1 ms.length (lm ms))] [0,1,2,3] (ac n1 a0)) (Za.seq (Za.go (t:=(.val (.agg [.bool b, .sl xs.length (lm xs)])::(.box [.bool b, .sl xs.length (lm xs)]::(vi 0::(vl ms::(dds 25 [])))))) Z6 400 [.b false] [0,1,2,3] (ac c1 a0)) (Za.seq (Za.go (t:=(.val (.agg [.bool b, .sl xs.length (lm xs)])::(.box [.bool b, .sl xs.length (lm xs)]::(vi 0::(vl ms::(vi (i64.wrap (32*(i64.wrap ((ms.length:Int)-1))))::(dds 24 []))))))) Z6 400 [] [0,1,2,3,4] a0) (Za.seq (Za.seq (Za.go Z6 400 [.v (.int .u32 (ms.getD (Int.toNat (i64.wrap ((ms.length:Int)-1))) 0))] [4,5] (ac n2 (ac (Z2 n2) a0))) (Za.block hl3)) (Za.go Z6 400 [] [2] a0)))))) (by intro i e;cases e) rfl
end Go.Proofs.YthnnfemologhfaaGreat

namespace Go.Proofs.YthnnfemologhfaaGreat
open Go.IntKind (i64 u64 u32)
open Go.Ai
set_option maxRecDepth 100000
theorem Fu {xs:List Int} (hu:U32 xs) (neg:Bool):decide (256<(Zd xs).length)=Lg (rv neg xs):=by
 unfold Lg
 rw[H8 (neg:=neg) hu]
theorem Hv {rs:List Rn} (hg:∀ r∈rs,Jw 1048576 r) (hN:rs.length≤1048576):Ze Yir 20 [.sl rs.length (pc rs)] (.bool (Jy (Zi rs))):=by
 have htr:=Xl hg hN
 have hl:=Qg (Zi rs)
 rw[Zs] at hl
 have hf:∀ x∈Zd (Zi rs),Ji 1048576 x:=Vj (Q8 hg)
 have gts:=Ds hf
 have hvs:=Z3 (Zd (Zi rs))
 have hpk:pk (Zd (Zi rs))=pc ((Zd (Zi rs)).map cn):=rfl
 rw[hpk,← List.length_map (f:=cn)] at htr
 have hlm:((Zd (Zi rs)).map cn).length=(Zd (Zi rs)).length:=List.length_map ..
 have hgd:∀ t,Zl (((Zd (Zi rs)).map cn).getD t z0)=(Zd (Zi rs)).getD t 0:=fun t=>by rw[← Q1,hvs]
 generalize (Zd (Zi rs)).map cn=ts at *
 have e1:i64.wrap ((ts.length:Int)-1)=(ts.length:Int)-1:=w64 (by omega) (by omega)
 have hcall:∀ t,Ze Yir 38 [.agg [.bool (ts.getD t z0).1, .sl (ts.getD t z0).2.length (lm (ts.getD t z0).2)]] (.bool (Lg ((Zd (Zi rs)).getD t 0))):=fun t=>by
  obtain⟨g1,g2⟩:=Z9 gts t
  have h:=A6 (neg:=(ts.getD t z0).1) (xs:=(ts.getD t z0).2) g2
  rw[Fu g1 (ts.getD t z0).1,show rv (ts.getD t z0).1 (ts.getD t z0).2=Zl (ts.getD t z0) from rfl,hgd] at h
  exact h
 have step:∀ t:Nat,t<ts.length→Lg ((Zd (Zi rs)).getD t 0)=false→Za Yir Zkt (Tq false ts (t:Nat)) .norm (Tq false ts ((t+1:Nat):Int)):=by
  intro t ht hb
  have ei:i64.wrap ((t:Int)+1)=((t+1:Nat):Int):=by rw[w64 (by omega) (by omega)];omega
  have hc:=hcall t
  rw[hb] at hc
  have k2:=Yk20_2 false ts (t:Nat) false (by simp;omega) rfl (by omega) (by rw[Int.toNat_natCast];exact hc)
  rwa [ei] at k2
 by_cases h17:(Zd (Zi rs)).length≤17
 ·have c1:decide (i64.wrap ((ts.length:Int)-1)>16)=false:=by rw[e1,decide_eq_false_iff_not];omega
  rcases Vo (fun j=>Lg ((Zd (Zi rs)).getD j 0)) ts.length _ 0 (by rw[Nat.zero_add]) with h | ⟨j,_,h2,h3,h4⟩
  ·have hf:Jy (Zi rs)=false:=by
    unfold Jy
    rw[decide_eq_false (by omega),Bool.false_or,List.any_eq_false]
    intro x hx
    obtain⟨i,hi,rfl⟩:=List.mem_iff_getElem.1 hx
    have:=h i (by omega) (by omega)
    rw[List.getD_eq_getElem?_getD,List.getElem?_eq_getElem hi] at this
    simpa using this
   rw[hf]
   exact Za3 rs ts _ c1 htr (Za.upTo (prog:=Yir) (c:=Zkt) (ex := .exit 0) (fun t=>Tq false ts (t:Nat)) ts.length (by intro e;cases e) (Yk20_3 false ts _ (by simp)) 0 (Nat.zero_le _) (fun t _ h6=>step t h6 (h t (by omega) h6)))
  ·have hf:Jy (Zi rs)=true:=by
    unfold Jy
    rw[decide_eq_false (by omega),Bool.false_or,List.any_eq_true]
    refine⟨(Zd (Zi rs)).getD j 0,?_,h3⟩
    rw[List.getD_eq_getElem?_getD,List.getElem?_eq_getElem (by omega)]
    exact List.getElem_mem _
   rw[hf]
   have hc:=hcall j
   rw[h3] at hc
   have out:=Yk20_1 false ts (j:Nat) true (by simp;omega) rfl (by omega) (by rw[Int.toNat_natCast];exact hc)
   exact Za2 rs ts _ c1 htr (Za.upTo (prog:=Yir) (c:=Zkt) (ex := .ret) (fun t=>Tq false ts (t:Nat)) j (by intro e;cases e) out 0 (Nat.zero_le _) (fun t _ h6=>step t (by omega) (h4 t (by omega) h6)))
 ·have hf:Jy (Zi rs)=true:=by unfold Jy;rw[decide_eq_true (by omega)];rfl
  rw[hf]
  exact Za4 rs ts (by rw[e1,decide_eq_true_eq];omega) htr
theorem N0 {rs:List Rn} (hg:∀ r∈rs,Jw 1048576 r) (hN:rs.length≤1048576):Ze Yir 48 [.sl rs.length (pc rs)] (.int .i64 (((Zd (Zi rs)).length:Nat)-1:Int)):=by
 have htr:=Xl hg hN
 have hl:=Qg (Zi rs)
 rw[Zs] at hl
 have hpk:pk (Zd (Zi rs))=pc ((Zd (Zi rs)).map cn):=rfl
 rw[hpk,← List.length_map (f:=cn)] at htr
 have h:=Yrun48 rs _ htr
 rw[w64 (by omega) (by rw[List.length_map];omega),List.length_map] at h
 exact h
theorem Zd1 {x:Nat} (h:x ≠ 0):Kf x=Kf (x / 2)+1:=by
 unfold Kf
 rw[if_neg h]
 by_cases h2:x / 2=0
 ·have:x=1:=by omega
  subst this
  decide
 ·rw[if_neg h2,Ux x 1 (by simpa using h2)]
theorem T6:∀ (f x:Nat) (n:Nat),x≤f→x<4294967296→n+Kf x≤1073741824→Za Yir (.loop Yc49) (Zlt (n:Nat) (x:Nat)) (.exit 0) (Zlt ((n+Kf x:Nat):Int) 0):=by
 intro f
 induction f with
 | zero =>
  intro x n hx _ _
  have:x=0:=by omega
  subst this
  exact Za.loop_out (Zl8 _ _ (by simp)) (by intro e;cases e)
 | succ f ih =>
  intro x n hx hb hn
  by_cases h0:x=0
  ·subst h0
   exact Za.loop_out (Zl8 _ _ (by simp)) (by intro e;cases e)
  ·have k:=Yk49_1 (n:Nat) (x:Nat) (by simp;omega)
   have e1:Int.fdiv (x:Int) (2^(min (Int.toNat 1) (IntKind.bits .u32)))=((x / 2:Nat):Int):=Zml x 1 (by omega)
   rw[e1,w64 (by omega) (by omega),show (n:Int)+1=((n+1:Nat):Int) by omega] at k
   have hbl:=Zd1 h0
   have h:=ih (x / 2) (n+1) (by omega) (by omega) (by omega)
   rw[show n+1+Kf (x / 2)=n+Kf x by omega] at h
   exact Za.loop k h
theorem Zch {neg:Bool} {xs:List Int} (hu:U32 xs) (hN:xs.length≤1048576):Ze Yir 49 [.agg [.bool neg, .sl xs.length (lm xs)]] (.int .i64 ((Kf (rv neg xs).natAbs:Nat):Int)):=by
 have hm:=Xr (xs:=xs) hN
 rw[H8 (neg:=neg) hu] at hm
 have l1:=Uq (neg:=neg) hu
 generalize rv neg xs=a at *
 by_cases h0:a.natAbs=0
 ·have h:=Zix neg xs _ (by rw[h0];rfl) hm
  rw[show Kf a.natAbs=0 by unfold Kf;rw[if_pos h0]]
  exact h
 ·obtain⟨t1,x,t2,t3,t4,t5⟩:=R9 h0
  have e1:i64.wrap ((((Zb a.natAbs).length:Nat):Int)-1)=(((Zb a.natAbs).length-1:Nat):Int):=by rw[w64 (by omega) (by omega)];omega
  have hlog:Nat.log2 x<32:=(Nat.log2_lt t3).2 t4
  have hbx:Kf x=Nat.log2 x+1:=by unfold Kf;rw[if_neg t3]
  have e3:i64.wrap (32*(((Zb a.natAbs).length-1:Nat):Int))=((32*((Zb a.natAbs).length-1):Nat):Int):=by rw[w64 (by omega) (by omega)];omega
  have hl:=T6 x x (32*((Zb a.natAbs).length-1)) (Nat.le_refl _) t4 (by omega)
  have h:=Ziw neg xs (Zb a.natAbs) _ _ (by rw[beq_eq_false_iff_ne];omega) hm (by rw[e1];omega) (by rw[e1,Int.toNat_natCast,t2,e3];exact hl)
  have e2:Kf a.natAbs=32*((Zb a.natAbs).length-1)+Kf x:=by
   rw[hbx]
   unfold Kf
   rw[if_neg h0,Ux a.natAbs (32*((Zb a.natAbs).length-1)) (by rw[t5];exact t3),t5]
   omega
  rw[e2]
  exact h
def Xd (p:List Int) (n e:Int):Int × Int :=
 if Jy p then (0,2) else if Lg n then (0,2) else if e<0 then (0,1) else if e>4096 then (0,1) else
 if 1<(Zd p).length∧((Kf n.natAbs:Nat)+e)*(((Zd p).length:Nat)-1:Int)>8192 then (0,2) else (X2 (hv (Zd p) n (2^e.toNat)),0)
theorem Zd0 {n:Nat} (K:Nat) (h:(Zb n).length≤K):Kf n≤32*K:=by
 unfold Kf
 split
 ·omega
 ·rename_i h0
  have h1:=J7 (Qw n)
  rw[Je] at h1
  have h2:=Int.lt_of_lt_of_le h1 (Uc h)
  rw[Ku] at h2
  have h3:n<2^(32*K):=by
   have e:(2:Int)^(32*K)=((2^(32*K):Nat):Int):=by rw[Int.natCast_pow];rfl
   rw[e] at h2;omega
  exact (Nat.log2_lt h0).2 h3
section
variable {K X:Nat} {rs:List Rn} {r:Rn} {e:Int}
theorem G5 (hS:K+2+(rs.length+1)*(X+131)≤1048576) (he:¬ e<0) (he2:¬ e>4096):K+2+(rs.length+1)*(X+(e.toNat / 32+1)+1)≤1048576:=by
 have:(rs.length+1)*(X+(e.toNat / 32+1)+1)≤(rs.length+1)*(X+131):=Nat.mul_le_mul_left _ (by omega)
 omega
theorem Sh (hS:K+2+(rs.length+1)*(X+131)≤1048576):rs.length≤8004∧X≤1048576:=by
 have h1:(rs.length+1)*131≤(rs.length+1)*(X+131):=Nat.mul_le_mul_left _ (by omega)
 have h2:1*(X+131)≤(rs.length+1)*(X+131):=Nat.mul_le_mul_right _ (by omega)
 omega
theorem Nv (hl:(Zd (Zi rs)).length≤17) (hb:Kf (Zl r).natAbs≤33554432) (he:0≤e∧e≤4096) (h1:1<(Zd (Zi rs)).length) :
  i64.wrap (i64.wrap (((Kf (Zl r).natAbs:Nat):Int)+e)*(((Zd (Zi rs)).length:Nat)-1:Int))=(((Kf (Zl r).natAbs:Nat):Int)+e)*(((Zd (Zi rs)).length:Nat)-1:Int):=by
 rw[w64 (n:=((Kf (Zl r).natAbs:Nat):Int)+e) (by omega) (by omega)]
 have a:=Int.mul_le_mul (show ((Kf (Zl r).natAbs:Nat):Int)+e≤33558528 by omega) (show (((Zd (Zi rs)).length:Nat)-1:Int)≤16 by omega) (by omega) (by omega)
 have b:=Int.mul_nonneg (show 0≤((Kf (Zl r).natAbs:Nat):Int)+e by omega) (show (0:Int)≤(((Zd (Zi rs)).length:Nat)-1:Int) by omega)
 exact w64 (by omega) (by omega)
theorem Zck (ht:∀ t∈rs,Jw K t) (hr:Jw X r) (hS:K+2+(rs.length+1)*(X+131)≤1048576) :
  Ze Yir 22 [.sl rs.length (pc rs), .agg [.bool r.1, .sl r.2.length (lm r.2), .int .i64 e]] (.tup [.int .i64 (Xd (Zi rs) (Zl r) e).1, .int .i64 (Xd (Zi rs) (Zl r) e).2]):=by
 obtain⟨hle,hXl⟩:=Sh hS
 have hgK:∀ r∈rs,Jw 1048576 r:=fun r h=>(ht r h).mono (by omega)
 have hdeg:=Hh hgK (by omega)
 have hlg:=Hy hgK (by omega)
 have hsz:=D1 (neg:=r.1) hr.1 (by have:=hr.2;omega)
 have hbt:=D2 (neg:=r.1) hr.1 (by have:=hr.2;omega)
 have hlen:(Zd (Zi rs)).length=Z1 (Zi rs) rs.length:=by rw[X9,Zs]
 have htl:=Wd (Zi rs) rs.length
 have erv:rv r.1 r.2=Zl r:=rfl
 rw[erv] at hsz hbt
 have hbl:Kf (Zl r).natAbs≤33554432:=by
  have:=Zd0 X (show (Zb (Zl r).natAbs).length≤X from hr.fits.len);omega
 unfold Xd
 cases c1:Jy (Zi rs) with
 | true=>rw[c1] at hlg;exact Zjj rs r e _ true rfl hdeg hlg
 | false =>
 rw[c1] at hlg
 have h17:(Zd (Zi rs)).length≤17:=by
  unfold Jy at c1
  rw[Bool.or_eq_false_iff,decide_eq_false_iff_not] at c1
  omega
 cases c2:Lg (Zl r) with
 | true=>exact Zji rs r e _ _ false rfl (by unfold Lg at c2;rw[decide_eq_true_eq] at c2 ⊢;omega) hdeg hlg hsz
 | false =>
 have c2':decide ((((Zb (Zl r).natAbs).length:Nat):Int)>256)=false:=by unfold Lg at c2;rw[decide_eq_false_iff_not] at c2 ⊢;omega
 by_cases c3:e<0
 ·rw[if_pos c3]
  exact Zjh rs r e _ _ false rfl c2' (decide_eq_true c3) hdeg hlg hsz
 by_cases c4:e>4096
 ·rw[if_neg c3,if_pos c4]
  exact Zjg rs r e _ _ false rfl c2' (decide_eq_false c3) (decide_eq_true c4) hdeg hlg hsz
 simp only[Bool.false_eq_true,if_false,if_neg c3,if_neg c4]
 have ew:i64.wrap ((((Z1 (Zi rs) rs.length:Nat):Int)-1)+1)=((Z1 (Zi rs) rs.length:Nat):Int):=by rw[w64 (by omega) (by omega)];omega
 have hsa:=P7 (K:=K) (X:=X) (rs:=rs.take (Z1 (Zi rs) rs.length)) (r:=r) (fun t h=>ht t (List.mem_of_mem_take h)) hr e.toNat (by
  have h1:=G5 hS c3 c4
  have h2:((rs.take (Z1 (Zi rs) rs.length)).length+1)*(X+(e.toNat / 32+1)+1)≤(rs.length+1)*(X+(e.toNat / 32+1)+1):=Nat.mul_le_mul_right _ (by simp;omega)
  omega) (by omega)
 rw[Zbt,show (e.toNat:Int)=e by omega,show (rs.take (Z1 (Zi rs) rs.length)).length=Z1 (Zi rs) rs.length by simp;omega] at hsa
 have n2:0≤(Int.toNat (i64.wrap ((((Z1 (Zi rs) rs.length:Nat):Int)-1)+1)))∧(Int.toNat (i64.wrap ((((Z1 (Zi rs) rs.length:Nat):Int)-1)+1)))≤rs.length∧rs.length≤rs.length∧(false=true→true=true):=by
  rw[ew,Int.toNat_natCast];exact⟨Nat.zero_le _,htl,Nat.le_refl _,fun _=>rfl⟩
 by_cases c5:1<(Zd (Zi rs)).length
 ·have hc:=Nv (r:=r) (e:=e) h17 hbl ⟨by omega,by omega⟩ c5
  rw[hlen] at hc
  by_cases c6:((Kf (Zl r).natAbs:Nat)+e)*(((Zd (Zi rs)).length:Nat)-1:Int)>8192
  ·rw[if_pos ⟨c5,c6⟩]
   exact Zjf rs r e _ _ _ false rfl c2' (decide_eq_false c3) (decide_eq_false c4) (by rw[decide_eq_true_eq];omega) (by rw[hc,decide_eq_true_eq,← hlen];exact c6) hdeg hlg hsz hbt
  ·rw[if_neg (fun h=>c6 h.2)]
   exact Zje rs r e _ _ _ _ false rfl c2' (decide_eq_false c3) (decide_eq_false c4) (by rw[decide_eq_true_eq];omega) (by rw[hc,decide_eq_false_iff_not,← hlen];exact c6) (by rw[ew];omega) n2 hdeg hlg hsz hbt (by rw[S3,ew,Int.toNat_natCast,Nat.sub_zero];exact hsa)
 ·rw[if_neg (fun h=>c5 h.1)]
  exact Zjd rs r e _ _ _ false rfl c2' (decide_eq_false c3) (decide_eq_false c4) (by rw[decide_eq_false_iff_not];omega) (by rw[ew];omega) n2 hdeg hlg hsz (by rw[S3,ew,Int.toNat_natCast,Nat.sub_zero];exact hsa)
theorem T7 (ht:∀ t∈rs,Jw K t) (hr:Jw X r) (hS:K+2+(rs.length+1)*(X+131)≤1048576) :
  Ze Yir 23 [.sl rs.length (pc rs), .agg [.bool r.1, .sl r.2.length (lm r.2), .int .i64 e]] (.tup [.int .i64 (Xd (Zi rs) (Zl r) e).1, .int .i64 (Xd (Zi rs) (Zl r) e).2]):=by
 obtain⟨hle,hXl⟩:=Sh hS
 have hgK:∀ r∈rs,Jw 1048576 r:=fun r h=>(ht r h).mono (by omega)
 have hdeg:=N0 hgK (by omega)
 have hlg:=Hv hgK (by omega)
 have hsz:=A6 (neg:=r.1) (xs:=r.2) (by have:=hr.2;omega)
 rw[Fu hr.1 r.1,show rv r.1 r.2=Zl r from rfl] at hsz
 have hbt:=Zch (neg:=r.1) hr.1 (by have:=hr.2;omega)
 rw[show rv r.1 r.2=Zl r from rfl] at hbt
 have hbl:Kf (Zl r).natAbs≤33554432:=by
  have:=Zd0 X (show (Zb (Zl r).natAbs).length≤X from hr.fits.len);omega
 unfold Xd
 cases c1:Jy (Zi rs) with
 | true=>rw[c1] at hlg;exact Zjc rs r e true rfl hlg
 | false =>
 rw[c1] at hlg
 have h17:(Zd (Zi rs)).length≤17:=by
  unfold Jy at c1
  rw[Bool.or_eq_false_iff,decide_eq_false_iff_not] at c1
  omega
 cases c2:Lg (Zl r) with
 | true=>rw[c2] at hsz;exact Zjb rs r e false true rfl rfl hlg hsz
 | false =>
 rw[c2] at hsz
 by_cases c3:e<0
 ·rw[if_pos c3]
  exact Zja rs r e false false rfl rfl (decide_eq_true c3) hlg hsz
 by_cases c4:e>4096
 ·rw[if_neg c3,if_pos c4]
  exact Zi9 rs r e false false rfl rfl (decide_eq_false c3) (decide_eq_true c4) hlg hsz
 simp only[Bool.false_eq_true,if_false,if_neg c3,if_neg c4]
 have hq:=A9 ht hr e.toNat (G5 hS c3 c4) (by omega)
 rw[show (e.toNat:Int)=e by omega] at hq
 have hf:=Pq (K:=K) hr.fits e.toNat (ts:=Zd (Zi rs)) (Vj (Q8 ht))
 have hl:=Qg (Zi rs)
 rw[Zs] at hl
 have hs1:=G5 hS c3 c4
 have hs2:(Zd (Zi rs)).length*(X+(e.toNat / 32+1)+1)≤(rs.length+1)*(X+(e.toNat / 32+1)+1):=Nat.mul_le_mul_right _ (by omega)
 have hsg:=Sg (n:=hv (Zd (Zi rs)) (Zl r) (2^e.toNat)) (by have:=hf.len;omega)
 by_cases c5:1<(Zd (Zi rs)).length
 ·have hc:=Nv (r:=r) (e:=e) h17 hbl ⟨by omega,by omega⟩ c5
  by_cases c6:((Kf (Zl r).natAbs:Nat)+e)*(((Zd (Zi rs)).length:Nat)-1:Int)>8192
  ·rw[if_pos ⟨c5,c6⟩]
   exact Zi8 rs r e _ _ false false rfl rfl (decide_eq_false c3) (decide_eq_false c4) (by rw[decide_eq_true_eq];omega) (by rw[hc,decide_eq_true_eq];exact c6) hlg hsz hdeg hbt
  ·rw[if_neg (fun h=>c6 h.2)]
   exact Zi7 rs r e _ _ _ _ false false rfl rfl (decide_eq_false c3) (decide_eq_false c4) (by rw[decide_eq_true_eq];omega) (by rw[hc,decide_eq_false_iff_not];exact c6) hlg hsz hdeg hbt hq hsg
 ·rw[if_neg (fun h=>c5 h.1)]
  exact Zi6 rs r e _ _ _ false false rfl rfl (decide_eq_false c3) (decide_eq_false c4) (by rw[decide_eq_false_iff_not];omega) hlg hsz hdeg hq hsg
end
end Go.Proofs.YthnnfemologhfaaGreat

namespace Go.Proofs.YthnnfemologhfaaGreat
open Go.IntKind (i64 u64 u32)
open Go.Ai
set_option maxRecDepth 100000
theorem Zjm (rs:List Rn) (b:Bool) (c1:(b)=true) (n1:Ze Yir 32 [.sl 1 [.sl rs.length (pc rs)]] (.bool b)):Ze Yir 18 [.sl rs.length (pc rs)] (.tup [.sl 0 [], .int .i64 2]):=Ze.go (fn:=Ztr) Zc rfl 400 rfl [.r (.bool b), .b true] (ac n1 (ac c1 a0))
theorem Tt (rs us:List Rn) (b:Bool) (c1:(b)=false) (n1:Ze Yir 32 [.sl 1 [.sl rs.length (pc rs)]] (.bool b)) (n2:Ze Yir 33 [.sl rs.length (pc rs)] (.fresh 2 us.length (pc us))):Ze Yir 18 [.sl rs.length (pc rs)] (.tup [.sl us.length (pc us), .int .i64 0]):=Ze.go (fn:=Ztr) Zc rfl 400 rfl [.r (.bool b), .b false, .r (.fresh 2 us.length (pc us))] (ac n1 (ac c1 (ac n2 a0)))
def Ys9 (o:Bool) (rs:List Rn) (ss:List Rn) (i:Int):Zk:=(.val (.sl rs.length (pc rs))::(.val (.sl ss.length (pc ss))::(dds 2 (.val (.bool o)::(.val (.int .i64 i)::(dds 21 []))))))
theorem Yk9_1 (o:Bool) (rs:List Rn) (ss:List Rn) (i:Int) (b:Bool) (c1:(decide (i<(rs.length:Int)))=true) (c2:(b)=true) (n1:0≤i∧i<(rs.length:Int)) (n2:0≤i∧i<(ss.length:Int)) (n3:Ze Yir 16 [Zt (rs.getD (Int.toNat i) z0),Zt (ss.getD (Int.toNat i) z0)] (.bool b)):Za Yir Yc9 (Ys9 o rs ss i) .norm (Ys9 o rs ss (i64.wrap (i+1))):=(Za.go Zc 400 [.b true, .v (Zt (rs.getD (Int.toNat i) z0)), .v (Zt (ss.getD (Int.toNat i) z0)), .r (.bool b), .b false] [0,1,4,5] (ac c1 (ac n1 (ac (Qh n1) (ac n2 (ac (Qh n2) (ac n3 (ac (show (!b)=false from (by rw [c2];rfl)) a0))))))))
theorem Yk9_3 (o:Bool) (rs:List Rn) (ss:List Rn) (i:Int)  (c1:(decide (i<(rs.length:Int)))=false):Za Yir Yc9 (Ys9 o rs ss i) (.exit 0) (Ys9 o rs ss i):=(Za.go Zc 400 [.b false] [0,1,4,5] (ac c1 a0))
theorem Znm (rs ss:List Rn) (i:Int) (c1:((rs.length:Int) != (ss.length:Int))=false) (hl1:Za Yir (.loop Yc9) (Ys9 false rs ss 0) (.exit 0) (Ys9 false rs ss i)):Ze Yir 9 [.sl rs.length (pc rs), .sl ss.length (pc ss)] (.bool true):=Ze.of_bodyW (fn:=Yi9) (s:=(dds 4 (.val (.bool true)::(dds 22 [])))) (ex := .ret) rfl rfl (Za.seq (Za.go (t:=(vp rs::(vp ss::(dds 2 (.val (.bool false)::(dds 22 [])))))) Zc 400 [] [0,1,4] a0) (Za.seq (Za.go (t:=(vp rs::(vp ss::(dds 2 (.val (.bool false)::(dds 22 [])))))) Zc 400 [.b false] [0,1,4] (ac c1 a0)) (Za.seq (Za.seq (Za.go Zc 400 [] [0,1,4,5] a0) (Za.block hl1)) (Za.go Zc 400 [] [4] a0)))) (by intro i e;cases e) rfl
def Znl (o:Bool) (r:Rn) (i:Int):Zk:=(dds 2 (.box [.bool r.1, .sl r.2.length (lm r.2)]::(.box [.bool r.1, .sl r.2.length (lm r.2)]::(.val (.bool o)::(.val (.int .i64 i)::(dds 32 []))))))
theorem Yk16_2 (o:Bool) (r:Rn) (i:Int)  (c1:(decide (i<(r.2.length:Int)))=true) (c2:((r.2.getD (Int.toNat i) 0) != (r.2.getD (Int.toNat i) 0))=false) (n1:0≤i∧i<(r.2.length:Int)):Za Yir Yc16 (Znl o r i) .norm (Znl o r (i64.wrap (i+1))):=(Za.go Zc 400 [.b true, .v (.int .u32 (r.2.getD (Int.toNat i) 0)), .v (.int .u32 (r.2.getD (Int.toNat i) 0)), .b false] [2,3,4,5] (ac c1 (ac n1 (ac (Z2 n1) (ac n1 (ac (Z2 n1) (ac c2 a0)))))))
theorem Yk16_3 (o:Bool) (r:Rn) (i:Int)  (c1:(decide (i<(r.2.length:Int)))=false):Za Yir Yc16 (Znl o r i) (.exit 0) (Znl o r i):=(Za.go Zc 400 [.b false] [2,3,4,5] (ac c1 a0))
theorem Zjp (r:Rn) (i:Int) (c1:(r.1==r.1)=true) (c2:((r.2.length:Int) != (r.2.length:Int))=false) (hl1:Za Yir (.loop Yc16) (Znl false r 0) (.exit 0) (Znl false r i)):Ze Yir 16 [Zt r,Zt r] (.bool true):=Ze.of_bodyW (fn:=Yi16) (s:=(dds 4 (.val (.bool true)::(dds 33 [])))) (ex := .ret) rfl rfl (Za.seq (Za.go (t:=(.val (Zt r)::(.val (Zt r)::(bR r::(bR r::(.val (.bool false)::(dds 33 []))))))) Zc 400 [] [0,1,2,3,4] a0) (Za.seq (Za.go (t:=(.val (Zt r)::(.val (Zt r)::(bR r::(bR r::(.val (.bool false)::(dds 33 []))))))) Zc 400 [.b false, .b false] [0,1,2,3,4] (ac (show (!(r.1==r.1))=false from (by rw [c1];rfl)) (ac c2 a0))) (Za.seq (Za.seq (Za.go Zc 400 [] [2,3,4,5] a0) (Za.block hl1)) (Za.go Zc 400 [] [4] a0)))) (by intro i e;cases e) rfl
def Ys7 (ls:List (List Rn)) (o:Int) (m:Int) (i:Int):Zk:=(dds 2 (.own 1 0 []::(.val (.int .i64 o)::(dds 2 (.val (.sl ls.length (pp ls))::(dds 14 (.val (.sl ls.length (pp ls))::(.val (.int .i64 m)::(.val (.int .i64 i)::(dds 13 []))))))))))
theorem Yk7_1 (ls:List (List Rn)) (o:Int) (m:Int) (i:Int) (ms:List Rn) (d:Int) (c1:(decide (i<m))=true) (c2:(d != 0)=true) (n1:0≤i∧i<(ls.length:Int)) (n2:Ze Yir 18 [.sl ((ls.getD (Int.toNat i) []).length) (pc (ls.getD (Int.toNat i) []))] (.tup [.sl ms.length (pc ms), .int .i64 d])):Za Yir Yc7 (Ys7 ls o m i) .ret (Ys7 ls d m i):=(Za.go Zc 400 [.b true, .v (.sl ((ls.getD (Int.toNat i) []).length) (pc (ls.getD (Int.toNat i) []))), .r (.tup [.sl ms.length (pc ms), .int .i64 d]), .b true] [2,3,6,21,22,23] (ac c1 (ac n1 (ac (Ju n1) (ac n2 (ac c2 a0))))))
theorem Yk7_2 (ls:List (List Rn)) (o:Int) (m:Int) (i:Int) (ms:List Rn) (d:Int) (c1:(decide (i<m))=true) (c2:(d != 0)=false) (n1:0≤i∧i<(ls.length:Int)) (n2:Ze Yir 18 [.sl ((ls.getD (Int.toNat i) []).length) (pc (ls.getD (Int.toNat i) []))] (.tup [.sl ms.length (pc ms), .int .i64 d])):Za Yir Yc7 (Ys7 ls o m i) .norm (Ys7 ls o m (i64.wrap (i+1))):=(Za.go Zc 400 [.b true, .v (.sl ((ls.getD (Int.toNat i) []).length) (pc (ls.getD (Int.toNat i) []))), .r (.tup [.sl ms.length (pc ms), .int .i64 d]), .b false] [2,3,6,21,22,23] (ac c1 (ac n1 (ac (Ju n1) (ac n2 (ac c2 a0))))))
theorem Yk7_3 (ls:List (List Rn)) (o:Int) (m:Int) (i:Int)  (c1:(decide (i<m))=false):Za Yir Yc7 (Ys7 ls o m i) (.exit 0) (Ys7 ls o m i):=(Za.go Zc 400 [.b false] [2,3,6,21,22,23] (ac c1 a0))
theorem Zeo (rs ms:List Rn) (ls:List (List Rn)) (d o i:Int) (c1:(d != 0)=false) (n1:Ze Yir 18 [.sl rs.length (pc rs)] (.tup [.sl ms.length (pc ms), .int .i64 d])) (n2:Ze Yir 19 [.sl rs.length (pc rs)] (.fresh 1 ls.length (pp ls))) (hl3:Za Yir (.loop Yc7) (Ys7 ls 0 (ls.length:Int) 0) .ret (Ys7 ls o (ls.length:Int) i)):Ze Yir 7 [.sl rs.length (pc rs)] (.tup [.sl 0 [], .int .i64 o]):=Ze.of_bodyW (fn:=Yi7) (s:=(dds 2 (.own 1 0 []::(.val (.int .i64 o)::(dds 2 (.val (.sl ls.length (pp ls))::(dds 14 (.val (.sl ls.length (pp ls))::(.val (.int .i64 (ls.length:Int))::(.val (.int .i64 i)::(dds 13 []))))))))))) (ex := .ret) rfl rfl (Za.seq (Za.go (t:=(vp rs::(dds 1 (.own 1 0 []::(vi 0::(dds 33 [])))))) Zc 400 [] [0,2,3] a0) (Za.seq (Za.go (t:=(vp rs::(dds 1 (.own 1 0 []::(vi 0::(dds 33 [])))))) Zc 400 [.r (.tup [.sl ms.length (pc ms), .int .i64 d]), .b false] [0,2,3] (ac n1 (ac c1 a0))) (Za.seq (Za.go (t:=(vp rs::(dds 1 (.own 1 0 []::(vi 0::(dds 2 (.val (.sl ls.length (pp ls))::(dds 30 [])))))))) Zc 400 [.r (.fresh 1 ls.length (pp ls))] [0,2,3,6] (ac n2 a0)) (Za.seq_out (Za.seq (Za.go Zc 400 [] [2,3,6,21,22,23] a0) (Za.block_ret hl3)) (by intro e;cases e))))) (by intro i e;cases e) rfl
theorem Zen (rs ms:List Rn) (ls:List (List Rn)) (d i:Int) (c1:(d != 0)=false) (n1:Ze Yir 18 [.sl rs.length (pc rs)] (.tup [.sl ms.length (pc ms), .int .i64 d])) (n2:Ze Yir 19 [.sl rs.length (pc rs)] (.fresh 1 ls.length (pp ls))) (hl3:Za Yir (.loop Yc7) (Ys7 ls 0 (ls.length:Int) 0) (.exit 0) (Ys7 ls 0 (ls.length:Int) i)):Ze Yir 7 [.sl rs.length (pc rs)] (.tup [.sl ls.length (pp ls), .int .i64 0]):=Ze.of_bodyW (fn:=Yi7) (s:=(dds 2 (.val (.sl ls.length (pp ls))::(.val (.int .i64 0)::(dds 33 []))))) (ex := .ret) rfl rfl (Za.seq (Za.go (t:=(vp rs::(dds 1 (.own 1 0 []::(vi 0::(dds 33 [])))))) Zc 400 [] [0,2,3] a0) (Za.seq (Za.go (t:=(vp rs::(dds 1 (.own 1 0 []::(vi 0::(dds 33 [])))))) Zc 400 [.r (.tup [.sl ms.length (pc ms), .int .i64 d]), .b false] [0,2,3] (ac n1 (ac c1 a0))) (Za.seq (Za.go (t:=(vp rs::(dds 1 (.own 1 0 []::(vi 0::(dds 2 (.val (.sl ls.length (pp ls))::(dds 30 [])))))))) Zc 400 [.r (.fresh 1 ls.length (pp ls))] [0,2,3,6] (ac n2 a0)) (Za.seq (Za.seq (Za.go Zc 400 [] [2,3,6,21,22,23] a0) (Za.block hl3)) (Za.go Zc 400 [] [2,3] a0))))) (by intro i e;cases e) rfl
def Ys8 (ls:List (List Rn)) (o:Int) (i:Int):Zk:=(dds 2 (.own 1 0 []::(.val (.int .i64 o)::(.val (.sl ls.length (pp ls))::(.val (.int .i64 i)::(dds 16 []))))))
theorem Yk8_1 (ls:List (List Rn)) (o:Int) (i:Int) (b:Bool) (c1:(decide (i<(ls.length:Int)))=true) (c2:(b)=true) (n1:0≤i∧i<(ls.length:Int)) (n2:Ze Yir 20 [.sl ((ls.getD (Int.toNat i) []).length) (pc (ls.getD (Int.toNat i) []))] (.bool b)):Za Yir Yc8 (Ys8 ls o i) .ret (Ys8 ls 2 i):=(Za.go Zc 400 [.b true, .v (.sl ((ls.getD (Int.toNat i) []).length) (pc (ls.getD (Int.toNat i) []))), .r (.bool b), .b true] [2,3,4,5] (ac c1 (ac n1 (ac (Ju n1) (ac n2 (ac c2 a0))))))
theorem Yk8_2 (ls:List (List Rn)) (o:Int) (i:Int) (b:Bool) (c1:(decide (i<(ls.length:Int)))=true) (c2:(b)=false) (n1:0≤i∧i<(ls.length:Int)) (n2:Ze Yir 20 [.sl ((ls.getD (Int.toNat i) []).length) (pc (ls.getD (Int.toNat i) []))] (.bool b)):Za Yir Yc8 (Ys8 ls o i) .norm (Ys8 ls o (i64.wrap (i+1))):=(Za.go Zc 400 [.b true, .v (.sl ((ls.getD (Int.toNat i) []).length) (pc (ls.getD (Int.toNat i) []))), .r (.bool b), .b false] [2,3,4,5] (ac c1 (ac n1 (ac (Ju n1) (ac n2 (ac c2 a0))))))
theorem Yk8_3 (ls:List (List Rn)) (o:Int) (i:Int)  (c1:(decide (i<(ls.length:Int)))=false):Za Yir Yc8 (Ys8 ls o i) (.exit 0) (Ys8 ls o i):=(Za.go Zc 400 [.b false] [2,3,4,5] (ac c1 a0))
theorem Zei (rs:List Rn) (ls:List (List Rn)) (b:Bool) (o i:Int) (c1:(b)=false) (n1:Ze Yir 20 [.sl rs.length (pc rs)] (.bool b)) (n2:Ze Yir 21 [.sl rs.length (pc rs)] (.fresh 1 ls.length (pp ls))) (hl3:Za Yir (.loop Yc8) (Ys8 ls 0 0) .ret (Ys8 ls o i)):Ze Yir 8 [.sl rs.length (pc rs)] (.tup [.sl 0 [], .int .i64 o]):=Ze.of_bodyW (fn:=Yi8) (s:=(dds 2 (.own 1 0 []::(.val (.int .i64 o)::(.val (.sl ls.length (pp ls))::(.val (.int .i64 i)::(dds 16 []))))))) (ex := .ret) rfl rfl (Za.seq (Za.go (t:=(vp rs::(dds 1 (.own 1 0 []::(vi 0::(dds 18 [])))))) Zc 400 [] [0,2,3] a0) (Za.seq (Za.go (t:=(vp rs::(dds 1 (.own 1 0 []::(vi 0::(dds 18 [])))))) Zc 400 [.r (.bool b), .b false] [0,2,3] (ac n1 (ac c1 a0))) (Za.seq (Za.go (t:=(vp rs::(dds 1 (.own 1 0 []::(vi 0::(.val (.sl ls.length (pp ls))::(dds 17 []))))))) Zc 400 [.r (.fresh 1 ls.length (pp ls))] [0,2,3,4] (ac n2 a0)) (Za.seq_out (Za.seq (Za.go Zc 400 [] [2,3,4,5] a0) (Za.block_ret hl3)) (by intro e;cases e))))) (by intro i e;cases e) rfl
theorem Zeh (rs:List Rn) (ls:List (List Rn)) (b:Bool) (i:Int) (c1:(b)=false) (n1:Ze Yir 20 [.sl rs.length (pc rs)] (.bool b)) (n2:Ze Yir 21 [.sl rs.length (pc rs)] (.fresh 1 ls.length (pp ls))) (hl3:Za Yir (.loop Yc8) (Ys8 ls 0 0) (.exit 0) (Ys8 ls 0 i)):Ze Yir 8 [.sl rs.length (pc rs)] (.tup [.sl ls.length (pp ls), .int .i64 0]):=Ze.of_bodyW (fn:=Yi8) (s:=(dds 2 (.val (.sl ls.length (pp ls))::(.val (.int .i64 0)::(dds 18 []))))) (ex := .ret) rfl rfl (Za.seq (Za.go (t:=(vp rs::(dds 1 (.own 1 0 []::(vi 0::(dds 18 [])))))) Zc 400 [] [0,2,3] a0) (Za.seq (Za.go (t:=(vp rs::(dds 1 (.own 1 0 []::(vi 0::(dds 18 [])))))) Zc 400 [.r (.bool b), .b false] [0,2,3] (ac n1 (ac c1 a0))) (Za.seq (Za.go (t:=(vp rs::(dds 1 (.own 1 0 []::(vi 0::(.val (.sl ls.length (pp ls))::(dds 17 []))))))) Zc 400 [.r (.fresh 1 ls.length (pp ls))] [0,2,3,4] (ac n2 a0)) (Za.seq (Za.seq (Za.go Zc 400 [] [2,3,4,5] a0) (Za.block hl3)) (Za.go Zc 400 [] [2,3] a0))))) (by intro i e;cases e) rfl
def Nq (ls:List (List Rn)) (r:Rn) (e:Int) (u:Int) (o:Int) (n:Int) (last:Int) (m:Int) (i:Int):Zk:=(dds 3 (.box [.bool r.1, .sl r.2.length (lm r.2), .int .i64 e]::(.val (.int .i64 u)::(.val (.int .i64 o)::(.val (.int .i64 n)::(.val (.int .i64 last)::(dds 4 (.val (.sl ls.length (pp ls))::(.val (.int .i64 m)::(.val (.int .i64 i)::(dds 23 [])))))))))))
theorem Yk10_1 (ls:List (List Rn)) (r:Rn) (e:Int) (u:Int) (o:Int) (n:Int) (last:Int) (m:Int) (i:Int) (s d:Int) (c1:(decide (i<m))=true) (c2:(d != 0)=true) (n1:0≤i∧i<(ls.length:Int)) (n2:Ze Yir 22 [.sl ((ls.getD (Int.toNat i) []).length) (pc (ls.getD (Int.toNat i) [])), .agg [.bool r.1, .sl r.2.length (lm r.2), .int .i64 e]] (.tup [.int .i64 s, .int .i64 d])):Za Yir Zfu (Nq ls r e u o n last m i) .ret (Nq ls r e 0 d n last m i):=(Za.go Zc 400 [.b true, .v (.sl ((ls.getD (Int.toNat i) []).length) (pc (ls.getD (Int.toNat i) []))), .r (.tup [.int .i64 s, .int .i64 d]), .b true] [3,4,5,6,7,12,13,14] (ac c1 (ac n1 (ac (Ju n1) (ac n2 (ac c2 a0))))))
theorem Yk10_2 (ls:List (List Rn)) (r:Rn) (e:Int) (u:Int) (o:Int) (n:Int) (last:Int) (m:Int) (i:Int) (s d:Int) (c1:(decide (i<m))=true) (c2:(d != 0)=false) (c3:(s==0)=true) (n1:0≤i∧i<(ls.length:Int)) (n2:Ze Yir 22 [.sl ((ls.getD (Int.toNat i) []).length) (pc (ls.getD (Int.toNat i) [])), .agg [.bool r.1, .sl r.2.length (lm r.2), .int .i64 e]] (.tup [.int .i64 s, .int .i64 d])):Za Yir Zfu (Nq ls r e u o n last m i) .norm (Nq ls r e u o n last m (i64.wrap (i+1))):=(Za.go Zc 400 [.b true, .v (.sl ((ls.getD (Int.toNat i) []).length) (pc (ls.getD (Int.toNat i) []))), .r (.tup [.int .i64 s, .int .i64 d]), .b false, .b true] [3,4,5,6,7,12,13,14] (ac c1 (ac n1 (ac (Ju n1) (ac n2 (ac c2 (ac c3 a0)))))))
theorem Yk10_3 (ls:List (List Rn)) (r:Rn) (e:Int) (u:Int) (o:Int) (n:Int) (last:Int) (m:Int) (i:Int) (s d:Int) (c1:(decide (i<m))=true) (c2:(d != 0)=false) (c3:(s==0)=false) (c4:(s==(i64.wrap (0-last)))=true) (n1:0≤i∧i<(ls.length:Int)) (n2:Ze Yir 22 [.sl ((ls.getD (Int.toNat i) []).length) (pc (ls.getD (Int.toNat i) [])), .agg [.bool r.1, .sl r.2.length (lm r.2), .int .i64 e]] (.tup [.int .i64 s, .int .i64 d])):Za Yir Zfu (Nq ls r e u o n last m i) .norm (Nq ls r e u o (i64.wrap (n+1)) s m (i64.wrap (i+1))):=(Za.go Zc 400 [.b true, .v (.sl ((ls.getD (Int.toNat i) []).length) (pc (ls.getD (Int.toNat i) []))), .r (.tup [.int .i64 s, .int .i64 d]), .b false, .b false, .b true] [3,4,5,6,7,12,13,14] (ac c1 (ac n1 (ac (Ju n1) (ac n2 (ac c2 (ac c3 (ac c4 a0))))))))
theorem Yk10_4 (ls:List (List Rn)) (r:Rn) (e:Int) (u:Int) (o:Int) (n:Int) (last:Int) (m:Int) (i:Int) (s d:Int) (c1:(decide (i<m))=true) (c2:(d != 0)=false) (c3:(s==0)=false) (c4:(s==(i64.wrap (0-last)))=false) (n1:0≤i∧i<(ls.length:Int)) (n2:Ze Yir 22 [.sl ((ls.getD (Int.toNat i) []).length) (pc (ls.getD (Int.toNat i) [])), .agg [.bool r.1, .sl r.2.length (lm r.2), .int .i64 e]] (.tup [.int .i64 s, .int .i64 d])):Za Yir Zfu (Nq ls r e u o n last m i) .norm (Nq ls r e u o n s m (i64.wrap (i+1))):=(Za.go Zc 400 [.b true, .v (.sl ((ls.getD (Int.toNat i) []).length) (pc (ls.getD (Int.toNat i) []))), .r (.tup [.int .i64 s, .int .i64 d]), .b false, .b false, .b false] [3,4,5,6,7,12,13,14] (ac c1 (ac n1 (ac (Ju n1) (ac n2 (ac c2 (ac c3 (ac c4 a0))))))))
theorem Yk10_5 (ls:List (List Rn)) (r:Rn) (e:Int) (u:Int) (o:Int) (n:Int) (last:Int) (m:Int) (i:Int)  (c1:(decide (i<m))=false):Za Yir Zfu (Nq ls r e u o n last m i) (.exit 0) (Nq ls r e u o n last m i):=(Za.go Zc 400 [.b false] [3,4,5,6,7,12,13,14] (ac c1 a0))
theorem Zjt (ls:List (List Rn)) (r:Rn) (e o n last i:Int) (hl1:Za Yir (.loop Zfu) (Nq ls r e 0 0 0 0 (ls.length:Int) 0) .ret (Nq ls r e 0 o n last (ls.length:Int) i)):Ze Yir 10 [.sl ls.length (pp ls), .agg [.bool r.1, .sl r.2.length (lm r.2), .int .i64 e]] (.tup [.int .i64 0, .int .i64 o]):=Ze.of_bodyW (fn:=Ztt) (s:=(dds 3 (.box [.bool r.1, .sl r.2.length (lm r.2), .int .i64 e]::(.val (.int .i64 0)::(.val (.int .i64 o)::(.val (.int .i64 n)::(.val (.int .i64 last)::(dds 4 (.val (.sl ls.length (pp ls))::(.val (.int .i64 (ls.length:Int))::(.val (.int .i64 i)::(dds 23 [])))))))))))) (ex := .ret) rfl rfl (Za.seq (Za.go (t:=(.val (.sl ls.length (pp ls))::(.val (.agg [.bool r.1, .sl r.2.length (lm r.2), .int .i64 e])::(dds 1 (.box [.bool r.1, .sl r.2.length (lm r.2), .int .i64 e]::(vi 0::(vi 0::(dds 32 [])))))))) Zc 400 [] [0,1,3,4,5] a0) (Za.seq (Za.go (t:=(.val (.sl ls.length (pp ls))::(.val (.agg [.bool r.1, .sl r.2.length (lm r.2), .int .i64 e])::(dds 1 (.box [.bool r.1, .sl r.2.length (lm r.2), .int .i64 e]::(vi 0::(vi 0::(vi 0::(vi 0::(dds 30 [])))))))))) Zc 400 [] [0,1,3,4,5,6,7] a0) (Za.seq_out (Za.seq (Za.go Zc 400 [] [3,4,5,6,7,12,13,14] a0) (Za.block_ret hl1)) (by intro e;cases e)))) (by intro i e;cases e) rfl
theorem Zjs (ls:List (List Rn)) (r:Rn) (e n last i:Int) (hl1:Za Yir (.loop Zfu) (Nq ls r e 0 0 0 0 (ls.length:Int) 0) (.exit 0) (Nq ls r e 0 0 n last (ls.length:Int) i)):Ze Yir 10 [.sl ls.length (pp ls), .agg [.bool r.1, .sl r.2.length (lm r.2), .int .i64 e]] (.tup [.int .i64 n, .int .i64 0]):=Ze.of_bodyW (fn:=Ztt) (s:=(dds 4 (.val (.int .i64 n)::(.val (.int .i64 0)::(dds 32 []))))) (ex := .ret) rfl rfl (Za.seq (Za.go (t:=(.val (.sl ls.length (pp ls))::(.val (.agg [.bool r.1, .sl r.2.length (lm r.2), .int .i64 e])::(dds 1 (.box [.bool r.1, .sl r.2.length (lm r.2), .int .i64 e]::(vi 0::(vi 0::(dds 32 [])))))))) Zc 400 [] [0,1,3,4,5] a0) (Za.seq (Za.go (t:=(.val (.sl ls.length (pp ls))::(.val (.agg [.bool r.1, .sl r.2.length (lm r.2), .int .i64 e])::(dds 1 (.box [.bool r.1, .sl r.2.length (lm r.2), .int .i64 e]::(vi 0::(vi 0::(vi 0::(vi 0::(dds 30 [])))))))))) Zc 400 [] [0,1,3,4,5,6,7] a0) (Za.seq (Za.seq (Za.go Zc 400 [] [3,4,5,6,7,12,13,14] a0) (Za.block hl1)) (Za.go Zc 400 [] [4,5] a0)))) (by intro i e;cases e) rfl
def Ts (ls:List (List Rn)) (r:Rn) (e:Int) (u:Int) (o:Int) (i:Int):Zk:=(.val (.sl ls.length (pp ls))::(dds 2 (.box [.bool r.1, .sl r.2.length (lm r.2), .int .i64 e]::(.val (.int .i64 u)::(.val (.int .i64 o)::(.val (.int .i64 i)::(dds 23 [])))))))
theorem Yk11_1 (ls:List (List Rn)) (r:Rn) (e:Int) (u:Int) (o:Int) (i:Int) (s d:Int) (c1:(decide (i<(ls.length:Int)))=true) (c2:(d != 0)=true) (n1:0≤i∧i<(ls.length:Int)) (n2:Ze Yir 23 [.sl ((ls.getD (Int.toNat i) []).length) (pc (ls.getD (Int.toNat i) [])), .agg [.bool r.1, .sl r.2.length (lm r.2), .int .i64 e]] (.tup [.int .i64 s, .int .i64 d])):Za Yir Zku (Ts ls r e u o i) .ret (Ts ls r e 0 d i):=(Za.go Zc 400 [.b true, .v (.sl ((ls.getD (Int.toNat i) []).length) (pc (ls.getD (Int.toNat i) []))), .r (.tup [.int .i64 s, .int .i64 d]), .b true] [0,3,4,5,6] (ac c1 (ac n1 (ac (Ju n1) (ac n2 (ac c2 a0))))))
theorem Yk11_2 (ls:List (List Rn)) (r:Rn) (e:Int) (u:Int) (o:Int) (i:Int) (s d:Int) (c1:(decide (i<(ls.length:Int)))=true) (c2:(d != 0)=false) (n1:0≤i∧i<(ls.length:Int)) (n2:Ze Yir 23 [.sl ((ls.getD (Int.toNat i) []).length) (pc (ls.getD (Int.toNat i) [])), .agg [.bool r.1, .sl r.2.length (lm r.2), .int .i64 e]] (.tup [.int .i64 s, .int .i64 d])):Za Yir Zku (Ts ls r e u o i) .norm (Ts ls r e u o (i64.wrap (i+1))):=(Za.go Zc 400 [.b true, .v (.sl ((ls.getD (Int.toNat i) []).length) (pc (ls.getD (Int.toNat i) []))), .r (.tup [.int .i64 s, .int .i64 d]), .b false] [0,3,4,5,6] (ac c1 (ac n1 (ac (Ju n1) (ac n2 (ac c2 a0))))))
theorem Yk11_3 (ls:List (List Rn)) (r:Rn) (e:Int) (u:Int) (o:Int) (i:Int)  (c1:(decide (i<(ls.length:Int)))=false):Za Yir Zku (Ts ls r e u o i) (.exit 0) (Ts ls r e u o i):=(Za.go Zc 400 [.b false] [0,3,4,5,6] (ac c1 a0))
theorem Zjr (ls:List (List Rn)) (r:Rn) (e o i:Int) (hl1:Za Yir (.loop Zku) (Ts ls r e 0 0 0) .ret (Ts ls r e 0 o i)):Ze Yir 11 [.sl ls.length (pp ls), .agg [.bool r.1, .sl r.2.length (lm r.2), .int .i64 e]] (.tup [.int .i64 0, .int .i64 o]):=Ze.of_bodyW (fn:=Zts) (s:=(.val (.sl ls.length (pp ls))::(dds 2 (.box [.bool r.1, .sl r.2.length (lm r.2), .int .i64 e]::(.val (.int .i64 0)::(.val (.int .i64 o)::(.val (.int .i64 i)::(dds 23 [])))))))) (ex := .ret) rfl rfl (Za.seq (Za.go (t:=(.val (.sl ls.length (pp ls))::(.val (.agg [.bool r.1, .sl r.2.length (lm r.2), .int .i64 e])::(dds 1 (.box [.bool r.1, .sl r.2.length (lm r.2), .int .i64 e]::(vi 0::(vi 0::(dds 24 [])))))))) Zc 400 [] [0,1,3,4,5] a0) (Za.seq_out (Za.seq (Za.go Zc 400 [] [0,3,4,5,6] a0) (Za.block_ret hl1)) (by intro e;cases e))) (by intro i e;cases e) rfl
theorem Zjq (ls:List (List Rn)) (r:Rn) (e v i:Int) (hl1:Za Yir (.loop Zku) (Ts ls r e 0 0 0) (.exit 0) (Ts ls r e 0 0 i)) (n2:Ze Yir 24 [.sl ls.length (pp ls), .agg [.bool r.1, .sl r.2.length (lm r.2), .int .i64 e]] (.int .i64 v)):Ze Yir 11 [.sl ls.length (pp ls), .agg [.bool r.1, .sl r.2.length (lm r.2), .int .i64 e]] (.tup [.int .i64 v, .int .i64 0]):=Ze.of_bodyW (fn:=Zts) (s:=(dds 4 (.val (.int .i64 v)::(.val (.int .i64 0)::(dds 24 []))))) (ex := .ret) rfl rfl (Za.seq (Za.go (t:=(.val (.sl ls.length (pp ls))::(.val (.agg [.bool r.1, .sl r.2.length (lm r.2), .int .i64 e])::(dds 1 (.box [.bool r.1, .sl r.2.length (lm r.2), .int .i64 e]::(vi 0::(vi 0::(dds 24 [])))))))) Zc 400 [] [0,1,3,4,5] a0) (Za.seq (Za.seq (Za.go Zc 400 [] [0,3,4,5,6] a0) (Za.block hl1)) (Za.go Zc 400 [.r (.int .i64 v)] [4,5] (ac n2 a0)))) (by intro i e;cases e) rfl
def Ys5 (o:Bool) (rs:List Rn) (i:Int):Zk:=(.val (.sl rs.length (pc rs))::(dds 1 (.val (.bool o)::(.val (.int .i64 i)::(dds 16 [])))))
theorem Yk5_1 (o:Bool) (rs:List Rn) (i:Int)  (c1:(decide (i<(rs.length:Int)))=true) (c2:(decide ((((rs.getD (Int.toNat i) z0).2.length:Nat):Int)>4))=true) (n1:0≤i∧i<(rs.length:Int)):Za Yir Yc5 (Ys5 o rs i) .ret (Ys5 false rs i):=(Za.go Zc 400 [.b true, .v (.sl ((rs.getD (Int.toNat i) z0).2.length) (lm (rs.getD (Int.toNat i) z0).2)), .b true] [0,2,3] (ac c1 (ac n1 (ac (Sd n1) (ac c2 a0)))))
theorem Yk5_2 (o:Bool) (rs:List Rn) (i:Int)  (c1:(decide (i<(rs.length:Int)))=true) (c2:(decide ((((rs.getD (Int.toNat i) z0).2.length:Nat):Int)>4))=false) (n1:0≤i∧i<(rs.length:Int)):Za Yir Yc5 (Ys5 o rs i) .norm (Ys5 o rs (i64.wrap (i+1))):=(Za.go Zc 400 [.b true, .v (.sl ((rs.getD (Int.toNat i) z0).2.length) (lm (rs.getD (Int.toNat i) z0).2)), .b false] [0,2,3] (ac c1 (ac n1 (ac (Sd n1) (ac c2 a0)))))
theorem Yk5_3 (o:Bool) (rs:List Rn) (i:Int)  (c1:(decide (i<(rs.length:Int)))=false):Za Yir Yc5 (Ys5 o rs i) (.exit 0) (Ys5 o rs i):=(Za.go Zc 400 [.b false] [0,2,3] (ac c1 a0))
theorem Zer (rs:List Rn) (c1:(decide ((rs.length:Int)>9))=true):Ze Yir 5 [.sl rs.length (pc rs)] (.bool false):=Ze.of_bodyW (fn:=Yi5) (s:=(dds 2 (.val (.bool false)::(dds 17 [])))) (ex := .ret) rfl rfl (Za.seq (Za.go (t:=(vp rs::(dds 1 (.val (.bool false)::(dds 17 []))))) Zc 400 [] [0,2] a0) (Za.seq_out (Za.go Zc 400 [.b true] [2] (ac c1 a0)) (by intro e;cases e))) (by intro i e;cases e) rfl
theorem Zeq (rs:List Rn) (i:Int) (c1:(decide ((rs.length:Int)>9))=false) (hl1:Za Yir (.loop Yc5) (Ys5 false rs 0) .ret (Ys5 false rs i)):Ze Yir 5 [.sl rs.length (pc rs)] (.bool false):=Ze.of_bodyW (fn:=Yi5) (s:=(.val (.sl rs.length (pc rs))::(dds 1 (.val (.bool false)::(.val (.int .i64 i)::(dds 16 [])))))) (ex := .ret) rfl rfl (Za.seq (Za.go (t:=(vp rs::(dds 1 (.val (.bool false)::(dds 17 []))))) Zc 400 [] [0,2] a0) (Za.seq (Za.go (t:=(vp rs::(dds 1 (.val (.bool false)::(dds 1 (vp rs::(dds 15 []))))))) Zc 400 [.b false] [0,2,4] (ac c1 a0)) (Za.seq_out (Za.seq (Za.go Zc 400 [] [0,2,3] a0) (Za.block_ret hl1)) (by intro e;cases e)))) (by intro i e;cases e) rfl
theorem Zep (rs:List Rn) (i:Int) (c1:(decide ((rs.length:Int)>9))=false) (hl1:Za Yir (.loop Yc5) (Ys5 false rs 0) (.exit 0) (Ys5 false rs i)):Ze Yir 5 [.sl rs.length (pc rs)] (.bool true):=Ze.of_bodyW (fn:=Yi5) (s:=(dds 2 (.val (.bool true)::(dds 17 [])))) (ex := .ret) rfl rfl (Za.seq (Za.go (t:=(vp rs::(dds 1 (.val (.bool false)::(dds 17 []))))) Zc 400 [] [0,2] a0) (Za.seq (Za.go (t:=(vp rs::(dds 1 (.val (.bool false)::(dds 1 (vp rs::(dds 15 []))))))) Zc 400 [.b false] [0,2,4] (ac c1 a0)) (Za.seq (Za.seq (Za.go Zc 400 [] [0,2,3] a0) (Za.block hl1)) (Za.go Zc 400 [] [2] a0)))) (by intro i e;cases e) rfl
theorem Yrun6 (r:Rn) (e:Int)  : Ze Yir 6 [.agg [.bool r.1, .sl r.2.length (lm r.2), .int .i64 e]] (.bool (decide ((r.2.length:Int)≤8))):=Ze.go (fn:=Yi6) Zc rfl 400 rfl [] a0
def Ys3 (r:Rn) (e:Int) (o:Bool) (ls:List (List Rn)) (i:Int):Zk:=(dds 3 (.box [.bool r.1, .sl r.2.length (lm r.2), .int .i64 e]::(.val (.bool o)::(.val (.sl ls.length (pp ls))::(dds 1 (.val (.sl ls.length (pp ls))::(dds 1 (.val (.int .i64 i)::(dds 76 [])))))))))
theorem Yk3_1 (r:Rn) (e:Int) (o:Bool) (ls:List (List Rn)) (i:Int)  (c1:(decide (i<(ls.length:Int)))=true) (n1:0≤i∧i<(ls.length:Int)) (n2:Ze Yir 9 [.sl ((ls.getD (Int.toNat i) []).length) (pc (ls.getD (Int.toNat i) [])), .sl ((ls.getD (Int.toNat i) []).length) (pc (ls.getD (Int.toNat i) []))] (.bool true)):Za Yir Yc3 (Ys3 r e o ls i) .norm (Ys3 r e o ls (i64.wrap (i+1))):=(Za.go Zc 400 [.b true, .v (.sl ((ls.getD (Int.toNat i) []).length) (pc (ls.getD (Int.toNat i) []))), .v (.sl ((ls.getD (Int.toNat i) []).length) (pc (ls.getD (Int.toNat i) []))), .r (.bool true), .b false] [3,4,5,7,9] (ac c1 (ac n1 (ac (Ju n1) (ac n1 (ac (Ju n1) (ac n2 (ac (show false=false from rfl) a0))))))))
theorem Yk3_2 (r:Rn) (e:Int) (o:Bool) (ls:List (List Rn)) (i:Int)  (c1:(decide (i<(ls.length:Int)))=false):Za Yir Yc3 (Ys3 r e o ls i) (.exit 0) (Ys3 r e o ls i):=(Za.go Zc 400 [.b false] [3,4,5,7,9] (ac c1 a0))
theorem Znr (rs:List Rn) (r:Rn) (e:Int) (b s1:Bool) (c5:(b)=true) (c6:(s1)=true) (c7:(decide (e>300))=true) (n1:Ze Yir 4 [] (.bool true)) (n2:Ze Yir 5 [.sl rs.length (pc rs)] (.bool b)) (n3:Ze Yir 6 [.agg [.bool r.1, .sl r.2.length (lm r.2), .int .i64 e]] (.bool s1)):Ze Yir 3 [.sl rs.length (pc rs), .agg [.bool r.1, .sl r.2.length (lm r.2), .int .i64 e]] (.bool true):=Ze.of_bodyW (fn:=Yi3) (s:=(dds 4 (.val (.bool true)::(dds 81 [])))) (ex := .ret) rfl rfl (Za.seq (Za.go (t:=(vp rs::(.val (.agg [.bool r.1, .sl r.2.length (lm r.2), .int .i64 e])::(dds 1 (.box [.bool r.1, .sl r.2.length (lm r.2), .int .i64 e]::(.val (.bool false)::(dds 81 []))))))) Zc 400 [] [0,1,3,4] a0) (Za.seq (Za.go (t:=(vp rs::(.val (.agg [.bool r.1, .sl r.2.length (lm r.2), .int .i64 e])::(dds 1 (.box [.bool r.1, .sl r.2.length (lm r.2), .int .i64 e]::(.val (.bool false)::(dds 81 []))))))) Zc 400 [.r (.bool true), .b false] [0,1,3,4] (ac n1 (ac (show false=false from rfl) a0))) (Za.seq_out (Za.go Zc 400 [.r (.bool b), .b false, .r (.bool s1), .b false, .b true, .r (.bool true)] [4] (ac n2 (ac (show (!b)=false from (by rw [c5];rfl)) (ac n3 (ac (show (!s1)=false from (by rw [c6];rfl)) (ac c7 (ac n1 a0))))))) (by intro e;cases e)))) (by intro i e;cases e) rfl
theorem Znq (rs:List Rn) (ls:List (List Rn)) (r:Rn) (e d x h i:Int) (b s1:Bool) (c1:(d != d)=false) (c2:((ls.length:Int) != (ls.length:Int))=false) (c3:(x==x)=true) (c5:(b)=true) (c6:(s1)=true) (c7:(decide (e>300))=false) (n1:Ze Yir 4 [] (.bool true)) (n2:Ze Yir 5 [.sl rs.length (pc rs)] (.bool b)) (n3:Ze Yir 6 [.agg [.bool r.1, .sl r.2.length (lm r.2), .int .i64 e]] (.bool s1)) (n4:Ze Yir 7 [.sl rs.length (pc rs)] (.tup [.sl ls.length (pp ls), .int .i64 d])) (n5:Ze Yir 8 [.sl rs.length (pc rs)] (.tup [.sl ls.length (pp ls), .int .i64 d])) (hl6:Za Yir (.loop Yc3) (Ys3 r e false ls 0) (.exit 0) (Ys3 r e false ls i)) (n7:Ze Yir 10 [.sl ls.length (pp ls), .agg [.bool r.1, .sl r.2.length (lm r.2), .int .i64 e]] (.tup [.int .i64 x, .int .i64 h])) (n8:Ze Yir 11 [.sl ls.length (pp ls), .agg [.bool r.1, .sl r.2.length (lm r.2), .int .i64 e]] (.tup [.int .i64 x, .int .i64 h])):Ze Yir 3 [.sl rs.length (pc rs), .agg [.bool r.1, .sl r.2.length (lm r.2), .int .i64 e]] (.bool (h==h)):=Ze.of_bodyW (fn:=Yi3) (s:=(dds 4 (.val (.bool (h==h))::(dds 81 [])))) (ex := .ret) rfl rfl (Za.seq (Za.go (t:=(vp rs::(.val (.agg [.bool r.1, .sl r.2.length (lm r.2), .int .i64 e])::(dds 1 (.box [.bool r.1, .sl r.2.length (lm r.2), .int .i64 e]::(.val (.bool false)::(dds 81 []))))))) Zc 400 [] [0,1,3,4] a0) (Za.seq (Za.go (t:=(vp rs::(.val (.agg [.bool r.1, .sl r.2.length (lm r.2), .int .i64 e])::(dds 1 (.box [.bool r.1, .sl r.2.length (lm r.2), .int .i64 e]::(.val (.bool false)::(dds 81 []))))))) Zc 400 [.r (.bool true), .b false] [0,1,3,4] (ac n1 (ac (show false=false from rfl) a0))) (Za.seq (Za.go (t:=(vp rs::(.val (.agg [.bool r.1, .sl r.2.length (lm r.2), .int .i64 e])::(dds 1 (.box [.bool r.1, .sl r.2.length (lm r.2), .int .i64 e]::(.val (.bool false)::(dds 81 []))))))) Zc 400 [.r (.bool b), .b false, .r (.bool s1), .b false, .b false] [0,1,3,4] (ac n2 (ac (show (!b)=false from (by rw [c5];rfl)) (ac n3 (ac (show (!s1)=false from (by rw [c6];rfl)) (ac c7 a0)))))) (Za.seq (Za.go (t:=(vp rs::(.val (.agg [.bool r.1, .sl r.2.length (lm r.2), .int .i64 e])::(dds 1 (.box [.bool r.1, .sl r.2.length (lm r.2), .int .i64 e]::(.val (.bool false)::(.val (.sl ls.length (pp ls))::(vi d::(dds 79 []))))))))) Zc 400 [.r (.tup [.sl ls.length (pp ls), .int .i64 d])] [0,1,3,4,5,6] (ac n4 a0)) (Za.seq (Za.go (t:=(vp rs::(.val (.agg [.bool r.1, .sl r.2.length (lm r.2), .int .i64 e])::(dds 1 (.box [.bool r.1, .sl r.2.length (lm r.2), .int .i64 e]::(.val (.bool false)::(.val (.sl ls.length (pp ls))::(vi d::(.val (.sl ls.length (pp ls))::(vi d::(dds 77 []))))))))))) Zc 400 [.r (.tup [.sl ls.length (pp ls), .int .i64 d])] [0,1,3,4,5,6,7,8] (ac n5 a0)) (Za.seq (Za.go (t:=(vp rs::(.val (.agg [.bool r.1, .sl r.2.length (lm r.2), .int .i64 e])::(dds 1 (.box [.bool r.1, .sl r.2.length (lm r.2), .int .i64 e]::(.val (.bool false)::(.val (.sl ls.length (pp ls))::(dds 1 (.val (.sl ls.length (pp ls))::(dds 78 [])))))))))) Zc 400 [.b false, .b false] [0,1,3,4,5,7] (ac c1 (ac c2 a0))) (Za.seq (Za.seq (Za.go Zc 400 [] [3,4,5,7,9] a0) (Za.block hl6)) (Za.go Zc 400 [.r (.tup [.int .i64 x, .int .i64 h]), .r (.tup [.int .i64 x, .int .i64 h]), .b true] [4] (ac n7 (ac n8 (ac c3 a0))))))))))) (by intro i e;cases e) rfl
theorem Znp (rs:List Rn) (r:Rn) (e:Int) (b s1:Bool) (c5:(b)=true) (c6:(s1)=false) (n1:Ze Yir 4 [] (.bool true)) (n2:Ze Yir 5 [.sl rs.length (pc rs)] (.bool b)) (n3:Ze Yir 6 [.agg [.bool r.1, .sl r.2.length (lm r.2), .int .i64 e]] (.bool s1)):Ze Yir 3 [.sl rs.length (pc rs), .agg [.bool r.1, .sl r.2.length (lm r.2), .int .i64 e]] (.bool true):=Ze.of_bodyW (fn:=Yi3) (s:=(dds 4 (.val (.bool true)::(dds 81 [])))) (ex := .ret) rfl rfl (Za.seq (Za.go (t:=(vp rs::(.val (.agg [.bool r.1, .sl r.2.length (lm r.2), .int .i64 e])::(dds 1 (.box [.bool r.1, .sl r.2.length (lm r.2), .int .i64 e]::(.val (.bool false)::(dds 81 []))))))) Zc 400 [] [0,1,3,4] a0) (Za.seq (Za.go (t:=(vp rs::(.val (.agg [.bool r.1, .sl r.2.length (lm r.2), .int .i64 e])::(dds 1 (.box [.bool r.1, .sl r.2.length (lm r.2), .int .i64 e]::(.val (.bool false)::(dds 81 []))))))) Zc 400 [.r (.bool true), .b false] [0,1,3,4] (ac n1 (ac (show false=false from rfl) a0))) (Za.seq_out (Za.go Zc 400 [.r (.bool b), .b false, .r (.bool s1), .b true, .b true, .r (.bool true)] [4] (ac n2 (ac (show (!b)=false from (by rw [c5];rfl)) (ac n3 (ac (show (!s1)=true from (by rw [c6];rfl)) (ac (show true=true from rfl) (ac n1 a0))))))) (by intro e;cases e)))) (by intro i e;cases e) rfl
theorem Zno (rs:List Rn) (r:Rn) (e:Int) (b:Bool) (c5:(b)=false) (n1:Ze Yir 4 [] (.bool true)) (n2:Ze Yir 5 [.sl rs.length (pc rs)] (.bool b)):Ze Yir 3 [.sl rs.length (pc rs), .agg [.bool r.1, .sl r.2.length (lm r.2), .int .i64 e]] (.bool true):=Ze.of_bodyW (fn:=Yi3) (s:=(dds 4 (.val (.bool true)::(dds 81 [])))) (ex := .ret) rfl rfl (Za.seq (Za.go (t:=(vp rs::(.val (.agg [.bool r.1, .sl r.2.length (lm r.2), .int .i64 e])::(dds 1 (.box [.bool r.1, .sl r.2.length (lm r.2), .int .i64 e]::(.val (.bool false)::(dds 81 []))))))) Zc 400 [] [0,1,3,4] a0) (Za.seq (Za.go (t:=(vp rs::(.val (.agg [.bool r.1, .sl r.2.length (lm r.2), .int .i64 e])::(dds 1 (.box [.bool r.1, .sl r.2.length (lm r.2), .int .i64 e]::(.val (.bool false)::(dds 81 []))))))) Zc 400 [.r (.bool true), .b false] [0,1,3,4] (ac n1 (ac (show false=false from rfl) a0))) (Za.seq_out (Za.go Zc 400 [.r (.bool b), .b true, .b true, .b true, .r (.bool true)] [4] (ac n2 (ac (show (!b)=true from (by rw [c5];rfl)) (ac (show true=true from rfl) (ac (show true=true from rfl) (ac n1 a0)))))) (by intro e;cases e)))) (by intro i e;cases e) rfl
end Go.Proofs.YthnnfemologhfaaGreat

namespace Go.Proofs.YthnnfemologhfaaGreat
open Go.IntKind (i64 u64 u32)
open Go.Ai
set_option maxRecDepth 100000
theorem aw0:Ze Yir 12 [.sl 3 [.int .i64 (-2), .int .i64 0, .int .i64 1]] (.fresh 2 3 [.bool true, .sl 1 [.int .u32 2], .bool false, .sl 0 [], .bool false, .sl 1 [.int .u32 1]]):=Zy Qj (Zo _) 400 _ _ _ (by kernel_rfl)
theorem aw1:Ze Yir 12 [.sl 3 [.int .i64 0, .int .i64 (-1), .int .i64 1]] (.fresh 2 3 [.bool false, .sl 0 [], .bool true, .sl 1 [.int .u32 1], .bool false, .sl 1 [.int .u32 1]]):=Zy Qj (Zo _) 400 _ _ _ (by kernel_rfl)
theorem aw2:Ze Yir 58 [.sl 3 [.bool true, .sl 1 [.int .u32 2], .bool false, .sl 0 [], .bool false, .sl 1 [.int .u32 1]]] (.fresh 2 3 [.bool true, .sl 1 [.int .u32 2], .bool false, .sl 0 [], .bool false, .sl 1 [.int .u32 1]]):=Zy Qj (Zo _) 400 _ _ _ (by kernel_rfl)
theorem aw3:Ze Yir 67 [.agg [.bool false, .sl 0 []], .agg [.bool false, .sl 1 [.int .u32 1]]] (.agg [.bool false, .sl 1 [.int .u32 1]]):=Zy Qj (Zo _) 400 _ _ _ (by kernel_rfl)
theorem aw4:Ze Yir 18 [.sl 3 [.bool true, .sl 1 [.int .u32 2], .bool false, .sl 0 [], .bool false, .sl 1 [.int .u32 1]]] (.tup [.sl 3 [.bool true, .sl 1 [.int .u32 2], .bool false, .sl 0 [], .bool false, .sl 1 [.int .u32 1]], .int .i64 0]):=Zy Qj (Zh aw3 (Zh aw2 (Zo _))) 400 _ _ _ (by kernel_rfl)
theorem aw5:Ze Yir 35 [.sl 3 [.bool true, .sl 1 [.int .u32 2], .bool false, .sl 0 [], .bool false, .sl 1 [.int .u32 1]]] (.fresh 2 2 [.bool false, .sl 0 [], .bool false, .sl 1 [.int .u32 2]]):=Zy Qj (Zo _) 400 _ _ _ (by kernel_rfl)
theorem aw6:Ze Yir 67 [.agg [.bool false, .sl 0 []], .agg [.bool false, .sl 1 [.int .u32 2]]] (.agg [.bool false, .sl 1 [.int .u32 2]]):=Zy Qj (Zo _) 400 _ _ _ (by kernel_rfl)
theorem aw7:Ze Yir 59 [.sl 2 [.bool false, .sl 0 [], .bool false, .sl 1 [.int .u32 2]]] (.agg [.bool false, .sl 1 [.int .u32 2]]):=Zy Qj (Zh aw6 (Zo _)) 400 _ _ _ (by kernel_rfl)
theorem aw8:Ze Yir 33 [.sl 2 [.bool false, .sl 0 [], .bool false, .sl 1 [.int .u32 2]]] (.fresh 2 2 [.bool false, .sl 0 [], .bool false, .sl 1 [.int .u32 1]]):=Zy Qj (Zh aw7 (Zo _)) 400 _ _ _ (by kernel_rfl)
theorem aw9:Ze Yir 33 [.sl 2 [.bool false, .sl 0 [], .bool false, .sl 1 [.int .u32 1]]] (.fresh 2 2 [.bool false, .sl 0 [], .bool false, .sl 1 [.int .u32 1]]):=Zy Qj (Zh aw3 (Zo _)) 400 _ _ _ (by kernel_rfl)
theorem aw10:Ze Yir 67 [.agg [.bool false, .sl 1 [.int .u32 1]], .agg [.bool false, .sl 1 [.int .u32 1]]] (.agg [.bool false, .sl 1 [.int .u32 1]]):=Zy Qj (Zo _) 400 _ _ _ (by kernel_rfl)
theorem aw11:Ze Yir 58 [.sl 3 [.bool true, .sl 1 [.int .u32 2], .bool false, .sl 0 [], .bool false, .sl 0 []]] (.fresh 2 1 [.bool true, .sl 1 [.int .u32 2]]):=Zy Qj (Zo _) 400 _ _ _ (by kernel_rfl)
theorem aw12:Ze Yir 67 [.agg [.bool false, .sl 0 []], .agg [.bool true, .sl 1 [.int .u32 2]]] (.agg [.bool false, .sl 1 [.int .u32 2]]):=Zy Qj (Zo _) 400 _ _ _ (by kernel_rfl)
theorem aw13:Ze Yir 33 [.sl 3 [.bool true, .sl 1 [.int .u32 2], .bool false, .sl 0 [], .bool false, .sl 0 []]] (.fresh 2 1 [.bool true, .sl 1 [.int .u32 1]]):=Zy Qj (Zh aw12 (Zh aw11 (Zo _))) 400 _ _ _ (by kernel_rfl)
theorem aw14:Ze Yir 37 [.sl 3 [.bool true, .sl 1 [.int .u32 2], .bool false, .sl 0 [], .bool false, .sl 1 [.int .u32 1]], .sl 2 [.bool false, .sl 0 [], .bool false, .sl 1 [.int .u32 1]]] (.fresh 2 1 [.bool true, .sl 1 [.int .u32 1]]):=Zy Qj (Zh aw13 (Zh aw10 (Zh aw9 (Zh aw3 (Zh aw2 (Zo _)))))) 400 _ _ _ (by kernel_rfl)
theorem aw15:Ze Yir 67 [.agg [.bool false, .sl 0 []], .agg [.bool true, .sl 1 [.int .u32 1]]] (.agg [.bool false, .sl 1 [.int .u32 1]]):=Zy Qj (Zo _) 400 _ _ _ (by kernel_rfl)
theorem aw16:Ze Yir 33 [.sl 1 [.bool true, .sl 1 [.int .u32 1]]] (.fresh 2 1 [.bool true, .sl 1 [.int .u32 1]]):=Zy Qj (Zh aw15 (Zo _)) 400 _ _ _ (by kernel_rfl)
theorem aw17:Ze Yir 67 [.agg [.bool true, .sl 1 [.int .u32 1]], .agg [.bool false, .sl 1 [.int .u32 1]]] (.agg [.bool false, .sl 1 [.int .u32 1]]):=Zy Qj (Zo _) 400 _ _ _ (by kernel_rfl)
theorem aw18:Ze Yir 37 [.sl 2 [.bool false, .sl 0 [], .bool false, .sl 1 [.int .u32 1]], .sl 1 [.bool true, .sl 1 [.int .u32 1]]] (.fresh 2 0 []):=Zy Qj (Zh aw17 (Zh aw16 (Zh aw9 (Zo _)))) 400 _ _ _ (by kernel_rfl)
theorem aw19:Ze Yir 62 [.sl 3 [.bool true, .sl 1 [.int .u32 2], .bool false, .sl 0 [], .bool false, .sl 1 [.int .u32 1]], .sl 2 [.bool false, .sl 0 [], .bool false, .sl 1 [.int .u32 2]]] (.fresh 2 1 [.bool false, .sl 1 [.int .u32 1]]):=Zy Qj (Zh aw18 (Zh aw14 (Zh aw8 (Zh aw3 (Zh aw2 (Zo _)))))) 400 _ _ _ (by kernel_rfl)
theorem aw20:Ze Yir 34 [.sl 3 [.bool true, .sl 1 [.int .u32 2], .bool false, .sl 0 [], .bool false, .sl 1 [.int .u32 1]]] (.sl 3 [.bool true, .sl 1 [.int .u32 2], .bool false, .sl 0 [], .bool false, .sl 1 [.int .u32 1]]):=Zy Qj (Zh aw19 (Zh aw5 (Zh aw3 (Zh aw2 (Zo _))))) 400 _ _ _ (by kernel_rfl)
theorem aw21:Ze Yir 33 [.sl 1 [.bool false, .sl 1 [.int .u32 1]]] (.fresh 2 1 [.bool false, .sl 1 [.int .u32 1]]):=Zy Qj (Zh aw3 (Zo _)) 400 _ _ _ (by kernel_rfl)
theorem aw22:Ze Yir 37 [.sl 2 [.bool false, .sl 0 [], .bool false, .sl 1 [.int .u32 1]], .sl 1 [.bool false, .sl 1 [.int .u32 1]]] (.fresh 2 0 []):=Zy Qj (Zh aw21 (Zh aw10 (Zh aw9 (Zo _)))) 400 _ _ _ (by kernel_rfl)
theorem aw23:Ze Yir 27 [.agg [.bool false, .sl 0 [], .int .i64 0], .agg [.bool false, .sl 1 [.int .u32 2], .int .i64 0]] (.int .i64 (-1)):=Zy Qj (Zo _) 400 _ _ _ (by kernel_rfl)
theorem aw24:Ze Yir 47 [.sl 3 [.bool true, .sl 1 [.int .u32 2], .bool false, .sl 0 [], .bool false, .sl 1 [.int .u32 1]], .agg [.bool false, .sl 0 [], .int .i64 0]] (.int .i64 (-1)):=Zy Qj (Zo _) 400 _ _ _ (by kernel_rfl)
theorem aw25:Ze Yir 47 [.sl 2 [.bool false, .sl 0 [], .bool false, .sl 1 [.int .u32 1]], .agg [.bool false, .sl 0 [], .int .i64 0]] (.int .i64 0):=Zy Qj (Zo _) 400 _ _ _ (by kernel_rfl)
theorem aw26:Ze Yir 47 [.sl 1 [.bool false, .sl 1 [.int .u32 1]], .agg [.bool false, .sl 0 [], .int .i64 0]] (.int .i64 1):=Zy Qj (Zo _) 400 _ _ _ (by kernel_rfl)
theorem aw27:Ze Yir 47 [.sl 3 [.bool true, .sl 1 [.int .u32 2], .bool false, .sl 0 [], .bool false, .sl 1 [.int .u32 1]], .agg [.bool false, .sl 1 [.int .u32 2], .int .i64 0]] (.int .i64 1):=Zy Qj (Zo _) 400 _ _ _ (by kernel_rfl)
theorem aw28:Ze Yir 47 [.sl 2 [.bool false, .sl 0 [], .bool false, .sl 1 [.int .u32 1]], .agg [.bool false, .sl 1 [.int .u32 2], .int .i64 0]] (.int .i64 1):=Zy Qj (Zo _) 400 _ _ _ (by kernel_rfl)
theorem aw29:Ze Yir 47 [.sl 1 [.bool false, .sl 1 [.int .u32 1]], .agg [.bool false, .sl 1 [.int .u32 2], .int .i64 0]] (.int .i64 1):=Zy Qj (Zo _) 400 _ _ _ (by kernel_rfl)
theorem aw30:Ze Yir 13 [.sl 3 [.bool true, .sl 1 [.int .u32 2], .bool false, .sl 0 [], .bool false, .sl 1 [.int .u32 1]], .agg [.bool false, .sl 0 [], .int .i64 0], .agg [.bool false, .sl 1 [.int .u32 2], .int .i64 0]] (.tup [.int .i64 1, .int .i64 0]):=Zy Qj (Zh aw29 (Zh aw28 (Zh aw27 (Zh aw26 (Zh aw25 (Zh aw24 (Zh aw23 (Zh aw22 (Zh aw20 (Zh aw14 (Zh aw8 (Zh aw5 (Zh aw4 (Zo _)))))))))))))) 400 _ _ _ (by kernel_rfl)
theorem aw31:Ze Yir 58 [.sl 3 [.bool false, .sl 0 [], .bool true, .sl 1 [.int .u32 1], .bool false, .sl 1 [.int .u32 1]]] (.fresh 2 3 [.bool false, .sl 0 [], .bool true, .sl 1 [.int .u32 1], .bool false, .sl 1 [.int .u32 1]]):=Zy Qj (Zo _) 400 _ _ _ (by kernel_rfl)
theorem aw32:Ze Yir 18 [.sl 3 [.bool false, .sl 0 [], .bool true, .sl 1 [.int .u32 1], .bool false, .sl 1 [.int .u32 1]]] (.tup [.sl 3 [.bool false, .sl 0 [], .bool true, .sl 1 [.int .u32 1], .bool false, .sl 1 [.int .u32 1]], .int .i64 0]):=Zy Qj (Zh aw31 (Zh aw3 (Zo _))) 400 _ _ _ (by kernel_rfl)
theorem aw33:Ze Yir 35 [.sl 3 [.bool false, .sl 0 [], .bool true, .sl 1 [.int .u32 1], .bool false, .sl 1 [.int .u32 1]]] (.fresh 2 2 [.bool true, .sl 1 [.int .u32 1], .bool false, .sl 1 [.int .u32 2]]):=Zy Qj (Zo _) 400 _ _ _ (by kernel_rfl)
end Go.Proofs.YthnnfemologhfaaGreat

namespace Go.Proofs.YthnnfemologhfaaGreat
open Go.IntKind (i64 u64 u32)
open Go.Ai
set_option maxRecDepth 100000
theorem aw34:Ze Yir 67 [.agg [.bool false, .sl 1 [.int .u32 2]], .agg [.bool true, .sl 1 [.int .u32 1]]] (.agg [.bool false, .sl 1 [.int .u32 1]]):=Zy Qj (Zo _) 400 _ _ _ (by kernel_rfl)
theorem aw35:Ze Yir 33 [.sl 2 [.bool true, .sl 1 [.int .u32 1], .bool false, .sl 1 [.int .u32 2]]] (.fresh 2 2 [.bool true, .sl 1 [.int .u32 1], .bool false, .sl 1 [.int .u32 2]]):=Zy Qj (Zh aw34 (Zh aw6 (Zo _))) 400 _ _ _ (by kernel_rfl)
theorem aw36:Ze Yir 67 [.agg [.bool false, .sl 1 [.int .u32 2]], .agg [.bool false, .sl 1 [.int .u32 1]]] (.agg [.bool false, .sl 1 [.int .u32 1]]):=Zy Qj (Zo _) 400 _ _ _ (by kernel_rfl)
theorem aw37:Ze Yir 58 [.sl 3 [.bool false, .sl 0 [], .bool true, .sl 1 [.int .u32 1], .bool false, .sl 0 []]] (.fresh 2 2 [.bool false, .sl 0 [], .bool true, .sl 1 [.int .u32 1]]):=Zy Qj (Zo _) 400 _ _ _ (by kernel_rfl)
theorem aw38:Ze Yir 33 [.sl 2 [.bool true, .sl 1 [.int .u32 1], .bool false, .sl 0 []]] (.fresh 2 1 [.bool true, .sl 1 [.int .u32 1]]):=Zy Qj (Zh aw15 (Zo _)) 400 _ _ _ (by kernel_rfl)
theorem aw39:Ze Yir 37 [.sl 3 [.bool false, .sl 0 [], .bool true, .sl 1 [.int .u32 1], .bool false, .sl 1 [.int .u32 1]], .sl 2 [.bool true, .sl 1 [.int .u32 1], .bool false, .sl 1 [.int .u32 2]]] (.fresh 2 1 [.bool true, .sl 1 [.int .u32 1]]):=Zy Qj (Zh aw38 (Zh aw37 (Zh aw36 (Zh aw35 (Zh aw34 (Zh aw31 (Zh aw15 (Zh aw3 (Zo _))))))))) 400 _ _ _ (by kernel_rfl)
theorem aw40:Ze Yir 67 [.agg [.bool true, .sl 1 [.int .u32 1]], .agg [.bool false, .sl 1 [.int .u32 2]]] (.agg [.bool false, .sl 1 [.int .u32 1]]):=Zy Qj (Zo _) 400 _ _ _ (by kernel_rfl)
theorem aw41:Ze Yir 67 [.agg [.bool true, .sl 1 [.int .u32 1]], .agg [.bool true, .sl 1 [.int .u32 1]]] (.agg [.bool false, .sl 1 [.int .u32 1]]):=Zy Qj (Zo _) 400 _ _ _ (by kernel_rfl)
theorem aw42:Ze Yir 37 [.sl 2 [.bool true, .sl 1 [.int .u32 1], .bool false, .sl 1 [.int .u32 2]], .sl 1 [.bool true, .sl 1 [.int .u32 1]]] (.fresh 2 0 []):=Zy Qj (Zh aw41 (Zh aw40 (Zh aw38 (Zh aw35 (Zh aw16 (Zo _)))))) 400 _ _ _ (by kernel_rfl)
theorem aw43:Ze Yir 62 [.sl 3 [.bool false, .sl 0 [], .bool true, .sl 1 [.int .u32 1], .bool false, .sl 1 [.int .u32 1]], .sl 2 [.bool true, .sl 1 [.int .u32 1], .bool false, .sl 1 [.int .u32 2]]] (.fresh 2 1 [.bool false, .sl 1 [.int .u32 1]]):=Zy Qj (Zh aw42 (Zh aw39 (Zh aw35 (Zh aw31 (Zh aw3 (Zo _)))))) 400 _ _ _ (by kernel_rfl)
theorem aw44:Ze Yir 34 [.sl 3 [.bool false, .sl 0 [], .bool true, .sl 1 [.int .u32 1], .bool false, .sl 1 [.int .u32 1]]] (.sl 3 [.bool false, .sl 0 [], .bool true, .sl 1 [.int .u32 1], .bool false, .sl 1 [.int .u32 1]]):=Zy Qj (Zh aw43 (Zh aw33 (Zh aw31 (Zh aw3 (Zo _))))) 400 _ _ _ (by kernel_rfl)
theorem aw45:Ze Yir 67 [.agg [.bool false, .sl 1 [.int .u32 1]], .agg [.bool false, .sl 1 [.int .u32 2]]] (.agg [.bool false, .sl 1 [.int .u32 1]]):=Zy Qj (Zo _) 400 _ _ _ (by kernel_rfl)
theorem aw46:Ze Yir 67 [.agg [.bool false, .sl 1 [.int .u32 1]], .agg [.bool true, .sl 1 [.int .u32 1]]] (.agg [.bool false, .sl 1 [.int .u32 1]]):=Zy Qj (Zo _) 400 _ _ _ (by kernel_rfl)
theorem aw47:Ze Yir 37 [.sl 2 [.bool true, .sl 1 [.int .u32 1], .bool false, .sl 1 [.int .u32 2]], .sl 1 [.bool false, .sl 1 [.int .u32 1]]] (.fresh 2 0 []):=Zy Qj (Zh aw46 (Zh aw45 (Zh aw38 (Zh aw35 (Zh aw21 (Zo _)))))) 400 _ _ _ (by kernel_rfl)
theorem aw48:Ze Yir 27 [.agg [.bool false, .sl 0 [], .int .i64 0], .agg [.bool false, .sl 1 [.int .u32 1], .int .i64 0]] (.int .i64 (-1)):=Zy Qj (Zo _) 400 _ _ _ (by kernel_rfl)
theorem aw49:Ze Yir 47 [.sl 3 [.bool false, .sl 0 [], .bool true, .sl 1 [.int .u32 1], .bool false, .sl 1 [.int .u32 1]], .agg [.bool false, .sl 0 [], .int .i64 0]] (.int .i64 0):=Zy Qj (Zo _) 400 _ _ _ (by kernel_rfl)
theorem aw50:Ze Yir 47 [.sl 2 [.bool true, .sl 1 [.int .u32 1], .bool false, .sl 1 [.int .u32 2]], .agg [.bool false, .sl 0 [], .int .i64 0]] (.int .i64 (-1)):=Zy Qj (Zo _) 400 _ _ _ (by kernel_rfl)
theorem aw51:Ze Yir 47 [.sl 3 [.bool false, .sl 0 [], .bool true, .sl 1 [.int .u32 1], .bool false, .sl 1 [.int .u32 1]], .agg [.bool false, .sl 1 [.int .u32 1], .int .i64 0]] (.int .i64 0):=Zy Qj (Zo _) 400 _ _ _ (by kernel_rfl)
theorem aw52:Ze Yir 47 [.sl 2 [.bool true, .sl 1 [.int .u32 1], .bool false, .sl 1 [.int .u32 2]], .agg [.bool false, .sl 1 [.int .u32 1], .int .i64 0]] (.int .i64 1):=Zy Qj (Zo _) 400 _ _ _ (by kernel_rfl)
theorem aw53:Ze Yir 47 [.sl 1 [.bool false, .sl 1 [.int .u32 1]], .agg [.bool false, .sl 1 [.int .u32 1], .int .i64 0]] (.int .i64 1):=Zy Qj (Zo _) 400 _ _ _ (by kernel_rfl)
theorem aw54:Ze Yir 13 [.sl 3 [.bool false, .sl 0 [], .bool true, .sl 1 [.int .u32 1], .bool false, .sl 1 [.int .u32 1]], .agg [.bool false, .sl 0 [], .int .i64 0], .agg [.bool false, .sl 1 [.int .u32 1], .int .i64 0]] (.tup [.int .i64 1, .int .i64 0]):=Zy Qj (Zh aw53 (Zh aw52 (Zh aw51 (Zh aw50 (Zh aw49 (Zh aw48 (Zh aw47 (Zh aw44 (Zh aw39 (Zh aw35 (Zh aw33 (Zh aw32 (Zh aw26 (Zo _)))))))))))))) 400 _ _ _ (by kernel_rfl)
theorem aw55:Ze Yir 7 [.sl 3 [.bool true, .sl 1 [.int .u32 2], .bool false, .sl 0 [], .bool false, .sl 1 [.int .u32 1]]] (.tup [.sl 3 [.sl 3 [.bool true, .sl 1 [.int .u32 2], .bool false, .sl 0 [], .bool false, .sl 1 [.int .u32 1]], .sl 2 [.bool false, .sl 0 [], .bool false, .sl 1 [.int .u32 1]], .sl 1 [.bool false, .sl 1 [.int .u32 1]]], .int .i64 0]):=Zy Qj (Zh aw22 (Zh aw21 (Zh aw20 (Zh aw14 (Zh aw9 (Zh aw8 (Zh aw5 (Zh aw4 (Zo _))))))))) 400 _ _ _ (by kernel_rfl)
theorem aw56:Ze Yir 30 [.agg [.bool false, .sl 1 [.int .u32 1], .int .i64 0], .agg [.bool false, .sl 1 [.int .u32 2], .int .i64 0]] (.agg [.bool false, .sl 1 [.int .u32 3], .int .i64 1]):=Zy Qj (Zo _) 400 _ _ _ (by kernel_rfl)
end Go.Proofs.YthnnfemologhfaaGreat

namespace Go.Proofs.YthnnfemologhfaaGreat
open Go.IntKind (i64 u64 u32)
open Go.Ai
set_option maxRecDepth 100000
theorem aw57:Ze Yir 4 [] (.bool true):=Zy Qj (Zh aw56 (Zh aw55 (Zh aw54 (Zh aw30 (Zh aw1 (Zh aw0 (Zo _))))))) 400 _ _ _ (by kernel_rfl)
theorem Yrun4:Ze Yir 4 [] (.bool true):=aw57
end Go.Proofs.YthnnfemologhfaaGreat

namespace Go.Proofs.YthnnfemologhfaaGreat
open Go.IntKind (i64 u64 u32)
open Go.Ai
set_option maxRecDepth 100000
def fewB (n m:Nat) (rs:List Rn):Bool:=decide (rs.length≤n)&&rs.all (fun r=>decide (r.2.length≤m))
theorem Zhe {n m:Nat} {rs:List Rn} (h:fewB n m rs=true) (hu:∀ r∈rs,U32 r.2):rs.length≤n∧∀ r∈rs,Jw m r:=by
 unfold fewB at h
 rw[Bool.and_eq_true,decide_eq_true_eq,List.all_eq_true] at h
 exact⟨h.1,fun r hr=>⟨hu r hr,by simpa using h.2 r hr⟩⟩
theorem Zhf (rs:List Rn):Ze Yir 5 [.sl rs.length (pc rs)] (.bool (fewB 9 4 rs)):=by
 unfold fewB
 by_cases h10:rs.length≤9
 ·rw[decide_eq_true h10,Bool.true_and]
  have c1:decide ((rs.length:Int)>9)=false:=by rw[decide_eq_false_iff_not];omega
  have step:∀ t:Nat,t<rs.length→(rs.getD t z0).2.length≤4→Za Yir Yc5 (Ys5 false rs (t:Nat)) .norm (Ys5 false rs ((t+1:Nat):Int)):=by
   intro t ht hb
   have ei:i64.wrap ((t:Int)+1)=((t+1:Nat):Int):=by rw[w64 (by omega) (by omega)];omega
   have k2:=Yk5_2 false rs (t:Nat) (by simp;omega) (by rw[Int.toNat_natCast,decide_eq_false_iff_not];omega) (by omega)
   rwa [ei] at k2
  rcases Vo (fun j => !decide ((rs.getD j z0).2.length≤4)) rs.length _ 0 (by rw[Nat.zero_add]) with h | ⟨j,_,h2,h3,h4⟩
  ·have hall:(rs.all fun r=>decide (r.2.length≤4))=true:=by
    rw[List.all_eq_true]
    intro r hr
    obtain⟨i,hi,rfl⟩:=List.mem_iff_getElem.1 hr
    have:=h i (by omega) hi
    rw[List.getD_eq_getElem?_getD,List.getElem?_eq_getElem hi] at this
    simpa using this
   rw[hall]
   exact Zep rs _ c1 (Za.upTo (prog:=Yir) (c:=Yc5) (ex := .exit 0) (fun t=>Ys5 false rs (t:Nat)) rs.length (by intro e;cases e) (Yk5_3 false rs _ (by simp)) 0 (Nat.zero_le _) (fun t _ h6=>step t h6 (by simpa using h t (by omega) h6)))
  ·have hall:(rs.all fun r=>decide (r.2.length≤4))=false:=by
    rw[List.all_eq_false]
    refine⟨rs.getD j z0,?_,by simpa using h3⟩
    rw[List.getD_eq_getElem?_getD,List.getElem?_eq_getElem h2]
    exact List.getElem_mem h2
   rw[hall]
   have h3':¬ (rs.getD j z0).2.length≤4:=by simpa using h3
   have out:=Yk5_1 false rs (j:Nat) (by simp;omega) (by rw[Int.toNat_natCast,decide_eq_true_eq];omega) (by omega)
   exact Zeq rs _ c1 (Za.upTo (prog:=Yir) (c:=Yc5) (ex := .ret) (fun t=>Ys5 false rs (t:Nat)) j (by intro e;cases e) out 0 (Nat.zero_le _) (fun t _ h6=>step t (by omega) (by simpa using h4 t (by omega) h6)))
 ·rw[decide_eq_false h10,Bool.false_and]
  exact Zer rs (by rw[decide_eq_true_eq];omega)
theorem Zb3 (r:Rn) (hN:r.2.length≤1048576):Ze Yir 16 [.agg [.bool r.1, .sl r.2.length (lm r.2)], .agg [.bool r.1, .sl r.2.length (lm r.2)]] (.bool true):=by
 refine Zjp r (r.2.length:Nat) (by simp) (by simp) ?_
 exact Za.upTo (prog:=Yir) (c:=Yc16) (ex := .exit 0) (fun t=>Znl false r (t:Nat)) r.2.length (by intro e;cases e) (Yk16_3 false r _ (by simp)) 0 (Nat.zero_le _) (fun t _ h=>by
  have ei:i64.wrap ((t:Int)+1)=((t+1:Nat):Int):=by rw[w64 (by omega) (by omega)];omega
  have k:=Yk16_2 false r (t:Nat) (by simp;omega) (by simp) (by omega)
  rwa [ei] at k)
theorem Zb2 {rs:List Rn} (hg:∀ r∈rs,Jw 1048576 r) (hN:rs.length≤1048576):Ze Yir 9 [.sl rs.length (pc rs), .sl rs.length (pc rs)] (.bool true):=by
 refine Znm rs rs (rs.length:Nat) (by simp) ?_
 exact Za.upTo (prog:=Yir) (c:=Yc9) (ex := .exit 0) (fun t=>Ys9 false rs rs (t:Nat)) rs.length (by intro e;cases e) (Yk9_3 false rs rs _ (by simp)) 0 (Nat.zero_le _) (fun t _ h=>by
  have ei:i64.wrap ((t:Int)+1)=((t+1:Nat):Int):=by rw[w64 (by omega) (by omega)];omega
  have k:=Yk9_1 false rs rs (t:Nat) true (by simp;omega) rfl (by omega) (by omega) (by rw[Int.toNat_natCast];exact Zb3 _ (Z9 hg t).2)
  rwa [ei] at k)
theorem Su {q:List Int} (h:Zkw q):∃ ms:List Rn,Ze Yir 18 [.sl (q.map cn).length (pc (q.map cn))] (.tup [.sl ms.length (pc ms), .int .i64 (if Jy q then 2 else 0)]):=by
 obtain⟨h1,h2,h3⟩:=h
 have hlg:=Hy (rs:=q.map cn) (fun r hr=>(Z0 h1 r hr).mono (by omega)) (by rw[List.length_map];omega)
 rw[Z3] at hlg
 cases c:Jy q with
 | true =>
  rw[c] at hlg
  exact⟨[],Zjm (q.map cn) true rfl hlg⟩
 | false =>
  rw[c] at hlg
  exact⟨_,Tt (q.map cn) _ false rfl hlg (U7 (Jc (Z0 h1) (by omega) (by rw[List.length_map];omega)))⟩
theorem Me {q:List Int} (h:Zkw q):Ze Yir 20 [.sl (q.map cn).length (pc (q.map cn))] (.bool (Jy q)):=by
 have hlg:=Hv (rs:=q.map cn) (fun r hr=>(Z0 h.1 r hr).mono (by omega)) (by rw[List.length_map];have:=h.2.1;omega)
 rwa [Z3] at hlg
theorem Wz {l:List (List Int)} (hl:∀ p∈l,Zkw p) {i:Nat} (hi:i<l.length):Zkw (l.getD i []):=by
 refine hl _ ?_
 rw[List.getD_eq_getElem?_getD,List.getElem?_eq_getElem hi]
 exact List.getElem_mem hi
theorem P3 {rs:List Rn} (hr:∀ r∈rs,Jw 4 r) (hn:rs.length≤9):∃ (l:List (List Int)) (d:Int),(∀ p∈l,Zkw p)∧l.length≤10 ∧
  Ze Yir 7 [.sl rs.length (pc rs)] (.tup [.sl (pps l).length (pp (pps l)), .int .i64 d])∧Ze Yir 8 [.sl rs.length (pc rs)] (.tup [.sl (pps l).length (pp (pps l)), .int .i64 d]):=by
 have hs1:Jy (Zi rs)=false:=by
  unfold Jy
  rw[Bool.or_eq_false_iff,decide_eq_false_iff_not]
  have ht:=Qg (Zi rs)
  rw[Zs] at ht
  refine⟨by omega,?_⟩
  rw[List.any_eq_false]
  intro x hx
  have:=(Q8 hr x (S5 hx)).len
  unfold Lg
  simp only[decide_eq_true_eq]
  omega
 have hlg:=Hy (rs:=rs) (fun r h=>(hr r h).mono (by omega)) (by omega)
 have hlg2:=Hv (rs:=rs) (fun r h=>(hr r h).mono (by omega)) (by omega)
 rw[hs1] at hlg hlg2
 have hp:=Tt rs _ false rfl hlg (U7 (Jc hr (by omega) (by omega)))
 have hch:=Za0 hr hn
 have hsq:=Zac hr hn
 have hlen:=Zav hr hn
 have hnice:=P4 hr hn
 generalize Un (Zi rs)=l at *
 have hpl:=E6 l
 have z1:((0:Int) != 0)=false:=rfl
 have stepP:∀ t:Nat,t<l.length→Jy (l.getD t [])=false→Za Yir Yc7 (Ys7 (pps l) 0 (((pps l).length:Nat):Int) (t:Nat)) .norm (Ys7 (pps l) 0 (((pps l).length:Nat):Int) ((t+1:Nat):Int)):=by
  intro t ht hf
  have ei:i64.wrap ((t:Int)+1)=((t+1:Nat):Int):=by rw[w64 (by omega) (by omega)];omega
  obtain⟨ms,hm⟩:=Su (Wz hnice ht)
  rw[hf] at hm
  have k:=Yk7_2 (pps l) 0 (((pps l).length:Nat):Int) (t:Nat) ms 0 (by rw[decide_eq_true_eq];omega) rfl (by omega) (by rw[Int.toNat_natCast,Wb ht];exact hm)
  rwa [ei] at k
 have stepQ:∀ t:Nat,t<l.length→Jy (l.getD t [])=false→Za Yir Yc8 (Ys8 (pps l) 0 (t:Nat)) .norm (Ys8 (pps l) 0 ((t+1:Nat):Int)):=by
  intro t ht hf
  have ei:i64.wrap ((t:Int)+1)=((t+1:Nat):Int):=by rw[w64 (by omega) (by omega)];omega
  have hm:=Me (Wz hnice ht)
  rw[hf] at hm
  have k:=Yk8_2 (pps l) 0 (t:Nat) false (by rw[decide_eq_true_eq];omega) rfl (by omega) (by rw[Int.toNat_natCast,Wb ht];exact hm)
  rwa [ei] at k
 rcases Vo (fun j=>Jy (l.getD j [])) l.length _ 0 (by rw[Nat.zero_add]) with h | ⟨j,_,h2,h3,h4⟩
 ·refine⟨l,0,hnice,hlen,?_,?_⟩
  ·exact Zen rs _ _ 0 (l.length:Nat) z1 hp hch (Za.upTo (prog:=Yir) (c:=Yc7) (ex := .exit 0) (fun t=>Ys7 (pps l) 0 (((pps l).length:Nat):Int) (t:Nat)) l.length (by intro e;cases e) (Yk7_3 _ _ _ _ (by rw[decide_eq_false_iff_not];omega)) 0 (Nat.zero_le _) (fun t _ h6=>stepP t h6 (h t (by omega) h6)))
  ·exact Zeh rs _ false (l.length:Nat) rfl hlg2 hsq (Za.upTo (prog:=Yir) (c:=Yc8) (ex := .exit 0) (fun t=>Ys8 (pps l) 0 (t:Nat)) l.length (by intro e;cases e) (Yk8_3 _ _ _ (by rw[decide_eq_false_iff_not];omega)) 0 (Nat.zero_le _) (fun t _ h6=>stepQ t h6 (h t (by omega) h6)))
 ·refine⟨[],2,fun p hp=>(by cases hp),by simp,?_,?_⟩
  ·obtain⟨ms,hm⟩:=Su (Wz hnice h2)
   rw[h3] at hm
   have out:=Yk7_1 (pps l) 0 (((pps l).length:Nat):Int) (j:Nat) ms 2 (by rw[decide_eq_true_eq];omega) rfl (by omega) (by rw[Int.toNat_natCast,Wb h2];exact hm)
   exact Zeo rs _ _ 0 2 (j:Nat) z1 hp hch (Za.upTo (prog:=Yir) (c:=Yc7) (ex := .ret) (fun t=>Ys7 (pps l) 0 (((pps l).length:Nat):Int) (t:Nat)) j (by intro e;cases e) out 0 (Nat.zero_le _) (fun t _ h6=>stepP t (by omega) (h4 t (by omega) h6)))
  ·have hm:=Me (Wz hnice h2)
   rw[h3] at hm
   have out:=Yk8_1 (pps l) 0 (j:Nat) true (by rw[decide_eq_true_eq];omega) rfl (by omega) (by rw[Int.toNat_natCast,Wb h2];exact hm)
   exact Zei rs _ false 2 (j:Nat) rfl hlg2 hsq (Za.upTo (prog:=Yir) (c:=Yc8) (ex := .ret) (fun t=>Ys8 (pps l) 0 (t:Nat)) j (by intro e;cases e) out 0 (Nat.zero_le _) (fun t _ h6=>stepQ t (by omega) (h4 t (by omega) h6)))
theorem Sj (p:List Int) (n e:Int) : -1≤(Xd p n e).1∧(Xd p n e).1≤1:=by
 unfold Xd X2
 (repeat' split) <;> simp
theorem Si {p:List Int} {n e:Int} (h:(Xd p n e).2=0):0≤e∧(Xd p n e).1=X2 (hv (Zd p) n (2^e.toNat)):=by
 unfold Xd at *
 split at h
 ·exact absurd h (by decide)
 ·rename_i g1
  rw[if_neg g1]
  split at h
  ·exact absurd h (by decide)
  ·rename_i g2
   rw[if_neg g2]
   split at h
   ·exact absurd h (by decide)
   ·rename_i g3
    rw[if_neg g3]
    split at h
    ·exact absurd h (by decide)
    ·rename_i g4
     rw[if_neg g4]
     split at h
     ·exact absurd h (by decide)
     ·rename_i g5
      rw[if_neg g5]
      exact⟨by omega,rfl⟩
def vG (s:Nat→Int):Nat→Int × Int
 | 0=>(0,0)
 | i+1=>Lp (vG s i) (s i)
theorem vG_bd {s:Nat→Int} (hs:∀ i,-1≤s i∧s i≤1):∀ i:Nat,0≤(vG s i).1∧(vG s i).1≤(i:Int) ∧ -1≤(vG s i).2∧(vG s i).2≤1
 | 0=>by simp[vG]
 | i+1=>by
  have h1:=vG_bd hs i
  have h2:=hs i
  simp only[vG,Lp]
  refine⟨?_,?_,?_,?_⟩ <;> (split <;> omega)
theorem Mw {l:List (List Int)} {r:Rn} (hl:∀ p∈l,Zkw p) (hN:l.length≤10) (hr:Jw 8 r) {e:Int} (he:e≤300):∃ x h:Int,
  Ze Yir 10 [.sl (pps l).length (pp (pps l)), .agg [.bool r.1, .sl r.2.length (lm r.2), .int .i64 e]] (.tup [.int .i64 x, .int .i64 h])∧Ze Yir 11 [.sl (pps l).length (pp (pps l)), .agg [.bool r.1, .sl r.2.length (lm r.2), .int .i64 e]] (.tup [.int .i64 x, .int .i64 h]):=by
 have hpl:=E6 l
 have hS:∀ {i:Nat},i<l.length→500000+2+(((l.getD i []).map cn).length+1)*(8+131)≤1048576:=by
  intro i hi
  rw[List.length_map]
  have h2:=(Wz hl hi).2.1
  have h4:((l.getD i []).length+1)*(8+131)≤10*139:=Nat.mul_le_mul (by omega) (by omega)
  omega
 have hp:∀ {i:Nat},i<l.length→Ze Yir 22 [.sl ((pps l).getD i []).length (pc ((pps l).getD i [])), .agg [.bool r.1, .sl r.2.length (lm r.2), .int .i64 e]] (.tup [.int .i64 (Xd (l.getD i []) (Zl r) e).1, .int .i64 (Xd (l.getD i []) (Zl r) e).2]):=by
  intro i hi
  rw[Wb hi]
  have h:=Zck (e:=e) (Z0 (Wz hl hi).1) hr (hS hi)
  rwa [Z3] at h
 have hq:∀ {i:Nat},i<l.length→Ze Yir 23 [.sl ((pps l).getD i []).length (pc ((pps l).getD i [])), .agg [.bool r.1, .sl r.2.length (lm r.2), .int .i64 e]] (.tup [.int .i64 (Xd (l.getD i []) (Zl r) e).1, .int .i64 (Xd (l.getD i []) (Zl r) e).2]):=by
  intro i hi
  rw[Wb hi]
  have h:=T7 (e:=e) (Z0 (Wz hl hi).1) hr (hS hi)
  rwa [Z3] at h
 have hb:=vG_bd (s:=fun i=>(Xd (l.getD i []) (Zl r) e).1) (fun i=>Sj _ _ _)
 have stepP:∀ t:Nat,t<l.length→(Xd (l.getD t []) (Zl r) e).2=0→Za Yir Zfu (Nq (pps l) r e 0 0 (vG (fun i=>(Xd (l.getD i []) (Zl r) e).1) t).1 (vG (fun i=>(Xd (l.getD i []) (Zl r) e).1) t).2 (((pps l).length:Nat):Int) (t:Nat)) .norm
   (Nq (pps l) r e 0 0 (vG (fun i=>(Xd (l.getD i []) (Zl r) e).1) (t+1)).1 (vG (fun i=>(Xd (l.getD i []) (Zl r) e).1) (t+1)).2 (((pps l).length:Nat):Int) ((t+1:Nat):Int)):=by
  intro t ht hd
  have ei:i64.wrap ((t:Int)+1)=((t+1:Nat):Int):=by rw[w64 (by omega) (by omega)];omega
  obtain⟨b1,b2,b3,b4⟩:=hb t
  have hs:=Sj (l.getD t []) (Zl r) e
  have hpt:=hp ht
  rw[hd] at hpt
  rw[show vG (fun i=>(Xd (l.getD i []) (Zl r) e).1) (t+1)=Lp (vG (fun i=>(Xd (l.getD i []) (Zl r) e).1) t) (Xd (l.getD t []) (Zl r) e).1 from rfl]
  clear hb
  generalize vG (fun i=>(Xd (l.getD i []) (Zl r) e).1) t=x at *
  generalize (Xd (l.getD t []) (Zl r) e).1=s at *
  obtain⟨n,last⟩:=x
  simp only[Lp] at b1 b2 b3 b4 ⊢
  have c1:decide ((t:Int)<(((pps l).length:Nat):Int))=true:=by rw[decide_eq_true_eq];omega
  have wl:i64.wrap (0-last) = -last:=by rw[w64 (by omega) (by omega)];omega
  have wn:i64.wrap (n+1)=n+1:=w64 (by omega) (by omega)
  by_cases g1:s=0
  ·rw[if_neg (fun h=>h.1 g1),if_neg (fun h=>h g1)]
   have k:=Yk10_2 (pps l) r e 0 0 n last (((pps l).length:Nat):Int) (t:Nat) s 0 c1 rfl (by rw[beq_iff_eq];exact g1) (by omega) (by rw[Int.toNat_natCast];exact hpt)
   rwa [ei] at k
  ·rw[if_pos (show s ≠ 0 from g1)]
   by_cases g2:s = -last
   ·rw[if_pos ⟨g1,by omega,by omega⟩]
    have k:=Yk10_3 (pps l) r e 0 0 n last (((pps l).length:Nat):Int) (t:Nat) s 0 c1 rfl (by rw[beq_eq_false_iff_ne];exact g1) (by rw[wl,beq_iff_eq];exact g2) (by omega) (by rw[Int.toNat_natCast];exact hpt)
    rwa [ei,wn] at k
   ·rw[if_neg (fun h=>by omega)]
    have k:=Yk10_4 (pps l) r e 0 0 n last (((pps l).length:Nat):Int) (t:Nat) s 0 c1 rfl (by rw[beq_eq_false_iff_ne];exact g1) (by rw[wl,beq_eq_false_iff_ne];exact g2) (by omega) (by rw[Int.toNat_natCast];exact hpt)
    rwa [ei] at k
 have stepQ:∀ t:Nat,t<l.length→(Xd (l.getD t []) (Zl r) e).2=0→Za Yir Zku (Ts (pps l) r e 0 0 (t:Nat)) .norm (Ts (pps l) r e 0 0 ((t+1:Nat):Int)):=by
  intro t ht hd
  have ei:i64.wrap ((t:Int)+1)=((t+1:Nat):Int):=by rw[w64 (by omega) (by omega)];omega
  have hqt:=hq ht
  rw[hd] at hqt
  have k:=Yk11_2 (pps l) r e 0 0 (t:Nat) _ 0 (by rw[decide_eq_true_eq];omega) rfl (by omega) (by rw[Int.toNat_natCast];exact hqt)
  rwa [ei] at k
 rcases Vo (fun j=>(Xd (l.getD j []) (Zl r) e).2 != 0) l.length _ 0 (by rw[Nat.zero_add]) with h | ⟨j,_,h2,h3,h4⟩
 ·have h':∀ t,t<l.length→(Xd (l.getD t []) (Zl r) e).2=0:=fun t ht=>by simpa using h t (by omega) ht
  refine⟨(vG (fun i=>(Xd (l.getD i []) (Zl r) e).1) l.length).1,0,?_,?_⟩
  ·exact Zjs (pps l) r e _ _ (l.length:Nat) (Za.upTo (prog:=Yir) (c:=Zfu) (ex := .exit 0) (fun t=>Nq (pps l) r e 0 0 (vG (fun i=>(Xd (l.getD i []) (Zl r) e).1) t).1 (vG (fun i=>(Xd (l.getD i []) (Zl r) e).1) t).2 (((pps l).length:Nat):Int) (t:Nat)) l.length (by intro e;cases e) (Yk10_5 _ _ _ _ _ _ _ _ _ (by rw[decide_eq_false_iff_not];omega)) 0 (Nat.zero_le _) (fun t _ h6=>stepP t h6 (h' t h6)))
  ·have hv:Ze Yir 24 [.sl (pps l).length (pp (pps l)), .agg [.bool r.1, .sl r.2.length (lm r.2), .int .i64 e]] (.int .i64 (vG (fun i=>(Xd (l.getD i []) (Zl r) e).1) l.length).1):=by
    by_cases h0:l.length=0
    ·have hz:l=[]:=List.eq_nil_of_length_eq_zero h0
     subst hz
     exact Zl1 (pps []) r e 0 0 0 (Za.loop_out (Zmb (pps []) r e 0 0 0 (by decide)) (by intro e;cases e))
    ·obtain⟨e0,_⟩:=Si (h' 0 (by omega))
     obtain⟨a,rfl⟩:=Int.eq_ofNat_of_zero_le e0
     have hv:=Zge hl hr a (by omega) (by omega)
     have eq:∀ i,i≤l.length→vG (fun i=>(Xd (l.getD i []) (Zl r) (a:Int)).1) i=Vb l (Zl r) a i:=by
      intro i
      induction i with
      | zero=>intro _;rfl
      | succ i ih =>
       intro hi
       simp only[vG,Vb]
       rw[ih (by omega)]
       congr 1
       have h5:=(Si (h' i (by omega))).2
       rw[(Wz hl (show i<l.length by omega)).2.2,Int.toNat_natCast] at h5
       exact h5
     rw[eq _ (Nat.le_refl _)]
     exact hv
   exact Zjq (pps l) r e _ (l.length:Nat) (Za.upTo (prog:=Yir) (c:=Zku) (ex := .exit 0) (fun t=>Ts (pps l) r e 0 0 (t:Nat)) l.length (by intro e;cases e) (Yk11_3 _ _ _ _ _ _ (by rw[decide_eq_false_iff_not];omega)) 0 (Nat.zero_le _) (fun t _ h6=>stepQ t h6 (h' t h6))) hv
 ·have h4':∀ t,t<j→(Xd (l.getD t []) (Zl r) e).2=0:=fun t ht=>by simpa using h4 t (by omega) ht
  refine⟨0,(Xd (l.getD j []) (Zl r) e).2,?_,?_⟩
  ·have out:=Yk10_1 (pps l) r e 0 0 (vG (fun i=>(Xd (l.getD i []) (Zl r) e).1) j).1 (vG (fun i=>(Xd (l.getD i []) (Zl r) e).1) j).2 (((pps l).length:Nat):Int) (j:Nat) _ _ (by rw[decide_eq_true_eq];omega) h3 (by omega) (by rw[Int.toNat_natCast];exact hp h2)
   exact Zjt (pps l) r e _ _ _ (j:Nat) (Za.upTo (prog:=Yir) (c:=Zfu) (ex := .ret) (fun t=>Nq (pps l) r e 0 0 (vG (fun i=>(Xd (l.getD i []) (Zl r) e).1) t).1 (vG (fun i=>(Xd (l.getD i []) (Zl r) e).1) t).2 (((pps l).length:Nat):Int) (t:Nat)) j (by intro e;cases e) out 0 (Nat.zero_le _) (fun t _ h6=>stepP t (by omega) (h4' t h6)))
  ·have out:=Yk11_1 (pps l) r e 0 0 (j:Nat) _ _ (by rw[decide_eq_true_eq];omega) h3 (by omega) (by rw[Int.toNat_natCast];exact hq h2)
   exact Zjr (pps l) r e _ (j:Nat) (Za.upTo (prog:=Yir) (c:=Zku) (ex := .ret) (fun t=>Ts (pps l) r e 0 0 (t:Nat)) j (by intro e;cases e) out 0 (Nat.zero_le _) (fun t _ h6=>stepQ t (by omega) (h4' t h6)))
theorem Znb {rs:List Rn} {r:Rn} (e:Int) (hp:∀ r∈rs,U32 r.2) (hr:U32 r.2):Ze Yir 3 [.sl rs.length (pc rs), .agg [.bool r.1, .sl r.2.length (lm r.2), .int .i64 e]] (.bool true):=by
 have haw:=Yrun4
 have hfw:=Zhf rs
 have s1:=Yrun6 r e
 cases b1:fewB 9 4 rs with
 | false=>rw[b1] at hfw;exact Zno rs r e false rfl haw hfw
 | true =>
  rw[b1] at hfw
  obtain⟨hn,hg⟩:=Zhe b1 hp
  by_cases c1:(r.2.length:Int)≤8
  ·rw[decide_eq_true c1] at s1
   by_cases c3:e>300
   ·exact Znr rs r e true true rfl rfl (decide_eq_true c3) haw hfw s1
   ·obtain⟨l,d,hl,hN,x1,x2⟩:=P3 hg hn
    obtain⟨x,h,y1,y2⟩:=Mw hl hN (r:=r) ⟨hr,by omega⟩ (e:=e) (by omega)
    have hpl:=E6 l
    have hloop:=Za.upTo (prog:=Yir) (c:=Yc3) (ex := .exit 0) (fun t=>Ys3 r e false (pps l) (t:Nat)) l.length (by intro e;cases e) (Yk3_2 r e false (pps l) _ (by rw[decide_eq_false_iff_not];omega)) 0 (Nat.zero_le _) (fun t _ ht=>by
     have ei:i64.wrap ((t:Int)+1)=((t+1:Nat):Int):=by rw[w64 (by omega) (by omega)];omega
     have hni:=Wz hl ht
     have sm:=Zb2 (rs:=(l.getD t []).map cn) (fun r hr=>(Z0 hni.1 r hr).mono (by omega)) (by rw[List.length_map];have:=hni.2.1;omega)
     have k:=Yk3_1 r e false (pps l) (t:Nat) (by rw[decide_eq_true_eq];omega) (by omega) (by rw[Int.toNat_natCast,Wb ht];exact sm)
     rwa [ei] at k)
    have k:=Znq rs (pps l) r e d x h (l.length:Nat) true true (by simp) (by simp) (beq_self_eq_true _) rfl rfl (decide_eq_false c3) haw hfw s1 x1 x2 hloop y1 y2
    rwa [beq_self_eq_true] at k
  ·rw[decide_eq_false c1] at s1
   exact Znp rs r e true false rfl rfl haw hfw s1
end Go.Proofs.YthnnfemologhfaaGreat
