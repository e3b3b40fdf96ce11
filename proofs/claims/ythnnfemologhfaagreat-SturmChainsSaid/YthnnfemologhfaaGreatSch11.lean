/- Texts of the proof of SturmChains, packed by pack.py: part 11 of 19. -/
import Derived.Test.YthnnfemologhfaaGreatSch10
namespace Go.Proofs.YthnnfemologhfaaGreat
open Go.IntKind (i64 u64 u32)
open Go.Ai
set_option maxRecDepth 100000
def Xb (neg:Bool) (xs:List Int) (sh:Int) (ms:List Int) (lost:Bool) (i:Int):Zk:=(dds 1 (.val (.int .i64 sh)::(.box [.bool neg, .sl xs.length (lm xs)]::(dds 1 (.box [.bool false, .sl 0 []]::(.val (.sl ms.length (lm ms))::(.own 1 0 []::(.val (.bool lost)::(.val (.int .i64 i)::(dds 95 []))))))))))
theorem Zki (neg:Bool) (xs:List Int) (sh:Int) (ms:List Int) (lost:Bool) (i:Int)  (c1:(decide (i<(ms.length:Int)))=true) (c2:(decide (i<(i64.wrap (Int.tdiv sh 32))))=true) (c3:(lost)=true):Za Yir V3 (Xb neg xs sh ms lost i) .norm (Xb neg xs sh ms true (i64.wrap (i+1))):=(Za.go Zf 400 [.b true, .b true, .b true] [1,2,4,5,6,7,8] (ac c1 (ac (show ¬ (32:Int)=0 from (by decide)) (ac c2 (ac c3 a0)))))
theorem Zkh (neg:Bool) (xs:List Int) (sh:Int) (ms:List Int) (lost:Bool) (i:Int)  (c1:(decide (i<(ms.length:Int)))=true) (c2:(decide (i<(i64.wrap (Int.tdiv sh 32))))=true) (c3:(lost)=false) (n1:0≤i∧i<(ms.length:Int)):Za Yir V3 (Xb neg xs sh ms lost i) .norm (Xb neg xs sh ms ((ms.getD (Int.toNat i) 0) != 0) (i64.wrap (i+1))):=(Za.go Zf 400 [.b true, .b true, .b false, .v (.int .u32 (ms.getD (Int.toNat i) 0))] [1,2,4,5,6,7,8] (ac c1 (ac (show ¬ (32:Int)=0 from (by decide)) (ac c2 (ac c3 (ac n1 (ac (Z2 n1) a0)))))))
theorem Zkg (neg:Bool) (xs:List Int) (sh:Int) (ms:List Int) (lost:Bool) (i:Int)  (c1:(decide (i<(ms.length:Int)))=true) (c2:(decide (i<(i64.wrap (Int.tdiv sh 32))))=false):Za Yir V3 (Xb neg xs sh ms lost i) (.exit 0) (Xb neg xs sh ms lost i):=(Za.go Zf 400 [.b true, .b false] [1,2,4,5,6,7,8] (ac c1 (ac (show ¬ (32:Int)=0 from (by decide)) (ac c2 a0))))
theorem Zkf (neg:Bool) (xs:List Int) (sh:Int) (ms:List Int) (lost:Bool) (i:Int)  (c1:(decide (i<(ms.length:Int)))=false):Za Yir V3 (Xb neg xs sh ms lost i) (.exit 0) (Xb neg xs sh ms lost i):=(Za.go Zf 400 [.b false, .b false] [1,2,4,5,6,7,8] (ac c1 (ac (show false=false from rfl) a0)))
def J2 (neg:Bool) (xs:List Int) (sh:Int) (ms:List Int) (n:Nat) (cs:List AV) (lost:Bool) (s:Int) (i:Int):Zk:=(dds 1 (.val (.int .i64 sh)::(.box [.bool neg, .sl xs.length (lm xs)]::(dds 1 (.box [.bool false, .sl 0 []]::(.val (.sl ms.length (lm ms))::(.own 1 n cs::(.val (.bool lost)::(dds 1 (.val (.int .u64 s)::(.val (.int .i64 i)::(dds 93 []))))))))))))
theorem Zke (neg:Bool) (xs:List Int) (sh:Int) (ms:List Int) (n:Nat) (cs:List AV) (lost:Bool) (s:Int) (i:Int)  (c1:(decide (i<(ms.length:Int)))=true) (c2:(decide ((i64.wrap (i+1))<(ms.length:Int)))=true) (n1:0≤i∧i<(ms.length:Int)) (n2:0≤(i64.wrap (i+1))∧(i64.wrap (i+1))<(ms.length:Int)) (n3:¬ s<0) (n4:n+1≤1048576):Za Yir Vf (J2 neg xs sh ms n cs lost s i) .norm (J2 neg xs sh ms (n+1) (cs++([.int .u32 (u32.wrap (Int.fdiv (u64.wrap ((BitVec.ofInt (IntKind.bits .u64) (u64.wrap (ms.getD (Int.toNat i) 0)) ||| BitVec.ofInt (IntKind.bits .u64) (u64.wrap ((u64.wrap (ms.getD (Int.toNat (i64.wrap (i+1))) 0))*2^(min (Int.toNat 32) (IntKind.bits .u64))))).toNat)) (2^(min (Int.toNat s) (IntKind.bits .u64)))))]:List AV)) lost s (i64.wrap (i+1))):=(Za.go Zf 400 [.b true, .v (.int .u32 (ms.getD (Int.toNat i) 0)), .b true, .v (.int .u32 (ms.getD (Int.toNat (i64.wrap (i+1))) 0))] [1,2,4,5,6,7,9,10] (ac c1 (ac n1 (ac (Z2 n1) (ac c2 (ac n2 (ac (Z2 n2) (ac (show ¬ (32:Int)<0 from (by decide)) (ac n3 (ac (show List.length ([.int .u32 (u32.wrap (Int.fdiv (u64.wrap ((BitVec.ofInt (IntKind.bits .u64) (u64.wrap (ms.getD (Int.toNat i) 0)) ||| BitVec.ofInt (IntKind.bits .u64) (u64.wrap ((u64.wrap (ms.getD (Int.toNat (i64.wrap (i+1))) 0))*2^(min (Int.toNat 32) (IntKind.bits .u64))))).toNat)) (2^(min (Int.toNat s) (IntKind.bits .u64)))))]:List AV)=1*1 from rfl) (ac n4 a0)))))))))))
theorem Zkd (neg:Bool) (xs:List Int) (sh:Int) (ms:List Int) (n:Nat) (cs:List AV) (lost:Bool) (s:Int) (i:Int)  (c1:(decide (i<(ms.length:Int)))=true) (c2:(decide ((i64.wrap (i+1))<(ms.length:Int)))=false) (n1:0≤i∧i<(ms.length:Int)) (n2:¬ s<0) (n3:n+1≤1048576):Za Yir Vf (J2 neg xs sh ms n cs lost s i) .norm (J2 neg xs sh ms (n+1) (cs++([.int .u32 (u32.wrap (Int.fdiv (u64.wrap (ms.getD (Int.toNat i) 0)) (2^(min (Int.toNat s) (IntKind.bits .u64)))))]:List AV)) lost s (i64.wrap (i+1))):=(Za.go Zf 400 [.b true, .v (.int .u32 (ms.getD (Int.toNat i) 0)), .b false] [1,2,4,5,6,7,9,10] (ac c1 (ac n1 (ac (Z2 n1) (ac c2 (ac n2 (ac (show List.length ([.int .u32 (u32.wrap (Int.fdiv (u64.wrap (ms.getD (Int.toNat i) 0)) (2^(min (Int.toNat s) (IntKind.bits .u64)))))]:List AV)=1*1 from rfl) (ac n3 a0))))))))
theorem Tv (neg:Bool) (xs:List Int) (sh:Int) (ms:List Int) (n:Nat) (cs:List AV) (lost:Bool) (s:Int) (i:Int)  (c1:(decide (i<(ms.length:Int)))=false):Za Yir Vf (J2 neg xs sh ms n cs lost s i) (.exit 2) (J2 neg xs sh ms n cs lost s i):=(Za.go Zf 400 [.b false] [1,2,4,5,6,7,9,10] (ac c1 a0))
theorem Ze2 (neg lost:Bool) (xs:List Int) (sh i1:Int) (n:Nat) (cs:List AV) (i2 v w:Int) (c1:(decide ((i64.wrap (Int.tdiv sh 32))<(((Zd xs).length:Nat):Int)))=true) (c2:(lost)=true) (c3:(neg)=true) (n1:Ze Yir 57 [.sl xs.length (lm xs)] (.fresh 1 ((Zd xs).length) (lm (Zd xs)))) (hl2:Za Yir (.loop V3) (Xb neg xs sh (Zd xs) false 0) (.exit 0) (Xb neg xs sh (Zd xs) lost i1)) (hl3:Za Yir (.loop Vf) (J2 neg xs sh (Zd xs) 0 ([]:List AV) lost (u64.wrap (Int.tmod sh 32)) (i64.wrap (Int.tdiv sh 32))) (.exit 2) (J2 neg xs sh (Zd xs) n cs lost (u64.wrap (Int.tmod sh 32)) i2)) (n4:Ze Yir 31 [.bool neg, .sl n cs] (U9 v)) (n5:Ze Yir 17 [.int .i64 1] (Zn 1)) (n6:Ze Yir 78 [Zn v,Zn 1] (Zn w)):Ze Yir 104 [.agg [.bool neg, .sl xs.length (lm xs)], .int .i64 sh] (Zn w):=Ze.of_bodyW (fn:=Dh) (s:=(dds 4 (.box [.bool (decide (w<0)), .sl ((Zb (Int.natAbs w)).length) (lm (Zb (Int.natAbs w)))]::(dds 99 [])))) (ex := .ret) rfl rfl (Za.seq (Za.go (t:=(.val (.agg [.bool neg, .sl xs.length (lm xs)])::(vi sh::(.box [.bool neg, .sl xs.length (lm xs)]::(dds 1 (.box [.bool false, .sl 0 []]::(dds 99 []))))))) Zf 400 [] [0,1,2,4] a0) (Za.seq (Za.go (t:=(.val (.agg [.bool neg, .sl xs.length (lm xs)])::(vi sh::(.box [.bool neg, .sl xs.length (lm xs)]::(dds 1 (.box [.bool false, .sl 0 []]::(.val (.sl ((Zd xs).length) (lm (Zd xs)))::(dds 98 [])))))))) Zf 400 [.r (.fresh 1 ((Zd xs).length) (lm (Zd xs)))] [0,1,2,4,5] (ac n1 a0)) (Za.seq (Za.go (t:=(.val (.agg [.bool neg, .sl xs.length (lm xs)])::(vi sh::(.box [.bool neg, .sl xs.length (lm xs)]::(dds 1 (.box [.bool false, .sl 0 []]::(.val (.sl ((Zd xs).length) (lm (Zd xs)))::(.own 1 0 []::(dds 97 []))))))))) Zf 400 [] [0,1,2,4,5,6] a0) (Za.seq (Za.go (t:=(.val (.agg [.bool neg, .sl xs.length (lm xs)])::(vi sh::(.box [.bool neg, .sl xs.length (lm xs)]::(dds 1 (.box [.bool false, .sl 0 []]::(.val (.sl ((Zd xs).length) (lm (Zd xs)))::(.own 1 0 []::(.val (.bool false)::(dds 96 [])))))))))) Zf 400 [] [0,1,2,4,5,6,7] a0) (Za.seq (Za.seq (Za.go Zf 400 [] [1,2,4,5,6,7,8] a0) (Za.block hl2)) (Za.seq (Za.go (t:=(dds 1 (vi sh::(.box [.bool neg, .sl xs.length (lm xs)]::(dds 1 (.box [.bool false, .sl 0 []]::(.val (.sl ((Zd xs).length) (lm (Zd xs)))::(.own 1 0 []::(.val (.bool lost)::(dds 1 (.val (.int .u64 (u64.wrap (Int.tmod sh 32)))::(dds 94 [])))))))))))) Zf 400 [] [1,2,4,5,6,7,9] (ac (show ¬ (32:Int)=0 from (by decide)) a0)) (Za.seq (Za.seq (Za.go Zf 400 [] [1,2,4,5,6,7,9,10] (ac (show ¬ (32:Int)=0 from (by decide)) a0)) (Za.block hl3)) (Za.go Zf 400 [.b true, .b true, .r (U9 v), .b true, .b true, .r (Zn 1), .r (Zn w)] [4] (ac (show ¬ (32:Int)=0 from (by decide)) (ac c1 (ac c2 (ac n4 (ac c3 (ac (show true=true from rfl) (ac n5 (ac n6 a0)))))))))))))))) (by intro i e;cases e) rfl
theorem Ze1 (neg lost:Bool) (xs:List Int) (sh i1:Int) (n:Nat) (cs:List AV) (i2 v:Int) (c1:(decide ((i64.wrap (Int.tdiv sh 32))<(((Zd xs).length:Nat):Int)))=true) (c2:(lost)=true) (c3:(neg)=false) (n1:Ze Yir 57 [.sl xs.length (lm xs)] (.fresh 1 ((Zd xs).length) (lm (Zd xs)))) (hl2:Za Yir (.loop V3) (Xb neg xs sh (Zd xs) false 0) (.exit 0) (Xb neg xs sh (Zd xs) lost i1)) (hl3:Za Yir (.loop Vf) (J2 neg xs sh (Zd xs) 0 ([]:List AV) lost (u64.wrap (Int.tmod sh 32)) (i64.wrap (Int.tdiv sh 32))) (.exit 2) (J2 neg xs sh (Zd xs) n cs lost (u64.wrap (Int.tmod sh 32)) i2)) (n4:Ze Yir 31 [.bool neg, .sl n cs] (U9 v)):Ze Yir 104 [.agg [.bool neg, .sl xs.length (lm xs)], .int .i64 sh] (Zn v):=Ze.of_bodyW (fn:=Dh) (s:=(dds 4 (.box [.bool (decide (v<0)), .sl ((Zb (Int.natAbs v)).length) (lm (Zb (Int.natAbs v)))]::(dds 99 [])))) (ex := .ret) rfl rfl (Za.seq (Za.go (t:=(.val (.agg [.bool neg, .sl xs.length (lm xs)])::(vi sh::(.box [.bool neg, .sl xs.length (lm xs)]::(dds 1 (.box [.bool false, .sl 0 []]::(dds 99 []))))))) Zf 400 [] [0,1,2,4] a0) (Za.seq (Za.go (t:=(.val (.agg [.bool neg, .sl xs.length (lm xs)])::(vi sh::(.box [.bool neg, .sl xs.length (lm xs)]::(dds 1 (.box [.bool false, .sl 0 []]::(.val (.sl ((Zd xs).length) (lm (Zd xs)))::(dds 98 [])))))))) Zf 400 [.r (.fresh 1 ((Zd xs).length) (lm (Zd xs)))] [0,1,2,4,5] (ac n1 a0)) (Za.seq (Za.go (t:=(.val (.agg [.bool neg, .sl xs.length (lm xs)])::(vi sh::(.box [.bool neg, .sl xs.length (lm xs)]::(dds 1 (.box [.bool false, .sl 0 []]::(.val (.sl ((Zd xs).length) (lm (Zd xs)))::(.own 1 0 []::(dds 97 []))))))))) Zf 400 [] [0,1,2,4,5,6] a0) (Za.seq (Za.go (t:=(.val (.agg [.bool neg, .sl xs.length (lm xs)])::(vi sh::(.box [.bool neg, .sl xs.length (lm xs)]::(dds 1 (.box [.bool false, .sl 0 []]::(.val (.sl ((Zd xs).length) (lm (Zd xs)))::(.own 1 0 []::(.val (.bool false)::(dds 96 [])))))))))) Zf 400 [] [0,1,2,4,5,6,7] a0) (Za.seq (Za.seq (Za.go Zf 400 [] [1,2,4,5,6,7,8] a0) (Za.block hl2)) (Za.seq (Za.go (t:=(dds 1 (vi sh::(.box [.bool neg, .sl xs.length (lm xs)]::(dds 1 (.box [.bool false, .sl 0 []]::(.val (.sl ((Zd xs).length) (lm (Zd xs)))::(.own 1 0 []::(.val (.bool lost)::(dds 1 (.val (.int .u64 (u64.wrap (Int.tmod sh 32)))::(dds 94 [])))))))))))) Zf 400 [] [1,2,4,5,6,7,9] (ac (show ¬ (32:Int)=0 from (by decide)) a0)) (Za.seq (Za.seq (Za.go Zf 400 [] [1,2,4,5,6,7,9,10] (ac (show ¬ (32:Int)=0 from (by decide)) a0)) (Za.block hl3)) (Za.go Zf 400 [.b true, .b true, .r (U9 v), .b false, .b false] [4] (ac (show ¬ (32:Int)=0 from (by decide)) (ac c1 (ac c2 (ac n4 (ac c3 (ac (show false=false from rfl) a0)))))))))))))) (by intro i e;cases e) rfl
theorem Ze0 (neg lost:Bool) (xs:List Int) (sh i1:Int) (n:Nat) (cs:List AV) (i2 v w:Int) (c1:(decide ((i64.wrap (Int.tdiv sh 32))<(((Zd xs).length:Nat):Int)))=true) (c2:(lost)=false) (c3:(neg)=true) (c4:((u32.wrap ((BitVec.ofInt (IntKind.bits .u32) ((Zd xs).getD (Int.toNat (i64.wrap (Int.tdiv sh 32))) 0) &&& BitVec.ofInt (IntKind.bits .u32) (u32.wrap ((u32.wrap (1*2^(min (Int.toNat (u64.wrap (Int.tmod sh 32))) (IntKind.bits .u32))))-1))).toNat)) != 0)=true) (n1:Ze Yir 57 [.sl xs.length (lm xs)] (.fresh 1 ((Zd xs).length) (lm (Zd xs)))) (hl2:Za Yir (.loop V3) (Xb neg xs sh (Zd xs) false 0) (.exit 0) (Xb neg xs sh (Zd xs) lost i1)) (hl3:Za Yir (.loop Vf) (J2 neg xs sh (Zd xs) 0 ([]:List AV) lost (u64.wrap (Int.tmod sh 32)) (i64.wrap (Int.tdiv sh 32))) (.exit 2) (J2 neg xs sh (Zd xs) n cs lost (u64.wrap (Int.tmod sh 32)) i2)) (n4:0≤(i64.wrap (Int.tdiv sh 32))∧(i64.wrap (Int.tdiv sh 32))<(((Zd xs).length:Nat):Int)) (n5:¬ (u64.wrap (Int.tmod sh 32))<0) (n6:Ze Yir 31 [.bool neg, .sl n cs] (U9 v)) (n7:Ze Yir 17 [.int .i64 1] (Zn 1)) (n8:Ze Yir 78 [Zn v,Zn 1] (Zn w)):Ze Yir 104 [.agg [.bool neg, .sl xs.length (lm xs)], .int .i64 sh] (Zn w):=Ze.of_bodyW (fn:=Dh) (s:=(dds 4 (.box [.bool (decide (w<0)), .sl ((Zb (Int.natAbs w)).length) (lm (Zb (Int.natAbs w)))]::(dds 99 [])))) (ex := .ret) rfl rfl (Za.seq (Za.go (t:=(.val (.agg [.bool neg, .sl xs.length (lm xs)])::(vi sh::(.box [.bool neg, .sl xs.length (lm xs)]::(dds 1 (.box [.bool false, .sl 0 []]::(dds 99 []))))))) Zf 400 [] [0,1,2,4] a0) (Za.seq (Za.go (t:=(.val (.agg [.bool neg, .sl xs.length (lm xs)])::(vi sh::(.box [.bool neg, .sl xs.length (lm xs)]::(dds 1 (.box [.bool false, .sl 0 []]::(.val (.sl ((Zd xs).length) (lm (Zd xs)))::(dds 98 [])))))))) Zf 400 [.r (.fresh 1 ((Zd xs).length) (lm (Zd xs)))] [0,1,2,4,5] (ac n1 a0)) (Za.seq (Za.go (t:=(.val (.agg [.bool neg, .sl xs.length (lm xs)])::(vi sh::(.box [.bool neg, .sl xs.length (lm xs)]::(dds 1 (.box [.bool false, .sl 0 []]::(.val (.sl ((Zd xs).length) (lm (Zd xs)))::(.own 1 0 []::(dds 97 []))))))))) Zf 400 [] [0,1,2,4,5,6] a0) (Za.seq (Za.go (t:=(.val (.agg [.bool neg, .sl xs.length (lm xs)])::(vi sh::(.box [.bool neg, .sl xs.length (lm xs)]::(dds 1 (.box [.bool false, .sl 0 []]::(.val (.sl ((Zd xs).length) (lm (Zd xs)))::(.own 1 0 []::(.val (.bool false)::(dds 96 [])))))))))) Zf 400 [] [0,1,2,4,5,6,7] a0) (Za.seq (Za.seq (Za.go Zf 400 [] [1,2,4,5,6,7,8] a0) (Za.block hl2)) (Za.seq (Za.go (t:=(dds 1 (vi sh::(.box [.bool neg, .sl xs.length (lm xs)]::(dds 1 (.box [.bool false, .sl 0 []]::(.val (.sl ((Zd xs).length) (lm (Zd xs)))::(.own 1 0 []::(.val (.bool lost)::(dds 1 (.val (.int .u64 (u64.wrap (Int.tmod sh 32)))::(dds 94 [])))))))))))) Zf 400 [] [1,2,4,5,6,7,9] (ac (show ¬ (32:Int)=0 from (by decide)) a0)) (Za.seq (Za.seq (Za.go Zf 400 [] [1,2,4,5,6,7,9,10] (ac (show ¬ (32:Int)=0 from (by decide)) a0)) (Za.block hl3)) (Za.go Zf 400 [.b true, .b false, .v (.int .u32 ((Zd xs).getD (Int.toNat (i64.wrap (Int.tdiv sh 32))) 0)), .r (U9 v), .b true, .b true, .r (Zn 1), .r (Zn w)] [4] (ac (show ¬ (32:Int)=0 from (by decide)) (ac c1 (ac c2 (ac (show ¬ (32:Int)=0 from (by decide)) (ac n4 (ac (Z2 n4) (ac n5 (ac n6 (ac c3 (ac c4 (ac n7 (ac n8 a0)))))))))))))))))))) (by intro i e;cases e) rfl
theorem Zez (neg lost:Bool) (xs:List Int) (sh i1:Int) (n:Nat) (cs:List AV) (i2 v:Int) (c1:(decide ((i64.wrap (Int.tdiv sh 32))<(((Zd xs).length:Nat):Int)))=true) (c2:(lost)=false) (c3:(neg)=true) (c4:((u32.wrap ((BitVec.ofInt (IntKind.bits .u32) ((Zd xs).getD (Int.toNat (i64.wrap (Int.tdiv sh 32))) 0) &&& BitVec.ofInt (IntKind.bits .u32) (u32.wrap ((u32.wrap (1*2^(min (Int.toNat (u64.wrap (Int.tmod sh 32))) (IntKind.bits .u32))))-1))).toNat)) != 0)=false) (n1:Ze Yir 57 [.sl xs.length (lm xs)] (.fresh 1 ((Zd xs).length) (lm (Zd xs)))) (hl2:Za Yir (.loop V3) (Xb neg xs sh (Zd xs) false 0) (.exit 0) (Xb neg xs sh (Zd xs) lost i1)) (hl3:Za Yir (.loop Vf) (J2 neg xs sh (Zd xs) 0 ([]:List AV) lost (u64.wrap (Int.tmod sh 32)) (i64.wrap (Int.tdiv sh 32))) (.exit 2) (J2 neg xs sh (Zd xs) n cs lost (u64.wrap (Int.tmod sh 32)) i2)) (n4:0≤(i64.wrap (Int.tdiv sh 32))∧(i64.wrap (Int.tdiv sh 32))<(((Zd xs).length:Nat):Int)) (n5:¬ (u64.wrap (Int.tmod sh 32))<0) (n6:Ze Yir 31 [.bool neg, .sl n cs] (U9 v)):Ze Yir 104 [.agg [.bool neg, .sl xs.length (lm xs)], .int .i64 sh] (Zn v):=Ze.of_bodyW (fn:=Dh) (s:=(dds 4 (.box [.bool (decide (v<0)), .sl ((Zb (Int.natAbs v)).length) (lm (Zb (Int.natAbs v)))]::(dds 99 [])))) (ex := .ret) rfl rfl (Za.seq (Za.go (t:=(.val (.agg [.bool neg, .sl xs.length (lm xs)])::(vi sh::(.box [.bool neg, .sl xs.length (lm xs)]::(dds 1 (.box [.bool false, .sl 0 []]::(dds 99 []))))))) Zf 400 [] [0,1,2,4] a0) (Za.seq (Za.go (t:=(.val (.agg [.bool neg, .sl xs.length (lm xs)])::(vi sh::(.box [.bool neg, .sl xs.length (lm xs)]::(dds 1 (.box [.bool false, .sl 0 []]::(.val (.sl ((Zd xs).length) (lm (Zd xs)))::(dds 98 [])))))))) Zf 400 [.r (.fresh 1 ((Zd xs).length) (lm (Zd xs)))] [0,1,2,4,5] (ac n1 a0)) (Za.seq (Za.go (t:=(.val (.agg [.bool neg, .sl xs.length (lm xs)])::(vi sh::(.box [.bool neg, .sl xs.length (lm xs)]::(dds 1 (.box [.bool false, .sl 0 []]::(.val (.sl ((Zd xs).length) (lm (Zd xs)))::(.own 1 0 []::(dds 97 []))))))))) Zf 400 [] [0,1,2,4,5,6] a0) (Za.seq (Za.go (t:=(.val (.agg [.bool neg, .sl xs.length (lm xs)])::(vi sh::(.box [.bool neg, .sl xs.length (lm xs)]::(dds 1 (.box [.bool false, .sl 0 []]::(.val (.sl ((Zd xs).length) (lm (Zd xs)))::(.own 1 0 []::(.val (.bool false)::(dds 96 [])))))))))) Zf 400 [] [0,1,2,4,5,6,7] a0) (Za.seq (Za.seq (Za.go Zf 400 [] [1,2,4,5,6,7,8] a0) (Za.block hl2)) (Za.seq (Za.go (t:=(dds 1 (vi sh::(.box [.bool neg, .sl xs.length (lm xs)]::(dds 1 (.box [.bool false, .sl 0 []]::(.val (.sl ((Zd xs).length) (lm (Zd xs)))::(.own 1 0 []::(.val (.bool lost)::(dds 1 (.val (.int .u64 (u64.wrap (Int.tmod sh 32)))::(dds 94 [])))))))))))) Zf 400 [] [1,2,4,5,6,7,9] (ac (show ¬ (32:Int)=0 from (by decide)) a0)) (Za.seq (Za.seq (Za.go Zf 400 [] [1,2,4,5,6,7,9,10] (ac (show ¬ (32:Int)=0 from (by decide)) a0)) (Za.block hl3)) (Za.go Zf 400 [.b true, .b false, .v (.int .u32 ((Zd xs).getD (Int.toNat (i64.wrap (Int.tdiv sh 32))) 0)), .r (U9 v), .b true, .b false] [4] (ac (show ¬ (32:Int)=0 from (by decide)) (ac c1 (ac c2 (ac (show ¬ (32:Int)=0 from (by decide)) (ac n4 (ac (Z2 n4) (ac n5 (ac n6 (ac c3 (ac c4 a0)))))))))))))))))) (by intro i e;cases e) rfl
theorem Zey (neg lost:Bool) (xs:List Int) (sh i1:Int) (n:Nat) (cs:List AV) (i2 v:Int) (c1:(decide ((i64.wrap (Int.tdiv sh 32))<(((Zd xs).length:Nat):Int)))=true) (c2:(lost)=false) (c3:(neg)=false) (n1:Ze Yir 57 [.sl xs.length (lm xs)] (.fresh 1 ((Zd xs).length) (lm (Zd xs)))) (hl2:Za Yir (.loop V3) (Xb neg xs sh (Zd xs) false 0) (.exit 0) (Xb neg xs sh (Zd xs) lost i1)) (hl3:Za Yir (.loop Vf) (J2 neg xs sh (Zd xs) 0 ([]:List AV) lost (u64.wrap (Int.tmod sh 32)) (i64.wrap (Int.tdiv sh 32))) (.exit 2) (J2 neg xs sh (Zd xs) n cs lost (u64.wrap (Int.tmod sh 32)) i2)) (n4:0≤(i64.wrap (Int.tdiv sh 32))∧(i64.wrap (Int.tdiv sh 32))<(((Zd xs).length:Nat):Int)) (n5:¬ (u64.wrap (Int.tmod sh 32))<0) (n6:Ze Yir 31 [.bool neg, .sl n cs] (U9 v)):Ze Yir 104 [.agg [.bool neg, .sl xs.length (lm xs)], .int .i64 sh] (Zn v):=Ze.of_bodyW (fn:=Dh) (s:=(dds 4 (.box [.bool (decide (v<0)), .sl ((Zb (Int.natAbs v)).length) (lm (Zb (Int.natAbs v)))]::(dds 99 [])))) (ex := .ret) rfl rfl (Za.seq (Za.go (t:=(.val (.agg [.bool neg, .sl xs.length (lm xs)])::(vi sh::(.box [.bool neg, .sl xs.length (lm xs)]::(dds 1 (.box [.bool false, .sl 0 []]::(dds 99 []))))))) Zf 400 [] [0,1,2,4] a0) (Za.seq (Za.go (t:=(.val (.agg [.bool neg, .sl xs.length (lm xs)])::(vi sh::(.box [.bool neg, .sl xs.length (lm xs)]::(dds 1 (.box [.bool false, .sl 0 []]::(.val (.sl ((Zd xs).length) (lm (Zd xs)))::(dds 98 [])))))))) Zf 400 [.r (.fresh 1 ((Zd xs).length) (lm (Zd xs)))] [0,1,2,4,5] (ac n1 a0)) (Za.seq (Za.go (t:=(.val (.agg [.bool neg, .sl xs.length (lm xs)])::(vi sh::(.box [.bool neg, .sl xs.length (lm xs)]::(dds 1 (.box [.bool false, .sl 0 []]::(.val (.sl ((Zd xs).length) (lm (Zd xs)))::(.own 1 0 []::(dds 97 []))))))))) Zf 400 [] [0,1,2,4,5,6] a0) (Za.seq (Za.go (t:=(.val (.agg [.bool neg, .sl xs.length (lm xs)])::(vi sh::(.box [.bool neg, .sl xs.length (lm xs)]::(dds 1 (.box [.bool false, .sl 0 []]::(.val (.sl ((Zd xs).length) (lm (Zd xs)))::(.own 1 0 []::(.val (.bool false)::(dds 96 [])))))))))) Zf 400 [] [0,1,2,4,5,6,7] a0) (Za.seq (Za.seq (Za.go Zf 400 [] [1,2,4,5,6,7,8] a0) (Za.block hl2)) (Za.seq (Za.go (t:=(dds 1 (vi sh::(.box [.bool neg, .sl xs.length (lm xs)]::(dds 1 (.box [.bool false, .sl 0 []]::(.val (.sl ((Zd xs).length) (lm (Zd xs)))::(.own 1 0 []::(.val (.bool lost)::(dds 1 (.val (.int .u64 (u64.wrap (Int.tmod sh 32)))::(dds 94 [])))))))))))) Zf 400 [] [1,2,4,5,6,7,9] (ac (show ¬ (32:Int)=0 from (by decide)) a0)) (Za.seq (Za.seq (Za.go Zf 400 [] [1,2,4,5,6,7,9,10] (ac (show ¬ (32:Int)=0 from (by decide)) a0)) (Za.block hl3)) (Za.go Zf 400 [.b true, .b false, .v (.int .u32 ((Zd xs).getD (Int.toNat (i64.wrap (Int.tdiv sh 32))) 0)), .r (U9 v), .b false, .b false] [4] (ac (show ¬ (32:Int)=0 from (by decide)) (ac c1 (ac c2 (ac (show ¬ (32:Int)=0 from (by decide)) (ac n4 (ac (Z2 n4) (ac n5 (ac n6 (ac c3 (ac (show false=false from rfl) a0)))))))))))))))))) (by intro i e;cases e) rfl
theorem Zex (neg lost:Bool) (xs:List Int) (sh i1:Int) (n:Nat) (cs:List AV) (i2 v w:Int) (c1:(decide ((i64.wrap (Int.tdiv sh 32))<(((Zd xs).length:Nat):Int)))=false) (c2:(neg)=true) (c3:(lost)=true) (n1:Ze Yir 57 [.sl xs.length (lm xs)] (.fresh 1 ((Zd xs).length) (lm (Zd xs)))) (hl2:Za Yir (.loop V3) (Xb neg xs sh (Zd xs) false 0) (.exit 0) (Xb neg xs sh (Zd xs) lost i1)) (hl3:Za Yir (.loop Vf) (J2 neg xs sh (Zd xs) 0 ([]:List AV) lost (u64.wrap (Int.tmod sh 32)) (i64.wrap (Int.tdiv sh 32))) (.exit 2) (J2 neg xs sh (Zd xs) n cs lost (u64.wrap (Int.tmod sh 32)) i2)) (n4:Ze Yir 31 [.bool neg, .sl n cs] (U9 v)) (n5:Ze Yir 17 [.int .i64 1] (Zn 1)) (n6:Ze Yir 78 [Zn v,Zn 1] (Zn w)):Ze Yir 104 [.agg [.bool neg, .sl xs.length (lm xs)], .int .i64 sh] (Zn w):=Ze.of_bodyW (fn:=Dh) (s:=(dds 4 (.box [.bool (decide (w<0)), .sl ((Zb (Int.natAbs w)).length) (lm (Zb (Int.natAbs w)))]::(dds 99 [])))) (ex := .ret) rfl rfl (Za.seq (Za.go (t:=(.val (.agg [.bool neg, .sl xs.length (lm xs)])::(vi sh::(.box [.bool neg, .sl xs.length (lm xs)]::(dds 1 (.box [.bool false, .sl 0 []]::(dds 99 []))))))) Zf 400 [] [0,1,2,4] a0) (Za.seq (Za.go (t:=(.val (.agg [.bool neg, .sl xs.length (lm xs)])::(vi sh::(.box [.bool neg, .sl xs.length (lm xs)]::(dds 1 (.box [.bool false, .sl 0 []]::(.val (.sl ((Zd xs).length) (lm (Zd xs)))::(dds 98 [])))))))) Zf 400 [.r (.fresh 1 ((Zd xs).length) (lm (Zd xs)))] [0,1,2,4,5] (ac n1 a0)) (Za.seq (Za.go (t:=(.val (.agg [.bool neg, .sl xs.length (lm xs)])::(vi sh::(.box [.bool neg, .sl xs.length (lm xs)]::(dds 1 (.box [.bool false, .sl 0 []]::(.val (.sl ((Zd xs).length) (lm (Zd xs)))::(.own 1 0 []::(dds 97 []))))))))) Zf 400 [] [0,1,2,4,5,6] a0) (Za.seq (Za.go (t:=(.val (.agg [.bool neg, .sl xs.length (lm xs)])::(vi sh::(.box [.bool neg, .sl xs.length (lm xs)]::(dds 1 (.box [.bool false, .sl 0 []]::(.val (.sl ((Zd xs).length) (lm (Zd xs)))::(.own 1 0 []::(.val (.bool false)::(dds 96 [])))))))))) Zf 400 [] [0,1,2,4,5,6,7] a0) (Za.seq (Za.seq (Za.go Zf 400 [] [1,2,4,5,6,7,8] a0) (Za.block hl2)) (Za.seq (Za.go (t:=(dds 1 (vi sh::(.box [.bool neg, .sl xs.length (lm xs)]::(dds 1 (.box [.bool false, .sl 0 []]::(.val (.sl ((Zd xs).length) (lm (Zd xs)))::(.own 1 0 []::(.val (.bool lost)::(dds 1 (.val (.int .u64 (u64.wrap (Int.tmod sh 32)))::(dds 94 [])))))))))))) Zf 400 [] [1,2,4,5,6,7,9] (ac (show ¬ (32:Int)=0 from (by decide)) a0)) (Za.seq (Za.seq (Za.go Zf 400 [] [1,2,4,5,6,7,9,10] (ac (show ¬ (32:Int)=0 from (by decide)) a0)) (Za.block hl3)) (Za.go Zf 400 [.b false, .r (U9 v), .b true, .b true, .r (Zn 1), .r (Zn w)] [4] (ac (show ¬ (32:Int)=0 from (by decide)) (ac c1 (ac n4 (ac c2 (ac c3 (ac n5 (ac n6 a0))))))))))))))) (by intro i e;cases e) rfl
theorem Zew (neg lost:Bool) (xs:List Int) (sh i1:Int) (n:Nat) (cs:List AV) (i2 v:Int) (c1:(decide ((i64.wrap (Int.tdiv sh 32))<(((Zd xs).length:Nat):Int)))=false) (c2:(neg)=true) (c3:(lost)=false) (n1:Ze Yir 57 [.sl xs.length (lm xs)] (.fresh 1 ((Zd xs).length) (lm (Zd xs)))) (hl2:Za Yir (.loop V3) (Xb neg xs sh (Zd xs) false 0) (.exit 0) (Xb neg xs sh (Zd xs) lost i1)) (hl3:Za Yir (.loop Vf) (J2 neg xs sh (Zd xs) 0 ([]:List AV) lost (u64.wrap (Int.tmod sh 32)) (i64.wrap (Int.tdiv sh 32))) (.exit 2) (J2 neg xs sh (Zd xs) n cs lost (u64.wrap (Int.tmod sh 32)) i2)) (n4:Ze Yir 31 [.bool neg, .sl n cs] (U9 v)):Ze Yir 104 [.agg [.bool neg, .sl xs.length (lm xs)], .int .i64 sh] (Zn v):=Ze.of_bodyW (fn:=Dh) (s:=(dds 4 (.box [.bool (decide (v<0)), .sl ((Zb (Int.natAbs v)).length) (lm (Zb (Int.natAbs v)))]::(dds 99 [])))) (ex := .ret) rfl rfl (Za.seq (Za.go (t:=(.val (.agg [.bool neg, .sl xs.length (lm xs)])::(vi sh::(.box [.bool neg, .sl xs.length (lm xs)]::(dds 1 (.box [.bool false, .sl 0 []]::(dds 99 []))))))) Zf 400 [] [0,1,2,4] a0) (Za.seq (Za.go (t:=(.val (.agg [.bool neg, .sl xs.length (lm xs)])::(vi sh::(.box [.bool neg, .sl xs.length (lm xs)]::(dds 1 (.box [.bool false, .sl 0 []]::(.val (.sl ((Zd xs).length) (lm (Zd xs)))::(dds 98 [])))))))) Zf 400 [.r (.fresh 1 ((Zd xs).length) (lm (Zd xs)))] [0,1,2,4,5] (ac n1 a0)) (Za.seq (Za.go (t:=(.val (.agg [.bool neg, .sl xs.length (lm xs)])::(vi sh::(.box [.bool neg, .sl xs.length (lm xs)]::(dds 1 (.box [.bool false, .sl 0 []]::(.val (.sl ((Zd xs).length) (lm (Zd xs)))::(.own 1 0 []::(dds 97 []))))))))) Zf 400 [] [0,1,2,4,5,6] a0) (Za.seq (Za.go (t:=(.val (.agg [.bool neg, .sl xs.length (lm xs)])::(vi sh::(.box [.bool neg, .sl xs.length (lm xs)]::(dds 1 (.box [.bool false, .sl 0 []]::(.val (.sl ((Zd xs).length) (lm (Zd xs)))::(.own 1 0 []::(.val (.bool false)::(dds 96 [])))))))))) Zf 400 [] [0,1,2,4,5,6,7] a0) (Za.seq (Za.seq (Za.go Zf 400 [] [1,2,4,5,6,7,8] a0) (Za.block hl2)) (Za.seq (Za.go (t:=(dds 1 (vi sh::(.box [.bool neg, .sl xs.length (lm xs)]::(dds 1 (.box [.bool false, .sl 0 []]::(.val (.sl ((Zd xs).length) (lm (Zd xs)))::(.own 1 0 []::(.val (.bool lost)::(dds 1 (.val (.int .u64 (u64.wrap (Int.tmod sh 32)))::(dds 94 [])))))))))))) Zf 400 [] [1,2,4,5,6,7,9] (ac (show ¬ (32:Int)=0 from (by decide)) a0)) (Za.seq (Za.seq (Za.go Zf 400 [] [1,2,4,5,6,7,9,10] (ac (show ¬ (32:Int)=0 from (by decide)) a0)) (Za.block hl3)) (Za.go Zf 400 [.b false, .r (U9 v), .b true, .b false] [4] (ac (show ¬ (32:Int)=0 from (by decide)) (ac c1 (ac n4 (ac c2 (ac c3 a0))))))))))))) (by intro i e;cases e) rfl
theorem Zev (neg lost:Bool) (xs:List Int) (sh i1:Int) (n:Nat) (cs:List AV) (i2 v:Int) (c1:(decide ((i64.wrap (Int.tdiv sh 32))<(((Zd xs).length:Nat):Int)))=false) (c2:(neg)=false) (n1:Ze Yir 57 [.sl xs.length (lm xs)] (.fresh 1 ((Zd xs).length) (lm (Zd xs)))) (hl2:Za Yir (.loop V3) (Xb neg xs sh (Zd xs) false 0) (.exit 0) (Xb neg xs sh (Zd xs) lost i1)) (hl3:Za Yir (.loop Vf) (J2 neg xs sh (Zd xs) 0 ([]:List AV) lost (u64.wrap (Int.tmod sh 32)) (i64.wrap (Int.tdiv sh 32))) (.exit 2) (J2 neg xs sh (Zd xs) n cs lost (u64.wrap (Int.tmod sh 32)) i2)) (n4:Ze Yir 31 [.bool neg, .sl n cs] (U9 v)):Ze Yir 104 [.agg [.bool neg, .sl xs.length (lm xs)], .int .i64 sh] (Zn v):=Ze.of_bodyW (fn:=Dh) (s:=(dds 4 (.box [.bool (decide (v<0)), .sl ((Zb (Int.natAbs v)).length) (lm (Zb (Int.natAbs v)))]::(dds 99 [])))) (ex := .ret) rfl rfl (Za.seq (Za.go (t:=(.val (.agg [.bool neg, .sl xs.length (lm xs)])::(vi sh::(.box [.bool neg, .sl xs.length (lm xs)]::(dds 1 (.box [.bool false, .sl 0 []]::(dds 99 []))))))) Zf 400 [] [0,1,2,4] a0) (Za.seq (Za.go (t:=(.val (.agg [.bool neg, .sl xs.length (lm xs)])::(vi sh::(.box [.bool neg, .sl xs.length (lm xs)]::(dds 1 (.box [.bool false, .sl 0 []]::(.val (.sl ((Zd xs).length) (lm (Zd xs)))::(dds 98 [])))))))) Zf 400 [.r (.fresh 1 ((Zd xs).length) (lm (Zd xs)))] [0,1,2,4,5] (ac n1 a0)) (Za.seq (Za.go (t:=(.val (.agg [.bool neg, .sl xs.length (lm xs)])::(vi sh::(.box [.bool neg, .sl xs.length (lm xs)]::(dds 1 (.box [.bool false, .sl 0 []]::(.val (.sl ((Zd xs).length) (lm (Zd xs)))::(.own 1 0 []::(dds 97 []))))))))) Zf 400 [] [0,1,2,4,5,6] a0) (Za.seq (Za.go (t:=(.val (.agg [.bool neg, .sl xs.length (lm xs)])::(vi sh::(.box [.bool neg, .sl xs.length (lm xs)]::(dds 1 (.box [.bool false, .sl 0 []]::(.val (.sl ((Zd xs).length) (lm (Zd xs)))::(.own 1 0 []::(.val (.bool false)::(dds 96 [])))))))))) Zf 400 [] [0,1,2,4,5,6,7] a0) (Za.seq (Za.seq (Za.go Zf 400 [] [1,2,4,5,6,7,8] a0) (Za.block hl2)) (Za.seq (Za.go (t:=(dds 1 (vi sh::(.box [.bool neg, .sl xs.length (lm xs)]::(dds 1 (.box [.bool false, .sl 0 []]::(.val (.sl ((Zd xs).length) (lm (Zd xs)))::(.own 1 0 []::(.val (.bool lost)::(dds 1 (.val (.int .u64 (u64.wrap (Int.tmod sh 32)))::(dds 94 [])))))))))))) Zf 400 [] [1,2,4,5,6,7,9] (ac (show ¬ (32:Int)=0 from (by decide)) a0)) (Za.seq (Za.seq (Za.go Zf 400 [] [1,2,4,5,6,7,9,10] (ac (show ¬ (32:Int)=0 from (by decide)) a0)) (Za.block hl3)) (Za.go Zf 400 [.b false, .r (U9 v), .b false, .b false] [4] (ac (show ¬ (32:Int)=0 from (by decide)) (ac c1 (ac n4 (ac c2 (ac (show false=false from rfl) a0))))))))))))) (by intro i e;cases e) rfl
def Rb (xs:List Int) (ys:List Int) (k:Nat) (qs:List Int) (r:Int) (i:Int):Zk:=(.val (.sl xs.length (lm xs))::(.val (.sl ys.length (lm ys))::(dds 2 (.own 1 0 []::(.own 1 0 []::(.own 1 k (lm qs)::(.val (.int .u64 r)::(.val (.int .i64 i)::(dds 298 [])))))))))
theorem Zom (xs:List Int) (ys:List Int) (k:Nat) (qs:List Int) (r:Int) (i:Int)  (c1:(decide (i≥0))=true) (n1:0≤i∧i<(xs.length:Int)) (n2:0≤(0:Int)∧(0:Int)<(ys.length:Int)) (n3:¬ (u64.wrap (ys.getD (Int.toNat 0) 0))=0) (n4:0≤i∧i<(k:Int)) (n5:qs.length=k):Za Yir Zfn (Rb xs ys k qs r i) .norm (Rb xs ys k (qs.set (Int.toNat i) (u32.wrap (u64.wrap (Int.tdiv (u64.wrap ((BitVec.ofInt (IntKind.bits .u64) (u64.wrap (r*2^(min (Int.toNat 32) (IntKind.bits .u64)))) ||| BitVec.ofInt (IntKind.bits .u64) (u64.wrap (xs.getD (Int.toNat i) 0))).toNat)) (u64.wrap (ys.getD (Int.toNat 0) 0)))))) (Int.tmod (u64.wrap ((BitVec.ofInt (IntKind.bits .u64) (u64.wrap (r*2^(min (Int.toNat 32) (IntKind.bits .u64)))) ||| BitVec.ofInt (IntKind.bits .u64) (u64.wrap (xs.getD (Int.toNat i) 0))).toNat)) (u64.wrap (ys.getD (Int.toNat 0) 0))) (i64.wrap (i-1))):=(Za.go Zf 400 [.b true, .v (.int .u32 (xs.getD (Int.toNat i) 0)), .v (.int .u32 (ys.getD (Int.toNat 0) 0)), .l (lm (qs.set (Int.toNat i) (u32.wrap (u64.wrap (Int.tdiv (u64.wrap ((BitVec.ofInt (IntKind.bits .u64) (u64.wrap (r*2^(min (Int.toNat 32) (IntKind.bits .u64)))) ||| BitVec.ofInt (IntKind.bits .u64) (u64.wrap (xs.getD (Int.toNat i) 0))).toNat)) (u64.wrap (ys.getD (Int.toNat 0) 0))))))), .v (.int .u32 (ys.getD (Int.toNat 0) 0))] [0,1,4,5,6,7,8] (ac c1 (ac (show ¬ (32:Int)<0 from (by decide)) (ac n1 (ac (Z2 n1) (ac n2 (ac (Z2 n2) (ac n3 (ac n4 (ac (show Xp (lm qs) (Int.toNat i*1) [.int .u32 (u32.wrap (u64.wrap (Int.tdiv (u64.wrap ((BitVec.ofInt (IntKind.bits .u64) (u64.wrap (r*2^(min (Int.toNat 32) (IntKind.bits .u64)))) ||| BitVec.ofInt (IntKind.bits .u64) (u64.wrap (xs.getD (Int.toNat i) 0))).toNat)) (u64.wrap (ys.getD (Int.toNat 0) 0)))))]=some (lm (qs.set (Int.toNat i) (u32.wrap (u64.wrap (Int.tdiv (u64.wrap ((BitVec.ofInt (IntKind.bits .u64) (u64.wrap (r*2^(min (Int.toNat 32) (IntKind.bits .u64)))) ||| BitVec.ofInt (IntKind.bits .u64) (u64.wrap (xs.getD (Int.toNat i) 0))).toNat)) (u64.wrap (ys.getD (Int.toNat 0) 0))))))) from (Jf n5 n4)) (ac n2 (ac (Z2 n2) (ac n3 a0)))))))))))))
theorem Zol (xs:List Int) (ys:List Int) (k:Nat) (qs:List Int) (r:Int) (i:Int)  (c1:(decide (i≥0))=false):Za Yir Zfn (Rb xs ys k qs r i) (.exit 0) (Rb xs ys k qs r i):=(Za.go Zf 400 [.b false] [0,1,4,5,6,7,8] (ac c1 a0))
def M7 (xs:List Int) (ys:List Int) (s:Int):Zk:=(.val (.sl xs.length (lm xs))::(.val (.sl ys.length (lm ys))::(dds 2 (.own 1 0 []::(.own 1 0 []::(dds 3 (.val (.int .i64 s)::(dds 297 []))))))))
theorem Zok (xs:List Int) (ys:List Int) (s:Int)  (c1:((u32.wrap ((BitVec.ofInt (IntKind.bits .u32) (u32.wrap ((ys.getD (Int.toNat (i64.wrap ((ys.length:Int)-1))) 0)*2^(min (Int.toNat (u64.wrap s)) (IntKind.bits .u32)))) &&& BitVec.ofInt (IntKind.bits .u32) 2147483648).toNat))==0)=true) (n1:0≤(i64.wrap ((ys.length:Int)-1))∧(i64.wrap ((ys.length:Int)-1))<(ys.length:Int)) (n2:¬ (u64.wrap s)<0):Za Yir Zfm (M7 xs ys s) .norm (M7 xs ys (i64.wrap (s+1))):=(Za.go Zf 400 [.v (.int .u32 (ys.getD (Int.toNat (i64.wrap ((ys.length:Int)-1))) 0)), .b true] [0,1,4,5,9] (ac n1 (ac (Z2 n1) (ac n2 (ac c1 a0)))))
theorem Zoj (xs:List Int) (ys:List Int) (s:Int)  (c1:((u32.wrap ((BitVec.ofInt (IntKind.bits .u32) (u32.wrap ((ys.getD (Int.toNat (i64.wrap ((ys.length:Int)-1))) 0)*2^(min (Int.toNat (u64.wrap s)) (IntKind.bits .u32)))) &&& BitVec.ofInt (IntKind.bits .u32) 2147483648).toNat))==0)=false) (n1:0≤(i64.wrap ((ys.length:Int)-1))∧(i64.wrap ((ys.length:Int)-1))<(ys.length:Int)) (n2:¬ (u64.wrap s)<0):Za Yir Zfm (M7 xs ys s) (.exit 2) (M7 xs ys s):=(Za.go Zf 400 [.v (.int .u32 (ys.getD (Int.toNat (i64.wrap ((ys.length:Int)-1))) 0)), .b false] [0,1,4,5,9] (ac n1 (ac (Z2 n1) (ac n2 (ac c1 a0)))))
def V5 (k:Nat) (us:List Int) (vs:List Int) (n:Int) (kq:Nat) (qs:List Int) (s:Int) (j:Int) (g:Int) (r:Int):Zk:=(dds 4 (.own 1 0 []::(.own 1 0 []::(dds 3 (.val (.int .i64 s)::(.val (.sl vs.length (lm vs))::(.own 1 k (lm us)::(.val (.int .i64 n)::(.own 1 kq (lm qs)::(.val (.int .i64 j)::(dds 1 (.val (.int .u64 g)::(.val (.int .u64 r)::(dds 289 []))))))))))))))
theorem Zos (k:Nat) (us:List Int) (vs:List Int) (n:Int) (kq:Nat) (qs:List Int) (s:Int) (j:Int) (g:Int) (r:Int)  (c1:(decide (g≥4294967296))=true) (c2:(decide ((u64.wrap (r+(u64.wrap (vs.getD (Int.toNat (i64.wrap (n-1))) 0))))≥4294967296))=true) (n1:0≤(i64.wrap (n-1))∧(i64.wrap (n-1))<(vs.length:Int)):Za Yir Di (V5 k us vs n kq qs s j g r) (.exit 6) (V5 k us vs n kq qs s j (u64.wrap (g-1)) (u64.wrap (r+(u64.wrap (vs.getD (Int.toNat (i64.wrap (n-1))) 0))))):=(Za.go Zf 400 [.b true, .b true, .v (.int .u32 (vs.getD (Int.toNat (i64.wrap (n-1))) 0)), .b true] [4,5,9,10,11,12,13,14,16,17] (ac c1 (ac (show true=true from rfl) (ac n1 (ac (Z2 n1) (ac c2 a0))))))
theorem Zor (k:Nat) (us:List Int) (vs:List Int) (n:Int) (kq:Nat) (qs:List Int) (s:Int) (j:Int) (g:Int) (r:Int)  (c1:(decide (g≥4294967296))=true) (c2:(decide ((u64.wrap (r+(u64.wrap (vs.getD (Int.toNat (i64.wrap (n-1))) 0))))≥4294967296))=false) (n1:0≤(i64.wrap (n-1))∧(i64.wrap (n-1))<(vs.length:Int)):Za Yir Di (V5 k us vs n kq qs s j g r) .norm (V5 k us vs n kq qs s j (u64.wrap (g-1)) (u64.wrap (r+(u64.wrap (vs.getD (Int.toNat (i64.wrap (n-1))) 0))))):=(Za.go Zf 400 [.b true, .b true, .v (.int .u32 (vs.getD (Int.toNat (i64.wrap (n-1))) 0)), .b false] [4,5,9,10,11,12,13,14,16,17] (ac c1 (ac (show true=true from rfl) (ac n1 (ac (Z2 n1) (ac c2 a0))))))
theorem Zoq (k:Nat) (us:List Int) (vs:List Int) (n:Int) (kq:Nat) (qs:List Int) (s:Int) (j:Int) (g:Int) (r:Int)  (c1:(decide (g≥4294967296))=false) (c2:(decide (r<4294967296))=true) (c3:(decide ((u64.wrap (g*(u64.wrap (vs.getD (Int.toNat (i64.wrap (n-2))) 0))))>(u64.wrap ((BitVec.ofInt (IntKind.bits .u64) (u64.wrap (r*2^(min (Int.toNat 32) (IntKind.bits .u64)))) ||| BitVec.ofInt (IntKind.bits .u64) (u64.wrap (us.getD (Int.toNat (i64.wrap ((i64.wrap (j+n))-2))) 0))).toNat))))=true) (c4:(decide ((u64.wrap (r+(u64.wrap (vs.getD (Int.toNat (i64.wrap (n-1))) 0))))≥4294967296))=true) (n1:0≤(i64.wrap (n-2))∧(i64.wrap (n-2))<(vs.length:Int)) (n2:0≤(i64.wrap ((i64.wrap (j+n))-2))∧(i64.wrap ((i64.wrap (j+n))-2))<(k:Int)) (n3:us.length=k) (n4:0≤(i64.wrap (n-1))∧(i64.wrap (n-1))<(vs.length:Int)):Za Yir Di (V5 k us vs n kq qs s j g r) (.exit 6) (V5 k us vs n kq qs s j (u64.wrap (g-1)) (u64.wrap (r+(u64.wrap (vs.getD (Int.toNat (i64.wrap (n-1))) 0))))):=(Za.go Zf 400 [.b false, .b true, .v (.int .u32 (vs.getD (Int.toNat (i64.wrap (n-2))) 0)), .v (.int .u32 (us.getD (Int.toNat (i64.wrap ((i64.wrap (j+n))-2))) 0)), .b false, .b true, .b true, .v (.int .u32 (vs.getD (Int.toNat (i64.wrap (n-1))) 0)), .b true] [4,5,9,10,11,12,13,14,16,17] (ac c1 (ac c2 (ac n1 (ac (Z2 n1) (ac (show ¬ (32:Int)<0 from (by decide)) (ac n2 (ac (Qs n3 n2) (ac c1 (ac c2 (ac c3 (ac n4 (ac (Z2 n4) (ac c4 a0))))))))))))))
theorem Zop (k:Nat) (us:List Int) (vs:List Int) (n:Int) (kq:Nat) (qs:List Int) (s:Int) (j:Int) (g:Int) (r:Int)  (c1:(decide (g≥4294967296))=false) (c2:(decide (r<4294967296))=true) (c3:(decide ((u64.wrap (g*(u64.wrap (vs.getD (Int.toNat (i64.wrap (n-2))) 0))))>(u64.wrap ((BitVec.ofInt (IntKind.bits .u64) (u64.wrap (r*2^(min (Int.toNat 32) (IntKind.bits .u64)))) ||| BitVec.ofInt (IntKind.bits .u64) (u64.wrap (us.getD (Int.toNat (i64.wrap ((i64.wrap (j+n))-2))) 0))).toNat))))=true) (c4:(decide ((u64.wrap (r+(u64.wrap (vs.getD (Int.toNat (i64.wrap (n-1))) 0))))≥4294967296))=false) (n1:0≤(i64.wrap (n-2))∧(i64.wrap (n-2))<(vs.length:Int)) (n2:0≤(i64.wrap ((i64.wrap (j+n))-2))∧(i64.wrap ((i64.wrap (j+n))-2))<(k:Int)) (n3:us.length=k) (n4:0≤(i64.wrap (n-1))∧(i64.wrap (n-1))<(vs.length:Int)):Za Yir Di (V5 k us vs n kq qs s j g r) .norm (V5 k us vs n kq qs s j (u64.wrap (g-1)) (u64.wrap (r+(u64.wrap (vs.getD (Int.toNat (i64.wrap (n-1))) 0))))):=(Za.go Zf 400 [.b false, .b true, .v (.int .u32 (vs.getD (Int.toNat (i64.wrap (n-2))) 0)), .v (.int .u32 (us.getD (Int.toNat (i64.wrap ((i64.wrap (j+n))-2))) 0)), .b false, .b true, .b true, .v (.int .u32 (vs.getD (Int.toNat (i64.wrap (n-1))) 0)), .b false] [4,5,9,10,11,12,13,14,16,17] (ac c1 (ac c2 (ac n1 (ac (Z2 n1) (ac (show ¬ (32:Int)<0 from (by decide)) (ac n2 (ac (Qs n3 n2) (ac c1 (ac c2 (ac c3 (ac n4 (ac (Z2 n4) (ac c4 a0))))))))))))))
theorem Zfb (k:Nat) (us:List Int) (vs:List Int) (n:Int) (kq:Nat) (qs:List Int) (s:Int) (j:Int) (g:Int) (r:Int)  (c1:(decide (g≥4294967296))=false) (c2:(decide (r<4294967296))=true) (c3:(decide ((u64.wrap (g*(u64.wrap (vs.getD (Int.toNat (i64.wrap (n-2))) 0))))>(u64.wrap ((BitVec.ofInt (IntKind.bits .u64) (u64.wrap (r*2^(min (Int.toNat 32) (IntKind.bits .u64)))) ||| BitVec.ofInt (IntKind.bits .u64) (u64.wrap (us.getD (Int.toNat (i64.wrap ((i64.wrap (j+n))-2))) 0))).toNat))))=false) (n1:0≤(i64.wrap (n-2))∧(i64.wrap (n-2))<(vs.length:Int)) (n2:0≤(i64.wrap ((i64.wrap (j+n))-2))∧(i64.wrap ((i64.wrap (j+n))-2))<(k:Int)) (n3:us.length=k):Za Yir Di (V5 k us vs n kq qs s j g r) (.exit 6) (V5 k us vs n kq qs s j g r):=(Za.go Zf 400 [.b false, .b true, .v (.int .u32 (vs.getD (Int.toNat (i64.wrap (n-2))) 0)), .v (.int .u32 (us.getD (Int.toNat (i64.wrap ((i64.wrap (j+n))-2))) 0)), .b false, .b true, .b false] [4,5,9,10,11,12,13,14,16,17] (ac c1 (ac c2 (ac n1 (ac (Z2 n1) (ac (show ¬ (32:Int)<0 from (by decide)) (ac n2 (ac (Qs n3 n2) (ac c1 (ac c2 (ac c3 a0)))))))))))
def At (k:Nat) (us:List Int) (vs:List Int) (n:Int) (kq:Nat) (qs:List Int) (s:Int) (j:Int) (g:Int) (b:Int) (c:Int) (i:Int):Zk:=(dds 4 (.own 1 0 []::(.own 1 0 []::(dds 3 (.val (.int .i64 s)::(.val (.sl vs.length (lm vs))::(.own 1 k (lm us)::(.val (.int .i64 n)::(.own 1 kq (lm qs)::(.val (.int .i64 j)::(dds 1 (.val (.int .u64 g)::(dds 1 (.val (.int .u64 b)::(.val (.int .u64 c)::(.val (.int .i64 i)::(dds 286 [])))))))))))))))))
theorem Zoo (k:Nat) (us:List Int) (vs:List Int) (n:Int) (kq:Nat) (qs:List Int) (s:Int) (j:Int) (g:Int) (b:Int) (c:Int) (i:Int)  (c1:(decide (i<n))=true) (n1:0≤i∧i<(vs.length:Int)) (n2:0≤(i64.wrap (i+j))∧(i64.wrap (i+j))<(k:Int)) (n3:us.length=k):Za Yir Za9 (At k us vs n kq qs s j g b c i) .norm (At k (us.set (Int.toNat (i64.wrap (i+j))) (u32.wrap (u64.wrap ((u64.wrap ((u64.wrap (us.getD (Int.toNat (i64.wrap (i+j))) 0))-(u64.wrap ((BitVec.ofInt (IntKind.bits .u64) (u64.wrap (c+(u64.wrap (g*(u64.wrap (vs.getD (Int.toNat i) 0)))))) &&& BitVec.ofInt (IntKind.bits .u64) 4294967295).toNat))))-b)))) vs n kq qs s j g (Int.fdiv (u64.wrap ((u64.wrap ((u64.wrap (us.getD (Int.toNat (i64.wrap (i+j))) 0))-(u64.wrap ((BitVec.ofInt (IntKind.bits .u64) (u64.wrap (c+(u64.wrap (g*(u64.wrap (vs.getD (Int.toNat i) 0)))))) &&& BitVec.ofInt (IntKind.bits .u64) 4294967295).toNat))))-b)) (2^(min (Int.toNat 63) (IntKind.bits .u64)))) (Int.fdiv (u64.wrap (c+(u64.wrap (g*(u64.wrap (vs.getD (Int.toNat i) 0)))))) (2^(min (Int.toNat 32) (IntKind.bits .u64)))) (i64.wrap (i+1))):=(Za.go Zf 400 [.b true, .v (.int .u32 (vs.getD (Int.toNat i) 0)), .v (.int .u32 (us.getD (Int.toNat (i64.wrap (i+j))) 0)), .l (lm (us.set (Int.toNat (i64.wrap (i+j))) (u32.wrap (u64.wrap ((u64.wrap ((u64.wrap (us.getD (Int.toNat (i64.wrap (i+j))) 0))-(u64.wrap ((BitVec.ofInt (IntKind.bits .u64) (u64.wrap (c+(u64.wrap (g*(u64.wrap (vs.getD (Int.toNat i) 0)))))) &&& BitVec.ofInt (IntKind.bits .u64) 4294967295).toNat))))-b)))))] [4,5,9,10,11,12,13,14,16,18,19,20] (ac c1 (ac n1 (ac (Z2 n1) (ac n2 (ac (Qs n3 n2) (ac n2 (ac (show Xp (lm us) (Int.toNat (i64.wrap (i+j))*1) [.int .u32 (u32.wrap (u64.wrap ((u64.wrap ((u64.wrap (us.getD (Int.toNat (i64.wrap (i+j))) 0))-(u64.wrap ((BitVec.ofInt (IntKind.bits .u64) (u64.wrap (c+(u64.wrap (g*(u64.wrap (vs.getD (Int.toNat i) 0)))))) &&& BitVec.ofInt (IntKind.bits .u64) 4294967295).toNat))))-b)))]=some (lm (us.set (Int.toNat (i64.wrap (i+j))) (u32.wrap (u64.wrap ((u64.wrap ((u64.wrap (us.getD (Int.toNat (i64.wrap (i+j))) 0))-(u64.wrap ((BitVec.ofInt (IntKind.bits .u64) (u64.wrap (c+(u64.wrap (g*(u64.wrap (vs.getD (Int.toNat i) 0)))))) &&& BitVec.ofInt (IntKind.bits .u64) 4294967295).toNat))))-b))))) from (Jf n3 n2)) (ac (show ¬ (63:Int)<0 from (by decide)) (ac (show ¬ (32:Int)<0 from (by decide)) a0))))))))))
theorem Zon (k:Nat) (us:List Int) (vs:List Int) (n:Int) (kq:Nat) (qs:List Int) (s:Int) (j:Int) (g:Int) (b:Int) (c:Int) (i:Int)  (c1:(decide (i<n))=false):Za Yir Za9 (At k us vs n kq qs s j g b c i) (.exit 8) (At k us vs n kq qs s j g b c i):=(Za.go Zf 400 [.b false] [4,5,9,10,11,12,13,14,16,18,19,20] (ac c1 a0))
def M8 (k:Nat) (us:List Int) (vs:List Int) (n:Int) (kq:Nat) (qs:List Int) (s:Int) (j:Int) (g:Int) (c:Int) (i:Int):Zk:=(dds 4 (.own 1 0 []::(.own 1 0 []::(dds 3 (.val (.int .i64 s)::(.val (.sl vs.length (lm vs))::(.own 1 k (lm us)::(.val (.int .i64 n)::(.own 1 kq (lm qs)::(.val (.int .i64 j)::(dds 1 (.val (.int .u64 g)::(dds 6 (.val (.int .u64 c)::(.val (.int .i64 i)::(dds 282 []))))))))))))))))
theorem Zou (k:Nat) (us:List Int) (vs:List Int) (n:Int) (kq:Nat) (qs:List Int) (s:Int) (j:Int) (g:Int) (c:Int) (i:Int)  (c1:(decide (i<n))=true) (n1:0≤(i64.wrap (i+j))∧(i64.wrap (i+j))<(k:Int)) (n2:us.length=k) (n3:0≤i∧i<(vs.length:Int)):Za Yir Zfo (M8 k us vs n kq qs s j g c i) .norm (M8 k (us.set (Int.toNat (i64.wrap (i+j))) (u32.wrap (u64.wrap (c+(u64.wrap ((u64.wrap (us.getD (Int.toNat (i64.wrap (i+j))) 0))+(u64.wrap (vs.getD (Int.toNat i) 0)))))))) vs n kq qs s j g (Int.fdiv (u64.wrap (c+(u64.wrap ((u64.wrap (us.getD (Int.toNat (i64.wrap (i+j))) 0))+(u64.wrap (vs.getD (Int.toNat i) 0)))))) (2^(min (Int.toNat 32) (IntKind.bits .u64)))) (i64.wrap (i+1))):=(Za.go Zf 400 [.b true, .v (.int .u32 (us.getD (Int.toNat (i64.wrap (i+j))) 0)), .v (.int .u32 (vs.getD (Int.toNat i) 0)), .l (lm (us.set (Int.toNat (i64.wrap (i+j))) (u32.wrap (u64.wrap (c+(u64.wrap ((u64.wrap (us.getD (Int.toNat (i64.wrap (i+j))) 0))+(u64.wrap (vs.getD (Int.toNat i) 0)))))))))] [4,5,9,10,11,12,13,14,16,23,24] (ac c1 (ac n1 (ac (Qs n2 n1) (ac n3 (ac (Z2 n3) (ac n1 (ac (show Xp (lm us) (Int.toNat (i64.wrap (i+j))*1) [.int .u32 (u32.wrap (u64.wrap (c+(u64.wrap ((u64.wrap (us.getD (Int.toNat (i64.wrap (i+j))) 0))+(u64.wrap (vs.getD (Int.toNat i) 0)))))))]=some (lm (us.set (Int.toNat (i64.wrap (i+j))) (u32.wrap (u64.wrap (c+(u64.wrap ((u64.wrap (us.getD (Int.toNat (i64.wrap (i+j))) 0))+(u64.wrap (vs.getD (Int.toNat i) 0))))))))) from (Jf n2 n1)) (ac (show ¬ (32:Int)<0 from (by decide)) a0)))))))))
theorem Zot (k:Nat) (us:List Int) (vs:List Int) (n:Int) (kq:Nat) (qs:List Int) (s:Int) (j:Int) (g:Int) (c:Int) (i:Int)  (c1:(decide (i<n))=false):Za Yir Zfo (M8 k us vs n kq qs s j g c i) (.exit 10) (M8 k us vs n kq qs s j g c i):=(Za.go Zf 400 [.b false] [4,5,9,10,11,12,13,14,16,23,24] (ac c1 a0))
def Za1 (k:Nat) (us:List Int) (vs:List Int) (n:Int) (kq:Nat) (qs:List Int) (s:Int) (j:Int):Zk:=(dds 4 (.own 1 0 []::(.own 1 0 []::(dds 3 (.val (.int .i64 s)::(.val (.sl vs.length (lm vs))::(.own 1 k (lm us)::(.val (.int .i64 n)::(.own 1 kq (lm qs)::(.val (.int .i64 j)::(dds 292 [])))))))))))
theorem Yk93_1 (k:Nat) (us:List Int) (vs:List Int) (n:Int) (kq:Nat) (qs:List Int) (s:Int) (j:Int) (us1 us2:List Int) (g r b c cc:Int) (c1:(decide (j≥0))=true) (c2:((Int.fdiv (u64.wrap ((u64.wrap ((u64.wrap (us1.getD (Int.toNat (i64.wrap (j+n))) 0))-c))-b)) (2^(min (Int.toNat 63) (IntKind.bits .u64)))) != 0)=true) (n1:0≤(i64.wrap (j+n))∧(i64.wrap (j+n))<(k:Int)) (n2:us.length=k) (n3:0≤(i64.wrap ((i64.wrap (j+n))-1))∧(i64.wrap ((i64.wrap (j+n))-1))<(k:Int)) (n4:0≤(i64.wrap (n-1))∧(i64.wrap (n-1))<(vs.length:Int)) (n5:¬ (u64.wrap (vs.getD (Int.toNat (i64.wrap (n-1))) 0))=0) (hl6:Za Yir (.loop Di) (V5 k us vs n kq qs s j (u64.wrap (Int.tdiv (u64.wrap ((BitVec.ofInt (IntKind.bits .u64) (u64.wrap ((u64.wrap (us.getD (Int.toNat (i64.wrap (j+n))) 0))*2^(min (Int.toNat 32) (IntKind.bits .u64)))) ||| BitVec.ofInt (IntKind.bits .u64) (u64.wrap (us.getD (Int.toNat (i64.wrap ((i64.wrap (j+n))-1))) 0))).toNat)) (u64.wrap (vs.getD (Int.toNat (i64.wrap (n-1))) 0)))) (Int.tmod (u64.wrap ((BitVec.ofInt (IntKind.bits .u64) (u64.wrap ((u64.wrap (us.getD (Int.toNat (i64.wrap (j+n))) 0))*2^(min (Int.toNat 32) (IntKind.bits .u64)))) ||| BitVec.ofInt (IntKind.bits .u64) (u64.wrap (us.getD (Int.toNat (i64.wrap ((i64.wrap (j+n))-1))) 0))).toNat)) (u64.wrap (vs.getD (Int.toNat (i64.wrap (n-1))) 0)))) (.exit 6) (V5 k us vs n kq qs s j g r)) (hl7:Za Yir (.loop Za9) (At k us vs n kq qs s j g 0 0 0) (.exit 8) (At k us1 vs n kq qs s j g b c n)) (n8:us1.length=k) (hl9:Za Yir (.loop Zfo) (M8 k (us1.set (Int.toNat (i64.wrap (j+n))) (u32.wrap (u64.wrap ((u64.wrap ((u64.wrap (us1.getD (Int.toNat (i64.wrap (j+n))) 0))-c))-b)))) vs n kq qs s j (u64.wrap (g-1)) 0 0) (.exit 10) (M8 k us2 vs n kq qs s j (u64.wrap (g-1)) cc n)) (n10:us2.length=k) (n11:0≤j∧j<(kq:Int)) (n12:qs.length=kq):Za Yir Zmg (Za1 k us vs n kq qs s j) .norm (Za1 k (us2.set (Int.toNat (i64.wrap (j+n))) (u32.wrap ((us2.getD (Int.toNat (i64.wrap (j+n))) 0)+(u32.wrap cc)))) vs n kq (qs.set (Int.toNat j) (u32.wrap (u64.wrap (g-1)))) s (i64.wrap (j-1))):=(Za.seq (Za.go (t:=(dds 4 (.own 1 0 []::(.own 1 0 []::(dds 3 (vi s::(vl vs::(.own 1 k (lm us)::(vi n::(.own 1 kq (lm qs)::(vi j::(dds 292 [])))))))))))) Zf 400 [.b true] [4,5,9,10,11,12,13,14] (ac c1 a0)) (Za.seq (Za.block_norm (Za.seq (Za.go (t:=(dds 4 (.own 1 0 []::(.own 1 0 []::(dds 3 (vi s::(vl vs::(.own 1 k (lm us)::(vi n::(.own 1 kq (lm qs)::(vi j::(.val (.int .u64 (u64.wrap ((BitVec.ofInt (IntKind.bits .u64) (u64.wrap ((u64.wrap (us.getD (Int.toNat (i64.wrap (j+n))) 0))*2^(min (Int.toNat 32) (IntKind.bits .u64)))) ||| BitVec.ofInt (IntKind.bits .u64) (u64.wrap (us.getD (Int.toNat (i64.wrap ((i64.wrap (j+n))-1))) 0))).toNat)))::(dds 291 []))))))))))))) Zf 400 [.v (.int .u32 (us.getD (Int.toNat (i64.wrap (j+n))) 0)), .v (.int .u32 (us.getD (Int.toNat (i64.wrap ((i64.wrap (j+n))-1))) 0))] [4,5,9,10,11,12,13,14,15] (ac n1 (ac (Qs n2 n1) (ac (show ¬ (32:Int)<0 from (by decide)) (ac n3 (ac (Qs n2 n3) a0)))))) (Za.seq (Za.go Zf 400 [.v (.int .u32 (vs.getD (Int.toNat (i64.wrap (n-1))) 0)), .v (.int .u32 (vs.getD (Int.toNat (i64.wrap (n-1))) 0))] [4,5,9,10,11,12,13,14,16,17] (ac n4 (ac (Z2 n4) (ac n5 (ac n4 (ac (Z2 n4) (ac n5 a0))))))) (Za.seq (Za.block hl6) (Za.seq (Za.go (t:=(dds 4 (.own 1 0 []::(.own 1 0 []::(dds 3 (vi s::(vl vs::(.own 1 k (lm us)::(vi n::(.own 1 kq (lm qs)::(vi j::(dds 1 (.val (.int .u64 g)::(dds 1 (.val (.int .u64 0)::(.val (.int .u64 0)::(dds 287 []))))))))))))))))) Zf 400 [] [4,5,9,10,11,12,13,14,16,18,19] a0) (Za.seq (Za.seq (Za.go Zf 400 [] [4,5,9,10,11,12,13,14,16,18,19,20] a0) (Za.block hl7)) (Za.seq (Za.go (t:=(dds 4 (.own 1 0 []::(.own 1 0 []::(dds 3 (vi s::(vl vs::(.own 1 k (lm us1)::(vi n::(.own 1 kq (lm qs)::(vi j::(dds 1 (.val (.int .u64 g)::(dds 5 (.val (.int .u64 (u64.wrap ((u64.wrap ((u64.wrap (us1.getD (Int.toNat (i64.wrap (j+n))) 0))-c))-b)))::(dds 284 [])))))))))))))))) Zf 400 [.v (.int .u32 (us1.getD (Int.toNat (i64.wrap (j+n))) 0))] [4,5,9,10,11,12,13,14,16,22] (ac n1 (ac (Qs n8 n1) a0))) (Za.seq (Za.go (t:=(dds 4 (.own 1 0 []::(.own 1 0 []::(dds 3 (vi s::(vl vs::(.own 1 k (lm (us1.set (Int.toNat (i64.wrap (j+n))) (u32.wrap (u64.wrap ((u64.wrap ((u64.wrap (us1.getD (Int.toNat (i64.wrap (j+n))) 0))-c))-b)))))::(vi n::(.own 1 kq (lm qs)::(vi j::(dds 1 (.val (.int .u64 g)::(dds 5 (.val (.int .u64 (u64.wrap ((u64.wrap ((u64.wrap (us1.getD (Int.toNat (i64.wrap (j+n))) 0))-c))-b)))::(dds 284 [])))))))))))))))) Zf 400 [.l (lm (us1.set (Int.toNat (i64.wrap (j+n))) (u32.wrap (u64.wrap ((u64.wrap ((u64.wrap (us1.getD (Int.toNat (i64.wrap (j+n))) 0))-c))-b)))))] [4,5,9,10,11,12,13,14,16,22] (ac n1 (ac (show Xp (lm us1) (Int.toNat (i64.wrap (j+n))*1) [.int .u32 (u32.wrap (u64.wrap ((u64.wrap ((u64.wrap (us1.getD (Int.toNat (i64.wrap (j+n))) 0))-c))-b)))]=some (lm (us1.set (Int.toNat (i64.wrap (j+n))) (u32.wrap (u64.wrap ((u64.wrap ((u64.wrap (us1.getD (Int.toNat (i64.wrap (j+n))) 0))-c))-b))))) from (Jf n8 n1)) a0))) (Za.seq (Za.seq (Za.go (t:=(dds 4 (.own 1 0 []::(.own 1 0 []::(dds 3 (vi s::(vl vs::(.own 1 k (lm (us1.set (Int.toNat (i64.wrap (j+n))) (u32.wrap (u64.wrap ((u64.wrap ((u64.wrap (us1.getD (Int.toNat (i64.wrap (j+n))) 0))-c))-b)))))::(vi n::(.own 1 kq (lm qs)::(vi j::(dds 1 (.val (.int .u64 g)::(dds 236 (.val (.bool ((Int.fdiv (u64.wrap ((u64.wrap ((u64.wrap (us1.getD (Int.toNat (i64.wrap (j+n))) 0))-c))-b)) (2^(min (Int.toNat 63) (IntKind.bits .u64)))) != 0))::(dds 53 [])))))))))))))))) Zf 400 [] [4,5,9,10,11,12,13,14,16,253] (ac (show ¬ (63:Int)<0 from (by decide)) a0)) (Za.cond_t (by rfl) c2 (Za.seq (Za.go (t:=(dds 4 (.own 1 0 []::(.own 1 0 []::(dds 3 (vi s::(vl vs::(.own 1 k (lm (us1.set (Int.toNat (i64.wrap (j+n))) (u32.wrap (u64.wrap ((u64.wrap ((u64.wrap (us1.getD (Int.toNat (i64.wrap (j+n))) 0))-c))-b)))))::(vi n::(.own 1 kq (lm qs)::(vi j::(dds 1 (.val (.int .u64 (u64.wrap (g-1)))::(dds 290 [])))))))))))))) Zf 400 [] [4,5,9,10,11,12,13,14,16] a0) (Za.seq (Za.go (t:=(dds 4 (.own 1 0 []::(.own 1 0 []::(dds 3 (vi s::(vl vs::(.own 1 k (lm (us1.set (Int.toNat (i64.wrap (j+n))) (u32.wrap (u64.wrap ((u64.wrap ((u64.wrap (us1.getD (Int.toNat (i64.wrap (j+n))) 0))-c))-b)))))::(vi n::(.own 1 kq (lm qs)::(vi j::(dds 1 (.val (.int .u64 (u64.wrap (g-1)))::(dds 6 (.val (.int .u64 0)::(dds 283 [])))))))))))))))) Zf 400 [] [4,5,9,10,11,12,13,14,16,23] a0) (Za.seq (Za.seq (Za.go Zf 400 [] [4,5,9,10,11,12,13,14,16,23,24] a0) (Za.block hl9)) (Za.go (t:=(dds 4 (.own 1 0 []::(.own 1 0 []::(dds 3 (vi s::(vl vs::(.own 1 k (lm (us2.set (Int.toNat (i64.wrap (j+n))) (u32.wrap ((us2.getD (Int.toNat (i64.wrap (j+n))) 0)+(u32.wrap cc)))))::(vi n::(.own 1 kq (lm qs)::(vi j::(dds 1 (.val (.int .u64 (u64.wrap (g-1)))::(dds 290 [])))))))))))))) Zf 400 [.v (.int .u32 (us2.getD (Int.toNat (i64.wrap (j+n))) 0)), .l (lm (us2.set (Int.toNat (i64.wrap (j+n))) (u32.wrap ((us2.getD (Int.toNat (i64.wrap (j+n))) 0)+(u32.wrap cc)))))] [4,5,9,10,11,12,13,14,16] (ac n1 (ac (Qs n10 n1) (ac n1 (ac (show Xp (lm us2) (Int.toNat (i64.wrap (j+n))*1) [.int .u32 (u32.wrap ((us2.getD (Int.toNat (i64.wrap (j+n))) 0)+(u32.wrap cc)))]=some (lm (us2.set (Int.toNat (i64.wrap (j+n))) (u32.wrap ((us2.getD (Int.toNat (i64.wrap (j+n))) 0)+(u32.wrap cc))))) from (Jf n10 n1)) a0)))))))))) (Za.go (t:=(dds 4 (.own 1 0 []::(.own 1 0 []::(dds 3 (vi s::(vl vs::(.own 1 k (lm (us2.set (Int.toNat (i64.wrap (j+n))) (u32.wrap ((us2.getD (Int.toNat (i64.wrap (j+n))) 0)+(u32.wrap cc)))))::(vi n::(.own 1 kq (lm (qs.set (Int.toNat j) (u32.wrap (u64.wrap (g-1)))))::(vi j::(dds 292 [])))))))))))) Zf 400 [.l (lm (qs.set (Int.toNat j) (u32.wrap (u64.wrap (g-1)))))] [4,5,9,10,11,12,13,14] (ac n11 (ac (show Xp (lm qs) (Int.toNat j*1) [.int .u32 (u32.wrap (u64.wrap (g-1)))]=some (lm (qs.set (Int.toNat j) (u32.wrap (u64.wrap (g-1))))) from (Jf n12 n11)) a0)))))))))))) (Za.go Zf 400 [] [4,5,9,10,11,12,13,14] a0)))
theorem Yk93_2 (k:Nat) (us:List Int) (vs:List Int) (n:Int) (kq:Nat) (qs:List Int) (s:Int) (j:Int) (us1:List Int) (g r b c:Int) (c1:(decide (j≥0))=true) (c2:((Int.fdiv (u64.wrap ((u64.wrap ((u64.wrap (us1.getD (Int.toNat (i64.wrap (j+n))) 0))-c))-b)) (2^(min (Int.toNat 63) (IntKind.bits .u64)))) != 0)=false) (n1:0≤(i64.wrap (j+n))∧(i64.wrap (j+n))<(k:Int)) (n2:us.length=k) (n3:0≤(i64.wrap ((i64.wrap (j+n))-1))∧(i64.wrap ((i64.wrap (j+n))-1))<(k:Int)) (n4:0≤(i64.wrap (n-1))∧(i64.wrap (n-1))<(vs.length:Int)) (n5:¬ (u64.wrap (vs.getD (Int.toNat (i64.wrap (n-1))) 0))=0) (hl6:Za Yir (.loop Di) (V5 k us vs n kq qs s j (u64.wrap (Int.tdiv (u64.wrap ((BitVec.ofInt (IntKind.bits .u64) (u64.wrap ((u64.wrap (us.getD (Int.toNat (i64.wrap (j+n))) 0))*2^(min (Int.toNat 32) (IntKind.bits .u64)))) ||| BitVec.ofInt (IntKind.bits .u64) (u64.wrap (us.getD (Int.toNat (i64.wrap ((i64.wrap (j+n))-1))) 0))).toNat)) (u64.wrap (vs.getD (Int.toNat (i64.wrap (n-1))) 0)))) (Int.tmod (u64.wrap ((BitVec.ofInt (IntKind.bits .u64) (u64.wrap ((u64.wrap (us.getD (Int.toNat (i64.wrap (j+n))) 0))*2^(min (Int.toNat 32) (IntKind.bits .u64)))) ||| BitVec.ofInt (IntKind.bits .u64) (u64.wrap (us.getD (Int.toNat (i64.wrap ((i64.wrap (j+n))-1))) 0))).toNat)) (u64.wrap (vs.getD (Int.toNat (i64.wrap (n-1))) 0)))) (.exit 6) (V5 k us vs n kq qs s j g r)) (hl7:Za Yir (.loop Za9) (At k us vs n kq qs s j g 0 0 0) (.exit 8) (At k us1 vs n kq qs s j g b c n)) (n8:us1.length=k) (n9:0≤j∧j<(kq:Int)) (n10:qs.length=kq):Za Yir Zmg (Za1 k us vs n kq qs s j) .norm (Za1 k (us1.set (Int.toNat (i64.wrap (j+n))) (u32.wrap (u64.wrap ((u64.wrap ((u64.wrap (us1.getD (Int.toNat (i64.wrap (j+n))) 0))-c))-b)))) vs n kq (qs.set (Int.toNat j) (u32.wrap g)) s (i64.wrap (j-1))):=(Za.seq (Za.go (t:=(dds 4 (.own 1 0 []::(.own 1 0 []::(dds 3 (vi s::(vl vs::(.own 1 k (lm us)::(vi n::(.own 1 kq (lm qs)::(vi j::(dds 292 [])))))))))))) Zf 400 [.b true] [4,5,9,10,11,12,13,14] (ac c1 a0)) (Za.seq (Za.block_norm (Za.seq (Za.go (t:=(dds 4 (.own 1 0 []::(.own 1 0 []::(dds 3 (vi s::(vl vs::(.own 1 k (lm us)::(vi n::(.own 1 kq (lm qs)::(vi j::(.val (.int .u64 (u64.wrap ((BitVec.ofInt (IntKind.bits .u64) (u64.wrap ((u64.wrap (us.getD (Int.toNat (i64.wrap (j+n))) 0))*2^(min (Int.toNat 32) (IntKind.bits .u64)))) ||| BitVec.ofInt (IntKind.bits .u64) (u64.wrap (us.getD (Int.toNat (i64.wrap ((i64.wrap (j+n))-1))) 0))).toNat)))::(dds 291 []))))))))))))) Zf 400 [.v (.int .u32 (us.getD (Int.toNat (i64.wrap (j+n))) 0)), .v (.int .u32 (us.getD (Int.toNat (i64.wrap ((i64.wrap (j+n))-1))) 0))] [4,5,9,10,11,12,13,14,15] (ac n1 (ac (Qs n2 n1) (ac (show ¬ (32:Int)<0 from (by decide)) (ac n3 (ac (Qs n2 n3) a0)))))) (Za.seq (Za.go Zf 400 [.v (.int .u32 (vs.getD (Int.toNat (i64.wrap (n-1))) 0)), .v (.int .u32 (vs.getD (Int.toNat (i64.wrap (n-1))) 0))] [4,5,9,10,11,12,13,14,16,17] (ac n4 (ac (Z2 n4) (ac n5 (ac n4 (ac (Z2 n4) (ac n5 a0))))))) (Za.seq (Za.block hl6) (Za.seq (Za.go (t:=(dds 4 (.own 1 0 []::(.own 1 0 []::(dds 3 (vi s::(vl vs::(.own 1 k (lm us)::(vi n::(.own 1 kq (lm qs)::(vi j::(dds 1 (.val (.int .u64 g)::(dds 1 (.val (.int .u64 0)::(.val (.int .u64 0)::(dds 287 []))))))))))))))))) Zf 400 [] [4,5,9,10,11,12,13,14,16,18,19] a0) (Za.seq (Za.seq (Za.go Zf 400 [] [4,5,9,10,11,12,13,14,16,18,19,20] a0) (Za.block hl7)) (Za.seq (Za.go (t:=(dds 4 (.own 1 0 []::(.own 1 0 []::(dds 3 (vi s::(vl vs::(.own 1 k (lm us1)::(vi n::(.own 1 kq (lm qs)::(vi j::(dds 1 (.val (.int .u64 g)::(dds 5 (.val (.int .u64 (u64.wrap ((u64.wrap ((u64.wrap (us1.getD (Int.toNat (i64.wrap (j+n))) 0))-c))-b)))::(dds 284 [])))))))))))))))) Zf 400 [.v (.int .u32 (us1.getD (Int.toNat (i64.wrap (j+n))) 0))] [4,5,9,10,11,12,13,14,16,22] (ac n1 (ac (Qs n8 n1) a0))) (Za.seq (Za.go (t:=(dds 4 (.own 1 0 []::(.own 1 0 []::(dds 3 (vi s::(vl vs::(.own 1 k (lm (us1.set (Int.toNat (i64.wrap (j+n))) (u32.wrap (u64.wrap ((u64.wrap ((u64.wrap (us1.getD (Int.toNat (i64.wrap (j+n))) 0))-c))-b)))))::(vi n::(.own 1 kq (lm qs)::(vi j::(dds 1 (.val (.int .u64 g)::(dds 5 (.val (.int .u64 (u64.wrap ((u64.wrap ((u64.wrap (us1.getD (Int.toNat (i64.wrap (j+n))) 0))-c))-b)))::(dds 284 [])))))))))))))))) Zf 400 [.l (lm (us1.set (Int.toNat (i64.wrap (j+n))) (u32.wrap (u64.wrap ((u64.wrap ((u64.wrap (us1.getD (Int.toNat (i64.wrap (j+n))) 0))-c))-b)))))] [4,5,9,10,11,12,13,14,16,22] (ac n1 (ac (show Xp (lm us1) (Int.toNat (i64.wrap (j+n))*1) [.int .u32 (u32.wrap (u64.wrap ((u64.wrap ((u64.wrap (us1.getD (Int.toNat (i64.wrap (j+n))) 0))-c))-b)))]=some (lm (us1.set (Int.toNat (i64.wrap (j+n))) (u32.wrap (u64.wrap ((u64.wrap ((u64.wrap (us1.getD (Int.toNat (i64.wrap (j+n))) 0))-c))-b))))) from (Jf n8 n1)) a0))) (Za.seq (Za.seq (Za.go (t:=(dds 4 (.own 1 0 []::(.own 1 0 []::(dds 3 (vi s::(vl vs::(.own 1 k (lm (us1.set (Int.toNat (i64.wrap (j+n))) (u32.wrap (u64.wrap ((u64.wrap ((u64.wrap (us1.getD (Int.toNat (i64.wrap (j+n))) 0))-c))-b)))))::(vi n::(.own 1 kq (lm qs)::(vi j::(dds 1 (.val (.int .u64 g)::(dds 236 (.val (.bool ((Int.fdiv (u64.wrap ((u64.wrap ((u64.wrap (us1.getD (Int.toNat (i64.wrap (j+n))) 0))-c))-b)) (2^(min (Int.toNat 63) (IntKind.bits .u64)))) != 0))::(dds 53 [])))))))))))))))) Zf 400 [] [4,5,9,10,11,12,13,14,16,253] (ac (show ¬ (63:Int)<0 from (by decide)) a0)) (Za.cond_f (by rfl) c2 (Za.go (t:=(dds 4 (.own 1 0 []::(.own 1 0 []::(dds 3 (vi s::(vl vs::(.own 1 k (lm (us1.set (Int.toNat (i64.wrap (j+n))) (u32.wrap (u64.wrap ((u64.wrap ((u64.wrap (us1.getD (Int.toNat (i64.wrap (j+n))) 0))-c))-b)))))::(vi n::(.own 1 kq (lm qs)::(vi j::(dds 1 (.val (.int .u64 g)::(dds 290 [])))))))))))))) Zf 400 [] [4,5,9,10,11,12,13,14,16] a0))) (Za.go (t:=(dds 4 (.own 1 0 []::(.own 1 0 []::(dds 3 (vi s::(vl vs::(.own 1 k (lm (us1.set (Int.toNat (i64.wrap (j+n))) (u32.wrap (u64.wrap ((u64.wrap ((u64.wrap (us1.getD (Int.toNat (i64.wrap (j+n))) 0))-c))-b)))))::(vi n::(.own 1 kq (lm (qs.set (Int.toNat j) (u32.wrap g)))::(vi j::(dds 292 [])))))))))))) Zf 400 [.l (lm (qs.set (Int.toNat j) (u32.wrap g)))] [4,5,9,10,11,12,13,14] (ac n9 (ac (show Xp (lm qs) (Int.toNat j*1) [.int .u32 (u32.wrap g)]=some (lm (qs.set (Int.toNat j) (u32.wrap g))) from (Jf n10 n9)) a0)))))))))))) (Za.go Zf 400 [] [4,5,9,10,11,12,13,14] a0)))
theorem Yk93_3 (k:Nat) (us:List Int) (vs:List Int) (n:Int) (kq:Nat) (qs:List Int) (s:Int) (j:Int)  (c1:(decide (j≥0))=false):Za Yir Zmg (Za1 k us vs n kq qs s j) (.exit 4) (Za1 k us vs n kq qs s j):=(Za.seq_out (Za.go Zf 400 [.b false] [4,5,9,10,11,12,13,14] (ac c1 a0)) (by intro e;cases e))
theorem Zhz (xs ys:List Int) (cm:Int) (c1:(decide (cm<0))=true) (n1:Ze Yir 96 [.sl xs.length (lm xs), .sl ys.length (lm ys)] (.int .i64 cm)):Ze Yir 93 [.sl xs.length (lm xs), .sl ys.length (lm ys)] (.tup [.sl 0 [], .sl xs.length (lm xs)]):=Ze.of_bodyW (fn:=Zqi) (s:=(dds 1 (.val (.sl ys.length (lm ys))::(dds 2 (.own 1 0 []::(.val (.sl xs.length (lm xs))::(dds 301 []))))))) (ex := .ret) rfl rfl (Za.seq (Za.go (t:=(vl xs::(vl ys::(dds 2 (.own 1 0 []::(.own 1 0 []::(dds 301 []))))))) Zf 400 [] [0,1,4,5] a0) (Za.seq_out (Za.go Zf 400 [.r (.int .i64 cm), .b true] [1,4,5] (ac n1 (ac c1 a0))) (by intro e;cases e))) (by intro i e;cases e) rfl
theorem Zhy (xs ys qs:List Int) (cm r i:Int) (k:Nat) (c1:(decide (cm<0))=false) (c2:((ys.length:Int)==1)=true) (n1:Ze Yir 96 [.sl xs.length (lm xs), .sl ys.length (lm ys)] (.int .i64 cm)) (n2:0≤(xs.length:Int)∧(xs.length:Int)≤1048576) (hl3:Za Yir (.loop Zfn) ((.val (.sl xs.length (lm xs))::(.val (.sl ys.length (lm ys))::(dds 2 (.own 1 0 []::(.own 1 0 []::(.own 1 (Int.toNat (xs.length:Int)) (Q5 [.int .u32 0] (Int.toNat (xs.length:Int)))::(.val (.int .u64 0)::(.val (.int .i64 (i64.wrap ((xs.length:Int)-1)))::(dds 298 [])))))))))) (.exit 0) (Rb xs ys k qs r i)) (n4:Ze Yir 57 [.sl k (lm qs)] (.fresh 1 ((Zd qs).length) (lm (Zd qs)))) (n5:Ze Yir 57 [.sl 1 [.int .u32 (u32.wrap r)]] (.fresh 1 ((Zd [u32.wrap r]).length) (lm (Zd [u32.wrap r])))):Ze Yir 93 [.sl xs.length (lm xs), .sl ys.length (lm ys)] (.tup [.sl ((Zd qs).length) (lm (Zd qs)), .sl ((Zd [u32.wrap r]).length) (lm (Zd [u32.wrap r]))]):=Ze.of_bodyW (fn:=Zqi) (s:=(dds 1 (.val (.sl ys.length (lm ys))::(dds 2 (.own 1 ((Zd qs).length) (lm (Zd qs))::(.own 1 ((Zd [u32.wrap r]).length) (lm (Zd [u32.wrap r]))::(dds 301 []))))))) (ex := .ret) rfl rfl (Za.seq (Za.go (t:=(vl xs::(vl ys::(dds 2 (.own 1 0 []::(.own 1 0 []::(dds 301 []))))))) Zf 400 [] [0,1,4,5] a0) (Za.seq (Za.go (t:=(vl xs::(vl ys::(dds 2 (.own 1 0 []::(.own 1 0 []::(dds 301 []))))))) Zf 400 [.r (.int .i64 cm), .b false] [0,1,4,5] (ac n1 (ac c1 a0))) (Za.seq_out (Za.seq (Za.go (t:=(vl xs::(vl ys::(dds 2 (.own 1 0 []::(.own 1 0 []::(dds 26 (.val (.bool ((ys.length:Int)==1))::(dds 274 []))))))))) Zf 400 [] [0,1,4,5,32] a0) (Za.cond_t (by rfl) c2 (Za.seq (Za.go (t:=(vl xs::(vl ys::(dds 2 (.own 1 0 []::(.own 1 0 []::(.own 1 (Int.toNat (xs.length:Int)) (Q5 [.int .u32 0] (Int.toNat (xs.length:Int)))::(dds 25 (.val (.bool ((ys.length:Int)==1))::(dds 274 [])))))))))) Zf 400 [] [0,1,4,5,6,32] (ac n2 a0)) (Za.seq (Za.go (t:=(vl xs::(vl ys::(dds 2 (.own 1 0 []::(.own 1 0 []::(.own 1 (Int.toNat (xs.length:Int)) (Q5 [.int .u32 0] (Int.toNat (xs.length:Int)))::(.val (.int .u64 0)::(dds 24 (.val (.bool ((ys.length:Int)==1))::(dds 274 []))))))))))) Zf 400 [] [0,1,4,5,6,7,32] a0) (Za.seq (Za.seq (Za.go Zf 400 [] [0,1,4,5,6,7,8] a0) (Za.block hl3)) (Za.go Zf 400 [.r (.fresh 1 ((Zd qs).length) (lm (Zd qs))), .r (.fresh 1 ((Zd [u32.wrap r]).length) (lm (Zd [u32.wrap r])))] [1,4,5] (ac n4 (ac n5 a0)))))))) (by intro e;cases e)))) (by intro i e;cases e) rfl
theorem Zhx (xs ys qs us vs:List Int) (cm s n j U V w:Int) (k kq:Nat) (c1:(decide (cm<0))=false) (c2:((ys.length:Int)==1)=false) (n1:Ze Yir 96 [.sl xs.length (lm xs), .sl ys.length (lm ys)] (.int .i64 cm)) (hl2:Za Yir (.loop Zfm) (M7 xs ys 0) (.exit 2) (M7 xs ys s)) (n3:Ze Yir 82 [.agg [.bool false, .sl ys.length (lm ys)], .int .i64 s] (U9 V)) (n4:((Zb (Int.natAbs U)).length)+2≤1048576) (n5:Ze Yir 82 [.agg [.bool false, .sl xs.length (lm xs)], .int .i64 s] (U9 U)) (n6:0≤(if (i64.wrap ((ys.length:Int)+1))>(i64.wrap ((xs.length:Int)+1)) then (i64.wrap ((ys.length:Int)+1)) else (i64.wrap ((xs.length:Int)+1)))∧(if (i64.wrap ((ys.length:Int)+1))>(i64.wrap ((xs.length:Int)+1)) then (i64.wrap ((ys.length:Int)+1)) else (i64.wrap ((xs.length:Int)+1)))≤(((((Zb (Int.natAbs U)).length)+2):Nat):Int)) (n7:0≤(i64.wrap ((((Int.toNat (if (i64.wrap ((ys.length:Int)+1))>(i64.wrap ((xs.length:Int)+1)) then (i64.wrap ((ys.length:Int)+1)) else (i64.wrap ((xs.length:Int)+1)))):Nat):Int)-(((Zb (Int.natAbs V)).length:Nat):Int)))∧(i64.wrap ((((Int.toNat (if (i64.wrap ((ys.length:Int)+1))>(i64.wrap ((xs.length:Int)+1)) then (i64.wrap ((ys.length:Int)+1)) else (i64.wrap ((xs.length:Int)+1)))):Nat):Int)-(((Zb (Int.natAbs V)).length:Nat):Int)))≤1048576) (hl8:Za Yir (.loop Zmg) ((dds 4 (.own 1 0 []::(.own 1 0 []::(dds 3 (.val (.int .i64 s)::(.val (.sl ((Zb (Int.natAbs V)).length) (lm (Zb (Int.natAbs V))))::(.own 1 (Int.toNat (if (i64.wrap ((ys.length:Int)+1))>(i64.wrap ((xs.length:Int)+1)) then (i64.wrap ((ys.length:Int)+1)) else (i64.wrap ((xs.length:Int)+1)))) (List.take (Int.toNat (if (i64.wrap ((ys.length:Int)+1))>(i64.wrap ((xs.length:Int)+1)) then (i64.wrap ((ys.length:Int)+1)) else (i64.wrap ((xs.length:Int)+1)))*1) ((lm (Zb (Int.natAbs U)))++([.int .u32 0, .int .u32 0]:List AV)))::(.val (.int .i64 (((Zb (Int.natAbs V)).length:Nat):Int))::(.own 1 (Int.toNat (i64.wrap ((((Int.toNat (if (i64.wrap ((ys.length:Int)+1))>(i64.wrap ((xs.length:Int)+1)) then (i64.wrap ((ys.length:Int)+1)) else (i64.wrap ((xs.length:Int)+1)))):Nat):Int)-(((Zb (Int.natAbs V)).length:Nat):Int)))) (Q5 [.int .u32 0] (Int.toNat (i64.wrap ((((Int.toNat (if (i64.wrap ((ys.length:Int)+1))>(i64.wrap ((xs.length:Int)+1)) then (i64.wrap ((ys.length:Int)+1)) else (i64.wrap ((xs.length:Int)+1)))):Nat):Int)-(((Zb (Int.natAbs V)).length:Nat):Int)))))::(.val (.int .i64 (i64.wrap ((i64.wrap ((((Int.toNat (if (i64.wrap ((ys.length:Int)+1))>(i64.wrap ((xs.length:Int)+1)) then (i64.wrap ((ys.length:Int)+1)) else (i64.wrap ((xs.length:Int)+1)))):Nat):Int)-(((Zb (Int.natAbs V)).length:Nat):Int)))-1)))::(dds 292 [])))))))))))) (.exit 4) (Za1 k us vs n kq qs s j)) (n9:Ze Yir 57 [.sl kq (lm qs)] (.fresh 1 ((Zd qs).length) (lm (Zd qs)))) (n10:Ze Yir 104 [.agg [.bool false, .sl k (lm us)], .int .i64 s] (Zn w)):Ze Yir 93 [.sl xs.length (lm xs), .sl ys.length (lm ys)] (.tup [.sl ((Zd qs).length) (lm (Zd qs)), .sl ((Zb (Int.natAbs w)).length) (lm (Zb (Int.natAbs w)))]):=Ze.of_bodyW (fn:=Zqi) (s:=(dds 4 (.own 1 ((Zd qs).length) (lm (Zd qs))::(.val (.sl ((Zb (Int.natAbs w)).length) (lm (Zb (Int.natAbs w))))::(dds 301 []))))) (ex := .ret) rfl rfl (Za.seq (Za.go (t:=(vl xs::(vl ys::(dds 2 (.own 1 0 []::(.own 1 0 []::(dds 301 []))))))) Zf 400 [] [0,1,4,5] a0) (Za.seq (Za.go (t:=(vl xs::(vl ys::(dds 2 (.own 1 0 []::(.own 1 0 []::(dds 301 []))))))) Zf 400 [.r (.int .i64 cm), .b false] [0,1,4,5] (ac n1 (ac c1 a0))) (Za.seq (Za.seq (Za.go (t:=(vl xs::(vl ys::(dds 2 (.own 1 0 []::(.own 1 0 []::(dds 26 (.val (.bool ((ys.length:Int)==1))::(dds 274 []))))))))) Zf 400 [] [0,1,4,5,32] a0) (Za.cond_f (by rfl) c2 (Za.go (t:=(vl xs::(vl ys::(dds 2 (.own 1 0 []::(.own 1 0 []::(dds 26 (.val (.bool ((ys.length:Int)==1))::(dds 274 []))))))))) Zf 400 [] [0,1,4,5,32] a0))) (Za.seq (Za.go Zf 400 [] [0,1,4,5,9] a0) (Za.seq (Za.block hl2) (Za.seq (Za.go (t:=(vl xs::(vl ys::(dds 2 (.own 1 0 []::(.own 1 0 []::(dds 3 (vi s::(.val (.sl ((Zb (Int.natAbs V)).length) (lm (Zb (Int.natAbs V))))::(dds 296 [])))))))))) Zf 400 [.r (U9 V)] [0,1,4,5,9,10] (ac n3 a0)) (Za.seq (Za.go (t:=(vl xs::(vl ys::(dds 2 (.own 1 0 []::(.own 1 0 []::(dds 3 (vi s::(.val (.sl ((Zb (Int.natAbs V)).length) (lm (Zb (Int.natAbs V))))::(.own 1 (((Zb (Int.natAbs U)).length)+2) ((lm (Zb (Int.natAbs U)))++([.int .u32 0, .int .u32 0]:List AV))::(dds 295 []))))))))))) Zf 400 [.r (U9 U)] [0,1,4,5,9,10,11] (ac n5 (ac (show List.length ([.int .u32 0, .int .u32 0]:List AV)=2*1 from rfl) (ac n4 a0)))) (Za.seq (Za.go (t:=(vl xs::(vl ys::(dds 2 (.own 1 0 []::(.own 1 0 []::(dds 3 (vi s::(.val (.sl ((Zb (Int.natAbs V)).length) (lm (Zb (Int.natAbs V))))::(.own 1 (Int.toNat (if (i64.wrap ((ys.length:Int)+1))>(i64.wrap ((xs.length:Int)+1)) then (i64.wrap ((ys.length:Int)+1)) else (i64.wrap ((xs.length:Int)+1)))) (List.take (Int.toNat (if (i64.wrap ((ys.length:Int)+1))>(i64.wrap ((xs.length:Int)+1)) then (i64.wrap ((ys.length:Int)+1)) else (i64.wrap ((xs.length:Int)+1)))*1) ((lm (Zb (Int.natAbs U)))++([.int .u32 0, .int .u32 0]:List AV)))::(dds 92 (vi (i64.wrap ((ys.length:Int)+1))::(dds 202 []))))))))))))) Zf 400 [] [0,1,4,5,9,10,11,104] (ac n6 a0)) (Za.seq (Za.go (t:=(vl xs::(vl ys::(dds 2 (.own 1 0 []::(.own 1 0 []::(dds 3 (vi s::(.val (.sl ((Zb (Int.natAbs V)).length) (lm (Zb (Int.natAbs V))))::(.own 1 (Int.toNat (if (i64.wrap ((ys.length:Int)+1))>(i64.wrap ((xs.length:Int)+1)) then (i64.wrap ((ys.length:Int)+1)) else (i64.wrap ((xs.length:Int)+1)))) (List.take (Int.toNat (if (i64.wrap ((ys.length:Int)+1))>(i64.wrap ((xs.length:Int)+1)) then (i64.wrap ((ys.length:Int)+1)) else (i64.wrap ((xs.length:Int)+1)))*1) ((lm (Zb (Int.natAbs U)))++([.int .u32 0, .int .u32 0]:List AV)))::(vi (((Zb (Int.natAbs V)).length:Nat):Int)::(dds 91 (vi (i64.wrap ((ys.length:Int)+1))::(dds 202 [])))))))))))))) Zf 400 [] [0,1,4,5,9,10,11,12,104] a0) (Za.seq (Za.go (t:=(vl xs::(vl ys::(dds 2 (.own 1 0 []::(.own 1 0 []::(dds 3 (vi s::(.val (.sl ((Zb (Int.natAbs V)).length) (lm (Zb (Int.natAbs V))))::(.own 1 (Int.toNat (if (i64.wrap ((ys.length:Int)+1))>(i64.wrap ((xs.length:Int)+1)) then (i64.wrap ((ys.length:Int)+1)) else (i64.wrap ((xs.length:Int)+1)))) (List.take (Int.toNat (if (i64.wrap ((ys.length:Int)+1))>(i64.wrap ((xs.length:Int)+1)) then (i64.wrap ((ys.length:Int)+1)) else (i64.wrap ((xs.length:Int)+1)))*1) ((lm (Zb (Int.natAbs U)))++([.int .u32 0, .int .u32 0]:List AV)))::(vi (((Zb (Int.natAbs V)).length:Nat):Int)::(.own 1 (Int.toNat (i64.wrap ((((Int.toNat (if (i64.wrap ((ys.length:Int)+1))>(i64.wrap ((xs.length:Int)+1)) then (i64.wrap ((ys.length:Int)+1)) else (i64.wrap ((xs.length:Int)+1)))):Nat):Int)-(((Zb (Int.natAbs V)).length:Nat):Int)))) (Q5 [.int .u32 0] (Int.toNat (i64.wrap ((((Int.toNat (if (i64.wrap ((ys.length:Int)+1))>(i64.wrap ((xs.length:Int)+1)) then (i64.wrap ((ys.length:Int)+1)) else (i64.wrap ((xs.length:Int)+1)))):Nat):Int)-(((Zb (Int.natAbs V)).length:Nat):Int)))))::(dds 90 (vi (i64.wrap ((ys.length:Int)+1))::(dds 202 []))))))))))))))) Zf 400 [] [0,1,4,5,9,10,11,12,13,104] (ac n7 a0)) (Za.seq (Za.seq (Za.go Zf 400 [] [4,5,9,10,11,12,13,14] a0) (Za.block hl8)) (Za.go Zf 400 [.r (.fresh 1 ((Zd qs).length) (lm (Zd qs))), .r (Zn w)] [4,5] (ac n9 (ac n10 a0)))))))))))))) (by intro i e;cases e) rfl
def TDA:J6:=TBE
theorem Zf2:Q9 Yir TDA:=Zf
end Go.Proofs.YthnnfemologhfaaGreat

namespace Go.Proofs.YthnnfemologhfaaGreat
open Go.IntKind (i64 u64 u32)
open Go.Ai
set_option maxRecDepth 100000
theorem and64 {p:Int} {s:Nat} (hp:0≤p∧p<18446744073709551616) (hs:s≤63):u64.wrap ((BitVec.ofInt (IntKind.bits .u64) p &&& BitVec.ofInt (IntKind.bits .u64) (2^s-1)).toNat)=p % 2^s:=by
 obtain⟨m,rfl⟩:=Int.eq_ofNat_of_zero_le hp.1
 have hb:(IntKind.bits .u64)=64:=rfl
 have e1:(BitVec.ofInt 64 (m:Int)).toNat=m:=Xm 64 m (by omega)
 have h2:2^s≤2^63:=Nat.pow_le_pow_right (by decide) hs
 have h3:0<2^s:=Nat.pow_pos (by decide)
 have ec:((2:Int)^s-1)=((2^s-1:Nat):Int):=by
  have:((2^s:Nat):Int)=(2:Int)^s:=by simp
  omega
 have e2:(BitVec.ofInt 64 ((2^s-1:Nat):Int)).toNat=2^s-1:=Xm 64 (2^s-1) (by omega)
 rw[hb,BitVec.toNat_and,e1,ec,e2,Nat.and_two_pow_sub_one_eq_mod,Qx]
 have h4:m % 2^s<2^s:=Nat.mod_lt _ h3
 have e3:((m % 2^s:Nat):Int)=(m:Int) % 2^s:=by simp
 rw[← e3]
 omega
theorem and32 {p:Int} {s:Nat} (hp:0≤p∧p<4294967296) (hs:s≤31):u32.wrap ((BitVec.ofInt (IntKind.bits .u32) p &&& BitVec.ofInt (IntKind.bits .u32) (2^s-1)).toNat)=p % 2^s:=by
 obtain⟨m,rfl⟩:=Int.eq_ofNat_of_zero_le hp.1
 have hb:(IntKind.bits .u32)=32:=rfl
 have e1:(BitVec.ofInt 32 (m:Int)).toNat=m:=Xm 32 m (by omega)
 have h2:2^s≤2^31:=Nat.pow_le_pow_right (by decide) hs
 have h3:0<2^s:=Nat.pow_pos (by decide)
 have ec:((2:Int)^s-1)=((2^s-1:Nat):Int):=by
  have:((2^s:Nat):Int)=(2:Int)^s:=by simp
  omega
 have e2:(BitVec.ofInt 32 ((2^s-1:Nat):Int)).toNat=2^s-1:=Xm 32 (2^s-1) (by omega)
 rw[hb,BitVec.toNat_and,e1,ec,e2,Nat.and_two_pow_sub_one_eq_mod,Wv]
 have h4:m % 2^s<2^s:=Nat.mod_lt _ h3
 have e3:((m % 2^s:Nat):Int)=(m:Int) % 2^s:=by simp
 rw[← e3]
 omega
theorem bit31 {p:Int} (hp:0≤p∧p<4294967296):(u32.wrap ((BitVec.ofInt (IntKind.bits .u32) p &&& BitVec.ofInt (IntKind.bits .u32) 2147483648).toNat)==0)=decide (p<2147483648):=by
 obtain⟨m,rfl⟩:=Int.eq_ofNat_of_zero_le hp.1
 have hb:(IntKind.bits .u32)=32:=rfl
 have e1:(BitVec.ofInt 32 (m:Int)).toNat=m:=Xm 32 m (by omega)
 have e2:(BitVec.ofInt 32 2147483648).toNat=2147483648:=Xm 32 2147483648 (by decide)
 rw[hb,BitVec.toNat_and,e1,e2,Wv]
 have hlt:m &&& 2147483648≤2147483648:=Nat.and_le_right
 have key:(m &&& 2147483648=0)↔m<2147483648:=by
  constructor
  ·intro h
   have hm:m<2^32:=by omega
   have hb31:(m &&& 2^31).testBit 31=false:=by
    have:(m &&& 2^31)=0:=h
    rw[this];rfl
   rw[Nat.testBit_and] at hb31
   have:(2^31:Nat).testBit 31=true:=by decide
   rw[this,Bool.and_true] at hb31
   refine Nat.lt_pow_two_of_testBit m (n:=31) fun i hi => ?_
   rcases Nat.eq_or_lt_of_le hi with h1 | h1
   ·rw[← h1];exact hb31
   ·exact Nat.testBit_lt_two_pow (Nat.lt_of_lt_of_le hm (Nat.pow_le_pow_right (by decide) (by omega)))
  ·intro h
   apply Nat.eq_of_testBit_eq
   intro i
   rw[Nat.testBit_and,Nat.zero_testBit]
   by_cases hi:i=31
   ·subst hi
    rw[Nat.testBit_lt_two_pow (x:=m) (i:=31) (by omega)];rfl
   ·have:(2147483648:Nat).testBit i=false:=by
     rw[show (2147483648:Nat)=2^31 by decide,Nat.testBit_two_pow]
     simp;omega
    rw[this,Bool.and_false]
 rw[Bool.eq_iff_iff,beq_iff_eq,decide_eq_true_eq]
 constructor
 ·intro h
  have:m &&& 2147483648=0:=by omega
  have:=key.1 this
  omega
 ·intro h
  have:=key.2 (by omega)
  omega
theorem Fr {a b:Int} (ha:(Zb a.natAbs).length<1048576) (hb:(Zb b.natAbs).length<1048576):Ze Yir 78 [Zn a,Zn b] (Zn (a-b)):=by
 have h:=A5 (na:=decide (a<0)) (nb:=decide (b<0)) (Qw a.natAbs) (Qw b.natAbs) ha hb
 rw[Wa,Wa] at h
 exact h
theorem Ew {xs:List Int} (h:U32 xs) {v:Int} (hv:0≤v):(Zj xs+v=0)↔(Zj xs=0∧v=0):=by
 have:=Zz h
 omega
theorem Ze5 {neg:Bool} {xs ms:List Int} {n:Nat} (hu:U32 ms) (hn:(n:Int)≤9223372036854775807) (hN:ms.length≤1048576):∀ (r i:Nat),i+r=min ms.length (n / 32) →
  Za Yir (.loop V3) (Xb neg xs (n:Nat) ms (decide (Zj (ms.take i) ≠ 0)) (i:Nat)) (.exit 0) (Xb neg xs (n:Nat) ms (decide (Zj (ms.take (n / 32)) ≠ 0)) ((min ms.length (n / 32):Nat):Int)):=by
 have e1:i64.wrap (Int.tdiv (n:Int) 32)=((n / 32:Nat):Int):=by
  rw[Int.tdiv_eq_ediv_of_nonneg (by omega),w64 (by omega) (by omega)];omega
 intro r
 induction r with
 | zero =>
  intro i hi
  have hi':i=min ms.length (n / 32):=by omega
  have et:ms.take i=ms.take (n / 32):=by
   rcases Nat.le_total ms.length (n / 32) with h | h
   ·rw[List.take_of_length_le (by omega),List.take_of_length_le h]
   ·rw[hi',Nat.min_eq_right h]
  rw[et,← hi']
  by_cases hl:i<ms.length
  ·exact Za.loop_out (Zkg neg xs _ ms _ _ (by simp;omega) (by rw[e1];simp;omega)) (by intro e;cases e)
  ·exact Za.loop_out (Zkf neg xs _ ms _ _ (by simp;omega)) (by intro e;cases e)
 | succ r ih =>
  intro i hi
  have ei:i64.wrap ((i:Int)+1)=((i+1:Nat):Int):=by rw[w64 (by omega) (by omega)];omega
  have hm:=Zu hu i
  have hp:=Q7 i
  have hts:=Jt ms i (by omega)
  have hz:(Zj (ms.take (i+1))=0)↔(Zj (ms.take i)=0∧ms.getD i 0=0):=by
   have hx:=Ew (Xf hu i) (Int.mul_nonneg (Int.le_of_lt hp) hm.1)
   rw[← hts] at hx
   rw[hx,Int.mul_eq_zero]
   constructor
   ·rintro⟨a,b⟩;exact⟨a,by omega⟩
   ·rintro⟨a,b⟩;exact⟨a, .inr b⟩
  have step:Za Yir V3 (Xb neg xs (n:Nat) ms (decide (Zj (ms.take i) ≠ 0)) (i:Nat)) .norm (Xb neg xs (n:Nat) ms (decide (Zj (ms.take (i+1)) ≠ 0)) ((i+1:Nat):Int)):=by
   by_cases h0:Zj (ms.take i)=0
   ·have k:=Zkh neg xs (n:Nat) ms (decide (Zj (ms.take i) ≠ 0)) (i:Nat) (by simp;omega) (by rw[e1];simp;omega) (by simp[h0]) (by omega)
    rw[ei,Int.toNat_natCast] at k
    have e2:(ms.getD i 0 != 0)=decide (Zj (ms.take (i+1)) ≠ 0):=by
     rw[Bool.eq_iff_iff,bne_iff_ne,decide_eq_true_eq,ne_eq,ne_eq,hz]
     simp[h0]
    rw[e2] at k
    exact k
   ·have k:=Zki neg xs (n:Nat) ms (decide (Zj (ms.take i) ≠ 0)) (i:Nat) (by simp;omega) (by rw[e1];simp;omega) (by simp[h0])
    rw[ei] at k
    have e2:true=decide (Zj (ms.take (i+1)) ≠ 0):=by
     symm
     rw[decide_eq_true_eq,ne_eq,hz]
     exact fun h=>h0 h.1
    rw[← e2]
    exact k
  exact Za.loop step (ih (i+1) (by omega))
theorem Zmp {x y:Int} (hx:0≤x∧x<4294967296) {s:Nat} (hs:s<32):(y*4294967296+x) / 2^s % 4294967296=y % 2^s*2^(32-s)+x / 2^s:=by
 have e:=Zk5 (show s≤32 by omega)
 have hp:=Jd s
 have hp2:=Jd (32-s)
 have h1:(y*4294967296+x) / 2^s=y*2^(32-s)+x / 2^s:=by
  rw[e,← Int.mul_assoc,Int.add_comm,Int.add_mul_ediv_right _ _ (by omega),Int.add_comm]
 have b1:x / 2^s<2^(32-s):=Int.ediv_lt_of_lt_mul hp (by rw[← e];exact hx.2)
 have b0:0≤x / 2^s:=Int.ediv_nonneg hx.1 (by omega)
 have m0:=Int.emod_nonneg y (show (2:Int)^s ≠ 0 by omega)
 have m1:=Int.emod_lt_of_pos y hp
 have hy2:=Int.mul_ediv_add_emod y (2^s)
 rw[h1]
 have e3:y*2^(32-s)+x / 2^s=(y % 2^s*2^(32-s)+x / 2^s)+4294967296*(y / 2^s):=by
  rw[e]
  generalize y % 2^s=a at *
  generalize y / 2^s=b at *
  generalize (2:Int)^(32-s)=T at *
  generalize (2:Int)^s=S at *
  generalize x / S=z at *
  rw[← hy2]
  grind
 rw[e3,Int.add_mul_emod_self_left]
 apply Int.emod_eq_of_lt
 ·have:=Int.mul_nonneg m0 (show (0:Int)≤2^(32-s) by omega)
  omega
 ·have c1:=Int.mul_le_mul_of_nonneg_right (show y % 2^s+1≤2^s by omega) (show (0:Int)≤2^(32-s) by omega)
  rw[Int.add_mul,Int.one_mul,Int.mul_comm (2^s),← e] at c1
  omega
theorem Ze4 {neg lost:Bool} {xs ms:List Int} {sh:Int} {s k:Nat} (hu:U32 ms) (hs:s<32) (hN:ms.length≤1048576) (hk:k≤ms.length):∀ (r i:Nat),i+r=ms.length-k →
  Za Yir (.loop Vf) (J2 neg xs sh ms i (lm ((List.range i).map (Ki (ms.drop k) s))) lost (s:Nat) ((k+i:Nat):Int)) (.exit 2) (J2 neg xs sh ms (ms.length-k) (lm ((List.range (ms.length-k)).map (Ki (ms.drop k) s))) lost (s:Nat) (ms.length:Nat)):=by
 intro r
 induction r with
 | zero =>
  intro i hi
  have hi':i=ms.length-k:=by omega
  subst hi'
  have e0:((k+(ms.length-k):Nat):Int)=(ms.length:Nat):=by omega
  rw[e0]
  exact Za.loop_out (Tv neg xs sh ms _ _ lost _ _ (by simp)) (by intro e;cases e)
 | succ r ih =>
  intro i hi
  have ei:i64.wrap (((k+i:Nat):Int)+1)=((k+(i+1):Nat):Int):=by rw[w64 (by omega) (by omega)];omega
  have hx:=Zu hu (k+i)
  have hy:=Zu hu (k+i+1)
  have gx:(ms.drop k).getD i 0=ms.getD (k+i) 0:=by simp[List.getD_eq_getElem?_getD,List.getElem?_drop]
  have gy:(ms.drop k).getD (i+1) 0=ms.getD (k+i+1) 0:=by simp[List.getD_eq_getElem?_getD,List.getElem?_drop,Nat.add_assoc]
  have em:min (Int.toNat (s:Int)) (IntKind.bits .u64)=s:=by rw[Int.toNat_natCast];show min s 64=s;omega
  have hR:Ki (ms.drop k) s i=(ms.getD (k+i+1) 0*4294967296+ms.getD (k+i) 0) / 2^s % 4294967296:=by
   rw[Zmp hx hs];unfold Ki;rw[gx,gy]
  have hstep:Za Yir Vf (J2 neg xs sh ms i (lm ((List.range i).map (Ki (ms.drop k) s))) lost (s:Nat) ((k+i:Nat):Int)) .norm (J2 neg xs sh ms (i+1) (lm ((List.range (i+1)).map (Ki (ms.drop k) s))) lost (s:Nat) ((k+(i+1):Nat):Int)):=by
   have el:lm ((List.range (i+1)).map (Ki (ms.drop k) s))=lm ((List.range i).map (Ki (ms.drop k) s))++([.int .u32 (Ki (ms.drop k) s i)]:List AV):=by
    rw[List.range_succ,List.map_append,List.map_cons,List.map_nil,W0]
   rw[el,hR]
   by_cases h1:k+i+1<ms.length
   ·have kk:=Zke neg xs sh ms i (lm ((List.range i).map (Ki (ms.drop k) s))) lost (s:Nat) ((k+i:Nat):Int) (by simp;omega) (by rw[ei];simp;omega) (by omega) (by rw[ei];omega) (by omega) (by omega)
    rw[ei,Int.toNat_natCast,Int.toNat_natCast,em] at kk
    have w1:u64.wrap ((BitVec.ofInt (IntKind.bits .u64) (u64.wrap (ms.getD (k+i) 0)) ||| BitVec.ofInt (IntKind.bits .u64) (u64.wrap ((u64.wrap (ms.getD (k+(i+1)) 0))*2^(min (Int.toNat 32) (IntKind.bits .u64))))).toNat)=ms.getD (k+i+1) 0*4294967296+ms.getD (k+i) 0:=by
     rw[BitVec.or_comm,Ug (n:=ms.getD (k+(i+1)) 0) (by rw[← Nat.add_assoc];omega),← Nat.add_assoc]
     exact Nr hy hx
    have hpos:0≤ms.getD (k+i+1) 0*4294967296+ms.getD (k+i) 0:=by omega
    rw[w1,Int.fdiv_eq_ediv_of_nonneg _ (by have:=Jd s;omega),Wv] at kk
    exact kk
   ·have hz:ms.getD (k+i+1) 0=0:=Qt (by omega)
    have kk:=Zkd neg xs sh ms i (lm ((List.range i).map (Ki (ms.drop k) s))) lost (s:Nat) ((k+i:Nat):Int) (by simp;omega) (by rw[ei];simp;omega) (by omega) (by omega) (by omega)
    rw[ei,Int.toNat_natCast,em,Ug (n:=ms.getD (k+i) 0) (by omega),Int.fdiv_eq_ediv_of_nonneg _ (by have:=Jd s;omega),Wv] at kk
    rw[hz,Int.zero_mul,Int.zero_add]
    exact kk
  exact Za.loop hstep (ih (i+1) (by omega))
theorem Zmq {ms:List Int} {s k:Nat} (hs:s<32) (hk:k≤ms.length) :
  Zj ms=4294967296^k*(2^s*Zj ((List.range (ms.length-k)).map (Ki (ms.drop k) s))+ms.getD k 0 % 2^s)+Zj (ms.take k):=by
 have h1:=Jo ms hk
 have h2:=Zb8 (us:=ms.drop k) s hs (ms.length-k) (by simp)
 have g0:(ms.drop k).getD 0 0=ms.getD k 0:=by simp[List.getD_eq_getElem?_getD,List.getElem?_drop]
 have g1:(ms.drop k).getD (ms.length-k) 0=0:=Qt (by simp)
 rw[List.take_of_length_le (by simp),g0,g1,Int.zero_emod,Int.mul_zero,Int.add_zero] at h2
 rw[h2,h1]
 generalize Zj (ms.drop k)=X
 generalize Zj (ms.take k)=Y
 generalize ms.getD k 0 % 2^s=z
 have:X-z+z=X:=by omega
 rw[this]
 omega
theorem Zcg {neg:Bool} {xs:List Int} (hu:U32 xs) (n:Nat) (hn:(n:Int)≤9223372036854775807) (hN:xs.length<1048576):Ze Yir 104 [.agg [.bool neg, .sl xs.length (lm xs)], .int .i64 (n:Nat)] (Zn (rv neg xs / 2^n)):=by
 have t1:=Qg xs
 have tu:=Dl hu
 have e1:i64.wrap (Int.tdiv (n:Int) 32)=((n / 32:Nat):Int):=by
  rw[Int.tdiv_eq_ediv_of_nonneg (by omega),w64 (by omega) (by omega)];omega
 have e2:u64.wrap (Int.tmod (n:Int) 32)=((n % 32:Nat):Int):=by
  rw[Int.tmod_eq_emod_of_nonneg (by omega),Qx];omega
 have hs:n % 32<32:=Nat.mod_lt _ (by decide)
 have hmag:=Xr (xs:=xs) (by omega)
 have ha:=Ze5 (neg:=neg) (xs:=xs) (n:=n) tu hn (by omega) (min (Zd xs).length (n / 32)) 0 (by omega)
 rw[List.take_zero] at ha
 have e0:decide (Zj ([]:List Int) ≠ 0)=false:=rfl
 rw[e0] at ha
 have hof:=Zk6 (n:=1) (by omega)
 have hp:=Fc n
 have hP:=Q7 (n / 32)
 have hS:=Jd (n % 32)
 rw[← Lq neg xs]
 generalize hms:Zd xs=ms at *
 -- the end: what is kept and what is lost
 have fin:∀ (q l:Int),0≤l→l<2^n→Zj ms=2^n*q+l→rv neg ms / 2^n=if neg=true∧l ≠ 0 then -q-1 else if neg then -q else q:=by
  intro q l hl0 hl1 hv
  have hpn:=Jd n
  unfold rv
  rw[hv]
  cases neg with
  | false=>simp only[Bool.false_eq_true,if_false,false_and];rw[Int.add_comm,Int.add_mul_ediv_left _ _ (by omega),Int.ediv_eq_zero_of_lt hl0 hl1];omega
  | true =>
   simp only[if_true,true_and]
   by_cases h0:l=0
   ·rw[if_neg (by simp[h0]),h0,Int.add_zero,← Int.mul_neg,Int.mul_ediv_cancel_left _ (by omega)]
   ·rw[if_pos (by simpa using h0)]
    have : -(2^n*q+l)=(2^n-l)+2^n*(-q-1):=by rw[Int.mul_sub,Int.mul_neg];omega
    rw[this,Int.add_mul_ediv_left _ _ (by omega),Int.ediv_eq_zero_of_lt (by omega) (by omega)];omega
 by_cases hk:n / 32<ms.length
 ·-- some Zb are left
  have hb:=Ze4 (neg:=neg) (lost:=decide (Zj (ms.take (n / 32)) ≠ 0)) (xs:=xs) (ms:=ms) (sh:=(n:Int)) (s:=n % 32) (k:=n / 32) tu hs (by omega) (by omega) (ms.length-n / 32) 0 (by omega)
  have c1:decide ((i64.wrap (Int.tdiv (n:Int) 32))<(ms.length:Int))=true:=by rw[e1];simp;omega
  have hall:=Zmq (ms:=ms) hs (show n / 32≤ms.length by omega)
  have ux:U32 ((List.range (ms.length-n / 32)).map (Ki (ms.drop (n / 32)) (n % 32))):=Ns fun i=>(Lz (X7 tu _) hs i).2.2.2
  have hmk:=Uu (neg:=neg) ux (by simp;omega)
  have hlen:((List.range (ms.length-n / 32)).map (Ki (ms.drop (n / 32)) (n % 32))).length=ms.length-n / 32:=by simp
  rw[hlen] at hmk
  have hq:=Uq (neg:=neg) ux
  generalize hQ:(List.range (ms.length-n / 32)).map (Ki (ms.drop (n / 32)) (n % 32))=Q at *
  have hm0:=Int.emod_nonneg (ms.getD (n / 32) 0) (show (2:Int)^(n % 32) ≠ 0 by omega)
  have hm1:=Int.emod_lt_of_pos (ms.getD (n / 32) 0) hS
  have ht0:=Zz (Xf tu (n / 32))
  have ht1:=Vp tu (n / 32)
  have hb2:Za Yir (.loop Vf) (J2 neg xs (n:Nat) ms 0 [] (decide (Zj (ms.take (n / 32)) ≠ 0)) (u64.wrap (Int.tmod (n:Int) 32)) (i64.wrap (Int.tdiv (n:Int) 32))) (.exit 2) (J2 neg xs (n:Nat) ms (ms.length-n / 32) (lm Q) (decide (Zj (ms.take (n / 32)) ≠ 0)) (u64.wrap (Int.tmod (n:Int) 32)) (ms.length:Nat)):=by
   rw[e1,e2];exact hb
  have emask:u32.wrap ((u32.wrap (1*2^(min (Int.toNat (u64.wrap (Int.tmod (n:Int) 32))) (IntKind.bits .u32))))-1)=2^(n % 32)-1:=by
   have:min (Int.toNat ((n % 32:Nat):Int)) (IntKind.bits .u32)=n % 32:=by rw[Int.toNat_natCast];show min (n % 32) 32=n % 32;omega
   have h31:(2:Int)^(n % 32)≤2147483648:=Vu (show n % 32≤31 by omega)
   rw[e2,this,Int.one_mul,Wv,Wv];omega
  have ec4:u32.wrap ((BitVec.ofInt (IntKind.bits .u32) (ms.getD (Int.toNat (i64.wrap (Int.tdiv (n:Int) 32))) 0) &&& BitVec.ofInt (IntKind.bits .u32) (u32.wrap ((u32.wrap (1*2^(min (Int.toNat (u64.wrap (Int.tmod (n:Int) 32))) (IntKind.bits .u32))))-1))).toNat)=ms.getD (n / 32) 0 % 2^(n % 32):=by
   rw[emask,e1,Int.toNat_natCast]
   exact and32 (Zu tu _) (by omega)
  have hl:0≤4294967296^(n / 32)*(ms.getD (n / 32) 0 % 2^(n % 32))+Zj (ms.take (n / 32))∧4294967296^(n / 32)*(ms.getD (n / 32) 0 % 2^(n % 32))+Zj (ms.take (n / 32))<2^n:=by
   rw[hp]
   generalize (4294967296:Int)^(n / 32)=P at *
   generalize ms.getD (n / 32) 0 % 2^(n % 32)=z at *
   generalize (2:Int)^(n % 32)=S at *
   have a:=Int.mul_nonneg (Int.le_of_lt hP) hm0
   have b:=Int.mul_le_mul_of_nonneg_left (show z+1≤S by omega) (Int.le_of_lt hP)
   rw[Int.mul_add,Int.mul_one] at b
   omega
  have hf:=fin (Zj Q) _ hl.1 hl.2 (by rw[hall,hp];grind)
  have hlost:(4294967296^(n / 32)*(ms.getD (n / 32) 0 % 2^(n % 32))+Zj (ms.take (n / 32)) ≠ 0)↔(Zj (ms.take (n / 32)) ≠ 0∨ms.getD (n / 32) 0 % 2^(n % 32) ≠ 0):=by
   have a:=Int.mul_nonneg (Int.le_of_lt hP) hm0
   by_cases hz:ms.getD (n / 32) 0 % 2^(n % 32)=0
   ·rw[hz,Int.mul_zero,Int.zero_add];simp
   ·have:0<4294967296^(n / 32)*(ms.getD (n / 32) 0 % 2^(n % 32)):=Int.mul_pos hP (by omega)
    constructor
    ·intro _;exact .inr hz
    ·intro _;omega
  by_cases hneg:neg=true
  ·subst hneg
   have hrv:rv true Q = -Zj Q:=rfl
   by_cases h0:Zj (ms.take (n / 32)) ≠ 0
   ·rw[hf,if_pos ⟨rfl,hlost.2 (.inl h0)⟩]
    have hmin:=Fr (a := -Zj Q) (b:=1) (by rw[← hrv];omega) (by decide)
    refine Ze2 true (decide (Zj (ms.take (n / 32)) ≠ 0)) xs (n:Nat) _ (ms.length-n / 32) (lm Q) _ (-Zj Q) _ (by rw[hms];exact c1) (by simpa using h0) rfl (by rw[hms];exact hmag) (by rw[hms];exact ha) (by rw[hms];exact hb2) hmk hof hmin
   ·by_cases h1:ms.getD (n / 32) 0 % 2^(n % 32)=0
    ·rw[hf,if_neg (fun h=>by rcases hlost.1 h.2 with g | g;exact h0 g;exact g h1),if_pos rfl]
     exact Zez true (decide (Zj (ms.take (n / 32)) ≠ 0)) xs (n:Nat) _ (ms.length-n / 32) (lm Q) _ (-Zj Q) (by rw[hms];exact c1) (by simpa using h0) rfl (by rw[hms,ec4,h1];rfl) (by rw[hms];exact hmag) (by rw[hms];exact ha) (by rw[hms];exact hb2) (by rw[hms,e1];omega) (by rw[e2];omega) hmk
    ·rw[hf,if_pos ⟨rfl,hlost.2 (.inr h1)⟩]
     have hmin:=Fr (a := -Zj Q) (b:=1) (by rw[← hrv];omega) (by decide)
     exact Ze0 true (decide (Zj (ms.take (n / 32)) ≠ 0)) xs (n:Nat) _ (ms.length-n / 32) (lm Q) _ (-Zj Q) _ (by rw[hms];exact c1) (by simpa using h0) rfl (by rw[hms,ec4];simpa using h1) (by rw[hms];exact hmag) (by rw[hms];exact ha) (by rw[hms];exact hb2) (by rw[hms,e1];omega) (by rw[e2];omega) hmk hof hmin
  ·have hneg':neg=false:=by cases neg <;> simp_all
   subst hneg'
   rw[hf,if_neg (by simp),if_neg (by simp)]
   by_cases h0:Zj (ms.take (n / 32)) ≠ 0
   ·exact Ze1 false (decide (Zj (ms.take (n / 32)) ≠ 0)) xs (n:Nat) _ (ms.length-n / 32) (lm Q) _ (Zj Q) (by rw[hms];exact c1) (by simpa using h0) rfl (by rw[hms];exact hmag) (by rw[hms];exact ha) (by rw[hms];exact hb2) hmk
   ·exact Zey false (decide (Zj (ms.take (n / 32)) ≠ 0)) xs (n:Nat) _ (ms.length-n / 32) (lm Q) _ (Zj Q) (by rw[hms];exact c1) (by simpa using h0) rfl (by rw[hms];exact hmag) (by rw[hms];exact ha) (by rw[hms];exact hb2) (by rw[hms,e1];omega) (by rw[e2];omega) hmk
 ·-- nothing is left
  have c1:decide ((i64.wrap (Int.tdiv (n:Int) 32))<(ms.length:Int))=false:=by rw[e1];simp;omega
  have htake:ms.take (n / 32)=ms:=List.take_of_length_le (by omega)
  have hb:Za Yir (.loop Vf) (J2 neg xs (n:Nat) ms 0 [] (decide (Zj (ms.take (n / 32)) ≠ 0)) (u64.wrap (Int.tmod (n:Int) 32)) (i64.wrap (Int.tdiv (n:Int) 32))) (.exit 2) (J2 neg xs (n:Nat) ms 0 [] (decide (Zj (ms.take (n / 32)) ≠ 0)) (u64.wrap (Int.tmod (n:Int) 32)) (i64.wrap (Int.tdiv (n:Int) 32))) :=
   Za.loop_out (Tv neg xs _ ms _ _ _ _ _ c1) (by intro e;cases e)
  have hmk:=Uu (neg:=neg) (xs:=[]) (fun x h=>(nomatch h)) (by simp)
  have hv0:rv neg ([]:List Int)=0:=by unfold rv;cases neg <;> rfl
  rw[hv0] at hmk
  have hlt:Zj ms<2^n:=by
   have a:=J7 tu
   have b:=Uc (show ms.length≤n / 32 by omega)
   rw[hp]
   have:=Int.mul_le_mul_of_nonneg_left (show (1:Int)≤2^(n % 32) by omega) (show (0:Int)≤4294967296^(n / 32) by omega)
   rw[Int.mul_one] at this
   omega
  have hf:=fin 0 (Zj ms) (Zz tu) hlt (by rw[Int.mul_zero,Int.zero_add])
  by_cases hneg:neg=true
  ·subst hneg
   by_cases h0:Zj ms ≠ 0
   ·rw[hf,if_pos ⟨rfl,h0⟩]
    have hmin:=Fr (a:=0) (b:=1) (by decide) (by decide)
    exact Zex true (decide (Zj (ms.take (n / 32)) ≠ 0)) xs (n:Nat) _ 0 [] _ 0 _ (by rw[hms];exact c1) rfl (by rw[htake];simpa using h0) (by rw[hms];exact hmag) (by rw[hms];exact ha) (by rw[hms];exact hb) hmk hof hmin
   ·rw[hf,if_neg (fun h=>h0 h.2),if_pos rfl]
    exact Zew true (decide (Zj (ms.take (n / 32)) ≠ 0)) xs (n:Nat) _ 0 [] _ 0 (by rw[hms];exact c1) rfl (by rw[htake];simpa using h0) (by rw[hms];exact hmag) (by rw[hms];exact ha) (by rw[hms];exact hb) hmk
  ·have hneg':neg=false:=by cases neg <;> simp_all
   subst hneg'
   rw[hf,if_neg (by simp),if_neg (by simp)]
   exact Zev false (decide (Zj (ms.take (n / 32)) ≠ 0)) xs (n:Nat) _ 0 [] _ 0 (by rw[hms];exact c1) rfl (by rw[hms];exact hmag) (by rw[hms];exact ha) (by rw[hms];exact hb) hmk
def TDB:J6:=TDA
theorem Zf1:Q9 Yir TDB:=Zf2
end Go.Proofs.YthnnfemologhfaaGreat

namespace Go.Proofs.YthnnfemologhfaaGreat
open Go.IntKind (i64 u64 u32)
open Go.Ai
set_option maxRecDepth 100000
theorem Zjx {xs:List Int} {d:Int} (hx:U32 xs) (hd:0<d∧d<4294967296) (hN:xs.length≤1048576):∀ (i:Nat) (qs:List Int) (r:Int),i≤xs.length→qs.length=xs.length→U32 qs→0≤r∧r<d→(∀ t,t<i→qs.getD t 0=0) →
  ∃ qs' r',Za Yir (.loop Zfn) (Rb xs [d] xs.length qs r ((i:Int)-1)) (.exit 0) (Rb xs [d] xs.length qs' r' (-1))∧qs'.length=xs.length∧U32 qs'∧(0≤r'∧r'<d)∧d*Zj qs'+r'=d*Zj qs+4294967296^i*r+Zj (xs.take i):=by
 intro i
 induction i with
 | zero =>
  intro qs r _ hl hu hr _
  refine⟨qs,r,Za.loop_out (Zol xs [d] xs.length qs r _ (by simp)) (by intro e;cases e),hl,hu,hr,by simp[Zj]⟩
 | succ i ih =>
  intro qs r hi hl hu hr hz
  have ei:(((i+1:Nat):Int)-1)=(i:Nat):=by omega
  have ej:i64.wrap ((i:Int)-1)=(i:Int)-1:=w64 (by omega) (by omega)
  have hxi:=Zu hx i
  have ed:([d]:List Int).getD (Int.toNat 0) 0=d:=rfl
  have hk:=Zom xs [d] xs.length qs r (i:Nat) (by simp) (by omega) (by simp) (by rw[ed,Ug (by omega)];omega) (by omega) hl
  rw[ej,Int.toNat_natCast,ed,Nr (by omega) hxi,Ug (n:=d) (by omega)] at hk
  have hv0:0≤r*4294967296+xs.getD i 0:=by omega
  rw[Int.tdiv_eq_ediv_of_nonneg hv0,Int.tmod_eq_emod_of_nonneg hv0] at hk
  generalize hv:r*4294967296+xs.getD i 0=v at *
  have hm:=Int.mul_ediv_add_emod v d
  have hm0:=Int.emod_nonneg v (show d ≠ 0 by omega)
  have hm1:=Int.emod_lt_of_pos v hd.1
  have hq0:0≤v / d:=Int.ediv_nonneg hv0 (by omega)
  have hq1:v / d<4294967296:=by
   apply Int.ediv_lt_of_lt_mul hd.1
   have:=Int.mul_le_mul_of_nonneg_right (show r≤d-1 by omega) (show (0:Int)≤4294967296 by omega)
   have:(d-1)*4294967296=4294967296*d-4294967296:=by omega
   omega
  rw[Ug (n:=v / d) (by omega),w32 ⟨hq0,hq1⟩] at hk
  obtain⟨qs',r',g1,g2,g3,g4,g5⟩:=ih (qs.set i (v / d)) (v % d) (by omega) (by simpa using hl) (Q0 hu ⟨hq0,hq1⟩) ⟨hm0,hm1⟩ (fun t ht=>by rw[Qp (by omega)];exact hz t (by omega))
  rw[ei]
  refine⟨qs',r',Za.loop hk g1,g2,g3,g4,?_⟩
  rw[g5,Jz _ _ _ (by omega),hz i (by omega),Jt xs i (by omega),Int.pow_succ]
  generalize (4294967296:Int)^i=P at *
  have e2:xs.getD i 0=d*(v / d)+v % d-r*4294967296:=by omega
  rw[e2]
  grind
theorem Zjw {xs ys:List Int} {y:Int} {s:Nat} (hy0:ys ≠ []) (hyl:ys.length≤1048576) (hy:ys.getD (ys.length-1) 0=y) (hb:0<y) (hs:s<32) (h1:2147483648≤y*2^s) (h2:y*2^s<4294967296):∀ (r i:Nat),i+r=s →
  Za Yir (.loop Zfm) (M7 xs ys (i:Nat)) (.exit 2) (M7 xs ys (s:Nat)):=by
 have hpos:=List.length_pos_iff.2 hy0
 have en:i64.wrap ((ys.length:Int)-1)=((ys.length-1:Nat):Int):=by rw[w64 (by omega) (by omega)];omega
 have cond:∀ i:Nat,i≤s→(u32.wrap ((BitVec.ofInt (IntKind.bits .u32) (u32.wrap ((ys.getD (Int.toNat (i64.wrap ((ys.length:Int)-1))) 0)*2^(min (Int.toNat (u64.wrap (i:Int))) (IntKind.bits .u32)))) &&& BitVec.ofInt (IntKind.bits .u32) 2147483648).toNat)==0)=decide (y*2^i<2147483648):=by
  intro i hi
  have em:min (Int.toNat (i:Int)) (IntKind.bits .u32)=i:=by rw[Int.toNat_natCast];show min i 32=i;omega
  have hp:=Vu hi
  have hp0:=Jd i
  have hle:=Int.mul_le_mul_of_nonneg_left hp (show 0≤y by omega)
  have hge:=Int.mul_nonneg (show 0≤y by omega) (show (0:Int)≤2^i by omega)
  rw[Ug (n:=(i:Int)) (by omega),em,en,Int.toNat_natCast,hy,w32 (n:=y*2^i) (by omega)]
  exact bit31 (by omega)
 intro r
 induction r with
 | zero =>
  intro i hi
  have:i=s:=by omega
  subst this
  exact Za.loop_out (Zoj xs ys _ (by rw[cond i (Nat.le_refl _)];simp;omega) (by rw[en];omega) (by rw[Ug (by omega)];omega)) (by intro e;cases e)
 | succ r ih =>
  intro i hi
  have ei:i64.wrap ((i:Int)+1)=((i+1:Nat):Int):=by rw[w64 (by omega) (by omega)];omega
  have hlt:y*2^i<2147483648:=by
   have hp:=Vu (show i+1≤s by omega)
   rw[Int.pow_succ] at hp
   have hle:=Int.mul_le_mul_of_nonneg_left hp (show 0≤y by omega)
   rw[← Int.mul_assoc] at hle
   omega
  have k:=Zok xs ys (i:Nat) (by rw[cond i (by omega)];simpa using hlt) (by rw[en];omega) (by rw[Ug (by omega)];omega)
  rw[ei] at k
  exact Za.loop k (ih (i+1) (by omega))
section
variable {k:Nat} {us vs:List Int} {kq:Nat} {qs:List Int} {s:Int} {j m:Nat}
theorem Zjz (hvl:vs.length=m+2) (hl:us.length=k) (hk:k≤1048577) (hj:j+m+2<k) (h:Dig m (Zj vs) (Zj (us.drop j)) (vs.getD (m+1) 0) (vs.getD m 0) (us.getD (j+m+2) 0) (us.getD (j+m+1) 0) (us.getD (j+m) 0)):∀ (f:Nat) (g r:Int),g.toNat≤f →
  DigI (Zj vs) (Zj (us.drop j)) (vs.getD (m+1) 0) (us.getD (j+m+2) 0*4294967296+us.getD (j+m+1) 0) g r→r<4294967296 →
  ∃ g' r',Za Yir (.loop Di) (V5 k us vs ((m+2:Nat):Int) kq qs s (j:Nat) g r) (.exit 6) (V5 k us vs ((m+2:Nat):Int) kq qs s (j:Nat) g' r') ∧
   (0≤g'∧g'<4294967296)∧Zj (us.drop j)<(g'+1)*Zj vs∧g'*Zj vs<Zj (us.drop j)+Zj vs:=by
 have ht:=h.htop
 have hnx:=h.hnxt
 have hz:=h.hz
 have e1:i64.wrap (i64.wrap ((j:Int)+((m+2:Nat):Int))-2)=((j+m:Nat):Int):=by
  rw[w64 (n:=(j:Int)+((m+2:Nat):Int)) (by omega) (by omega),w64 (by omega) (by omega)];omega
 have e2:i64.wrap (((m+2:Nat):Int)-2)=(m:Int):=by rw[w64 (by omega) (by omega)];omega
 have e3:i64.wrap (((m+2:Nat):Int)-1)=((m+1:Nat):Int):=by rw[w64 (by omega) (by omega)];omega
 have et:u64.wrap (vs.getD (Int.toNat (i64.wrap (((m+2:Nat):Int)-1))) 0)=vs.getD (m+1) 0:=by rw[e3,Int.toNat_natCast,Ug (by omega)]
 have en:u64.wrap (vs.getD (Int.toNat (i64.wrap (((m+2:Nat):Int)-2))) 0)=vs.getD m 0:=by rw[e2,Int.toNat_natCast,Ug (by omega)]
 have n2:0≤i64.wrap (((m+2:Nat):Int)-2)∧i64.wrap (((m+2:Nat):Int)-2)<(vs.length:Int):=by rw[e2];omega
 have n1:0≤i64.wrap (((m+2:Nat):Int)-1)∧i64.wrap (((m+2:Nat):Int)-1)<(vs.length:Int):=by rw[e3];omega
 have nu:0≤i64.wrap (i64.wrap ((j:Int)+((m+2:Nat):Int))-2)∧i64.wrap (i64.wrap ((j:Int)+((m+2:Nat):Int))-2)<(k:Int):=by rw[e1];omega
 have ecmp:∀ g r:Int,0≤r→r<4294967296→0≤g*vs.getD m 0∧g*vs.getD m 0<18446744073709551616→(decide (u64.wrap (g*(u64.wrap (vs.getD (Int.toNat (i64.wrap (((m+2:Nat):Int)-2))) 0)))>u64.wrap ((BitVec.ofInt (IntKind.bits .u64) (u64.wrap (r*2^(min (Int.toNat 32) (IntKind.bits .u64)))) ||| BitVec.ofInt (IntKind.bits .u64) (u64.wrap (us.getD (Int.toNat (i64.wrap (i64.wrap ((j:Int)+((m+2:Nat):Int))-2))) 0))).toNat)):Bool)=decide (r*4294967296+us.getD (j+m) 0<g*vs.getD m 0):=by
  intro g r hr0 hr hgn
  rw[en,e1,Int.toNat_natCast,Nr ⟨hr0,hr⟩ hz,Ug hgn]
 intro f
 induction f with
 | zero =>
  intro g r hf i hr
  have hg:g=0:=by have:=i.g0;omega
  subst hg
  have c2:¬ (r*4294967296+us.getD (j+m) 0<0*vs.getD m 0):=by have:=i.r0;omega
  have k5:=Zfb k us vs ((m+2:Nat):Int) kq qs s (j:Nat) 0 r (by simp) (by simpa using hr) (by
   rw[ecmp 0 r i.r0 hr (by omega),decide_eq_false_iff_not];exact c2) n2 nu hl
  exact⟨0,r,Za.loop_out k5 (by intro e;cases e),by omega,i.up,h.out i (by omega) (Or.inr (by omega))⟩
 | succ f ih =>
  intro g r hf i hr
  have hg1:=i.gle
  have hg0:=i.g0
  have hr0:=i.r0
  have hgn:0≤g*vs.getD m 0∧g*vs.getD m 0<18446744073709551616:=by
   have a:=Int.mul_nonneg hg0 hnx.1
   have b:=Int.mul_le_mul hg1 (show vs.getD m 0≤4294967295 by omega) hnx.1 (by omega)
   omega
  have er:u64.wrap (r+(u64.wrap (vs.getD (Int.toNat (i64.wrap (((m+2:Nat):Int)-1))) 0)))=r+vs.getD (m+1) 0:=by rw[et];exact Ug (by omega)
  by_cases hc:4294967296≤g∨r*4294967296+us.getD (j+m) 0<g*vs.getD m 0
  ·have i2:=h.step i hc
   have hg2:=i2.g0
   have eg:u64.wrap (g-1)=g-1:=Ug (by omega)
   by_cases hbig:4294967296≤r+vs.getD (m+1) 0
   ·have hgs:=h.small_g i2 hbig
    have hrun:Za Yir Di (V5 k us vs ((m+2:Nat):Int) kq qs s (j:Nat) g r) (.exit 6) (V5 k us vs ((m+2:Nat):Int) kq qs s (j:Nat) (u64.wrap (g-1)) (u64.wrap (r+(u64.wrap (vs.getD (Int.toNat (i64.wrap (((m+2:Nat):Int)-1))) 0))))):=by
     by_cases hg:4294967296≤g
     ·exact Zos k us vs _ kq qs s _ g r (by simpa using hg) (by rw[er];simpa using hbig) n1
     ·exact Zoq k us vs _ kq qs s _ g r (by simp;omega) (by simpa using hr) (by rw[ecmp g r hr0 hr hgn,decide_eq_true_eq];omega) (by rw[er];simpa using hbig) n2 nu hl n1
    rw[eg,er] at hrun
    exact⟨g-1,_,Za.loop_out hrun (by intro e;cases e),⟨hg2,hgs⟩,i2.up,h.out i2 hgs (Or.inl hbig)⟩
   ·have hrun:Za Yir Di (V5 k us vs ((m+2:Nat):Int) kq qs s (j:Nat) g r) .norm (V5 k us vs ((m+2:Nat):Int) kq qs s (j:Nat) (u64.wrap (g-1)) (u64.wrap (r+(u64.wrap (vs.getD (Int.toNat (i64.wrap (((m+2:Nat):Int)-1))) 0))))):=by
     by_cases hg:4294967296≤g
     ·exact Zor k us vs _ kq qs s _ g r (by simpa using hg) (by rw[er,decide_eq_false_iff_not];omega) n1
     ·exact Zop k us vs _ kq qs s _ g r (by simp;omega) (by simpa using hr) (by rw[ecmp g r hr0 hr hgn,decide_eq_true_eq];omega) (by rw[er,decide_eq_false_iff_not];omega) n2 nu hl n1
    rw[eg,er] at hrun
    obtain⟨g',r',a1,a2⟩:=ih (g-1) (r+vs.getD (m+1) 0) (by omega) i2 (by omega)
    exact⟨g',r',Za.loop hrun a1,a2⟩
  ·have k5:=Zfb k us vs ((m+2:Nat):Int) kq qs s (j:Nat) g r (by simp;omega) (by simpa using hr) (by rw[ecmp g r hr0 hr hgn,decide_eq_false_iff_not];omega) n2 nu hl
   exact⟨g,r,Za.loop_out k5 (by intro e;cases e),by omega,i.up,h.out i (by omega) (Or.inr (by omega))⟩
end
section
variable {k:Nat} {vs:List Int} {kq:Nat} {qs:List Int} {s:Int} {j:Nat} {g:Int}
theorem Zjy (hv:U32 vs) (hk:k≤1048577) (hg:0≤g∧g<4294967296) (hj:j+vs.length≤k):∀ (r i:Nat) (us:List Int) (b c:Int),r+i=vs.length→us.length=k→U32 us→0≤b∧b≤1→0≤c∧c<4294967296 →
  Za Yir (.loop Za9) (At k us vs (vs.length:Nat) kq qs s (j:Nat) g b c (i:Nat)) (.exit 8) (At k (G2 g vs j r i us b c).1 vs (vs.length:Nat) kq qs s (j:Nat) g (G2 g vs j r i us b c).2.1 (G2 g vs j r i us b c).2.2 (vs.length:Nat)):=by
 intro r
 induction r with
 | zero =>
  intro i us b c hi _ _ _ _
  have:i=vs.length:=by omega
  subst this
  exact Za.loop_out (Zon k us vs _ kq qs s _ g b c _ (by simp)) (by intro e;cases e)
 | succ r ih =>
  intro i us b c hi hl hu hb hc
  have ei:i64.wrap ((i:Int)+1)=((i+1:Nat):Int):=by rw[w64 (by omega) (by omega)];omega
  have eij:i64.wrap ((i:Int)+(j:Int))=((i+j:Nat):Int):=by rw[w64 (by omega) (by omega)];omega
  have hvi:=Zu hv i
  have hui:=Zu hu (i+j)
  have hw:=Ph hg hvi hc
  have hgv:=Int.mul_nonneg hg.1 hvi.1
  have h1:=Zoo k us vs (vs.length:Nat) kq qs s (j:Nat) g b c (i:Nat) (by simp;omega) (by omega) (by rw[eij];omega) hl
  have ecc:c+g*vs.getD i 0=g*vs.getD i 0+c:=Int.add_comm _ _
  rw[eij,ei,Int.toNat_natCast,Int.toNat_natCast,Ug (n:=vs.getD i 0) (by omega),Ug (n:=us.getD (i+j) 0) (by omega),Ug (n:=g*vs.getD i 0) (by omega),ecc,Ug hw,Zs9,fd63] at h1
  have emk:u64.wrap ((BitVec.ofInt (IntKind.bits .u64) (g*vs.getD i 0+c) &&& BitVec.ofInt (IntKind.bits .u64) 4294967295).toNat)=(g*vs.getD i 0+c) % 4294967296:=and64 (s:=32) hw (by decide)
  rw[emk] at h1
  generalize hp:g*vs.getD i 0+c=p at *
  rw[Qx,Qx] at h1
  have hstep:G2 g vs j (r+1) i us b c=G2 g vs j r (i+1) (us.set (i+j) ((us.getD (i+j) 0-p % 4294967296-b) % 4294967296)) (if us.getD (i+j) 0-p % 4294967296-b<0 then 1 else 0) (p / 4294967296):=by rw[G2,hp]
  generalize hd:us.getD (i+j) 0-p % 4294967296-b=d at *
  have e1:u32.wrap (((us.getD (i+j) 0-p % 4294967296) % 18446744073709551616-b) % 18446744073709551616)=d % 4294967296:=by rw[Wv];omega
  have e2:((us.getD (i+j) 0-p % 4294967296) % 18446744073709551616-b) % 18446744073709551616 / 9223372036854775808=(if d<0 then 1 else 0):=by split <;> omega
  rw[e1,e2] at h1
  rw[hstep]
  exact Za.loop h1 (ih (i+1) _ _ _ (by omega) (by simpa using hl) (Q0 hu (by omega)) (by split <;> omega) (by omega))
theorem Zj0 (hv:U32 vs) (hk:k≤1048577) (hj:j+vs.length≤k):∀ (r i:Nat) (us:List Int) (c:Int),r+i=vs.length→us.length=k→U32 us→0≤c∧c≤1 →
  Za Yir (.loop Zfo) (M8 k us vs (vs.length:Nat) kq qs s (j:Nat) g c (i:Nat)) (.exit 10) (M8 k (Et vs j r i us c).1 vs (vs.length:Nat) kq qs s (j:Nat) g (Et vs j r i us c).2 (vs.length:Nat)):=by
 intro r
 induction r with
 | zero =>
  intro i us c hi _ _ _
  have:i=vs.length:=by omega
  subst this
  exact Za.loop_out (Zot k us vs _ kq qs s _ g c _ (by simp)) (by intro e;cases e)
 | succ r ih =>
  intro i us c hi hl hu hc
  have ei:i64.wrap ((i:Int)+1)=((i+1:Nat):Int):=by rw[w64 (by omega) (by omega)];omega
  have eij:i64.wrap ((i:Int)+(j:Int))=((i+j:Nat):Int):=by rw[w64 (by omega) (by omega)];omega
  have hvi:=Zu hv i
  have hui:=Zu hu (i+j)
  have h1:=Zou k us vs (vs.length:Nat) kq qs s (j:Nat) g c (i:Nat) (by simp;omega) (by rw[eij];omega) hl (by omega)
  have ecc:c+(us.getD (i+j) 0+vs.getD i 0)=us.getD (i+j) 0+vs.getD i 0+c:=Int.add_comm _ _
  rw[eij,ei,Int.toNat_natCast,Int.toNat_natCast,Ug (n:=vs.getD i 0) (by omega),Ug (n:=us.getD (i+j) 0) (by omega),Ug (n:=us.getD (i+j) 0+vs.getD i 0) (by omega),ecc,Ug (n:=us.getD (i+j) 0+vs.getD i 0+c) (by omega),Zs9,Wv] at h1
  exact Za.loop h1 (ih (i+1) _ _ (by omega) (by simpa using hl) (Q0 hu (by omega)) (by omega))
end
def TDC:J6:=TDB
theorem Zf0:Q9 Yir TDC:=Zf1
end Go.Proofs.YthnnfemologhfaaGreat
