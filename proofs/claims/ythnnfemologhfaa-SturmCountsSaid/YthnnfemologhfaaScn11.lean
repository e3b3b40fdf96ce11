/- Texts of the proof of SturmCounts, packed by pack.py: part 11 of 19. -/
import Derived.Test.YthnnfemologhfaaScn10
namespace Go.Proofs.Ythnnfemologhfaa
open Go.IntKind (i64 u64 u32)
open Go.Ai
set_option maxRecDepth 100000
def J9 (neg:Bool) (xs:List Int) (sh:Int) (ms:List Int) (lost:Bool) (i:Int):Zk:=(dds 1 (.val (.int .i64 sh)::(.box [.bool neg, .sl xs.length (lm xs)]::(dds 1 (.box [.bool false, .sl 0 []]::(.val (.sl ms.length (lm ms))::(.own 1 0 []::(.val (.bool lost)::(.val (.int .i64 i)::(dds 95 []))))))))))
theorem Zmy (neg:Bool) (xs:List Int) (sh:Int) (ms:List Int) (lost:Bool) (i:Int)  (c1:(decide (i<(ms.length:Int)))=true) (c2:(decide (i<(i64.wrap (Int.tdiv sh 32))))=true) (c3:(lost)=true):Za Yir V2 (J9 neg xs sh ms lost i) .norm (J9 neg xs sh ms true (i64.wrap (i+1))):=(Za.go Zf 400 [.b true, .b true, .b true] [1,2,4,5,6,7,8] (ac c1 (ac (show ¬ (32:Int)=0 from (by decide)) (ac c2 (ac c3 a0)))))
theorem Zmx (neg:Bool) (xs:List Int) (sh:Int) (ms:List Int) (lost:Bool) (i:Int)  (c1:(decide (i<(ms.length:Int)))=true) (c2:(decide (i<(i64.wrap (Int.tdiv sh 32))))=true) (c3:(lost)=false) (n1:0≤i∧i<(ms.length:Int)):Za Yir V2 (J9 neg xs sh ms lost i) .norm (J9 neg xs sh ms ((ms.getD (Int.toNat i) 0) != 0) (i64.wrap (i+1))):=(Za.go Zf 400 [.b true, .b true, .b false, .v (.int .u32 (ms.getD (Int.toNat i) 0))] [1,2,4,5,6,7,8] (ac c1 (ac (show ¬ (32:Int)=0 from (by decide)) (ac c2 (ac c3 (ac n1 (ac (Z2 n1) a0)))))))
theorem Zmw (neg:Bool) (xs:List Int) (sh:Int) (ms:List Int) (lost:Bool) (i:Int)  (c1:(decide (i<(ms.length:Int)))=true) (c2:(decide (i<(i64.wrap (Int.tdiv sh 32))))=false):Za Yir V2 (J9 neg xs sh ms lost i) (.exit 0) (J9 neg xs sh ms lost i):=(Za.go Zf 400 [.b true, .b false] [1,2,4,5,6,7,8] (ac c1 (ac (show ¬ (32:Int)=0 from (by decide)) (ac c2 a0))))
theorem Zmv (neg:Bool) (xs:List Int) (sh:Int) (ms:List Int) (lost:Bool) (i:Int)  (c1:(decide (i<(ms.length:Int)))=false):Za Yir V2 (J9 neg xs sh ms lost i) (.exit 0) (J9 neg xs sh ms lost i):=(Za.go Zf 400 [.b false, .b false] [1,2,4,5,6,7,8] (ac c1 (ac (show false=false from rfl) a0)))
def J1 (neg:Bool) (xs:List Int) (sh:Int) (ms:List Int) (n:Nat) (cs:List AV) (lost:Bool) (s:Int) (i:Int):Zk:=(dds 1 (.val (.int .i64 sh)::(.box [.bool neg, .sl xs.length (lm xs)]::(dds 1 (.box [.bool false, .sl 0 []]::(.val (.sl ms.length (lm ms))::(.own 1 n cs::(.val (.bool lost)::(dds 1 (.val (.int .u64 s)::(.val (.int .i64 i)::(dds 93 []))))))))))))
theorem Zmu (neg:Bool) (xs:List Int) (sh:Int) (ms:List Int) (n:Nat) (cs:List AV) (lost:Bool) (s:Int) (i:Int)  (c1:(decide (i<(ms.length:Int)))=true) (c2:(decide ((i64.wrap (i+1))<(ms.length:Int)))=true) (n1:0≤i∧i<(ms.length:Int)) (n2:0≤(i64.wrap (i+1))∧(i64.wrap (i+1))<(ms.length:Int)) (n3:¬ s<0) (n4:n+1≤1048576):Za Yir Vh (J1 neg xs sh ms n cs lost s i) .norm (J1 neg xs sh ms (n+1) (cs++([.int .u32 (u32.wrap (Int.fdiv (u64.wrap ((BitVec.ofInt (IntKind.bits .u64) (u64.wrap (ms.getD (Int.toNat i) 0)) ||| BitVec.ofInt (IntKind.bits .u64) (u64.wrap ((u64.wrap (ms.getD (Int.toNat (i64.wrap (i+1))) 0))*2^(min (Int.toNat 32) (IntKind.bits .u64))))).toNat)) (2^(min (Int.toNat s) (IntKind.bits .u64)))))]:List AV)) lost s (i64.wrap (i+1))):=(Za.go Zf 400 [.b true, .v (.int .u32 (ms.getD (Int.toNat i) 0)), .b true, .v (.int .u32 (ms.getD (Int.toNat (i64.wrap (i+1))) 0))] [1,2,4,5,6,7,9,10] (ac c1 (ac n1 (ac (Z2 n1) (ac c2 (ac n2 (ac (Z2 n2) (ac (show ¬ (32:Int)<0 from (by decide)) (ac n3 (ac (show List.length ([.int .u32 (u32.wrap (Int.fdiv (u64.wrap ((BitVec.ofInt (IntKind.bits .u64) (u64.wrap (ms.getD (Int.toNat i) 0)) ||| BitVec.ofInt (IntKind.bits .u64) (u64.wrap ((u64.wrap (ms.getD (Int.toNat (i64.wrap (i+1))) 0))*2^(min (Int.toNat 32) (IntKind.bits .u64))))).toNat)) (2^(min (Int.toNat s) (IntKind.bits .u64)))))]:List AV)=1*1 from rfl) (ac n4 a0)))))))))))
theorem Zmt (neg:Bool) (xs:List Int) (sh:Int) (ms:List Int) (n:Nat) (cs:List AV) (lost:Bool) (s:Int) (i:Int)  (c1:(decide (i<(ms.length:Int)))=true) (c2:(decide ((i64.wrap (i+1))<(ms.length:Int)))=false) (n1:0≤i∧i<(ms.length:Int)) (n2:¬ s<0) (n3:n+1≤1048576):Za Yir Vh (J1 neg xs sh ms n cs lost s i) .norm (J1 neg xs sh ms (n+1) (cs++([.int .u32 (u32.wrap (Int.fdiv (u64.wrap (ms.getD (Int.toNat i) 0)) (2^(min (Int.toNat s) (IntKind.bits .u64)))))]:List AV)) lost s (i64.wrap (i+1))):=(Za.go Zf 400 [.b true, .v (.int .u32 (ms.getD (Int.toNat i) 0)), .b false] [1,2,4,5,6,7,9,10] (ac c1 (ac n1 (ac (Z2 n1) (ac c2 (ac n2 (ac (show List.length ([.int .u32 (u32.wrap (Int.fdiv (u64.wrap (ms.getD (Int.toNat i) 0)) (2^(min (Int.toNat s) (IntKind.bits .u64)))))]:List AV)=1*1 from rfl) (ac n3 a0))))))))
theorem Za4 (neg:Bool) (xs:List Int) (sh:Int) (ms:List Int) (n:Nat) (cs:List AV) (lost:Bool) (s:Int) (i:Int)  (c1:(decide (i<(ms.length:Int)))=false):Za Yir Vh (J1 neg xs sh ms n cs lost s i) (.exit 2) (J1 neg xs sh ms n cs lost s i):=(Za.go Zf 400 [.b false] [1,2,4,5,6,7,9,10] (ac c1 a0))
theorem Zf3 (neg lost:Bool) (xs:List Int) (sh i1:Int) (n:Nat) (cs:List AV) (i2 v w:Int) (c1:(decide ((i64.wrap (Int.tdiv sh 32))<(((Zc xs).length:Nat):Int)))=true) (c2:(lost)=true) (c3:(neg)=true) (n1:Ze Yir 125 [.sl xs.length (lm xs)] (.fresh 1 ((Zc xs).length) (lm (Zc xs)))) (hl2:Za Yir (.loop V2) (J9 neg xs sh (Zc xs) false 0) (.exit 0) (J9 neg xs sh (Zc xs) lost i1)) (hl3:Za Yir (.loop Vh) (J1 neg xs sh (Zc xs) 0 [] lost (u64.wrap (Int.tmod sh 32)) (i64.wrap (Int.tdiv sh 32))) (.exit 2) (J1 neg xs sh (Zc xs) n cs lost (u64.wrap (Int.tmod sh 32)) i2)) (n4:Ze Yir 106 [.bool neg, .sl n cs] (Us v)) (n5:Ze Yir 56 [.int .i64 1] (Zl 1)) (n6:Ze Yir 118 [Zl v,Zl 1] (Zl w)):Ze Yir 152 [.agg [.bool neg, .sl xs.length (lm xs)], .int .i64 sh] (Zl w):=Ze.of_bodyW (fn:=D3) (s:=(dds 4 (.box [.bool (decide (w<0)), .sl ((Zb (Int.natAbs w)).length) (lm (Zb (Int.natAbs w)))]::(dds 99 [])))) (ex := .ret) rfl rfl (Za.seq (Za.go (t:=(.val (.agg [.bool neg, .sl xs.length (lm xs)])::(vi sh::(.box [.bool neg, .sl xs.length (lm xs)]::(dds 1 (.box [.bool false, .sl 0 []]::(dds 99 []))))))) Zf 400 [] [0,1,2,4] a0) (Za.seq (Za.go (t:=(.val (.agg [.bool neg, .sl xs.length (lm xs)])::(vi sh::(.box [.bool neg, .sl xs.length (lm xs)]::(dds 1 (.box [.bool false, .sl 0 []]::(.val (.sl ((Zc xs).length) (lm (Zc xs)))::(dds 98 [])))))))) Zf 400 [.r (.fresh 1 ((Zc xs).length) (lm (Zc xs)))] [0,1,2,4,5] (ac n1 a0)) (Za.seq (Za.go (t:=(.val (.agg [.bool neg, .sl xs.length (lm xs)])::(vi sh::(.box [.bool neg, .sl xs.length (lm xs)]::(dds 1 (.box [.bool false, .sl 0 []]::(.val (.sl ((Zc xs).length) (lm (Zc xs)))::(.own 1 0 []::(dds 97 []))))))))) Zf 400 [] [0,1,2,4,5,6] a0) (Za.seq (Za.go (t:=(.val (.agg [.bool neg, .sl xs.length (lm xs)])::(vi sh::(.box [.bool neg, .sl xs.length (lm xs)]::(dds 1 (.box [.bool false, .sl 0 []]::(.val (.sl ((Zc xs).length) (lm (Zc xs)))::(.own 1 0 []::(.val (.bool false)::(dds 96 [])))))))))) Zf 400 [] [0,1,2,4,5,6,7] a0) (Za.seq (Za.seq (Za.go Zf 400 [] [1,2,4,5,6,7,8] a0) (Za.block hl2)) (Za.seq (Za.go (t:=(dds 1 (vi sh::(.box [.bool neg, .sl xs.length (lm xs)]::(dds 1 (.box [.bool false, .sl 0 []]::(.val (.sl ((Zc xs).length) (lm (Zc xs)))::(.own 1 0 []::(.val (.bool lost)::(dds 1 (.val (.int .u64 (u64.wrap (Int.tmod sh 32)))::(dds 94 [])))))))))))) Zf 400 [] [1,2,4,5,6,7,9] (ac (show ¬ (32:Int)=0 from (by decide)) a0)) (Za.seq (Za.seq (Za.go Zf 400 [] [1,2,4,5,6,7,9,10] (ac (show ¬ (32:Int)=0 from (by decide)) a0)) (Za.block hl3)) (Za.go Zf 400 [.b true, .b true, .r (Us v), .b true, .b true, .r (Zl 1), .r (Zl w)] [4] (ac (show ¬ (32:Int)=0 from (by decide)) (ac c1 (ac c2 (ac n4 (ac c3 (ac (show true=true from rfl) (ac n5 (ac n6 a0)))))))))))))))) (by intro i e;cases e) rfl
theorem Zf2 (neg lost:Bool) (xs:List Int) (sh i1:Int) (n:Nat) (cs:List AV) (i2 v:Int) (c1:(decide ((i64.wrap (Int.tdiv sh 32))<(((Zc xs).length:Nat):Int)))=true) (c2:(lost)=true) (c3:(neg)=false) (n1:Ze Yir 125 [.sl xs.length (lm xs)] (.fresh 1 ((Zc xs).length) (lm (Zc xs)))) (hl2:Za Yir (.loop V2) (J9 neg xs sh (Zc xs) false 0) (.exit 0) (J9 neg xs sh (Zc xs) lost i1)) (hl3:Za Yir (.loop Vh) (J1 neg xs sh (Zc xs) 0 [] lost (u64.wrap (Int.tmod sh 32)) (i64.wrap (Int.tdiv sh 32))) (.exit 2) (J1 neg xs sh (Zc xs) n cs lost (u64.wrap (Int.tmod sh 32)) i2)) (n4:Ze Yir 106 [.bool neg, .sl n cs] (Us v)):Ze Yir 152 [.agg [.bool neg, .sl xs.length (lm xs)], .int .i64 sh] (Zl v):=Ze.of_bodyW (fn:=D3) (s:=(dds 4 (.box [.bool (decide (v<0)), .sl ((Zb (Int.natAbs v)).length) (lm (Zb (Int.natAbs v)))]::(dds 99 [])))) (ex := .ret) rfl rfl (Za.seq (Za.go (t:=(.val (.agg [.bool neg, .sl xs.length (lm xs)])::(vi sh::(.box [.bool neg, .sl xs.length (lm xs)]::(dds 1 (.box [.bool false, .sl 0 []]::(dds 99 []))))))) Zf 400 [] [0,1,2,4] a0) (Za.seq (Za.go (t:=(.val (.agg [.bool neg, .sl xs.length (lm xs)])::(vi sh::(.box [.bool neg, .sl xs.length (lm xs)]::(dds 1 (.box [.bool false, .sl 0 []]::(.val (.sl ((Zc xs).length) (lm (Zc xs)))::(dds 98 [])))))))) Zf 400 [.r (.fresh 1 ((Zc xs).length) (lm (Zc xs)))] [0,1,2,4,5] (ac n1 a0)) (Za.seq (Za.go (t:=(.val (.agg [.bool neg, .sl xs.length (lm xs)])::(vi sh::(.box [.bool neg, .sl xs.length (lm xs)]::(dds 1 (.box [.bool false, .sl 0 []]::(.val (.sl ((Zc xs).length) (lm (Zc xs)))::(.own 1 0 []::(dds 97 []))))))))) Zf 400 [] [0,1,2,4,5,6] a0) (Za.seq (Za.go (t:=(.val (.agg [.bool neg, .sl xs.length (lm xs)])::(vi sh::(.box [.bool neg, .sl xs.length (lm xs)]::(dds 1 (.box [.bool false, .sl 0 []]::(.val (.sl ((Zc xs).length) (lm (Zc xs)))::(.own 1 0 []::(.val (.bool false)::(dds 96 [])))))))))) Zf 400 [] [0,1,2,4,5,6,7] a0) (Za.seq (Za.seq (Za.go Zf 400 [] [1,2,4,5,6,7,8] a0) (Za.block hl2)) (Za.seq (Za.go (t:=(dds 1 (vi sh::(.box [.bool neg, .sl xs.length (lm xs)]::(dds 1 (.box [.bool false, .sl 0 []]::(.val (.sl ((Zc xs).length) (lm (Zc xs)))::(.own 1 0 []::(.val (.bool lost)::(dds 1 (.val (.int .u64 (u64.wrap (Int.tmod sh 32)))::(dds 94 [])))))))))))) Zf 400 [] [1,2,4,5,6,7,9] (ac (show ¬ (32:Int)=0 from (by decide)) a0)) (Za.seq (Za.seq (Za.go Zf 400 [] [1,2,4,5,6,7,9,10] (ac (show ¬ (32:Int)=0 from (by decide)) a0)) (Za.block hl3)) (Za.go Zf 400 [.b true, .b true, .r (Us v), .b false, .b false] [4] (ac (show ¬ (32:Int)=0 from (by decide)) (ac c1 (ac c2 (ac n4 (ac c3 (ac (show false=false from rfl) a0)))))))))))))) (by intro i e;cases e) rfl
theorem Zf1 (neg lost:Bool) (xs:List Int) (sh i1:Int) (n:Nat) (cs:List AV) (i2 v w:Int) (c1:(decide ((i64.wrap (Int.tdiv sh 32))<(((Zc xs).length:Nat):Int)))=true) (c2:(lost)=false) (c3:(neg)=true) (c4:((u32.wrap ((BitVec.ofInt (IntKind.bits .u32) ((Zc xs).getD (Int.toNat (i64.wrap (Int.tdiv sh 32))) 0) &&& BitVec.ofInt (IntKind.bits .u32) (u32.wrap ((u32.wrap (1*2^(min (Int.toNat (u64.wrap (Int.tmod sh 32))) (IntKind.bits .u32))))-1))).toNat)) != 0)=true) (n1:Ze Yir 125 [.sl xs.length (lm xs)] (.fresh 1 ((Zc xs).length) (lm (Zc xs)))) (hl2:Za Yir (.loop V2) (J9 neg xs sh (Zc xs) false 0) (.exit 0) (J9 neg xs sh (Zc xs) lost i1)) (hl3:Za Yir (.loop Vh) (J1 neg xs sh (Zc xs) 0 [] lost (u64.wrap (Int.tmod sh 32)) (i64.wrap (Int.tdiv sh 32))) (.exit 2) (J1 neg xs sh (Zc xs) n cs lost (u64.wrap (Int.tmod sh 32)) i2)) (n4:0≤(i64.wrap (Int.tdiv sh 32))∧(i64.wrap (Int.tdiv sh 32))<(((Zc xs).length:Nat):Int)) (n5:¬ (u64.wrap (Int.tmod sh 32))<0) (n6:Ze Yir 106 [.bool neg, .sl n cs] (Us v)) (n7:Ze Yir 56 [.int .i64 1] (Zl 1)) (n8:Ze Yir 118 [Zl v,Zl 1] (Zl w)):Ze Yir 152 [.agg [.bool neg, .sl xs.length (lm xs)], .int .i64 sh] (Zl w):=Ze.of_bodyW (fn:=D3) (s:=(dds 4 (.box [.bool (decide (w<0)), .sl ((Zb (Int.natAbs w)).length) (lm (Zb (Int.natAbs w)))]::(dds 99 [])))) (ex := .ret) rfl rfl (Za.seq (Za.go (t:=(.val (.agg [.bool neg, .sl xs.length (lm xs)])::(vi sh::(.box [.bool neg, .sl xs.length (lm xs)]::(dds 1 (.box [.bool false, .sl 0 []]::(dds 99 []))))))) Zf 400 [] [0,1,2,4] a0) (Za.seq (Za.go (t:=(.val (.agg [.bool neg, .sl xs.length (lm xs)])::(vi sh::(.box [.bool neg, .sl xs.length (lm xs)]::(dds 1 (.box [.bool false, .sl 0 []]::(.val (.sl ((Zc xs).length) (lm (Zc xs)))::(dds 98 [])))))))) Zf 400 [.r (.fresh 1 ((Zc xs).length) (lm (Zc xs)))] [0,1,2,4,5] (ac n1 a0)) (Za.seq (Za.go (t:=(.val (.agg [.bool neg, .sl xs.length (lm xs)])::(vi sh::(.box [.bool neg, .sl xs.length (lm xs)]::(dds 1 (.box [.bool false, .sl 0 []]::(.val (.sl ((Zc xs).length) (lm (Zc xs)))::(.own 1 0 []::(dds 97 []))))))))) Zf 400 [] [0,1,2,4,5,6] a0) (Za.seq (Za.go (t:=(.val (.agg [.bool neg, .sl xs.length (lm xs)])::(vi sh::(.box [.bool neg, .sl xs.length (lm xs)]::(dds 1 (.box [.bool false, .sl 0 []]::(.val (.sl ((Zc xs).length) (lm (Zc xs)))::(.own 1 0 []::(.val (.bool false)::(dds 96 [])))))))))) Zf 400 [] [0,1,2,4,5,6,7] a0) (Za.seq (Za.seq (Za.go Zf 400 [] [1,2,4,5,6,7,8] a0) (Za.block hl2)) (Za.seq (Za.go (t:=(dds 1 (vi sh::(.box [.bool neg, .sl xs.length (lm xs)]::(dds 1 (.box [.bool false, .sl 0 []]::(.val (.sl ((Zc xs).length) (lm (Zc xs)))::(.own 1 0 []::(.val (.bool lost)::(dds 1 (.val (.int .u64 (u64.wrap (Int.tmod sh 32)))::(dds 94 [])))))))))))) Zf 400 [] [1,2,4,5,6,7,9] (ac (show ¬ (32:Int)=0 from (by decide)) a0)) (Za.seq (Za.seq (Za.go Zf 400 [] [1,2,4,5,6,7,9,10] (ac (show ¬ (32:Int)=0 from (by decide)) a0)) (Za.block hl3)) (Za.go Zf 400 [.b true, .b false, .v (.int .u32 ((Zc xs).getD (Int.toNat (i64.wrap (Int.tdiv sh 32))) 0)), .r (Us v), .b true, .b true, .r (Zl 1), .r (Zl w)] [4] (ac (show ¬ (32:Int)=0 from (by decide)) (ac c1 (ac c2 (ac (show ¬ (32:Int)=0 from (by decide)) (ac n4 (ac (Z2 n4) (ac n5 (ac n6 (ac c3 (ac c4 (ac n7 (ac n8 a0)))))))))))))))))))) (by intro i e;cases e) rfl
theorem Zf0 (neg lost:Bool) (xs:List Int) (sh i1:Int) (n:Nat) (cs:List AV) (i2 v:Int) (c1:(decide ((i64.wrap (Int.tdiv sh 32))<(((Zc xs).length:Nat):Int)))=true) (c2:(lost)=false) (c3:(neg)=true) (c4:((u32.wrap ((BitVec.ofInt (IntKind.bits .u32) ((Zc xs).getD (Int.toNat (i64.wrap (Int.tdiv sh 32))) 0) &&& BitVec.ofInt (IntKind.bits .u32) (u32.wrap ((u32.wrap (1*2^(min (Int.toNat (u64.wrap (Int.tmod sh 32))) (IntKind.bits .u32))))-1))).toNat)) != 0)=false) (n1:Ze Yir 125 [.sl xs.length (lm xs)] (.fresh 1 ((Zc xs).length) (lm (Zc xs)))) (hl2:Za Yir (.loop V2) (J9 neg xs sh (Zc xs) false 0) (.exit 0) (J9 neg xs sh (Zc xs) lost i1)) (hl3:Za Yir (.loop Vh) (J1 neg xs sh (Zc xs) 0 [] lost (u64.wrap (Int.tmod sh 32)) (i64.wrap (Int.tdiv sh 32))) (.exit 2) (J1 neg xs sh (Zc xs) n cs lost (u64.wrap (Int.tmod sh 32)) i2)) (n4:0≤(i64.wrap (Int.tdiv sh 32))∧(i64.wrap (Int.tdiv sh 32))<(((Zc xs).length:Nat):Int)) (n5:¬ (u64.wrap (Int.tmod sh 32))<0) (n6:Ze Yir 106 [.bool neg, .sl n cs] (Us v)):Ze Yir 152 [.agg [.bool neg, .sl xs.length (lm xs)], .int .i64 sh] (Zl v):=Ze.of_bodyW (fn:=D3) (s:=(dds 4 (.box [.bool (decide (v<0)), .sl ((Zb (Int.natAbs v)).length) (lm (Zb (Int.natAbs v)))]::(dds 99 [])))) (ex := .ret) rfl rfl (Za.seq (Za.go (t:=(.val (.agg [.bool neg, .sl xs.length (lm xs)])::(vi sh::(.box [.bool neg, .sl xs.length (lm xs)]::(dds 1 (.box [.bool false, .sl 0 []]::(dds 99 []))))))) Zf 400 [] [0,1,2,4] a0) (Za.seq (Za.go (t:=(.val (.agg [.bool neg, .sl xs.length (lm xs)])::(vi sh::(.box [.bool neg, .sl xs.length (lm xs)]::(dds 1 (.box [.bool false, .sl 0 []]::(.val (.sl ((Zc xs).length) (lm (Zc xs)))::(dds 98 [])))))))) Zf 400 [.r (.fresh 1 ((Zc xs).length) (lm (Zc xs)))] [0,1,2,4,5] (ac n1 a0)) (Za.seq (Za.go (t:=(.val (.agg [.bool neg, .sl xs.length (lm xs)])::(vi sh::(.box [.bool neg, .sl xs.length (lm xs)]::(dds 1 (.box [.bool false, .sl 0 []]::(.val (.sl ((Zc xs).length) (lm (Zc xs)))::(.own 1 0 []::(dds 97 []))))))))) Zf 400 [] [0,1,2,4,5,6] a0) (Za.seq (Za.go (t:=(.val (.agg [.bool neg, .sl xs.length (lm xs)])::(vi sh::(.box [.bool neg, .sl xs.length (lm xs)]::(dds 1 (.box [.bool false, .sl 0 []]::(.val (.sl ((Zc xs).length) (lm (Zc xs)))::(.own 1 0 []::(.val (.bool false)::(dds 96 [])))))))))) Zf 400 [] [0,1,2,4,5,6,7] a0) (Za.seq (Za.seq (Za.go Zf 400 [] [1,2,4,5,6,7,8] a0) (Za.block hl2)) (Za.seq (Za.go (t:=(dds 1 (vi sh::(.box [.bool neg, .sl xs.length (lm xs)]::(dds 1 (.box [.bool false, .sl 0 []]::(.val (.sl ((Zc xs).length) (lm (Zc xs)))::(.own 1 0 []::(.val (.bool lost)::(dds 1 (.val (.int .u64 (u64.wrap (Int.tmod sh 32)))::(dds 94 [])))))))))))) Zf 400 [] [1,2,4,5,6,7,9] (ac (show ¬ (32:Int)=0 from (by decide)) a0)) (Za.seq (Za.seq (Za.go Zf 400 [] [1,2,4,5,6,7,9,10] (ac (show ¬ (32:Int)=0 from (by decide)) a0)) (Za.block hl3)) (Za.go Zf 400 [.b true, .b false, .v (.int .u32 ((Zc xs).getD (Int.toNat (i64.wrap (Int.tdiv sh 32))) 0)), .r (Us v), .b true, .b false] [4] (ac (show ¬ (32:Int)=0 from (by decide)) (ac c1 (ac c2 (ac (show ¬ (32:Int)=0 from (by decide)) (ac n4 (ac (Z2 n4) (ac n5 (ac n6 (ac c3 (ac c4 a0)))))))))))))))))) (by intro i e;cases e) rfl
theorem Zfz (neg lost:Bool) (xs:List Int) (sh i1:Int) (n:Nat) (cs:List AV) (i2 v:Int) (c1:(decide ((i64.wrap (Int.tdiv sh 32))<(((Zc xs).length:Nat):Int)))=true) (c2:(lost)=false) (c3:(neg)=false) (n1:Ze Yir 125 [.sl xs.length (lm xs)] (.fresh 1 ((Zc xs).length) (lm (Zc xs)))) (hl2:Za Yir (.loop V2) (J9 neg xs sh (Zc xs) false 0) (.exit 0) (J9 neg xs sh (Zc xs) lost i1)) (hl3:Za Yir (.loop Vh) (J1 neg xs sh (Zc xs) 0 [] lost (u64.wrap (Int.tmod sh 32)) (i64.wrap (Int.tdiv sh 32))) (.exit 2) (J1 neg xs sh (Zc xs) n cs lost (u64.wrap (Int.tmod sh 32)) i2)) (n4:0≤(i64.wrap (Int.tdiv sh 32))∧(i64.wrap (Int.tdiv sh 32))<(((Zc xs).length:Nat):Int)) (n5:¬ (u64.wrap (Int.tmod sh 32))<0) (n6:Ze Yir 106 [.bool neg, .sl n cs] (Us v)):Ze Yir 152 [.agg [.bool neg, .sl xs.length (lm xs)], .int .i64 sh] (Zl v):=Ze.of_bodyW (fn:=D3) (s:=(dds 4 (.box [.bool (decide (v<0)), .sl ((Zb (Int.natAbs v)).length) (lm (Zb (Int.natAbs v)))]::(dds 99 [])))) (ex := .ret) rfl rfl (Za.seq (Za.go (t:=(.val (.agg [.bool neg, .sl xs.length (lm xs)])::(vi sh::(.box [.bool neg, .sl xs.length (lm xs)]::(dds 1 (.box [.bool false, .sl 0 []]::(dds 99 []))))))) Zf 400 [] [0,1,2,4] a0) (Za.seq (Za.go (t:=(.val (.agg [.bool neg, .sl xs.length (lm xs)])::(vi sh::(.box [.bool neg, .sl xs.length (lm xs)]::(dds 1 (.box [.bool false, .sl 0 []]::(.val (.sl ((Zc xs).length) (lm (Zc xs)))::(dds 98 [])))))))) Zf 400 [.r (.fresh 1 ((Zc xs).length) (lm (Zc xs)))] [0,1,2,4,5] (ac n1 a0)) (Za.seq (Za.go (t:=(.val (.agg [.bool neg, .sl xs.length (lm xs)])::(vi sh::(.box [.bool neg, .sl xs.length (lm xs)]::(dds 1 (.box [.bool false, .sl 0 []]::(.val (.sl ((Zc xs).length) (lm (Zc xs)))::(.own 1 0 []::(dds 97 []))))))))) Zf 400 [] [0,1,2,4,5,6] a0) (Za.seq (Za.go (t:=(.val (.agg [.bool neg, .sl xs.length (lm xs)])::(vi sh::(.box [.bool neg, .sl xs.length (lm xs)]::(dds 1 (.box [.bool false, .sl 0 []]::(.val (.sl ((Zc xs).length) (lm (Zc xs)))::(.own 1 0 []::(.val (.bool false)::(dds 96 [])))))))))) Zf 400 [] [0,1,2,4,5,6,7] a0) (Za.seq (Za.seq (Za.go Zf 400 [] [1,2,4,5,6,7,8] a0) (Za.block hl2)) (Za.seq (Za.go (t:=(dds 1 (vi sh::(.box [.bool neg, .sl xs.length (lm xs)]::(dds 1 (.box [.bool false, .sl 0 []]::(.val (.sl ((Zc xs).length) (lm (Zc xs)))::(.own 1 0 []::(.val (.bool lost)::(dds 1 (.val (.int .u64 (u64.wrap (Int.tmod sh 32)))::(dds 94 [])))))))))))) Zf 400 [] [1,2,4,5,6,7,9] (ac (show ¬ (32:Int)=0 from (by decide)) a0)) (Za.seq (Za.seq (Za.go Zf 400 [] [1,2,4,5,6,7,9,10] (ac (show ¬ (32:Int)=0 from (by decide)) a0)) (Za.block hl3)) (Za.go Zf 400 [.b true, .b false, .v (.int .u32 ((Zc xs).getD (Int.toNat (i64.wrap (Int.tdiv sh 32))) 0)), .r (Us v), .b false, .b false] [4] (ac (show ¬ (32:Int)=0 from (by decide)) (ac c1 (ac c2 (ac (show ¬ (32:Int)=0 from (by decide)) (ac n4 (ac (Z2 n4) (ac n5 (ac n6 (ac c3 (ac (show false=false from rfl) a0)))))))))))))))))) (by intro i e;cases e) rfl
theorem Zfy (neg lost:Bool) (xs:List Int) (sh i1:Int) (n:Nat) (cs:List AV) (i2 v w:Int) (c1:(decide ((i64.wrap (Int.tdiv sh 32))<(((Zc xs).length:Nat):Int)))=false) (c2:(neg)=true) (c3:(lost)=true) (n1:Ze Yir 125 [.sl xs.length (lm xs)] (.fresh 1 ((Zc xs).length) (lm (Zc xs)))) (hl2:Za Yir (.loop V2) (J9 neg xs sh (Zc xs) false 0) (.exit 0) (J9 neg xs sh (Zc xs) lost i1)) (hl3:Za Yir (.loop Vh) (J1 neg xs sh (Zc xs) 0 [] lost (u64.wrap (Int.tmod sh 32)) (i64.wrap (Int.tdiv sh 32))) (.exit 2) (J1 neg xs sh (Zc xs) n cs lost (u64.wrap (Int.tmod sh 32)) i2)) (n4:Ze Yir 106 [.bool neg, .sl n cs] (Us v)) (n5:Ze Yir 56 [.int .i64 1] (Zl 1)) (n6:Ze Yir 118 [Zl v,Zl 1] (Zl w)):Ze Yir 152 [.agg [.bool neg, .sl xs.length (lm xs)], .int .i64 sh] (Zl w):=Ze.of_bodyW (fn:=D3) (s:=(dds 4 (.box [.bool (decide (w<0)), .sl ((Zb (Int.natAbs w)).length) (lm (Zb (Int.natAbs w)))]::(dds 99 [])))) (ex := .ret) rfl rfl (Za.seq (Za.go (t:=(.val (.agg [.bool neg, .sl xs.length (lm xs)])::(vi sh::(.box [.bool neg, .sl xs.length (lm xs)]::(dds 1 (.box [.bool false, .sl 0 []]::(dds 99 []))))))) Zf 400 [] [0,1,2,4] a0) (Za.seq (Za.go (t:=(.val (.agg [.bool neg, .sl xs.length (lm xs)])::(vi sh::(.box [.bool neg, .sl xs.length (lm xs)]::(dds 1 (.box [.bool false, .sl 0 []]::(.val (.sl ((Zc xs).length) (lm (Zc xs)))::(dds 98 [])))))))) Zf 400 [.r (.fresh 1 ((Zc xs).length) (lm (Zc xs)))] [0,1,2,4,5] (ac n1 a0)) (Za.seq (Za.go (t:=(.val (.agg [.bool neg, .sl xs.length (lm xs)])::(vi sh::(.box [.bool neg, .sl xs.length (lm xs)]::(dds 1 (.box [.bool false, .sl 0 []]::(.val (.sl ((Zc xs).length) (lm (Zc xs)))::(.own 1 0 []::(dds 97 []))))))))) Zf 400 [] [0,1,2,4,5,6] a0) (Za.seq (Za.go (t:=(.val (.agg [.bool neg, .sl xs.length (lm xs)])::(vi sh::(.box [.bool neg, .sl xs.length (lm xs)]::(dds 1 (.box [.bool false, .sl 0 []]::(.val (.sl ((Zc xs).length) (lm (Zc xs)))::(.own 1 0 []::(.val (.bool false)::(dds 96 [])))))))))) Zf 400 [] [0,1,2,4,5,6,7] a0) (Za.seq (Za.seq (Za.go Zf 400 [] [1,2,4,5,6,7,8] a0) (Za.block hl2)) (Za.seq (Za.go (t:=(dds 1 (vi sh::(.box [.bool neg, .sl xs.length (lm xs)]::(dds 1 (.box [.bool false, .sl 0 []]::(.val (.sl ((Zc xs).length) (lm (Zc xs)))::(.own 1 0 []::(.val (.bool lost)::(dds 1 (.val (.int .u64 (u64.wrap (Int.tmod sh 32)))::(dds 94 [])))))))))))) Zf 400 [] [1,2,4,5,6,7,9] (ac (show ¬ (32:Int)=0 from (by decide)) a0)) (Za.seq (Za.seq (Za.go Zf 400 [] [1,2,4,5,6,7,9,10] (ac (show ¬ (32:Int)=0 from (by decide)) a0)) (Za.block hl3)) (Za.go Zf 400 [.b false, .r (Us v), .b true, .b true, .r (Zl 1), .r (Zl w)] [4] (ac (show ¬ (32:Int)=0 from (by decide)) (ac c1 (ac n4 (ac c2 (ac c3 (ac n5 (ac n6 a0))))))))))))))) (by intro i e;cases e) rfl
theorem Zfx (neg lost:Bool) (xs:List Int) (sh i1:Int) (n:Nat) (cs:List AV) (i2 v:Int) (c1:(decide ((i64.wrap (Int.tdiv sh 32))<(((Zc xs).length:Nat):Int)))=false) (c2:(neg)=true) (c3:(lost)=false) (n1:Ze Yir 125 [.sl xs.length (lm xs)] (.fresh 1 ((Zc xs).length) (lm (Zc xs)))) (hl2:Za Yir (.loop V2) (J9 neg xs sh (Zc xs) false 0) (.exit 0) (J9 neg xs sh (Zc xs) lost i1)) (hl3:Za Yir (.loop Vh) (J1 neg xs sh (Zc xs) 0 [] lost (u64.wrap (Int.tmod sh 32)) (i64.wrap (Int.tdiv sh 32))) (.exit 2) (J1 neg xs sh (Zc xs) n cs lost (u64.wrap (Int.tmod sh 32)) i2)) (n4:Ze Yir 106 [.bool neg, .sl n cs] (Us v)):Ze Yir 152 [.agg [.bool neg, .sl xs.length (lm xs)], .int .i64 sh] (Zl v):=Ze.of_bodyW (fn:=D3) (s:=(dds 4 (.box [.bool (decide (v<0)), .sl ((Zb (Int.natAbs v)).length) (lm (Zb (Int.natAbs v)))]::(dds 99 [])))) (ex := .ret) rfl rfl (Za.seq (Za.go (t:=(.val (.agg [.bool neg, .sl xs.length (lm xs)])::(vi sh::(.box [.bool neg, .sl xs.length (lm xs)]::(dds 1 (.box [.bool false, .sl 0 []]::(dds 99 []))))))) Zf 400 [] [0,1,2,4] a0) (Za.seq (Za.go (t:=(.val (.agg [.bool neg, .sl xs.length (lm xs)])::(vi sh::(.box [.bool neg, .sl xs.length (lm xs)]::(dds 1 (.box [.bool false, .sl 0 []]::(.val (.sl ((Zc xs).length) (lm (Zc xs)))::(dds 98 [])))))))) Zf 400 [.r (.fresh 1 ((Zc xs).length) (lm (Zc xs)))] [0,1,2,4,5] (ac n1 a0)) (Za.seq (Za.go (t:=(.val (.agg [.bool neg, .sl xs.length (lm xs)])::(vi sh::(.box [.bool neg, .sl xs.length (lm xs)]::(dds 1 (.box [.bool false, .sl 0 []]::(.val (.sl ((Zc xs).length) (lm (Zc xs)))::(.own 1 0 []::(dds 97 []))))))))) Zf 400 [] [0,1,2,4,5,6] a0) (Za.seq (Za.go (t:=(.val (.agg [.bool neg, .sl xs.length (lm xs)])::(vi sh::(.box [.bool neg, .sl xs.length (lm xs)]::(dds 1 (.box [.bool false, .sl 0 []]::(.val (.sl ((Zc xs).length) (lm (Zc xs)))::(.own 1 0 []::(.val (.bool false)::(dds 96 [])))))))))) Zf 400 [] [0,1,2,4,5,6,7] a0) (Za.seq (Za.seq (Za.go Zf 400 [] [1,2,4,5,6,7,8] a0) (Za.block hl2)) (Za.seq (Za.go (t:=(dds 1 (vi sh::(.box [.bool neg, .sl xs.length (lm xs)]::(dds 1 (.box [.bool false, .sl 0 []]::(.val (.sl ((Zc xs).length) (lm (Zc xs)))::(.own 1 0 []::(.val (.bool lost)::(dds 1 (.val (.int .u64 (u64.wrap (Int.tmod sh 32)))::(dds 94 [])))))))))))) Zf 400 [] [1,2,4,5,6,7,9] (ac (show ¬ (32:Int)=0 from (by decide)) a0)) (Za.seq (Za.seq (Za.go Zf 400 [] [1,2,4,5,6,7,9,10] (ac (show ¬ (32:Int)=0 from (by decide)) a0)) (Za.block hl3)) (Za.go Zf 400 [.b false, .r (Us v), .b true, .b false] [4] (ac (show ¬ (32:Int)=0 from (by decide)) (ac c1 (ac n4 (ac c2 (ac c3 a0))))))))))))) (by intro i e;cases e) rfl
theorem Zfw (neg lost:Bool) (xs:List Int) (sh i1:Int) (n:Nat) (cs:List AV) (i2 v:Int) (c1:(decide ((i64.wrap (Int.tdiv sh 32))<(((Zc xs).length:Nat):Int)))=false) (c2:(neg)=false) (n1:Ze Yir 125 [.sl xs.length (lm xs)] (.fresh 1 ((Zc xs).length) (lm (Zc xs)))) (hl2:Za Yir (.loop V2) (J9 neg xs sh (Zc xs) false 0) (.exit 0) (J9 neg xs sh (Zc xs) lost i1)) (hl3:Za Yir (.loop Vh) (J1 neg xs sh (Zc xs) 0 [] lost (u64.wrap (Int.tmod sh 32)) (i64.wrap (Int.tdiv sh 32))) (.exit 2) (J1 neg xs sh (Zc xs) n cs lost (u64.wrap (Int.tmod sh 32)) i2)) (n4:Ze Yir 106 [.bool neg, .sl n cs] (Us v)):Ze Yir 152 [.agg [.bool neg, .sl xs.length (lm xs)], .int .i64 sh] (Zl v):=Ze.of_bodyW (fn:=D3) (s:=(dds 4 (.box [.bool (decide (v<0)), .sl ((Zb (Int.natAbs v)).length) (lm (Zb (Int.natAbs v)))]::(dds 99 [])))) (ex := .ret) rfl rfl (Za.seq (Za.go (t:=(.val (.agg [.bool neg, .sl xs.length (lm xs)])::(vi sh::(.box [.bool neg, .sl xs.length (lm xs)]::(dds 1 (.box [.bool false, .sl 0 []]::(dds 99 []))))))) Zf 400 [] [0,1,2,4] a0) (Za.seq (Za.go (t:=(.val (.agg [.bool neg, .sl xs.length (lm xs)])::(vi sh::(.box [.bool neg, .sl xs.length (lm xs)]::(dds 1 (.box [.bool false, .sl 0 []]::(.val (.sl ((Zc xs).length) (lm (Zc xs)))::(dds 98 [])))))))) Zf 400 [.r (.fresh 1 ((Zc xs).length) (lm (Zc xs)))] [0,1,2,4,5] (ac n1 a0)) (Za.seq (Za.go (t:=(.val (.agg [.bool neg, .sl xs.length (lm xs)])::(vi sh::(.box [.bool neg, .sl xs.length (lm xs)]::(dds 1 (.box [.bool false, .sl 0 []]::(.val (.sl ((Zc xs).length) (lm (Zc xs)))::(.own 1 0 []::(dds 97 []))))))))) Zf 400 [] [0,1,2,4,5,6] a0) (Za.seq (Za.go (t:=(.val (.agg [.bool neg, .sl xs.length (lm xs)])::(vi sh::(.box [.bool neg, .sl xs.length (lm xs)]::(dds 1 (.box [.bool false, .sl 0 []]::(.val (.sl ((Zc xs).length) (lm (Zc xs)))::(.own 1 0 []::(.val (.bool false)::(dds 96 [])))))))))) Zf 400 [] [0,1,2,4,5,6,7] a0) (Za.seq (Za.seq (Za.go Zf 400 [] [1,2,4,5,6,7,8] a0) (Za.block hl2)) (Za.seq (Za.go (t:=(dds 1 (vi sh::(.box [.bool neg, .sl xs.length (lm xs)]::(dds 1 (.box [.bool false, .sl 0 []]::(.val (.sl ((Zc xs).length) (lm (Zc xs)))::(.own 1 0 []::(.val (.bool lost)::(dds 1 (.val (.int .u64 (u64.wrap (Int.tmod sh 32)))::(dds 94 [])))))))))))) Zf 400 [] [1,2,4,5,6,7,9] (ac (show ¬ (32:Int)=0 from (by decide)) a0)) (Za.seq (Za.seq (Za.go Zf 400 [] [1,2,4,5,6,7,9,10] (ac (show ¬ (32:Int)=0 from (by decide)) a0)) (Za.block hl3)) (Za.go Zf 400 [.b false, .r (Us v), .b false, .b false] [4] (ac (show ¬ (32:Int)=0 from (by decide)) (ac c1 (ac n4 (ac c2 (ac (show false=false from rfl) a0))))))))))))) (by intro i e;cases e) rfl
def A3 (xs:List Int) (ys:List Int) (k:Nat) (qs:List Int) (r:Int) (i:Int):Zk:=(.val (.sl xs.length (lm xs))::(.val (.sl ys.length (lm ys))::(dds 2 (.own 1 0 []::(.own 1 0 []::(.own 1 k (lm qs)::(.val (.int .u64 r)::(.val (.int .i64 i)::(dds 298 [])))))))))
theorem Zm2 (xs:List Int) (ys:List Int) (k:Nat) (qs:List Int) (r:Int) (i:Int)  (c1:(decide (i≥0))=true) (n1:0≤i∧i<(xs.length:Int)) (n2:0≤(0:Int)∧(0:Int)<(ys.length:Int)) (n3:¬ (u64.wrap (ys.getD (Int.toNat 0) 0))=0) (n4:0≤i∧i<(k:Int)) (n5:qs.length=k):Za Yir Pm (A3 xs ys k qs r i) .norm (A3 xs ys k (qs.set (Int.toNat i) (u32.wrap (u64.wrap (Int.tdiv (u64.wrap ((BitVec.ofInt (IntKind.bits .u64) (u64.wrap (r*2^(min (Int.toNat 32) (IntKind.bits .u64)))) ||| BitVec.ofInt (IntKind.bits .u64) (u64.wrap (xs.getD (Int.toNat i) 0))).toNat)) (u64.wrap (ys.getD (Int.toNat 0) 0)))))) (Int.tmod (u64.wrap ((BitVec.ofInt (IntKind.bits .u64) (u64.wrap (r*2^(min (Int.toNat 32) (IntKind.bits .u64)))) ||| BitVec.ofInt (IntKind.bits .u64) (u64.wrap (xs.getD (Int.toNat i) 0))).toNat)) (u64.wrap (ys.getD (Int.toNat 0) 0))) (i64.wrap (i-1))):=(Za.go Zf 400 [.b true, .v (.int .u32 (xs.getD (Int.toNat i) 0)), .v (.int .u32 (ys.getD (Int.toNat 0) 0)), .l (lm (qs.set (Int.toNat i) (u32.wrap (u64.wrap (Int.tdiv (u64.wrap ((BitVec.ofInt (IntKind.bits .u64) (u64.wrap (r*2^(min (Int.toNat 32) (IntKind.bits .u64)))) ||| BitVec.ofInt (IntKind.bits .u64) (u64.wrap (xs.getD (Int.toNat i) 0))).toNat)) (u64.wrap (ys.getD (Int.toNat 0) 0))))))), .v (.int .u32 (ys.getD (Int.toNat 0) 0))] [0,1,4,5,6,7,8] (ac c1 (ac (show ¬ (32:Int)<0 from (by decide)) (ac n1 (ac (Z2 n1) (ac n2 (ac (Z2 n2) (ac n3 (ac n4 (ac (show Xq (lm qs) (Int.toNat i*1) [.int .u32 (u32.wrap (u64.wrap (Int.tdiv (u64.wrap ((BitVec.ofInt (IntKind.bits .u64) (u64.wrap (r*2^(min (Int.toNat 32) (IntKind.bits .u64)))) ||| BitVec.ofInt (IntKind.bits .u64) (u64.wrap (xs.getD (Int.toNat i) 0))).toNat)) (u64.wrap (ys.getD (Int.toNat 0) 0)))))]=some (lm (qs.set (Int.toNat i) (u32.wrap (u64.wrap (Int.tdiv (u64.wrap ((BitVec.ofInt (IntKind.bits .u64) (u64.wrap (r*2^(min (Int.toNat 32) (IntKind.bits .u64)))) ||| BitVec.ofInt (IntKind.bits .u64) (u64.wrap (xs.getD (Int.toNat i) 0))).toNat)) (u64.wrap (ys.getD (Int.toNat 0) 0))))))) from (Jd n5 n4)) (ac n2 (ac (Z2 n2) (ac n3 a0)))))))))))))
theorem Zm1 (xs:List Int) (ys:List Int) (k:Nat) (qs:List Int) (r:Int) (i:Int)  (c1:(decide (i≥0))=false):Za Yir Pm (A3 xs ys k qs r i) (.exit 0) (A3 xs ys k qs r i):=(Za.go Zf 400 [.b false] [0,1,4,5,6,7,8] (ac c1 a0))
def Do (xs:List Int) (ys:List Int) (s:Int):Zk:=(.val (.sl xs.length (lm xs))::(.val (.sl ys.length (lm ys))::(dds 2 (.own 1 0 []::(.own 1 0 []::(dds 3 (.val (.int .i64 s)::(dds 297 []))))))))
theorem Zm0 (xs:List Int) (ys:List Int) (s:Int)  (c1:((u32.wrap ((BitVec.ofInt (IntKind.bits .u32) (u32.wrap ((ys.getD (Int.toNat (i64.wrap ((ys.length:Int)-1))) 0)*2^(min (Int.toNat (u64.wrap s)) (IntKind.bits .u32)))) &&& BitVec.ofInt (IntKind.bits .u32) 2147483648).toNat))==0)=true) (n1:0≤(i64.wrap ((ys.length:Int)-1))∧(i64.wrap ((ys.length:Int)-1))<(ys.length:Int)) (n2:¬ (u64.wrap s)<0):Za Yir Pk (Do xs ys s) .norm (Do xs ys (i64.wrap (s+1))):=(Za.go Zf 400 [.v (.int .u32 (ys.getD (Int.toNat (i64.wrap ((ys.length:Int)-1))) 0)), .b true] [0,1,4,5,9] (ac n1 (ac (Z2 n1) (ac n2 (ac c1 a0)))))
theorem Zmz (xs:List Int) (ys:List Int) (s:Int)  (c1:((u32.wrap ((BitVec.ofInt (IntKind.bits .u32) (u32.wrap ((ys.getD (Int.toNat (i64.wrap ((ys.length:Int)-1))) 0)*2^(min (Int.toNat (u64.wrap s)) (IntKind.bits .u32)))) &&& BitVec.ofInt (IntKind.bits .u32) 2147483648).toNat))==0)=false) (n1:0≤(i64.wrap ((ys.length:Int)-1))∧(i64.wrap ((ys.length:Int)-1))<(ys.length:Int)) (n2:¬ (u64.wrap s)<0):Za Yir Pk (Do xs ys s) (.exit 2) (Do xs ys s):=(Za.go Zf 400 [.v (.int .u32 (ys.getD (Int.toNat (i64.wrap ((ys.length:Int)-1))) 0)), .b false] [0,1,4,5,9] (ac n1 (ac (Z2 n1) (ac n2 (ac c1 a0)))))
def X3 (k:Nat) (us:List Int) (vs:List Int) (n:Int) (kq:Nat) (qs:List Int) (s:Int) (j:Int) (g:Int) (r:Int):Zk:=(dds 4 (.own 1 0 []::(.own 1 0 []::(dds 3 (.val (.int .i64 s)::(.val (.sl vs.length (lm vs))::(.own 1 k (lm us)::(.val (.int .i64 n)::(.own 1 kq (lm qs)::(.val (.int .i64 j)::(dds 1 (.val (.int .u64 g)::(.val (.int .u64 r)::(dds 289 []))))))))))))))
theorem Zm8 (k:Nat) (us:List Int) (vs:List Int) (n:Int) (kq:Nat) (qs:List Int) (s:Int) (j:Int) (g:Int) (r:Int)  (c1:(decide (g≥4294967296))=true) (c2:(decide ((u64.wrap (r+(u64.wrap (vs.getD (Int.toNat (i64.wrap (n-1))) 0))))≥4294967296))=true) (n1:0≤(i64.wrap (n-1))∧(i64.wrap (n-1))<(vs.length:Int)):Za Yir Ke (X3 k us vs n kq qs s j g r) (.exit 6) (X3 k us vs n kq qs s j (u64.wrap (g-1)) (u64.wrap (r+(u64.wrap (vs.getD (Int.toNat (i64.wrap (n-1))) 0))))):=(Za.go Zf 400 [.b true, .b true, .v (.int .u32 (vs.getD (Int.toNat (i64.wrap (n-1))) 0)), .b true] [4,5,9,10,11,12,13,14,16,17] (ac c1 (ac (show true=true from rfl) (ac n1 (ac (Z2 n1) (ac c2 a0))))))
theorem Zm7 (k:Nat) (us:List Int) (vs:List Int) (n:Int) (kq:Nat) (qs:List Int) (s:Int) (j:Int) (g:Int) (r:Int)  (c1:(decide (g≥4294967296))=true) (c2:(decide ((u64.wrap (r+(u64.wrap (vs.getD (Int.toNat (i64.wrap (n-1))) 0))))≥4294967296))=false) (n1:0≤(i64.wrap (n-1))∧(i64.wrap (n-1))<(vs.length:Int)):Za Yir Ke (X3 k us vs n kq qs s j g r) .norm (X3 k us vs n kq qs s j (u64.wrap (g-1)) (u64.wrap (r+(u64.wrap (vs.getD (Int.toNat (i64.wrap (n-1))) 0))))):=(Za.go Zf 400 [.b true, .b true, .v (.int .u32 (vs.getD (Int.toNat (i64.wrap (n-1))) 0)), .b false] [4,5,9,10,11,12,13,14,16,17] (ac c1 (ac (show true=true from rfl) (ac n1 (ac (Z2 n1) (ac c2 a0))))))
theorem Zm6 (k:Nat) (us:List Int) (vs:List Int) (n:Int) (kq:Nat) (qs:List Int) (s:Int) (j:Int) (g:Int) (r:Int)  (c1:(decide (g≥4294967296))=false) (c2:(decide (r<4294967296))=true) (c3:(decide ((u64.wrap (g*(u64.wrap (vs.getD (Int.toNat (i64.wrap (n-2))) 0))))>(u64.wrap ((BitVec.ofInt (IntKind.bits .u64) (u64.wrap (r*2^(min (Int.toNat 32) (IntKind.bits .u64)))) ||| BitVec.ofInt (IntKind.bits .u64) (u64.wrap (us.getD (Int.toNat (i64.wrap ((i64.wrap (j+n))-2))) 0))).toNat))))=true) (c4:(decide ((u64.wrap (r+(u64.wrap (vs.getD (Int.toNat (i64.wrap (n-1))) 0))))≥4294967296))=true) (n1:0≤(i64.wrap (n-2))∧(i64.wrap (n-2))<(vs.length:Int)) (n2:0≤(i64.wrap ((i64.wrap (j+n))-2))∧(i64.wrap ((i64.wrap (j+n))-2))<(k:Int)) (n3:us.length=k) (n4:0≤(i64.wrap (n-1))∧(i64.wrap (n-1))<(vs.length:Int)):Za Yir Ke (X3 k us vs n kq qs s j g r) (.exit 6) (X3 k us vs n kq qs s j (u64.wrap (g-1)) (u64.wrap (r+(u64.wrap (vs.getD (Int.toNat (i64.wrap (n-1))) 0))))):=(Za.go Zf 400 [.b false, .b true, .v (.int .u32 (vs.getD (Int.toNat (i64.wrap (n-2))) 0)), .v (.int .u32 (us.getD (Int.toNat (i64.wrap ((i64.wrap (j+n))-2))) 0)), .b false, .b true, .b true, .v (.int .u32 (vs.getD (Int.toNat (i64.wrap (n-1))) 0)), .b true] [4,5,9,10,11,12,13,14,16,17] (ac c1 (ac c2 (ac n1 (ac (Z2 n1) (ac (show ¬ (32:Int)<0 from (by decide)) (ac n2 (ac (Qs n3 n2) (ac c1 (ac c2 (ac c3 (ac n4 (ac (Z2 n4) (ac c4 a0))))))))))))))
theorem Zm5 (k:Nat) (us:List Int) (vs:List Int) (n:Int) (kq:Nat) (qs:List Int) (s:Int) (j:Int) (g:Int) (r:Int)  (c1:(decide (g≥4294967296))=false) (c2:(decide (r<4294967296))=true) (c3:(decide ((u64.wrap (g*(u64.wrap (vs.getD (Int.toNat (i64.wrap (n-2))) 0))))>(u64.wrap ((BitVec.ofInt (IntKind.bits .u64) (u64.wrap (r*2^(min (Int.toNat 32) (IntKind.bits .u64)))) ||| BitVec.ofInt (IntKind.bits .u64) (u64.wrap (us.getD (Int.toNat (i64.wrap ((i64.wrap (j+n))-2))) 0))).toNat))))=true) (c4:(decide ((u64.wrap (r+(u64.wrap (vs.getD (Int.toNat (i64.wrap (n-1))) 0))))≥4294967296))=false) (n1:0≤(i64.wrap (n-2))∧(i64.wrap (n-2))<(vs.length:Int)) (n2:0≤(i64.wrap ((i64.wrap (j+n))-2))∧(i64.wrap ((i64.wrap (j+n))-2))<(k:Int)) (n3:us.length=k) (n4:0≤(i64.wrap (n-1))∧(i64.wrap (n-1))<(vs.length:Int)):Za Yir Ke (X3 k us vs n kq qs s j g r) .norm (X3 k us vs n kq qs s j (u64.wrap (g-1)) (u64.wrap (r+(u64.wrap (vs.getD (Int.toNat (i64.wrap (n-1))) 0))))):=(Za.go Zf 400 [.b false, .b true, .v (.int .u32 (vs.getD (Int.toNat (i64.wrap (n-2))) 0)), .v (.int .u32 (us.getD (Int.toNat (i64.wrap ((i64.wrap (j+n))-2))) 0)), .b false, .b true, .b true, .v (.int .u32 (vs.getD (Int.toNat (i64.wrap (n-1))) 0)), .b false] [4,5,9,10,11,12,13,14,16,17] (ac c1 (ac c2 (ac n1 (ac (Z2 n1) (ac (show ¬ (32:Int)<0 from (by decide)) (ac n2 (ac (Qs n3 n2) (ac c1 (ac c2 (ac c3 (ac n4 (ac (Z2 n4) (ac c4 a0))))))))))))))
theorem Za5 (k:Nat) (us:List Int) (vs:List Int) (n:Int) (kq:Nat) (qs:List Int) (s:Int) (j:Int) (g:Int) (r:Int)  (c1:(decide (g≥4294967296))=false) (c2:(decide (r<4294967296))=true) (c3:(decide ((u64.wrap (g*(u64.wrap (vs.getD (Int.toNat (i64.wrap (n-2))) 0))))>(u64.wrap ((BitVec.ofInt (IntKind.bits .u64) (u64.wrap (r*2^(min (Int.toNat 32) (IntKind.bits .u64)))) ||| BitVec.ofInt (IntKind.bits .u64) (u64.wrap (us.getD (Int.toNat (i64.wrap ((i64.wrap (j+n))-2))) 0))).toNat))))=false) (n1:0≤(i64.wrap (n-2))∧(i64.wrap (n-2))<(vs.length:Int)) (n2:0≤(i64.wrap ((i64.wrap (j+n))-2))∧(i64.wrap ((i64.wrap (j+n))-2))<(k:Int)) (n3:us.length=k):Za Yir Ke (X3 k us vs n kq qs s j g r) (.exit 6) (X3 k us vs n kq qs s j g r):=(Za.go Zf 400 [.b false, .b true, .v (.int .u32 (vs.getD (Int.toNat (i64.wrap (n-2))) 0)), .v (.int .u32 (us.getD (Int.toNat (i64.wrap ((i64.wrap (j+n))-2))) 0)), .b false, .b true, .b false] [4,5,9,10,11,12,13,14,16,17] (ac c1 (ac c2 (ac n1 (ac (Z2 n1) (ac (show ¬ (32:Int)<0 from (by decide)) (ac n2 (ac (Qs n3 n2) (ac c1 (ac c2 (ac c3 a0)))))))))))
def Hx (k:Nat) (us:List Int) (vs:List Int) (n:Int) (kq:Nat) (qs:List Int) (s:Int) (j:Int) (g:Int) (b:Int) (c:Int) (i:Int):Zk:=(dds 4 (.own 1 0 []::(.own 1 0 []::(dds 3 (.val (.int .i64 s)::(.val (.sl vs.length (lm vs))::(.own 1 k (lm us)::(.val (.int .i64 n)::(.own 1 kq (lm qs)::(.val (.int .i64 j)::(dds 1 (.val (.int .u64 g)::(dds 1 (.val (.int .u64 b)::(.val (.int .u64 c)::(.val (.int .i64 i)::(dds 286 [])))))))))))))))))
theorem Zm4 (k:Nat) (us:List Int) (vs:List Int) (n:Int) (kq:Nat) (qs:List Int) (s:Int) (j:Int) (g:Int) (b:Int) (c:Int) (i:Int)  (c1:(decide (i<n))=true) (n1:0≤i∧i<(vs.length:Int)) (n2:0≤(i64.wrap (i+j))∧(i64.wrap (i+j))<(k:Int)) (n3:us.length=k):Za Yir Nd (Hx k us vs n kq qs s j g b c i) .norm (Hx k (us.set (Int.toNat (i64.wrap (i+j))) (u32.wrap (u64.wrap ((u64.wrap ((u64.wrap (us.getD (Int.toNat (i64.wrap (i+j))) 0))-(u64.wrap ((BitVec.ofInt (IntKind.bits .u64) (u64.wrap (c+(u64.wrap (g*(u64.wrap (vs.getD (Int.toNat i) 0)))))) &&& BitVec.ofInt (IntKind.bits .u64) 4294967295).toNat))))-b)))) vs n kq qs s j g (Int.fdiv (u64.wrap ((u64.wrap ((u64.wrap (us.getD (Int.toNat (i64.wrap (i+j))) 0))-(u64.wrap ((BitVec.ofInt (IntKind.bits .u64) (u64.wrap (c+(u64.wrap (g*(u64.wrap (vs.getD (Int.toNat i) 0)))))) &&& BitVec.ofInt (IntKind.bits .u64) 4294967295).toNat))))-b)) (2^(min (Int.toNat 63) (IntKind.bits .u64)))) (Int.fdiv (u64.wrap (c+(u64.wrap (g*(u64.wrap (vs.getD (Int.toNat i) 0)))))) (2^(min (Int.toNat 32) (IntKind.bits .u64)))) (i64.wrap (i+1))):=(Za.go Zf 400 [.b true, .v (.int .u32 (vs.getD (Int.toNat i) 0)), .v (.int .u32 (us.getD (Int.toNat (i64.wrap (i+j))) 0)), .l (lm (us.set (Int.toNat (i64.wrap (i+j))) (u32.wrap (u64.wrap ((u64.wrap ((u64.wrap (us.getD (Int.toNat (i64.wrap (i+j))) 0))-(u64.wrap ((BitVec.ofInt (IntKind.bits .u64) (u64.wrap (c+(u64.wrap (g*(u64.wrap (vs.getD (Int.toNat i) 0)))))) &&& BitVec.ofInt (IntKind.bits .u64) 4294967295).toNat))))-b)))))] [4,5,9,10,11,12,13,14,16,18,19,20] (ac c1 (ac n1 (ac (Z2 n1) (ac n2 (ac (Qs n3 n2) (ac n2 (ac (show Xq (lm us) (Int.toNat (i64.wrap (i+j))*1) [.int .u32 (u32.wrap (u64.wrap ((u64.wrap ((u64.wrap (us.getD (Int.toNat (i64.wrap (i+j))) 0))-(u64.wrap ((BitVec.ofInt (IntKind.bits .u64) (u64.wrap (c+(u64.wrap (g*(u64.wrap (vs.getD (Int.toNat i) 0)))))) &&& BitVec.ofInt (IntKind.bits .u64) 4294967295).toNat))))-b)))]=some (lm (us.set (Int.toNat (i64.wrap (i+j))) (u32.wrap (u64.wrap ((u64.wrap ((u64.wrap (us.getD (Int.toNat (i64.wrap (i+j))) 0))-(u64.wrap ((BitVec.ofInt (IntKind.bits .u64) (u64.wrap (c+(u64.wrap (g*(u64.wrap (vs.getD (Int.toNat i) 0)))))) &&& BitVec.ofInt (IntKind.bits .u64) 4294967295).toNat))))-b))))) from (Jd n3 n2)) (ac (show ¬ (63:Int)<0 from (by decide)) (ac (show ¬ (32:Int)<0 from (by decide)) a0))))))))))
theorem Zm3 (k:Nat) (us:List Int) (vs:List Int) (n:Int) (kq:Nat) (qs:List Int) (s:Int) (j:Int) (g:Int) (b:Int) (c:Int) (i:Int)  (c1:(decide (i<n))=false):Za Yir Nd (Hx k us vs n kq qs s j g b c i) (.exit 8) (Hx k us vs n kq qs s j g b c i):=(Za.go Zf 400 [.b false] [4,5,9,10,11,12,13,14,16,18,19,20] (ac c1 a0))
def Dp (k:Nat) (us:List Int) (vs:List Int) (n:Int) (kq:Nat) (qs:List Int) (s:Int) (j:Int) (g:Int) (c:Int) (i:Int):Zk:=(dds 4 (.own 1 0 []::(.own 1 0 []::(dds 3 (.val (.int .i64 s)::(.val (.sl vs.length (lm vs))::(.own 1 k (lm us)::(.val (.int .i64 n)::(.own 1 kq (lm qs)::(.val (.int .i64 j)::(dds 1 (.val (.int .u64 g)::(dds 6 (.val (.int .u64 c)::(.val (.int .i64 i)::(dds 282 []))))))))))))))))
theorem Zna (k:Nat) (us:List Int) (vs:List Int) (n:Int) (kq:Nat) (qs:List Int) (s:Int) (j:Int) (g:Int) (c:Int) (i:Int)  (c1:(decide (i<n))=true) (n1:0≤(i64.wrap (i+j))∧(i64.wrap (i+j))<(k:Int)) (n2:us.length=k) (n3:0≤i∧i<(vs.length:Int)):Za Yir Pn (Dp k us vs n kq qs s j g c i) .norm (Dp k (us.set (Int.toNat (i64.wrap (i+j))) (u32.wrap (u64.wrap (c+(u64.wrap ((u64.wrap (us.getD (Int.toNat (i64.wrap (i+j))) 0))+(u64.wrap (vs.getD (Int.toNat i) 0)))))))) vs n kq qs s j g (Int.fdiv (u64.wrap (c+(u64.wrap ((u64.wrap (us.getD (Int.toNat (i64.wrap (i+j))) 0))+(u64.wrap (vs.getD (Int.toNat i) 0)))))) (2^(min (Int.toNat 32) (IntKind.bits .u64)))) (i64.wrap (i+1))):=(Za.go Zf 400 [.b true, .v (.int .u32 (us.getD (Int.toNat (i64.wrap (i+j))) 0)), .v (.int .u32 (vs.getD (Int.toNat i) 0)), .l (lm (us.set (Int.toNat (i64.wrap (i+j))) (u32.wrap (u64.wrap (c+(u64.wrap ((u64.wrap (us.getD (Int.toNat (i64.wrap (i+j))) 0))+(u64.wrap (vs.getD (Int.toNat i) 0)))))))))] [4,5,9,10,11,12,13,14,16,23,24] (ac c1 (ac n1 (ac (Qs n2 n1) (ac n3 (ac (Z2 n3) (ac n1 (ac (show Xq (lm us) (Int.toNat (i64.wrap (i+j))*1) [.int .u32 (u32.wrap (u64.wrap (c+(u64.wrap ((u64.wrap (us.getD (Int.toNat (i64.wrap (i+j))) 0))+(u64.wrap (vs.getD (Int.toNat i) 0)))))))]=some (lm (us.set (Int.toNat (i64.wrap (i+j))) (u32.wrap (u64.wrap (c+(u64.wrap ((u64.wrap (us.getD (Int.toNat (i64.wrap (i+j))) 0))+(u64.wrap (vs.getD (Int.toNat i) 0))))))))) from (Jd n2 n1)) (ac (show ¬ (32:Int)<0 from (by decide)) a0)))))))))
theorem Zm9 (k:Nat) (us:List Int) (vs:List Int) (n:Int) (kq:Nat) (qs:List Int) (s:Int) (j:Int) (g:Int) (c:Int) (i:Int)  (c1:(decide (i<n))=false):Za Yir Pn (Dp k us vs n kq qs s j g c i) (.exit 10) (Dp k us vs n kq qs s j g c i):=(Za.go Zf 400 [.b false] [4,5,9,10,11,12,13,14,16,23,24] (ac c1 a0))
def F5 (k:Nat) (us:List Int) (vs:List Int) (n:Int) (kq:Nat) (qs:List Int) (s:Int) (j:Int):Zk:=(dds 4 (.own 1 0 []::(.own 1 0 []::(dds 3 (.val (.int .i64 s)::(.val (.sl vs.length (lm vs))::(.own 1 k (lm us)::(.val (.int .i64 n)::(.own 1 kq (lm qs)::(.val (.int .i64 j)::(dds 292 [])))))))))))
theorem Zt4 (k:Nat) (us:List Int) (vs:List Int) (n:Int) (kq:Nat) (qs:List Int) (s:Int) (j:Int) (us1 us2:List Int) (g r b c cc:Int) (c1:(decide (j≥0))=true) (c2:((Int.fdiv (u64.wrap ((u64.wrap ((u64.wrap (us1.getD (Int.toNat (i64.wrap (j+n))) 0))-c))-b)) (2^(min (Int.toNat 63) (IntKind.bits .u64)))) != 0)=true) (n1:0≤(i64.wrap (j+n))∧(i64.wrap (j+n))<(k:Int)) (n2:us.length=k) (n3:0≤(i64.wrap ((i64.wrap (j+n))-1))∧(i64.wrap ((i64.wrap (j+n))-1))<(k:Int)) (n4:0≤(i64.wrap (n-1))∧(i64.wrap (n-1))<(vs.length:Int)) (n5:¬ (u64.wrap (vs.getD (Int.toNat (i64.wrap (n-1))) 0))=0) (hl6:Za Yir (.loop Ke) (X3 k us vs n kq qs s j (u64.wrap (Int.tdiv (u64.wrap ((BitVec.ofInt (IntKind.bits .u64) (u64.wrap ((u64.wrap (us.getD (Int.toNat (i64.wrap (j+n))) 0))*2^(min (Int.toNat 32) (IntKind.bits .u64)))) ||| BitVec.ofInt (IntKind.bits .u64) (u64.wrap (us.getD (Int.toNat (i64.wrap ((i64.wrap (j+n))-1))) 0))).toNat)) (u64.wrap (vs.getD (Int.toNat (i64.wrap (n-1))) 0)))) (Int.tmod (u64.wrap ((BitVec.ofInt (IntKind.bits .u64) (u64.wrap ((u64.wrap (us.getD (Int.toNat (i64.wrap (j+n))) 0))*2^(min (Int.toNat 32) (IntKind.bits .u64)))) ||| BitVec.ofInt (IntKind.bits .u64) (u64.wrap (us.getD (Int.toNat (i64.wrap ((i64.wrap (j+n))-1))) 0))).toNat)) (u64.wrap (vs.getD (Int.toNat (i64.wrap (n-1))) 0)))) (.exit 6) (X3 k us vs n kq qs s j g r)) (hl7:Za Yir (.loop Nd) (Hx k us vs n kq qs s j g 0 0 0) (.exit 8) (Hx k us1 vs n kq qs s j g b c n)) (n8:us1.length=k) (hl9:Za Yir (.loop Pn) (Dp k (us1.set (Int.toNat (i64.wrap (j+n))) (u32.wrap (u64.wrap ((u64.wrap ((u64.wrap (us1.getD (Int.toNat (i64.wrap (j+n))) 0))-c))-b)))) vs n kq qs s j (u64.wrap (g-1)) 0 0) (.exit 10) (Dp k us2 vs n kq qs s j (u64.wrap (g-1)) cc n)) (n10:us2.length=k) (n11:0≤j∧j<(kq:Int)) (n12:qs.length=kq):Za Yir Po (F5 k us vs n kq qs s j) .norm (F5 k (us2.set (Int.toNat (i64.wrap (j+n))) (u32.wrap ((us2.getD (Int.toNat (i64.wrap (j+n))) 0)+(u32.wrap cc)))) vs n kq (qs.set (Int.toNat j) (u32.wrap (u64.wrap (g-1)))) s (i64.wrap (j-1))):=(Za.seq (Za.go (t:=(dds 4 (.own 1 0 []::(.own 1 0 []::(dds 3 (vi s::(vl vs::(.own 1 k (lm us)::(vi n::(.own 1 kq (lm qs)::(vi j::(dds 292 [])))))))))))) Zf 400 [.b true] [4,5,9,10,11,12,13,14] (ac c1 a0)) (Za.seq (Za.block_norm (Za.seq (Za.go (t:=(dds 4 (.own 1 0 []::(.own 1 0 []::(dds 3 (vi s::(vl vs::(.own 1 k (lm us)::(vi n::(.own 1 kq (lm qs)::(vi j::(.val (.int .u64 (u64.wrap ((BitVec.ofInt (IntKind.bits .u64) (u64.wrap ((u64.wrap (us.getD (Int.toNat (i64.wrap (j+n))) 0))*2^(min (Int.toNat 32) (IntKind.bits .u64)))) ||| BitVec.ofInt (IntKind.bits .u64) (u64.wrap (us.getD (Int.toNat (i64.wrap ((i64.wrap (j+n))-1))) 0))).toNat)))::(dds 291 []))))))))))))) Zf 400 [.v (.int .u32 (us.getD (Int.toNat (i64.wrap (j+n))) 0)), .v (.int .u32 (us.getD (Int.toNat (i64.wrap ((i64.wrap (j+n))-1))) 0))] [4,5,9,10,11,12,13,14,15] (ac n1 (ac (Qs n2 n1) (ac (show ¬ (32:Int)<0 from (by decide)) (ac n3 (ac (Qs n2 n3) a0)))))) (Za.seq (Za.go Zf 400 [.v (.int .u32 (vs.getD (Int.toNat (i64.wrap (n-1))) 0)), .v (.int .u32 (vs.getD (Int.toNat (i64.wrap (n-1))) 0))] [4,5,9,10,11,12,13,14,16,17] (ac n4 (ac (Z2 n4) (ac n5 (ac n4 (ac (Z2 n4) (ac n5 a0))))))) (Za.seq (Za.block hl6) (Za.seq (Za.go (t:=(dds 4 (.own 1 0 []::(.own 1 0 []::(dds 3 (vi s::(vl vs::(.own 1 k (lm us)::(vi n::(.own 1 kq (lm qs)::(vi j::(dds 1 (.val (.int .u64 g)::(dds 1 (.val (.int .u64 0)::(.val (.int .u64 0)::(dds 287 []))))))))))))))))) Zf 400 [] [4,5,9,10,11,12,13,14,16,18,19] a0) (Za.seq (Za.seq (Za.go Zf 400 [] [4,5,9,10,11,12,13,14,16,18,19,20] a0) (Za.block hl7)) (Za.seq (Za.go (t:=(dds 4 (.own 1 0 []::(.own 1 0 []::(dds 3 (vi s::(vl vs::(.own 1 k (lm us1)::(vi n::(.own 1 kq (lm qs)::(vi j::(dds 1 (.val (.int .u64 g)::(dds 5 (.val (.int .u64 (u64.wrap ((u64.wrap ((u64.wrap (us1.getD (Int.toNat (i64.wrap (j+n))) 0))-c))-b)))::(dds 284 [])))))))))))))))) Zf 400 [.v (.int .u32 (us1.getD (Int.toNat (i64.wrap (j+n))) 0))] [4,5,9,10,11,12,13,14,16,22] (ac n1 (ac (Qs n8 n1) a0))) (Za.seq (Za.go (t:=(dds 4 (.own 1 0 []::(.own 1 0 []::(dds 3 (vi s::(vl vs::(.own 1 k (lm (us1.set (Int.toNat (i64.wrap (j+n))) (u32.wrap (u64.wrap ((u64.wrap ((u64.wrap (us1.getD (Int.toNat (i64.wrap (j+n))) 0))-c))-b)))))::(vi n::(.own 1 kq (lm qs)::(vi j::(dds 1 (.val (.int .u64 g)::(dds 5 (.val (.int .u64 (u64.wrap ((u64.wrap ((u64.wrap (us1.getD (Int.toNat (i64.wrap (j+n))) 0))-c))-b)))::(dds 284 [])))))))))))))))) Zf 400 [.l (lm (us1.set (Int.toNat (i64.wrap (j+n))) (u32.wrap (u64.wrap ((u64.wrap ((u64.wrap (us1.getD (Int.toNat (i64.wrap (j+n))) 0))-c))-b)))))] [4,5,9,10,11,12,13,14,16,22] (ac n1 (ac (show Xq (lm us1) (Int.toNat (i64.wrap (j+n))*1) [.int .u32 (u32.wrap (u64.wrap ((u64.wrap ((u64.wrap (us1.getD (Int.toNat (i64.wrap (j+n))) 0))-c))-b)))]=some (lm (us1.set (Int.toNat (i64.wrap (j+n))) (u32.wrap (u64.wrap ((u64.wrap ((u64.wrap (us1.getD (Int.toNat (i64.wrap (j+n))) 0))-c))-b))))) from (Jd n8 n1)) a0))) (Za.seq (Za.seq (Za.go (t:=(dds 4 (.own 1 0 []::(.own 1 0 []::(dds 3 (vi s::(vl vs::(.own 1 k (lm (us1.set (Int.toNat (i64.wrap (j+n))) (u32.wrap (u64.wrap ((u64.wrap ((u64.wrap (us1.getD (Int.toNat (i64.wrap (j+n))) 0))-c))-b)))))::(vi n::(.own 1 kq (lm qs)::(vi j::(dds 1 (.val (.int .u64 g)::(dds 236 (.val (.bool ((Int.fdiv (u64.wrap ((u64.wrap ((u64.wrap (us1.getD (Int.toNat (i64.wrap (j+n))) 0))-c))-b)) (2^(min (Int.toNat 63) (IntKind.bits .u64)))) != 0))::(dds 53 [])))))))))))))))) Zf 400 [] [4,5,9,10,11,12,13,14,16,253] (ac (show ¬ (63:Int)<0 from (by decide)) a0)) (Za.cond_t (by rfl) c2 (Za.seq (Za.go (t:=(dds 4 (.own 1 0 []::(.own 1 0 []::(dds 3 (vi s::(vl vs::(.own 1 k (lm (us1.set (Int.toNat (i64.wrap (j+n))) (u32.wrap (u64.wrap ((u64.wrap ((u64.wrap (us1.getD (Int.toNat (i64.wrap (j+n))) 0))-c))-b)))))::(vi n::(.own 1 kq (lm qs)::(vi j::(dds 1 (.val (.int .u64 (u64.wrap (g-1)))::(dds 290 [])))))))))))))) Zf 400 [] [4,5,9,10,11,12,13,14,16] a0) (Za.seq (Za.go (t:=(dds 4 (.own 1 0 []::(.own 1 0 []::(dds 3 (vi s::(vl vs::(.own 1 k (lm (us1.set (Int.toNat (i64.wrap (j+n))) (u32.wrap (u64.wrap ((u64.wrap ((u64.wrap (us1.getD (Int.toNat (i64.wrap (j+n))) 0))-c))-b)))))::(vi n::(.own 1 kq (lm qs)::(vi j::(dds 1 (.val (.int .u64 (u64.wrap (g-1)))::(dds 6 (.val (.int .u64 0)::(dds 283 [])))))))))))))))) Zf 400 [] [4,5,9,10,11,12,13,14,16,23] a0) (Za.seq (Za.seq (Za.go Zf 400 [] [4,5,9,10,11,12,13,14,16,23,24] a0) (Za.block hl9)) (Za.go (t:=(dds 4 (.own 1 0 []::(.own 1 0 []::(dds 3 (vi s::(vl vs::(.own 1 k (lm (us2.set (Int.toNat (i64.wrap (j+n))) (u32.wrap ((us2.getD (Int.toNat (i64.wrap (j+n))) 0)+(u32.wrap cc)))))::(vi n::(.own 1 kq (lm qs)::(vi j::(dds 1 (.val (.int .u64 (u64.wrap (g-1)))::(dds 290 [])))))))))))))) Zf 400 [.v (.int .u32 (us2.getD (Int.toNat (i64.wrap (j+n))) 0)), .l (lm (us2.set (Int.toNat (i64.wrap (j+n))) (u32.wrap ((us2.getD (Int.toNat (i64.wrap (j+n))) 0)+(u32.wrap cc)))))] [4,5,9,10,11,12,13,14,16] (ac n1 (ac (Qs n10 n1) (ac n1 (ac (show Xq (lm us2) (Int.toNat (i64.wrap (j+n))*1) [.int .u32 (u32.wrap ((us2.getD (Int.toNat (i64.wrap (j+n))) 0)+(u32.wrap cc)))]=some (lm (us2.set (Int.toNat (i64.wrap (j+n))) (u32.wrap ((us2.getD (Int.toNat (i64.wrap (j+n))) 0)+(u32.wrap cc))))) from (Jd n10 n1)) a0)))))))))) (Za.go (t:=(dds 4 (.own 1 0 []::(.own 1 0 []::(dds 3 (vi s::(vl vs::(.own 1 k (lm (us2.set (Int.toNat (i64.wrap (j+n))) (u32.wrap ((us2.getD (Int.toNat (i64.wrap (j+n))) 0)+(u32.wrap cc)))))::(vi n::(.own 1 kq (lm (qs.set (Int.toNat j) (u32.wrap (u64.wrap (g-1)))))::(vi j::(dds 292 [])))))))))))) Zf 400 [.l (lm (qs.set (Int.toNat j) (u32.wrap (u64.wrap (g-1)))))] [4,5,9,10,11,12,13,14] (ac n11 (ac (show Xq (lm qs) (Int.toNat j*1) [.int .u32 (u32.wrap (u64.wrap (g-1)))]=some (lm (qs.set (Int.toNat j) (u32.wrap (u64.wrap (g-1))))) from (Jd n12 n11)) a0)))))))))))) (Za.go Zf 400 [] [4,5,9,10,11,12,13,14] a0)))
theorem Zt3 (k:Nat) (us:List Int) (vs:List Int) (n:Int) (kq:Nat) (qs:List Int) (s:Int) (j:Int) (us1:List Int) (g r b c:Int) (c1:(decide (j≥0))=true) (c2:((Int.fdiv (u64.wrap ((u64.wrap ((u64.wrap (us1.getD (Int.toNat (i64.wrap (j+n))) 0))-c))-b)) (2^(min (Int.toNat 63) (IntKind.bits .u64)))) != 0)=false) (n1:0≤(i64.wrap (j+n))∧(i64.wrap (j+n))<(k:Int)) (n2:us.length=k) (n3:0≤(i64.wrap ((i64.wrap (j+n))-1))∧(i64.wrap ((i64.wrap (j+n))-1))<(k:Int)) (n4:0≤(i64.wrap (n-1))∧(i64.wrap (n-1))<(vs.length:Int)) (n5:¬ (u64.wrap (vs.getD (Int.toNat (i64.wrap (n-1))) 0))=0) (hl6:Za Yir (.loop Ke) (X3 k us vs n kq qs s j (u64.wrap (Int.tdiv (u64.wrap ((BitVec.ofInt (IntKind.bits .u64) (u64.wrap ((u64.wrap (us.getD (Int.toNat (i64.wrap (j+n))) 0))*2^(min (Int.toNat 32) (IntKind.bits .u64)))) ||| BitVec.ofInt (IntKind.bits .u64) (u64.wrap (us.getD (Int.toNat (i64.wrap ((i64.wrap (j+n))-1))) 0))).toNat)) (u64.wrap (vs.getD (Int.toNat (i64.wrap (n-1))) 0)))) (Int.tmod (u64.wrap ((BitVec.ofInt (IntKind.bits .u64) (u64.wrap ((u64.wrap (us.getD (Int.toNat (i64.wrap (j+n))) 0))*2^(min (Int.toNat 32) (IntKind.bits .u64)))) ||| BitVec.ofInt (IntKind.bits .u64) (u64.wrap (us.getD (Int.toNat (i64.wrap ((i64.wrap (j+n))-1))) 0))).toNat)) (u64.wrap (vs.getD (Int.toNat (i64.wrap (n-1))) 0)))) (.exit 6) (X3 k us vs n kq qs s j g r)) (hl7:Za Yir (.loop Nd) (Hx k us vs n kq qs s j g 0 0 0) (.exit 8) (Hx k us1 vs n kq qs s j g b c n)) (n8:us1.length=k) (n9:0≤j∧j<(kq:Int)) (n10:qs.length=kq):Za Yir Po (F5 k us vs n kq qs s j) .norm (F5 k (us1.set (Int.toNat (i64.wrap (j+n))) (u32.wrap (u64.wrap ((u64.wrap ((u64.wrap (us1.getD (Int.toNat (i64.wrap (j+n))) 0))-c))-b)))) vs n kq (qs.set (Int.toNat j) (u32.wrap g)) s (i64.wrap (j-1))):=(Za.seq (Za.go (t:=(dds 4 (.own 1 0 []::(.own 1 0 []::(dds 3 (vi s::(vl vs::(.own 1 k (lm us)::(vi n::(.own 1 kq (lm qs)::(vi j::(dds 292 [])))))))))))) Zf 400 [.b true] [4,5,9,10,11,12,13,14] (ac c1 a0)) (Za.seq (Za.block_norm (Za.seq (Za.go (t:=(dds 4 (.own 1 0 []::(.own 1 0 []::(dds 3 (vi s::(vl vs::(.own 1 k (lm us)::(vi n::(.own 1 kq (lm qs)::(vi j::(.val (.int .u64 (u64.wrap ((BitVec.ofInt (IntKind.bits .u64) (u64.wrap ((u64.wrap (us.getD (Int.toNat (i64.wrap (j+n))) 0))*2^(min (Int.toNat 32) (IntKind.bits .u64)))) ||| BitVec.ofInt (IntKind.bits .u64) (u64.wrap (us.getD (Int.toNat (i64.wrap ((i64.wrap (j+n))-1))) 0))).toNat)))::(dds 291 []))))))))))))) Zf 400 [.v (.int .u32 (us.getD (Int.toNat (i64.wrap (j+n))) 0)), .v (.int .u32 (us.getD (Int.toNat (i64.wrap ((i64.wrap (j+n))-1))) 0))] [4,5,9,10,11,12,13,14,15] (ac n1 (ac (Qs n2 n1) (ac (show ¬ (32:Int)<0 from (by decide)) (ac n3 (ac (Qs n2 n3) a0)))))) (Za.seq (Za.go Zf 400 [.v (.int .u32 (vs.getD (Int.toNat (i64.wrap (n-1))) 0)), .v (.int .u32 (vs.getD (Int.toNat (i64.wrap (n-1))) 0))] [4,5,9,10,11,12,13,14,16,17] (ac n4 (ac (Z2 n4) (ac n5 (ac n4 (ac (Z2 n4) (ac n5 a0))))))) (Za.seq (Za.block hl6) (Za.seq (Za.go (t:=(dds 4 (.own 1 0 []::(.own 1 0 []::(dds 3 (vi s::(vl vs::(.own 1 k (lm us)::(vi n::(.own 1 kq (lm qs)::(vi j::(dds 1 (.val (.int .u64 g)::(dds 1 (.val (.int .u64 0)::(.val (.int .u64 0)::(dds 287 []))))))))))))))))) Zf 400 [] [4,5,9,10,11,12,13,14,16,18,19] a0) (Za.seq (Za.seq (Za.go Zf 400 [] [4,5,9,10,11,12,13,14,16,18,19,20] a0) (Za.block hl7)) (Za.seq (Za.go (t:=(dds 4 (.own 1 0 []::(.own 1 0 []::(dds 3 (vi s::(vl vs::(.own 1 k (lm us1)::(vi n::(.own 1 kq (lm qs)::(vi j::(dds 1 (.val (.int .u64 g)::(dds 5 (.val (.int .u64 (u64.wrap ((u64.wrap ((u64.wrap (us1.getD (Int.toNat (i64.wrap (j+n))) 0))-c))-b)))::(dds 284 [])))))))))))))))) Zf 400 [.v (.int .u32 (us1.getD (Int.toNat (i64.wrap (j+n))) 0))] [4,5,9,10,11,12,13,14,16,22] (ac n1 (ac (Qs n8 n1) a0))) (Za.seq (Za.go (t:=(dds 4 (.own 1 0 []::(.own 1 0 []::(dds 3 (vi s::(vl vs::(.own 1 k (lm (us1.set (Int.toNat (i64.wrap (j+n))) (u32.wrap (u64.wrap ((u64.wrap ((u64.wrap (us1.getD (Int.toNat (i64.wrap (j+n))) 0))-c))-b)))))::(vi n::(.own 1 kq (lm qs)::(vi j::(dds 1 (.val (.int .u64 g)::(dds 5 (.val (.int .u64 (u64.wrap ((u64.wrap ((u64.wrap (us1.getD (Int.toNat (i64.wrap (j+n))) 0))-c))-b)))::(dds 284 [])))))))))))))))) Zf 400 [.l (lm (us1.set (Int.toNat (i64.wrap (j+n))) (u32.wrap (u64.wrap ((u64.wrap ((u64.wrap (us1.getD (Int.toNat (i64.wrap (j+n))) 0))-c))-b)))))] [4,5,9,10,11,12,13,14,16,22] (ac n1 (ac (show Xq (lm us1) (Int.toNat (i64.wrap (j+n))*1) [.int .u32 (u32.wrap (u64.wrap ((u64.wrap ((u64.wrap (us1.getD (Int.toNat (i64.wrap (j+n))) 0))-c))-b)))]=some (lm (us1.set (Int.toNat (i64.wrap (j+n))) (u32.wrap (u64.wrap ((u64.wrap ((u64.wrap (us1.getD (Int.toNat (i64.wrap (j+n))) 0))-c))-b))))) from (Jd n8 n1)) a0))) (Za.seq (Za.seq (Za.go (t:=(dds 4 (.own 1 0 []::(.own 1 0 []::(dds 3 (vi s::(vl vs::(.own 1 k (lm (us1.set (Int.toNat (i64.wrap (j+n))) (u32.wrap (u64.wrap ((u64.wrap ((u64.wrap (us1.getD (Int.toNat (i64.wrap (j+n))) 0))-c))-b)))))::(vi n::(.own 1 kq (lm qs)::(vi j::(dds 1 (.val (.int .u64 g)::(dds 236 (.val (.bool ((Int.fdiv (u64.wrap ((u64.wrap ((u64.wrap (us1.getD (Int.toNat (i64.wrap (j+n))) 0))-c))-b)) (2^(min (Int.toNat 63) (IntKind.bits .u64)))) != 0))::(dds 53 [])))))))))))))))) Zf 400 [] [4,5,9,10,11,12,13,14,16,253] (ac (show ¬ (63:Int)<0 from (by decide)) a0)) (Za.cond_f (by rfl) c2 (Za.go (t:=(dds 4 (.own 1 0 []::(.own 1 0 []::(dds 3 (vi s::(vl vs::(.own 1 k (lm (us1.set (Int.toNat (i64.wrap (j+n))) (u32.wrap (u64.wrap ((u64.wrap ((u64.wrap (us1.getD (Int.toNat (i64.wrap (j+n))) 0))-c))-b)))))::(vi n::(.own 1 kq (lm qs)::(vi j::(dds 1 (.val (.int .u64 g)::(dds 290 [])))))))))))))) Zf 400 [] [4,5,9,10,11,12,13,14,16] a0))) (Za.go (t:=(dds 4 (.own 1 0 []::(.own 1 0 []::(dds 3 (vi s::(vl vs::(.own 1 k (lm (us1.set (Int.toNat (i64.wrap (j+n))) (u32.wrap (u64.wrap ((u64.wrap ((u64.wrap (us1.getD (Int.toNat (i64.wrap (j+n))) 0))-c))-b)))))::(vi n::(.own 1 kq (lm (qs.set (Int.toNat j) (u32.wrap g)))::(vi j::(dds 292 [])))))))))))) Zf 400 [.l (lm (qs.set (Int.toNat j) (u32.wrap g)))] [4,5,9,10,11,12,13,14] (ac n9 (ac (show Xq (lm qs) (Int.toNat j*1) [.int .u32 (u32.wrap g)]=some (lm (qs.set (Int.toNat j) (u32.wrap g))) from (Jd n10 n9)) a0)))))))))))) (Za.go Zf 400 [] [4,5,9,10,11,12,13,14] a0)))
theorem Zt2 (k:Nat) (us:List Int) (vs:List Int) (n:Int) (kq:Nat) (qs:List Int) (s:Int) (j:Int)  (c1:(decide (j≥0))=false):Za Yir Po (F5 k us vs n kq qs s j) (.exit 4) (F5 k us vs n kq qs s j):=(Za.seq_out (Za.go Zf 400 [.b false] [4,5,9,10,11,12,13,14] (ac c1 a0)) (by intro e;cases e))
theorem Zf6 (xs ys:List Int) (cm:Int) (c1:(decide (cm<0))=true) (n1:Ze Yir 139 [.sl xs.length (lm xs), .sl ys.length (lm ys)] (.int .i64 cm)):Ze Yir 149 [.sl xs.length (lm xs), .sl ys.length (lm ys)] (.tup [.sl 0 [], .sl xs.length (lm xs)]):=Ze.of_bodyW (fn:=Ta) (s:=(dds 1 (.val (.sl ys.length (lm ys))::(dds 2 (.own 1 0 []::(.val (.sl xs.length (lm xs))::(dds 301 []))))))) (ex := .ret) rfl rfl (Za.seq (Za.go (t:=(vl xs::(vl ys::(dds 2 (.own 1 0 []::(.own 1 0 []::(dds 301 []))))))) Zf 400 [] [0,1,4,5] a0) (Za.seq_out (Za.go Zf 400 [.r (.int .i64 cm), .b true] [1,4,5] (ac n1 (ac c1 a0))) (by intro e;cases e))) (by intro i e;cases e) rfl
theorem Zf5 (xs ys qs:List Int) (cm r i:Int) (k:Nat) (c1:(decide (cm<0))=false) (c2:((ys.length:Int)==1)=true) (n1:Ze Yir 139 [.sl xs.length (lm xs), .sl ys.length (lm ys)] (.int .i64 cm)) (n2:0≤(xs.length:Int)∧(xs.length:Int)≤1048576) (hl3:Za Yir (.loop Pm) ((.val (.sl xs.length (lm xs))::(.val (.sl ys.length (lm ys))::(dds 2 (.own 1 0 []::(.own 1 0 []::(.own 1 (Int.toNat (xs.length:Int)) (Q7 [.int .u32 0] (Int.toNat (xs.length:Int)))::(.val (.int .u64 0)::(.val (.int .i64 (i64.wrap ((xs.length:Int)-1)))::(dds 298 [])))))))))) (.exit 0) (A3 xs ys k qs r i)) (n4:Ze Yir 125 [.sl k (lm qs)] (.fresh 1 ((Zc qs).length) (lm (Zc qs)))) (n5:Ze Yir 125 [.sl 1 [.int .u32 (u32.wrap r)]] (.fresh 1 ((Zc [u32.wrap r]).length) (lm (Zc [u32.wrap r])))):Ze Yir 149 [.sl xs.length (lm xs), .sl ys.length (lm ys)] (.tup [.sl ((Zc qs).length) (lm (Zc qs)), .sl ((Zc [u32.wrap r]).length) (lm (Zc [u32.wrap r]))]):=Ze.of_bodyW (fn:=Ta) (s:=(dds 1 (.val (.sl ys.length (lm ys))::(dds 2 (.own 1 ((Zc qs).length) (lm (Zc qs))::(.own 1 ((Zc [u32.wrap r]).length) (lm (Zc [u32.wrap r]))::(dds 301 []))))))) (ex := .ret) rfl rfl (Za.seq (Za.go (t:=(vl xs::(vl ys::(dds 2 (.own 1 0 []::(.own 1 0 []::(dds 301 []))))))) Zf 400 [] [0,1,4,5] a0) (Za.seq (Za.go (t:=(vl xs::(vl ys::(dds 2 (.own 1 0 []::(.own 1 0 []::(dds 301 []))))))) Zf 400 [.r (.int .i64 cm), .b false] [0,1,4,5] (ac n1 (ac c1 a0))) (Za.seq_out (Za.seq (Za.go (t:=(vl xs::(vl ys::(dds 2 (.own 1 0 []::(.own 1 0 []::(dds 26 (.val (.bool ((ys.length:Int)==1))::(dds 274 []))))))))) Zf 400 [] [0,1,4,5,32] a0) (Za.cond_t (by rfl) c2 (Za.seq (Za.go (t:=(vl xs::(vl ys::(dds 2 (.own 1 0 []::(.own 1 0 []::(.own 1 (Int.toNat (xs.length:Int)) (Q7 [.int .u32 0] (Int.toNat (xs.length:Int)))::(dds 25 (.val (.bool ((ys.length:Int)==1))::(dds 274 [])))))))))) Zf 400 [] [0,1,4,5,6,32] (ac n2 a0)) (Za.seq (Za.go (t:=(vl xs::(vl ys::(dds 2 (.own 1 0 []::(.own 1 0 []::(.own 1 (Int.toNat (xs.length:Int)) (Q7 [.int .u32 0] (Int.toNat (xs.length:Int)))::(.val (.int .u64 0)::(dds 24 (.val (.bool ((ys.length:Int)==1))::(dds 274 []))))))))))) Zf 400 [] [0,1,4,5,6,7,32] a0) (Za.seq (Za.seq (Za.go Zf 400 [] [0,1,4,5,6,7,8] a0) (Za.block hl3)) (Za.go Zf 400 [.r (.fresh 1 ((Zc qs).length) (lm (Zc qs))), .r (.fresh 1 ((Zc [u32.wrap r]).length) (lm (Zc [u32.wrap r])))] [1,4,5] (ac n4 (ac n5 a0)))))))) (by intro e;cases e)))) (by intro i e;cases e) rfl
theorem Zf4 (xs ys qs us vs:List Int) (cm s n j U V w:Int) (k kq:Nat) (c1:(decide (cm<0))=false) (c2:((ys.length:Int)==1)=false) (n1:Ze Yir 139 [.sl xs.length (lm xs), .sl ys.length (lm ys)] (.int .i64 cm)) (hl2:Za Yir (.loop Pk) (Do xs ys 0) (.exit 2) (Do xs ys s)) (n3:Ze Yir 126 [.agg [.bool false, .sl ys.length (lm ys)], .int .i64 s] (Us V)) (n4:((Zb (Int.natAbs U)).length)+2≤1048576) (n5:Ze Yir 126 [.agg [.bool false, .sl xs.length (lm xs)], .int .i64 s] (Us U)) (n6:0≤(if (i64.wrap ((ys.length:Int)+1))>(i64.wrap ((xs.length:Int)+1)) then (i64.wrap ((ys.length:Int)+1)) else (i64.wrap ((xs.length:Int)+1)))∧(if (i64.wrap ((ys.length:Int)+1))>(i64.wrap ((xs.length:Int)+1)) then (i64.wrap ((ys.length:Int)+1)) else (i64.wrap ((xs.length:Int)+1)))≤(((((Zb (Int.natAbs U)).length)+2):Nat):Int)) (n7:0≤(i64.wrap ((((Int.toNat (if (i64.wrap ((ys.length:Int)+1))>(i64.wrap ((xs.length:Int)+1)) then (i64.wrap ((ys.length:Int)+1)) else (i64.wrap ((xs.length:Int)+1)))):Nat):Int)-(((Zb (Int.natAbs V)).length:Nat):Int)))∧(i64.wrap ((((Int.toNat (if (i64.wrap ((ys.length:Int)+1))>(i64.wrap ((xs.length:Int)+1)) then (i64.wrap ((ys.length:Int)+1)) else (i64.wrap ((xs.length:Int)+1)))):Nat):Int)-(((Zb (Int.natAbs V)).length:Nat):Int)))≤1048576) (hl8:Za Yir (.loop Po) ((dds 4 (.own 1 0 []::(.own 1 0 []::(dds 3 (.val (.int .i64 s)::(.val (.sl ((Zb (Int.natAbs V)).length) (lm (Zb (Int.natAbs V))))::(.own 1 (Int.toNat (if (i64.wrap ((ys.length:Int)+1))>(i64.wrap ((xs.length:Int)+1)) then (i64.wrap ((ys.length:Int)+1)) else (i64.wrap ((xs.length:Int)+1)))) (List.take (Int.toNat (if (i64.wrap ((ys.length:Int)+1))>(i64.wrap ((xs.length:Int)+1)) then (i64.wrap ((ys.length:Int)+1)) else (i64.wrap ((xs.length:Int)+1)))*1) ((lm (Zb (Int.natAbs U)))++([.int .u32 0, .int .u32 0]:List AV)))::(.val (.int .i64 (((Zb (Int.natAbs V)).length:Nat):Int))::(.own 1 (Int.toNat (i64.wrap ((((Int.toNat (if (i64.wrap ((ys.length:Int)+1))>(i64.wrap ((xs.length:Int)+1)) then (i64.wrap ((ys.length:Int)+1)) else (i64.wrap ((xs.length:Int)+1)))):Nat):Int)-(((Zb (Int.natAbs V)).length:Nat):Int)))) (Q7 [.int .u32 0] (Int.toNat (i64.wrap ((((Int.toNat (if (i64.wrap ((ys.length:Int)+1))>(i64.wrap ((xs.length:Int)+1)) then (i64.wrap ((ys.length:Int)+1)) else (i64.wrap ((xs.length:Int)+1)))):Nat):Int)-(((Zb (Int.natAbs V)).length:Nat):Int)))))::(.val (.int .i64 (i64.wrap ((i64.wrap ((((Int.toNat (if (i64.wrap ((ys.length:Int)+1))>(i64.wrap ((xs.length:Int)+1)) then (i64.wrap ((ys.length:Int)+1)) else (i64.wrap ((xs.length:Int)+1)))):Nat):Int)-(((Zb (Int.natAbs V)).length:Nat):Int)))-1)))::(dds 292 [])))))))))))) (.exit 4) (F5 k us vs n kq qs s j)) (n9:Ze Yir 125 [.sl kq (lm qs)] (.fresh 1 ((Zc qs).length) (lm (Zc qs)))) (n10:Ze Yir 152 [.agg [.bool false, .sl k (lm us)], .int .i64 s] (Zl w)):Ze Yir 149 [.sl xs.length (lm xs), .sl ys.length (lm ys)] (.tup [.sl ((Zc qs).length) (lm (Zc qs)), .sl ((Zb (Int.natAbs w)).length) (lm (Zb (Int.natAbs w)))]):=Ze.of_bodyW (fn:=Ta) (s:=(dds 4 (.own 1 ((Zc qs).length) (lm (Zc qs))::(.val (.sl ((Zb (Int.natAbs w)).length) (lm (Zb (Int.natAbs w))))::(dds 301 []))))) (ex := .ret) rfl rfl (Za.seq (Za.go (t:=(vl xs::(vl ys::(dds 2 (.own 1 0 []::(.own 1 0 []::(dds 301 []))))))) Zf 400 [] [0,1,4,5] a0) (Za.seq (Za.go (t:=(vl xs::(vl ys::(dds 2 (.own 1 0 []::(.own 1 0 []::(dds 301 []))))))) Zf 400 [.r (.int .i64 cm), .b false] [0,1,4,5] (ac n1 (ac c1 a0))) (Za.seq (Za.seq (Za.go (t:=(vl xs::(vl ys::(dds 2 (.own 1 0 []::(.own 1 0 []::(dds 26 (.val (.bool ((ys.length:Int)==1))::(dds 274 []))))))))) Zf 400 [] [0,1,4,5,32] a0) (Za.cond_f (by rfl) c2 (Za.go (t:=(vl xs::(vl ys::(dds 2 (.own 1 0 []::(.own 1 0 []::(dds 26 (.val (.bool ((ys.length:Int)==1))::(dds 274 []))))))))) Zf 400 [] [0,1,4,5,32] a0))) (Za.seq (Za.go Zf 400 [] [0,1,4,5,9] a0) (Za.seq (Za.block hl2) (Za.seq (Za.go (t:=(vl xs::(vl ys::(dds 2 (.own 1 0 []::(.own 1 0 []::(dds 3 (vi s::(.val (.sl ((Zb (Int.natAbs V)).length) (lm (Zb (Int.natAbs V))))::(dds 296 [])))))))))) Zf 400 [.r (Us V)] [0,1,4,5,9,10] (ac n3 a0)) (Za.seq (Za.go (t:=(vl xs::(vl ys::(dds 2 (.own 1 0 []::(.own 1 0 []::(dds 3 (vi s::(.val (.sl ((Zb (Int.natAbs V)).length) (lm (Zb (Int.natAbs V))))::(.own 1 (((Zb (Int.natAbs U)).length)+2) ((lm (Zb (Int.natAbs U)))++([.int .u32 0, .int .u32 0]:List AV))::(dds 295 []))))))))))) Zf 400 [.r (Us U)] [0,1,4,5,9,10,11] (ac n5 (ac (show List.length ([.int .u32 0, .int .u32 0]:List AV)=2*1 from rfl) (ac n4 a0)))) (Za.seq (Za.go (t:=(vl xs::(vl ys::(dds 2 (.own 1 0 []::(.own 1 0 []::(dds 3 (vi s::(.val (.sl ((Zb (Int.natAbs V)).length) (lm (Zb (Int.natAbs V))))::(.own 1 (Int.toNat (if (i64.wrap ((ys.length:Int)+1))>(i64.wrap ((xs.length:Int)+1)) then (i64.wrap ((ys.length:Int)+1)) else (i64.wrap ((xs.length:Int)+1)))) (List.take (Int.toNat (if (i64.wrap ((ys.length:Int)+1))>(i64.wrap ((xs.length:Int)+1)) then (i64.wrap ((ys.length:Int)+1)) else (i64.wrap ((xs.length:Int)+1)))*1) ((lm (Zb (Int.natAbs U)))++([.int .u32 0, .int .u32 0]:List AV)))::(dds 295 []))))))))))) Zf 400 [] [0,1,4,5,9,10,11] (ac n6 a0)) (Za.seq (Za.go (t:=(vl xs::(vl ys::(dds 2 (.own 1 0 []::(.own 1 0 []::(dds 3 (vi s::(.val (.sl ((Zb (Int.natAbs V)).length) (lm (Zb (Int.natAbs V))))::(.own 1 (Int.toNat (if (i64.wrap ((ys.length:Int)+1))>(i64.wrap ((xs.length:Int)+1)) then (i64.wrap ((ys.length:Int)+1)) else (i64.wrap ((xs.length:Int)+1)))) (List.take (Int.toNat (if (i64.wrap ((ys.length:Int)+1))>(i64.wrap ((xs.length:Int)+1)) then (i64.wrap ((ys.length:Int)+1)) else (i64.wrap ((xs.length:Int)+1)))*1) ((lm (Zb (Int.natAbs U)))++([.int .u32 0, .int .u32 0]:List AV)))::(vi (((Zb (Int.natAbs V)).length:Nat):Int)::(dds 294 [])))))))))))) Zf 400 [] [0,1,4,5,9,10,11,12] a0) (Za.seq (Za.go (t:=(vl xs::(vl ys::(dds 2 (.own 1 0 []::(.own 1 0 []::(dds 3 (vi s::(.val (.sl ((Zb (Int.natAbs V)).length) (lm (Zb (Int.natAbs V))))::(.own 1 (Int.toNat (if (i64.wrap ((ys.length:Int)+1))>(i64.wrap ((xs.length:Int)+1)) then (i64.wrap ((ys.length:Int)+1)) else (i64.wrap ((xs.length:Int)+1)))) (List.take (Int.toNat (if (i64.wrap ((ys.length:Int)+1))>(i64.wrap ((xs.length:Int)+1)) then (i64.wrap ((ys.length:Int)+1)) else (i64.wrap ((xs.length:Int)+1)))*1) ((lm (Zb (Int.natAbs U)))++([.int .u32 0, .int .u32 0]:List AV)))::(vi (((Zb (Int.natAbs V)).length:Nat):Int)::(.own 1 (Int.toNat (i64.wrap ((((Int.toNat (if (i64.wrap ((ys.length:Int)+1))>(i64.wrap ((xs.length:Int)+1)) then (i64.wrap ((ys.length:Int)+1)) else (i64.wrap ((xs.length:Int)+1)))):Nat):Int)-(((Zb (Int.natAbs V)).length:Nat):Int)))) (Q7 [.int .u32 0] (Int.toNat (i64.wrap ((((Int.toNat (if (i64.wrap ((ys.length:Int)+1))>(i64.wrap ((xs.length:Int)+1)) then (i64.wrap ((ys.length:Int)+1)) else (i64.wrap ((xs.length:Int)+1)))):Nat):Int)-(((Zb (Int.natAbs V)).length:Nat):Int)))))::(dds 293 []))))))))))))) Zf 400 [] [0,1,4,5,9,10,11,12,13] (ac n7 a0)) (Za.seq (Za.seq (Za.go Zf 400 [] [4,5,9,10,11,12,13,14] a0) (Za.block hl8)) (Za.go Zf 400 [.r (.fresh 1 ((Zc qs).length) (lm (Zc qs))), .r (Zl w)] [4,5] (ac n9 (ac n10 a0)))))))))))))) (by intro i e;cases e) rfl
def TDA:Jx:=TBE
theorem Zjb:Q1 Yir TDA:=Zf
end Go.Proofs.Ythnnfemologhfaa

namespace Go.Proofs.Ythnnfemologhfaa
open Go.IntKind (i64 u64 u32)
open Go.Ai
set_option maxRecDepth 100000
theorem and64 {p:Int} {s:Nat} (hp:0≤p∧p<18446744073709551616) (hs:s≤63):u64.wrap ((BitVec.ofInt (IntKind.bits .u64) p &&& BitVec.ofInt (IntKind.bits .u64) (2^s-1)).toNat)=p % 2^s:=by
 obtain⟨m,rfl⟩:=Int.eq_ofNat_of_zero_le hp.1
 have hb:(IntKind.bits .u64)=64:=rfl
 have e1:(BitVec.ofInt 64 (m:Int)).toNat=m:=Xm 64 m (by omega)
 have h2:2^s≤2^63:=Nat.pow_le_pow_right (by decide) hs
 have h3:0<2^s:=Nat.pow_pos (by decide)
 have ec:((2:Int)^s-1)=((2^s-1:Nat):Int):=by
  have:((2^s:Nat):Int)=(2:Int)^s:=by simp
  omega
 have e2:(BitVec.ofInt 64 ((2^s-1:Nat):Int)).toNat=2^s-1:=Xm 64 (2^s-1) (by omega)
 rw[hb,BitVec.toNat_and,e1,ec,e2,Nat.and_two_pow_sub_one_eq_mod,Qw]
 have h4:m % 2^s<2^s:=Nat.mod_lt _ h3
 have e3:((m % 2^s:Nat):Int)=(m:Int) % 2^s:=by simp
 rw[← e3]
 omega
theorem and32 {p:Int} {s:Nat} (hp:0≤p∧p<4294967296) (hs:s≤31):u32.wrap ((BitVec.ofInt (IntKind.bits .u32) p &&& BitVec.ofInt (IntKind.bits .u32) (2^s-1)).toNat)=p % 2^s:=by
 obtain⟨m,rfl⟩:=Int.eq_ofNat_of_zero_le hp.1
 have hb:(IntKind.bits .u32)=32:=rfl
 have e1:(BitVec.ofInt 32 (m:Int)).toNat=m:=Xm 32 m (by omega)
 have h2:2^s≤2^31:=Nat.pow_le_pow_right (by decide) hs
 have h3:0<2^s:=Nat.pow_pos (by decide)
 have ec:((2:Int)^s-1)=((2^s-1:Nat):Int):=by
  have:((2^s:Nat):Int)=(2:Int)^s:=by simp
  omega
 have e2:(BitVec.ofInt 32 ((2^s-1:Nat):Int)).toNat=2^s-1:=Xm 32 (2^s-1) (by omega)
 rw[hb,BitVec.toNat_and,e1,ec,e2,Nat.and_two_pow_sub_one_eq_mod,Wt]
 have h4:m % 2^s<2^s:=Nat.mod_lt _ h3
 have e3:((m % 2^s:Nat):Int)=(m:Int) % 2^s:=by simp
 rw[← e3]
 omega
theorem bit31 {p:Int} (hp:0≤p∧p<4294967296):(u32.wrap ((BitVec.ofInt (IntKind.bits .u32) p &&& BitVec.ofInt (IntKind.bits .u32) 2147483648).toNat)==0)=decide (p<2147483648):=by
 obtain⟨m,rfl⟩:=Int.eq_ofNat_of_zero_le hp.1
 have hb:(IntKind.bits .u32)=32:=rfl
 have e1:(BitVec.ofInt 32 (m:Int)).toNat=m:=Xm 32 m (by omega)
 have e2:(BitVec.ofInt 32 2147483648).toNat=2147483648:=Xm 32 2147483648 (by decide)
 rw[hb,BitVec.toNat_and,e1,e2,Wt]
 have hlt:m &&& 2147483648≤2147483648:=Nat.and_le_right
 have key:(m &&& 2147483648=0)↔m<2147483648:=by
  constructor
  ·intro h
   have hm:m<2^32:=by omega
   have hb31:(m &&& 2^31).testBit 31=false:=by
    have:(m &&& 2^31)=0:=h
    rw[this];rfl
   rw[Nat.testBit_and] at hb31
   have:(2^31:Nat).testBit 31=true:=by decide
   rw[this,Bool.and_true] at hb31
   refine Nat.lt_pow_two_of_testBit m (n:=31) fun i hi => ?_
   rcases Nat.eq_or_lt_of_le hi with h1 | h1
   ·rw[← h1];exact hb31
   ·exact Nat.testBit_lt_two_pow (Nat.lt_of_lt_of_le hm (Nat.pow_le_pow_right (by decide) (by omega)))
  ·intro h
   apply Nat.eq_of_testBit_eq
   intro i
   rw[Nat.testBit_and,Nat.zero_testBit]
   by_cases hi:i=31
   ·subst hi
    rw[Nat.testBit_lt_two_pow (x:=m) (i:=31) (by omega)];rfl
   ·have:(2147483648:Nat).testBit i=false:=by
     rw[show (2147483648:Nat)=2^31 by decide,Nat.testBit_two_pow]
     simp;omega
    rw[this,Bool.and_false]
 rw[Bool.eq_iff_iff,beq_iff_eq,decide_eq_true_eq]
 constructor
 ·intro h
  have:m &&& 2147483648=0:=by omega
  have:=key.1 this
  omega
 ·intro h
  have:=key.2 (by omega)
  omega
theorem F4 {a b:Int} (ha:(Zb a.natAbs).length<1048576) (hb:(Zb b.natAbs).length<1048576):Ze Yir 118 [Zl a,Zl b] (Zl (a-b)):=by
 have h:=En (na:=decide (a<0)) (nb:=decide (b<0)) (Qx a.natAbs) (Qx b.natAbs) ha hb
 rw[V7,V7] at h
 exact h
theorem Nn {xs:List Int} (h:U32 xs) {v:Int} (hv:0≤v):(Zj xs+v=0)↔(Zj xs=0∧v=0):=by
 have:=Zx h
 omega
theorem Zhb {neg:Bool} {xs ms:List Int} {n:Nat} (hu:U32 ms) (hn:(n:Int)≤9223372036854775807) (hN:ms.length≤1048576):∀ (r i:Nat),i+r=min ms.length (n / 32) →
  Za Yir (.loop V2) (J9 neg xs (n:Nat) ms (decide (Zj (ms.take i) ≠ 0)) (i:Nat)) (.exit 0) (J9 neg xs (n:Nat) ms (decide (Zj (ms.take (n / 32)) ≠ 0)) ((min ms.length (n / 32):Nat):Int)):=by
 have e1:i64.wrap (Int.tdiv (n:Int) 32)=((n / 32:Nat):Int):=by
  rw[Int.tdiv_eq_ediv_of_nonneg (by omega),w64 (by omega) (by omega)];omega
 intro r
 induction r with
 | zero =>
  intro i hi
  have hi':i=min ms.length (n / 32):=by omega
  have et:ms.take i=ms.take (n / 32):=by
   rcases Nat.le_total ms.length (n / 32) with h | h
   ·rw[List.take_of_length_le (by omega),List.take_of_length_le h]
   ·rw[hi',Nat.min_eq_right h]
  rw[et,← hi']
  by_cases hl:i<ms.length
  ·exact Za.loop_out (Zmw neg xs _ ms _ _ (by simp;omega) (by rw[e1];simp;omega)) (by intro e;cases e)
  ·exact Za.loop_out (Zmv neg xs _ ms _ _ (by simp;omega)) (by intro e;cases e)
 | succ r ih =>
  intro i hi
  have ei:i64.wrap ((i:Int)+1)=((i+1:Nat):Int):=by rw[w64 (by omega) (by omega)];omega
  have hm:=Zu hu i
  have hp:=Q8 i
  have hts:=Jv ms i (by omega)
  have hz:(Zj (ms.take (i+1))=0)↔(Zj (ms.take i)=0∧ms.getD i 0=0):=by
   have hx:=Nn (Xg hu i) (Int.mul_nonneg (Int.le_of_lt hp) hm.1)
   rw[← hts] at hx
   rw[hx,Int.mul_eq_zero]
   constructor
   ·rintro⟨a,b⟩;exact⟨a,by omega⟩
   ·rintro⟨a,b⟩;exact⟨a, .inr b⟩
  have step:Za Yir V2 (J9 neg xs (n:Nat) ms (decide (Zj (ms.take i) ≠ 0)) (i:Nat)) .norm (J9 neg xs (n:Nat) ms (decide (Zj (ms.take (i+1)) ≠ 0)) ((i+1:Nat):Int)):=by
   by_cases h0:Zj (ms.take i)=0
   ·have k:=Zmx neg xs (n:Nat) ms (decide (Zj (ms.take i) ≠ 0)) (i:Nat) (by simp;omega) (by rw[e1];simp;omega) (by simp[h0]) (by omega)
    rw[ei,Int.toNat_natCast] at k
    have e2:(ms.getD i 0 != 0)=decide (Zj (ms.take (i+1)) ≠ 0):=by
     rw[Bool.eq_iff_iff,bne_iff_ne,decide_eq_true_eq,ne_eq,ne_eq,hz]
     simp[h0]
    rw[e2] at k
    exact k
   ·have k:=Zmy neg xs (n:Nat) ms (decide (Zj (ms.take i) ≠ 0)) (i:Nat) (by simp;omega) (by rw[e1];simp;omega) (by simp[h0])
    rw[ei] at k
    have e2:true=decide (Zj (ms.take (i+1)) ≠ 0):=by
     symm
     rw[decide_eq_true_eq,ne_eq,hz]
     exact fun h=>h0 h.1
    rw[← e2]
    exact k
  exact Za.loop step (ih (i+1) (by omega))
theorem Zq9 {x y:Int} (hx:0≤x∧x<4294967296) {s:Nat} (hs:s<32):(y*4294967296+x) / 2^s % 4294967296=y % 2^s*2^(32-s)+x / 2^s:=by
 have e:=Zp8 (show s≤32 by omega)
 have hp:=Jb s
 have hp2:=Jb (32-s)
 have h1:(y*4294967296+x) / 2^s=y*2^(32-s)+x / 2^s:=by
  rw[e,← Int.mul_assoc,Int.add_comm,Int.add_mul_ediv_right _ _ (by omega),Int.add_comm]
 have b1:x / 2^s<2^(32-s):=Int.ediv_lt_of_lt_mul hp (by rw[← e];exact hx.2)
 have b0:0≤x / 2^s:=Int.ediv_nonneg hx.1 (by omega)
 have m0:=Int.emod_nonneg y (show (2:Int)^s ≠ 0 by omega)
 have m1:=Int.emod_lt_of_pos y hp
 have hy2:=Int.mul_ediv_add_emod y (2^s)
 rw[h1]
 have e3:y*2^(32-s)+x / 2^s=(y % 2^s*2^(32-s)+x / 2^s)+4294967296*(y / 2^s):=by
  rw[e]
  generalize y % 2^s=a at *
  generalize y / 2^s=b at *
  generalize (2:Int)^(32-s)=T at *
  generalize (2:Int)^s=S at *
  generalize x / S=z at *
  rw[← hy2]
  grind
 rw[e3,Int.add_mul_emod_self_left]
 apply Int.emod_eq_of_lt
 ·have:=Int.mul_nonneg m0 (show (0:Int)≤2^(32-s) by omega)
  omega
 ·have c1:=Int.mul_le_mul_of_nonneg_right (show y % 2^s+1≤2^s by omega) (show (0:Int)≤2^(32-s) by omega)
  rw[Int.add_mul,Int.one_mul,Int.mul_comm (2^s),← e] at c1
  omega
theorem Zha {neg lost:Bool} {xs ms:List Int} {sh:Int} {s k:Nat} (hu:U32 ms) (hs:s<32) (hN:ms.length≤1048576) (hk:k≤ms.length):∀ (r i:Nat),i+r=ms.length-k →
  Za Yir (.loop Vh) (J1 neg xs sh ms i (lm ((List.range i).map (Ki (ms.drop k) s))) lost (s:Nat) ((k+i:Nat):Int)) (.exit 2) (J1 neg xs sh ms (ms.length-k) (lm ((List.range (ms.length-k)).map (Ki (ms.drop k) s))) lost (s:Nat) (ms.length:Nat)):=by
 intro r
 induction r with
 | zero =>
  intro i hi
  have hi':i=ms.length-k:=by omega
  subst hi'
  have e0:((k+(ms.length-k):Nat):Int)=(ms.length:Nat):=by omega
  rw[e0]
  exact Za.loop_out (Za4 neg xs sh ms _ _ lost _ _ (by simp)) (by intro e;cases e)
 | succ r ih =>
  intro i hi
  have ei:i64.wrap (((k+i:Nat):Int)+1)=((k+(i+1):Nat):Int):=by rw[w64 (by omega) (by omega)];omega
  have hx:=Zu hu (k+i)
  have hy:=Zu hu (k+i+1)
  have gx:(ms.drop k).getD i 0=ms.getD (k+i) 0:=by simp[List.getD_eq_getElem?_getD,List.getElem?_drop]
  have gy:(ms.drop k).getD (i+1) 0=ms.getD (k+i+1) 0:=by simp[List.getD_eq_getElem?_getD,List.getElem?_drop,Nat.add_assoc]
  have em:min (Int.toNat (s:Int)) (IntKind.bits .u64)=s:=by rw[Int.toNat_natCast];show min s 64=s;omega
  have hR:Ki (ms.drop k) s i=(ms.getD (k+i+1) 0*4294967296+ms.getD (k+i) 0) / 2^s % 4294967296:=by
   rw[Zq9 hx hs];unfold Ki;rw[gx,gy]
  have hstep:Za Yir Vh (J1 neg xs sh ms i (lm ((List.range i).map (Ki (ms.drop k) s))) lost (s:Nat) ((k+i:Nat):Int)) .norm (J1 neg xs sh ms (i+1) (lm ((List.range (i+1)).map (Ki (ms.drop k) s))) lost (s:Nat) ((k+(i+1):Nat):Int)):=by
   have el:lm ((List.range (i+1)).map (Ki (ms.drop k) s))=lm ((List.range i).map (Ki (ms.drop k) s))++([.int .u32 (Ki (ms.drop k) s i)]:List AV):=by
    rw[List.range_succ,List.map_append,List.map_cons,List.map_nil,Wy]
   rw[el,hR]
   by_cases h1:k+i+1<ms.length
   ·have kk:=Zmu neg xs sh ms i (lm ((List.range i).map (Ki (ms.drop k) s))) lost (s:Nat) ((k+i:Nat):Int) (by simp;omega) (by rw[ei];simp;omega) (by omega) (by rw[ei];omega) (by omega) (by omega)
    rw[ei,Int.toNat_natCast,Int.toNat_natCast,em] at kk
    have w1:u64.wrap ((BitVec.ofInt (IntKind.bits .u64) (u64.wrap (ms.getD (k+i) 0)) ||| BitVec.ofInt (IntKind.bits .u64) (u64.wrap ((u64.wrap (ms.getD (k+(i+1)) 0))*2^(min (Int.toNat 32) (IntKind.bits .u64))))).toNat)=ms.getD (k+i+1) 0*4294967296+ms.getD (k+i) 0:=by
     rw[BitVec.or_comm,Ui (n:=ms.getD (k+(i+1)) 0) (by rw[← Nat.add_assoc];omega),← Nat.add_assoc]
     exact Mn hy hx
    have hpos:0≤ms.getD (k+i+1) 0*4294967296+ms.getD (k+i) 0:=by omega
    rw[w1,Int.fdiv_eq_ediv_of_nonneg _ (by have:=Jb s;omega),Wt] at kk
    exact kk
   ·have hz:ms.getD (k+i+1) 0=0:=Qt (by omega)
    have kk:=Zmt neg xs sh ms i (lm ((List.range i).map (Ki (ms.drop k) s))) lost (s:Nat) ((k+i:Nat):Int) (by simp;omega) (by rw[ei];simp;omega) (by omega) (by omega) (by omega)
    rw[ei,Int.toNat_natCast,em,Ui (n:=ms.getD (k+i) 0) (by omega),Int.fdiv_eq_ediv_of_nonneg _ (by have:=Jb s;omega),Wt] at kk
    rw[hz,Int.zero_mul,Int.zero_add]
    exact kk
  exact Za.loop hstep (ih (i+1) (by omega))
theorem Zra {ms:List Int} {s k:Nat} (hs:s<32) (hk:k≤ms.length) :
  Zj ms=4294967296^k*(2^s*Zj ((List.range (ms.length-k)).map (Ki (ms.drop k) s))+ms.getD k 0 % 2^s)+Zj (ms.take k):=by
 have h1:=Jn ms hk
 have h2:=Zds (us:=ms.drop k) s hs (ms.length-k) (by simp)
 have g0:(ms.drop k).getD 0 0=ms.getD k 0:=by simp[List.getD_eq_getElem?_getD,List.getElem?_drop]
 have g1:(ms.drop k).getD (ms.length-k) 0=0:=Qt (by simp)
 rw[List.take_of_length_le (by simp),g0,g1,Int.zero_emod,Int.mul_zero,Int.add_zero] at h2
 rw[h2,h1]
 generalize Zj (ms.drop k)=X
 generalize Zj (ms.take k)=Y
 generalize ms.getD k 0 % 2^s=z
 have:X-z+z=X:=by omega
 rw[this]
 omega
theorem Zd0 {neg:Bool} {xs:List Int} (hu:U32 xs) (n:Nat) (hn:(n:Int)≤9223372036854775807) (hN:xs.length<1048576):Ze Yir 152 [.agg [.bool neg, .sl xs.length (lm xs)], .int .i64 (n:Nat)] (Zl (rv neg xs / 2^n)):=by
 have t1:=Qc xs
 have tu:=D5 hu
 have e1:i64.wrap (Int.tdiv (n:Int) 32)=((n / 32:Nat):Int):=by
  rw[Int.tdiv_eq_ediv_of_nonneg (by omega),w64 (by omega) (by omega)];omega
 have e2:u64.wrap (Int.tmod (n:Int) 32)=((n % 32:Nat):Int):=by
  rw[Int.tmod_eq_emod_of_nonneg (by omega),Qw];omega
 have hs:n % 32<32:=Nat.mod_lt _ (by decide)
 have hmag:=Xe (xs:=xs) (by omega)
 have ha:=Zhb (neg:=neg) (xs:=xs) (n:=n) tu hn (by omega) (min (Zc xs).length (n / 32)) 0 (by omega)
 rw[List.take_zero] at ha
 have e0:decide (Zj ([]:List Int) ≠ 0)=false:=rfl
 rw[e0] at ha
 have hof:=Zp9 (n:=1) (by omega)
 have hp:=Fn n
 have hP:=Q8 (n / 32)
 have hS:=Jb (n % 32)
 rw[← Pz neg xs]
 generalize hms:Zc xs=ms at *
 -- the end: what is kept and what is lost
 have fin:∀ (q l:Int),0≤l→l<2^n→Zj ms=2^n*q+l→rv neg ms / 2^n=if neg=true∧l ≠ 0 then -q-1 else if neg then -q else q:=by
  intro q l hl0 hl1 hv
  have hpn:=Jb n
  unfold rv
  rw[hv]
  cases neg with
  | false=>simp only[Bool.false_eq_true,if_false,false_and];rw[Int.add_comm,Int.add_mul_ediv_left _ _ (by omega),Int.ediv_eq_zero_of_lt hl0 hl1];omega
  | true =>
   simp only[if_true,true_and]
   by_cases h0:l=0
   ·rw[if_neg (by simp[h0]),h0,Int.add_zero,← Int.mul_neg,Int.mul_ediv_cancel_left _ (by omega)]
   ·rw[if_pos (by simpa using h0)]
    have : -(2^n*q+l)=(2^n-l)+2^n*(-q-1):=by rw[Int.mul_sub,Int.mul_neg];omega
    rw[this,Int.add_mul_ediv_left _ _ (by omega),Int.ediv_eq_zero_of_lt (by omega) (by omega)];omega
 by_cases hk:n / 32<ms.length
 ·-- some Zb are left
  have hb:=Zha (neg:=neg) (lost:=decide (Zj (ms.take (n / 32)) ≠ 0)) (xs:=xs) (ms:=ms) (sh:=(n:Int)) (s:=n % 32) (k:=n / 32) tu hs (by omega) (by omega) (ms.length-n / 32) 0 (by omega)
  have c1:decide ((i64.wrap (Int.tdiv (n:Int) 32))<(ms.length:Int))=true:=by rw[e1];simp;omega
  have hall:=Zra (ms:=ms) hs (show n / 32≤ms.length by omega)
  have ux:U32 ((List.range (ms.length-n / 32)).map (Ki (ms.drop (n / 32)) (n % 32))):=Mq fun i=>(P9 (Ua tu _) hs i).2.2.2
  have hmk:=U0 (neg:=neg) ux (by simp;omega)
  have hlen:((List.range (ms.length-n / 32)).map (Ki (ms.drop (n / 32)) (n % 32))).length=ms.length-n / 32:=by simp
  rw[hlen] at hmk
  have hq:=Ue (neg:=neg) ux
  generalize hQ:(List.range (ms.length-n / 32)).map (Ki (ms.drop (n / 32)) (n % 32))=Q at *
  have hm0:=Int.emod_nonneg (ms.getD (n / 32) 0) (show (2:Int)^(n % 32) ≠ 0 by omega)
  have hm1:=Int.emod_lt_of_pos (ms.getD (n / 32) 0) hS
  have ht0:=Zx (Xg tu (n / 32))
  have ht1:=Vp tu (n / 32)
  have hb2:Za Yir (.loop Vh) (J1 neg xs (n:Nat) ms 0 [] (decide (Zj (ms.take (n / 32)) ≠ 0)) (u64.wrap (Int.tmod (n:Int) 32)) (i64.wrap (Int.tdiv (n:Int) 32))) (.exit 2) (J1 neg xs (n:Nat) ms (ms.length-n / 32) (lm Q) (decide (Zj (ms.take (n / 32)) ≠ 0)) (u64.wrap (Int.tmod (n:Int) 32)) (ms.length:Nat)):=by
   rw[e1,e2];exact hb
  have emask:u32.wrap ((u32.wrap (1*2^(min (Int.toNat (u64.wrap (Int.tmod (n:Int) 32))) (IntKind.bits .u32))))-1)=2^(n % 32)-1:=by
   have:min (Int.toNat ((n % 32:Nat):Int)) (IntKind.bits .u32)=n % 32:=by rw[Int.toNat_natCast];show min (n % 32) 32=n % 32;omega
   have h31:(2:Int)^(n % 32)≤2147483648:=Vt (show n % 32≤31 by omega)
   rw[e2,this,Int.one_mul,Wt,Wt];omega
  have ec4:u32.wrap ((BitVec.ofInt (IntKind.bits .u32) (ms.getD (Int.toNat (i64.wrap (Int.tdiv (n:Int) 32))) 0) &&& BitVec.ofInt (IntKind.bits .u32) (u32.wrap ((u32.wrap (1*2^(min (Int.toNat (u64.wrap (Int.tmod (n:Int) 32))) (IntKind.bits .u32))))-1))).toNat)=ms.getD (n / 32) 0 % 2^(n % 32):=by
   rw[emask,e1,Int.toNat_natCast]
   exact and32 (Zu tu _) (by omega)
  have hl:0≤4294967296^(n / 32)*(ms.getD (n / 32) 0 % 2^(n % 32))+Zj (ms.take (n / 32))∧4294967296^(n / 32)*(ms.getD (n / 32) 0 % 2^(n % 32))+Zj (ms.take (n / 32))<2^n:=by
   rw[hp]
   generalize (4294967296:Int)^(n / 32)=P at *
   generalize ms.getD (n / 32) 0 % 2^(n % 32)=z at *
   generalize (2:Int)^(n % 32)=S at *
   have a:=Int.mul_nonneg (Int.le_of_lt hP) hm0
   have b:=Int.mul_le_mul_of_nonneg_left (show z+1≤S by omega) (Int.le_of_lt hP)
   rw[Int.mul_add,Int.mul_one] at b
   omega
  have hf:=fin (Zj Q) _ hl.1 hl.2 (by rw[hall,hp];grind)
  have hlost:(4294967296^(n / 32)*(ms.getD (n / 32) 0 % 2^(n % 32))+Zj (ms.take (n / 32)) ≠ 0)↔(Zj (ms.take (n / 32)) ≠ 0∨ms.getD (n / 32) 0 % 2^(n % 32) ≠ 0):=by
   have a:=Int.mul_nonneg (Int.le_of_lt hP) hm0
   by_cases hz:ms.getD (n / 32) 0 % 2^(n % 32)=0
   ·rw[hz,Int.mul_zero,Int.zero_add];simp
   ·have:0<4294967296^(n / 32)*(ms.getD (n / 32) 0 % 2^(n % 32)):=Int.mul_pos hP (by omega)
    constructor
    ·intro _;exact .inr hz
    ·intro _;omega
  by_cases hneg:neg=true
  ·subst hneg
   have hrv:rv true Q = -Zj Q:=rfl
   by_cases h0:Zj (ms.take (n / 32)) ≠ 0
   ·rw[hf,if_pos ⟨rfl,hlost.2 (.inl h0)⟩]
    have hmin:=F4 (a := -Zj Q) (b:=1) (by rw[← hrv];omega) (by decide)
    refine Zf3 true (decide (Zj (ms.take (n / 32)) ≠ 0)) xs (n:Nat) _ (ms.length-n / 32) (lm Q) _ (-Zj Q) _ (by rw[hms];exact c1) (by simpa using h0) rfl (by rw[hms];exact hmag) (by rw[hms];exact ha) (by rw[hms];exact hb2) hmk hof hmin
   ·by_cases h1:ms.getD (n / 32) 0 % 2^(n % 32)=0
    ·rw[hf,if_neg (fun h=>by rcases hlost.1 h.2 with g | g;exact h0 g;exact g h1),if_pos rfl]
     exact Zf0 true (decide (Zj (ms.take (n / 32)) ≠ 0)) xs (n:Nat) _ (ms.length-n / 32) (lm Q) _ (-Zj Q) (by rw[hms];exact c1) (by simpa using h0) rfl (by rw[hms,ec4,h1];rfl) (by rw[hms];exact hmag) (by rw[hms];exact ha) (by rw[hms];exact hb2) (by rw[hms,e1];omega) (by rw[e2];omega) hmk
    ·rw[hf,if_pos ⟨rfl,hlost.2 (.inr h1)⟩]
     have hmin:=F4 (a := -Zj Q) (b:=1) (by rw[← hrv];omega) (by decide)
     exact Zf1 true (decide (Zj (ms.take (n / 32)) ≠ 0)) xs (n:Nat) _ (ms.length-n / 32) (lm Q) _ (-Zj Q) _ (by rw[hms];exact c1) (by simpa using h0) rfl (by rw[hms,ec4];simpa using h1) (by rw[hms];exact hmag) (by rw[hms];exact ha) (by rw[hms];exact hb2) (by rw[hms,e1];omega) (by rw[e2];omega) hmk hof hmin
  ·have hneg':neg=false:=by cases neg <;> simp_all
   subst hneg'
   rw[hf,if_neg (by simp),if_neg (by simp)]
   by_cases h0:Zj (ms.take (n / 32)) ≠ 0
   ·exact Zf2 false (decide (Zj (ms.take (n / 32)) ≠ 0)) xs (n:Nat) _ (ms.length-n / 32) (lm Q) _ (Zj Q) (by rw[hms];exact c1) (by simpa using h0) rfl (by rw[hms];exact hmag) (by rw[hms];exact ha) (by rw[hms];exact hb2) hmk
   ·exact Zfz false (decide (Zj (ms.take (n / 32)) ≠ 0)) xs (n:Nat) _ (ms.length-n / 32) (lm Q) _ (Zj Q) (by rw[hms];exact c1) (by simpa using h0) rfl (by rw[hms];exact hmag) (by rw[hms];exact ha) (by rw[hms];exact hb2) (by rw[hms,e1];omega) (by rw[e2];omega) hmk
 ·-- nothing is left
  have c1:decide ((i64.wrap (Int.tdiv (n:Int) 32))<(ms.length:Int))=false:=by rw[e1];simp;omega
  have htake:ms.take (n / 32)=ms:=List.take_of_length_le (by omega)
  have hb:Za Yir (.loop Vh) (J1 neg xs (n:Nat) ms 0 [] (decide (Zj (ms.take (n / 32)) ≠ 0)) (u64.wrap (Int.tmod (n:Int) 32)) (i64.wrap (Int.tdiv (n:Int) 32))) (.exit 2) (J1 neg xs (n:Nat) ms 0 [] (decide (Zj (ms.take (n / 32)) ≠ 0)) (u64.wrap (Int.tmod (n:Int) 32)) (i64.wrap (Int.tdiv (n:Int) 32))) :=
   Za.loop_out (Za4 neg xs _ ms _ _ _ _ _ c1) (by intro e;cases e)
  have hmk:=U0 (neg:=neg) (xs:=[]) (fun x h=>(nomatch h)) (by simp)
  have hv0:rv neg ([]:List Int)=0:=by unfold rv;cases neg <;> rfl
  rw[hv0] at hmk
  have hlt:Zj ms<2^n:=by
   have a:=Xd tu
   have b:=Uz (show ms.length≤n / 32 by omega)
   rw[hp]
   have:=Int.mul_le_mul_of_nonneg_left (show (1:Int)≤2^(n % 32) by omega) (show (0:Int)≤4294967296^(n / 32) by omega)
   rw[Int.mul_one] at this
   omega
  have hf:=fin 0 (Zj ms) (Zx tu) hlt (by rw[Int.mul_zero,Int.zero_add])
  by_cases hneg:neg=true
  ·subst hneg
   by_cases h0:Zj ms ≠ 0
   ·rw[hf,if_pos ⟨rfl,h0⟩]
    have hmin:=F4 (a:=0) (b:=1) (by decide) (by decide)
    exact Zfy true (decide (Zj (ms.take (n / 32)) ≠ 0)) xs (n:Nat) _ 0 [] _ 0 _ (by rw[hms];exact c1) rfl (by rw[htake];simpa using h0) (by rw[hms];exact hmag) (by rw[hms];exact ha) (by rw[hms];exact hb) hmk hof hmin
   ·rw[hf,if_neg (fun h=>h0 h.2),if_pos rfl]
    exact Zfx true (decide (Zj (ms.take (n / 32)) ≠ 0)) xs (n:Nat) _ 0 [] _ 0 (by rw[hms];exact c1) rfl (by rw[htake];simpa using h0) (by rw[hms];exact hmag) (by rw[hms];exact ha) (by rw[hms];exact hb) hmk
  ·have hneg':neg=false:=by cases neg <;> simp_all
   subst hneg'
   rw[hf,if_neg (by simp),if_neg (by simp)]
   exact Zfw false (decide (Zj (ms.take (n / 32)) ≠ 0)) xs (n:Nat) _ 0 [] _ 0 (by rw[hms];exact c1) rfl (by rw[hms];exact hmag) (by rw[hms];exact ha) (by rw[hms];exact hb) hmk
def TDB:Jx:=TDA
theorem Zja:Q1 Yir TDB:=Zjb
end Go.Proofs.Ythnnfemologhfaa

namespace Go.Proofs.Ythnnfemologhfaa
open Go.IntKind (i64 u64 u32)
open Go.Ai
set_option maxRecDepth 100000
theorem Zhd {xs:List Int} {d:Int} (hx:U32 xs) (hd:0<d∧d<4294967296) (hN:xs.length≤1048576):∀ (i:Nat) (qs:List Int) (r:Int),i≤xs.length→qs.length=xs.length→U32 qs→0≤r∧r<d→(∀ t,t<i→qs.getD t 0=0) →
  ∃ qs' r',Za Yir (.loop Pm) (A3 xs [d] xs.length qs r ((i:Int)-1)) (.exit 0) (A3 xs [d] xs.length qs' r' (-1))∧qs'.length=xs.length∧U32 qs'∧(0≤r'∧r'<d)∧d*Zj qs'+r'=d*Zj qs+4294967296^i*r+Zj (xs.take i):=by
 intro i
 induction i with
 | zero =>
  intro qs r _ hl hu hr _
  refine⟨qs,r,Za.loop_out (Zm1 xs [d] xs.length qs r _ (by simp)) (by intro e;cases e),hl,hu,hr,by simp[Zj]⟩
 | succ i ih =>
  intro qs r hi hl hu hr hz
  have ei:(((i+1:Nat):Int)-1)=(i:Nat):=by omega
  have ej:i64.wrap ((i:Int)-1)=(i:Int)-1:=w64 (by omega) (by omega)
  have hxi:=Zu hx i
  have ed:([d]:List Int).getD (Int.toNat 0) 0=d:=rfl
  have hk:=Zm2 xs [d] xs.length qs r (i:Nat) (by simp) (by omega) (by simp) (by rw[ed,Ui (by omega)];omega) (by omega) hl
  rw[ej,Int.toNat_natCast,ed,Mn (by omega) hxi,Ui (n:=d) (by omega)] at hk
  have hv0:0≤r*4294967296+xs.getD i 0:=by omega
  rw[Int.tdiv_eq_ediv_of_nonneg hv0,Int.tmod_eq_emod_of_nonneg hv0] at hk
  generalize hv:r*4294967296+xs.getD i 0=v at *
  have hm:=Int.mul_ediv_add_emod v d
  have hm0:=Int.emod_nonneg v (show d ≠ 0 by omega)
  have hm1:=Int.emod_lt_of_pos v hd.1
  have hq0:0≤v / d:=Int.ediv_nonneg hv0 (by omega)
  have hq1:v / d<4294967296:=by
   apply Int.ediv_lt_of_lt_mul hd.1
   have:=Int.mul_le_mul_of_nonneg_right (show r≤d-1 by omega) (show (0:Int)≤4294967296 by omega)
   have:(d-1)*4294967296=4294967296*d-4294967296:=by omega
   omega
  rw[Ui (n:=v / d) (by omega),w32 ⟨hq0,hq1⟩] at hk
  obtain⟨qs',r',g1,g2,g3,g4,g5⟩:=ih (qs.set i (v / d)) (v % d) (by omega) (by simpa using hl) (Q0 hu ⟨hq0,hq1⟩) ⟨hm0,hm1⟩ (fun t ht=>by rw[Qo (by omega)];exact hz t (by omega))
  rw[ei]
  refine⟨qs',r',Za.loop hk g1,g2,g3,g4,?_⟩
  rw[g5,Jy _ _ _ (by omega),hz i (by omega),Jv xs i (by omega),Int.pow_succ]
  generalize (4294967296:Int)^i=P at *
  have e2:xs.getD i 0=d*(v / d)+v % d-r*4294967296:=by omega
  rw[e2]
  grind
theorem Zhc {xs ys:List Int} {y:Int} {s:Nat} (hy0:ys ≠ []) (hyl:ys.length≤1048576) (hy:ys.getD (ys.length-1) 0=y) (hb:0<y) (hs:s<32) (h1:2147483648≤y*2^s) (h2:y*2^s<4294967296):∀ (r i:Nat),i+r=s →
  Za Yir (.loop Pk) (Do xs ys (i:Nat)) (.exit 2) (Do xs ys (s:Nat)):=by
 have hpos:=List.length_pos_iff.2 hy0
 have en:i64.wrap ((ys.length:Int)-1)=((ys.length-1:Nat):Int):=by rw[w64 (by omega) (by omega)];omega
 have cond:∀ i:Nat,i≤s→(u32.wrap ((BitVec.ofInt (IntKind.bits .u32) (u32.wrap ((ys.getD (Int.toNat (i64.wrap ((ys.length:Int)-1))) 0)*2^(min (Int.toNat (u64.wrap (i:Int))) (IntKind.bits .u32)))) &&& BitVec.ofInt (IntKind.bits .u32) 2147483648).toNat)==0)=decide (y*2^i<2147483648):=by
  intro i hi
  have em:min (Int.toNat (i:Int)) (IntKind.bits .u32)=i:=by rw[Int.toNat_natCast];show min i 32=i;omega
  have hp:=Vt hi
  have hp0:=Jb i
  have hle:=Int.mul_le_mul_of_nonneg_left hp (show 0≤y by omega)
  have hge:=Int.mul_nonneg (show 0≤y by omega) (show (0:Int)≤2^i by omega)
  rw[Ui (n:=(i:Int)) (by omega),em,en,Int.toNat_natCast,hy,w32 (n:=y*2^i) (by omega)]
  exact bit31 (by omega)
 intro r
 induction r with
 | zero =>
  intro i hi
  have:i=s:=by omega
  subst this
  exact Za.loop_out (Zmz xs ys _ (by rw[cond i (Nat.le_refl _)];simp;omega) (by rw[en];omega) (by rw[Ui (by omega)];omega)) (by intro e;cases e)
 | succ r ih =>
  intro i hi
  have ei:i64.wrap ((i:Int)+1)=((i+1:Nat):Int):=by rw[w64 (by omega) (by omega)];omega
  have hlt:y*2^i<2147483648:=by
   have hp:=Vt (show i+1≤s by omega)
   rw[Int.pow_succ] at hp
   have hle:=Int.mul_le_mul_of_nonneg_left hp (show 0≤y by omega)
   rw[← Int.mul_assoc] at hle
   omega
  have k:=Zm0 xs ys (i:Nat) (by rw[cond i (by omega)];simpa using hlt) (by rw[en];omega) (by rw[Ui (by omega)];omega)
  rw[ei] at k
  exact Za.loop k (ih (i+1) (by omega))
section
variable {k:Nat} {us vs:List Int} {kq:Nat} {qs:List Int} {s:Int} {j m:Nat}
theorem Zhf (hvl:vs.length=m+2) (hl:us.length=k) (hk:k≤1048577) (hj:j+m+2<k) (h:Dig m (Zj vs) (Zj (us.drop j)) (vs.getD (m+1) 0) (vs.getD m 0) (us.getD (j+m+2) 0) (us.getD (j+m+1) 0) (us.getD (j+m) 0)):∀ (f:Nat) (g r:Int),g.toNat≤f →
  DigI (Zj vs) (Zj (us.drop j)) (vs.getD (m+1) 0) (us.getD (j+m+2) 0*4294967296+us.getD (j+m+1) 0) g r→r<4294967296 →
  ∃ g' r',Za Yir (.loop Ke) (X3 k us vs ((m+2:Nat):Int) kq qs s (j:Nat) g r) (.exit 6) (X3 k us vs ((m+2:Nat):Int) kq qs s (j:Nat) g' r') ∧
   (0≤g'∧g'<4294967296)∧Zj (us.drop j)<(g'+1)*Zj vs∧g'*Zj vs<Zj (us.drop j)+Zj vs:=by
 have ht:=h.htop
 have hnx:=h.hnxt
 have hz:=h.hz
 have e1:i64.wrap (i64.wrap ((j:Int)+((m+2:Nat):Int))-2)=((j+m:Nat):Int):=by
  rw[w64 (n:=(j:Int)+((m+2:Nat):Int)) (by omega) (by omega),w64 (by omega) (by omega)];omega
 have e2:i64.wrap (((m+2:Nat):Int)-2)=(m:Int):=by rw[w64 (by omega) (by omega)];omega
 have e3:i64.wrap (((m+2:Nat):Int)-1)=((m+1:Nat):Int):=by rw[w64 (by omega) (by omega)];omega
 have et:u64.wrap (vs.getD (Int.toNat (i64.wrap (((m+2:Nat):Int)-1))) 0)=vs.getD (m+1) 0:=by rw[e3,Int.toNat_natCast,Ui (by omega)]
 have en:u64.wrap (vs.getD (Int.toNat (i64.wrap (((m+2:Nat):Int)-2))) 0)=vs.getD m 0:=by rw[e2,Int.toNat_natCast,Ui (by omega)]
 have n2:0≤i64.wrap (((m+2:Nat):Int)-2)∧i64.wrap (((m+2:Nat):Int)-2)<(vs.length:Int):=by rw[e2];omega
 have n1:0≤i64.wrap (((m+2:Nat):Int)-1)∧i64.wrap (((m+2:Nat):Int)-1)<(vs.length:Int):=by rw[e3];omega
 have nu:0≤i64.wrap (i64.wrap ((j:Int)+((m+2:Nat):Int))-2)∧i64.wrap (i64.wrap ((j:Int)+((m+2:Nat):Int))-2)<(k:Int):=by rw[e1];omega
 have ecmp:∀ g r:Int,0≤r→r<4294967296→0≤g*vs.getD m 0∧g*vs.getD m 0<18446744073709551616→(decide (u64.wrap (g*(u64.wrap (vs.getD (Int.toNat (i64.wrap (((m+2:Nat):Int)-2))) 0)))>u64.wrap ((BitVec.ofInt (IntKind.bits .u64) (u64.wrap (r*2^(min (Int.toNat 32) (IntKind.bits .u64)))) ||| BitVec.ofInt (IntKind.bits .u64) (u64.wrap (us.getD (Int.toNat (i64.wrap (i64.wrap ((j:Int)+((m+2:Nat):Int))-2))) 0))).toNat)):Bool)=decide (r*4294967296+us.getD (j+m) 0<g*vs.getD m 0):=by
  intro g r hr0 hr hgn
  rw[en,e1,Int.toNat_natCast,Mn ⟨hr0,hr⟩ hz,Ui hgn]
 intro f
 induction f with
 | zero =>
  intro g r hf i hr
  have hg:g=0:=by have:=i.g0;omega
  subst hg
  have c2:¬ (r*4294967296+us.getD (j+m) 0<0*vs.getD m 0):=by have:=i.r0;omega
  have k5:=Za5 k us vs ((m+2:Nat):Int) kq qs s (j:Nat) 0 r (by simp) (by simpa using hr) (by
   rw[ecmp 0 r i.r0 hr (by omega),decide_eq_false_iff_not];exact c2) n2 nu hl
  exact⟨0,r,Za.loop_out k5 (by intro e;cases e),by omega,i.up,h.out i (by omega) (Or.inr (by omega))⟩
 | succ f ih =>
  intro g r hf i hr
  have hg1:=i.gle
  have hg0:=i.g0
  have hr0:=i.r0
  have hgn:0≤g*vs.getD m 0∧g*vs.getD m 0<18446744073709551616:=by
   have a:=Int.mul_nonneg hg0 hnx.1
   have b:=Int.mul_le_mul hg1 (show vs.getD m 0≤4294967295 by omega) hnx.1 (by omega)
   omega
  have er:u64.wrap (r+(u64.wrap (vs.getD (Int.toNat (i64.wrap (((m+2:Nat):Int)-1))) 0)))=r+vs.getD (m+1) 0:=by rw[et];exact Ui (by omega)
  by_cases hc:4294967296≤g∨r*4294967296+us.getD (j+m) 0<g*vs.getD m 0
  ·have i2:=h.step i hc
   have hg2:=i2.g0
   have eg:u64.wrap (g-1)=g-1:=Ui (by omega)
   by_cases hbig:4294967296≤r+vs.getD (m+1) 0
   ·have hgs:=h.small_g i2 hbig
    have hrun:Za Yir Ke (X3 k us vs ((m+2:Nat):Int) kq qs s (j:Nat) g r) (.exit 6) (X3 k us vs ((m+2:Nat):Int) kq qs s (j:Nat) (u64.wrap (g-1)) (u64.wrap (r+(u64.wrap (vs.getD (Int.toNat (i64.wrap (((m+2:Nat):Int)-1))) 0))))):=by
     by_cases hg:4294967296≤g
     ·exact Zm8 k us vs _ kq qs s _ g r (by simpa using hg) (by rw[er];simpa using hbig) n1
     ·exact Zm6 k us vs _ kq qs s _ g r (by simp;omega) (by simpa using hr) (by rw[ecmp g r hr0 hr hgn,decide_eq_true_eq];omega) (by rw[er];simpa using hbig) n2 nu hl n1
    rw[eg,er] at hrun
    exact⟨g-1,_,Za.loop_out hrun (by intro e;cases e),⟨hg2,hgs⟩,i2.up,h.out i2 hgs (Or.inl hbig)⟩
   ·have hrun:Za Yir Ke (X3 k us vs ((m+2:Nat):Int) kq qs s (j:Nat) g r) .norm (X3 k us vs ((m+2:Nat):Int) kq qs s (j:Nat) (u64.wrap (g-1)) (u64.wrap (r+(u64.wrap (vs.getD (Int.toNat (i64.wrap (((m+2:Nat):Int)-1))) 0))))):=by
     by_cases hg:4294967296≤g
     ·exact Zm7 k us vs _ kq qs s _ g r (by simpa using hg) (by rw[er,decide_eq_false_iff_not];omega) n1
     ·exact Zm5 k us vs _ kq qs s _ g r (by simp;omega) (by simpa using hr) (by rw[ecmp g r hr0 hr hgn,decide_eq_true_eq];omega) (by rw[er,decide_eq_false_iff_not];omega) n2 nu hl n1
    rw[eg,er] at hrun
    obtain⟨g',r',a1,a2⟩:=ih (g-1) (r+vs.getD (m+1) 0) (by omega) i2 (by omega)
    exact⟨g',r',Za.loop hrun a1,a2⟩
  ·have k5:=Za5 k us vs ((m+2:Nat):Int) kq qs s (j:Nat) g r (by simp;omega) (by simpa using hr) (by rw[ecmp g r hr0 hr hgn,decide_eq_false_iff_not];omega) n2 nu hl
   exact⟨g,r,Za.loop_out k5 (by intro e;cases e),by omega,i.up,h.out i (by omega) (Or.inr (by omega))⟩
end
section
variable {k:Nat} {vs:List Int} {kq:Nat} {qs:List Int} {s:Int} {j:Nat} {g:Int}
theorem Zhe (hv:U32 vs) (hk:k≤1048577) (hg:0≤g∧g<4294967296) (hj:j+vs.length≤k):∀ (r i:Nat) (us:List Int) (b c:Int),r+i=vs.length→us.length=k→U32 us→0≤b∧b≤1→0≤c∧c<4294967296 →
  Za Yir (.loop Nd) (Hx k us vs (vs.length:Nat) kq qs s (j:Nat) g b c (i:Nat)) (.exit 8) (Hx k (Fe g vs j r i us b c).1 vs (vs.length:Nat) kq qs s (j:Nat) g (Fe g vs j r i us b c).2.1 (Fe g vs j r i us b c).2.2 (vs.length:Nat)):=by
 intro r
 induction r with
 | zero =>
  intro i us b c hi _ _ _ _
  have:i=vs.length:=by omega
  subst this
  exact Za.loop_out (Zm3 k us vs _ kq qs s _ g b c _ (by simp)) (by intro e;cases e)
 | succ r ih =>
  intro i us b c hi hl hu hb hc
  have ei:i64.wrap ((i:Int)+1)=((i+1:Nat):Int):=by rw[w64 (by omega) (by omega)];omega
  have eij:i64.wrap ((i:Int)+(j:Int))=((i+j:Nat):Int):=by rw[w64 (by omega) (by omega)];omega
  have hvi:=Zu hv i
  have hui:=Zu hu (i+j)
  have hw:=Rv hg hvi hc
  have hgv:=Int.mul_nonneg hg.1 hvi.1
  have h1:=Zm4 k us vs (vs.length:Nat) kq qs s (j:Nat) g b c (i:Nat) (by simp;omega) (by omega) (by rw[eij];omega) hl
  have ecc:c+g*vs.getD i 0=g*vs.getD i 0+c:=Int.add_comm _ _
  rw[eij,ei,Int.toNat_natCast,Int.toNat_natCast,Ui (n:=vs.getD i 0) (by omega),Ui (n:=us.getD (i+j) 0) (by omega),Ui (n:=g*vs.getD i 0) (by omega),ecc,Ui hw,Zyn,fd63] at h1
  have emk:u64.wrap ((BitVec.ofInt (IntKind.bits .u64) (g*vs.getD i 0+c) &&& BitVec.ofInt (IntKind.bits .u64) 4294967295).toNat)=(g*vs.getD i 0+c) % 4294967296:=and64 (s:=32) hw (by decide)
  rw[emk] at h1
  generalize hp:g*vs.getD i 0+c=p at *
  rw[Qw,Qw] at h1
  have hstep:Fe g vs j (r+1) i us b c=Fe g vs j r (i+1) (us.set (i+j) ((us.getD (i+j) 0-p % 4294967296-b) % 4294967296)) (if us.getD (i+j) 0-p % 4294967296-b<0 then 1 else 0) (p / 4294967296):=by rw[Fe,hp]
  generalize hd:us.getD (i+j) 0-p % 4294967296-b=d at *
  have e1:u32.wrap (((us.getD (i+j) 0-p % 4294967296) % 18446744073709551616-b) % 18446744073709551616)=d % 4294967296:=by rw[Wt];omega
  have e2:((us.getD (i+j) 0-p % 4294967296) % 18446744073709551616-b) % 18446744073709551616 / 9223372036854775808=(if d<0 then 1 else 0):=by split <;> omega
  rw[e1,e2] at h1
  rw[hstep]
  exact Za.loop h1 (ih (i+1) _ _ _ (by omega) (by simpa using hl) (Q0 hu (by omega)) (by split <;> omega) (by omega))
theorem Zhg (hv:U32 vs) (hk:k≤1048577) (hj:j+vs.length≤k):∀ (r i:Nat) (us:List Int) (c:Int),r+i=vs.length→us.length=k→U32 us→0≤c∧c≤1 →
  Za Yir (.loop Pn) (Dp k us vs (vs.length:Nat) kq qs s (j:Nat) g c (i:Nat)) (.exit 10) (Dp k (Nc vs j r i us c).1 vs (vs.length:Nat) kq qs s (j:Nat) g (Nc vs j r i us c).2 (vs.length:Nat)):=by
 intro r
 induction r with
 | zero =>
  intro i us c hi _ _ _
  have:i=vs.length:=by omega
  subst this
  exact Za.loop_out (Zm9 k us vs _ kq qs s _ g c _ (by simp)) (by intro e;cases e)
 | succ r ih =>
  intro i us c hi hl hu hc
  have ei:i64.wrap ((i:Int)+1)=((i+1:Nat):Int):=by rw[w64 (by omega) (by omega)];omega
  have eij:i64.wrap ((i:Int)+(j:Int))=((i+j:Nat):Int):=by rw[w64 (by omega) (by omega)];omega
  have hvi:=Zu hv i
  have hui:=Zu hu (i+j)
  have h1:=Zna k us vs (vs.length:Nat) kq qs s (j:Nat) g c (i:Nat) (by simp;omega) (by rw[eij];omega) hl (by omega)
  have ecc:c+(us.getD (i+j) 0+vs.getD i 0)=us.getD (i+j) 0+vs.getD i 0+c:=Int.add_comm _ _
  rw[eij,ei,Int.toNat_natCast,Int.toNat_natCast,Ui (n:=vs.getD i 0) (by omega),Ui (n:=us.getD (i+j) 0) (by omega),Ui (n:=us.getD (i+j) 0+vs.getD i 0) (by omega),ecc,Ui (n:=us.getD (i+j) 0+vs.getD i 0+c) (by omega),Zyn,Wt] at h1
  exact Za.loop h1 (ih (i+1) _ _ (by omega) (by simpa using hl) (Q0 hu (by omega)) (by omega))
end
def TDC:Jx:=TDB
theorem Zi9:Q1 Yir TDC:=Zja
end Go.Proofs.Ythnnfemologhfaa
