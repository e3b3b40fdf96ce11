/- Texts of the proof of SturmFactors, packed by pack.py: part 10 of 17. -/
import Derived.Test.YthnnfemologhfaaSfa9
namespace Go.Proofs.Ythnnfemologhfaa
open Go.IntKind (i64 u64 u32)
open Go.Ai
set_option maxRecDepth 100000
def Ri (xs:List Int) (d:Int) (k:Nat) (qs:List Int) (r:Int) (i:Int):Zk:=(.val (.sl xs.length (lm xs))::(.val (.int .u32 d)::(dds 4 (.own 1 k (lm qs)::(.val (.int .u64 r)::(.val (.int .i64 i)::(dds 34 [])))))))
theorem Zqj (xs:List Int) (d:Int) (k:Nat) (qs:List Int) (r:Int) (i:Int)  (c1:(decide (i≥0))=true) (n1:0≤i∧i<(xs.length:Int)) (n2:¬ (u64.wrap d)=0) (n3:0≤i∧i<(k:Int)) (n4:qs.length=k):Za Yir Zgr (Ri xs d k qs r i) .norm (Ri xs d k (qs.set (Int.toNat i) (u32.wrap (u64.wrap (Int.tdiv (u64.wrap ((BitVec.ofInt (IntKind.bits .u64) (u64.wrap (r*2^(min (Int.toNat 32) (IntKind.bits .u64)))) ||| BitVec.ofInt (IntKind.bits .u64) (u64.wrap (xs.getD (Int.toNat i) 0))).toNat)) (u64.wrap d))))) (Int.tmod (u64.wrap ((BitVec.ofInt (IntKind.bits .u64) (u64.wrap (r*2^(min (Int.toNat 32) (IntKind.bits .u64)))) ||| BitVec.ofInt (IntKind.bits .u64) (u64.wrap (xs.getD (Int.toNat i) 0))).toNat)) (u64.wrap d)) (i64.wrap (i-1))):=(Za.go Zi 400 [.b true, .v (.int .u32 (xs.getD (Int.toNat i) 0)), .l (lm (qs.set (Int.toNat i) (u32.wrap (u64.wrap (Int.tdiv (u64.wrap ((BitVec.ofInt (IntKind.bits .u64) (u64.wrap (r*2^(min (Int.toNat 32) (IntKind.bits .u64)))) ||| BitVec.ofInt (IntKind.bits .u64) (u64.wrap (xs.getD (Int.toNat i) 0))).toNat)) (u64.wrap d))))))] [0,1,6,7,8] (ac c1 (ac (show ¬ (32:Int)<0 from (by decide)) (ac n1 (ac (Jc n1) (ac n2 (ac n2 (ac n3 (ac (show X1 (lm qs) (Int.toNat i*1) [.int .u32 (u32.wrap (u64.wrap (Int.tdiv (u64.wrap ((BitVec.ofInt (IntKind.bits .u64) (u64.wrap (r*2^(min (Int.toNat 32) (IntKind.bits .u64)))) ||| BitVec.ofInt (IntKind.bits .u64) (u64.wrap (xs.getD (Int.toNat i) 0))).toNat)) (u64.wrap d))))]=some (lm (qs.set (Int.toNat i) (u32.wrap (u64.wrap (Int.tdiv (u64.wrap ((BitVec.ofInt (IntKind.bits .u64) (u64.wrap (r*2^(min (Int.toNat 32) (IntKind.bits .u64)))) ||| BitVec.ofInt (IntKind.bits .u64) (u64.wrap (xs.getD (Int.toNat i) 0))).toNat)) (u64.wrap d)))))) from (Xe n4 n3)) a0)))))))))
theorem Zqi (xs:List Int) (d:Int) (k:Nat) (qs:List Int) (r:Int) (i:Int)  (c1:(decide (i≥0))=false):Za Yir Zgr (Ri xs d k qs r i) (.exit 0) (Ri xs d k qs r i):=(Za.go Zi 400 [.b false] [0,1,6,7,8] (ac c1 a0))
theorem Zo9 (xs qs:List Int) (d r i:Int) (k:Nat) (n1:0≤(xs.length:Int)∧(xs.length:Int)≤1048576) (hl2:Za Yir (.loop Zgr) ((.val (.sl xs.length (lm xs))::(.val (.int .u32 d)::(dds 4 (.own 1 (Int.toNat (xs.length:Int)) (Qv [.int .u32 0] (Int.toNat (xs.length:Int)))::(.val (.int .u64 0)::(.val (.int .i64 (i64.wrap ((xs.length:Int)-1)))::(dds 34 [])))))))) (.exit 0) (Ri xs d k qs r i)):Zd Yir 153 [.sl xs.length (lm xs), .int .u32 d] (.tup [.sl k (lm qs), .int .u32 (u32.wrap r)]):=Zd.of_bodyW (fn:=Zf7) (s:=(dds 1 (.val (.int .u32 d)::(dds 2 (.own 1 k (lm qs)::(.val (.int .u32 (u32.wrap r))::(dds 37 []))))))) (ex := .ret) rfl rfl (Za.seq (Za.go (t:=(vl xs::(.val (.int .u32 d)::(dds 2 (.own 1 0 []::(.val (.int .u32 0)::(dds 37 []))))))) Zi 400 [] [0,1,4,5] a0) (Za.seq (Za.go (t:=(vl xs::(.val (.int .u32 d)::(dds 2 (.own 1 0 []::(.val (.int .u32 0)::(.own 1 (Int.toNat (xs.length:Int)) (Qv [.int .u32 0] (Int.toNat (xs.length:Int)))::(dds 36 [])))))))) Zi 400 [] [0,1,4,5,6] (ac n1 a0)) (Za.seq (Za.go (t:=(vl xs::(.val (.int .u32 d)::(dds 2 (.own 1 0 []::(.val (.int .u32 0)::(.own 1 (Int.toNat (xs.length:Int)) (Qv [.int .u32 0] (Int.toNat (xs.length:Int)))::(.val (.int .u64 0)::(dds 35 []))))))))) Zi 400 [] [0,1,4,5,6,7] a0) (Za.seq (Za.seq (Za.go Zi 400 [] [0,1,6,7,8] a0) (Za.block hl2)) (Za.go Zi 400 [] [1,4,5] a0))))) (by intro i e;cases e) rfl
def Rh (xs:List Int) (s:Int) (k:Nat) (os:List Int) (n:Int) (i:Int):Zk:=(dds 1 (.val (.int .i64 s)::(dds 3 (.own 1 k (lm os)::(dds 7 (.val (.sl xs.length (lm xs))::(.val (.int .i64 n)::(.val (.int .i64 i)::(dds 26 [])))))))))
theorem Zqh (xs:List Int) (s:Int) (k:Nat) (os:List Int) (n:Int) (i:Int)  (c1:(decide (i<n))=true) (n1:0≤i∧i<(xs.length:Int)) (n2:¬ (u64.wrap s)<0) (n3:0≤i∧i<(k:Int)) (n4:os.length=k) (n5:0≤(i64.wrap (i+1))∧(i64.wrap (i+1))<(k:Int)) (n6:(os.set (Int.toNat i) (u32.wrap ((BitVec.ofInt (IntKind.bits .u32) (os.getD (Int.toNat i) 0) ||| BitVec.ofInt (IntKind.bits .u32) (u32.wrap (u64.wrap ((u64.wrap (xs.getD (Int.toNat i) 0))*2^(min (Int.toNat (u64.wrap s)) (IntKind.bits .u64)))))).toNat))).length=k):Za Yir Zgq (Rh xs s k os n i) .norm (Rh xs s k ((os.set (Int.toNat i) (u32.wrap ((BitVec.ofInt (IntKind.bits .u32) (os.getD (Int.toNat i) 0) ||| BitVec.ofInt (IntKind.bits .u32) (u32.wrap (u64.wrap ((u64.wrap (xs.getD (Int.toNat i) 0))*2^(min (Int.toNat (u64.wrap s)) (IntKind.bits .u64)))))).toNat))).set (Int.toNat (i64.wrap (i+1))) (u32.wrap (Int.fdiv (u64.wrap ((u64.wrap (xs.getD (Int.toNat i) 0))*2^(min (Int.toNat (u64.wrap s)) (IntKind.bits .u64)))) (2^(min (Int.toNat 32) (IntKind.bits .u64)))))) n (i64.wrap (i+1))):=(Za.go Zi 400 [.b true, .v (.int .u32 (xs.getD (Int.toNat i) 0)), .v (.int .u32 (os.getD (Int.toNat i) 0)), .l (lm (os.set (Int.toNat i) (u32.wrap ((BitVec.ofInt (IntKind.bits .u32) (os.getD (Int.toNat i) 0) ||| BitVec.ofInt (IntKind.bits .u32) (u32.wrap (u64.wrap ((u64.wrap (xs.getD (Int.toNat i) 0))*2^(min (Int.toNat (u64.wrap s)) (IntKind.bits .u64)))))).toNat)))), .l (lm ((os.set (Int.toNat i) (u32.wrap ((BitVec.ofInt (IntKind.bits .u32) (os.getD (Int.toNat i) 0) ||| BitVec.ofInt (IntKind.bits .u32) (u32.wrap (u64.wrap ((u64.wrap (xs.getD (Int.toNat i) 0))*2^(min (Int.toNat (u64.wrap s)) (IntKind.bits .u64)))))).toNat))).set (Int.toNat (i64.wrap (i+1))) (u32.wrap (Int.fdiv (u64.wrap ((u64.wrap (xs.getD (Int.toNat i) 0))*2^(min (Int.toNat (u64.wrap s)) (IntKind.bits .u64)))) (2^(min (Int.toNat 32) (IntKind.bits .u64)))))))] [1,5,13,14,15] (ac c1 (ac n1 (ac (Jc n1) (ac n2 (ac n3 (ac (Jn n4 n3) (ac n3 (ac (show X1 (lm os) (Int.toNat i*1) [.int .u32 (u32.wrap ((BitVec.ofInt (IntKind.bits .u32) (os.getD (Int.toNat i) 0) ||| BitVec.ofInt (IntKind.bits .u32) (u32.wrap (u64.wrap ((u64.wrap (xs.getD (Int.toNat i) 0))*2^(min (Int.toNat (u64.wrap s)) (IntKind.bits .u64)))))).toNat))]=some (lm (os.set (Int.toNat i) (u32.wrap ((BitVec.ofInt (IntKind.bits .u32) (os.getD (Int.toNat i) 0) ||| BitVec.ofInt (IntKind.bits .u32) (u32.wrap (u64.wrap ((u64.wrap (xs.getD (Int.toNat i) 0))*2^(min (Int.toNat (u64.wrap s)) (IntKind.bits .u64)))))).toNat)))) from (Xe n4 n3)) (ac (show ¬ (32:Int)<0 from (by decide)) (ac n5 (ac (show X1 (lm (os.set (Int.toNat i) (u32.wrap ((BitVec.ofInt (IntKind.bits .u32) (os.getD (Int.toNat i) 0) ||| BitVec.ofInt (IntKind.bits .u32) (u32.wrap (u64.wrap ((u64.wrap (xs.getD (Int.toNat i) 0))*2^(min (Int.toNat (u64.wrap s)) (IntKind.bits .u64)))))).toNat)))) (Int.toNat (i64.wrap (i+1))*1) [.int .u32 (u32.wrap (Int.fdiv (u64.wrap ((u64.wrap (xs.getD (Int.toNat i) 0))*2^(min (Int.toNat (u64.wrap s)) (IntKind.bits .u64)))) (2^(min (Int.toNat 32) (IntKind.bits .u64)))))]=some (lm ((os.set (Int.toNat i) (u32.wrap ((BitVec.ofInt (IntKind.bits .u32) (os.getD (Int.toNat i) 0) ||| BitVec.ofInt (IntKind.bits .u32) (u32.wrap (u64.wrap ((u64.wrap (xs.getD (Int.toNat i) 0))*2^(min (Int.toNat (u64.wrap s)) (IntKind.bits .u64)))))).toNat))).set (Int.toNat (i64.wrap (i+1))) (u32.wrap (Int.fdiv (u64.wrap ((u64.wrap (xs.getD (Int.toNat i) 0))*2^(min (Int.toNat (u64.wrap s)) (IntKind.bits .u64)))) (2^(min (Int.toNat 32) (IntKind.bits .u64))))))) from (Xe n6 n5)) a0))))))))))))
theorem Zqg (xs:List Int) (s:Int) (k:Nat) (os:List Int) (n:Int) (i:Int)  (c1:(decide (i<n))=false):Za Yir Zgq (Rh xs s k os n i) (.exit 0) (Rh xs s k os n i):=(Za.go Zi 400 [.b false] [1,5,13,14,15] (ac c1 a0))
theorem Zo7 (xs os:List Int) (s n i:Int) (k:Nat) (n1:0≤(i64.wrap ((xs.length:Int)+1))∧(i64.wrap ((xs.length:Int)+1))≤1048576) (hl2:Za Yir (.loop Zgq) ((dds 1 (.val (.int .i64 s)::(dds 3 (.own 1 (Int.toNat (i64.wrap ((xs.length:Int)+1))) (Qv [.int .u32 0] (Int.toNat (i64.wrap ((xs.length:Int)+1))))::(dds 7 (.val (.sl xs.length (lm xs))::(.val (.int .i64 (xs.length:Int))::(.val (.int .i64 0)::(dds 26 [])))))))))) (.exit 0) (Rh xs s k os n i)):Zd Yir 155 [.sl xs.length (lm xs), .int .i64 s] (.fresh 1 k (lm os)):=Zd.of_bodyW (fn:=Zf5) (s:=(dds 1 (.val (.int .i64 s)::(dds 2 (.own 1 k (lm os)::(dds 37 [])))))) (ex := .ret) rfl rfl (Za.seq (Za.go (t:=(vl xs::(vi s::(dds 2 (.own 1 0 []::(dds 37 [])))))) Zi 400 [] [0,1,4] a0) (Za.seq (Za.go (t:=(vl xs::(vi s::(dds 2 (.own 1 0 []::(.own 1 (Int.toNat (i64.wrap ((xs.length:Int)+1))) (Qv [.int .u32 0] (Int.toNat (i64.wrap ((xs.length:Int)+1))))::(dds 36 []))))))) Zi 400 [] [0,1,4,5] (ac n1 a0)) (Za.seq (Za.seq (Za.go Zi 400 [] [1,5,13,14,15] a0) (Za.block hl2)) (Za.go Zi 400 [] [1,4] a0)))) (by intro i e;cases e) rfl
def Xw (k:Nat) (us:List Int) (vs:List Int) (n:Int) (t:Int) (t2:Int) (kq:Nat) (qs:List Int) (s:Int) (j:Int) (g:Int) (r:Int):Zk:=(dds 4 (.own 1 kq (lm qs)::(dds 3 (.val (.int .i64 s)::(.own 1 k (lm us)::(.val (.sl vs.length (lm vs))::(.val (.int .i64 n)::(dds 1 (.val (.int .u64 t)::(.val (.int .u64 t2)::(.val (.int .i64 j)::(dds 1 (.val (.int .u64 g)::(.val (.int .u64 r)::(dds 263 [])))))))))))))))
theorem Zk3 (k:Nat) (us:List Int) (vs:List Int) (n:Int) (t:Int) (t2:Int) (kq:Nat) (qs:List Int) (s:Int) (j:Int) (g:Int) (r:Int)  (c1:(decide (g≥4294967296))=true) (c2:(decide ((u64.wrap (r+t))≥4294967296))=true):Za Yir Ww (Xw k us vs n t t2 kq qs s j g r) (.exit 2) (Xw k us vs n t t2 kq qs s j (u64.wrap (g-1)) (u64.wrap (r+t))):=(Za.go Zi 400 [.b true, .b true, .b true] [4,8,9,10,11,13,14,15,17,18] (ac c1 (ac (show true=true from rfl) (ac c2 a0))))
theorem Zk2 (k:Nat) (us:List Int) (vs:List Int) (n:Int) (t:Int) (t2:Int) (kq:Nat) (qs:List Int) (s:Int) (j:Int) (g:Int) (r:Int)  (c1:(decide (g≥4294967296))=true) (c2:(decide ((u64.wrap (r+t))≥4294967296))=false):Za Yir Ww (Xw k us vs n t t2 kq qs s j g r) .norm (Xw k us vs n t t2 kq qs s j (u64.wrap (g-1)) (u64.wrap (r+t))):=(Za.go Zi 400 [.b true, .b true, .b false] [4,8,9,10,11,13,14,15,17,18] (ac c1 (ac (show true=true from rfl) (ac c2 a0))))
theorem Zk1 (k:Nat) (us:List Int) (vs:List Int) (n:Int) (t:Int) (t2:Int) (kq:Nat) (qs:List Int) (s:Int) (j:Int) (g:Int) (r:Int)  (c1:(decide (g≥4294967296))=false) (c2:(decide ((u64.wrap (g*t2))>(u64.wrap ((BitVec.ofInt (IntKind.bits .u64) (u64.wrap (r*2^(min (Int.toNat 32) (IntKind.bits .u64)))) ||| BitVec.ofInt (IntKind.bits .u64) (u64.wrap (us.getD (Int.toNat (i64.wrap ((i64.wrap (j+n))-2))) 0))).toNat))))=true) (c3:(decide ((u64.wrap (r+t))≥4294967296))=true) (n1:0≤(i64.wrap ((i64.wrap (j+n))-2))∧(i64.wrap ((i64.wrap (j+n))-2))<(k:Int)) (n2:us.length=k):Za Yir Ww (Xw k us vs n t t2 kq qs s j g r) (.exit 2) (Xw k us vs n t t2 kq qs s j (u64.wrap (g-1)) (u64.wrap (r+t))):=(Za.go Zi 400 [.b false, .v (.int .u32 (us.getD (Int.toNat (i64.wrap ((i64.wrap (j+n))-2))) 0)), .b true, .b true] [4,8,9,10,11,13,14,15,17,18] (ac c1 (ac (show ¬ (32:Int)<0 from (by decide)) (ac n1 (ac (Jn n2 n1) (ac c2 (ac c3 a0)))))))
theorem Zk0 (k:Nat) (us:List Int) (vs:List Int) (n:Int) (t:Int) (t2:Int) (kq:Nat) (qs:List Int) (s:Int) (j:Int) (g:Int) (r:Int)  (c1:(decide (g≥4294967296))=false) (c2:(decide ((u64.wrap (g*t2))>(u64.wrap ((BitVec.ofInt (IntKind.bits .u64) (u64.wrap (r*2^(min (Int.toNat 32) (IntKind.bits .u64)))) ||| BitVec.ofInt (IntKind.bits .u64) (u64.wrap (us.getD (Int.toNat (i64.wrap ((i64.wrap (j+n))-2))) 0))).toNat))))=true) (c3:(decide ((u64.wrap (r+t))≥4294967296))=false) (n1:0≤(i64.wrap ((i64.wrap (j+n))-2))∧(i64.wrap ((i64.wrap (j+n))-2))<(k:Int)) (n2:us.length=k):Za Yir Ww (Xw k us vs n t t2 kq qs s j g r) .norm (Xw k us vs n t t2 kq qs s j (u64.wrap (g-1)) (u64.wrap (r+t))):=(Za.go Zi 400 [.b false, .v (.int .u32 (us.getD (Int.toNat (i64.wrap ((i64.wrap (j+n))-2))) 0)), .b true, .b false] [4,8,9,10,11,13,14,15,17,18] (ac c1 (ac (show ¬ (32:Int)<0 from (by decide)) (ac n1 (ac (Jn n2 n1) (ac c2 (ac c3 a0)))))))
theorem Tq (k:Nat) (us:List Int) (vs:List Int) (n:Int) (t:Int) (t2:Int) (kq:Nat) (qs:List Int) (s:Int) (j:Int) (g:Int) (r:Int)  (c1:(decide (g≥4294967296))=false) (c2:(decide ((u64.wrap (g*t2))>(u64.wrap ((BitVec.ofInt (IntKind.bits .u64) (u64.wrap (r*2^(min (Int.toNat 32) (IntKind.bits .u64)))) ||| BitVec.ofInt (IntKind.bits .u64) (u64.wrap (us.getD (Int.toNat (i64.wrap ((i64.wrap (j+n))-2))) 0))).toNat))))=false) (n1:0≤(i64.wrap ((i64.wrap (j+n))-2))∧(i64.wrap ((i64.wrap (j+n))-2))<(k:Int)) (n2:us.length=k):Za Yir Ww (Xw k us vs n t t2 kq qs s j g r) (.exit 2) (Xw k us vs n t t2 kq qs s j g r):=(Za.go Zi 400 [.b false, .v (.int .u32 (us.getD (Int.toNat (i64.wrap ((i64.wrap (j+n))-2))) 0)), .b false] [4,8,9,10,11,13,14,15,17,18] (ac c1 (ac (show ¬ (32:Int)<0 from (by decide)) (ac n1 (ac (Jn n2 n1) (ac c2 a0))))))
def Hu (k:Nat) (us:List Int) (vs:List Int) (n:Int) (t:Int) (t2:Int) (kq:Nat) (qs:List Int) (s:Int) (j:Int) (g:Int) (b:Int) (c:Int) (i:Int):Zk:=(dds 4 (.own 1 kq (lm qs)::(dds 3 (.val (.int .i64 s)::(.own 1 k (lm us)::(.val (.sl vs.length (lm vs))::(.val (.int .i64 n)::(dds 1 (.val (.int .u64 t)::(.val (.int .u64 t2)::(.val (.int .i64 j)::(dds 1 (.val (.int .u64 g)::(dds 1 (.val (.int .u64 b)::(.val (.int .u64 c)::(.val (.int .i64 i)::(dds 260 []))))))))))))))))))
theorem Zkz (k:Nat) (us:List Int) (vs:List Int) (n:Int) (t:Int) (t2:Int) (kq:Nat) (qs:List Int) (s:Int) (j:Int) (g:Int) (b:Int) (c:Int) (i:Int)  (c1:(decide (i<n))=true) (n1:0≤i∧i<(vs.length:Int)) (n2:0≤(i64.wrap (i+j))∧(i64.wrap (i+j))<(k:Int)) (n3:us.length=k):Za Yir Ev (Hu k us vs n t t2 kq qs s j g b c i) .norm (Hu k (us.set (Int.toNat (i64.wrap (i+j))) (u32.wrap (u64.wrap ((u64.wrap ((u64.wrap (us.getD (Int.toNat (i64.wrap (i+j))) 0))-(u64.wrap (u32.wrap (u64.wrap ((u64.wrap (g*(u64.wrap (vs.getD (Int.toNat i) 0))))+c))))))-b)))) vs n t t2 kq qs s j g (Int.fdiv (u64.wrap ((u64.wrap ((u64.wrap (us.getD (Int.toNat (i64.wrap (i+j))) 0))-(u64.wrap (u32.wrap (u64.wrap ((u64.wrap (g*(u64.wrap (vs.getD (Int.toNat i) 0))))+c))))))-b)) (2^(min (Int.toNat 63) (IntKind.bits .u64)))) (Int.fdiv (u64.wrap ((u64.wrap (g*(u64.wrap (vs.getD (Int.toNat i) 0))))+c)) (2^(min (Int.toNat 32) (IntKind.bits .u64)))) (i64.wrap (i+1))):=(Za.go Zi 400 [.b true, .v (.int .u32 (vs.getD (Int.toNat i) 0)), .v (.int .u32 (us.getD (Int.toNat (i64.wrap (i+j))) 0)), .l (lm (us.set (Int.toNat (i64.wrap (i+j))) (u32.wrap (u64.wrap ((u64.wrap ((u64.wrap (us.getD (Int.toNat (i64.wrap (i+j))) 0))-(u64.wrap (u32.wrap (u64.wrap ((u64.wrap (g*(u64.wrap (vs.getD (Int.toNat i) 0))))+c))))))-b)))))] [4,8,9,10,11,13,14,15,17,19,20,21] (ac c1 (ac n1 (ac (Jc n1) (ac (show ¬ (32:Int)<0 from (by decide)) (ac n2 (ac (Jn n3 n2) (ac (show ¬ (63:Int)<0 from (by decide)) (ac n2 (ac (show X1 (lm us) (Int.toNat (i64.wrap (i+j))*1) [.int .u32 (u32.wrap (u64.wrap ((u64.wrap ((u64.wrap (us.getD (Int.toNat (i64.wrap (i+j))) 0))-(u64.wrap (u32.wrap (u64.wrap ((u64.wrap (g*(u64.wrap (vs.getD (Int.toNat i) 0))))+c))))))-b)))]=some (lm (us.set (Int.toNat (i64.wrap (i+j))) (u32.wrap (u64.wrap ((u64.wrap ((u64.wrap (us.getD (Int.toNat (i64.wrap (i+j))) 0))-(u64.wrap (u32.wrap (u64.wrap ((u64.wrap (g*(u64.wrap (vs.getD (Int.toNat i) 0))))+c))))))-b))))) from (Xe n3 n2)) a0))))))))))
theorem Zky (k:Nat) (us:List Int) (vs:List Int) (n:Int) (t:Int) (t2:Int) (kq:Nat) (qs:List Int) (s:Int) (j:Int) (g:Int) (b:Int) (c:Int) (i:Int)  (c1:(decide (i<n))=false):Za Yir Ev (Hu k us vs n t t2 kq qs s j g b c i) (.exit 4) (Hu k us vs n t t2 kq qs s j g b c i):=(Za.go Zi 400 [.b false] [4,8,9,10,11,13,14,15,17,19,20,21] (ac c1 a0))
def Db (k:Nat) (us:List Int) (vs:List Int) (n:Int) (t:Int) (t2:Int) (kq:Nat) (qs:List Int) (s:Int) (j:Int) (g:Int) (c:Int) (i:Int):Zk:=(dds 4 (.own 1 kq (lm qs)::(dds 3 (.val (.int .i64 s)::(.own 1 k (lm us)::(.val (.sl vs.length (lm vs))::(.val (.int .i64 n)::(dds 1 (.val (.int .u64 t)::(.val (.int .u64 t2)::(.val (.int .i64 j)::(dds 1 (.val (.int .u64 g)::(dds 7 (.val (.int .u64 c)::(.val (.int .i64 i)::(dds 255 [])))))))))))))))))
theorem Zk5 (k:Nat) (us:List Int) (vs:List Int) (n:Int) (t:Int) (t2:Int) (kq:Nat) (qs:List Int) (s:Int) (j:Int) (g:Int) (c:Int) (i:Int)  (c1:(decide (i<n))=true) (n1:0≤(i64.wrap (i+j))∧(i64.wrap (i+j))<(k:Int)) (n2:us.length=k) (n3:0≤i∧i<(vs.length:Int)):Za Yir Lz (Db k us vs n t t2 kq qs s j g c i) .norm (Db k (us.set (Int.toNat (i64.wrap (i+j))) (u32.wrap (u64.wrap ((u64.wrap ((u64.wrap (us.getD (Int.toNat (i64.wrap (i+j))) 0))+(u64.wrap (vs.getD (Int.toNat i) 0))))+c)))) vs n t t2 kq qs s j g (Int.fdiv (u64.wrap ((u64.wrap ((u64.wrap (us.getD (Int.toNat (i64.wrap (i+j))) 0))+(u64.wrap (vs.getD (Int.toNat i) 0))))+c)) (2^(min (Int.toNat 32) (IntKind.bits .u64)))) (i64.wrap (i+1))):=(Za.go Zi 400 [.b true, .v (.int .u32 (us.getD (Int.toNat (i64.wrap (i+j))) 0)), .v (.int .u32 (vs.getD (Int.toNat i) 0)), .l (lm (us.set (Int.toNat (i64.wrap (i+j))) (u32.wrap (u64.wrap ((u64.wrap ((u64.wrap (us.getD (Int.toNat (i64.wrap (i+j))) 0))+(u64.wrap (vs.getD (Int.toNat i) 0))))+c)))))] [4,8,9,10,11,13,14,15,17,25,26] (ac c1 (ac n1 (ac (Jn n2 n1) (ac n3 (ac (Jc n3) (ac (show ¬ (32:Int)<0 from (by decide)) (ac n1 (ac (show X1 (lm us) (Int.toNat (i64.wrap (i+j))*1) [.int .u32 (u32.wrap (u64.wrap ((u64.wrap ((u64.wrap (us.getD (Int.toNat (i64.wrap (i+j))) 0))+(u64.wrap (vs.getD (Int.toNat i) 0))))+c)))]=some (lm (us.set (Int.toNat (i64.wrap (i+j))) (u32.wrap (u64.wrap ((u64.wrap ((u64.wrap (us.getD (Int.toNat (i64.wrap (i+j))) 0))+(u64.wrap (vs.getD (Int.toNat i) 0))))+c))))) from (Xe n2 n1)) a0)))))))))
theorem Zk4 (k:Nat) (us:List Int) (vs:List Int) (n:Int) (t:Int) (t2:Int) (kq:Nat) (qs:List Int) (s:Int) (j:Int) (g:Int) (c:Int) (i:Int)  (c1:(decide (i<n))=false):Za Yir Lz (Db k us vs n t t2 kq qs s j g c i) (.exit 6) (Db k us vs n t t2 kq qs s j g c i):=(Za.go Zi 400 [.b false] [4,8,9,10,11,13,14,15,17,25,26] (ac c1 a0))
def Hk (k:Nat) (us:List Int) (vs:List Int) (n:Int) (t:Int) (t2:Int) (kq:Nat) (qs:List Int) (s:Int) (j:Int):Zk:=(dds 4 (.own 1 kq (lm qs)::(dds 3 (.val (.int .i64 s)::(.own 1 k (lm us)::(.val (.sl vs.length (lm vs))::(.val (.int .i64 n)::(dds 1 (.val (.int .u64 t)::(.val (.int .u64 t2)::(.val (.int .i64 j)::(dds 266 []))))))))))))
theorem Zqq (k:Nat) (us:List Int) (vs:List Int) (n:Int) (t:Int) (t2:Int) (kq:Nat) (qs:List Int) (s:Int) (j:Int) (us1 us2:List Int) (g r b c cc:Int) (c1:(decide (j≥0))=true) (c2:((Int.fdiv (u64.wrap ((u64.wrap ((u64.wrap (us1.getD (Int.toNat (i64.wrap (j+n))) 0))-c))-b)) (2^(min (Int.toNat 63) (IntKind.bits .u64)))) != 0)=true) (n1:0≤(i64.wrap (j+n))∧(i64.wrap (j+n))<(k:Int)) (n2:us.length=k) (n3:0≤(i64.wrap ((i64.wrap (j+n))-1))∧(i64.wrap ((i64.wrap (j+n))-1))<(k:Int)) (n4:¬ t=0) (hl5:Za Yir (.loop Ww) (Xw k us vs n t t2 kq qs s j (u64.wrap (Int.tdiv (u64.wrap ((BitVec.ofInt (IntKind.bits .u64) (u64.wrap ((u64.wrap (us.getD (Int.toNat (i64.wrap (j+n))) 0))*2^(min (Int.toNat 32) (IntKind.bits .u64)))) ||| BitVec.ofInt (IntKind.bits .u64) (u64.wrap (us.getD (Int.toNat (i64.wrap ((i64.wrap (j+n))-1))) 0))).toNat)) t)) (Int.tmod (u64.wrap ((BitVec.ofInt (IntKind.bits .u64) (u64.wrap ((u64.wrap (us.getD (Int.toNat (i64.wrap (j+n))) 0))*2^(min (Int.toNat 32) (IntKind.bits .u64)))) ||| BitVec.ofInt (IntKind.bits .u64) (u64.wrap (us.getD (Int.toNat (i64.wrap ((i64.wrap (j+n))-1))) 0))).toNat)) t)) (.exit 2) (Xw k us vs n t t2 kq qs s j g r)) (hl6:Za Yir (.loop Ev) (Hu k us vs n t t2 kq qs s j g 0 0 0) (.exit 4) (Hu k us1 vs n t t2 kq qs s j g b c n)) (n7:us1.length=k) (hl8:Za Yir (.loop Lz) (Db k (us1.set (Int.toNat (i64.wrap (j+n))) (u32.wrap (u64.wrap ((u64.wrap ((u64.wrap (us1.getD (Int.toNat (i64.wrap (j+n))) 0))-c))-b)))) vs n t t2 kq qs s j (u64.wrap (g-1)) 0 0) (.exit 6) (Db k us2 vs n t t2 kq qs s j (u64.wrap (g-1)) cc n)) (n9:us2.length=k) (n10:0≤j∧j<(kq:Int)) (n11:qs.length=kq):Za Yir N0 (Hk k us vs n t t2 kq qs s j) .norm (Hk k (us2.set (Int.toNat (i64.wrap (j+n))) (u32.wrap ((us2.getD (Int.toNat (i64.wrap (j+n))) 0)+(u32.wrap cc)))) vs n t t2 kq (qs.set (Int.toNat j) (u32.wrap (u64.wrap (g-1)))) s (i64.wrap (j-1))):=(Za.seq (Za.go (t:=(dds 4 (.own 1 kq (lm qs)::(dds 3 (vi s::(.own 1 k (lm us)::(vl vs::(vi n::(dds 1 (.val (.int .u64 t)::(.val (.int .u64 t2)::(vi j::(dds 266 []))))))))))))) Zi 400 [.b true] [4,8,9,10,11,13,14,15] (ac c1 a0)) (Za.seq (Za.block_norm (Za.seq (Za.go (t:=(dds 4 (.own 1 kq (lm qs)::(dds 3 (vi s::(.own 1 k (lm us)::(vl vs::(vi n::(dds 1 (.val (.int .u64 t)::(.val (.int .u64 t2)::(vi j::(.val (.int .u64 (u64.wrap ((BitVec.ofInt (IntKind.bits .u64) (u64.wrap ((u64.wrap (us.getD (Int.toNat (i64.wrap (j+n))) 0))*2^(min (Int.toNat 32) (IntKind.bits .u64)))) ||| BitVec.ofInt (IntKind.bits .u64) (u64.wrap (us.getD (Int.toNat (i64.wrap ((i64.wrap (j+n))-1))) 0))).toNat)))::(dds 265 [])))))))))))))) Zi 400 [.v (.int .u32 (us.getD (Int.toNat (i64.wrap (j+n))) 0)), .v (.int .u32 (us.getD (Int.toNat (i64.wrap ((i64.wrap (j+n))-1))) 0))] [4,8,9,10,11,13,14,15,16] (ac n1 (ac (Jn n2 n1) (ac (show ¬ (32:Int)<0 from (by decide)) (ac n3 (ac (Jn n2 n3) a0)))))) (Za.seq (Za.go Zi 400 [] [4,8,9,10,11,13,14,15,17,18] (ac n4 (ac n4 a0))) (Za.seq (Za.block hl5) (Za.seq (Za.go (t:=(dds 4 (.own 1 kq (lm qs)::(dds 3 (vi s::(.own 1 k (lm us)::(vl vs::(vi n::(dds 1 (.val (.int .u64 t)::(.val (.int .u64 t2)::(vi j::(dds 1 (.val (.int .u64 g)::(dds 1 (.val (.int .u64 0)::(.val (.int .u64 0)::(dds 261 [])))))))))))))))))) Zi 400 [] [4,8,9,10,11,13,14,15,17,19,20] a0) (Za.seq (Za.seq (Za.go Zi 400 [] [4,8,9,10,11,13,14,15,17,19,20,21] a0) (Za.block hl6)) (Za.seq (Za.go (t:=(dds 4 (.own 1 kq (lm qs)::(dds 3 (vi s::(.own 1 k (lm us1)::(vl vs::(vi n::(dds 1 (.val (.int .u64 t)::(.val (.int .u64 t2)::(vi j::(dds 1 (.val (.int .u64 g)::(dds 6 (.val (.int .u64 (u64.wrap ((u64.wrap ((u64.wrap (us1.getD (Int.toNat (i64.wrap (j+n))) 0))-c))-b)))::(dds 257 []))))))))))))))))) Zi 400 [.v (.int .u32 (us1.getD (Int.toNat (i64.wrap (j+n))) 0))] [4,8,9,10,11,13,14,15,17,24] (ac n1 (ac (Jn n7 n1) a0))) (Za.seq (Za.go (t:=(dds 4 (.own 1 kq (lm qs)::(dds 3 (vi s::(.own 1 k (lm (us1.set (Int.toNat (i64.wrap (j+n))) (u32.wrap (u64.wrap ((u64.wrap ((u64.wrap (us1.getD (Int.toNat (i64.wrap (j+n))) 0))-c))-b)))))::(vl vs::(vi n::(dds 1 (.val (.int .u64 t)::(.val (.int .u64 t2)::(vi j::(dds 1 (.val (.int .u64 g)::(dds 6 (.val (.int .u64 (u64.wrap ((u64.wrap ((u64.wrap (us1.getD (Int.toNat (i64.wrap (j+n))) 0))-c))-b)))::(dds 257 []))))))))))))))))) Zi 400 [.l (lm (us1.set (Int.toNat (i64.wrap (j+n))) (u32.wrap (u64.wrap ((u64.wrap ((u64.wrap (us1.getD (Int.toNat (i64.wrap (j+n))) 0))-c))-b)))))] [4,8,9,10,11,13,14,15,17,24] (ac n1 (ac (show X1 (lm us1) (Int.toNat (i64.wrap (j+n))*1) [.int .u32 (u32.wrap (u64.wrap ((u64.wrap ((u64.wrap (us1.getD (Int.toNat (i64.wrap (j+n))) 0))-c))-b)))]=some (lm (us1.set (Int.toNat (i64.wrap (j+n))) (u32.wrap (u64.wrap ((u64.wrap ((u64.wrap (us1.getD (Int.toNat (i64.wrap (j+n))) 0))-c))-b))))) from (Xe n7 n1)) a0))) (Za.seq (Za.seq (Za.go (t:=(dds 4 (.own 1 kq (lm qs)::(dds 3 (vi s::(.own 1 k (lm (us1.set (Int.toNat (i64.wrap (j+n))) (u32.wrap (u64.wrap ((u64.wrap ((u64.wrap (us1.getD (Int.toNat (i64.wrap (j+n))) 0))-c))-b)))))::(vl vs::(vi n::(dds 1 (.val (.int .u64 t)::(.val (.int .u64 t2)::(vi j::(dds 1 (.val (.int .u64 g)::(dds 181 (.val (.bool ((Int.fdiv (u64.wrap ((u64.wrap ((u64.wrap (us1.getD (Int.toNat (i64.wrap (j+n))) 0))-c))-b)) (2^(min (Int.toNat 63) (IntKind.bits .u64)))) != 0))::(dds 82 []))))))))))))))))) Zi 400 [] [4,8,9,10,11,13,14,15,17,199] (ac (show ¬ (63:Int)<0 from (by decide)) a0)) (Za.cond_t (by rfl) c2 (Za.seq (Za.go (t:=(dds 4 (.own 1 kq (lm qs)::(dds 3 (vi s::(.own 1 k (lm (us1.set (Int.toNat (i64.wrap (j+n))) (u32.wrap (u64.wrap ((u64.wrap ((u64.wrap (us1.getD (Int.toNat (i64.wrap (j+n))) 0))-c))-b)))))::(vl vs::(vi n::(dds 1 (.val (.int .u64 t)::(.val (.int .u64 t2)::(vi j::(dds 1 (.val (.int .u64 (u64.wrap (g-1)))::(dds 264 []))))))))))))))) Zi 400 [] [4,8,9,10,11,13,14,15,17] a0) (Za.seq (Za.go (t:=(dds 4 (.own 1 kq (lm qs)::(dds 3 (vi s::(.own 1 k (lm (us1.set (Int.toNat (i64.wrap (j+n))) (u32.wrap (u64.wrap ((u64.wrap ((u64.wrap (us1.getD (Int.toNat (i64.wrap (j+n))) 0))-c))-b)))))::(vl vs::(vi n::(dds 1 (.val (.int .u64 t)::(.val (.int .u64 t2)::(vi j::(dds 1 (.val (.int .u64 (u64.wrap (g-1)))::(dds 7 (.val (.int .u64 0)::(dds 256 []))))))))))))))))) Zi 400 [] [4,8,9,10,11,13,14,15,17,25] a0) (Za.seq (Za.seq (Za.go Zi 400 [] [4,8,9,10,11,13,14,15,17,25,26] a0) (Za.block hl8)) (Za.go (t:=(dds 4 (.own 1 kq (lm qs)::(dds 3 (vi s::(.own 1 k (lm (us2.set (Int.toNat (i64.wrap (j+n))) (u32.wrap ((us2.getD (Int.toNat (i64.wrap (j+n))) 0)+(u32.wrap cc)))))::(vl vs::(vi n::(dds 1 (.val (.int .u64 t)::(.val (.int .u64 t2)::(vi j::(dds 1 (.val (.int .u64 (u64.wrap (g-1)))::(dds 264 []))))))))))))))) Zi 400 [.v (.int .u32 (us2.getD (Int.toNat (i64.wrap (j+n))) 0)), .l (lm (us2.set (Int.toNat (i64.wrap (j+n))) (u32.wrap ((us2.getD (Int.toNat (i64.wrap (j+n))) 0)+(u32.wrap cc)))))] [4,8,9,10,11,13,14,15,17] (ac n1 (ac (Jn n9 n1) (ac n1 (ac (show X1 (lm us2) (Int.toNat (i64.wrap (j+n))*1) [.int .u32 (u32.wrap ((us2.getD (Int.toNat (i64.wrap (j+n))) 0)+(u32.wrap cc)))]=some (lm (us2.set (Int.toNat (i64.wrap (j+n))) (u32.wrap ((us2.getD (Int.toNat (i64.wrap (j+n))) 0)+(u32.wrap cc))))) from (Xe n9 n1)) a0)))))))))) (Za.go (t:=(dds 4 (.own 1 kq (lm (qs.set (Int.toNat j) (u32.wrap (u64.wrap (g-1)))))::(dds 3 (vi s::(.own 1 k (lm (us2.set (Int.toNat (i64.wrap (j+n))) (u32.wrap ((us2.getD (Int.toNat (i64.wrap (j+n))) 0)+(u32.wrap cc)))))::(vl vs::(vi n::(dds 1 (.val (.int .u64 t)::(.val (.int .u64 t2)::(vi j::(dds 266 []))))))))))))) Zi 400 [.l (lm (qs.set (Int.toNat j) (u32.wrap (u64.wrap (g-1)))))] [4,8,9,10,11,13,14,15] (ac n10 (ac (show X1 (lm qs) (Int.toNat j*1) [.int .u32 (u32.wrap (u64.wrap (g-1)))]=some (lm (qs.set (Int.toNat j) (u32.wrap (u64.wrap (g-1))))) from (Xe n11 n10)) a0)))))))))))) (Za.go Zi 400 [] [4,8,9,10,11,13,14,15] a0)))
theorem Zqp (k:Nat) (us:List Int) (vs:List Int) (n:Int) (t:Int) (t2:Int) (kq:Nat) (qs:List Int) (s:Int) (j:Int) (us1:List Int) (g r b c:Int) (c1:(decide (j≥0))=true) (c2:((Int.fdiv (u64.wrap ((u64.wrap ((u64.wrap (us1.getD (Int.toNat (i64.wrap (j+n))) 0))-c))-b)) (2^(min (Int.toNat 63) (IntKind.bits .u64)))) != 0)=false) (n1:0≤(i64.wrap (j+n))∧(i64.wrap (j+n))<(k:Int)) (n2:us.length=k) (n3:0≤(i64.wrap ((i64.wrap (j+n))-1))∧(i64.wrap ((i64.wrap (j+n))-1))<(k:Int)) (n4:¬ t=0) (hl5:Za Yir (.loop Ww) (Xw k us vs n t t2 kq qs s j (u64.wrap (Int.tdiv (u64.wrap ((BitVec.ofInt (IntKind.bits .u64) (u64.wrap ((u64.wrap (us.getD (Int.toNat (i64.wrap (j+n))) 0))*2^(min (Int.toNat 32) (IntKind.bits .u64)))) ||| BitVec.ofInt (IntKind.bits .u64) (u64.wrap (us.getD (Int.toNat (i64.wrap ((i64.wrap (j+n))-1))) 0))).toNat)) t)) (Int.tmod (u64.wrap ((BitVec.ofInt (IntKind.bits .u64) (u64.wrap ((u64.wrap (us.getD (Int.toNat (i64.wrap (j+n))) 0))*2^(min (Int.toNat 32) (IntKind.bits .u64)))) ||| BitVec.ofInt (IntKind.bits .u64) (u64.wrap (us.getD (Int.toNat (i64.wrap ((i64.wrap (j+n))-1))) 0))).toNat)) t)) (.exit 2) (Xw k us vs n t t2 kq qs s j g r)) (hl6:Za Yir (.loop Ev) (Hu k us vs n t t2 kq qs s j g 0 0 0) (.exit 4) (Hu k us1 vs n t t2 kq qs s j g b c n)) (n7:us1.length=k) (n8:0≤j∧j<(kq:Int)) (n9:qs.length=kq):Za Yir N0 (Hk k us vs n t t2 kq qs s j) .norm (Hk k (us1.set (Int.toNat (i64.wrap (j+n))) (u32.wrap (u64.wrap ((u64.wrap ((u64.wrap (us1.getD (Int.toNat (i64.wrap (j+n))) 0))-c))-b)))) vs n t t2 kq (qs.set (Int.toNat j) (u32.wrap g)) s (i64.wrap (j-1))):=(Za.seq (Za.go (t:=(dds 4 (.own 1 kq (lm qs)::(dds 3 (vi s::(.own 1 k (lm us)::(vl vs::(vi n::(dds 1 (.val (.int .u64 t)::(.val (.int .u64 t2)::(vi j::(dds 266 []))))))))))))) Zi 400 [.b true] [4,8,9,10,11,13,14,15] (ac c1 a0)) (Za.seq (Za.block_norm (Za.seq (Za.go (t:=(dds 4 (.own 1 kq (lm qs)::(dds 3 (vi s::(.own 1 k (lm us)::(vl vs::(vi n::(dds 1 (.val (.int .u64 t)::(.val (.int .u64 t2)::(vi j::(.val (.int .u64 (u64.wrap ((BitVec.ofInt (IntKind.bits .u64) (u64.wrap ((u64.wrap (us.getD (Int.toNat (i64.wrap (j+n))) 0))*2^(min (Int.toNat 32) (IntKind.bits .u64)))) ||| BitVec.ofInt (IntKind.bits .u64) (u64.wrap (us.getD (Int.toNat (i64.wrap ((i64.wrap (j+n))-1))) 0))).toNat)))::(dds 265 [])))))))))))))) Zi 400 [.v (.int .u32 (us.getD (Int.toNat (i64.wrap (j+n))) 0)), .v (.int .u32 (us.getD (Int.toNat (i64.wrap ((i64.wrap (j+n))-1))) 0))] [4,8,9,10,11,13,14,15,16] (ac n1 (ac (Jn n2 n1) (ac (show ¬ (32:Int)<0 from (by decide)) (ac n3 (ac (Jn n2 n3) a0)))))) (Za.seq (Za.go Zi 400 [] [4,8,9,10,11,13,14,15,17,18] (ac n4 (ac n4 a0))) (Za.seq (Za.block hl5) (Za.seq (Za.go (t:=(dds 4 (.own 1 kq (lm qs)::(dds 3 (vi s::(.own 1 k (lm us)::(vl vs::(vi n::(dds 1 (.val (.int .u64 t)::(.val (.int .u64 t2)::(vi j::(dds 1 (.val (.int .u64 g)::(dds 1 (.val (.int .u64 0)::(.val (.int .u64 0)::(dds 261 [])))))))))))))))))) Zi 400 [] [4,8,9,10,11,13,14,15,17,19,20] a0) (Za.seq (Za.seq (Za.go Zi 400 [] [4,8,9,10,11,13,14,15,17,19,20,21] a0) (Za.block hl6)) (Za.seq (Za.go (t:=(dds 4 (.own 1 kq (lm qs)::(dds 3 (vi s::(.own 1 k (lm us1)::(vl vs::(vi n::(dds 1 (.val (.int .u64 t)::(.val (.int .u64 t2)::(vi j::(dds 1 (.val (.int .u64 g)::(dds 6 (.val (.int .u64 (u64.wrap ((u64.wrap ((u64.wrap (us1.getD (Int.toNat (i64.wrap (j+n))) 0))-c))-b)))::(dds 257 []))))))))))))))))) Zi 400 [.v (.int .u32 (us1.getD (Int.toNat (i64.wrap (j+n))) 0))] [4,8,9,10,11,13,14,15,17,24] (ac n1 (ac (Jn n7 n1) a0))) (Za.seq (Za.go (t:=(dds 4 (.own 1 kq (lm qs)::(dds 3 (vi s::(.own 1 k (lm (us1.set (Int.toNat (i64.wrap (j+n))) (u32.wrap (u64.wrap ((u64.wrap ((u64.wrap (us1.getD (Int.toNat (i64.wrap (j+n))) 0))-c))-b)))))::(vl vs::(vi n::(dds 1 (.val (.int .u64 t)::(.val (.int .u64 t2)::(vi j::(dds 1 (.val (.int .u64 g)::(dds 6 (.val (.int .u64 (u64.wrap ((u64.wrap ((u64.wrap (us1.getD (Int.toNat (i64.wrap (j+n))) 0))-c))-b)))::(dds 257 []))))))))))))))))) Zi 400 [.l (lm (us1.set (Int.toNat (i64.wrap (j+n))) (u32.wrap (u64.wrap ((u64.wrap ((u64.wrap (us1.getD (Int.toNat (i64.wrap (j+n))) 0))-c))-b)))))] [4,8,9,10,11,13,14,15,17,24] (ac n1 (ac (show X1 (lm us1) (Int.toNat (i64.wrap (j+n))*1) [.int .u32 (u32.wrap (u64.wrap ((u64.wrap ((u64.wrap (us1.getD (Int.toNat (i64.wrap (j+n))) 0))-c))-b)))]=some (lm (us1.set (Int.toNat (i64.wrap (j+n))) (u32.wrap (u64.wrap ((u64.wrap ((u64.wrap (us1.getD (Int.toNat (i64.wrap (j+n))) 0))-c))-b))))) from (Xe n7 n1)) a0))) (Za.seq (Za.seq (Za.go (t:=(dds 4 (.own 1 kq (lm qs)::(dds 3 (vi s::(.own 1 k (lm (us1.set (Int.toNat (i64.wrap (j+n))) (u32.wrap (u64.wrap ((u64.wrap ((u64.wrap (us1.getD (Int.toNat (i64.wrap (j+n))) 0))-c))-b)))))::(vl vs::(vi n::(dds 1 (.val (.int .u64 t)::(.val (.int .u64 t2)::(vi j::(dds 1 (.val (.int .u64 g)::(dds 181 (.val (.bool ((Int.fdiv (u64.wrap ((u64.wrap ((u64.wrap (us1.getD (Int.toNat (i64.wrap (j+n))) 0))-c))-b)) (2^(min (Int.toNat 63) (IntKind.bits .u64)))) != 0))::(dds 82 []))))))))))))))))) Zi 400 [] [4,8,9,10,11,13,14,15,17,199] (ac (show ¬ (63:Int)<0 from (by decide)) a0)) (Za.cond_f (by rfl) c2 (Za.go (t:=(dds 4 (.own 1 kq (lm qs)::(dds 3 (vi s::(.own 1 k (lm (us1.set (Int.toNat (i64.wrap (j+n))) (u32.wrap (u64.wrap ((u64.wrap ((u64.wrap (us1.getD (Int.toNat (i64.wrap (j+n))) 0))-c))-b)))))::(vl vs::(vi n::(dds 1 (.val (.int .u64 t)::(.val (.int .u64 t2)::(vi j::(dds 1 (.val (.int .u64 g)::(dds 264 []))))))))))))))) Zi 400 [] [4,8,9,10,11,13,14,15,17] a0))) (Za.go (t:=(dds 4 (.own 1 kq (lm (qs.set (Int.toNat j) (u32.wrap g)))::(dds 3 (vi s::(.own 1 k (lm (us1.set (Int.toNat (i64.wrap (j+n))) (u32.wrap (u64.wrap ((u64.wrap ((u64.wrap (us1.getD (Int.toNat (i64.wrap (j+n))) 0))-c))-b)))))::(vl vs::(vi n::(dds 1 (.val (.int .u64 t)::(.val (.int .u64 t2)::(vi j::(dds 266 []))))))))))))) Zi 400 [.l (lm (qs.set (Int.toNat j) (u32.wrap g)))] [4,8,9,10,11,13,14,15] (ac n8 (ac (show X1 (lm qs) (Int.toNat j*1) [.int .u32 (u32.wrap g)]=some (lm (qs.set (Int.toNat j) (u32.wrap g))) from (Xe n9 n8)) a0)))))))))))) (Za.go Zi 400 [] [4,8,9,10,11,13,14,15] a0)))
theorem Zqo (k:Nat) (us:List Int) (vs:List Int) (n:Int) (t:Int) (t2:Int) (kq:Nat) (qs:List Int) (s:Int) (j:Int)  (c1:(decide (j≥0))=false):Za Yir N0 (Hk k us vs n t t2 kq qs s j) (.exit 0) (Hk k us vs n t t2 kq qs s j):=(Za.seq_out (Za.go Zi 400 [.b false] [4,8,9,10,11,13,14,15] (ac c1 a0)) (by intro e;cases e))
def Ks (k:Nat) (us:List Int) (n:Int) (kq:Nat) (qs:List Int) (kr:Nat) (rs:List Int) (s:Int) (i:Int):Zk:=(dds 4 (.own 1 kq (lm qs)::(.own 1 kr (lm rs)::(dds 2 (.val (.int .i64 s)::(.own 1 k (lm us)::(dds 1 (.val (.int .i64 n)::(dds 16 (.val (.int .i64 i)::(dds 253 [])))))))))))
theorem Zkx (k:Nat) (us:List Int) (n:Int) (kq:Nat) (qs:List Int) (kr:Nat) (rs:List Int) (s:Int) (i:Int)  (c1:(decide (i<n))=true) (c2:(decide (s>0))=true) (n1:0≤i∧i<(k:Int)) (n2:us.length=k) (n3:¬ (u64.wrap s)<0) (n4:0≤i∧i<(kr:Int)) (n5:rs.length=kr) (n6:(rs.set (Int.toNat i) (Int.fdiv (us.getD (Int.toNat i) 0) (2^(min (Int.toNat (u64.wrap s)) (IntKind.bits .u32))))).length=kr) (n7:0≤(i64.wrap (i+1))∧(i64.wrap (i+1))<(k:Int)) (n8:¬ (u64.wrap (i64.wrap (32-s)))<0):Za Yir Am (Ks k us n kq qs kr rs s i) .norm (Ks k us n kq qs kr ((rs.set (Int.toNat i) (Int.fdiv (us.getD (Int.toNat i) 0) (2^(min (Int.toNat (u64.wrap s)) (IntKind.bits .u32))))).set (Int.toNat i) (u32.wrap ((BitVec.ofInt (IntKind.bits .u32) ((rs.set (Int.toNat i) (Int.fdiv (us.getD (Int.toNat i) 0) (2^(min (Int.toNat (u64.wrap s)) (IntKind.bits .u32))))).getD (Int.toNat i) 0) ||| BitVec.ofInt (IntKind.bits .u32) (u32.wrap ((us.getD (Int.toNat (i64.wrap (i+1))) 0)*2^(min (Int.toNat (u64.wrap (i64.wrap (32-s)))) (IntKind.bits .u32))))).toNat))) s (i64.wrap (i+1))):=(Za.go Zi 400 [.b true, .v (.int .u32 (us.getD (Int.toNat i) 0)), .l (lm (rs.set (Int.toNat i) (Int.fdiv (us.getD (Int.toNat i) 0) (2^(min (Int.toNat (u64.wrap s)) (IntKind.bits .u32)))))), .b true, .v (.int .u32 ((rs.set (Int.toNat i) (Int.fdiv (us.getD (Int.toNat i) 0) (2^(min (Int.toNat (u64.wrap s)) (IntKind.bits .u32))))).getD (Int.toNat i) 0)), .v (.int .u32 (us.getD (Int.toNat (i64.wrap (i+1))) 0)), .l (lm ((rs.set (Int.toNat i) (Int.fdiv (us.getD (Int.toNat i) 0) (2^(min (Int.toNat (u64.wrap s)) (IntKind.bits .u32))))).set (Int.toNat i) (u32.wrap ((BitVec.ofInt (IntKind.bits .u32) ((rs.set (Int.toNat i) (Int.fdiv (us.getD (Int.toNat i) 0) (2^(min (Int.toNat (u64.wrap s)) (IntKind.bits .u32))))).getD (Int.toNat i) 0) ||| BitVec.ofInt (IntKind.bits .u32) (u32.wrap ((us.getD (Int.toNat (i64.wrap (i+1))) 0)*2^(min (Int.toNat (u64.wrap (i64.wrap (32-s)))) (IntKind.bits .u32))))).toNat))))] [4,5,8,9,11,28] (ac c1 (ac n1 (ac (Jn n2 n1) (ac n3 (ac n4 (ac (show X1 (lm rs) (Int.toNat i*1) [.int .u32 (Int.fdiv (us.getD (Int.toNat i) 0) (2^(min (Int.toNat (u64.wrap s)) (IntKind.bits .u32))))]=some (lm (rs.set (Int.toNat i) (Int.fdiv (us.getD (Int.toNat i) 0) (2^(min (Int.toNat (u64.wrap s)) (IntKind.bits .u32)))))) from (Xe n5 n4)) (ac c2 (ac n4 (ac (Jn n6 n4) (ac n7 (ac (Jn n2 n7) (ac n8 (ac n4 (ac (show X1 (lm (rs.set (Int.toNat i) (Int.fdiv (us.getD (Int.toNat i) 0) (2^(min (Int.toNat (u64.wrap s)) (IntKind.bits .u32)))))) (Int.toNat i*1) [.int .u32 (u32.wrap ((BitVec.ofInt (IntKind.bits .u32) ((rs.set (Int.toNat i) (Int.fdiv (us.getD (Int.toNat i) 0) (2^(min (Int.toNat (u64.wrap s)) (IntKind.bits .u32))))).getD (Int.toNat i) 0) ||| BitVec.ofInt (IntKind.bits .u32) (u32.wrap ((us.getD (Int.toNat (i64.wrap (i+1))) 0)*2^(min (Int.toNat (u64.wrap (i64.wrap (32-s)))) (IntKind.bits .u32))))).toNat))]=some (lm ((rs.set (Int.toNat i) (Int.fdiv (us.getD (Int.toNat i) 0) (2^(min (Int.toNat (u64.wrap s)) (IntKind.bits .u32))))).set (Int.toNat i) (u32.wrap ((BitVec.ofInt (IntKind.bits .u32) ((rs.set (Int.toNat i) (Int.fdiv (us.getD (Int.toNat i) 0) (2^(min (Int.toNat (u64.wrap s)) (IntKind.bits .u32))))).getD (Int.toNat i) 0) ||| BitVec.ofInt (IntKind.bits .u32) (u32.wrap ((us.getD (Int.toNat (i64.wrap (i+1))) 0)*2^(min (Int.toNat (u64.wrap (i64.wrap (32-s)))) (IntKind.bits .u32))))).toNat)))) from (Xe n6 n4)) a0)))))))))))))))
theorem Zkw (k:Nat) (us:List Int) (n:Int) (kq:Nat) (qs:List Int) (kr:Nat) (rs:List Int) (s:Int) (i:Int)  (c1:(decide (i<n))=true) (c2:(decide (s>0))=false) (n1:0≤i∧i<(k:Int)) (n2:us.length=k) (n3:¬ (u64.wrap s)<0) (n4:0≤i∧i<(kr:Int)) (n5:rs.length=kr):Za Yir Am (Ks k us n kq qs kr rs s i) .norm (Ks k us n kq qs kr (rs.set (Int.toNat i) (Int.fdiv (us.getD (Int.toNat i) 0) (2^(min (Int.toNat (u64.wrap s)) (IntKind.bits .u32))))) s (i64.wrap (i+1))):=(Za.go Zi 400 [.b true, .v (.int .u32 (us.getD (Int.toNat i) 0)), .l (lm (rs.set (Int.toNat i) (Int.fdiv (us.getD (Int.toNat i) 0) (2^(min (Int.toNat (u64.wrap s)) (IntKind.bits .u32)))))), .b false] [4,5,8,9,11,28] (ac c1 (ac n1 (ac (Jn n2 n1) (ac n3 (ac n4 (ac (show X1 (lm rs) (Int.toNat i*1) [.int .u32 (Int.fdiv (us.getD (Int.toNat i) 0) (2^(min (Int.toNat (u64.wrap s)) (IntKind.bits .u32))))]=some (lm (rs.set (Int.toNat i) (Int.fdiv (us.getD (Int.toNat i) 0) (2^(min (Int.toNat (u64.wrap s)) (IntKind.bits .u32)))))) from (Xe n5 n4)) (ac c2 a0))))))))
theorem Zkv (k:Nat) (us:List Int) (n:Int) (kq:Nat) (qs:List Int) (kr:Nat) (rs:List Int) (s:Int) (i:Int)  (c1:(decide (i<n))=false):Za Yir Am (Ks k us n kq qs kr rs s i) (.exit 8) (Ks k us n kq qs kr rs s i):=(Za.go Zi 400 [.b false] [4,5,8,9,11,28] (ac c1 a0))
theorem Ze4 (xs ys:List Int) (cm:Int) (c1:(decide (cm<0))=true) (n1:List.length (lm xs)=xs.length*1) (n2:xs.length≤1048576) (n3:Zd Yir 150 [.sl xs.length (lm xs), .sl ys.length (lm ys)] (.int .i64 cm)):Zd Yir 147 [.sl xs.length (lm xs), .sl ys.length (lm ys)] (.tup [.sl 0 [], .sl xs.length (lm xs)]):=Zd.of_bodyW (fn:=Rw) (s:=(dds 1 (.val (.sl ys.length (lm ys))::(dds 2 (.own 1 0 []::(.own 1 xs.length (lm xs)::(dds 276 []))))))) (ex := .ret) rfl rfl (Za.seq (Za.go (t:=(vl xs::(vl ys::(dds 2 (.own 1 0 []::(.own 1 0 []::(dds 276 []))))))) Zi 400 [] [0,1,4,5] a0) (Za.seq_out (Za.go Zi 400 [.r (.int .i64 cm), .b true] [1,4,5] (ac n3 (ac c1 (ac n1 (ac n2 a0))))) (by intro e;cases e))) (by intro i e;cases e) rfl
theorem Ze3 (xs ys zs:List Int) (cm rr:Int) (c1:(decide (cm<0))=false) (c2:((ys.length:Int)==1)=true) (n1:Zd Yir 150 [.sl xs.length (lm xs), .sl ys.length (lm ys)] (.int .i64 cm)) (n2:0≤(0:Int)∧(0:Int)<(ys.length:Int)) (n3:Zd Yir 153 [.sl xs.length (lm xs), .int .u32 (ys.getD (Int.toNat 0) 0)] (.tup [.sl zs.length (lm zs), .int .u32 rr])):Zd Yir 147 [.sl xs.length (lm xs), .sl ys.length (lm ys)] (.tup [.sl zs.length (lm zs), .sl 1 [.int .u32 rr]]):=Zd.of_bodyW (fn:=Rw) (s:=(dds 1 (.val (.sl ys.length (lm ys))::(dds 2 (.val (.sl zs.length (lm zs))::(.own 1 1 [.int .u32 rr]::(dds 276 []))))))) (ex := .ret) rfl rfl (Za.seq (Za.go (t:=(vl xs::(vl ys::(dds 2 (.own 1 0 []::(.own 1 0 []::(dds 276 []))))))) Zi 400 [] [0,1,4,5] a0) (Za.seq (Za.go (t:=(vl xs::(vl ys::(dds 2 (.own 1 0 []::(.own 1 0 []::(dds 26 (.val (.bool (decide (cm<0)))::(dds 249 []))))))))) Zi 400 [.r (.int .i64 cm), .b false] [0,1,4,5,32] (ac n1 (ac c1 a0))) (Za.seq_out (Za.go Zi 400 [.b true, .v (.int .u32 (ys.getD (Int.toNat 0) 0)), .r (.tup [.sl zs.length (lm zs), .int .u32 rr])] [1,4,5] (ac c2 (ac n2 (ac (Jc n2) (ac n3 a0))))) (by intro e;cases e)))) (by intro i e;cases e) rfl
theorem Ze2 (xs ys us ws us1 vs qs rs:List Int) (cm s n t t2 j:Int) (k kq kr:Nat) (c1:(decide (cm<0))=false) (c2:((ys.length:Int)==1)=false) (n1:Zd Yir 150 [.sl xs.length (lm xs), .sl ys.length (lm ys)] (.int .i64 cm)) (n2:0≤(i64.wrap ((ys.length:Int)-1))∧(i64.wrap ((ys.length:Int)-1))<(ys.length:Int)) (n3:Zd Yir 154 [.int .u32 (ys.getD (Int.toNat (i64.wrap ((ys.length:Int)-1))) 0)] (.int .i64 s)) (n4:0≤(ys.length:Int)) (n5:0≤(Int.toNat (ys.length:Int))∧(Int.toNat (ys.length:Int))≤ws.length∧ws.length≤ws.length∧(false=true→true=true)) (n6:Zd Yir 155 [.sl xs.length (lm xs), .int .i64 s] (.fresh 1 us.length (lm us))) (n7:Zd Yir 155 [.sl ys.length (lm ys), .int .i64 s] (.fresh 1 ws.length (lm ws))) (n8:0≤(i64.wrap ((i64.wrap ((xs.length:Int)-(ys.length:Int)))+1))∧(i64.wrap ((i64.wrap ((xs.length:Int)-(ys.length:Int)))+1))≤1048576) (n9:0≤(i64.wrap ((ys.length:Int)-1))∧(i64.wrap ((ys.length:Int)-1))<((((Int.toNat (ys.length:Int))-0):Nat):Int)) (n10:0≤(i64.wrap ((ys.length:Int)-2))∧(i64.wrap ((ys.length:Int)-2))<((((Int.toNat (ys.length:Int))-0):Nat):Int)) (hl11:Za Yir (.loop N0) ((dds 4 (.own 1 (Int.toNat (i64.wrap ((i64.wrap ((xs.length:Int)-(ys.length:Int)))+1))) (Qv [.int .u32 0] (Int.toNat (i64.wrap ((i64.wrap ((xs.length:Int)-(ys.length:Int)))+1))))::(dds 3 (.val (.int .i64 s)::(.own 1 us.length (lm us)::(.val (.sl ((Int.toNat (ys.length:Int))-0) (List.take (((Int.toNat (ys.length:Int))-0)*1) (List.drop (0*1) (lm ws))))::(.val (.int .i64 (ys.length:Int))::(dds 1 (.val (.int .u64 (u64.wrap (((ws.drop 0).take ((Int.toNat (ys.length:Int))-0)).getD (Int.toNat (i64.wrap ((ys.length:Int)-1))) 0)))::(.val (.int .u64 (u64.wrap (((ws.drop 0).take ((Int.toNat (ys.length:Int))-0)).getD (Int.toNat (i64.wrap ((ys.length:Int)-2))) 0)))::(.val (.int .i64 (i64.wrap ((xs.length:Int)-(ys.length:Int))))::(dds 266 []))))))))))))) (.exit 0) (Hk k us1 vs n t t2 kq qs s j)) (n12:0≤n∧n≤1048576) (hl13:Za Yir (.loop Am) ((dds 4 (.own 1 kq (lm qs)::(.own 1 (Int.toNat n) (Qv [.int .u32 0] (Int.toNat n))::(dds 2 (.val (.int .i64 s)::(.own 1 k (lm us1)::(dds 1 (.val (.int .i64 n)::(dds 16 (.val (.int .i64 0)::(dds 253 [])))))))))))) (.exit 8) (Ks k us1 n kq qs kr rs s n)):Zd Yir 147 [.sl xs.length (lm xs), .sl ys.length (lm ys)] (.tup [.sl kq (lm qs), .sl kr (lm rs)]):=Zd.of_bodyW (fn:=Rw) (s:=(dds 4 (.own 1 kq (lm qs)::(.own 1 kr (lm rs)::(dds 276 []))))) (ex := .ret) rfl rfl (Za.seq (Za.go (t:=(vl xs::(vl ys::(dds 2 (.own 1 0 []::(.own 1 0 []::(dds 276 []))))))) Zi 400 [] [0,1,4,5] a0) (Za.seq (Za.go (t:=(vl xs::(vl ys::(dds 2 (.own 1 0 []::(.own 1 0 []::(dds 26 (.val (.bool (decide (cm<0)))::(dds 249 []))))))))) Zi 400 [.r (.int .i64 cm), .b false] [0,1,4,5,32] (ac n1 (ac c1 a0))) (Za.seq (Za.go (t:=(vl xs::(vl ys::(dds 2 (.own 1 0 []::(.own 1 0 []::(dds 26 (.val (.bool (decide (cm<0)))::(dds 249 []))))))))) Zi 400 [.b false] [0,1,4,5,32] (ac c2 a0)) (Za.seq (Za.go (t:=(vl xs::(vl ys::(dds 2 (.own 1 0 []::(.own 1 0 []::(dds 2 (vi s::(dds 23 (.val (.bool (decide (cm<0)))::(dds 249 []))))))))))) Zi 400 [.v (.int .u32 (ys.getD (Int.toNat (i64.wrap ((ys.length:Int)-1))) 0)), .r (.int .i64 s)] [0,1,4,5,8,32] (ac n2 (ac (Jc n2) (ac n3 a0)))) (Za.seq (Za.go (t:=(vl xs::(vl ys::(dds 2 (.own 1 0 []::(.own 1 0 []::(dds 2 (vi s::(.own 1 us.length (lm us)::(.val (.sl ((Int.toNat (ys.length:Int))-0) (List.take (((Int.toNat (ys.length:Int))-0)*1) (List.drop (0*1) (lm ws))))::(dds 21 (.val (.bool (decide (cm<0)))::(dds 30 (vi (ys.length:Int)::(.val (.sl ((Int.toNat (ys.length:Int))-0) (List.take (((Int.toNat (ys.length:Int))-0)*1) (List.drop (0*1) (lm ws))))::(dds 217 [])))))))))))))))) Zi 400 [.r (.fresh 1 us.length (lm us)), .r (.fresh 1 ws.length (lm ws))] [0,1,4,5,8,9,10,32,63,64] (ac n6 (ac n7 (ac n4 (ac n5 a0))))) (Za.seq (Za.go (t:=(vl xs::(vl ys::(dds 2 (.own 1 0 []::(.own 1 0 []::(dds 2 (vi s::(.own 1 us.length (lm us)::(.val (.sl ((Int.toNat (ys.length:Int))-0) (List.take (((Int.toNat (ys.length:Int))-0)*1) (List.drop (0*1) (lm ws))))::(vi (ys.length:Int)::(vi (i64.wrap ((xs.length:Int)-(ys.length:Int)))::(dds 19 (.val (.bool (decide (cm<0)))::(dds 30 (vi (ys.length:Int)::(.val (.sl ((Int.toNat (ys.length:Int))-0) (List.take (((Int.toNat (ys.length:Int))-0)*1) (List.drop (0*1) (lm ws))))::(dds 217 [])))))))))))))))))) Zi 400 [] [0,1,4,5,8,9,10,11,12,32,63,64] a0) (Za.seq (Za.go (t:=(vl xs::(vl ys::(dds 2 (.own 1 (Int.toNat (i64.wrap ((i64.wrap ((xs.length:Int)-(ys.length:Int)))+1))) (Qv [.int .u32 0] (Int.toNat (i64.wrap ((i64.wrap ((xs.length:Int)-(ys.length:Int)))+1))))::(.own 1 0 []::(dds 2 (vi s::(.own 1 us.length (lm us)::(.val (.sl ((Int.toNat (ys.length:Int))-0) (List.take (((Int.toNat (ys.length:Int))-0)*1) (List.drop (0*1) (lm ws))))::(vi (ys.length:Int)::(vi (i64.wrap ((xs.length:Int)-(ys.length:Int)))::(dds 19 (.val (.bool (decide (cm<0)))::(dds 30 (vi (ys.length:Int)::(.val (.sl ((Int.toNat (ys.length:Int))-0) (List.take (((Int.toNat (ys.length:Int))-0)*1) (List.drop (0*1) (lm ws))))::(dds 217 [])))))))))))))))))) Zi 400 [] [0,1,4,5,8,9,10,11,12,32,63,64] (ac n8 a0)) (Za.seq (Za.go (t:=(vl xs::(vl ys::(dds 2 (.own 1 (Int.toNat (i64.wrap ((i64.wrap ((xs.length:Int)-(ys.length:Int)))+1))) (Qv [.int .u32 0] (Int.toNat (i64.wrap ((i64.wrap ((xs.length:Int)-(ys.length:Int)))+1))))::(.own 1 0 []::(dds 2 (vi s::(.own 1 us.length (lm us)::(.val (.sl ((Int.toNat (ys.length:Int))-0) (List.take (((Int.toNat (ys.length:Int))-0)*1) (List.drop (0*1) (lm ws))))::(vi (ys.length:Int)::(vi (i64.wrap ((xs.length:Int)-(ys.length:Int)))::(.val (.int .u64 (u64.wrap (((ws.drop 0).take ((Int.toNat (ys.length:Int))-0)).getD (Int.toNat (i64.wrap ((ys.length:Int)-1))) 0)))::(.val (.int .u64 (u64.wrap (((ws.drop 0).take ((Int.toNat (ys.length:Int))-0)).getD (Int.toNat (i64.wrap ((ys.length:Int)-2))) 0)))::(dds 17 (.val (.bool (decide (cm<0)))::(dds 30 (vi (ys.length:Int)::(.val (.sl ((Int.toNat (ys.length:Int))-0) (List.take (((Int.toNat (ys.length:Int))-0)*1) (List.drop (0*1) (lm ws))))::(dds 217 [])))))))))))))))))))) Zi 400 [.v (.int .u32 (((ws.drop 0).take ((Int.toNat (ys.length:Int))-0)).getD (Int.toNat (i64.wrap ((ys.length:Int)-1))) 0)), .v (.int .u32 (((ws.drop 0).take ((Int.toNat (ys.length:Int))-0)).getD (Int.toNat (i64.wrap ((ys.length:Int)-2))) 0))] [0,1,4,5,8,9,10,11,12,13,14,32,63,64] (ac n9 (ac (A1 n9 n5) (ac n10 (ac (A1 n10 n5) a0))))) (Za.seq (Za.seq (Za.go Zi 400 [] [4,8,9,10,11,13,14,15] a0) (Za.block hl11)) (Za.seq (Za.go (t:=(dds 4 (.own 1 kq (lm qs)::(.own 1 (Int.toNat n) (Qv [.int .u32 0] (Int.toNat n))::(dds 2 (vi s::(.own 1 k (lm us1)::(dds 1 (vi n::(dds 270 [])))))))))) Zi 400 [] [4,5,8,9,11] (ac n12 a0)) (Za.seq (Za.seq (Za.go Zi 400 [] [4,5,8,9,11,28] a0) (Za.block hl13)) (Za.go Zi 400 [] [4,5] a0)))))))))))) (by intro i e;cases e) rfl
def TQA:Js:=TWB
theorem Zg3:Qt Yir TQA:=Zi
end Go.Proofs.Ythnnfemologhfaa

namespace Go.Proofs.Ythnnfemologhfaa
open Go.IntKind (i64 u64 u32)
open Go.Ai
set_option maxRecDepth 100000
theorem Zkh {xs:List Int} {d:Int} (hx:U32 xs) (hd:0<d∧d<4294967296) (hN:xs.length≤1048576):∀ (i:Nat) (qs:List Int) (r:Int),i≤xs.length→qs.length=xs.length→U32 qs→0≤r∧r<d→(∀ t,t<i→qs.getD t 0=0) →
  ∃ qs' r',Za Yir (.loop Zgr) (Ri xs d xs.length qs r ((i:Int)-1)) (.exit 0) (Ri xs d xs.length qs' r' (-1))∧qs'.length=xs.length∧U32 qs'∧(0≤r'∧r'<d)∧d*Zn qs'+r'=d*Zn qs+4294967296^i*r+Zn (xs.take i):=by
 intro i
 induction i with
 | zero =>
  intro qs r _ hl hu hr _
  refine⟨qs,r,Za.loop_out (Zqi xs d xs.length qs r _ (by simp)) (by intro e;cases e),hl,hu,hr,by simp[Zn]⟩
 | succ i ih =>
  intro qs r hi hl hu hr hz
  have ei:(((i+1:Nat):Int)-1)=(i:Nat):=by omega
  have ej:i64.wrap ((i:Int)-1)=(i:Int)-1:=w64 (by omega) (by omega)
  have hxi:=Zw hx i
  have hk:=Zqj xs d xs.length qs r (i:Nat) (by simp) (by omega) (by rw[W1 (by omega)];omega) (by omega) hl
  rw[ej,Int.toNat_natCast,Zhj (by omega) hxi,W1 (n:=d) (by omega)] at hk
  have hv0:0≤r*4294967296+xs.getD i 0:=by omega
  rw[Int.tdiv_eq_ediv_of_nonneg hv0,Int.tmod_eq_emod_of_nonneg hv0] at hk
  generalize hv:r*4294967296+xs.getD i 0=v at *
  have hm:=Int.mul_ediv_add_emod v d
  have hm0:=Int.emod_nonneg v (show d ≠ 0 by omega)
  have hm1:=Int.emod_lt_of_pos v hd.1
  have hq0:0≤v / d:=Int.ediv_nonneg hv0 (by omega)
  have hq1:v / d<4294967296:=by
   apply Int.ediv_lt_of_lt_mul hd.1
   have:=Int.mul_le_mul_of_nonneg_right (show r≤d-1 by omega) (show (0:Int)≤4294967296 by omega)
   have:(d-1)*4294967296=4294967296*d-4294967296:=by omega
   omega
  rw[W1 (n:=v / d) (by omega),w32 ⟨hq0,hq1⟩] at hk
  obtain⟨qs',r',g1,g2,g3,g4,g5⟩:=ih (qs.set i (v / d)) (v % d) (by omega) (by simpa using hl) (Q6 hu ⟨hq0,hq1⟩) ⟨hm0,hm1⟩ (fun t ht=>by rw[Qk (by omega)];exact hz t (by omega))
  rw[ei]
  refine⟨qs',r',Za.loop hk g1,g2,g3,g4,?_⟩
  rw[g5,J0 _ _ _ (by omega),hz i (by omega),Xb xs i (by omega),Int.pow_succ]
  generalize (4294967296:Int)^i=P at *
  have e2:xs.getD i 0=d*(v / d)+v % d-r*4294967296:=by omega
  rw[e2]
  grind
theorem Me {xs:List Int} {d:Int} (hx:U32 xs) (hd:0<d∧d<4294967296) (hN:xs.length≤1048576):∃ qs r,(qs:List Int).length=xs.length∧U32 qs∧(0≤r∧r<d)∧d*Zn qs+r=Zn xs∧Zd Yir 153 [.sl xs.length (lm xs), .int .u32 d] (.tup [.sl qs.length (lm qs), .int .u32 r]):=by
 obtain⟨qs,r,h1,h2,h3,h4,h5⟩:=Zkh hx hd hN xs.length (List.replicate xs.length 0) 0 (Nat.le_refl _) (by simp) (Xy _) (by omega) (fun t _=>J7 _ _)
 refine⟨qs,r,h2,h3,h4,?_,?_⟩
 ·rw[h5,Xt,List.take_length];omega
 ·have h:=Zo9 xs qs d r (-1) xs.length (by omega) (by
   rw[Int.toNat_natCast,Ue,w64 (by omega) (by omega)];exact h1)
  rw[w32 (n:=r) (by omega)] at h
  rw[h2]
  exact h
theorem Zkg {xs:List Int} {s:Nat} (hx:U32 xs) (hs:s<32) (hN:xs.length<1048576):∀ (r i:Nat) (os:List Int),i+r=xs.length→os.length=xs.length+1→U32 os→Zn os=2^s*Zn (xs.take i)→os.getD i 0<2^s→(∀ t,i<t→os.getD t 0=0) →
  ∃ os',Za Yir (.loop Zgq) (Rh xs (s:Nat) (xs.length+1) os (xs.length:Nat) (i:Nat)) (.exit 0) (Rh xs (s:Nat) (xs.length+1) os' (xs.length:Nat) (xs.length:Nat))∧os'.length=xs.length+1∧U32 os'∧Zn os'=2^s*Zn xs:=by
 intro r
 induction r with
 | zero =>
  intro i os hi hl hu hv _ _
  have:i=xs.length:=by omega
  subst this
  exact⟨os,Za.loop_out (Zqg xs _ _ os _ _ (by simp)) (by intro e;cases e),hl,hu,by rw[hv,List.take_length]⟩
 | succ r ih =>
  intro i os hi hl hu hv hc hz
  have ei:i64.wrap ((i:Int)+1)=((i+1:Nat):Int):=by rw[w64 (by omega) (by omega)];omega
  have hxi:=Zw hx i
  have hoi:=Zw hu i
  obtain⟨p0,p1,p2,q,q0,q1⟩:=N9 hxi hs
  have es:(2:Int)^(min (Int.toNat (u64.wrap (s:Int))) (IntKind.bits .u64))=2^s:=by
   rw[W1 (by omega),Int.toNat_natCast]
   congr 1
   show min s 64=s
   omega
  have hk:=Zqh xs (s:Nat) (xs.length+1) os (xs.length:Nat) (i:Nat) (by simp;omega) (by omega) (by rw[W1 (by omega)];omega) (by omega) hl (by rw[ei];omega) (by simpa using hl)
  rw[ei,Int.toNat_natCast,Int.toNat_natCast,W1 (n:=xs.getD i 0) (by omega),es,W1 ⟨p0,p1⟩,fd32,Gb (xs.getD i 0*2^s),q1] at hk
  have hqs:q*2^s<4294967296:=by rw[← q1];omega
  rw[or32 q0 hqs (by omega) ⟨hoi.1,hc⟩] at hk
  have hhi:0≤xs.getD i 0*2^s / 4294967296:=by omega
  have hp2:(2:Int)^s≤4294967296:=by have:=H4 (show s≤32 by omega);rwa [show (2:Int)^32=4294967296 by decide] at this
  rw[w32 ⟨hhi,by omega⟩] at hk
  have hsum:0≤q*2^s+os.getD i 0∧q*2^s+os.getD i 0<4294967296:=by
   have hq2:0≤q*2^s:=by rw[← q1];omega
   refine⟨by omega,?_⟩
   have e:(4294967296:Int)=2^(32-s)*2^s:=by
    rw[← Int.pow_add,show 32-s+s=32 by omega];decide
   rw[e] at hqs ⊢
   have hp:=J2 s
   have:=Int.lt_of_mul_lt_mul_right hqs (by omega)
   have:=Int.mul_le_mul_of_nonneg_right (show q+1≤2^(32-s) by omega) (show (0:Int)≤2^s by omega)
   rw[Int.add_mul,Int.one_mul] at this
   omega
  obtain⟨os',g1,g2,g3,g4⟩:=ih (i+1) ((os.set i (q*2^s+os.getD i 0)).set (i+1) (xs.getD i 0*2^s / 4294967296)) (by omega) (by simpa using hl) (Q6 (Q6 hu hsum) ⟨hhi,by omega⟩) (by
    rw[J0 _ _ _ (by simp;omega),J0 _ _ _ (by omega),Qk (by omega),hz (i+1) (by omega),hv,Xb xs i (by omega),Int.pow_succ]
    have e3:xs.getD i 0*2^s=4294967296*(xs.getD i 0*2^s / 4294967296)+q*2^s:=by omega
    generalize (4294967296:Int)^i=P at *
    generalize xs.getD i 0*2^s / 4294967296=H at *
    generalize os.getD i 0=o at *
    generalize q*2^s=Q at *
    have e4:(2:Int)^s*(Zn (xs.take i)+P*xs.getD i 0)=2^s*Zn (xs.take i)+P*(xs.getD i 0*2^s):=by grind
    rw[e4,e3]
    grind) (by
    rw[show ((os.set i (q*2^s+os.getD i 0)).set (i+1) (xs.getD i 0*2^s / 4294967296)).getD (i+1) 0=xs.getD i 0*2^s / 4294967296 by simp[List.getD_eq_getElem?_getD,show i+1<os.length by omega]]
    exact p2) (fun t ht=>by rw[Qk (by omega),Qk (by omega)];exact hz t (by omega))
  exact⟨os',Za.loop hk g1,g2,g3,g4⟩
theorem Bf {xs:List Int} {s:Nat} (hx:U32 xs) (hs:s<32) (hN:xs.length<1048576):∃ os,(os:List Int).length=xs.length+1∧U32 os∧Zn os=2^s*Zn xs∧Zd Yir 155 [.sl xs.length (lm xs), .int .i64 (s:Nat)] (.fresh 1 os.length (lm os)):=by
 obtain⟨os,h1,h2,h3,h4⟩:=Zkg hx hs hN xs.length 0 (List.replicate (xs.length+1) 0) (by omega) (by simp) (Xy _) (by rw[Xt];simp[Zn]) (by rw[J7];exact J2 s) (fun t _=>J7 _ _)
 refine⟨os,h2,h3,h4,?_⟩
 have e:i64.wrap ((xs.length:Int)+1)=((xs.length+1:Nat):Int):=by rw[w64 (by omega) (by omega)];omega
 have h:=Zo7 xs os (s:Nat) (xs.length:Nat) (xs.length:Nat) (xs.length+1) (by rw[e];omega) (by rw[e,Int.toNat_natCast,Ue];exact h1)
 rw[h2]
 exact h
section
variable {k:Nat} {us vs:List Int} {kq:Nat} {qs:List Int} {s:Int} {j m:Nat}
theorem Zfw (hl:us.length=k) (hk:k≤1048577) (hj:j+m+2<k) (h:Dig m (Zn vs) (Zn (us.drop j)) (vs.getD (m+1) 0) (vs.getD m 0) (us.getD (j+m+2) 0) (us.getD (j+m+1) 0) (us.getD (j+m) 0)):∀ (f:Nat) (g r:Int),g.toNat≤f →
  DigI (Zn vs) (Zn (us.drop j)) (vs.getD (m+1) 0) (us.getD (j+m+2) 0*4294967296+us.getD (j+m+1) 0) g r→r<4294967296 →
  ∃ g' r',Za Yir (.loop Ww) (Xw k us vs ((m+2:Nat):Int) (vs.getD (m+1) 0) (vs.getD m 0) kq qs s (j:Nat) g r) (.exit 2) (Xw k us vs ((m+2:Nat):Int) (vs.getD (m+1) 0) (vs.getD m 0) kq qs s (j:Nat) g' r') ∧
   (0≤g'∧g'<4294967296)∧Zn (us.drop j)<(g'+1)*Zn vs∧g'*Zn vs<Zn (us.drop j)+Zn vs:=by
 have ht:=h.htop
 have hnx:=h.hnxt
 have hz:=h.hz
 have e1:i64.wrap (i64.wrap ((j:Int)+((m+2:Nat):Int))-2)=((j+m:Nat):Int):=by
  rw[w64 (n:=(j:Int)+((m+2:Nat):Int)) (by omega) (by omega),w64 (by omega) (by omega)];omega
 intro f
 induction f with
 | zero =>
  intro g r hf i hr
  have hg:g=0:=by have:=i.g0;omega
  subst hg
  have c2:¬ (r*4294967296+us.getD (j+m) 0<0*vs.getD m 0):=by have:=i.r0;omega
  have k5:=Tq k us vs ((m+2:Nat):Int) (vs.getD (m+1) 0) (vs.getD m 0) kq qs s (j:Nat) 0 r (by simp) (by
   rw[e1,Int.toNat_natCast,Zhj ⟨i.r0,hr⟩ hz,W1 (n:=0*vs.getD m 0) (by omega),decide_eq_false_iff_not];omega) (by rw[e1];omega) hl
  exact⟨0,r,Za.loop_out k5 (by intro e;cases e),by omega,i.up,h.out i (by omega) (Or.inr (by omega))⟩
 | succ f ih =>
  intro g r hf i hr
  have hg1:=i.gle
  have hg0:=i.g0
  have hr0:=i.r0
  have hgn:0≤g*vs.getD m 0∧g*vs.getD m 0<18446744073709551616:=by
   have a:=Int.mul_nonneg hg0 hnx.1
   have b:=Int.mul_le_mul hg1 (show vs.getD m 0≤4294967295 by omega) hnx.1 (by omega)
   omega
  have er:u64.wrap (r+vs.getD (m+1) 0)=r+vs.getD (m+1) 0:=W1 (by omega)
  have ecmp:(decide (u64.wrap (g*vs.getD m 0)>u64.wrap ((BitVec.ofInt (IntKind.bits .u64) (u64.wrap (r*2^(min (Int.toNat 32) (IntKind.bits .u64)))) ||| BitVec.ofInt (IntKind.bits .u64) (u64.wrap (us.getD (Int.toNat (i64.wrap (i64.wrap ((j:Int)+((m+2:Nat):Int))-2))) 0))).toNat)):Bool)=decide (r*4294967296+us.getD (j+m) 0<g*vs.getD m 0):=by
   rw[e1,Int.toNat_natCast,Zhj ⟨hr0,hr⟩ hz,W1 hgn]
  by_cases hc:4294967296≤g∨r*4294967296+us.getD (j+m) 0<g*vs.getD m 0
  ·have i2:=h.step i hc
   have hg2:=i2.g0
   have eg:u64.wrap (g-1)=g-1:=W1 (by omega)
   by_cases hbig:4294967296≤r+vs.getD (m+1) 0
   ·have hgs:=h.small_g i2 hbig
    have hrun:Za Yir Ww (Xw k us vs ((m+2:Nat):Int) (vs.getD (m+1) 0) (vs.getD m 0) kq qs s (j:Nat) g r) (.exit 2) (Xw k us vs ((m+2:Nat):Int) (vs.getD (m+1) 0) (vs.getD m 0) kq qs s (j:Nat) (u64.wrap (g-1)) (u64.wrap (r+vs.getD (m+1) 0))):=by
     by_cases hg:4294967296≤g
     ·exact Zk3 k us vs _ _ _ kq qs s _ g r (by simpa using hg) (by rw[er];simpa using hbig)
     ·exact Zk1 k us vs _ _ _ kq qs s _ g r (by simp;omega) (by rw[ecmp,decide_eq_true_eq];omega) (by rw[er];simpa using hbig) (by rw[e1];omega) hl
    rw[eg,er] at hrun
    exact⟨g-1,_,Za.loop_out hrun (by intro e;cases e),⟨hg2,hgs⟩,i2.up,h.out i2 hgs (Or.inl hbig)⟩
   ·have hrun:Za Yir Ww (Xw k us vs ((m+2:Nat):Int) (vs.getD (m+1) 0) (vs.getD m 0) kq qs s (j:Nat) g r) .norm (Xw k us vs ((m+2:Nat):Int) (vs.getD (m+1) 0) (vs.getD m 0) kq qs s (j:Nat) (u64.wrap (g-1)) (u64.wrap (r+vs.getD (m+1) 0))):=by
     by_cases hg:4294967296≤g
     ·exact Zk2 k us vs _ _ _ kq qs s _ g r (by simpa using hg) (by rw[er,decide_eq_false_iff_not];omega)
     ·exact Zk0 k us vs _ _ _ kq qs s _ g r (by simp;omega) (by rw[ecmp,decide_eq_true_eq];omega) (by rw[er,decide_eq_false_iff_not];omega) (by rw[e1];omega) hl
    rw[eg,er] at hrun
    obtain⟨g',r',a1,a2⟩:=ih (g-1) (r+vs.getD (m+1) 0) (by omega) i2 (by omega)
    exact⟨g',r',Za.loop hrun a1,a2⟩
  ·have k5:=Tq k us vs ((m+2:Nat):Int) (vs.getD (m+1) 0) (vs.getD m 0) kq qs s (j:Nat) g r (by simp;omega) (by rw[ecmp,decide_eq_false_iff_not];omega) (by rw[e1];omega) hl
   exact⟨g,r,Za.loop_out k5 (by intro e;cases e),by omega,i.up,h.out i (by omega) (Or.inr (by omega))⟩
end
section
variable {k:Nat} {vs:List Int} {t t2:Int} {kq:Nat} {qs:List Int} {s:Int} {j:Nat} {g:Int}
theorem Zfv (hv:U32 vs) (hk:k≤1048577) (hg:0≤g∧g<4294967296) (hj:j+vs.length≤k):∀ (r i:Nat) (us:List Int) (b c:Int),r+i=vs.length→us.length=k→U32 us→0≤b∧b≤1→0≤c∧c<4294967296 →
  Za Yir (.loop Ev) (Hu k us vs (vs.length:Nat) t t2 kq qs s (j:Nat) g b c (i:Nat)) (.exit 4) (Hu k (Au g vs j r i us b c).1 vs (vs.length:Nat) t t2 kq qs s (j:Nat) g (Au g vs j r i us b c).2.1 (Au g vs j r i us b c).2.2 (vs.length:Nat)):=by
 intro r
 induction r with
 | zero =>
  intro i us b c hi _ _ _ _
  have:i=vs.length:=by omega
  subst this
  exact Za.loop_out (Zky k us vs _ t t2 kq qs s _ g b c _ (by simp)) (by intro e;cases e)
 | succ r ih =>
  intro i us b c hi hl hu hb hc
  have ei:i64.wrap ((i:Int)+1)=((i+1:Nat):Int):=by rw[w64 (by omega) (by omega)];omega
  have eij:i64.wrap ((i:Int)+(j:Int))=((i+j:Nat):Int):=by rw[w64 (by omega) (by omega)];omega
  have hvi:=Zw hv i
  have hui:=Zw hu (i+j)
  have hw:=Zc7 hg hvi hc
  have hgv:=Int.mul_nonneg hg.1 hvi.1
  have h1:=Zkz k us vs (vs.length:Nat) t t2 kq qs s (j:Nat) g b c (i:Nat) (by simp;omega) (by omega) (by rw[eij];omega) hl
  rw[eij,ei,Int.toNat_natCast,Int.toNat_natCast,W1 (n:=vs.getD i 0) (by omega),W1 (n:=us.getD (i+j) 0) (by omega),W1 (n:=g*vs.getD i 0) (by omega),W1 hw,fd32,fd63,Gb (g*vs.getD i 0+c)] at h1
  generalize hp:g*vs.getD i 0+c=p at *
  rw[W1 (n:=p % 4294967296) (by omega),Ql,Ql] at h1
  have hstep:Au g vs j (r+1) i us b c=Au g vs j r (i+1) (us.set (i+j) ((us.getD (i+j) 0-p % 4294967296-b) % 4294967296)) (if us.getD (i+j) 0-p % 4294967296-b<0 then 1 else 0) (p / 4294967296):=by rw[Au,hp]
  generalize hd:us.getD (i+j) 0-p % 4294967296-b=d at *
  have e1:u32.wrap (((us.getD (i+j) 0-p % 4294967296) % 18446744073709551616-b) % 18446744073709551616)=d % 4294967296:=by rw[Gb];omega
  have e2:((us.getD (i+j) 0-p % 4294967296) % 18446744073709551616-b) % 18446744073709551616 / 9223372036854775808=(if d<0 then 1 else 0):=by split <;> omega
  rw[e1,e2] at h1
  rw[hstep]
  exact Za.loop h1 (ih (i+1) _ _ _ (by omega) (by simpa using hl) (Q6 hu (by omega)) (by split <;> omega) (by omega))
theorem Zfx (hv:U32 vs) (hk:k≤1048577) (hj:j+vs.length≤k):∀ (r i:Nat) (us:List Int) (c:Int),r+i=vs.length→us.length=k→U32 us→0≤c∧c≤1 →
  Za Yir (.loop Lz) (Db k us vs (vs.length:Nat) t t2 kq qs s (j:Nat) g c (i:Nat)) (.exit 6) (Db k (Li vs j r i us c).1 vs (vs.length:Nat) t t2 kq qs s (j:Nat) g (Li vs j r i us c).2 (vs.length:Nat)):=by
 intro r
 induction r with
 | zero =>
  intro i us c hi _ _ _
  have:i=vs.length:=by omega
  subst this
  exact Za.loop_out (Zk4 k us vs _ t t2 kq qs s _ g c _ (by simp)) (by intro e;cases e)
 | succ r ih =>
  intro i us c hi hl hu hc
  have ei:i64.wrap ((i:Int)+1)=((i+1:Nat):Int):=by rw[w64 (by omega) (by omega)];omega
  have eij:i64.wrap ((i:Int)+(j:Int))=((i+j:Nat):Int):=by rw[w64 (by omega) (by omega)];omega
  have hvi:=Zw hv i
  have hui:=Zw hu (i+j)
  have h1:=Zk5 k us vs (vs.length:Nat) t t2 kq qs s (j:Nat) g c (i:Nat) (by simp;omega) (by rw[eij];omega) hl (by omega)
  rw[eij,ei,Int.toNat_natCast,Int.toNat_natCast,W1 (n:=vs.getD i 0) (by omega),W1 (n:=us.getD (i+j) 0) (by omega),W1 (n:=us.getD (i+j) 0+vs.getD i 0) (by omega),W1 (n:=us.getD (i+j) 0+vs.getD i 0+c) (by omega),fd32,Gb] at h1
  exact Za.loop h1 (ih (i+1) _ _ (by omega) (by simpa using hl) (Q6 hu (by omega)) (by omega))
end
theorem dsign {X c b:Int} (hX:0≤X∧X<4294967296) (hc:0≤c∧c<4294967296) (hb:0≤b∧b≤1) :
  Int.fdiv (u64.wrap (u64.wrap (u64.wrap X-c)-b)) (2^(min (Int.toNat 63) (IntKind.bits .u64)))=(if X-c-b<0 then 1 else 0)∧u32.wrap (u64.wrap (u64.wrap (u64.wrap X-c)-b))=(X-c-b) % 4294967296:=by
 rw[fd63,W1 (n:=X) (by omega),Ql,Ql,Gb]
 refine⟨?_,by omega⟩
 split <;> omega
section
variable {vs:List Int} {m:Nat} {k kq:Nat} {s:Int}
theorem Zkj (hv:U32 vs) (hm:vs.length=m+2) (ht:2147483648≤vs.getD (m+1) 0) (hk:k=kq+vs.length) (hkb:k≤1048577):∀ (i:Nat) (us qs:List Int),i≤kq→us.length=k→U32 us→qs.length=kq→U32 qs→(∀ t,t<i→qs.getD t 0=0)→Zn (us.drop i)<Zn vs →
  ∃ us' qs',Za Yir (.loop N0) (Hk k us vs (vs.length:Nat) (vs.getD (m+1) 0) (vs.getD m 0) kq qs s ((i:Int)-1)) (.exit 0) (Hk k us' vs (vs.length:Nat) (vs.getD (m+1) 0) (vs.getD m 0) kq qs' s (-1)) ∧
   us'.length=k∧U32 us'∧qs'.length=kq∧U32 qs'∧Zn us'<Zn vs∧Zn us=Zn vs*(Zn qs'-Zn qs)+Zn us':=by
 intro i
 induction i with
 | zero =>
  intro us qs _ h1 h2 h3 h4 _ h6
  exact⟨us,qs,Za.loop_out (Zqo k us vs _ _ _ kq qs s _ (by simp)) (by intro e;cases e),h1,h2,h3,h4,h6,by rw[Int.sub_self,Int.mul_zero,Int.zero_add]⟩
 | succ i ih =>
  intro us qs hi h1 h2 h3 h4 h5 h6
  have ei:(((i+1:Nat):Int)-1)=(i:Nat):=by omega
  have ej:i64.wrap ((i:Int)-1)=(i:Int)-1:=w64 (by omega) (by omega)
  have en:i64.wrap ((i:Int)+(vs.length:Int))=((i+vs.length:Nat):Int):=by rw[w64 (by omega) (by omega)];omega
  have en1:i64.wrap (((i+vs.length:Nat):Int)-1)=((i+m+1:Nat):Int):=by rw[w64 (by omega) (by omega)];omega
  have hD:=dig_of (us:=us) (vs:=vs) (j:=i) (m:=m) h2 hv hm (by omega) ht h6
  have hI:=hD.init
  have hr1:=Int.emod_lt_of_pos (us.getD (i+m+2) 0*4294967296+us.getD (i+m+1) 0) (show 0<vs.getD (m+1) 0 by omega)
  have ht2:=hD.htop
  obtain⟨g,r,q1,q2,q3,q4⟩:=Zfw (k:=k) (kq:=kq) (qs:=qs) (s:=s) h1 hkb (by omega) hD _ _ _ (Nat.le_refl _) hI (by omega)
  rw[← hm] at q1
  have hn0:0≤us.getD (i+m+2) 0*4294967296+us.getD (i+m+1) 0:=by have:=hD.hx;have:=hD.hy;omega
  have hq0:=hI.g0
  have hq1:=hI.gle
  have hl5:Za Yir (.loop Ww) (Xw k us vs (vs.length:Nat) (vs.getD (m+1) 0) (vs.getD m 0) kq qs s (i:Nat) (u64.wrap (Int.tdiv (u64.wrap ((BitVec.ofInt (IntKind.bits .u64) (u64.wrap ((u64.wrap (us.getD (Int.toNat (i64.wrap ((i:Int)+(vs.length:Int)))) 0))*2^(min (Int.toNat 32) (IntKind.bits .u64)))) ||| BitVec.ofInt (IntKind.bits .u64) (u64.wrap (us.getD (Int.toNat (i64.wrap ((i64.wrap ((i:Int)+(vs.length:Int)))-1))) 0))).toNat)) (vs.getD (m+1) 0))) (Int.tmod (u64.wrap ((BitVec.ofInt (IntKind.bits .u64) (u64.wrap ((u64.wrap (us.getD (Int.toNat (i64.wrap ((i:Int)+(vs.length:Int)))) 0))*2^(min (Int.toNat 32) (IntKind.bits .u64)))) ||| BitVec.ofInt (IntKind.bits .u64) (u64.wrap (us.getD (Int.toNat (i64.wrap ((i64.wrap ((i:Int)+(vs.length:Int)))-1))) 0))).toNat)) (vs.getD (m+1) 0))) (.exit 2) (Xw k us vs (vs.length:Nat) (vs.getD (m+1) 0) (vs.getD m 0) kq qs s (i:Nat) g r):=by
   rw[en,en1,Int.toNat_natCast,Int.toNat_natCast,show i+vs.length=i+m+2 by omega,W1 (n:=us.getD (i+m+2) 0) (by have:=hD.hx;omega),Zhj hD.hx hD.hy,Int.tdiv_eq_ediv_of_nonneg hn0,Int.tmod_eq_emod_of_nonneg hn0,W1 ⟨hq0,by omega⟩]
   exact q1
  have hms:=Zfv (k:=k) (t:=vs.getD (m+1) 0) (t2:=vs.getD m 0) (kq:=kq) (qs:=qs) (s:=s) (j:=i) (g:=g) hv hkb q2 (by omega) vs.length 0 us 0 0 (by omega) h1 h2 (by omega) (by omega)
  have hmo:=Zc8 (j:=i) q2 hv vs.length 0 us 0 0 (by omega) (by omega) h2 (by omega) (by omega)
  have hst:=Zat h2 hv (j:=i) (by omega) h6 q2 q3 q4
  generalize hM:Au g vs i vs.length 0 us 0 0=M at *
  obtain⟨m1,m2,m3,m4,_,_⟩:=hmo
  obtain⟨d1,d2⟩:=dsign (Zw m2 (i+vs.length)) m4 m3
  dsimp only at hst
  obtain⟨S1,S2⟩:=hst
  -- the rest from a step
  have fin:∀ (ws:List Int) (q:Int),StepOk us vs ws i q→(0≤q∧q<4294967296)→Za Yir N0 (Hk k us vs (vs.length:Nat) (vs.getD (m+1) 0) (vs.getD m 0) kq qs s (i:Nat)) .norm (Hk k ws vs (vs.length:Nat) (vs.getD (m+1) 0) (vs.getD m 0) kq (qs.set i q) s ((i:Int)-1)) →
    ∃ us' qs',Za Yir (.loop N0) (Hk k us vs (vs.length:Nat) (vs.getD (m+1) 0) (vs.getD m 0) kq qs s (i:Nat)) (.exit 0) (Hk k us' vs (vs.length:Nat) (vs.getD (m+1) 0) (vs.getD m 0) kq qs' s (-1)) ∧
   us'.length=k∧U32 us'∧qs'.length=kq∧U32 qs'∧Zn us'<Zn vs∧Zn us=Zn vs*(Zn qs'-Zn qs)+Zn us':=by
   intro ws q hs hq hrun
   obtain⟨us',qs',a1,a2,a3,a4,a5,a6,a7⟩:=ih ws (qs.set i q) (by omega) (by rw[hs.len];exact h1) hs.u32 (by simpa using h3) (Q6 h4 hq) (fun t ht=>by rw[Qk (by omega)];exact h5 t (by omega)) hs.low
   refine⟨us',qs',Za.loop hrun a1,a2,a3,a4,a5,a6,?_⟩
   have e:=hs.val
   rw[J0 _ _ _ (by omega),h5 i (by omega),Int.sub_zero] at a7
   generalize (4294967296:Int)^i=P at *
   grind
  rw[ei]
  by_cases hd:M.1.getD (i+vs.length) 0-M.2.2-M.2.1<0
  ·obtain⟨S2,hg1⟩:=S2 hd
   have hu2:U32 (M.1.set (i+vs.length) ((M.1.getD (i+vs.length) 0-M.2.2-M.2.1) % 4294967296)):=Q6 m2 (by omega)
   have hab:=Zfx (k:=k) (t:=vs.getD (m+1) 0) (t2:=vs.getD m 0) (kq:=kq) (qs:=qs) (s:=s) (j:=i) (g:=g-1) hv hkb (by omega) vs.length 0 (M.1.set (i+vs.length) ((M.1.getD (i+vs.length) 0-M.2.2-M.2.1) % 4294967296)) 0 (by omega) (by rw[List.length_set,m1];exact h1) hu2 (by omega)
   have hao:=Zev (j:=i) hv vs.length 0 (M.1.set (i+vs.length) ((M.1.getD (i+vs.length) 0-M.2.2-M.2.1) % 4294967296)) 0 (by omega) (by rw[List.length_set,m1];omega) hu2 (by omega)
   obtain⟨b1,b2,b3,_,_⟩:=hao
   generalize hB:Li vs i vs.length 0 (M.1.set (i+vs.length) ((M.1.getD (i+vs.length) 0-M.2.2-M.2.1) % 4294967296)) 0=Bb at *
   have eg:u64.wrap (g-1)=g-1:=W1 (by omega)
   have k1:=Zqq k us vs (vs.length:Nat) (vs.getD (m+1) 0) (vs.getD m 0) kq qs s (i:Nat) M.1 Bb.1 g r M.2.1 M.2.2 Bb.2 (by simp) (by rw[en,Int.toNat_natCast,d1,if_pos hd];rfl) (by rw[en];omega) h1 (by rw[en,en1];omega) (by omega) hl5 hms (by rw[m1];exact h1) (by rw[en,Int.toNat_natCast,d2,eg];exact hab) (by rw[b1,List.length_set,m1];exact h1) (by omega) h3
   rw[en,Int.toNat_natCast,eg,Int.toNat_natCast,w32 (n:=g-1) (by omega),ej,w32 (n:=Bb.2) (by omega),Gb] at k1
   exact fin _ _ S2 (by omega) k1
  ·have k2:=Zqp k us vs (vs.length:Nat) (vs.getD (m+1) 0) (vs.getD m 0) kq qs s (i:Nat) M.1 g r M.2.1 M.2.2 (by simp) (by rw[en,Int.toNat_natCast,d1,if_neg hd];rfl) (by rw[en];omega) h1 (by rw[en,en1];omega) (by omega) hl5 hms (by rw[m1];exact h1) (by omega) h3
   rw[en,Int.toNat_natCast,Int.toNat_natCast,d2,w32 (n:=g) q2,ej] at k2
   exact fin _ _ (S1 (by omega)) q2 k2
end
def TQB:Js:=TQA
theorem Qm:Qt Yir TQB:=Zg3
end Go.Proofs.Ythnnfemologhfaa

namespace Go.Proofs.Ythnnfemologhfaa
open Go.IntKind (i64 u64 u32)
open Go.Ai
set_option maxRecDepth 100000
theorem Zpn (b1 b2 na nb:Bool) (xs ys as1 bs qs rs:List Int) (v w:Int) (n1:Zd Yir 122 [.agg [.bool b1, .sl xs.length (lm xs)]] (.tup [.bool na, .sl as1.length (lm as1)])) (n2:Zd Yir 122 [.agg [.bool b2, .sl ys.length (lm ys)]] (.tup [.bool nb, .sl bs.length (lm bs)])) (n3:Zd Yir 147 [.sl as1.length (lm as1), .sl bs.length (lm bs)] (.tup [.sl qs.length (lm qs), .sl rs.length (lm rs)])) (n4:Zd Yir 133 [.bool (!(na==nb)), .sl qs.length (lm qs)] (Zp v)) (n5:Zd Yir 133 [.bool na, .sl rs.length (lm rs)] (Zp w)):Zd Yir 110 [.agg [.bool b1, .sl xs.length (lm xs)], .agg [.bool b2, .sl ys.length (lm ys)]] (.tup [Zp v,Zp w]):=Zd.go (fn:=Zgk) Qm rfl 400 rfl [.r (.tup [.bool na, .sl as1.length (lm as1)]), .r (.tup [.bool nb, .sl bs.length (lm bs)]), .r (.tup [.sl qs.length (lm qs), .sl rs.length (lm rs)]), .r (Zp v), .r (Zp w)] (ac n1 (ac n2 (ac n3 (ac n4 (ac n5 a0)))))
def Ll (xs:List Int) (v:Int) (n:Int) (i:Int):Zk:=(dds 3 (.val (.int .u64 v)::(dds 3 (.val (.sl xs.length (lm xs))::(.val (.int .i64 n)::(.val (.int .i64 i)::(dds 14 [])))))))
theorem Zqs (xs:List Int) (v:Int) (n:Int) (i:Int)  (c1:(decide (i<n))=true) (n1:0≤i∧i<(xs.length:Int)) (n2:¬ (u64.wrap (i64.wrap (32*i)))<0):Za Yir Zgs (Ll xs v n i) .norm (Ll xs (u64.wrap ((BitVec.ofInt (IntKind.bits .u64) v ||| BitVec.ofInt (IntKind.bits .u64) (u64.wrap ((u64.wrap (xs.getD (Int.toNat i) 0))*2^(min (Int.toNat (u64.wrap (i64.wrap (32*i)))) (IntKind.bits .u64))))).toNat)) n (i64.wrap (i+1))):=(Za.go Qm 400 [.b true, .v (.int .u32 (xs.getD (Int.toNat i) 0))] [3,7,8,9] (ac c1 (ac n1 (ac (Jc n1) (ac n2 a0)))))
theorem Zqr (xs:List Int) (v:Int) (n:Int) (i:Int)  (c1:(decide (i<n))=false):Za Yir Zgs (Ll xs v n i) (.exit 0) (Ll xs v n i):=(Za.go Qm 400 [.b false] [3,7,8,9] (ac c1 a0))
theorem Zpa (n:Bool) (xs:List Int) (v i m:Int) (hl1:Za Yir (.loop Zgs) (Ll xs 0 (xs.length:Int) 0) (.exit 0) (Ll xs v m i)):Zd Yir 146 [.agg [.bool n, .sl xs.length (lm xs)]] (.int .u64 v):=Zd.of_bodyW (fn:=Zf8) (s:=(dds 2 (.val (.int .u64 v)::(dds 21 [])))) (ex := .ret) rfl rfl (Za.seq (Za.go (t:=(.val (.agg [.bool n, .sl xs.length (lm xs)])::(.box [.bool n, .sl xs.length (lm xs)]::(.val (.int .u64 0)::(dds 21 []))))) Qm 400 [] [0,1,2] a0) (Za.seq (Za.go (t:=(.val (.agg [.bool n, .sl xs.length (lm xs)])::(.box [.bool n, .sl xs.length (lm xs)]::(.val (.int .u64 0)::(.val (.int .u64 0)::(dds 20 [])))))) Qm 400 [] [0,1,2,3] a0) (Za.seq (Za.seq (Za.go Qm 400 [] [3,7,8,9] a0) (Za.block hl1)) (Za.go Qm 400 [] [2] a0)))) (by intro i e;cases e) rfl
theorem Zpc (n v:Int) (n1:Zd Yir 133 [.bool false, .sl 2 [.int .u32 (u32.wrap n), .int .u32 (u32.wrap (Int.fdiv n (2^(min (Int.toNat 32) (IntKind.bits .u64)))))]] (Zp v)):Zd Yir 144 [.int .u64 n] (Zp v):=Zd.go (fn:=Zga) Qm rfl 400 rfl [.r (Zp v)] (ac (show ¬ (32:Int)<0 from (by decide)) (ac n1 a0))
def Lm (a:Int) (b:Int):Zk:=(.val (.int .u64 a)::(.val (.int .u64 b)::(dds 10 [])))
theorem Zqt (a:Int) (b:Int)  (c1:(decide (b>0))=true) (n1:¬ b=0):Za Yir Zgt (Lm a b) .norm (Lm b (Int.tmod a b)):=(Za.go Qm 400 [.b true] [0,1] (ac c1 (ac n1 a0)))
theorem Zf1 (a:Int) (b:Int)  (c1:(decide (b>0))=false):Za Yir Zgt (Lm a b) (.exit 0) (Lm a b):=(Za.go Qm 400 [.b false] [0,1] (ac c1 a0))
theorem Zpb (a b a1 b1:Int) (hl1:Za Yir (.loop Zgt) (Lm a b) (.exit 0) (Lm a1 b1)):Zd Yir 145 [.int .u64 a, .int .u64 b] (.int .u64 a1):=Zd.of_bodyW (fn:=Zf9) (s:=(dds 4 (.val (.int .u64 a1)::(dds 7 [])))) (ex := .ret) rfl rfl (Za.seq (Za.go Qm 400 [] [0,1] a0) (Za.seq (Za.block hl1) (Za.go Qm 400 [] [4] a0))) (by intro i e;cases e) rfl
def Wz (x:Rn) (y:Rn) (z:Rn):Zk:=(dds 4 (.box [.bool z.1, .sl z.2.length (lm z.2)]::(.box [.bool x.1, .sl x.2.length (lm x.2)]::(.box [.bool y.1, .sl y.2.length (lm y.2)]::(dds 35 [])))))
theorem Zrr (x:Rn) (y:Rn) (z:Rn) (ua ub ug g:Int) (c1:(decide ((y.2.length:Int)>0))=true) (c2:(decide ((x.2.length:Int)≤2))=true) (c3:(decide ((y.2.length:Int)≤2))=true) (n1:Zd Yir 146 [Z5 x] (.int .u64 ua)) (n2:Zd Yir 146 [Z5 y] (.int .u64 ub)) (n3:Zd Yir 145 [.int .u64 ua, .int .u64 ub] (.int .u64 ug)) (n4:Zd Yir 144 [.int .u64 ug] (Zp g)):Za Yir Ay (Wz x y z) .ret (Wz x y (cn g)):=(Za.go Qm 400 [.b true, .b true, .b true, .r (.int .u64 ua), .r (.int .u64 ub), .r (.int .u64 ug), .r (Zp g)] [4,5,6] (ac c1 (ac c2 (ac c3 (ac n1 (ac n2 (ac n3 (ac n4 a0))))))))
theorem Zrq (x:Rn) (y:Rn) (z:Rn) (q r:Int) (c1:(decide ((y.2.length:Int)>0))=true) (c2:(decide ((x.2.length:Int)≤2))=true) (c3:(decide ((y.2.length:Int)≤2))=false) (n1:Zd Yir 110 [Z5 x,Z5 y] (.tup [Zp q,Zp r])):Za Yir Ay (Wz x y z) .norm (Wz y (cn r) z):=(Za.go Qm 400 [.b true, .b true, .b false, .r (.tup [Zp q,Zp r])] [4,5,6] (ac c1 (ac c2 (ac c3 (ac n1 a0)))))
theorem Zrp (x:Rn) (y:Rn) (z:Rn) (q r:Int) (c1:(decide ((y.2.length:Int)>0))=true) (c2:(decide ((x.2.length:Int)≤2))=false) (n1:Zd Yir 110 [Z5 x,Z5 y] (.tup [Zp q,Zp r])):Za Yir Ay (Wz x y z) .norm (Wz y (cn r) z):=(Za.go Qm 400 [.b true, .b false, .b false, .r (.tup [Zp q,Zp r])] [4,5,6] (ac c1 (ac c2 (ac (show false=false from rfl) (ac n1 a0)))))
theorem Zf3 (x:Rn) (y:Rn) (z:Rn)  (c1:(decide ((y.2.length:Int)>0))=false):Za Yir Ay (Wz x y z) (.exit 0) (Wz x y z):=(Za.go Qm 400 [.b false] [4,5,6] (ac c1 a0))
theorem Zfo (b1 b2:Bool) (xs ys:List Int) (v w:Int) (x y z:Rn) (n1:Zd Yir 111 [.agg [.bool b1, .sl xs.length (lm xs)]] (Zp v)) (n2:Zd Yir 111 [.agg [.bool b2, .sl ys.length (lm ys)]] (Zp w)) (hl3:Za Yir (.loop Ay) (Wz (cn v) (cn w) (false,[])) (.exit 0) (Wz x y z)):Zd Yir 109 [.agg [.bool b1, .sl xs.length (lm xs)], .agg [.bool b2, .sl ys.length (lm ys)]] (Z5 x):=Zd.of_bodyW (fn:=Zbq) (s:=(dds 4 (.box [.bool x.1, .sl x.2.length (lm x.2)]::(dds 37 [])))) (ex := .ret) rfl rfl (Za.seq (Za.go (t:=(.val (.agg [.bool b1, .sl xs.length (lm xs)])::(.val (.agg [.bool b2, .sl ys.length (lm ys)])::(.box [.bool b1, .sl xs.length (lm xs)]::(.box [.bool b2, .sl ys.length (lm ys)]::(.box [.bool false, .sl 0 []]::(dds 37 []))))))) Qm 400 [] [0,1,2,3,4] a0) (Za.seq (Za.go Qm 400 [.r (Zp v), .r (Zp w)] [4,5,6] (ac n1 (ac n2 a0))) (Za.seq (Za.block hl3) (Za.go Qm 400 [] [4] a0)))) (by intro i e;cases e) rfl
theorem Zfn (b1 b2:Bool) (xs ys:List Int) (v w:Int) (x y z:Rn) (n1:Zd Yir 111 [.agg [.bool b1, .sl xs.length (lm xs)]] (Zp v)) (n2:Zd Yir 111 [.agg [.bool b2, .sl ys.length (lm ys)]] (Zp w)) (hl3:Za Yir (.loop Ay) (Wz (cn v) (cn w) (false,[])) .ret (Wz x y z)):Zd Yir 109 [.agg [.bool b1, .sl xs.length (lm xs)], .agg [.bool b2, .sl ys.length (lm ys)]] (Z5 z):=Zd.of_bodyW (fn:=Zbq) (s:=(dds 4 (.box [.bool z.1, .sl z.2.length (lm z.2)]::(.box [.bool x.1, .sl x.2.length (lm x.2)]::(.box [.bool y.1, .sl y.2.length (lm y.2)]::(dds 35 [])))))) (ex := .ret) rfl rfl (Za.seq (Za.go (t:=(.val (.agg [.bool b1, .sl xs.length (lm xs)])::(.val (.agg [.bool b2, .sl ys.length (lm ys)])::(.box [.bool b1, .sl xs.length (lm xs)]::(.box [.bool b2, .sl ys.length (lm ys)]::(.box [.bool false, .sl 0 []]::(dds 37 []))))))) Qm 400 [] [0,1,2,3,4] a0) (Za.seq (Za.go Qm 400 [.r (Zp v), .r (Zp w)] [4,5,6] (ac n1 (ac n2 a0))) (Za.seq_out (Za.block_ret hl3) (by intro e;cases e)))) (by intro i e;cases e) rfl
def TQC:Js:=TQB
theorem Zg2:Qt Yir TQC:=Qm
end Go.Proofs.Ythnnfemologhfaa

namespace Go.Proofs.Ythnnfemologhfaa
open Go.IntKind (i64 u64 u32)
open Go.Ai
set_option maxRecDepth 100000
def Fn (g:Nat→Int) (i r:Nat):List Int:=(List.range i).map g++List.replicate r 0
theorem Mv (g:Nat→Int) (i r:Nat):(Fn g i r).length=i+r:=by simp [Fn]
theorem Zd4 (g:Nat→Int) (i r:Nat):(Fn g i (r+1)).set i (g i)=Fn g (i+1) r:=by
 simp only[Fn,List.range_succ,List.map_append,List.map_cons,List.map_nil]
 rw[List.set_append_right _ _ (by simp)]
 simp[List.replicate_succ]
def An (us:List Int) (s:Nat) (i:Nat):Int:=us.getD (i+1) 0 % 2^s*2^(32-s)+us.getD i 0 / 2^s
theorem Zcg {us:List Int} (hu:U32 us) {s:Nat} (hs:s<32) (i:Nat):(0≤us.getD i 0 / 2^s∧us.getD i 0 / 2^s<2^(32-s))∧0≤us.getD (i+1) 0 % 2^s∧us.getD (i+1) 0 % 2^s*2^(32-s)<4294967296∧(0≤An us s i∧An us s i<4294967296):=by
 have h0:=Zw hu i
 have h1:=Zw hu (i+1)
 have hp:=J2 s
 have hp2:=J2 (32-s)
 have e:=Zt9 (show s≤32 by omega)
 have a1:=Int.emod_nonneg (us.getD (i+1) 0) (show (2:Int)^s ≠ 0 by omega)
 have a2:=Int.emod_lt_of_pos (us.getD (i+1) 0) hp
 have b0:0≤us.getD i 0 / 2^s:=Int.ediv_nonneg h0.1 (by omega)
 have b1:us.getD i 0 / 2^s<2^(32-s):=Int.ediv_lt_of_lt_mul hp (by rw[← e];exact h0.2)
 unfold An
 generalize us.getD (i+1) 0 % 2^s=x at *
 generalize us.getD i 0 / 2^s=y at *
 have c1:=Int.mul_le_mul_of_nonneg_right (show x+1≤2^s by omega) (show (0:Int)≤2^(32-s) by omega)
 rw[Int.add_mul,Int.one_mul,Int.mul_comm (2^s),← e] at c1
 have c2:=Int.mul_nonneg a1 (show (0:Int)≤2^(32-s) by omega)
 omega
theorem Zn8 {us:List Int} (s:Nat) (hs:s<32):∀ n,n≤us.length→2^s*Zn ((List.range n).map (An us s))=Zn (us.take n)-us.getD 0 0 % 2^s+4294967296^n*(us.getD n 0 % 2^s):=by
 intro n
 induction n with
 | zero =>
  intro _
  simp only[List.range_zero,List.map_nil,List.take_zero,Zn,Int.pow_zero,Int.mul_zero,Int.one_mul]
  generalize us.getD 0 0 % 2^s=w
  omega
 | succ n ih =>
  intro hn
  have e:=Zt9 (show s≤32 by omega)
  rw[List.range_succ,List.map_append,List.map_cons,List.map_nil,Um,List.length_map,List.length_range,Int.mul_add,ih (by omega),Xb us n (by omega),Int.pow_succ]
  have e2:Zn [An us s n]=An us s n:=by simp[Zn]
  rw[e2]
  unfold An
  have e3:=Int.mul_ediv_add_emod (us.getD n 0) (2^s)
  generalize us.getD (n+1) 0 % 2^s=x at *
  generalize us.getD n 0 / 2^s=y at *
  generalize us.getD n 0 % 2^s=z at *
  generalize us.getD 0 0 % 2^s=w at *
  generalize us.getD n 0=u at *
  generalize Zn (us.take n)=V at *
  generalize (4294967296:Int)^n=P at *
  rw[e]
  generalize (2:Int)^(32-s)=T at *
  generalize (2:Int)^s=S at *
  rw[← e3]
  grind
theorem Zfu {us:List Int} {k n kq:Nat} {qs:List Int} {s:Nat} (hu:U32 us) (hl:us.length=k) (hn:n<k) (hk:k≤1048577) (hs:s<32) :
  Za Yir (.loop Am) (Ks k us (n:Nat) kq qs n (List.replicate n 0) (s:Nat) 0) (.exit 8) (Ks k us (n:Nat) kq qs n ((List.range n).map (An us s)) (s:Nat) (n:Nat)):=by
 have h:=Za.up (prog:=Yir) (c:=Am) (ex := .exit 8) (fin:=Ks k us (n:Nat) kq qs n ((List.range n).map (An us s)) (s:Nat) (n:Nat))
  (fun i=>Ks k us (n:Nat) kq qs n (Fn (An us s) i (n-i)) (s:Nat) (i:Nat)) n (by intro e;cases e) ?_ ?_ 0 (Nat.zero_le _)
 ·simpa [Fn] using h
 ·intro i hi
  obtain⟨r,hr⟩:∃ r,n-i=r+1:=⟨n-i-1,by omega⟩
  have e2:n-(i+1)=r:=by omega
  have ei:i64.wrap ((i:Int)+1)=((i+1:Nat):Int):=by rw[w64 (by omega) (by omega)];omega
  have hlen:(Fn (An us s) i (r+1)).length=n:=by rw[Mv];omega
  obtain⟨b1,b2,b3,b4⟩:=Zcg hu hs i
  have es:u64.wrap (s:Int)=(s:Nat):=W1 (by omega)
  have em:min (Int.toNat (s:Int)) (IntKind.bits .u32)=s:=by rw[Int.toNat_natCast];show min s 32=s;omega
  have hp:=J2 s
  rw[hr,e2,← Zd4]
  have hget:∀ v:Int,((Fn (An us s) i (r+1)).set i v).getD i 0=v:=fun v=>by simp[List.getD_eq_getElem?_getD,show i<(Fn (An us s) i (r+1)).length by omega]
  have efd:Int.fdiv (us.getD i 0) (2^s)=us.getD i 0 / 2^s:=Int.fdiv_eq_ediv_of_nonneg _ (by omega)
  by_cases h0:s=0
  ·subst h0
   have k2:=Zkw k us (n:Nat) kq qs n (Fn (An us 0) i (r+1)) ((0:Nat):Int) (i:Nat) (by simp;omega) (by simp) (by omega) hl (by rw[es];omega) (by omega) hlen
   rw[ei,Int.toNat_natCast,es,em,efd] at k2
   have e5:An us 0 i=us.getD i 0 / 2^0:=by simp[An,Int.emod_one]
   rw[e5]
   exact k2
  ·have e32:u64.wrap (i64.wrap (32-(s:Int)))=((32-s:Nat):Int):=by rw[w64 (by omega) (by omega),W1 (by omega)];omega
   have em2:min (Int.toNat ((32-s:Nat):Int)) (IntKind.bits .u32)=32-s:=by rw[Int.toNat_natCast];show min (32-s) 32=32-s;omega
   have k1:=Zkx k us (n:Nat) kq qs n (Fn (An us s) i (r+1)) (s:Int) (i:Nat) (by simp;omega) (by simp;omega) (by omega) hl (by rw[es];omega) (by omega) hlen (by simpa using hlen) (by rw[ei];omega) (by rw[e32];omega)
   rw[ei,Int.toNat_natCast,Int.toNat_natCast,es,em,e32,em2,efd,hget,List.set_set,Gb (us.getD (i+1) 0*2^(32-s))] at k1
   have e6:us.getD (i+1) 0*2^(32-s) % 4294967296=us.getD (i+1) 0 % 2^s*2^(32-s):=by
    rw[Zt9 (show s≤32 by omega),Int.mul_comm (us.getD (i+1) 0),Int.mul_emod_mul_of_pos _ _ (J2 (32-s)),Int.mul_comm]
   rw[e6,or32 b2 b3 (by omega) b1] at k1
   exact k1
 ·have k3:=Zkv k us (n:Nat) kq qs n ((List.range n).map (An us s)) (s:Nat) (n:Nat) (by simp)
  simpa [Fn] using k3
theorem Zb0 {g:Nat→Int} {n:Nat} (h:∀ i,0≤g i∧g i<4294967296):U32 ((List.range n).map g):=fun x hx=>by
 obtain⟨i,_,rfl⟩:=List.mem_map.1 hx;exact h i
theorem           Mf {xs ys : List Int} (hx :    Wt xs) (hy :    Wt ys) (hy0 : ys ≠ []) (h1 : xs.length < 1048576) (h2 : ys.length < 1048576) : ∃ qs rs, U32 qs ∧ U32 rs ∧ (qs : List Int).length ≤ 1048576 ∧ (rs : List Int).length ≤ 1048576 ∧   Zn qs =   Zn xs /   Zn ys ∧   Zn rs =   Zn xs %   Zn ys ∧
    Zd      Yir 147 [.sl xs.length (lm xs), .sl ys.length (lm ys)] (.tup [.sl qs.length (lm qs), .sl rs.length (lm rs)]) := by
  have hyl := List.length_pos_iff.2 hy0
  have hcmp :=           Vu hx hy (by omega)
  have hx0 :=          Z4 hx.1
  have hyp :=        Kp hy hy0
  by_cases hlt :   Zn xs <   Zn ys
  · refine ⟨[], xs, fun x h => (nomatch h), hx.1, by simp, by omega, ?_, ?_, ?_⟩
    · rw [Int.ediv_eq_zero_of_lt hx0 hlt]; rfl
    · rw [Int.emod_eq_of_lt hx0 hlt]
    · exact          Ze4 xs ys _ (by unfold   Uw; rw [if_pos hlt]; rfl) (    S3 xs) (by omega) hcmp
  have hcm : decide (  Uw (  Zn xs) (  Zn ys) < 0) = false := by unfold   Uw; rw [if_neg hlt]; split <;> rfl
  by_cases hone : ys.length = 1
  · obtain ⟨y, rfl⟩ := List.length_eq_one_iff.1 hone
    have e1 :   Zn [y] = y := by simp [  Zn]
    rw [e1] at hyp
    have hyb := hy.1 y (by simp)
    obtain ⟨qs, r, q1, q2, q3, q4, q5⟩ :=           Me hx.1 (d := y) ⟨hyp, hyb.2⟩ (by omega)
    have e2 :   Zn [r] = r := by simp [  Zn]
    have hd := (Int.ediv_emod_unique hyp (a :=   Zn xs) (r := r) (q :=   Zn qs)).2 ⟨by omega, q3.1, q3.2⟩
    refine ⟨qs, [r], q2, fun x h => by rw [List.mem_singleton.1 h]; omega, by omega, by simp, by rw [e1]; exact hd.1.symm, by rw [e1, e2]; exact hd.2.symm, ?_⟩
    exact          Ze3 xs [y] qs _ r hcm (by rfl) hcmp (by simp) q5
  · obtain ⟨m, hm⟩ : ∃ m, ys.length = m + 2 := ⟨ys.length - 2, by omega⟩
    have hxl : ys.length ≤ xs.length := by
      rcases Nat.lt_or_ge xs.length ys.length with g | g
      · exact absurd (      K9 hx hy g) hlt
      · exact g
    -- the first limb of y
    have hyt : 0 < ys.getD (m + 1) 0 ∧ ys.getD (m + 1) 0 < 4294967296 := by
      have a :=       Zw hy.1 (m + 1)
      rcases hy.2 with g | g
      · exact absurd g hy0
      · rw [show ys.length - 1 = m + 1 by omega] at g; omega
    obtain ⟨s, hs, s1, s2, hlz⟩ := lz_run hyt
    obtain ⟨us, u1, u2, u3, hus⟩ :=          Bf hx.1 hs h1
    obtain ⟨ws, w1, w2, w3, hws⟩ :=          Bf hy.1 hs h2
    have hp :=       J2 s
    -- y between powers
    have ysplit :=        Xg ys (j := m + 1) (by omega)
    have yd :=       Qs ys (m + 1)
    rw [      J3 (xs := ys) (i := m + 1 + 1) (by omega), Int.mul_zero, Int.add_zero] at yd
    rw [yd] at ysplit
    have ylo :=      W4 hy.1 (m + 1)
    have ylo0 :=          Z4 (      Ur hy.1 (m + 1))
    have hP :=        Jv (m + 1)
    have hV1 : 2147483648 * 4294967296 ^ (m + 1) ≤   Zn ws := by
      rw [w3, ysplit]
      have a := Int.mul_le_mul_of_nonneg_right s1 (show (0 : Int) ≤ 4294967296 ^ (m + 1) by omega)
      have b := Int.mul_nonneg (show (0 : Int) ≤ 2 ^ s by omega) ylo0
      have e : 2 ^ s * (  Zn (List.take (m + 1) ys) + 4294967296 ^ (m + 1) * ys.getD (m + 1) 0) = 2 ^ s *   Zn (List.take (m + 1) ys) + ys.getD (m + 1) 0 * 2 ^ s * 4294967296 ^ (m + 1) := by grind
      omega
    have hV2 :   Zn ws < 4294967296 ^ (m + 2) := by
      have e9 : (4294967296 : Int) ^ (m + 2) = 4294967296 ^ (m + 1) * 4294967296 := Int.pow_succ _ _
      rw [w3, ysplit]
      have e0 :=  Zt9 (show s ≤ 32 by omega)
      have a1 : ys.getD (m + 1) 0 + 1 ≤ 2 ^ (32 - s) := by
        rw [e0] at s2
        have := Int.lt_of_mul_lt_mul_right s2 (by omega)
        omega
      have a2 := Int.mul_le_mul_of_nonneg_right a1 (show (0 : Int) ≤ 2 ^ s * 4294967296 ^ (m + 1) by have := Int.mul_pos hp hP; omega)
      have a3 := Int.mul_lt_mul_of_pos_left ylo hp
      have e1 : (ys.getD (m + 1) 0 + 1) * (2 ^ s * 4294967296 ^ (m + 1)) = 2 ^ s * (4294967296 ^ (m + 1) * ys.getD (m + 1) 0) + 2 ^ s * 4294967296 ^ (m + 1) := by grind
      have e2 : (2 : Int) ^ (32 - s) * (2 ^ s * 4294967296 ^ (m + 1)) = 4294967296 ^ (m + 1) * 4294967296 := by rw [← Int.mul_assoc, ← e0, Int.mul_comm]
      rw [Int.mul_add]
      omega
    have hdz :=         K5 w2 (n := m + 2) (V := 4294967296 ^ (m + 2)) (Int.le_refl _) hV2
    have hvs :   Zn (ws.take (m + 2)) =   Zn ws := by
      have :=        Xg ws (j := m + 2) (by omega)
      rw [hdz, Int.mul_zero, Int.add_zero] at this
      exact this.symm
    have hvl : (ws.take (m + 2)).length = m + 2 := by simp; omega
    have hvu :=       Ur w2 (m + 2)
    generalize hvv : ws.take (m + 2) = vs at *
    have hvtop : 2147483648 ≤ vs.getD (m + 1) 0 := by
      have a :=        Xg vs (j := m + 1) (by omega)
      have b :=       Qs vs (m + 1)
      rw [      J3 (xs := vs) (i := m + 1 + 1) (by omega), Int.mul_zero, Int.add_zero] at b
      rw [b] at a
      have c :=      W4 hvu (m + 1)
      apply Int.not_lt.1
      intro h
      have := Int.mul_le_mul_of_nonneg_left (show vs.getD (m + 1) 0 + 1 ≤ 2147483648 by omega) (show (0 : Int) ≤ 4294967296 ^ (m + 1) by omega)
      rw [Int.mul_add, Int.mul_one, Int.mul_comm _ 2147483648] at this
      omega
    have hini :   Zn (us.drop (xs.length - ys.length + 1)) <   Zn vs := by
      have a :=        Xg us (j := xs.length - ys.length + 1) (by omega)
      have b :=          Z4 (      Ur u2 (xs.length - ys.length + 1))
      have c :=      Ul hx.1
      have d := Int.mul_lt_mul_of_pos_left c hp
      have e : (4294967296 : Int) ^ xs.length = 4294967296 ^ (xs.length - ys.length + 1) * 4294967296 ^ (m + 1) := by rw [← Int.pow_add]; congr 1; omega
      have hp2 : (2 : Int) ^ s ≤ 2147483648 := by
        have :=      H4 (show s ≤ 31 by omega); rwa [show (2 : Int) ^ 31 = 2147483648 by decide] at this
      have hQ :=        Jv (xs.length - ys.length + 1)
      rw [hvs]
      apply Int.lt_of_lt_of_le (b := 2 ^ s * 4294967296 ^ (m + 1))
      · apply Int.lt_of_mul_lt_mul_left (a := 4294967296 ^ (xs.length - ys.length + 1)) _ (by omega)
        have e2 : (4294967296 : Int) ^ (xs.length - ys.length + 1) * (2 ^ s * 4294967296 ^ (m + 1)) = 2 ^ s * 4294967296 ^ xs.length := by rw [e]; grind
        omega
      · have := Int.mul_le_mul_of_nonneg_right hp2 (show (0 : Int) ≤ 4294967296 ^ (m + 1) by omega)
        omega
    obtain ⟨us', qs, l1, l2, l3, l4, l5, l6, l7⟩ :=         Zkj (k := xs.length + 1) (kq := xs.length - ys.length + 1) (s := (s : Nat)) hvu hvl hvtop (by omega) (by omega) (xs.length - ys.length + 1) us (List.replicate (xs.length - ys.length + 1) 0) (Nat.le_refl _) u1 u2 (by simp) (       Xy _) (fun t _ =>         J7 _ _) hini
    have l8 :=          Zfu (us := us') (k := xs.length + 1) (n := m + 2) (kq := xs.length - ys.length + 1) (qs := qs) l3 l2 (by omega) (by omega) hs
    rw [        Xt, Int.sub_zero, u3, hvs, w3] at l7
    rw [hvs] at l6
    -- the remainder
    have hR :   Zn us' = 2 ^ s * (  Zn xs -   Zn ys *   Zn qs) := by rw [Int.mul_sub]; have : 2 ^ s *   Zn ys *   Zn qs = 2 ^ s * (  Zn ys *   Zn qs) := by grind
                                                                     omega
    have us0 :=          Z4 l3
    have hR0 : 0 ≤   Zn xs -   Zn ys *   Zn qs := by
      apply Int.not_lt.1
      intro h
      have := Int.mul_le_mul_of_nonneg_left (show   Zn xs -   Zn ys *   Zn qs ≤ -1 by omega) (show (0 : Int) ≤ 2 ^ s by omega)
      omega
    have hR1 :   Zn xs -   Zn ys *   Zn qs <   Zn ys := by
      rw [hR, w3] at l6
      exact Int.lt_of_mul_lt_mul_left l6 (by omega)
    have hrs :   Zn ((List.range (m + 2)).map (  An us' s)) =   Zn xs -   Zn ys *   Zn qs := by
      have a :=     Zn8 (us := us') s hs (m + 2) (by omega)
      have b : us'.getD 0 0 % 2 ^ s = 0 := by
        have c :=       Qs us' 0
        rw [List.drop_zero, Nat.zero_add, hR] at c
        have e0 :=  Zt9 (show s ≤ 32 by omega)
        have : us'.getD 0 0 = 2 ^ s * (  Zn xs -   Zn ys *   Zn qs - 2 ^ (32 - s) *   Zn (us'.drop 1)) := by rw [Int.mul_sub, ← Int.mul_assoc, Int.mul_comm (2 ^ s) (2 ^ (32 - s)), ← e0]; omega
        rw [this]
        exact Int.mul_emod_right _ _
      have dz :=         K5 l3 (n := m + 2) (V :=   Zn ws) (by omega) l6
      have c2 : us'.getD (m + 2) 0 = 0 := by
        have c :=       Qs us' (m + 2)
        rw [dz] at c
        have d1 :=          Z4 (      Uc l3 (m + 2 + 1))
        have d2 :=       Zw l3 (m + 2)
        omega
      have d :=        Xg us' (j := m + 2) (by omega)
      rw [dz, Int.mul_zero, Int.add_zero] at d
      rw [b, c2, ← d, hR, Int.zero_emod, Int.mul_zero, Int.sub_zero, Int.add_zero] at a
      exact Int.eq_of_mul_eq_mul_left (by omega) a
    have hd := (Int.ediv_emod_unique hyp (a :=   Zn xs) (r :=   Zn xs -   Zn ys *   Zn qs) (q :=   Zn qs)).2 ⟨by omega, hR0, hR1⟩
    have e1 : IntKind.i64.wrap (((ys.length : Nat) : Int) - 1) = ((m + 1 : Nat) : Int) := by rw [w64 (by omega) (by omega)]; omega
    have e2 : IntKind.i64.wrap (((ys.length : Nat) : Int) - 2) = ((m : Nat) : Int) := by rw [w64 (by omega) (by omega)]; omega
    have e3 : IntKind.i64.wrap (((xs.length : Nat) : Int) - ((ys.length : Nat) : Int)) = ((xs.length - ys.length : Nat) : Int) := by rw [w64 (by omega) (by omega)]; omega
    have e4 : IntKind.i64.wrap (((xs.length - ys.length : Nat) : Int) + 1) = ((xs.length - ys.length + 1 : Nat) : Int) := by rw [w64 (by omega) (by omega)]; omega
    have hlv : vs.length = ys.length := by omega
    have hvv2 : ws.take ys.length = vs := by rw [hm]; exact hvv
    have v1 :=       Zw hvu (m + 1)
    have v2 :=       Zw hvu m
    refine ⟨qs, (List.range (m + 2)).map (  An us' s), l5,       Zb0 (fun i => (    Zcg l3 hs i).2.2.2), by omega, by simp; omega, hd.1.symm, by rw [hrs]; exact hd.2.symm, ?_⟩
    have hl11 :    Za    Yir (.loop       N0) (      Hk us.length us vs (vs.length : Nat) (vs.getD (m + 1) 0) (vs.getD m 0) (xs.length - ys.length + 1) (List.replicate (xs.length - ys.length + 1) 0) (s : Nat) ((xs.length - ys.length : Nat) : Int)) (.exit 0) (      Hk us.length us' vs (vs.length : Nat) (vs.getD (m + 1) 0) (vs.getD m 0) (xs.length - ys.length + 1) qs (s : Nat) (-1)) := by
      rw [u1]
      refine l1.to ?_ rfl
      congr 1
      omega
    have h :=          Ze2 xs ys us ws us' vs qs ((List.range (m + 2)).map (  An us' s)) _ (s : Nat) (vs.length : Nat) (vs.getD (m + 1) 0) (vs.getD m 0) (-1) us.length (xs.length - ys.length + 1) (m + 2) hcm (by rw [hm, beq_eq_false_iff_ne]; omega) hcmp (by rw [e1]; omega) (by rw [e1, Int.toNat_natCast]; exact hlz) (by omega) (by rw [Int.toNat_natCast]; exact ⟨by omega, by omega, Nat.le_refl _, fun _ => rfl⟩) hus hws (by rw [e3, e4]; omega) (by rw [e1, Int.toNat_natCast]; omega) (by rw [e2, Int.toNat_natCast]; omega)
      (by
        rw [e1, e2, e3, e4, Int.toNat_natCast, Int.toNat_natCast, Int.toNat_natCast, Int.toNat_natCast,       Ue,       S0, List.drop_zero, Nat.sub_zero, hvv2,   W1 (n := vs.getD (m + 1) 0) (by omega),   W1 (n := vs.getD m 0) (by omega)]
        unfold       Hk at hl11 ⊢
        rw [hlv] at hl11 ⊢
        exact hl11)
      (by omega) (by
        rw [hvl, Int.toNat_natCast,       Ue, u1]
        exact l8)
    rw [show qs.length = xs.length - ys.length + 1 from l4, show ((List.range (m + 2)).map (  An us' s)).length = m + 2 by simp]
    exact h
def TQD:Js:=TQC
theorem Zg1:Qt Yir TQD:=Zg2
end Go.Proofs.Ythnnfemologhfaa

namespace Go.Proofs.Ythnnfemologhfaa
open Go.IntKind (i64 u64 u32)
open Go.Ai
set_option maxRecDepth 100000
def TDA:Js:=TBE
theorem Zg9:Qt Yir TDA:=Xp
end Go.Proofs.Ythnnfemologhfaa

namespace Go.Proofs.Ythnnfemologhfaa
open Go.IntKind (i64 u64 u32)
open Go.Ai
set_option maxRecDepth 100000
def TDB:Js:=TDA
theorem Zg8:Qt Yir TDB:=Zg9
end Go.Proofs.Ythnnfemologhfaa

namespace Go.Proofs.Ythnnfemologhfaa
open Go.IntKind (i64 u64 u32)
open Go.Ai
set_option maxRecDepth 100000
section
variable {k:Nat} {us vs:List Int} {kq:Nat} {qs:List Int} {s:Int} {j m:Nat}
end
section
variable {k:Nat} {vs:List Int} {kq:Nat} {qs:List Int} {s:Int} {j:Nat} {g:Int}
end
def TDC:Js:=TDB
theorem Zg7:Qt Yir TDC:=Zg8
end Go.Proofs.Ythnnfemologhfaa

namespace Go.Proofs.Ythnnfemologhfaa
open Go.IntKind (i64 u64 u32)
open Go.Ai
set_option maxRecDepth 100000
section
variable {vs:List Int} {m:Nat} {k kq:Nat} {s:Int}
end
def TDD:Js:=TDC
theorem Zg:Qt Yir TDD:=Zg7
end Go.Proofs.Ythnnfemologhfaa

namespace Go.Proofs.Ythnnfemologhfaa
open Go.IntKind (i64 u64 u32)
open Go.Ai
set_option maxRecDepth 100000
def Aw (rs:List Rn) (n:Int):Zk:=(.val (.sl rs.length (pc rs))::(dds 2 (.val (.int .i64 n)::(dds 31 []))))
theorem Zp9 (rs:List Rn) (n:Int)  (c1:(decide (n>0))=true) (c2:((Vp (Zt (rs.getD (Int.toNat (i64.wrap (n-1))) z0)))==0)=true) (n1:0≤(i64.wrap (n-1))∧(i64.wrap (n-1))<(rs.length:Int)) (n2:Zd Yir 81 [Z5 (rs.getD (Int.toNat (i64.wrap (n-1))) z0)] (.int .i64 (Vp (Zt (rs.getD (Int.toNat (i64.wrap (n-1))) z0))))):Za Yir Zbr (Aw rs n) .norm (Aw rs (i64.wrap (n-1))):=(Za.go Xp 400 [.b true, .v (Z5 (rs.getD (Int.toNat (i64.wrap (n-1))) z0)), .r (.int .i64 (Vp (Zt (rs.getD (Int.toNat (i64.wrap (n-1))) z0)))), .b true] [0,3] (ac c1 (ac n1 (ac (J1 n1) (ac n2 (ac c2 a0))))))
theorem Zp8 (rs:List Rn) (n:Int)  (c1:(decide (n>0))=true) (c2:((Vp (Zt (rs.getD (Int.toNat (i64.wrap (n-1))) z0)))==0)=false) (n1:0≤(i64.wrap (n-1))∧(i64.wrap (n-1))<(rs.length:Int)) (n2:Zd Yir 81 [Z5 (rs.getD (Int.toNat (i64.wrap (n-1))) z0)] (.int .i64 (Vp (Zt (rs.getD (Int.toNat (i64.wrap (n-1))) z0))))):Za Yir Zbr (Aw rs n) (.exit 0) (Aw rs n):=(Za.go Xp 400 [.b true, .v (Z5 (rs.getD (Int.toNat (i64.wrap (n-1))) z0)), .r (.int .i64 (Vp (Zt (rs.getD (Int.toNat (i64.wrap (n-1))) z0)))), .b false] [0,3] (ac c1 (ac n1 (ac (J1 n1) (ac n2 (ac c2 a0))))))
theorem Zp7 (rs:List Rn) (n:Int)  (c1:(decide (n>0))=false):Za Yir Zbr (Aw rs n) (.exit 0) (Aw rs n):=(Za.go Xp 400 [.b false, .b false] [0,3] (ac c1 (ac (show false=false from rfl) a0)))
def Nx (rs:List Rn) (n:Int) (k:Nat) (cs:List AV) (i:Int):Zk:=(.val (.sl rs.length (pc rs))::(dds 2 (.val (.int .i64 n)::(.own 2 k cs::(.val (.int .i64 i)::(dds 29 []))))))
theorem Zp6 (rs:List Rn) (n:Int) (k:Nat) (cs:List AV) (i:Int)  (c1:(decide (i<n))=true) (n1:0≤i∧i<(rs.length:Int)) (n2:k+1≤1048576) (n3:Zd Yir 93 [Z5 (rs.getD (Int.toNat i) z0)] (Zp (Zt (rs.getD (Int.toNat i) z0)))):Za Yir Zgp (Nx rs n k cs i) .norm (Nx rs n (k+1) (cs++([.bool (decide ((Zt (rs.getD (Int.toNat i) z0))<0)), .sl ((Zb (Int.natAbs (Zt (rs.getD (Int.toNat i) z0)))).length) (lm (Zb (Int.natAbs (Zt (rs.getD (Int.toNat i) z0)))))]:List AV)) (i64.wrap (i+1))):=(Za.go Xp 400 [.b true, .v (Z5 (rs.getD (Int.toNat i) z0)), .r (Zp (Zt (rs.getD (Int.toNat i) z0)))] [0,3,4,5] (ac c1 (ac n1 (ac (J1 n1) (ac n3 (ac (show List.length ([.bool (decide ((Zt (rs.getD (Int.toNat i) z0))<0)), .sl ((Zb (Int.natAbs (Zt (rs.getD (Int.toNat i) z0)))).length) (lm (Zb (Int.natAbs (Zt (rs.getD (Int.toNat i) z0)))))]:List AV)=1*2 from rfl) (ac n2 a0)))))))
theorem Zp5 (rs:List Rn) (n:Int) (k:Nat) (cs:List AV) (i:Int)  (c1:(decide (i<n))=false):Za Yir Zgp (Nx rs n k cs i) (.exit 2) (Nx rs n k cs i):=(Za.go Xp 400 [.b false] [0,3,4,5] (ac c1 a0))
theorem Yrun43 (rs:List Rn) (n i:Int) (k:Nat) (cs:List AV) (hl1:Za Yir (.loop Zbr) (Aw rs (rs.length:Int)) (.exit 0) (Aw rs n)) (hl2:Za Yir (.loop Zgp) (Nx rs n 0 ([]:List AV) 0) (.exit 2) (Nx rs n k cs i)):Zd Yir 43 [.sl rs.length (pc rs)] (.fresh 2 k cs):=Zd.of_bodyW (fn:=Yi43) (s:=(dds 2 (.own 2 k cs::(dds 32 [])))) (ex := .ret) rfl rfl (Za.seq (Za.go (t:=(vp rs::(dds 1 (.own 2 0 []::(dds 32 []))))) Xp 400 [] [0,2] a0) (Za.seq (Za.go Xp 400 [] [0,3] a0) (Za.seq (Za.block hl1) (Za.seq (Za.go (t:=(vp rs::(dds 2 (vi n::(.own 2 0 []::(dds 30 [])))))) Xp 400 [] [0,3,4] a0) (Za.seq (Za.seq (Za.go Xp 400 [] [0,3,4,5] a0) (Za.block hl2)) (Za.go Xp 400 [] [2] a0)))))) (by intro i e;cases e) rfl
theorem Zcz (rs:List Rn) (r:Rn):pc rs++([.bool r.1, .sl r.2.length (lm r.2)]:List AV)=pc (rs++[r]):=by rw [Bo];rfl
theorem Hs (g:Nat→Rn) (i:Nat):(List.range (i+1)).map g=(List.range i).map g++[g i]:=by rw [List.range_succ,List.map_append];rfl
theorem Zkd {rs:List Rn} (hg:∀ r∈rs,J4 1048576 r) (hN:rs.length≤1048576):∀ m,m≤rs.length→Za Yir (.loop Zbr) (Aw rs (m:Nat)) (.exit 0) (Aw rs (Zv (Zl rs) m:Nat)):=by
 intro m
 induction m with
 | zero=>intro _;exact Za.loop_out (Zp7 rs ((0:Nat):Int) (by simp)) (by intro e;cases e)
 | succ m ih =>
  intro hm
  have e1:i64.wrap (((m+1:Nat):Int)-1)=(m:Int):=by rw[w64 (by omega) (by omega)];omega
  obtain⟨g1,g2⟩:=Qb hg m
  have hs:=Bh (neg:=(rs.getD m z0).1) g1 g2
  simp only[Zv]
  rw[Q8]
  by_cases h0:Zt (rs.getD m z0)=0
  ·rw[if_pos h0]
   have k:=Zp9 rs ((m+1:Nat):Int) (by simp) (by rw[e1,Int.toNat_natCast,h0];rfl) (by rw[e1];omega) (by simp only[e1,Int.toNat_natCast];exact hs)
   rw[e1] at k
   exact Za.loop k (ih (by omega))
  ·rw[if_neg h0]
   exact Za.loop_out (Zp8 rs ((m+1:Nat):Int) (by simp) (by rw[e1,Int.toNat_natCast,beq_eq_false_iff_ne];unfold Vp; (repeat' split) <;> omega) (by rw[e1];omega) (by simp only[e1,Int.toNat_natCast];exact hs)) (by intro e;cases e)
theorem Zkc {rs:List Rn} (hg:∀ r∈rs,J4 1048576 r) (hN:rs.length≤1048576) (n:Nat) (hn:n≤rs.length) :
  Za Yir (.loop Zgp) (Nx rs (n:Nat) 0 [] 0) (.exit 2) (Nx rs (n:Nat) n (pc ((List.range n).map fun j=>cn (Zt (rs.getD j z0)))) (n:Nat)):=by
 refine Za.up (fun i=>Nx rs (n:Nat) i (pc ((List.range i).map fun j=>cn (Zt (rs.getD j z0)))) (i:Nat)) n (by intro e;cases e) ?_ ?_ 0 (Nat.zero_le _)
 ·intro i hi
  have ei:i64.wrap ((i:Int)+1)=((i+1:Nat):Int):=by rw[w64 (by omega) (by omega)];omega
  obtain⟨g1,g2⟩:=Qb hg i
  have k:=Zp6 rs (n:Nat) i (pc ((List.range i).map fun j=>cn (Zt (rs.getD j z0)))) (i:Nat) (by simp;omega) (by omega) (by omega) (by simp only[Int.toNat_natCast];exact Zcf g1 g2)
  refine k.to rfl ?_
  simp only[Int.toNat_natCast,ei]
  rw[Hs,← Zcz]
  rfl
 ·exact Zp5 rs (n:Nat) n _ (n:Nat) (by simp)
theorem Mg {rs:List Rn} (hg:∀ r∈rs,J4 1048576 r) (hN:rs.length≤1048576):Zd Yir 43 [.sl rs.length (pc rs)] (.fresh 2 (Ze (Zl rs)).length (pk (Ze (Zl rs)))):=by
 have hle:=We (Zl rs) rs.length
 have hlen:(Ze (Zl rs)).length=Zv (Zl rs) rs.length:=by rw[Un,Z3]
 have h:=Yrun43 rs _ _ _ _ (Zkd hg hN rs.length (Nat.le_refl _)) (Zkc hg hN _ hle)
 have e3:(List.range (Zv (Zl rs) rs.length)).map (fun j=>cn (Zt (rs.getD j z0)))=(Ze (Zl rs)).map cn:=by
  rw[← E9,hlen]
  apply List.map_congr_left
  intro i _
  rw[Jg,Q8]
 rw[e3,← hlen] at h
 exact h
theorem Zdv (e:Nat):Jh (e / 32+1) ((2:Int)^e):=by
 unfold Jh
 have h1:((2:Int)^e).natAbs=2^e:=by rw[Int.natAbs_pow];rfl
 have h2:(4294967296:Nat)^(e / 32+1)=2^(32*(e / 32+1)):=by rw[Nat.pow_mul]
 rw[h1,h2]
 exact Nat.pow_lt_pow_right (by decide) (by omega)
end Go.Proofs.Ythnnfemologhfaa
